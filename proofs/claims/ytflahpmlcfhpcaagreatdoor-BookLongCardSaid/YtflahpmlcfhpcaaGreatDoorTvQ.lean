/- Functions: what they answer. -/
import Derived.Test.YtflahpmlcfhpcaaGreatDoorTvP
namespace Go.Tv
open Go Go.RowKit
def bN(β:Bool):List (Σ T:Ty,T.den)→List AVal
 | []=>[]
 | ⟨T,x⟩::r=>enc β T x::bN β r
def aU:List AVal→AVal
 | [x]=>x
 | xs=> .tup xs
def w4(tb:Tab)(s:Nat→AVal)(h:Nat→Option Obj):List ResultVar→Option (List AVal)
 | []=>some []
 | .tmp t::r=>match w4 tb s h r with
  | some xs=>some (s t::xs)
  | none=>none
 | .cell a t::r=>match s a with
  | .adr id i sz off=>match h id with
   | some (.box cs)=>match tb.find t with
    | some ti=>match hU ti cs (i*sz+off)with
     | some x=>match w4 tb s h r with
      | some xs=>some (x::xs)
      | none=>none
     | none=>none
    | none=>none
   | _=>none
  | _=>none
def nC(h:Nat→Option Obj):List AVal→List Ty→Option (List (Σ T:Ty,T.den))
 | [],[]=>some []
 | x::xs,T::Ts=>if(cellsOf x).all AVal.cell && j3 T x then match toT T h x with
  | some (y,u)=>match nC (apply u h) xs Ts with
   | some ys=>some (⟨T,y⟩::ys)
   | none=>none
  | none=>none
  else none
 | _,_=>none
def Ret(tb:Tab)(rs:List ResultVar)(vals:List (Σ T:Ty,T.den)):Exit→St→Prop
 | .normal,σ=>∃xs Ts,w4 tb σ.s σ.h rs=some xs∧nC σ.h xs Ts=some vals
 | .ret,σ=>∃xs Ts,w4 tb σ.s σ.h rs=some xs∧nC σ.h xs Ts=some vals
 | _,_=>False
def oJ(args:List AVal):St:=⟨fun t=>(args[t]?).getD .unk,fun _=>none,0,0⟩
section
variable{P:Program}{tb:Tab}{n:NS}{Bw:Nat→Prop}{w0:Base P}{w:World}{ρ:Nat→Option Value}{φ:Nat→Nat→Prop}{s:Nat→AVal}{h:Nat→Option Obj}{a:Act}
theorem gW(htb:TabOK P tb)(m:Mem Bw w0 ρ φ h w)(hs:Slots n (Fr (own φ h) Bw w) ρ s a):∀ {rs:List ResultVar} {xs:List AVal},w4 tb s h rs=some xs →
  ∃vs,(rs.mapM (fun r:ResultVar=>(match r with | .tmp t=>pure (a.tmps.getD t undef) | .cell ad t=>(do loadVar t (←asAddr (a.tmps.getD ad undef)):Sem Value)))).run P w = .ok vs w∧VVs (Fr (own φ h) Bw w) ρ xs vs
 | [],xs,hr=>by cases hr;exact⟨[],rfl,trivial⟩
 | .tmp t::r,xs,hr=>by
  simp only[w4]at hr
  split at hr
  ·rename_i xs' h1
   cases hr
   obtain⟨vs,q1,q2⟩:=gW htb m hs h1
   refine⟨a.tmps.getD t undef::vs,?_,hs.sl t,q2⟩
   rw[List.mapM_cons,Sem.run_bind]
   simp only[Sem.run_pure,Result.andThen_ok,Sem.run_bind,q1]
  ·cases hr
 | .cell ad t::r,xs,hr=>by
  simp only[w4]at hr
  split at hr
  ·rename_i id i sz off e
   split at hr
   ·rename_i cs hi
    split at hr
    ·rename_i ti ht
     split at hr
     ·rename_i x hx
      split at hr
      ·rename_i xs' h1
       cases hr
       obtain⟨vs,q1,q2⟩:=gW htb m hs h1
       have hv:=hs.sl ad
       rw[e]at hv
       obtain⟨b,e1,e2⟩:=rL m hv (cs:=cs) (off:=i*sz+off) (c:=True) (by simp only[lC,hi]) trivial
       obtain⟨v,r1,r2⟩:=gJ (P:=P) (htb.find ht) e2 hx
       refine⟨v::vs,?_,r2,q2⟩
       rw[List.mapM_cons,Sem.run_bind]
       simp only[e1,asAddr,Sem.run_bind,Sem.run_pure,Result.andThen_ok,r1]
       simp only[asAddr]at q1
       rw[q1]
       rfl
      ·cases hr
     ·cases hr
    ·cases hr
   ·cases hr
  ·cases hr
theorem nQ:∀ {xs:List AVal} {Ts:List Ty} {h:Nat→Option Obj} {vals:List (Σ T:Ty,T.den)} {vs:List Value},Mem Bw w0 ρ φ h w→nC h xs Ts=some vals→VVs (Fr (own φ h) Bw w) ρ xs vs →
  VVs (fun _=>Fr fG Bw w false) iZ (bN false vals) vs
 | [],[],h,vals,vs,_,hv,hx=>by
  cases hv
  cases vs with
  | nil=>trivial
  | cons _ _=>exact hx.elim
 | x::xs,T::Ts,h,vals,vs,m,hv,hx=>by
  simp only[nC]at hv
  split at hv
  ·rename_i hc
   split at hv
   ·rename_i y u h1
    split at hv
    ·rename_i ys h2
     cases hv
     cases vs with
     | nil=>exact hx.elim
     | cons v vs =>
      obtain⟨m',f1,g1⟩:=mP m h1
      simp only[Bool.and_eq_true]at hc
      obtain⟨hc1,hc2⟩:=hc
      obtain⟨r1,r2,r3⟩:=eW hc1 hx.1
      obtain⟨s1,s2⟩:=g1 _ r1
      refine⟨?_,nQ m' h2 (VVs.mono f1 (fun _ _ h=>h) hx.2)⟩
      have s1':Vcells (Fr fG Bw w false) T y (fun k u=>v.cells.toList[k]? = some u):=Vcells.mono (fun a u hh=>⟨fun e=>e,hh.2⟩) (fun _ _ h=>h) s1
      by_cases hagg:∃cs,x = .agg cs
      ·obtain⟨cs,rfl⟩:=hagg
       have hx1:=hx.1
       simp only[V]at hx1
       obtain⟨us,rfl,e2,e3⟩:=hx1
       have hsc:T.scalar=false:=by simpa [j3]using hc2
       simp only[enc,hsc]
       simp only[Bool.false_eq_true,if_false,V]
       refine⟨us,rfl,?_,iP false T y _ (Vcells.mono (fun _ _ h=>h) (fun k u hk=>by simpa [Value.cells]using hk) s1')⟩
       rw[dQ,s2,e2]
       rfl
      ·have hcell:cellsOf x=[x]:=by
        cases x <;> first | rfl | exact(hagg ⟨_,rfl⟩).elim | cases hc2
       have hsc:T.scalar=true:=by
        cases x <;> first | exact hc2 | exact(hagg ⟨_,rfl⟩).elim | cases hc2
       rw[hcell]at hc1
       simp only[List.all_cons,List.all_nil,Bool.and_true]at hc1
       have hv1:=g8 (tJ hc1 hx.1)
       simp only[enc,hsc,if_true,V]
       refine⟨trivial,?_⟩
       rw[hv1]at s1'
       refine Vcells.monoLt (fun k u hk hu=> ?_) s1'
       rw[Ty.size_scalar hsc]at hk
       obtain rfl:k=0:=by omega
       simp at hu
       exact hu.symm
    ·cases hv
   ·cases hv
  ·cases hv
 | [],_::_,_,_,_,_,hv,_=>by cases hv
 | _::_,[],_,_,_,_,hv,_=>by cases hv
theorem hJ{F:Bool→Addr→Value→Prop}:∀ {xs:List AVal} {vs:List Value},VVs F ρ xs vs→xs.length=vs.length∧∀t:Nat,V F ρ ((xs[t]?).getD .unk) ((vs[t]?).getD undef)
 | [],[],_=>⟨rfl,fun t=>by simp only[List.getElem?_nil,Option.getD_none,V]⟩
 | x::xs,v::vs,h=>by
  obtain⟨h1,h2⟩:=hJ h.2
  refine⟨by simp[h1],fun t=> ?_⟩
  cases t with
  | zero=>exact h.1
  | succ t=>simpa using h2 t
 | [],_::_,h=>h.elim
 | _::_,[],h=>h.elim
theorem kG{α β:Type}(f:α→Sem β)(l:Array α)(w:World){vs:List β}(h:(l.toList.mapM f).run P w = .ok vs w):(l.mapM f).run P w = .ok vs.toArray w:=by
 rw[Array.mapM_eq_mapM_toList,Sem.run_map,h]
 rfl
def aAj:Nat→Nat→Prop:=fun _ _=>False
theorem Pure.of_body{f:FuncId}{fn:Func}{c:Code}(htb:TabOK P tb)(hf:P.funcs[f]? = some fn)(hname:(fn.name == "runtime.NumGoroutine")=false)(hb:fn.body=some c){args:List AVal}(hlen:args.length≤fn.ntmps)
  {vals:List (Σ T:Ty,T.den)} (h:∀Bw w0,W P fn.ntmps Bw w0 c (oJ args) (Ret tb fn.results.toList vals)) (hid:oK args=true):Pure P f args (aU (bN false vals)):=by
 refine⟨⟨fn,hf,hname,by rw[hb];rfl⟩,fun Bw w us hld hbw hargs=>calls_of_wp hf hb ?_⟩
 have hF0:∀β a v,Fr fG Bw w β a v→Fr (own aAj (oJ args).h) Bw w β a v:=fun β a v hh=>⟨fun⟨_,_,_,_,h3⟩=>h3,hh.2⟩
 obtain⟨hl,hg⟩:=hJ hargs
 have hR:R fn.ntmps Bw (l0 hld) (oJ args) { tmps:=us++Array.replicate (fn.ntmps - us.size) undef,defers:=[] } w:=by
  refine⟨⟨iZ,aAj,⟨fun id o h=>(by cases h),fun id o k h=>(by cases h),fun id id' o o' k h1=>(by cases h1),hbw,fun k ⟨_,_,_,_,h3⟩=>h3.elim,Kept.refl _,fun i u h=>(by cases h)⟩,⟨?_,rfl,fun t=> ?_⟩,fun id u hu=>(by cases hu)⟩,fun i u h=>(by cases h)⟩
  ·have:us.size=args.length:=by rw[hl,Array.length_toList]
   simp only[Array.size_append,Array.size_replicate]
   omega
  ·have hv:=V.mono hF0 (fun _ _ h=>h) (hg t)
   simp only[oJ]
   rcases Nat.lt_or_ge t us.size with q | q
   ·have e:(us++Array.replicate (fn.ntmps - us.size) undef).getD t undef=(us.toList[t]?).getD undef:=by
     simp[Array.getD_eq_getD_getElem?,Array.getElem?_append,q]
    rw[e]
    exact hv
   ·have:args[t]? = none:=List.getElem?_eq_none (by rw[hl,Array.length_toList];exact q)
    rw[this]
    simp only[Option.getD_none,V]
 refine wp_mono (h Bw (l0 hld) _ _ hR) fun e a' w' ⟨σ',hR',hq⟩=> ?_
 have key:∀xs Ts,w4 tb σ'.s σ'.h fn.results.toList=some xs→nC σ'.h xs Ts=some vals→a'.defers=[]∧∃v,(results fn a'.tmps).run P w' = .ok v w' ∧
   ∃v',Ending.returned v = .returned v'∧Below w.heap.size w w'∧V (fun _=>Fr fG Bw w' false) iZ (aU (bN false vals)) v':=fun xs Ts h1 h2=>by
  obtain⟨ρ,φ,q1,q2,_⟩:=hR'.ex
  obtain⟨vs,r1,r2⟩:=gW (P:=P) htb q1 q2 h1
  have r3:=nQ q1 h2 r2
  have r4:=kG (P:=P) _ fn.results w' r1
  refine⟨q2.df,(if h:vs.toArray.size=1 then vs.toArray[0]else .tuple vs.toArray),?_,_,rfl,q1.kp.below,?_⟩
  ·unfold results
   rw[Sem.run_bind]
   exact(congrArg (fun r=>Result.andThen r (fun a w'=>Sem.run P (pure (if h:a.size=1 then a[0]else Value.tuple a)) w')) r4).trans rfl
  ·have hv2:=(hJ r3).1
   generalize bN false vals=ys at r3 hv2 ⊢
   match ys,vs,r3 with
   | [],[],_=>simp only[aU,V];exact⟨#[],rfl,rfl,by simp only[VL]⟩
   | [y],[v],r3=>exact r3.1
   | y::y'::ys,v::v'::vs,r3 =>
    have:¬((v::v'::vs).toArray.size=1):=by simp
    rw[dif_neg this]
    simp only[aU,V]
    refine⟨_,rfl,by simpa using hv2.symm,VL.mk fun k x hk=> ?_⟩
    have:=(hJ r3).2 k
    rw[hk]at this
    have hk':k<(v::v'::vs).length:=by rw[←hv2];exact(List.getElem?_eq_some_iff.1 hk).1
    rw[List.getElem?_eq_getElem hk']at this
    exact⟨_,by simp[hk'],this⟩
 cases e with
 | normal =>
  obtain⟨xs,Ts,h1,h2⟩:=hq
  exact key xs Ts h1 h2
 | ret =>
  obtain⟨xs,Ts,h1,h2⟩:=hq
  exact key xs Ts h1 h2
 | exit _=>exact hq.elim
 | goto _=>exact hq.elim
 | panic _=>exact hq.elim
 | outgrown=>exact hq.elim
end
end Go.Tv
