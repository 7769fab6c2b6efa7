/- Functions that are handed objects, or answer some. -/
import Derived.Test.YtflahpmlcfhpcaaGreatDoorTvR
namespace Go.Tv
open Go Go.RowKit
def Q4(h:Nat→Option Obj):List AVal→List (Option Ty)→Option (List AVal×gR)
 | [],[]=>some ([],[])
 | x::xs,some T::Ts=>if(cellsOf x).all AVal.cell && j3 T x then match toT T h x with
  | some (y,u)=>match Q4 (apply u h) xs Ts with
   | some (ys,us)=>some (enc false T y::ys,u++us)
   | none=>none
  | none=>none
  else none
 | x::xs,none::Ts=>match Q4 h xs Ts with
  | some (ys,us)=>some (x::ys,us)
  | none=>none
 | _,_=>none
def aDL(tb:Tab)(rs:List ResultVar)(Ts:List (Option Ty))(hout:List (Nat×Obj))(σ:St):Option (AVal×List (Option Obj)) :=
 match w4 tb σ.s σ.h rs with
 | some xs=>match Q4 σ.h xs Ts with
  | some (ys,u)=>some (aU ys,hout.map (fun p=>apply u σ.h p.1))
  | none=>none
 | none=>none
def RetO(tb:Tab)(n:NS)(rs:List ResultVar)(r:AVal)(hout:List (Nat×Obj))(e:Exit)(σ:St):Prop :=
 (e = .ret∨e = .normal)∧∃Ts σ1,Le n σ σ1∧aDL tb rs Ts hout σ1=some (r,hout.map (fun p=>some p.2))
def aFP(tb:Tab)(n:NS)(rs:List ResultVar):(AVal×List (Nat×Obj))⊕Value→Exit→St→Prop
 | .inl p=>RetO tb n rs p.1 p.2
 | .inr x=>fun e _=>e = .panic [{ v:=x,recovered:=false }]
def jL{A E:Type}(g:A→AVal×List (Nat×Obj))(f:E→Value):A⊕E→(AVal×List (Nat×Obj))⊕Value
 | .inl x=> .inl (g x)
 | .inr e=> .inr (f e)
def aY(t:TypeId)(k1 k2:IntKind)(e:Int×Int):Value:= .iface t (.agg #[.int k1 e.1,.int k2 e.2])
abbrev C3(f:FuncId):Value:= .func (.func f) #[] #[]
/-! Short names,for the printed walks. -/
abbrev AVal.i64(x:Int):AVal:= .p false (.int .i64) x
abbrev AVal.i32(x:Int):AVal:= .p false (.int .i32) x
abbrev AVal.u32(x:Int):AVal:= .p false (.int .u32) x
abbrev AVal.u64(x:Int):AVal:= .p false (.int .u64) x
abbrev AVal.u8(x:Int):AVal:= .p false (.int .u8) x
abbrev AVal.st(x:List UInt8):AVal:= .p false .str x
abbrev AVal.bo(x:Bool):AVal:= .p false .bool x
def xC(args:List AVal)(hin:List (Nat×Obj)):St:=⟨fun t=>(args[t]?).getD .unk,fun i=>cK hin i,hin.length,hin.length⟩
section
variable{P:Program}{tb:Tab}{n:NS}{Bw:Nat→Prop}{w0:Base P}{w:World}{σ:St}{ρ:Nat→Option Value}{φ:Nat→Nat→Prop}{h:Nat→Option Obj}
theorem RetO.normal{rs:List ResultVar}{r:AVal}{hout:List (Nat×Obj)}(h:RetO tb n rs r hout .ret σ):∀σ',Le n σ' σ→RetO tb n rs r hout .normal σ':=fun _ hle =>
 ⟨.inr rfl,h.2.elim fun Ts q=>q.elim fun σ1 q=>⟨Ts,σ1,hle.trans q.1,q.2⟩⟩
theorem aT{rs:List ResultVar}{r:AVal}{hout:List (Nat×Obj)}(Ts:List (Option Ty))(gs:List G)(f:List Nat)(l:List (Nat×AVal))(m:List (Nat×Obj))(nx pn:Nat)
  (h1:H4 gs f l m σ=some (y7 f l m)) (hok:(σ.pn == pn && lL (fnL f) l m nx pn)=true) (h2:aDL tb rs Ts hout (aM l m nx pn)=some (r,hout.map (fun p=>some p.2))):RetO tb n rs r hout .ret σ :=
 ⟨.inl rfl,Ts,_,xB h1 hok,h2⟩
theorem aEo{F:Bool→Addr→Value→Prop}{T:Ty}{y:T.den}{x:AVal}{v:Value}(hc:(cellsOf x).all AVal.cell=true)(hs:j3 T x=true)(hx:V F ρ x v){F':Bool→Addr→Value→Prop}{ρ':Nat→Option Value}
  (hy:Vcells (F' false) T y (fun k u=>v.cells.toList[k]? = some u)) (hl:T.size=(cellsOf x).length):V F' ρ' (enc false T y) v:=by
 by_cases hagg:∃cs,x = .agg cs
 ·obtain⟨cs,rfl⟩:=hagg
  have hx1:=hx
  simp only[V]at hx1
  obtain⟨us,rfl,e2,e3⟩:=hx1
  have hsc:T.scalar=false:=by simpa [j3]using hs
  simp only[enc,hsc]
  simp only[Bool.false_eq_true,if_false,V]
  refine⟨us,rfl,?_,iP false T y _ (Vcells.mono (fun _ _ h=>h) (fun k u hk=>by simpa [Value.cells]using hk) hy)⟩
  rw[dQ,hl,e2]
  rfl
 ·have hcell:cellsOf x=[x]:=by
   cases x <;> first | rfl | exact(hagg ⟨_,rfl⟩).elim | cases hs
  have hsc:T.scalar=true:=by
   cases x <;> first | exact hs | exact(hagg ⟨_,rfl⟩).elim | cases hs
  rw[hcell]at hc
  simp only[List.all_cons,List.all_nil,Bool.and_true]at hc
  have hv1:=g8 (tJ hc hx)
  simp only[enc,hsc,if_true,V]
  refine⟨trivial,?_⟩
  rw[hv1]at hy
  refine Vcells.monoLt (fun k u hk hu=> ?_) hy
  rw[Ty.size_scalar hsc]at hk
  obtain rfl:k=0:=by omega
  simp at hu
  exact hu.symm
theorem sM:∀ {xs:List AVal} {Ts:List (Option Ty)} {h:Nat→Option Obj} {ys:List AVal} {us:gR},Mem Bw w0 ρ φ h w→Q4 h xs Ts=some (ys,us) →
  Mem Bw w0 ρ φ (apply us h) w∧(∀β a v,Fr (own φ h) Bw w β a v→Fr (own φ (apply us h)) Bw w β a v)∧∀vs,VVs (Fr (own φ h) Bw w) ρ xs vs→VVs (Fr (own φ (apply us h)) Bw w) ρ ys vs
 | [],[],h,ys,us,m,hd=>by
  cases hd
  exact⟨m,fun _ _ _ h=>h,fun _ h=>h⟩
 | x::xs,some T::Ts,h,ys,us,m,hd=>by
  simp only[Q4]at hd
  split at hd
  ·rename_i hc
   split at hd
   ·rename_i y u h1
    split at hd
    ·rename_i ys' us' h2
     cases hd
     obtain⟨m1,f1,g1⟩:=mP m h1
     obtain⟨m2,f2,g2⟩:=sM m1 h2
     simp only[Bool.and_eq_true]at hc
     rw[fU]
     refine⟨m2,fun β a v hh=>f2 _ _ _ (f1 _ _ _ hh),fun vs hv=> ?_⟩
     cases vs with
     | nil=>exact hv.elim
     | cons v vs =>
      obtain⟨r1,r2,r3⟩:=eW hc.1 hv.1
      obtain⟨s1,s2⟩:=g1 _ r1
      exact⟨aEo hc.1 hc.2 hv.1 (Vcells.mono (f2 false) (fun _ _ h=>h) s1) s2,g2 vs (VVs.mono f1 (fun _ _ h=>h) hv.2)⟩
    ·cases hd
   ·cases hd
  ·cases hd
 | x::xs,none::Ts,h,ys,us,m,hd=>by
  simp only[Q4]at hd
  split at hd
  ·rename_i ys' us' h2
   cases hd
   obtain⟨m2,f2,g2⟩:=sM m h2
   refine⟨m2,f2,fun vs hv=> ?_⟩
   cases vs with
   | nil=>exact hv.elim
   | cons v vs=>exact⟨V.mono f2 (fun _ _ h=>h) hv.1,g2 vs hv.2⟩
  ·cases hd
 | [],_::_,_,_,_,_,hd=>by simp[Q4]at hd
 | _::_,[],_,_,_,_,hd=>by simp[Q4]at hd
theorem aAn{α:Type}{f:Nat→α}{g:Obj→α}:∀ {l:List (Nat×Obj)},l.map (fun p=>f p.1)=l.map (fun p=>g p.2)→∀p∈l,f p.1=g p.2
 | [],_,p,hp=>by cases hp
 | q::l,h,p,hp=>by
  simp only[List.map_cons,List.cons.injEq]at h
  rcases List.mem_cons.1 hp with rfl | hp
  ·exact h.1
  ·exact aAn h.2 p hp
theorem aC1{F:Bool→Addr→Value→Prop}{ys:List AVal}{vs:List Value}(h:VVs F ρ ys vs):V F ρ (aU ys) (if h:vs.toArray.size=1 then vs.toArray[0]else .tuple vs.toArray):=by
 have hv2:=(hJ h).1
 match ys,vs,h with
 | [],[],_=>simp only[aU,V];exact⟨#[],rfl,rfl,by simp only[VL]⟩
 | [y],[v],r3=>exact r3.1
 | y::y'::ys,v::v'::vs,r3 =>
  have:¬((v::v'::vs).toArray.size=1):=by simp
  rw[dif_neg this]
  simp only[aU,V]
  refine⟨_,rfl,by simpa using hv2.symm,VL.mk fun k x hk=> ?_⟩
  have:=(hJ r3).2 k
  rw[hk]at this
  have hk':k<(v::v'::vs).length:=by rw[←hv2];exact(List.getElem?_eq_some_iff.1 hk).1
  rw[List.getElem?_eq_getElem hk']at this
  exact⟨_,by simp[hk'],this⟩
theorem Owns.of_body{f:FuncId}{fn:Func}{c:Code}(htb:TabOK P tb)(hf:P.funcs[f]? = some fn)(hname:(fn.name == "runtime.NumGoroutine")=false)(hb:fn.body=some c){args:List AVal}(hlen:args.length≤fn.ntmps)
  {hin hout:List (Nat×Obj)} {r:AVal} (h:∀Bw w0,W P fn.ntmps Bw w0 c (xC args hin) (RetO tb fn.ntmps fn.results.toList r hout)):Owns P f args hin r hout:=by
 refine⟨⟨fn,hf,hname,by rw[hb];rfl⟩,fun Bw b φ us m hargs hpin=>calls_of_wp hf hb ?_⟩
 obtain⟨hl,hg⟩:=hJ hargs
 have hR:R fn.ntmps Bw b (xC args hin) { tmps:=us++Array.replicate (fn.ntmps - us.size) undef,defers:=[] } b.w:=by
  refine⟨⟨b.pin,φ,m,⟨?_,rfl,fun t=> ?_⟩,fun id u hu=>hpin id u hu⟩,fun i u h=>hpin i u h⟩
  ·have:us.size=args.length:=by rw[hl,Array.length_toList]
   simp only[Array.size_append,Array.size_replicate]
   omega
  ·have hv:=hg t
   simp only[xC]
   rcases Nat.lt_or_ge t us.size with q | q
   ·have e:(us++Array.replicate (fn.ntmps - us.size) undef).getD t undef=(us.toList[t]?).getD undef:=by
     simp[Array.getD_eq_getD_getElem?,Array.getElem?_append,q]
    rw[e]
    exact hv
   ·have:args[t]? = none:=List.getElem?_eq_none (by rw[hl,Array.length_toList];exact q)
    rw[this]
    simp only[Option.getD_none,V]
 refine wp_mono (h Bw b _ _ hR) fun e a' w' ⟨σ',hR',he,Ts,σ1,hle,hq⟩=> ?_
 have key:a'.defers=[]∧∃v,(results fn a'.tmps).run P w' = .ok v w' ∧
   ∃v2 ρ' φ',Ending.returned v = .returned v2∧Mem Bw b ρ' φ' (fun i=>cK hout i) w'∧V (Fr (own φ' (fun i=>cK hout i)) Bw w') ρ' r v2:=by
  obtain⟨ρ,φ',q1,q2,_⟩:=(hle _ Bw b a' w' hR').ex
  unfold aDL at hq
  split at hq
  ·rename_i xs hxs
   split at hq
   ·rename_i ys u hfin
    simp only[Option.some.injEq,Prod.mk.injEq]at hq
    obtain⟨rfl,hq⟩:=hq
    obtain⟨vs,r1,r2⟩:=gW (P:=P) htb q1 q2 hxs
    obtain⟨m1,f1,g1⟩:=sM q1 hfin
    have hsub:∀i o,cK hout i=some o→apply u σ1.h i=some o:=fun i o e=>aAn (f:=fun i=>apply u σ1.h i) (g:=fun o=>some o) hq _ (mE e)
    obtain⟨m2,f2⟩:=m1.less hsub
    have r4:=kG (P:=P) _ fn.results w' r1
    refine⟨q2.df,(if h:vs.toArray.size=1 then vs.toArray[0]else .tuple vs.toArray),?_,_,ρ,φ',rfl,m2,?_⟩
    ·unfold results
     rw[Sem.run_bind]
     exact(congrArg (fun r=>Result.andThen r (fun a w'=>Sem.run P (pure (if h:a.size=1 then a[0]else Value.tuple a)) w')) r4).trans rfl
    ·exact aC1 (VVs.mono f2 (fun _ _ h=>h) (g1 vs r2))
   ·cases hq
  ·cases hq
 rcases he with rfl | rfl
 ·exact key
 ·exact key
theorem Dies.of_body{f:FuncId}{fn:Func}{c:Code}(hf:P.funcs[f]? = some fn)(hname:(fn.name == "runtime.NumGoroutine")=false)(hb:fn.body=some c){args:List AVal}(hlen:args.length≤fn.ntmps)
  {hin:List (Nat×Obj)} {x:Value} (h:∀Bw w0,W P fn.ntmps Bw w0 c (xC args hin) (fun e _=>e = .panic [{ v:=x,recovered:=false }])):Dies P f args hin x:=by
 refine⟨⟨fn,hf,hname,by rw[hb];rfl⟩,fun Bw b φ us m hargs hpin=>calls_of_wp hf hb ?_⟩
 obtain⟨hl,hg⟩:=hJ hargs
 have hR:R fn.ntmps Bw b (xC args hin) { tmps:=us++Array.replicate (fn.ntmps - us.size) undef,defers:=[] } b.w:=by
  refine⟨⟨b.pin,φ,m,⟨?_,rfl,fun t=> ?_⟩,fun id u hu=>hpin id u hu⟩,fun i u h=>hpin i u h⟩
  ·have:us.size=args.length:=by rw[hl,Array.length_toList]
   simp only[Array.size_append,Array.size_replicate]
   omega
  ·have hv:=hg t
   simp only[xC]
   rcases Nat.lt_or_ge t us.size with q | q
   ·have e:(us++Array.replicate (fn.ntmps - us.size) undef).getD t undef=(us.toList[t]?).getD undef:=by
     simp[Array.getD_eq_getD_getElem?,Array.getElem?_append,q]
    rw[e]
    exact hv
   ·have:args[t]? = none:=List.getElem?_eq_none (by rw[hl,Array.length_toList];exact q)
    rw[this]
    simp only[Option.getD_none,V]
 refine wp_mono (h Bw b _ _ hR) fun e a' w' ⟨σ',hR',he⟩=> ?_
 subst he
 obtain⟨ρ,φ',q1,q2,_⟩:=hR'.ex
 exact⟨q2.df,ρ,φ',rfl,(q1.less (fun i o e=>(by cases e))).1⟩
theorem Dies.of_calls{f:FuncId}{fn:Func}(hf:P.funcs[f]? = some fn)(hname:(fn.name == "runtime.NumGoroutine")=false)(hb:fn.body.isNone=false){y0:AVal}{β1 β2:Bool}{k1 k2:IntKind}{e a:Int}{hin:List (Nat×Obj)}{x:Value}
  (h:∀v w,Calls P f #[v,.int k1 e,.int k2 a] w fun r w'=>r = .panicked [{ v:=x,recovered:=false }]∧w'=w):Dies P f [y0,.p β1 (.int k1) e,.p β2 (.int k2) a] hin x:=by
 refine⟨⟨fn,hf,hname,hb⟩,fun Bw b φ us m hargs hpin=> ?_⟩
 match hus:us.toList,hargs with
 | [v0,v1,v2],hargs =>
  have e1:=cC hargs.2.1
  have e2:=cC hargs.2.2.1
  subst e1 e2
  have:us = #[v0,.int k1 e,.int k2 a]:=Array.ext' hus
  subst this
  exact(h v0 b.w).mono fun r w' ⟨h1,h2⟩=>⟨b.pin,φ,h1,by subst h2;exact(m.less (fun i o e=>(by cases e))).1⟩
theorem Does.of_body{f:FuncId}{fn:Func}{c:Code}(htb:TabOK P tb)(hf:P.funcs[f]? = some fn)(hname:(fn.name == "runtime.NumGoroutine")=false)(hb:fn.body=some c){args:List AVal}(hlen:args.length≤fn.ntmps)
  {hin:List (Nat×Obj)} {res:(AVal×List (Nat×Obj))⊕Value} (h:∀Bw w0,W P fn.ntmps Bw w0 c (xC args hin) (aFP tb fn.ntmps fn.results.toList res)):Does P f args hin res:=by
 cases res with
 | inl p=>exact Owns.of_body htb hf hname hb hlen h
 | inr x=>exact Dies.of_body hf hname hb hlen h
def U1{T:Type}(tb:Tab)(n:NS)(rs:List ResultVar)(g:T→AVal×List (Nat×Obj))(v:T)(e:Exit)(σ:St):Prop:=e = .ret∧RetO tb n rs (g v).1 (g v).2 .ret σ
theorem E9{T:Type}{rs:List ResultVar}{g:T→AVal×List (Nat×Obj)}{v:T}(h:RetO tb n rs (g v).1 (g v).2 .ret σ):U1 tb n rs g v .ret σ:=⟨rfl,h⟩
end
end Go.Tv
