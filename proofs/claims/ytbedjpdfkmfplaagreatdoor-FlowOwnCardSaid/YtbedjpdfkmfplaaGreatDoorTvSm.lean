/- Functions that are handed objects, or answer some. -/
import Derived.Test.YtbedjpdfkmfplaaGreatDoorTvR
namespace Go.Tv
open Go Go.RowKit
def aDh(h:Nat→Option Obj):List AVal→List (Option Ty)→Option (List AVal×jJ)
 | [],[]=>some ([],[])
 | x::xs,some T::Ts=>if(cellsOf x).all AVal.cell && mJ T x then match toT T h x with
  | some (y,u)=>match aDh (apply u h) xs Ts with
   | some (ys,us)=>some (enc false T y::ys,u++us)
   | none=>none
  | none=>none
  else none
 | x::xs,none::Ts=>match aDh h xs Ts with
  | some (ys,us)=>some (x::ys,us)
  | none=>none
 | _,_=>none
def aJA(tb:Tab)(rs:List ResultVar)(Ts:List (Option Ty))(hout:List (Nat×Obj))(σ:St):Option (AVal×List (Option Obj)) :=
 match L7 tb σ.s σ.h rs with
 | some xs=>match aDh σ.h xs Ts with
  | some (ys,u)=>some (aX ys,hout.map (fun p=>apply u σ.h p.1))
  | none=>none
 | none=>none
def RetO(tb:Tab)(n:NS)(rs:List ResultVar)(r:AVal)(hout:List (Nat×Obj))(e:Exit)(σ:St):Prop :=
 (e = .ret∨e = .normal)∧∃Ts σ1,Le n σ σ1∧aJA tb rs Ts hout σ1=some (r,hout.map (fun p=>some p.2))
def aLy(tb:Tab)(n:NS)(rs:List ResultVar):(AVal×List (Nat×Obj))⊕Value→Exit→St→Prop
 | .inl p=>RetO tb n rs p.1 p.2
 | .inr x=>fun e _=>e = .panic [{ v:=x,recovered:=false }]
def l0{A E:Type}(g:A→AVal×List (Nat×Obj))(f:E→Value):A⊕E→(AVal×List (Nat×Obj))⊕Value
 | .inl x=> .inl (g x)
 | .inr e=> .inr (f e)
def bC(t:TypeId)(k1 k2:IntKind)(e:Int×Int):Value:= .iface t (.agg #[.int k1 e.1,.int k2 e.2])
abbrev fnV(f:FuncId):Value:= .func (.func f) #[] #[]
/-! Short names,for the printed walks. -/
abbrev AVal.i64(x:Int):AVal:= .p false (.int .i64) x
abbrev AVal.i32(x:Int):AVal:= .p false (.int .i32) x
abbrev AVal.u32(x:Int):AVal:= .p false (.int .u32) x
abbrev AVal.u64(x:Int):AVal:= .p false (.int .u64) x
abbrev AVal.u8(x:Int):AVal:= .p false (.int .u8) x
abbrev AVal.st(x:List UInt8):AVal:= .p false .str x
abbrev AVal.bo(x:Bool):AVal:= .p false .bool x
def R0(args:List AVal)(hin:List (Nat×Obj)):St:=⟨fun t=>(args[t]?).getD .unk,fun i=>dL hin i,hin.length,hin.length⟩
section
variable{P:Program}{tb:Tab}{n:NS}{Bw:Nat→Prop}{w0:Base P}{w:World}{σ:St}{ρ:Nat→Option Value}{φ:Nat→Nat→Prop}{h:Nat→Option Obj}
theorem RetO.normal{rs:List ResultVar}{r:AVal}{hout:List (Nat×Obj)}(h:RetO tb n rs r hout .ret σ):∀σ',Le n σ' σ→RetO tb n rs r hout .normal σ':=fun _ hle =>
 ⟨.inr rfl,h.2.elim fun Ts q=>q.elim fun σ1 q=>⟨Ts,σ1,hle.trans q.1,q.2⟩⟩
theorem aR{rs:List ResultVar}{r:AVal}{hout:List (Nat×Obj)}(Ts:List (Option Ty))(gs:List G)(f:List Nat)(l:List (Nat×AVal))(m:List (Nat×Obj))(nx pn:Nat)
  (h1:aBs gs f l m σ=some (sY f l m)) (hok:(σ.pn == pn && o8 (fnL f) l m nx pn)=true) (h2:aJA tb rs Ts hout (aM l m nx pn)=some (r,hout.map (fun p=>some p.2))):RetO tb n rs r hout .ret σ :=
 ⟨.inl rfl,Ts,_,M6 h1 hok,h2⟩
theorem aKt{F:Bool→Addr→Value→Prop}{T:Ty}{y:T.den}{x:AVal}{v:Value}(hc:(cellsOf x).all AVal.cell=true)(hs:mJ T x=true)(hx:V F ρ x v){F':Bool→Addr→Value→Prop}{ρ':Nat→Option Value}
  (hy:Vcells (F' false) T y (fun k u=>v.cells.toList[k]? = some u)) (hl:T.size=(cellsOf x).length):V F' ρ' (enc false T y) v:=by
 by_cases hagg:∃cs,x = .agg cs
 ·obtain⟨cs,rfl⟩:=hagg
  have hx1:=hx
  simp only[V]at hx1
  obtain⟨us,rfl,e2,e3⟩:=hx1
  have hsc:T.scalar=false:=by simpa [mJ]using hs
  simp only[enc,hsc]
  simp only[Bool.false_eq_true,if_false,V]
  refine⟨us,rfl,?_,lA false T y _ (Vcells.mono (fun _ _ h=>h) (fun k u hk=>by simpa [Value.cells]using hk) hy)⟩
  rw[fJ,hl,e2]
  rfl
 ·have hcell:cellsOf x=[x]:=by
   cases x <;> first | rfl | exact(hagg ⟨_,rfl⟩).elim | cases hs
  have hsc:T.scalar=true:=by
   cases x <;> first | exact hs | exact(hagg ⟨_,rfl⟩).elim | cases hs
  rw[hcell]at hc
  simp only[List.all_cons,List.all_nil,Bool.and_true]at hc
  have hv1:=jY (yX hc hx)
  simp only[enc,hsc,if_true,V]
  refine⟨trivial,?_⟩
  rw[hv1]at hy
  refine Vcells.monoLt (fun k u hk hu=> ?_) hy
  rw[Ty.size_scalar hsc]at hk
  obtain rfl:k=0:=by omega
  simp at hu
  exact hu.symm
theorem xU:∀ {xs:List AVal} {Ts:List (Option Ty)} {h:Nat→Option Obj} {ys:List AVal} {us:jJ},Mem Bw w0 ρ φ h w→aDh h xs Ts=some (ys,us) →
  Mem Bw w0 ρ φ (apply us h) w∧(∀β a v,Fr (own φ h) Bw w β a v→Fr (own φ (apply us h)) Bw w β a v)∧∀vs,VVs (Fr (own φ h) Bw w) ρ xs vs→VVs (Fr (own φ (apply us h)) Bw w) ρ ys vs
 | [],[],h,ys,us,m,hd=>by
  cases hd
  exact⟨m,fun _ _ _ h=>h,fun _ h=>h⟩
 | x::xs,some T::Ts,h,ys,us,m,hd=>by
  simp only[aDh]at hd
  split at hd
  ·rename_i hc
   split at hd
   ·rename_i y u h1
    split at hd
    ·rename_i ys' us' h2
     cases hd
     obtain⟨m1,f1,g1⟩:=qC m h1
     obtain⟨m2,f2,g2⟩:=xU m1 h2
     simp only[Bool.and_eq_true]at hc
     rw[iJ]
     refine⟨m2,fun β a v hh=>f2 _ _ _ (f1 _ _ _ hh),fun vs hv=> ?_⟩
     cases vs with
     | nil=>exact hv.elim
     | cons v vs =>
      obtain⟨r1,r2,r3⟩:=gW hc.1 hv.1
      obtain⟨s1,s2⟩:=g1 _ r1
      exact⟨aKt hc.1 hc.2 hv.1 (Vcells.mono (f2 false) (fun _ _ h=>h) s1) s2,g2 vs (VVs.mono f1 (fun _ _ h=>h) hv.2)⟩
    ·cases hd
   ·cases hd
  ·cases hd
 | x::xs,none::Ts,h,ys,us,m,hd=>by
  simp only[aDh]at hd
  split at hd
  ·rename_i ys' us' h2
   cases hd
   obtain⟨m2,f2,g2⟩:=xU m h2
   refine⟨m2,f2,fun vs hv=> ?_⟩
   cases vs with
   | nil=>exact hv.elim
   | cons v vs=>exact⟨V.mono f2 (fun _ _ h=>h) hv.1,g2 vs hv.2⟩
  ·cases hd
 | [],_::_,_,_,_,_,hd=>by simp[aDh]at hd
 | _::_,[],_,_,_,_,hd=>by simp[aDh]at hd
theorem aFh{α:Type}{f:Nat→α}{g:Obj→α}:∀ {l:List (Nat×Obj)},l.map (fun p=>f p.1)=l.map (fun p=>g p.2)→∀p∈l,f p.1=g p.2
 | [],_,p,hp=>by cases hp
 | q::l,h,p,hp=>by
  simp only[List.map_cons,List.cons.injEq]at h
  rcases List.mem_cons.1 hp with rfl | hp
  ·exact h.1
  ·exact aFh h.2 p hp
theorem aIE{F:Bool→Addr→Value→Prop}{ys:List AVal}{vs:List Value}(h:VVs F ρ ys vs):V F ρ (aX ys) (if h:vs.toArray.size=1 then vs.toArray[0]else .tuple vs.toArray):=by
 have hv2:=(j3 h).1
 match ys,vs,h with
 | [],[],_=>simp only[aX,V];exact⟨#[],rfl,rfl,by simp only[VL]⟩
 | [y],[v],r3=>exact r3.1
 | y::y'::ys,v::v'::vs,r3 =>
  have:¬((v::v'::vs).toArray.size=1):=by simp
  rw[dif_neg this]
  simp only[aX,V]
  refine⟨_,rfl,by simpa using hv2.symm,VL.mk fun k x hk=> ?_⟩
  have:=(j3 r3).2 k
  rw[hk]at this
  have hk':k<(v::v'::vs).length:=by rw[←hv2];exact(List.getElem?_eq_some_iff.1 hk).1
  rw[List.getElem?_eq_getElem hk']at this
  exact⟨_,by simp[hk'],this⟩
theorem Owns.of_body{f:FuncId}{fn:Func}{c:Code}(htb:TabOK P tb)(hf:P.funcs[f]? = some fn)(hname:(fn.name == "runtime.NumGoroutine")=false)(hb:fn.body=some c){args:List AVal}(hlen:args.length≤fn.ntmps)
  {hin hout:List (Nat×Obj)} {r:AVal} (h:∀Bw w0,W P fn.ntmps Bw w0 c (R0 args hin) (RetO tb fn.ntmps fn.results.toList r hout)):Owns P f args hin r hout:=by
 refine⟨⟨fn,hf,hname,by rw[hb];rfl⟩,fun Bw b φ us m hargs hpin=>calls_of_wp hf hb ?_⟩
 obtain⟨hl,hg⟩:=j3 hargs
 have hR:R fn.ntmps Bw b (R0 args hin) { tmps:=us++Array.replicate (fn.ntmps - us.size) undef,defers:=[] } b.w:=by
  refine⟨⟨b.pin,φ,m,⟨?_,rfl,fun t=> ?_⟩,fun id u hu=>hpin id u hu⟩,fun i u h=>hpin i u h⟩
  ·have:us.size=args.length:=by rw[hl,Array.length_toList]
   simp only[Array.size_append,Array.size_replicate]
   omega
  ·have hv:=hg t
   simp only[R0]
   rcases Nat.lt_or_ge t us.size with q | q
   ·have e:(us++Array.replicate (fn.ntmps - us.size) undef).getD t undef=(us.toList[t]?).getD undef:=by
     simp[Array.getD_eq_getD_getElem?,Array.getElem?_append,q]
    rw[e]
    exact hv
   ·have:args[t]? = none:=List.getElem?_eq_none (by rw[hl,Array.length_toList];exact q)
    rw[this]
    simp only[Option.getD_none,V]
 refine wp_mono (h Bw b _ _ hR) fun e a' w' ⟨σ',hR',he,Ts,σ1,hle,hq⟩=> ?_
 have key:a'.defers=[]∧∃v,(results fn a'.tmps).run P w' = .ok v w' ∧
   ∃v2 ρ' φ',Ending.returned v = .returned v2∧Mem Bw b ρ' φ' (fun i=>dL hout i) w'∧V (Fr (own φ' (fun i=>dL hout i)) Bw w') ρ' r v2:=by
  obtain⟨ρ,φ',q1,q2,_⟩:=(hle _ Bw b a' w' hR').ex
  unfold aJA at hq
  split at hq
  ·rename_i xs hxs
   split at hq
   ·rename_i ys u hfin
    simp only[Option.some.injEq,Prod.mk.injEq]at hq
    obtain⟨rfl,hq⟩:=hq
    obtain⟨vs,r1,r2⟩:=kC (P:=P) htb q1 q2 hxs
    obtain⟨m1,f1,g1⟩:=xU q1 hfin
    have hsub:∀i o,dL hout i=some o→apply u σ1.h i=some o:=fun i o e=>aFh (f:=fun i=>apply u σ1.h i) (g:=fun o=>some o) hq _ (pW e)
    obtain⟨m2,f2⟩:=m1.less hsub
    have r4:=oG (P:=P) _ fn.results w' r1
    refine⟨q2.df,(if h:vs.toArray.size=1 then vs.toArray[0]else .tuple vs.toArray),?_,_,ρ,φ',rfl,m2,?_⟩
    ·unfold results
     rw[Sem.run_bind]
     exact(congrArg (fun r=>Result.andThen r (fun a w'=>Sem.run P (pure (if h:a.size=1 then a[0]else Value.tuple a)) w')) r4).trans rfl
    ·exact aIE (VVs.mono f2 (fun _ _ h=>h) (g1 vs r2))
   ·cases hq
  ·cases hq
 rcases he with rfl | rfl
 ·exact key
 ·exact key
theorem Dies.of_body{f:FuncId}{fn:Func}{c:Code}(hf:P.funcs[f]? = some fn)(hname:(fn.name == "runtime.NumGoroutine")=false)(hb:fn.body=some c){args:List AVal}(hlen:args.length≤fn.ntmps)
  {hin:List (Nat×Obj)} {x:Value} (h:∀Bw w0,W P fn.ntmps Bw w0 c (R0 args hin) (fun e _=>e = .panic [{ v:=x,recovered:=false }])):Dies P f args hin x:=by
 refine⟨⟨fn,hf,hname,by rw[hb];rfl⟩,fun Bw b φ us m hargs hpin=>calls_of_wp hf hb ?_⟩
 obtain⟨hl,hg⟩:=j3 hargs
 have hR:R fn.ntmps Bw b (R0 args hin) { tmps:=us++Array.replicate (fn.ntmps - us.size) undef,defers:=[] } b.w:=by
  refine⟨⟨b.pin,φ,m,⟨?_,rfl,fun t=> ?_⟩,fun id u hu=>hpin id u hu⟩,fun i u h=>hpin i u h⟩
  ·have:us.size=args.length:=by rw[hl,Array.length_toList]
   simp only[Array.size_append,Array.size_replicate]
   omega
  ·have hv:=hg t
   simp only[R0]
   rcases Nat.lt_or_ge t us.size with q | q
   ·have e:(us++Array.replicate (fn.ntmps - us.size) undef).getD t undef=(us.toList[t]?).getD undef:=by
     simp[Array.getD_eq_getD_getElem?,Array.getElem?_append,q]
    rw[e]
    exact hv
   ·have:args[t]? = none:=List.getElem?_eq_none (by rw[hl,Array.length_toList];exact q)
    rw[this]
    simp only[Option.getD_none,V]
 refine wp_mono (h Bw b _ _ hR) fun e a' w' ⟨σ',hR',he⟩=> ?_
 subst he
 obtain⟨ρ,φ',q1,q2,_⟩:=hR'.ex
 exact⟨q2.df,ρ,φ',rfl,(q1.less (fun i o e=>(by cases e))).1⟩
theorem Dies.of_calls{f:FuncId}{fn:Func}(hf:P.funcs[f]? = some fn)(hname:(fn.name == "runtime.NumGoroutine")=false)(hb:fn.body.isNone=false){y0:AVal}{β1 β2:Bool}{k1 k2:IntKind}{e a:Int}{hin:List (Nat×Obj)}{x:Value}
  (h:∀v w,Calls P f #[v,.int k1 e,.int k2 a] w fun r w'=>r = .panicked [{ v:=x,recovered:=false }]∧w'=w):Dies P f [y0,.p β1 (.int k1) e,.p β2 (.int k2) a] hin x:=by
 refine⟨⟨fn,hf,hname,hb⟩,fun Bw b φ us m hargs hpin=> ?_⟩
 match hus:us.toList,hargs with
 | [v0,v1,v2],hargs =>
  have e1:=cN hargs.2.1
  have e2:=cN hargs.2.2.1
  subst e1 e2
  have:us = #[v0,.int k1 e,.int k2 a]:=Array.ext' hus
  subst this
  exact(h v0 b.w).mono fun r w' ⟨h1,h2⟩=>⟨b.pin,φ,h1,by subst h2;exact(m.less (fun i o e=>(by cases e))).1⟩
theorem Does.of_body{f:FuncId}{fn:Func}{c:Code}(htb:TabOK P tb)(hf:P.funcs[f]? = some fn)(hname:(fn.name == "runtime.NumGoroutine")=false)(hb:fn.body=some c){args:List AVal}(hlen:args.length≤fn.ntmps)
  {hin:List (Nat×Obj)} {res:(AVal×List (Nat×Obj))⊕Value} (h:∀Bw w0,W P fn.ntmps Bw w0 c (R0 args hin) (aLy tb fn.ntmps fn.results.toList res)):Does P f args hin res:=by
 cases res with
 | inl p=>exact Owns.of_body htb hf hname hb hlen h
 | inr x=>exact Dies.of_body hf hname hb hlen h
def aEy{T:Type}(tb:Tab)(n:NS)(rs:List ResultVar)(g:T→AVal×List (Nat×Obj))(v:T)(e:Exit)(σ:St):Prop:=e = .ret∧RetO tb n rs (g v).1 (g v).2 .ret σ
theorem aBf{T:Type}{rs:List ResultVar}{g:T→AVal×List (Nat×Obj)}{v:T}(h:RetO tb n rs (g v).1 (g v).2 .ret σ):aEy tb n rs g v .ret σ:=⟨rfl,h⟩
end
end Go.Tv
namespace Go.Tv
open Go Go.RowKit
section
variable{P:Program}{tb:Tab}{an:An}{n:NS}{base:Nat}{ops:Array Oper}{Bw:Nat→Prop}{w0:Base P}{F W:Nat→List Nat}
theorem aEB{s s':Nat→AVal}{h h':Nat→Option Obj}{i:Nat}{o:Oper}(hs:∀t∈o.looksAt ops,s t=s' t)(hh:∀i∈lC h o.op (fW s o.op),h i=h' i):
  aC4 P tb an n base ops i o s h=aC4 P tb an n base ops i o s' h':=by
 unfold aC4
 rw[aA8 (X2 hs) hh]
 split
 ·split
  ·rfl
  ·rename_i g hg
   rw[xD hs hg]
 ·rfl
structure DieA(P:Program)(tb:Tab)(an:An)(n:NS)(base:Nat)(ops:Array Oper)(F:Nat→List Nat)(QP:Value→Prop)(i:Nat)(s:Nat→AVal)(h:Nat→Option Obj):Prop where
 ex:∃o u y c,ops[i]? = some o∧aC4 P tb an n base ops i o s h=some (u,y,c)∧c∧(∀j∈lC h o.op (fW s o.op),j∈F i)∧QP y
def aHp(P:Program)(tb:Tab)(an:An)(n:NS)(base:Nat)(ops:Array Oper)(F W:Nat→List Nat)(Q:(Nat→AVal)→(Nat→Option Obj)→Prop)(QP:Value→Prop):Nat→Array Bool→(Nat→AVal)→(Nat→Option Obj)→Prop
 | 0,listed,s,h=>Region.ready .any ops listed=[]∧Q s h
 | fuel+1,listed,s,h=>(Region.ready .any ops listed=[]→Q s h) ∧
  ∀i∈Region.ready .any ops listed,(∃s' h',StepA P tb an n base ops F W i s h s' h'∧aHp P tb an n base ops F W Q QP fuel (listed.setIfInBounds i true) s' h')∨DieA P tb an n base ops F QP i s h
theorem aFY{QP:Value→Prop}{i j:Nat}{oi oj:Oper}(hi:ops[i]? = some oi)(hj:ops[j]? = some oj)(hap:oi.apart ops oj=true)(h1:aBD (W i) (F j)=true)
  {s si:Nat→AVal} {h hi':Nat→Option Obj} (a1:StepA P tb an n base ops F W i s h si hi') (a2:DieA P tb an n base ops F QP j si hi'):DieA P tb an n base ops F QP j s h:=by
 obtain⟨o,x,u,c,e1,e2,e3,e4,e5,rfl,rfl⟩:=a1.ex
 obtain⟨o',v,y,c',f1,f2,f3,f4,f5⟩:=a2.ex
 rw[hi]at e1;cases e1
 rw[hj]at f1;cases f1
 obtain⟨p1,p2,p3⟩:=Oper.apart_spec hap
 have hs1:∀t∈oj.looksAt ops,eJ s oi.dst x t=s t:=fun t ht=>R8 fun k hk e=>by subst e;exact p1 k hk ht
 have hh1:∀k∈lC (apply u h) oj.op (fW (eJ s oi.dst x) oj.op),apply u h k=h k:=fun k hk=>gY fun p hp e=>wI h1 (e5 p hp) (by rw[e];exact f4 k hk)
 have g2:=aEB (P:=P) (tb:=tb) (an:=an) (n:=n) (base:=base) (i:=j) hs1 hh1
 rw[f2]at g2
 have hv1:=qS hs1
 have hf1:=vH hh1
 exact⟨oj,v,y,c',hj,g2.symm,f3,fun k hk=>f4 k (by rw[hf1,hv1];exact hk),f5⟩
theorem S3{Q:(Nat→AVal)→(Nat→Option Obj)→Prop}{QP:Value→Prop}{i:Nat}{oi:Oper}(hi:ops[i]? = some oi):∀(fuel:Nat) (listed:Array Bool) {s si:Nat→AVal} {h hi':Nat→Option Obj},
  Closed ops listed→(∀j oj,ops[j]? = some oj→j≠i→listed.getD j true=false→((wQ ops).getD j 0).testBit i=false→E6 ops F W i j oi oj=true) →
  i∈Region.ready .any ops listed→StepA P tb an n base ops F W i s h si hi'→aHp P tb an n base ops F W Q QP fuel (listed.setIfInBounds i true) si hi'→aHp P tb an n base ops F W Q QP (fuel+1) listed s h
 | 0,listed,s,si,h,hi',_,_,hr,hst,H=>by
  refine⟨fun e=>(by rw[e]at hr;cases hr),fun j hj=> ?_⟩
  by_cases hji:j=i
  ·subst hji;exact .inl ⟨si,hi',hst,H⟩
  ·have:=ready_mono hj hji
   rw[H.1]at this
   cases this
 | fuel+1,listed,s,si,h,hi',hcl,hfree,hr,hst,H=>by
  refine⟨fun e=>(by rw[e]at hr;cases hr),fun j hj=> ?_⟩
  by_cases hji:j=i
  ·subst hji;exact .inl ⟨si,hi',hst,H⟩
  ·obtain⟨hjun,oj,hoj,hall⟩:=mem_ready.1 hj
   have hnot:((wQ ops).getD j 0).testBit i=false:=by
    cases hb:((wQ ops).getD j 0).testBit i with
    | false=>rfl
    | true =>
     have h1:=yK hcl (j+1) j oj (by omega) hoj hall hb
     have h0:=(mem_ready.1 hr).1
     rcases Nat.lt_or_ge i listed.size with h' | h'
     ·simp[h']at h0 h1;rw[h0]at h1;cases h1
     ·simp[Array.getElem?_eq_none h']at h1
   have hok:=hfree j oj hoj hji hjun hnot
   simp only[E6,Bool.and_eq_true]at hok
   rcases H.2 j (ready_mono hj hji)with⟨sij,hij,a2,H2⟩ | hdie
   ·obtain⟨sj,hj',b1,b2⟩:=W1 hi hoj hok.1.1.1 hok.1.1.2 hok.1.2 hok.2 hst a2
    refine .inl ⟨sj,hj',b1,S3 hi fuel (listed.setIfInBounds j true) (hcl.add hj) (fun k ok hk hki hun hno=> ?_) (ready_mono hr (Ne.symm hji)) b2 ?_⟩
    ·refine hfree k ok hk hki ?_ hno
     by_cases hjk:j=k
     ·subst hjk;exact hjun
     ·rw[getD_set_ne true hjk]at hun;exact hun
    ·rw[Array.setIfInBounds_comm _ _ hji]
     exact H2
   ·exact .inr (aFY hi hoj hok.1.1.1 hok.1.1.2 hst hdie)
theorem wW(htb:TabOK P tb){QA:(Nat→AVal)→(Nat→Option Obj)→Prop}{QP:Value→Prop}{Q:Exit→Act→World→Prop}
  (hQ:∀s h a w,QA s h→Mid n base Bw w0 (fun i=>i<ops.size) s h a w→Q .normal a w) (hP:∀y s h a w,QP y→Mid n base Bw w0 (fun i=>i<ops.size) s h a w→Q (.panic [{ v:=y,recovered:=false }]) a w):∀(fuel:Nat) (listed:Array Bool) {s:Nat→AVal} {h:Nat→Option Obj} {a:Act} {w:World},listed.size=ops.size →
  Mid n base Bw w0 (fun i=>listed.getD i false=true) s h a w→aHp P tb an n base ops F W QA QP fuel listed s h→wpAny P .any ops Q fuel listed a w
 | 0,listed,s,h,a,w,hsz,hm,H=>by
  refine⟨H.1,hQ s h a w H.2 ?_⟩
  obtain⟨ρ,φ,q1,q2,q3⟩:=hm.ex
  refine⟨ρ,φ,q1,q2,fun id u hu=>(q3 id u hu).imp (fun h=>h) fun⟨i,j,h1,h2⟩=>⟨i,j,?_,h2⟩⟩
  rcases Nat.lt_or_ge i listed.size with h' | h'
  ·omega
  ·simp[Array.getElem?_eq_none h']at h1
 | fuel+1,listed,s,h,a,w,hsz,hm,H=>by
  refine⟨fun e=>hQ s h a w (H.1 e) ?_,fun i hi=> ?_⟩
  ·obtain⟨ρ,φ,q1,q2,q3⟩:=hm.ex
   refine⟨ρ,φ,q1,q2,fun id u hu=>(q3 id u hu).imp (fun h=>h) fun⟨i,j,h1,h2⟩=>⟨i,j,?_,h2⟩⟩
   rcases Nat.lt_or_ge i listed.size with h' | h'
   ·omega
   ·simp[Array.getElem?_eq_none h']at h1
  ·obtain⟨hun,oi,hoi,_⟩:=mem_ready.1 hi
   have hlt:i<listed.size:=by rw[hsz];exact(Array.getElem?_eq_some_iff.1 hoi).1
   have hnd:¬(listed.getD i false=true):=fun e=>by
    simp[hlt]at hun e
    rw[hun]at e;cases e
   rcases H.2 i hi with⟨s',h',hst,H'⟩ | hdie
   ·obtain⟨o,x,u,c,e1,e2,e3,e4,e5,rfl,rfl⟩:=hst.ex
    refine lK htb hm e1 hnd e2 e3 fun a' w' hm'=>wW htb hQ hP fuel _ (by simpa using hsz) ?_ H'
    obtain⟨ρ,φ,q1,q2,q3⟩:=hm'.ex
    refine⟨ρ,φ,q1,q2,fun id v hv=>(q3 id v hv).imp (fun h=>h) fun⟨j,j',h1,h2⟩=>⟨j,j',?_,h2⟩⟩
    rcases h1 with h1 | rfl
    ·exact getD_set_true h1
    ·simp[hlt]
   ·obtain⟨o,u,y,c,e1,e2,e3,e4,e5⟩:=hdie.ex
    refine P7 hm e1 hnd e2 e3 fun w' hm'=>hP y s (apply u h) a w' e5 ?_
    obtain⟨ρ,φ,q1,q2,q3⟩:=hm'.ex
    refine⟨ρ,φ,q1,q2,fun id v hv=>(q3 id v hv).imp (fun h=>h) fun⟨j,j',h1,h2⟩=>⟨j,j',?_,h2⟩⟩
    rcases h1 with h1 | rfl
    ·rcases Nat.lt_or_ge j listed.size with h' | h'
     ·omega
     ·simp[Array.getElem?_eq_none h']at h1
    ·omega
inductive DT where
 | leaf
 | one (i:Nat) (t:DT)
 | two (i:Nat) (t:DT) (j:Nat) (u:DT)
 | dead (i:Nat)
 | twoD (i:Nat) (t:DT) (j:Nat)
def DT.depth:DT→Nat
 | .leaf=>0
 | .one _ t=>t.depth+1
 | .two _ t _ u=>max t.depth u.depth+1
 | .dead _=>1
 | .twoD _ t _=>t.depth+1
abbrev aKV:=List ((Nat→AVal)×(Nat→Option Obj))×List Prop×List Value
def aA9(P:Program)(tb:Tab)(an:An)(n:NS)(base:Nat)(ops:Array Oper)(F W:Nat→List Nat)(i:Nat)(s:Nat→AVal)(h:Nat→Option Obj):Option ((Nat→AVal)×(Nat→Option Obj)×Prop) :=
 match ops[i]? with
 | some o=>match tH P tb an n base ops i o s h with
  | some (x,u,c)=>if(lC h o.op (fW s o.op)).all (fun j=>(F i).contains j) && u.all (fun p=>(W i).contains p.1)then some (eJ s o.dst x,apply u h,c)else none
  | none=>none
 | none=>none
def aIK(P:Program)(tb:Tab)(an:An)(n:NS)(base:Nat)(ops:Array Oper)(F:Nat→List Nat)(i:Nat)(s:Nat→AVal)(h:Nat→Option Obj):Option (Value×Prop) :=
 match ops[i]? with
 | some o=>match aC4 P tb an n base ops i o s h with
  | some (_,y,c)=>if(lC h o.op (fW s o.op)).all (fun j=>(F i).contains j)then some (y,c)else none
  | none=>none
 | none=>none
def N8(P:Program)(tb:Tab)(an:An)(n:NS)(base:Nat)(ops:Array Oper)(F W:Nat→List Nat)(A:List Nat):DT→Array Bool→(Nat→AVal)→(Nat→Option Obj)→Option aKV
 | .leaf,listed,s,h=>if(Region.ready .any ops listed).isEmpty then some ([(s,h)],[],[])else none
 | .one i t,listed,s,h=>if(Region.ready .any ops listed).contains i && aFH ops F W A listed i then match aA9 P tb an n base ops F W i s h with
   | some (s',h',c)=>match N8 P tb an n base ops F W A t (listed.setIfInBounds i true) s' h' with
    | some (l,cs,ys)=>some (l,c::cs,ys)
    | none=>none
   | none=>none
  else none
 | .two i t j u,listed,s,h=>if Region.ready .any ops listed == [i,j]then match aA9 P tb an n base ops F W i s h,aA9 P tb an n base ops F W j s h with
   | some (s1,h1,c1),some (s2,h2,c2)=>match N8 P tb an n base ops F W A t (listed.setIfInBounds i true) s1 h1,N8 P tb an n base ops F W A u (listed.setIfInBounds j true) s2 h2 with
    | some (l1,cs1,ys1),some (l2,cs2,ys2)=>some (l1++l2,c1::c2::(cs1++cs2),ys1++ys2)
    | _,_=>none
   | _,_=>none
  else none
 | .dead i,listed,s,h=>if Region.ready .any ops listed == [i]then match aIK P tb an n base ops F i s h with
   | some (y,c)=>some ([],[c],[y])
   | none=>none
  else none
 | .twoD i t j,listed,s,h=>if Region.ready .any ops listed == [i,j]then match aA9 P tb an n base ops F W i s h,aIK P tb an n base ops F j s h with
   | some (s1,h1,c1),some (y,c2)=>match N8 P tb an n base ops F W A t (listed.setIfInBounds i true) s1 h1 with
    | some (l,cs,ys)=>some (l,c1::c2::cs,y::ys)
    | none=>none
   | _,_=>none
  else none
theorem oT{i:Nat}{s s':Nat→AVal}{h h':Nat→Option Obj}{c:Prop}(hr:aA9 P tb an n base ops F W i s h=some (s',h',c))(hc:c):StepA P tb an n base ops F W i s h s' h':=by
 unfold aA9 at hr
 split at hr
 ·rename_i o ho
  split at hr
  ·rename_i x u c' hx
   split at hr
   ·rename_i hq
    cases hr
    simp only[Bool.and_eq_true,List.all_eq_true,List.contains_eq_mem,decide_eq_true_eq]at hq
    exact⟨o,x,u,c,ho,hx,hc,hq.1,hq.2,rfl,rfl⟩
   ·cases hr
  ·cases hr
 ·cases hr
theorem P5{QP:Value→Prop}{i:Nat}{s:Nat→AVal}{h:Nat→Option Obj}{y:Value}{c:Prop}(hr:aIK P tb an n base ops F i s h=some (y,c))(hc:c)(hy:QP y):DieA P tb an n base ops F QP i s h:=by
 unfold aIK at hr
 split at hr
 ·rename_i o ho
  split at hr
  ·rename_i u y' c' hx
   split at hr
   ·rename_i hq
    cases hr
    simp only[List.all_eq_true,List.contains_eq_mem,decide_eq_true_eq]at hq
    exact⟨o,u,y,c,ho,hx,hc,hq,hy⟩
   ·cases hr
  ·cases hr
 ·cases hr
theorem H5:∀ {a b:List Prop},u5 (a++b)→u5 a∧u5 b
 | [],_,h=>⟨trivial,h⟩
 | _::_,_,h=>let ⟨x,y⟩:=H5 h.2;⟨⟨h.1,x⟩,y⟩
theorem nB{QA:(Nat→AVal)→(Nat→Option Obj)→Prop}{QP:Value→Prop}:∀(t:DT) (fuel:Nat) (listed:Array Bool) {s:Nat→AVal} {h:Nat→Option Obj} {l:List ((Nat→AVal)×(Nat→Option Obj))} {cs:List Prop} {ys:List Value},t.depth≤fuel→Closed ops listed →
  N8 P tb an n base ops F W (wQ ops) t listed s h=some (l,cs,ys)→u5 cs→(∀p∈l,QA p.1 p.2)→(∀y∈ys,QP y)→aHp P tb an n base ops F W QA QP fuel listed s h
 | .leaf,fuel,listed,s,h,l,cs,ys,_,_,hr,_,hl,_=>by
  simp only[N8]at hr
  split at hr
  ·rename_i he
   cases hr
   have he':Region.ready .any ops listed=[]:=by simpa using he
   have:=hl (s,h) (by simp)
   cases fuel with
   | zero=>exact⟨he',this⟩
   | succ fuel=>exact⟨fun _=>this,fun i hi=>by rw[he']at hi;cases hi⟩
  ·cases hr
 | .one i t,0,listed,s,h,l,cs,ys,hd,_,_,_,_,_=>by simp[DT.depth]at hd
 | .one i t,fuel+1,listed,s,h,l,cs,ys,hd,hcl,hr,hc,hl,hy=>by
  simp only[N8]at hr
  split at hr
  ·rename_i hq
   simp only[Bool.and_eq_true,List.contains_eq_mem,decide_eq_true_eq]at hq
   split at hr
   ·rename_i s' h' c hs
    split at hr
    ·rename_i l' cs' ys' hr'
     cases hr
     obtain⟨_,oi,hoi,_⟩:=mem_ready.1 hq.1
     exact S3 hoi fuel listed hcl (S7 hoi hq.2) hq.1 (oT hs hc.1) (nB t fuel _ (by simp only[DT.depth]at hd;omega) (hcl.add hq.1) hr' hc.2 hl hy)
    ·cases hr
   ·cases hr
  ·cases hr
 | .two i t j u,0,listed,s,h,l,cs,ys,hd,_,_,_,_,_=>by simp[DT.depth]at hd
 | .two i t j u,fuel+1,listed,s,h,l,cs,ys,hd,hcl,hr,hc,hl,hy=>by
  simp only[N8]at hr
  split at hr
  ·rename_i hq
   simp only[beq_iff_eq]at hq
   split at hr
   ·rename_i s1 h1 c1 s2 h2 c2 hs1 hs2
    split at hr
    ·rename_i l1 cs1 ys1 l2 cs2 ys2 hr1 hr2
     cases hr
     obtain⟨k1,k2⟩:=H5 hc.2.2
     simp only[DT.depth]at hd
     have hi:i∈Region.ready .any ops listed:=by rw[hq];simp
     have hj:j∈Region.ready .any ops listed:=by rw[hq];simp
     refine⟨fun e=>(by rw[hq]at e;cases e),fun k hk=> ?_⟩
     rw[hq]at hk
     simp only[List.mem_cons,List.not_mem_nil,or_false]at hk
     rcases hk with rfl | rfl
     ·exact .inl ⟨s1,h1,oT hs1 hc.1,nB t fuel _ (by omega) (hcl.add hi) hr1 k1 (fun p hp=>hl p (List.mem_append_left _ hp)) (fun y h=>hy y (List.mem_append_left _ h))⟩
     ·exact .inl ⟨s2,h2,oT hs2 hc.2.1,nB u fuel _ (by omega) (hcl.add hj) hr2 k2 (fun p hp=>hl p (List.mem_append_right _ hp)) (fun y h=>hy y (List.mem_append_right _ h))⟩
    ·cases hr
   ·cases hr
  ·cases hr
 | .dead i,0,listed,s,h,l,cs,ys,hd,_,_,_,_,_=>by simp[DT.depth]at hd
 | .dead i,fuel+1,listed,s,h,l,cs,ys,hd,hcl,hr,hc,hl,hy=>by
  simp only[N8]at hr
  split at hr
  ·rename_i hq
   simp only[beq_iff_eq]at hq
   split at hr
   ·rename_i y c hs
    cases hr
    refine⟨fun e=>(by rw[hq]at e;cases e),fun k hk=> ?_⟩
    rw[hq]at hk
    simp only[List.mem_cons,List.not_mem_nil,or_false]at hk
    subst hk
    exact .inr (P5 hs hc.1 (hy y (by simp)))
   ·cases hr
  ·cases hr
 | .twoD i t j,0,listed,s,h,l,cs,ys,hd,_,_,_,_,_=>by simp[DT.depth]at hd
 | .twoD i t j,fuel+1,listed,s,h,l,cs,ys,hd,hcl,hr,hc,hl,hy=>by
  simp only[N8]at hr
  split at hr
  ·rename_i hq
   simp only[beq_iff_eq]at hq
   split at hr
   ·rename_i s1 h1 c1 y c2 hs1 hs2
    split at hr
    ·rename_i l1 cs1 ys1 hr1
     cases hr
     simp only[DT.depth]at hd
     have hi:i∈Region.ready .any ops listed:=by rw[hq];simp
     refine⟨fun e=>(by rw[hq]at e;cases e),fun k hk=> ?_⟩
     rw[hq]at hk
     simp only[List.mem_cons,List.not_mem_nil,or_false]at hk
     rcases hk with rfl | rfl
     ·exact .inl ⟨s1,h1,oT hs1 hc.1,nB t fuel _ (by omega) (hcl.add hi) hr1 hc.2.2 hl (fun y h=>hy y (List.mem_cons_of_mem _ h))⟩
     ·exact .inr (P5 hs2 hc.2.1 (hy y (by simp)))
    ·cases hr
   ·cases hr
  ·cases hr
end
section
variable{P:Program}{tb:Tab}{n:NS}{Bw:Nat→Prop}{w0:Base P}{σ:St}{Q:Exit→St→Prop}
def aHM(gs:List G)(f:List Nat)(l:List (Nat×AVal))(m:List (Nat×Obj))(nx pn:Nat)(r:Option aKV):Option (List (Option (List AVal×List (Option Obj)))×List Prop×List Value) :=
 match r with
 | some (ls,cs,ys)=>some (ls.map (fun p=>aBs gs f l m ⟨p.1,p.2,nx,pn⟩),cs,ys)
 | none=>none
theorem uU(htb:TabOK P tb)(hm:P.follows .mixedOrders=true)(an:An)(t:DT)(fw:List (List Nat×List Nat))(k:Nat)(ys:List Value){id:Nat}{ops:Array Oper}(gs:List G)(f:List Nat)(l:List (Nat×AVal))(m:List (Nat×Obj))(nx pn:Nat)(cs:List Prop)
  (hr:aHM gs f l m (σ.nx+8*ops.size) σ.pn (N8 P tb an n σ.nx ops (xW fw) (yI fw) (wQ ops) t (Array.replicate ops.size false) σ.s σ.h)=some (List.replicate k (some (sY f l m)),cs,ys)) (hok:(σ.pn == pn && o8 (fnL f) l m nx pn && decide (t.depth≤ops.size))=true) (hc:u5 cs)
  (hq:k≠0→∀σ',Le n σ' (aM l m nx pn)→Q .normal σ') (hp:∀y∈ys,∀σ',Q (.panic [{ v:=y,recovered:=false }]) σ'):W P n Bw w0 (.region id ops true) σ Q:=fun a w hR=>by
 rw[Bool.and_eq_true,decide_eq_true_eq]at hok
 obtain⟨hok,hdep⟩:=hok
 unfold aHM at hr
 split at hr
 ·rename_i ls cs' ys' hr'
  simp only[Option.some.injEq,Prod.mk.injEq]at hr
  obtain⟨e1,rfl,rfl⟩:=hr
  obtain⟨ρ,φ,q1,q2,q3⟩:=hR.ex
  obtain⟨q1',qF⟩:=q1.drew
  refine wp_region_any hm ?_
  have hB:=nB (P:=P) (tb:=tb) (an:=an) (n:=n) (base:=σ.nx) (ops:=ops) (F:=xW fw) (W:=yI fw) (QA:=fun s h=>Q .normal ⟨s,h,σ.nx+8*ops.size,σ.pn⟩) (QP:=fun y=>y∈ys') t ops.size (Array.replicate ops.size false) hdep (fun k o hk hl=>by simp[Array.getD]at hl) hr' hc (fun p hp=>by
   have hm1:aBs gs f l m ⟨p.1,p.2,σ.nx+8*ops.size,σ.pn⟩∈List.replicate k (some (sY f l m)):=by rw[←e1];exact List.mem_map.2 ⟨p,hp,rfl⟩
   have hk:k≠0:=fun e=>by subst e;simp at hm1
   exact hq hk _ (M6 (List.eq_of_mem_replicate hm1) hok)) (fun y h=>h)
  refine wW (P:=P) (tb:=tb) (an:=an) (n:=n) (base:=σ.nx) (ops:=ops) (Bw:=Bw) (w0:=w0) htb (fun s h a w hQA hmid=> ?_) (fun y s h a w hy hmid=> ?_) ops.size _ (by simp) ⟨ρ,φ,q1',q2.mono qF (fun _ _ h=>h),fun id u hu=> .inl (q3 id u hu)⟩ hB
  ·obtain⟨ρ',φ',r1,r2,r3⟩:=hmid.ex
   refine⟨⟨s,h,σ.nx+8*ops.size,σ.pn⟩,⟨⟨ρ',φ',r1,r2,fun id u hu=> ?_⟩,hR.pn⟩,hQA⟩
   rcases r3 id u hu with h1 | ⟨i,j,h1,h2,h3⟩ <;> simp only <;> omega
  ·obtain⟨ρ',φ',r1,r2,r3⟩:=hmid.ex
   refine⟨⟨s,h,σ.nx+8*ops.size,σ.pn⟩,⟨⟨ρ',φ',r1,r2,fun id u hu=> ?_⟩,hR.pn⟩,hp y hy _⟩
   rcases r3 id u hu with h1 | ⟨i,j,h1,h2,h3⟩ <;> simp only <;> omega
 ·cases hr
end
end Go.Tv
