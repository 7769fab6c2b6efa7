/- Functions for which the model stands in: the place of a byte in a string. -/
import Derived.Test.YtbedjpdfkmfplaaGreatDoorTvSm
import Derived.Lib.Bytealg
import Derived.WalkKit
import Derived.WalkLawsBesides
import Derived.Recover
namespace Go.Tv
open Go Go.RowKit
def aF7:List UInt8→Int→Int→Int
 | [],_,_=> -1
 | x::r,c,k=>if x == c.toNat.toUInt8 then k else aF7 r c (k+1)
theorem aFt(c:Int):∀(l:List UInt8) (k:Int),0≤k→aF7 l c k=if Lib.indexByte l c.toNat.toUInt8 == -1 then -1 else Lib.indexByte l c.toNat.toUInt8+k
 | [],k,_=>rfl
 | x::r,k,hk=>by
  have h:=Lib.indexByte_ge r c.toNat.toUInt8
  simp only[aF7,Lib.indexByte]
  rw[aFt c r (k+1) (by omega)]
  split
  ·simp
  ·split
   ·simp
   ·rename_i h2 h3
    simp only[beq_iff_eq]at h3
    have h4:(Lib.indexByte r c.toNat.toUInt8+1 == -1)=false:=by simp only[beq_eq_false_iff_ne,ne_eq];omega
    rw[h4]
    simp only[Bool.false_eq_true,if_false]
    omega
theorem Pure.of_idx{P:Program}{f:FuncId}{fn:Func}(hf:P.funcs[f]? = some fn)(hname:(fn.name == "runtime.NumGoroutine")=false)(hb:fn.body.isNone=false){β1 β2:Bool}{s:List UInt8}{c:Int}
  (h:∀(s:ByteArray) w,Calls P f #[.string s,.int .u8 c] w fun e w'=>e = .returned (.int .i64 (Lib.indexByte s.data.toList c.toNat.toUInt8))∧w'=w):Pure P f [.p β1 .str s,.p β2 (.int .u8) c] (.p false (.int .i64) (aF7 s c 0)):=by
 refine⟨⟨fn,hf,hname,hb⟩,fun Bw w us hld hbw hargs=> ?_⟩
 match hus:us.toList,hargs with
 | [v0,v1],hargs =>
  have e1:=vT hargs.1
  have e2:=cN hargs.2.1
  subst e1 e2
  have:us = #[.string ⟨List.toArray s⟩,.int .u8 c]:=Array.ext' hus
  subst this
  refine(h ⟨List.toArray s⟩ w).mono fun r w' ⟨h1,h2⟩=>⟨_,h1,by subst h2;exact(Kept.refl (nH hld)).below,?_⟩
  have e3:aF7 s c 0=Lib.indexByte s c.toNat.toUInt8:=by
   rw[aFt c s 0 (by omega)]
   split
   ·rename_i h3
    simp only[beq_iff_eq]at h3
    exact h3.symm
   ·omega
  rw[e3]
  exact eQ _ _ _
end Go.Tv
namespace Go.Tv
open Go Go.RowKit
section
variable{P:Program}{tb:Tab}
def Catches(P:Program)(g:FuncId)(args:List AVal)(hin hout:List (Nat×Obj))(x:Value):Prop :=
 ∀(Bw:Nat→Prop) (b:Base P) (φ:Nat→Nat→Prop) (vals:Array Value),Mem Bw b b.pin φ (fun i=>dL hin i) b.w →
  VVs (Fr (own φ (fun i=>dL hin i)) Bw b.w) b.pin args vals.toList→(∀i u,b.pin i=some u→i<hin.length) →
  CallsD P g vals (.panicking [{ v:=x,recovered:=false }]) b.w fun e u w'=>∃v ρ' φ',e = .returned v∧u = .panicking [{ v:=x,recovered:=true }]∧Mem Bw b ρ' φ' (fun i=>dL hout i) w'
def aI2(P:Program)(g:FuncId)(k:Nat):Prop :=
 ∀(vals:Array Value) (w:World),vals.size=k→CallsD P g vals .returning w fun e u w'=>(∃v,e = .returned v)∧u = .returning∧w'=w
theorem aDP{fn:Func}(h:fn.results = #[])(tmps:Array Value)(w:World):(results fn tmps).run P w = .ok (.tuple #[]) w:=by
 simp[results,h]
theorem Catches.of_body{g:FuncId}{fn:Func}(hf:P.funcs[g]? = some fn){o0 o1:Oper}{id:Nat}{c:Code}(hb:fn.body=some (.seq (.region id #[o0,o1] false) c))(hres:fn.results = #[]){d0 d1:Nat}
  (h0:o0.op = .call { callee:= .builtin .recover,args:= #[],argTypes:= #[] }) (h0d:o0.dst=some d0) (h0g:o0.guard=none) (h1:o1.op = .assign (.tmp d0)) (h1d:o1.dst=some d1) (h1g:o1.guard=none)
  (hd:(decide (2≤d0) && decide (2≤d1) && decide (d0<fn.ntmps) && decide (d1<fn.ntmps))=true) {a0 a1:AVal} {hin hout:List (Nat×Obj)} {x:Value} {nx pn:Nat} (hpn:hin.length=pn)
  (hK:∀Bw w0,W P fn.ntmps Bw w0 c (aM [(0,a0),(1,a1),(d1,.lit x)] hin pn pn) (sT fn.ntmps (fun(_:Unit)=>aM [] hout nx pn) ())):Catches P g [a0,a1] hin hout x:=by
 subst hpn
 simp only[Bool.and_eq_true,decide_eq_true_eq]at hd
 obtain⟨⟨⟨k0,k1⟩,k2⟩,k3⟩:=hd
 refine fun Bw b φ vals m hargs hpin=>callsD_of_wpS hf hb fun c₀ cs hu=> ?_
 match hus:vals.toList,hargs with
 | [v0,v1],hargs =>
 have hv:vals = #[v0,v1]:=Array.ext' hus
 subst hv
 apply wpS_seq
 apply wpS_region
 have e0:∀ρ:Operand→Value,(execOp ρ o0).run P b.w = .ok .recover b.w:=fun ρ=>by
  simp[execOp,h0,resolve,invoke,builtin]
 have e1:∀ρ:Operand→Value,(execOp ρ o1).run P b.w = .ok (.value (ρ (.tmp d0))) b.w:=fun ρ=>by
  simp[execOp,h1]
 have er:recoverD (c₀ :: cs)=some (x,{ c₀ with mode:= .panicking [{ v:=x,recovered:=true }] }::cs):=by
  simp[recoverD,hu]
 have w0':∀y,Region.wanted o0 y=true:=fun y=>by unfold Region.wanted;rw[h0g]
 have w1':∀y,Region.wanted o1 y=true:=fun y=>by unfold Region.wanted;rw[h1g]
 show wpOpsS P #[o0,o1] _ [0,1] _ _ _
 simp only[wpOpsS,List.getElem?_toArray,List.getElem?_cons_zero,List.getElem?_cons_succ,w0',w1',if_true,e0,er,e1,Oper.upon]
 simp only[Exit.thenS]
 refine wpS_of_wp ?_
 have hS0:Slots (fn.ntmps:NS) (Fr (own φ (fun i=>dL hin i)) Bw b.w) b.pin (fun t=>(([a0,a1]:List AVal)[t]?).getD .unk) { tmps:= #[v0,v1]++Array.replicate (fn.ntmps - 2) undef,defers:=[] }:=by
  refine⟨?_,rfl,fun t=> ?_⟩
  ·simp only[Array.size_append,Array.size_replicate]
   show 2+(fn.ntmps - 2)=fn.ntmps
   omega
  ·match t with
   | 0 =>
    have g0:(#[v0,v1]++Array.replicate (fn.ntmps - 2) undef).getD 0 undef=v0:=by simp[Array.getD_eq_getD_getElem?,Array.getElem?_append]
    show V _ _ a0 ((#[v0,v1]++Array.replicate (fn.ntmps - 2) undef).getD 0 undef)
    rw[g0]
    exact hargs.1
   | 1 =>
    have g0:(#[v0,v1]++Array.replicate (fn.ntmps - 2) undef).getD 1 undef=v1:=by simp[Array.getD_eq_getD_getElem?,Array.getElem?_append]
    show V _ _ a1 ((#[v0,v1]++Array.replicate (fn.ntmps - 2) undef).getD 1 undef)
    rw[g0]
    exact hargs.2.1
   | t+2=>simp only[List.getElem?_cons_succ,List.getElem?_nil,Option.getD_none,V]
 have hS1:=(hS0.put (x:= .lit x) (v:=x) (by simp only[V]) (d:=d0) k2).put (x:= .lit x) (v:=x) (by simp only[V]) (d:=d1) k3
 have hval:Act.eval (Act.put { tmps:= #[v0,v1]++Array.replicate (fn.ntmps - (#[v0,v1]:Array Value).size) undef,defers:=[] } (some d0) x) (.tmp d0)=x:=by
  simp[Act.eval,Act.put]
  omega
 rw[h0d,h1d,hval]
 refine wp_mono (hK Bw b _ b.w ⟨⟨b.pin,φ,m,⟨hS1.tm,hS1.df,fun t=> ?_⟩,fun id u hu=>hpin id u hu⟩,fun i u h=>hpin i u h⟩) fun e a' w' ⟨σ',hR',he,hle⟩=> ?_
 ·have:=hS1.sl t
  simp only[aM,dL]
  by_cases q0:0=t
  ·subst q0
   simp only[if_true,Option.getD_some]
   rw[aP _ _ (by omega),aP _ _ (by omega)]at this
   exact this
  ·by_cases q1:1=t
   ·subst q1
    simp only[if_true,Option.getD_some]
    rw[aP _ _ (by omega),aP _ _ (by omega)]at this
    simpa using this
   ·by_cases q2:d1=t
    ·subst q2
     rw[if_neg q0,if_neg q1,if_pos rfl]
     rw[aI]at this
     exact this
    ·rw[if_neg q0,if_neg q1,if_neg q2]
     simp only[Option.getD_none,V]
 ·subst he
  obtain⟨ρ',φ',q1,q2,_⟩:=(hle _ Bw b a' w' hR').ex
  exact⟨q2.df,_,rfl,_,aDP hres _ _,_,ρ',φ',rfl,rfl,q1⟩
def DQ{A E:Type}(n:NS)(tb:Tab)(rs:List ResultVar)(g:A→List (Σ T:Ty,T.den))(f:E→Value)(lp:List (Nat×AVal))(mp:List (Nat×Obj))(nxp:Nat):A⊕E→Exit→St→Prop
 | .inl x=>iC tb rs g x
 | .inr e=>fun ex σ=>ex = .panic [{ v:=f e,recovered:=false }]∧Le n σ (aM lp mp nxp 2)
def aI6{A E:Type}(g:A→List (Σ T:Ty,T.den))(gp:E→List (Σ T:Ty,T.den)):A⊕E→List (Σ T:Ty,T.den)
 | .inl x=>g x
 | .inr e=>gp e
theorem aFx(htb:TabOK P tb){fn:Func}{w:World}{b:Base P}(hbw:b.w=w){n:NS}{Bw:Nat→Prop}{ρ:Nat→Option Value}{φ:Nat→Nat→Prop}{s:Nat→AVal}{h:Nat→Option Obj}{a:Act}{w':World}(hkp:∀k,k<w.heap.size→b.kp k)(m:Mem Bw b ρ φ h w')
  (hs:Slots n (Fr (own φ h) Bw w') ρ s a) {xs:List AVal} {Ts:List Ty} {vals:List (Σ T:Ty,T.den)} (h1:L7 tb s h fn.results.toList=some xs) (h2:rC h xs Ts=some vals) :
  ∃v,(results fn a.tmps).run P w' = .ok v w'∧∃v',Ending.returned v = .returned v'∧Below w.heap.size w w'∧V (fun _=>Fr hX Bw w' false) lD (aX (bJ false vals)) v':=by
 obtain⟨vs,r1,r2⟩:=kC (P:=P) htb m hs h1
 have r3:=rO m h2 r2
 have r4:=oG (P:=P) _ fn.results w' r1
 have hbel:Below w.heap.size w w':=by
  subst hbw
  exact⟨m.kp.os,m.kp.tape,m.kp.output,m.kp.size,fun k hk=>m.kp.block k (hkp k hk)⟩
 refine⟨(if h:vs.toArray.size=1 then vs.toArray[0]else .tuple vs.toArray),?_,_,rfl,hbel,?_⟩
 ·unfold results
  rw[Sem.run_bind]
  exact(congrArg (fun r=>Result.andThen r (fun a w'=>Sem.run P (pure (if h:a.size=1 then a[0]else Value.tuple a)) w')) r4).trans rfl
 ·have hv2:=(j3 r3).1
  generalize bJ false vals=ys at r3 hv2 ⊢
  match ys,vs,r3 with
  | [],[],_=>simp only[aX,V];exact⟨#[],rfl,rfl,by simp only[VL]⟩
  | [y],[v],r3=>exact r3.1
  | y::y'::ys,v::v'::vs,r3 =>
   have:¬((v::v'::vs).toArray.size=1):=by simp
   rw[dif_neg this]
   simp only[aX,V]
   refine⟨_,rfl,by simpa using hv2.symm,VL.mk fun k x hk=> ?_⟩
   have:=(j3 r3).2 k
   rw[hk]at this
   have hk':k<(v::v'::vs).length:=by rw[←hv2];exact(List.getElem?_eq_some_iff.1 hk).1
   rw[List.getElem?_eq_getElem hk']at this
   exact⟨_,by simp[hk'],this⟩
theorem Pure.of_defer{A E:Type}(htb:TabOK P tb){f gd:FuncId}{fn fnd:Func}(hf:P.funcs[f]? = some fn)(hname:(fn.name == "runtime.NumGoroutine")=false)(hfd:P.funcs[gd]? = some fnd)(hnamed:(fnd.name == "runtime.NumGoroutine")=false)(hbd:fnd.body.isNone=false){cA cB c3:Code}{id:Nat}{o0 o1:Oper}
  (hb:fn.body=some (.seq cA (.seq cB (.seq (.region id #[o0,o1] false) c3)))) {t2 t3 d:Nat}
  (h0:o0.op = .makeFunc (.func gd) #[] #[.tmp t2,.tmp t3]) (h0d:o0.dst=some d) (h0g:o0.guard=none) (h1:o1.op = .defer { callee:= .value (.tmp d),args:= #[],argTypes:= #[] }) (h1d:o1.dst=none) (h1g:o1.guard=none)
  {args:List AVal} (hlen:args.length≤fn.ntmps) (hid:uR args=true) {l:List (Nat×AVal)} {m:List (Nat×Obj)} {nx s2 s3:Nat} (hld:(dL l d).isNone=true) (hdn:d<fn.ntmps) (hl2:dL l t2=some (.adr 0 0 s2 0)) (hl3:dL l t3=some (.adr 1 0 s3 0)) (hnx:2≤nx)
  (hA:∀Bw w0,W P fn.ntmps Bw w0 cA (vG args) (aAW P fn.ntmps Bw w0 cB (sT fn.ntmps (fun(_:Unit)=>aM l m nx 0) ())))
  {g:A→List (Σ T:Ty,T.den)} {fv:E→Value} {lp:List (Nat×AVal)} {mp:List (Nat×Obj)} {nxp:Nat} {res:A⊕E}
  (hC:∀Bw w0 D,W P ⟨fn.ntmps,D⟩ Bw w0 c3 (aM l m nx 2) (DQ ⟨fn.ntmps,D⟩ tb fn.results.toList g fv lp mp nxp res))
  (hrest:aI2 P gd 2) {hin:List (Nat×Obj)} {hout:E→List (Nat×Obj)} (hcat:∀e,Catches P gd [.adr 0 0 s2 0,.adr 1 0 s3 0] hin (hout e) (fv e))
  (hhand:lL [0,1] (aM lp mp nxp 2).h 0 [0,1]=some hin) (hok:∀e,J1 [0,1] (hout e) .unk=true) (Ts:List Ty) {gp:E→List (Σ T:Ty,T.den)}
  (hfin:∀e,(match L7 tb (aM lp mp nxp 2).s (apply (M2 [0,1] nxp (hout e)) (aM lp mp nxp 2).h) fn.results.toList with | some xs=>rC (apply (M2 [0,1] nxp (hout e)) (aM lp mp nxp 2).h) xs Ts | none=>none)=some (gp e)) :
  Pure P f args (aX (bJ false (aI6 g gp res))):=by
 refine⟨⟨fn,hf,hname,by rw[hb];rfl⟩,fun Bw w us hld hbw hargs=>calls_of_wp_defers hf hb ?_⟩
 have hF0:∀β a v,Fr hX Bw w β a v→Fr (own aFE (vG args).h) Bw w β a v:=fun β a v hh=>⟨fun⟨_,_,_,_,h3⟩=>h3,hh.2⟩
 obtain⟨hl,hg⟩:=j3 hargs
 have hR:R fn.ntmps Bw (nH hld) (vG args) { tmps:=us++Array.replicate (fn.ntmps - us.size) undef,defers:=[] } w:=by
  refine⟨⟨lD,aFE,⟨fun id o h=>(by cases h),fun id o k h=>(by cases h),fun id id' o o' k h1=>(by cases h1),hbw,fun k ⟨_,_,_,_,h3⟩=>h3.elim,Kept.refl _,fun i u h=>(by cases h)⟩,⟨?_,rfl,fun t=> ?_⟩,fun id u hu=>(by cases hu)⟩,fun i u h=>(by cases h)⟩
  ·have:us.size=args.length:=by rw[hl,Array.length_toList]
   simp only[Array.size_append,Array.size_replicate]
   omega
  ·have hv:=V.mono hF0 (fun _ _ h=>h) (hg t)
   simp only[vG]
   rcases Nat.lt_or_ge t us.size with q | q
   ·have e:(us++Array.replicate (fn.ntmps - us.size) undef).getD t undef=(us.toList[t]?).getD undef:=by
     simp[Array.getD_eq_getD_getElem?,Array.getElem?_append,q]
    rw[e]
    exact hv
   ·have:args[t]? = none:=List.getElem?_eq_none (by rw[hl,Array.length_toList];exact q)
    rw[this]
    simp only[Option.getD_none,V]
 refine wp_seq (wp_mono (hA Bw (nH hld) _ _ hR) fun e a1 w1 ⟨σ1,hR1,hq1⟩=> ?_)
 cases e with
 | exit _=>exact absurd hq1.1 (by simp)
 | goto _=>exact absurd hq1.1 (by simp)
 | ret=>exact absurd hq1.1 (by simp)
 | panic _=>exact absurd hq1.1 (by simp)
 | outgrown=>exact absurd hq1.1 (by simp)
 | normal =>
 refine wp_seq (wp_mono (hq1 a1 w1 hR1) fun e a2 w2 ⟨σ2,hR2,he2,hle2⟩=> ?_)
 subst he2
 have hR3:R fn.ntmps Bw (nH hld) (aM l m nx 0) a2 w2:=hle2 _ Bw (nH hld) a2 w2 hR2
 obtain⟨ρ,φ,q1,q2,q3⟩:=hR3.ex
 have hv2:=q2.sl t2
 have hv3:=q2.sl t3
 generalize hw2:a2.tmps.getD t2 undef=v2 at hv2
 generalize hw3:a2.tmps.getD t3 undef=v3 at hv3
 have e0:∀w,(execOp a2.eval o0).run P w = .ok (.value (.func (.func gd) #[] #[v2,v3])) w:=fun w=>by
  have:a2.eval (.tmp t2)=v2:=by rw[←hw2];rfl
  have:a2.eval (.tmp t3)=v3:=by rw[←hw3];rfl
  simp_all [execOp,Instr.makeFunc]
 have hed:(a2.put (some d) (.func (.func gd) #[] #[v2,v3])).eval (.tmp d) = .func (.func gd) #[] #[v2,v3]:=by
  have hlt:d<a2.tmps.size:=by rw[q2.tm];exact hdn
  simp[Act.eval,Act.put,Array.getD_eq_getD_getElem?,hlt]
 let D0:Deferred:= { target:= .fn (.func gd) #[v2,v3],args:= #[] }
 have e1:∀w,(execOp (a2.put (some d) (.func (.func gd) #[] #[v2,v3])).eval o1).run P w = .ok (.defer D0) w:=fun w=>by
  simp[execOp,h1,resolve,hed,Deferred.ofValue,D0]
 have w0':∀y,Region.wanted o0 y=true:=fun y=>by unfold Region.wanted;rw[h0g]
 have w1':∀y,Region.wanted o1 y=true:=fun y=>by unfold Region.wanted;rw[h1g]
 refine wp_seq (wp_region ?_)
 show wpOps P #[o0,o1] _ [0,1] _ _
 simp only[wpOps_cons,wpOp,List.getElem?_toArray,List.getElem?_cons_zero,List.getElem?_cons_succ,w0',w1',if_true]
 refine .inl ?_
 unfold Oper.wp
 rw[e0]
 simp only[Oper.upon]
 rw[h0d]
 simp only[wpOps_cons,wpOp,List.getElem?_toArray,List.getElem?_cons_zero,List.getElem?_cons_succ,w0',w1',if_true]
 refine .inl ?_
 unfold Oper.wp
 rw[e1]
 simp only[Oper.upon]
 rw[h1d]
 show c3.wp P _ _ _
 let b:Base P:=⟨w,fun k=>k<w.heap.size,fun _ h=>h,fun i=>if i<2 then ρ i else none,hld,(nH hld).lk⟩
 have q1':Mem Bw b ρ φ (aM l m nx 0).h w2:=⟨q1.ob,q1.lt,q1.dj,q1.bw,q1.ow,⟨q1.kp.os,q1.kp.tape,q1.kp.output,q1.kp.size,q1.kp.block⟩,fun i u hu=>by
  simp only[b]at hu
  split at hu
  ·exact hu
  ·cases hu⟩
 have hS:=q2.put (x:= .unk) (v:= .func (.func gd) #[] #[v2,v3]) (by simp only[V]) (d:=d) hdn
 have hR4:R ⟨fn.ntmps,[D0]⟩ Bw b (aM l m nx 2) (({ a2.put (some d) (.func (.func gd) #[] #[v2,v3])with defers:=D0::(a2.put (some d) (.func (.func gd) #[] #[v2,v3])).defers }:Act).put none undef) w2:=by
  refine⟨⟨ρ,φ,q1',⟨hS.tm,?_,fun t=> ?_⟩,q3⟩,fun i u hu=> ?_⟩
  ·have:(a2.put (some d) (.func (.func gd) #[] #[v2,v3])).defers=[]:=hS.df
   show D0::_=_
   rw[this]
  ·have:=hS.sl t
   by_cases e:t=d
   ·subst e
    have hn:dL l t=none:=by simpa using hld
    show V _ _ ((dL l t).getD .unk) _
    rw[hn]
    simp only[Option.getD_none,V]
   ·rw[aP _ _ e]at this
    exact this
  ·simp only[b]at hu
   split at hu
   ·assumption
   ·cases hu
 have pin0:∀ {φ':Nat→Nat→Prop} {ρ':Nat→Option Value} {h':Nat→Option Obj} {w':World},Mem Bw b ρ' φ' h' w'→∀i,i<2→∀u,ρ i=some u→ρ' i=some u:=fun m i hi u hu=>m.pin i u (by simp only[b];rw[if_pos hi];exact hu)
 refine wp_mono (hC Bw b [D0] _ _ hR4) fun e a3 w3 ⟨σ3,hR5,hq3⟩=> ?_
 have hinv:∀w,(invoke (.fn (.func gd) #[v2,v3]) #[]).run P w = .ok (.enter gd #[v2,v3]) w:=fun w=>by
  have n1:¬fnd.name = "runtime.NumGoroutine" :=by simpa using hnamed
  have n2:¬fnd.body=none:=fun e=>by rw[e]at hbd;cases hbd
  simp[invoke,callFunc,hfd,n1,n2]
 cases res with
 | inl x =>
  obtain⟨rfl,xs,Ts',r1,r2⟩:=hq3
  obtain⟨ρ',φ',p1,p2,_⟩:=hR5.ex
  have hans:=aFx (P:=P) htb (fn:=fn) (w:=w) (b:=b) rfl (fun k hk=>hk) p1 p2 r1 r2
  show Leaves P fn a3.tmps _ a3.defers .returning w3
  rw[p2.df]
  refine leaves_cons (by simp) (hinv w3) ((hrest #[v2,v3] w3 rfl).mono ?_)
  rintro e u w'' ⟨⟨v,rfl⟩,rfl,rfl⟩
  obtain⟨v,hv,hr⟩:=hans
  exact⟨v,hv,hr⟩
 | inr ev =>
  obtain⟨rfl,hle⟩:=hq3
  obtain⟨ρ',φ',p1,p2,p3⟩:=(hle _ Bw b a3 w3 hR5).ex
  show Leaves P fn a3.tmps _ a3.defers (.panicking [{ v:=fv ev,recovered:=false }]) w3
  rw[p2.df]
  have hn:([0,1]:List Nat).Nodup:=by decide
  obtain⟨mc,L⟩:=yC p1 hn hhand
  have hV:VVs (Fr (own φ' (aM lp mp nxp 2).h) Bw w3) ρ' [.adr 0 0 s2 0,.adr 1 0 s3 0] [v2,v3]:=by
   have f2:V (Fr (own φ (aM l m nx 0).h) Bw w2) ρ (.adr 0 0 s2 0) v2:=by
    have:=hv2
    simp only[aM,hl2,Option.getD_some]at this
    exact this
   have f3:V (Fr (own φ (aM l m nx 0).h) Bw w2) ρ (.adr 1 0 s3 0) v3:=by
    have:=hv3
    simp only[aM,hl3,Option.getD_some]at this
    exact this
   simp only[V]at f2 f3
   obtain⟨g2,k2,r2⟩:=f2
   obtain⟨g3,k3,r3⟩:=f3
   refine⟨?_,?_,trivial⟩
   ·simp only[V]
    exact⟨g2,k2.imp (pin0 p1 0 (by omega) _) (fun⟨n,c,h⟩=>⟨n,c,pin0 p1 0 (by omega) _ h⟩),r2⟩
   ·simp only[V]
    exact⟨g3,k3.imp (pin0 p1 1 (by omega) _) (fun⟨n,c,h⟩=>⟨n,c,pin0 p1 1 (by omega) _ h⟩),r3⟩
  have hargs':=oS p1 L (xs:=[.adr 0 0 s2 0,.adr 1 0 s3 0]) (ys:=[.adr 0 0 s2 0,.adr 1 0 s3 0]) (by rfl) hV
  have hcall:=hcat ev (wK φ' (less [0,1] (aM lp mp nxp 2).h) Bw) (fR p1 [0,1]) (fun i=>φ' (([0,1]:List Nat).getD i 0)) #[v2,v3] mc hargs' (fun i u e=>by
   rw[mK hhand]
   simp only[fR]at e
   split at e
   ·assumption
   ·cases e)
  refine leaves_cons (by simp) (hinv w3) (hcall.mono ?_)
  rintro e u w'' ⟨v,ρ2,φ2,rfl,rfl,m2⟩
  have hn8:∀j,j<8→ρ' (nxp+j)=none:=fun j hj=>by
   cases hq:ρ' (nxp+j)with
   | none=>rfl
   | some u=>have:=p3 _ u hq;simp only[aM]at this;omega
  obtain⟨ρ3,φ3,s1,s2',s3',_,_⟩:=yE (r:= .unk) (v:=undef) p1 hn hn8 (vV hhand) (hok ev) m2 trivial
  have hS3:=p2.mono s2' s3'
  have hfin':=hfin ev
  split at hfin'
  ·rename_i xs hxs
   obtain⟨v,hv,hr⟩:=aFx (P:=P) htb (fn:=fn) (w:=w) (b:=b) rfl (fun k hk=>hk) s1 hS3 hxs hfin'
   exact⟨v,hv,hr⟩
  ·cases hfin'
end
end Go.Tv
