/- Functions for which the model stands in: the place of a byte in a string. -/
import Derived.Test.YtacpjjgochokcaaDoorTvSm
import Derived.Lib.Bytealg
import Derived.WalkKit
import Derived.WalkLawsBesides
import Derived.Recover
import Derived.KernelRfl
import Derived.Lib.TrailingZeros
namespace Go.Tv
open Go Go.RowKit
def rR:List UInt8→Int→Int→Int
 | [],_,_=> -1
 | x::r,c,k=>if x == c.toNat.toUInt8 then k else rR r c (k+1)
theorem aBi(c:Int):∀(l:List UInt8) (k:Int),0≤k→rR l c k=if Lib.indexByte l c.toNat.toUInt8 == -1 then -1 else Lib.indexByte l c.toNat.toUInt8+k
 | [],k,_=>rfl
 | x::r,k,hk=>by
  have h:=Lib.indexByte_ge r c.toNat.toUInt8
  simp only[rR,Lib.indexByte]
  rw[aBi c r (k+1) (by omega)]
  split
  ·simp
  ·split
   ·simp
   ·rename_i h2 h3
    simp only[beq_iff_eq]at h3
    have h4:(Lib.indexByte r c.toNat.toUInt8+1 == -1)=false:=by simp only[beq_eq_false_iff_ne,ne_eq];omega
    rw[h4]
    simp only[Bool.false_eq_true,if_false]
    omega
theorem Pure.of_idx{P:Program}{f:FuncId}{fn:Func}(hf:P.funcs[f]? = some fn)(hname:(fn.name == "runtime.NumGoroutine")=false)(hb:fn.body.isNone=false){β1 β2:Bool}{s:List UInt8}{c:Int}
  (h:∀(s:ByteArray) w,Calls P f #[.string s,.int .u8 c] w fun e w'=>e = .returned (.int .i64 (Lib.indexByte s.data.toList c.toNat.toUInt8))∧w'=w):Pure P f [.p β1 .str s,.p β2 (.int .u8) c] (.p false (.int .i64) (rR s c 0)):=by
 refine⟨⟨fn,hf,hname,hb⟩,fun Bw w us hld hbw hargs=> ?_⟩
 match hus:us.toList,hargs with
 | [v0,v1],hargs =>
  have e1:=tN hargs.1
  have e2:=dF hargs.2.1
  subst e1 e2
  have:us = #[.string ⟨List.toArray s⟩,.int .u8 c]:=Array.ext' hus
  subst this
  refine(h ⟨List.toArray s⟩ w).mono fun r w' ⟨h1,h2⟩=>⟨_,h1,by subst h2;exact(Kept.refl (m8 hld)).below,?_⟩
  have e3:rR s c 0=Lib.indexByte s c.toNat.toUInt8:=by
   rw[aBi c s 0 (by omega)]
   split
   ·rename_i h3
    simp only[beq_iff_eq]at h3
    exact h3.symm
   ·omega
  rw[e3]
  exact fR _ _ _
end Go.Tv
namespace Go.Tv
open Go Go.RowKit
section
variable{P:Program}{tb:Tab}
def Catches(P:Program)(g:FuncId)(args:List AVal)(hin hout:List (Nat×Obj))(x:Value):Prop :=
 ∀(Bw:Nat→Prop) (b:Base P) (φ:Nat→Nat→Prop) (vals:Array Value),Mem Bw b b.pin φ (fun i=>look hin i) b.w →
  VVs (Fr (own φ (fun i=>look hin i)) Bw b.w) b.pin args vals.toList→(∀i u,b.pin i=some u→i<hin.length) →
  CallsD P g vals (.panicking [{ v:=x,recovered:=false }]) b.w fun e u w'=>∃v ρ' φ',e = .returned v∧u = .panicking [{ v:=x,recovered:=true }]∧Mem Bw b ρ' φ' (fun i=>look hout i) w'
def aFg(P:Program)(g:FuncId)(k:Nat):Prop :=
 ∀(vals:Array Value) (w:World),vals.size=k→CallsD P g vals .returning w fun e u w'=>(∃v,e = .returned v)∧u = .returning∧w'=w
theorem R6{fn:Func}(h:fn.results = #[])(tmps:Array Value)(w:World):(results fn tmps).run P w = .ok (.tuple #[]) w:=by
 simp[results,h]
theorem Catches.of_body{g:FuncId}{fn:Func}(hf:P.funcs[g]? = some fn){o0 o1:Oper}{id:Nat}{c:Code}(hb:fn.body=some (.seq (.region id #[o0,o1] false) c))(hres:fn.results = #[]){d0 d1:Nat}
  (h0:o0.op = .call { callee:= .builtin .recover,args:= #[],argTypes:= #[] }) (h0d:o0.dst=some d0) (h0g:o0.guard=none) (h1:o1.op = .assign (.tmp d0)) (h1d:o1.dst=some d1) (h1g:o1.guard=none)
  (hd:(decide (2≤d0) && decide (2≤d1) && decide (d0<fn.ntmps) && decide (d1<fn.ntmps))=true) {a0 a1:AVal} {hin hout:List (Nat×Obj)} {x:Value} {nx pn:Nat} (hpn:hin.length=pn)
  (hK:∀Bw w0,W P fn.ntmps Bw w0 c (aO [(0,a0),(1,a1),(d1,.lit x)] hin pn pn) (sQ fn.ntmps (fun(_:Unit)=>aO [] hout nx pn) ())):Catches P g [a0,a1] hin hout x:=by
 subst hpn
 simp only[Bool.and_eq_true,decide_eq_true_eq]at hd
 obtain⟨⟨⟨k0,k1⟩,k2⟩,k3⟩:=hd
 refine fun Bw b φ vals m hargs hpin=>callsD_of_wpS hf hb fun c₀ cs hu=> ?_
 match hus:vals.toList,hargs with
 | [v0,v1],hargs =>
 have hv:vals = #[v0,v1]:=Array.ext' hus
 subst hv
 apply wpS_seq
 apply wpS_region
 have e0:∀ρ:Operand→Value,(execOp ρ o0).run P b.w = .ok .recover b.w:=fun ρ=>by
  simp[execOp,h0,resolve,invoke,builtin]
 have e1:∀ρ:Operand→Value,(execOp ρ o1).run P b.w = .ok (.value (ρ (.tmp d0))) b.w:=fun ρ=>by
  simp[execOp,h1]
 have er:recoverD (c₀ :: cs)=some (x,{ c₀ with mode:= .panicking [{ v:=x,recovered:=true }] }::cs):=by
  simp[recoverD,hu]
 have w0':∀y,Region.wanted o0 y=true:=fun y=>by unfold Region.wanted;rw[h0g]
 have w1':∀y,Region.wanted o1 y=true:=fun y=>by unfold Region.wanted;rw[h1g]
 show wpOpsS P #[o0,o1] _ [0,1] _ _ _
 simp only[wpOpsS,List.getElem?_toArray,List.getElem?_cons_zero,List.getElem?_cons_succ,w0',w1',if_true,e0,er,e1,Oper.upon]
 simp only[Exit.thenS]
 refine wpS_of_wp ?_
 have hS0:Slots (fn.ntmps:NS) (Fr (own φ (fun i=>look hin i)) Bw b.w) b.pin (fun t=>(([a0,a1]:List AVal)[t]?).getD .unk) { tmps:= #[v0,v1]++Array.replicate (fn.ntmps - 2) undef,defers:=[] }:=by
  refine⟨?_,rfl,fun t=> ?_⟩
  ·simp only[Array.size_append,Array.size_replicate]
   show 2+(fn.ntmps - 2)=fn.ntmps
   omega
  ·match t with
   | 0 =>
    have g0:(#[v0,v1]++Array.replicate (fn.ntmps - 2) undef).getD 0 undef=v0:=by simp[Array.getD_eq_getD_getElem?,Array.getElem?_append]
    show V _ _ a0 ((#[v0,v1]++Array.replicate (fn.ntmps - 2) undef).getD 0 undef)
    rw[g0]
    exact hargs.1
   | 1 =>
    have g0:(#[v0,v1]++Array.replicate (fn.ntmps - 2) undef).getD 1 undef=v1:=by simp[Array.getD_eq_getD_getElem?,Array.getElem?_append]
    show V _ _ a1 ((#[v0,v1]++Array.replicate (fn.ntmps - 2) undef).getD 1 undef)
    rw[g0]
    exact hargs.2.1
   | t+2=>simp only[List.getElem?_cons_succ,List.getElem?_nil,Option.getD_none,V]
 have hS1:=(hS0.put (x:= .lit x) (v:=x) (by simp only[V]) (d:=d0) k2).put (x:= .lit x) (v:=x) (by simp only[V]) (d:=d1) k3
 have hval:Act.eval (Act.put { tmps:= #[v0,v1]++Array.replicate (fn.ntmps - (#[v0,v1]:Array Value).size) undef,defers:=[] } (some d0) x) (.tmp d0)=x:=by
  simp[Act.eval,Act.put]
  omega
 rw[h0d,h1d,hval]
 refine wp_mono (hK Bw b _ b.w ⟨⟨b.pin,φ,m,⟨hS1.tm,hS1.df,fun t=> ?_⟩,fun id u hu=>hpin id u hu⟩,fun i u h=>hpin i u h⟩) fun e a' w' ⟨σ',hR',he,hle⟩=> ?_
 ·have:=hS1.sl t
  simp only[aO,look]
  by_cases q0:0=t
  ·subst q0
   simp only[if_true,Option.getD_some]
   rw[bG _ _ (by omega),bG _ _ (by omega)]at this
   exact this
  ·by_cases q1:1=t
   ·subst q1
    simp only[if_true,Option.getD_some]
    rw[bG _ _ (by omega),bG _ _ (by omega)]at this
    simpa using this
   ·by_cases q2:d1=t
    ·subst q2
     rw[if_neg q0,if_neg q1,if_pos rfl]
     rw[aM]at this
     exact this
    ·rw[if_neg q0,if_neg q1,if_neg q2]
     simp only[Option.getD_none,V]
 ·subst he
  obtain⟨ρ',φ',q1,q2,_⟩:=(hle _ Bw b a' w' hR').ex
  exact⟨q2.df,_,rfl,_,R6 hres _ _,_,ρ',φ',rfl,rfl,q1⟩
def DQ{A E:Type}(n:NS)(tb:Tab)(rs:List ResultVar)(g:A→List (Σ T:Ty,T.den))(f:E→Value)(lp:List (Nat×AVal))(mp:List (Nat×Obj))(nxp:Nat):A⊕E→Exit→St→Prop
 | .inl x=>qA tb rs g x
 | .inr e=>fun ex σ=>ex = .panic [{ v:=f e,recovered:=false }]∧Le n σ (aO lp mp nxp 2)
def aFe{A E:Type}(g:A→List (Σ T:Ty,T.den))(gp:E→List (Σ T:Ty,T.den)):A⊕E→List (Σ T:Ty,T.den)
 | .inl x=>g x
 | .inr e=>gp e
theorem aAU(htb:TabOK P tb){fn:Func}{w:World}{b:Base P}(hbw:b.w=w){n:NS}{Bw:Nat→Prop}{ρ:Nat→Option Value}{φ:Nat→Nat→Prop}{s:Nat→AVal}{h:Nat→Option Obj}{a:Act}{w':World}(hkp:∀k,k<w.heap.size→b.kp k)(m:Mem Bw b ρ φ h w')
  (hs:Slots n (Fr (own φ h) Bw w') ρ s a) {xs:List AVal} {Ts:List Ty} {vals:List (Σ T:Ty,T.den)} (h1:wL tb s h fn.results.toList=some xs) (h2:oB h xs Ts=some vals) :
  ∃v,(results fn a.tmps).run P w' = .ok v w'∧∃v',Ending.returned v = .returned v'∧Below w.heap.size w w'∧V (fun _=>Fr gD Bw w' false) kF (cE (gG false vals)) v':=by
 obtain⟨vs,r1,r2⟩:=jG (P:=P) htb m hs h1
 have r3:=nU m h2 r2
 have r4:=mE (P:=P) _ fn.results w' r1
 have hbel:Below w.heap.size w w':=by
  subst hbw
  exact⟨m.kp.os,m.kp.tape,m.kp.output,m.kp.size,fun k hk=>m.kp.block k (hkp k hk)⟩
 refine⟨(if h:vs.toArray.size=1 then vs.toArray[0]else .tuple vs.toArray),?_,_,rfl,hbel,?_⟩
 ·unfold results
  rw[Sem.run_bind]
  exact(congrArg (fun r=>Result.andThen r (fun a w'=>Sem.run P (pure (if h:a.size=1 then a[0]else Value.tuple a)) w')) r4).trans rfl
 ·have hv2:=(i8 r3).1
  generalize gG false vals=ys at r3 hv2 ⊢
  match ys,vs,r3 with
  | [],[],_=>simp only[cE,V];exact⟨#[],rfl,rfl,by simp only[VL]⟩
  | [y],[v],r3=>exact r3.1
  | y::y'::ys,v::v'::vs,r3 =>
   have:¬((v::v'::vs).toArray.size=1):=by simp
   rw[dif_neg this]
   simp only[cE,V]
   refine⟨_,rfl,by simpa using hv2.symm,VL.mk fun k x hk=> ?_⟩
   have:=(i8 r3).2 k
   rw[hk]at this
   have hk':k<(v::v'::vs).length:=by rw[←hv2];exact(List.getElem?_eq_some_iff.1 hk).1
   rw[List.getElem?_eq_getElem hk']at this
   exact⟨_,by simp[hk'],this⟩
theorem Pure.of_defer{A E:Type}(htb:TabOK P tb){f gd:FuncId}{fn fnd:Func}(hf:P.funcs[f]? = some fn)(hname:(fn.name == "runtime.NumGoroutine")=false)(hfd:P.funcs[gd]? = some fnd)(hnamed:(fnd.name == "runtime.NumGoroutine")=false)(hbd:fnd.body.isNone=false){cA cB c3:Code}{id:Nat}{o0 o1:Oper}
  (hb:fn.body=some (.seq cA (.seq cB (.seq (.region id #[o0,o1] false) c3)))) {t2 t3 d:Nat}
  (h0:o0.op = .makeFunc (.func gd) #[] #[.tmp t2,.tmp t3]) (h0d:o0.dst=some d) (h0g:o0.guard=none) (h1:o1.op = .defer { callee:= .value (.tmp d),args:= #[],argTypes:= #[] }) (h1d:o1.dst=none) (h1g:o1.guard=none)
  {args:List AVal} (hlen:args.length≤fn.ntmps) (hid:sX args=true) {l:List (Nat×AVal)} {m:List (Nat×Obj)} {nx s2 s3:Nat} (hld:(look l d).isNone=true) (hdn:d<fn.ntmps) (hl2:look l t2=some (.adr 0 0 s2 0)) (hl3:look l t3=some (.adr 1 0 s3 0)) (hnx:2≤nx)
  (hA:∀Bw w0,W P fn.ntmps Bw w0 cA (o8 args) (G7 P fn.ntmps Bw w0 cB (sQ fn.ntmps (fun(_:Unit)=>aO l m nx 0) ())))
  {g:A→List (Σ T:Ty,T.den)} {fv:E→Value} {lp:List (Nat×AVal)} {mp:List (Nat×Obj)} {nxp:Nat} {res:A⊕E}
  (hC:∀Bw w0 D,W P ⟨fn.ntmps,D⟩ Bw w0 c3 (aO l m nx 2) (DQ ⟨fn.ntmps,D⟩ tb fn.results.toList g fv lp mp nxp res))
  (hrest:aFg P gd 2) {hin:List (Nat×Obj)} {hout:E→List (Nat×Obj)} (hcat:∀e,Catches P gd [.adr 0 0 s2 0,.adr 1 0 s3 0] hin (hout e) (fv e))
  (hhand:kG [0,1] (aO lp mp nxp 2).h 0 [0,1]=some hin) (hok:∀e,vI [0,1] (hout e) .unk=true) (Ts:List Ty) {gp:E→List (Σ T:Ty,T.den)}
  (hfin:∀e,(match wL tb (aO lp mp nxp 2).s (apply (wO [0,1] nxp (hout e)) (aO lp mp nxp 2).h) fn.results.toList with | some xs=>oB (apply (wO [0,1] nxp (hout e)) (aO lp mp nxp 2).h) xs Ts | none=>none)=some (gp e)) :
  Pure P f args (cE (gG false (aFe g gp res))):=by
 refine⟨⟨fn,hf,hname,by rw[hb];rfl⟩,fun Bw w us hld hbw hargs=>calls_of_wp_defers hf hb ?_⟩
 have hF0:∀β a v,Fr gD Bw w β a v→Fr (own aAP (o8 args).h) Bw w β a v:=fun β a v hh=>⟨fun⟨_,_,_,_,h3⟩=>h3,hh.2⟩
 obtain⟨hl,hg⟩:=i8 hargs
 have hR:R fn.ntmps Bw (m8 hld) (o8 args) { tmps:=us++Array.replicate (fn.ntmps - us.size) undef,defers:=[] } w:=by
  refine⟨⟨kF,aAP,⟨fun id o h=>(by cases h),fun id o k h=>(by cases h),fun id id' o o' k h1=>(by cases h1),hbw,fun k ⟨_,_,_,_,h3⟩=>h3.elim,Kept.refl _,fun i u h=>(by cases h)⟩,⟨?_,rfl,fun t=> ?_⟩,fun id u hu=>(by cases hu)⟩,fun i u h=>(by cases h)⟩
  ·have:us.size=args.length:=by rw[hl,Array.length_toList]
   simp only[Array.size_append,Array.size_replicate]
   omega
  ·have hv:=V.mono hF0 (fun _ _ h=>h) (hg t)
   simp only[o8]
   rcases Nat.lt_or_ge t us.size with q | q
   ·have e:(us++Array.replicate (fn.ntmps - us.size) undef).getD t undef=(us.toList[t]?).getD undef:=by
     simp[Array.getD_eq_getD_getElem?,Array.getElem?_append,q]
    rw[e]
    exact hv
   ·have:args[t]? = none:=List.getElem?_eq_none (by rw[hl,Array.length_toList];exact q)
    rw[this]
    simp only[Option.getD_none,V]
 refine wp_seq (wp_mono (hA Bw (m8 hld) _ _ hR) fun e a1 w1 ⟨σ1,hR1,hq1⟩=> ?_)
 cases e with
 | exit _=>exact absurd hq1.1 (by simp)
 | goto _=>exact absurd hq1.1 (by simp)
 | ret=>exact absurd hq1.1 (by simp)
 | panic _=>exact absurd hq1.1 (by simp)
 | outgrown=>exact absurd hq1.1 (by simp)
 | normal =>
 refine wp_seq (wp_mono (hq1 a1 w1 hR1) fun e a2 w2 ⟨σ2,hR2,he2,hle2⟩=> ?_)
 subst he2
 have hR3:R fn.ntmps Bw (m8 hld) (aO l m nx 0) a2 w2:=hle2 _ Bw (m8 hld) a2 w2 hR2
 obtain⟨ρ,φ,q1,q2,q3⟩:=hR3.ex
 have hv2:=q2.sl t2
 have hv3:=q2.sl t3
 generalize hw2:a2.tmps.getD t2 undef=v2 at hv2
 generalize hw3:a2.tmps.getD t3 undef=v3 at hv3
 have e0:∀w,(execOp a2.eval o0).run P w = .ok (.value (.func (.func gd) #[] #[v2,v3])) w:=fun w=>by
  have:a2.eval (.tmp t2)=v2:=by rw[←hw2];rfl
  have:a2.eval (.tmp t3)=v3:=by rw[←hw3];rfl
  simp_all [execOp,Instr.makeFunc]
 have hed:(a2.put (some d) (.func (.func gd) #[] #[v2,v3])).eval (.tmp d) = .func (.func gd) #[] #[v2,v3]:=by
  have hlt:d<a2.tmps.size:=by rw[q2.tm];exact hdn
  simp[Act.eval,Act.put,Array.getD_eq_getD_getElem?,hlt]
 let D0:Deferred:= { target:= .fn (.func gd) #[v2,v3],args:= #[] }
 have e1:∀w,(execOp (a2.put (some d) (.func (.func gd) #[] #[v2,v3])).eval o1).run P w = .ok (.defer D0) w:=fun w=>by
  simp[execOp,h1,resolve,hed,Deferred.ofValue,D0]
 have w0':∀y,Region.wanted o0 y=true:=fun y=>by unfold Region.wanted;rw[h0g]
 have w1':∀y,Region.wanted o1 y=true:=fun y=>by unfold Region.wanted;rw[h1g]
 refine wp_seq (wp_region ?_)
 show wpOps P #[o0,o1] _ [0,1] _ _
 simp only[wpOps_cons,wpOp,List.getElem?_toArray,List.getElem?_cons_zero,List.getElem?_cons_succ,w0',w1',if_true]
 refine .inl ?_
 unfold Oper.wp
 rw[e0]
 simp only[Oper.upon]
 rw[h0d]
 simp only[wpOps_cons,wpOp,List.getElem?_toArray,List.getElem?_cons_zero,List.getElem?_cons_succ,w0',w1',if_true]
 refine .inl ?_
 unfold Oper.wp
 rw[e1]
 simp only[Oper.upon]
 rw[h1d]
 show c3.wp P _ _ _
 let b:Base P:=⟨w,fun k=>k<w.heap.size,fun _ h=>h,fun i=>if i<2 then ρ i else none,hld,(m8 hld).lk⟩
 have q1':Mem Bw b ρ φ (aO l m nx 0).h w2:=⟨q1.ob,q1.lt,q1.dj,q1.bw,q1.ow,⟨q1.kp.os,q1.kp.tape,q1.kp.output,q1.kp.size,q1.kp.block⟩,fun i u hu=>by
  simp only[b]at hu
  split at hu
  ·exact hu
  ·cases hu⟩
 have hS:=q2.put (x:= .unk) (v:= .func (.func gd) #[] #[v2,v3]) (by simp only[V]) (d:=d) hdn
 have hR4:R ⟨fn.ntmps,[D0]⟩ Bw b (aO l m nx 2) (({ a2.put (some d) (.func (.func gd) #[] #[v2,v3])with defers:=D0::(a2.put (some d) (.func (.func gd) #[] #[v2,v3])).defers }:Act).put none undef) w2:=by
  refine⟨⟨ρ,φ,q1',⟨hS.tm,?_,fun t=> ?_⟩,q3⟩,fun i u hu=> ?_⟩
  ·have:(a2.put (some d) (.func (.func gd) #[] #[v2,v3])).defers=[]:=hS.df
   show D0::_=_
   rw[this]
  ·have:=hS.sl t
   by_cases e:t=d
   ·subst e
    have hn:look l t=none:=by simpa using hld
    show V _ _ ((look l t).getD .unk) _
    rw[hn]
    simp only[Option.getD_none,V]
   ·rw[bG _ _ e]at this
    exact this
  ·simp only[b]at hu
   split at hu
   ·assumption
   ·cases hu
 have pin0:∀ {φ':Nat→Nat→Prop} {ρ':Nat→Option Value} {h':Nat→Option Obj} {w':World},Mem Bw b ρ' φ' h' w'→∀i,i<2→∀u,ρ i=some u→ρ' i=some u:=fun m i hi u hu=>m.pin i u (by simp only[b];rw[if_pos hi];exact hu)
 refine wp_mono (hC Bw b [D0] _ _ hR4) fun e a3 w3 ⟨σ3,hR5,hq3⟩=> ?_
 have hinv:∀w,(invoke (.fn (.func gd) #[v2,v3]) #[]).run P w = .ok (.enter gd #[v2,v3]) w:=fun w=>by
  have n1:¬fnd.name = "runtime.NumGoroutine" :=by simpa using hnamed
  have n2:¬fnd.body=none:=fun e=>by rw[e]at hbd;cases hbd
  simp[invoke,callFunc,hfd,n1,n2]
 cases res with
 | inl x =>
  obtain⟨rfl,xs,Ts',r1,r2⟩:=hq3
  obtain⟨ρ',φ',p1,p2,_⟩:=hR5.ex
  have hans:=aAU (P:=P) htb (fn:=fn) (w:=w) (b:=b) rfl (fun k hk=>hk) p1 p2 r1 r2
  show Leaves P fn a3.tmps _ a3.defers .returning w3
  rw[p2.df]
  refine leaves_cons (by simp) (hinv w3) ((hrest #[v2,v3] w3 rfl).mono ?_)
  rintro e u w'' ⟨⟨v,rfl⟩,rfl,rfl⟩
  obtain⟨v,hv,hr⟩:=hans
  exact⟨v,hv,hr⟩
 | inr ev =>
  obtain⟨rfl,hle⟩:=hq3
  obtain⟨ρ',φ',p1,p2,p3⟩:=(hle _ Bw b a3 w3 hR5).ex
  show Leaves P fn a3.tmps _ a3.defers (.panicking [{ v:=fv ev,recovered:=false }]) w3
  rw[p2.df]
  have hn:([0,1]:List Nat).Nodup:=by decide
  obtain⟨mc,L⟩:=rO p1 hn hhand
  have hV:VVs (Fr (own φ' (aO lp mp nxp 2).h) Bw w3) ρ' [.adr 0 0 s2 0,.adr 1 0 s3 0] [v2,v3]:=by
   have f2:V (Fr (own φ (aO l m nx 0).h) Bw w2) ρ (.adr 0 0 s2 0) v2:=by
    have:=hv2
    simp only[aO,hl2,Option.getD_some]at this
    exact this
   have f3:V (Fr (own φ (aO l m nx 0).h) Bw w2) ρ (.adr 1 0 s3 0) v3:=by
    have:=hv3
    simp only[aO,hl3,Option.getD_some]at this
    exact this
   simp only[V]at f2 f3
   obtain⟨g2,k2,r2⟩:=f2
   obtain⟨g3,k3,r3⟩:=f3
   refine⟨?_,?_,trivial⟩
   ·simp only[V]
    exact⟨g2,k2.imp (pin0 p1 0 (by omega) _) (fun⟨n,c,h⟩=>⟨n,c,pin0 p1 0 (by omega) _ h⟩),r2⟩
   ·simp only[V]
    exact⟨g3,k3.imp (pin0 p1 1 (by omega) _) (fun⟨n,c,h⟩=>⟨n,c,pin0 p1 1 (by omega) _ h⟩),r3⟩
  have hargs':=mR p1 L (xs:=[.adr 0 0 s2 0,.adr 1 0 s3 0]) (ys:=[.adr 0 0 s2 0,.adr 1 0 s3 0]) (by rfl) hV
  have hcall:=hcat ev (t5 φ' (less [0,1] (aO lp mp nxp 2).h) Bw) (e9 p1 [0,1]) (fun i=>φ' (([0,1]:List Nat).getD i 0)) #[v2,v3] mc hargs' (fun i u e=>by
   rw[lL hhand]
   simp only[e9]at e
   split at e
   ·assumption
   ·cases e)
  refine leaves_cons (by simp) (hinv w3) (hcall.mono ?_)
  rintro e u w'' ⟨v,ρ2,φ2,rfl,rfl,m2⟩
  have hn8:∀j,j<8→ρ' (nxp+j)=none:=fun j hj=>by
   cases hq:ρ' (nxp+j)with
   | none=>rfl
   | some u=>have:=p3 _ u hq;simp only[aO]at this;omega
  obtain⟨ρ3,φ3,s1,s2',s3',_,_⟩:=rV (r:= .unk) (v:=undef) p1 hn hn8 (qE hhand) (hok ev) m2 trivial
  have hS3:=p2.mono s2' s3'
  have hfin':=hfin ev
  split at hfin'
  ·rename_i xs hxs
   obtain⟨v,hv,hr⟩:=aAU (P:=P) htb (fn:=fn) (w:=w) (b:=b) rfl (fun k hk=>hk) s1 hS3 hxs hfin'
   exact⟨v,hv,hr⟩
  ·cases hfin'
end
end Go.Tv
namespace Go.Tv
open Go
theorem tt:True:=trivial
def Ts:Nat→List Prop→List Prop
 | 0,l=>l
 | n+1,l=>True::Ts n l
theorem tr:∀(n:Nat) {l:List Prop},pT l→pT (Ts n l)
 | 0,_,h=>h
 | n+1,_,h=>⟨trivial,tr n h⟩
theorem sI{α:Type}{a b:α}(h:some a=some b):a=b:=Option.some.inj h
theorem nl{a b:Nat}(h:Nat.ble a b=true):a≤b:=Nat.le_of_ble_eq_true h
def pO{p:Prop}(_:p):Prop:=p
section
variable{P:Program}{n:NS}{Bw:Nat→Prop}{w0:Base P}{σ:St}{Q:Exit→St→Prop}{tb:Tab}
theorem gl(gs:List G)(f:List Nat){l:List (Nat×AVal)}{m:List (Nat×Obj)}{nx pn:Nat}(h:(J5 gs f l m σ,(σ.pn == pn && mU (fnL f) l m nx pn))=(some (zH f l m),true)):Le n σ (aO l m nx pn):=wS (Prod.mk.inj h).1 (Prod.mk.inj h).2
end
end Go.Tv
namespace Go.Tv
open Go
structure PP where
 p:Prop
 h:p
def oc{p:Prop}(h:p):PP:=⟨p,h⟩
def cP:Nat→Nat→List (Nat×Nat×PP)→List Prop
 | 0,_,_=>[]
 | k+1,i,[]=>True::cP k (i+1) []
 | k+1,i,(j,e,c)::r=>match Nat.blt i j,Nat.blt i e with
  | true,_=>True::cP k (i+1) ((j,e,c)::r)
  | false,true=>c.p::cP k (i+1) ((j,e,c)::r)
  | false,false=>c.p::cP k (i+1) r
theorem y6:∀(k i:Nat) (l:List (Nat×Nat×PP)),pT (cP k i l)
 | 0,_,_=>trivial
 | k+1,i,[]=>⟨trivial,y6 k (i+1) []⟩
 | k+1,i,(j,e,c)::r=>by
  unfold cP
  split
  ·exact⟨trivial,y6 k (i+1) _⟩
  ·exact⟨c.h,y6 k (i+1) _⟩
  ·exact⟨c.h,y6 k (i+1) _⟩
def an{p:Prop}(h:p):PP:=oc (And.intro h trivial)
def ct:List Bool:=List.replicate 40 true
def a0:An:=⟨[],[]⟩
section
variable{P:Program}{fid:FuncId}{args:List AVal}{hin:List (Nat×Obj)}
def oP{r:AVal}(_:Pure P fid args r)(fl:List Bool:=[])(cn:List Bool:=ct):Orc:=⟨r,fl,false,cn,[],[],none⟩
def oO{r:AVal}{hout:List (Nat×Obj)}(_:Owns P fid args hin r hout)(g:List Nat)(fl:List Bool:=[])(cn:List Bool:=ct):Orc:=⟨r,fl,true,cn,g,hout,none⟩
def oD{x:Value}(_:Dies P fid args hin x)(g:List Nat)(fl:List Bool:=[])(cn:List Bool:=ct):Orc:=⟨.unk,fl,true,cn,g,[],some x⟩
end
theorem gg{n:NS}{σ:St}(gs:List G)(f:List Nat){l:List (Nat×AVal)}{m:List (Nat×Obj)}{nx pn:Nat}(h:(J5 gs f l m σ,(σ.pn == pn && mU (fnL f) l m nx pn))=(some (zH f l m),true):=by kernel_rfl):Le n σ (aO l m nx pn):=gl gs f h
theorem g2{α:Type}{p q:Prop}[Decidable p][Decidable q]{x:Option α}{r:α}(h:(if p then(if q then x else none)else none)=some r):p∧q∧x=some r:=⟨(bC h).1,bC (bC h).2⟩
theorem g3{α:Type}{p q s:Prop}[Decidable p][Decidable q][Decidable s]{x:Option α}{r:α}(h:(if p then(if q then(if s then x else none)else none)else none)=some r):p∧q∧s∧x=some r:=⟨(bC h).1,g2 (bC h).2⟩
theorem g4{α:Type}{p q s t:Prop}[Decidable p][Decidable q][Decidable s][Decidable t]{x:Option α}{r:α}(h:(if p then(if q then(if s then(if t then x else none)else none)else none)else none)=some r):p∧q∧s∧t∧x=some r:=⟨(bC h).1,g3 (bC h).2⟩
theorem cF{α:Type}{b:Bool}{x y:Option α}{r:α}(h:(if b=true then x else y)=some r):(b=true∧x=some r)∨(b=false∧y=some r):=by
 cases b with
 | true=>exact .inl ⟨rfl,h⟩
 | false=>exact .inr ⟨rfl,h⟩
section
variable{P:Program}{n:NS}{Bw:Nat→Prop}{w0:Base P}{σ σ1:St}{Q:Exit→St→Prop}{tb:Tab}
def iW(P:Program)(tb:Tab)(an:An)(n:NS)(ops:Array Oper)(σ:St):St :=
 match aBY P tb an n σ.nx ops ops.toList 0 σ.s σ.h with
 | some (s,h,_)=>⟨s,h,σ.nx+8*ops.size,σ.pn⟩
 | none=>σ
def iX(P:Program)(tb:Tab)(an:An)(n:NS)(ops:Array Oper)(σ:St):Option (List Prop) :=
 match aBY P tb an n σ.nx ops ops.toList 0 σ.s σ.h with
 | some (_,_,c)=>some c
 | none=>none
def S3(P:Program)(tb:Tab)(an:An)(n:NS)(ops:Array Oper)(σ:St):St :=
 match Q7 P tb an n σ.nx ops ops.toList 0 σ.s σ.h with
 | some (s,h,_,_)=>⟨s,h,σ.nx+8*ops.size,σ.pn⟩
 | none=>σ
def R3(P:Program)(tb:Tab)(an:An)(n:NS)(ops:Array Oper)(σ:St):Option (List Prop) :=
 match Q7 P tb an n σ.nx ops ops.toList 0 σ.s σ.h with
 | some (_,_,c,fw)=>match aB2 ops (sA fw) (sB fw) (qT ops) ops.size 0 (Array.replicate ops.size false)with
  | true=>some c
  | false=>none
 | none=>none
def N8(P:Program)(tb:Tab)(an:An)(n:NS)(ops:Array Oper)(r:Nat)(σ:St):Option (List Prop×Value) :=
 match pH P tb an n σ.nx ops r ops.toList 0 σ.s σ.h with
 | some (_,_,c,y)=>some (c,y)
 | none=>none
theorem aA{d:Code}(h:W P n Bw w0 d σ1 Q):∀σ',Le n σ' σ1→G7 P n Bw w0 d Q .normal σ':=fun _ hl=>aIH hl h
theorem aCU(htb:TabOK P tb)(an:An){id:Nat}{ops:Array Oper}(cs:List (Nat×Nat×PP))
  (h:iX P tb an n ops σ=some (cP ops.size 0 cs)) (hq:∀σ',Le n σ' (iW P tb an n ops σ)→Q .normal σ'):W P n Bw w0 (.region id ops false) σ Q:=by
 unfold iX at h
 unfold iW at hq
 split at h
 ·rename_i s hh c hr
  cases h
  rw[hr]at hq
  exact S2 htb an hr (y6 _ _ _) (hq _ (Le.refl _))
 ·cases h
theorem W_g(htb:TabOK P tb)(an:An){id:Nat}{ops:Array Oper}{d:Code}(cs:List (Nat×Nat×PP))
  (h:iX P tb an n ops σ=some (cP ops.size 0 cs)) (hq:W P n Bw w0 d (iW P tb an n ops σ) Q):W P n Bw w0 (.seq (.region id ops false) d) σ Q :=
 aC (aCU htb an cs h (aA hq))
theorem aGI(htb:TabOK P tb)(hm:P.follows .mixedOrders=true)(an:An){id:Nat}{ops:Array Oper}(cs:List (Nat×Nat×PP))
  (h:R3 P tb an n ops σ=some (cP ops.size 0 cs)) (hq:∀σ',Le n σ' (S3 P tb an n ops σ)→Q .normal σ'):W P n Bw w0 (.region id ops true) σ Q:=by
 unfold R3 at h
 unfold S3 at hq
 split at h
 ·rename_i s hh c fw hr
  split at h
  ·rename_i hx
   cases h
   rw[hr]at hq
   exact aFL htb hm an hr hx (y6 _ _ _) (hq _ (Le.refl _))
  ·cases h
 ·cases h
theorem W_d(htb:TabOK P tb)(hm:P.follows .mixedOrders=true)(an:An){id:Nat}{ops:Array Oper}{d:Code}(cs:List (Nat×Nat×PP))
  (h:R3 P tb an n ops σ=some (cP ops.size 0 cs)) (hq:W P n Bw w0 d (S3 P tb an n ops σ) Q):W P n Bw w0 (.seq (.region id ops true) d) σ Q :=
 aC (aGI htb hm an cs h (aA hq))
def cG:Nat→Nat→Prop→List Prop
 | 0,_,_=>[]
 | k+1,0,p=>p::Ts k []
 | k+1,i+1,p=>True::cG k i p
theorem aFd:∀(k i:Nat) {p:Prop},p→pT (cG k i p)
 | 0,_,_,_=>trivial
 | k+1,0,_,h=>⟨h,tr k trivial⟩
 | k+1,i+1,_,h=>⟨trivial,aFd k i h⟩
theorem aFs(htb:TabOK P tb)(i:Nat){α:Type}{p:Prop}[Decidable p]{u:Option α}{r:α}(h:(if p then u else none)=some r){id:Nat}{ops:Array Oper}
  (hk:iX P tb a0 n ops σ=some (cG ops.size i p)) (hq:u=some r→∀σ',Le n σ' (iW P tb a0 n ops σ)→Q .normal σ'):W P n Bw w0 (.region id ops false) σ Q:=by
 obtain⟨hp,hu⟩:=bC h
 replace hq:=hq hu
 unfold iX at hk
 unfold iW at hq
 split at hk
 ·rename_i s hh c hr
  cases hk
  rw[hr]at hq
  exact S2 htb a0 hr (aFd _ _ hp) (hq _ (Le.refl _))
 ·cases hk
theorem aHH(htb:TabOK P tb)(i:Nat){α:Type}{p:Prop}[Decidable p]{u:Option α}{r:α}(h:(if p then u else none)=some r){id:Nat}{ops:Array Oper}{d:Code}
  (hk:iX P tb a0 n ops σ=some (cG ops.size i p)) (hq:u=some r→W P n Bw w0 d (iW P tb a0 n ops σ) Q):W P n Bw w0 (.seq (.region id ops false) d) σ Q :=
 aC (aFs htb i h hk fun hu=>aA (hq hu))
theorem aHl(htb:TabOK P tb)(i:Nat){fid:FuncId}{args:List AVal}{r:AVal}(u:Pure P fid args r){id:Nat}{ops:Array Oper}
  (h:iX P tb ⟨[],[(i,oP u)]⟩ n ops σ=some (cP ops.size 0 [(i,i,oc u)])) (hq:∀σ',Le n σ' (iW P tb ⟨[],[(i,oP u)]⟩ n ops σ)→Q .normal σ'):W P n Bw w0 (.region id ops false) σ Q:=aCU htb _ _ h hq
theorem aH4(htb:TabOK P tb)(i:Nat){fid:FuncId}{args:List AVal}{r:AVal}(u:Pure P fid args r){id:Nat}{ops:Array Oper}{d:Code}
  (h:iX P tb ⟨[],[(i,oP u)]⟩ n ops σ=some (cP ops.size 0 [(i,i,oc u)])) (hq:W P n Bw w0 d (iW P tb ⟨[],[(i,oP u)]⟩ n ops σ) Q):W P n Bw w0 (.seq (.region id ops false) d) σ Q:=W_g htb _ _ h hq
theorem aGw(htb:TabOK P tb)(i:Nat)(g:List Nat){fid:FuncId}{args:List AVal}{hin hout:List (Nat×Obj)}{r:AVal}(u:Owns P fid args hin r hout){id:Nat}{ops:Array Oper}
  (h:iX P tb ⟨[],[(i,oO u g)]⟩ n ops σ=some (cP ops.size 0 [(i,i,oc u)])) (hq:∀σ',Le n σ' (iW P tb ⟨[],[(i,oO u g)]⟩ n ops σ)→Q .normal σ'):W P n Bw w0 (.region id ops false) σ Q:=aCU htb _ _ h hq
theorem aH8(htb:TabOK P tb)(i:Nat)(g:List Nat){fid:FuncId}{args:List AVal}{hin hout:List (Nat×Obj)}{r:AVal}(u:Owns P fid args hin r hout){id:Nat}{ops:Array Oper}{d:Code}
  (h:iX P tb ⟨[],[(i,oO u g)]⟩ n ops σ=some (cP ops.size 0 [(i,i,oc u)])) (hq:W P n Bw w0 d (iW P tb ⟨[],[(i,oO u g)]⟩ n ops σ) Q):W P n Bw w0 (.seq (.region id ops false) d) σ Q:=W_g htb _ _ h hq
theorem W_x(htb:TabOK P tb){fid:FuncId}{args:List AVal}{hin:List (Nat×Obj)}{y:Value}(_:Dies P fid args hin y)(an:An)(r:Nat){id:Nat}{ops:Array Oper}(cs:List (Nat×Nat×PP))
  (h:N8 P tb an n ops r σ=some (cP (r+1) 0 cs,y)) (hq:∀σ',Q (.panic [{ v:=y,recovered:=false }]) σ'):W P n Bw w0 (.region id ops false) σ Q:=by
 unfold N8 at h
 split at h
 ·rename_i s hh c y' hr
  cases h
  exact vW htb an r hr (y6 _ _ _) (hq _)
 ·cases h
theorem aIl(htb:TabOK P tb)(r:Nat)(g:List Nat){fid:FuncId}{args:List AVal}{hin:List (Nat×Obj)}{y:Value}(u:Dies P fid args hin y){id:Nat}{ops:Array Oper}
  (h:N8 P tb ⟨[],[(r,oD u g)]⟩ n ops r σ=some (cP (r+1) 0 [(r,r,oc u)],y)) (hq:∀σ',Q (.panic [{ v:=y,recovered:=false }]) σ'):W P n Bw w0 (.region id ops false) σ Q:=W_x htb u _ r _ h hq
def slB:AVal→Option Bool
 | .p _ .bool b=>some b
 | _=>none
theorem xL{x:AVal}{b:Bool}(h:slB x=some b):∃β,x = .p β .bool b:=by
 unfold slB at h
 split at h
 ·rename_i β b'
  cases h
  exact⟨β,rfl⟩
 ·cases h
theorem aW{b:Bool}{α:Type}{u v:Option α}{r:α}{c:Operand}{x y:Code}(h:(if b=true then u else v)=some r)
  (h1:b=true→u=some r→W P n Bw w0 x σ Q) (h2:b=false→v=some r→W P n Bw w0 y σ Q) (hc:slB (ev σ.s c)=some b:=by kernel_rfl):W P n Bw w0 (.cond c x y) σ Q:=by
 obtain⟨β,e⟩:=xL hc
 exact X6 e (fun hb=>h1 hb (aHS hb h)) (fun hb=>h2 hb (aGb hb h))
theorem aDw{b:Bool}(hb:b=true){c:Operand}{x y:Code}(h1:W P n Bw w0 x σ Q)(hc:slB (ev σ.s c)=some b:=by kernel_rfl):W P n Bw w0 (.cond c x y) σ Q:=by
 obtain⟨β,e⟩:=xL hc
 exact X6 e (fun _=>h1) (fun h=>by rw[hb]at h;cases h)
theorem aHp{b:Bool}(hb:b=false){c:Operand}{x y:Code}(h1:W P n Bw w0 y σ Q)(hc:slB (ev σ.s c)=some b:=by kernel_rfl):W P n Bw w0 (.cond c x y) σ Q:=by
 obtain⟨β,e⟩:=xL hc
 exact X6 e (fun h=>by rw[hb]at h;cases h) (fun _=>h1)
theorem gE{α β:Type}{m:Option α}{k:α→Option β}{r:β}{c:Code}(h:m.bind k=some r)(f:α→St)
  (h1:∀v,m=some v→W P n Bw w0 c σ (sQ n f v)) (h2:∀v,k v=some r→∀σ',Le n σ' (f v)→Q .normal σ'):W P n Bw w0 c σ Q:=by
 obtain⟨v,q1,q2⟩:=aD h
 refine(h1 v q1).mono fun e σ' hq=> ?_
 obtain⟨rfl,hl⟩:=hq
 exact h2 v q2 σ' hl
theorem aEP{α β:Type}{m:Option α}{k:α→Option β}{r:β}{c:Code}(h:m.bind k=some r)(F:α→Exit→St→Prop)
  (h1:∀v,m=some v→W P n Bw w0 c σ (F v)) (h2:∀v,k v=some r→∀e σ',F v e σ'→Q e σ'):W P n Bw w0 c σ Q:=by
 obtain⟨v,q1,q2⟩:=aD h
 exact(h1 v q1).mono (h2 v q2)
theorem qV{S T β:Type}{body:S→Option (S⊕T)}{k:T→Option β}{r:β}{c:Code}{x:S}(h:(iter body x).bind k=some r)(f:S→St)(F:T→Exit→St→Prop)(hl:Le n σ (f x))
  (step:∀y o,body y=some o→W P n Bw w0 c (f y) (nY n f F o)) (h2:∀v,k v=some r→∀e σ',F v e σ'→Q e σ'):W P n Bw w0 (.loop c) σ Q:=by
 obtain⟨v,q1,q2⟩:=aD h
 exact(aFD f F q1 hl step).mono (h2 v q2)
theorem jO{S T β:Type}{body:S→Option (S⊕T)}{k:T→Option β}{r:β}{c:Code}{x:S}(h:(iter body x).bind k=some r)(f:S→St)(j:Nat)(g:T→St)(hl:Le n σ (f x))
  (step:∀y o,body y=some o→W P n Bw w0 c (f y) (nY n f (iU n j g) o)) (h2:∀v,k v=some r→∀σ',Le n σ' (g v)→Q (.exit j) σ'):W P n Bw w0 (.loop c) σ Q:=by
 refine qV h f (iU n j g) hl step fun v hk e σ' hq=> ?_
 obtain⟨rfl,hl⟩:=hq
 exact h2 v hk σ' hl
theorem eN{S:Type}{f:S→St}{v a:S}(h:some a=some v)(hl:Le n σ1 (f a)):∀σ',Le n σ' σ1→sQ n f v .normal σ':=by cases h;exact gM hl
theorem eB{S T:Type}{f:S→St}{F:T→Exit→St→Prop}{a:S}{r:S⊕T}(h:some (Sum.inl a)=some r)(hl:Le n σ1 (f a)):∀σ',Le n σ' σ1→nY n f F r .normal σ':=by cases h;exact aF3 hl
theorem eX{S T:Type}{f:S→St}{g:T→St}{a:T}{r:S⊕T}{j:Nat}(h:some (Sum.inr a)=some r)(hl:Le n σ1 (g a)):∀σ',Le n σ' σ1→nY n f (iU n j g) r (.exit j) σ':=by cases h;exact hY (dH hl)
end
end Go.Tv
namespace Go.Tv
open Go Go.RowKit
def w9(x:Int):Int:=if x == 0 then 32 else deB.getD (bits BinOp.and IntKind.u32 x (-x % 4294967296)*125613361 % 4294967296 / 134217728).toNat 0
theorem aDy(y:Int):(y % 4294967296 / 134217728).toNat<32:=by omega
theorem aCe:∀i,i<32→wrap64 (deB.getD i 0)=deB.getD i 0:=by decide +kernel
theorem aDr{x:Int}(h:(x == 0)=false):wrap64 (deB.getD (bits BinOp.and IntKind.u32 x (-x % 4294967296)*125613361 % 4294967296 / 134217728).toNat 0)=w9 x:=by
 rw[aCe _ (aDy _)]
 simp only[w9,h,Bool.false_eq_true,if_false]
theorem aB0{x:Int}(h:(x == 0)=true):w9 x=32:=by simp only[w9,h,if_true]
theorem Pure.of_tz{P:Program}{f:FuncId}{fn:Func}(hf:P.funcs[f]? = some fn)(hname:(fn.name == "runtime.NumGoroutine")=false)(hb:fn.body.isNone=false){β:Bool}{x:Int}
  (h:∀w,u9 P w→Calls P f #[.int .u32 x] w fun e w'=>e = .returned (.int .i64 (w9 x))∧w'=w):Pure P f [.p β (.int .u32) x] (.p false (.int .i64) (w9 x)):=by
 refine⟨⟨fn,hf,hname,hb⟩,fun Bw w us hld hbw hargs=> ?_⟩
 match hus:us.toList,hargs with
 | [v0],hargs =>
  have e1:=dF hargs.1
  subst e1
  have:us = #[.int .u32 x]:=Array.ext' hus
  subst this
  refine(h w hld).mono fun r w' ⟨h1,h2⟩=>⟨_,h1,by subst h2;exact(Kept.refl (m8 hld)).below,fR _ _ _⟩
end Go.Tv
