/- Functions for which the model stands in: the place of a byte in a string. -/
import Derived.Test.YtmcemnfjddoejaaGreatDoorTvSm
import Derived.Lib.Bytealg
import Derived.WalkKit
import Derived.WalkLawsBesides
import Derived.Recover
namespace Go.Tv
open Go Go.RowKit
def Fp:List UInt8→Int→Int→Int
 | [],_,_=> -1
 | x::r,c,k=>if x == c.toNat.toUInt8 then k else Fp r c (k+1)
theorem Eu(c:Int):∀(l:List UInt8) (k:Int),0≤k→Fp l c k=if Lib.indexByte l c.toNat.toUInt8 == -1 then -1 else Lib.indexByte l c.toNat.toUInt8+k
 | [],k,_=>rfl
 | x::r,k,j=>by
  have h:=Lib.indexByte_ge r c.toNat.toUInt8;simp only[Fp,Lib.indexByte];rw[Eu c r (k+1) (by omega)];split
  ·simp
  ·split
   ·simp
   ·rename_i m e;simp only[beq_iff_eq]at e;have f:(Lib.indexByte r c.toNat.toUInt8+1 == -1)=false:=by simp only[beq_eq_false_iff_ne,ne_eq];omega
    rw[f];simp only[Bool.false_eq_true,if_false];omega
theorem Pure.JB{P:Program}{f:FuncId}{fn:Func}(E:P.funcs[f]? = some fn)(k:(fn.name == "runtime.NumGoroutine")=false)(hb:fn.body.isNone=false){q u:Bool}{s:List UInt8}{c:Int}
  (h:∀(s:ByteArray) w,Calls P f #[.string s,.int .u8 c] w fun e w'=>e = .returned (.int .i64 (Lib.indexByte s.data.toList c.toNat.toUInt8))∧w'=w):Pure P f [.p q .str s,.p u (.int .u8) c] (.p false (.int .i64) (Fp s c 0)):=by
 refine⟨⟨fn,E,k,hb⟩,fun Bw w C z I j=> ?_⟩;match B:C.toList,j with
 | [v0,v1],j =>
  have J:=pG j.1;have L:=bV j.2.1;subst J L;have:C = #[.string ⟨List.toArray s⟩,.int .u8 c]:=Array.ext' B;subst this;refine(h ⟨List.toArray s⟩ w).mono fun r w' ⟨M,N⟩=>⟨_,M,by subst N;exact(Kept.refl (lv z)).below,?_⟩
  have O:Fp s c 0=Lib.indexByte s c.toNat.toUInt8:=by
   rw[Eu c s 0 (by omega)];split
   ·rename_i D;simp only[beq_iff_eq]at D;exact D.symm
   ·omega
  rw[O];exact dB _ _ _
end Go.Tv
namespace Go.Tv
open Go Go.RowKit
section
variable{P:Program}{tb:bR}
def rF(P:Program)(g:FuncId)(args:List ag)(hin hout:List (Nat×Obj))(x:Value):Prop :=
 ∀(Bw:Nat→Prop) (b:b9 P) (φ:Nat→Nat→Prop) (c:Array Value),Mem Bw b b.pM φ (fun i=>look hin i) b.w →
  iA (Fr (own φ (fun i=>look hin i)) Bw b.w) b.pM args c.toList→(∀i u,b.pM i=some u→i<hin.length) →
  CallsD P g c (.panicking [{ v:=x,recovered:=false }]) b.w fun e u k=>∃v f j,e = .returned v∧u = .panicking [{ v:=x,recovered:=true }]∧Mem Bw b f j (fun i=>look hout i) k
def Ji(P:Program)(g:FuncId)(k:Nat):Prop :=
 ∀(c:Array Value) (w:World),c.size=k→CallsD P g c .returning w fun e u f=>(∃v,e = .returned v)∧u = .returning∧f=w
theorem CH{fn:Func}(h:fn.results = #[])(c:Array Value)(w:World):(results fn c).run P w = .ok (.tuple #[]) w:=by
 simp[results,h]
theorem rF.jD{g:FuncId}{fn:Func}(hf:P.funcs[g]? = some fn){A B:Oper}{id:Nat}{c:Code}(hb:fn.body=some (.seq (.region id #[A,B] false) c))(E:fn.results = #[]){k D:Nat}
  (h0:A.op = .call { callee:= .builtin .recover,args:= #[],argTypes:= #[] }) (N:A.dst=some k) (O:A.guard=none) (h1:B.op = .assign (.tmp k)) (R:B.dst=some D) (X:B.guard=none)
  (hd:(decide (2≤k) && decide (2≤D) && decide (k<fn.ntmps) && decide (D<fn.ntmps))=true) {a0 L:ag} {hin hout:List (Nat×Obj)} {x:Value} {nx pn:Nat} (Y:hin.length=pn)
  (hK:∀Bw w0,W P fn.ntmps Bw w0 c (ay [(0,a0),(1,L),(D,.lit x)] hin pn pn) (od fn.ntmps (fun(_:Unit)=>ay [] hout nx pn) ())):rF P g [a0,L] hin hout x:=by
 subst Y;simp only[Bool.and_eq_true,decide_eq_true_eq]at hd;obtain⟨⟨⟨k0,k1⟩,k2⟩,k3⟩:=hd;refine fun Bw b φ p m j q=>callsD_of_wpS hf hb fun z cs hu=> ?_
 match Z:p.toList,j with
 | [v0,v1],j =>
 have hv:p = #[v0,v1]:=Array.ext' Z;subst hv;apply wpS_seq;apply wpS_region;have e0:∀ρ:Operand→Value,(execOp ρ A).run P b.w = .ok .recover b.w:=fun ρ=>by simp[execOp,h0,resolve,invoke,builtin]
 have e1:∀ρ:Operand→Value,(execOp ρ B).run P b.w = .ok (.value (ρ (.tmp k))) b.w:=fun ρ=>by simp[execOp,h1]
 have er:recoverD (z :: cs)=some (x,{ z with mode:= .panicking [{ v:=x,recovered:=true }] }::cs):=by simp[recoverD,hu]
 have a2:∀y,Region.wanted A y=true:=fun y=>by unfold Region.wanted;rw[O]
 have a3:∀y,Region.wanted B y=true:=fun y=>by unfold Region.wanted;rw[X]
 show wpOpsS P #[A,B] _ [0,1] _ _ _;simp only[wpOpsS,List.getElem?_toArray,List.getElem?_cons_zero,List.getElem?_cons_succ,a2,a3,if_true,e0,er,e1,Oper.upon];simp only[Exit.thenS];refine wpS_of_wp ?_;have a4:bP (fn.ntmps:NS) (Fr (own φ (fun i=>look hin i)) Bw b.w) b.pM (fun t=>(([a0,L]:List ag)[t]?).getD .unk) { tmps:= #[v0,v1]++Array.replicate (fn.ntmps - 2) undef,defers:=[] }:=by
  refine⟨?_,rfl,fun t=> ?_⟩
  ·simp only[Array.size_append,Array.size_replicate];show 2+(fn.ntmps - 2)=fn.ntmps;omega
  ·match t with
   | 0 =>
    have g0:(#[v0,v1]++Array.replicate (fn.ntmps - 2) undef).getD 0 undef=v0:=by simp[Array.getD_eq_getD_getElem?,Array.getElem?_append]
    show V _ _ a0 ((#[v0,v1]++Array.replicate (fn.ntmps - 2) undef).getD 0 undef);rw[g0];exact j.1
   | 1 =>
    have g0:(#[v0,v1]++Array.replicate (fn.ntmps - 2) undef).getD 1 undef=v1:=by simp[Array.getD_eq_getD_getElem?,Array.getElem?_append]
    show V _ _ L ((#[v0,v1]++Array.replicate (fn.ntmps - 2) undef).getD 1 undef);rw[g0];exact j.2.1
   | t+2=>simp only[List.getElem?_cons_succ,List.getElem?_nil,Option.getD_none,V]
 have C:=(a4.put (x:= .lit x) (v:=x) (by simp only[V]) (d:=k) k2).put (x:= .lit x) (v:=x) (by simp only[V]) (d:=D) k3;have I:Act.eval (Act.put { tmps:= #[v0,v1]++Array.replicate (fn.ntmps - (#[v0,v1]:Array Value).size) undef,defers:=[] } (some k) x) (.tmp k)=x:=by simp[Act.eval,Act.put];omega
 rw[N,R,I];refine wp_mono (hK Bw b _ b.w ⟨⟨b.pM,φ,m,⟨C.tm,C.df,fun t=> ?_⟩,fun id u hu=>q id u hu⟩,fun i u h=>q i u h⟩) fun e a' w' ⟨σ',a5,he,a6⟩=> ?_
 ·have:=C.sl t;simp only[ay,look];by_cases q0:0=t
  ·subst q0;simp only[if_true,Option.getD_some];rw[aB _ _ (by omega),aB _ _ (by omega)]at this;exact this
  ·by_cases J:1=t
   ·subst J;simp only[if_true,Option.getD_some];rw[aB _ _ (by omega),aB _ _ (by omega)]at this;simpa using this
   ·by_cases M:D=t
    ·subst M;rw[if_neg q0,if_neg J,if_pos rfl];rw[aw]at this;exact this
    ·rw[if_neg q0,if_neg J,if_neg M];simp only[Option.getD_none,V]
 ·subst he;obtain⟨a7,a8,J,M,_⟩:=(a6 _ Bw b a' w' a5).ex;exact⟨M.df,_,rfl,_,CH E _ _,_,a7,a8,rfl,rfl,J⟩
def DQ{A E:Type}(n:NS)(tb:bR)(j:List ResultVar)(g:A→List (Σ T:Ty,T.den))(f:E→Value)(k:List (Nat×ag))(mp:List (Nat×Obj))(c:Nat):A⊕E→Exit→St→Prop
 | .inl x=>eQ tb j g x
 | .inr e=>fun ex σ=>ex = .panic [{ v:=f e,recovered:=false }]∧Le n σ (ay k mp c 2)
def Jb{A E:Type}(g:A→List (Σ T:Ty,T.den))(c:E→List (Σ T:Ty,T.den)):A⊕E→List (Σ T:Ty,T.den)
 | .inl x=>g x
 | .inr e=>c e
theorem answers(B:bS P tb){fn:Func}{w:World}{b:b9 P}(C:b.w=w){n:NS}{Bw:Nat→Prop}{ρ:Nat→Option Value}{φ:Nat→Nat→Prop}{s:Nat→ag}{h:Nat→Option Obj}{a:Act}{e:World}(D:∀k,k<w.heap.size→b.kp k)(m:Mem Bw b ρ φ h e)
  (E:bP n (Fr (own φ h) Bw e) ρ s a) {xs:List ag} {Ts:List Ty} {c:List (Σ T:Ty,T.den)} (I:tv tb s h fn.results.toList=some xs) (J:lZ h xs Ts=some c) :
  ∃v,(results fn a.tmps).run P e = .ok v e∧∃q,Ending.returned v = .returned q∧Below w.heap.size w e∧V (fun _=>Fr fN Bw e false) jK (aG (aU false c)) q:=by
 obtain⟨f,L,M⟩:=iD (P:=P) B m E I;have j:=nh m J M;have N:=lG (P:=P) _ fn.results e L;have u:Below w.heap.size w e:=by subst C;exact⟨m.kp.os,m.kp.tape,m.kp.output,m.kp.size,fun k A=>m.kp.block k (D k A)⟩
 refine⟨(if h:f.toArray.size=1 then f.toArray[0]else .tuple f.toArray),?_,_,rfl,u,?_⟩
 ·unfold results;rw[Sem.run_bind];exact(congrArg (fun r=>Result.andThen r (fun a e=>Sem.run P (pure (if h:a.size=1 then a[0]else Value.tuple a)) e)) N).trans rfl
 ·have p:=(iS j).1;generalize aU false c=ys at j p ⊢;match ys,f,j with
  | [],[],_=>simp only[aG,V];exact⟨#[],rfl,rfl,by simp only[VL]⟩
  | [y],[v],j=>exact j.1
  | y::O::ys,v::q::f,j =>
   have:¬((v::q::f).toArray.size=1):=by simp
   rw[dif_neg this];simp only[aG,V];refine⟨_,rfl,by simpa using p.symm,VL.mk fun k x A=> ?_⟩;have:=(iS j).2 k;rw[A]at this;have z:k<(v::q::f).length:=by rw[←p];exact(List.getElem?_eq_some_iff.1 A).1
   rw[List.getElem?_eq_getElem z]at this;exact⟨_,by simp[z],this⟩
theorem Pure.Gp{A E:Type}(ad:bS P tb){f gd:FuncId}{fn fnd:Func}(hf:P.funcs[f]? = some fn)(a7:(fn.name == "runtime.NumGoroutine")=false)(bx:P.funcs[gd]? = some fnd)(a4:(fnd.name == "runtime.NumGoroutine")=false)(ax:fnd.body.isNone=false){cA cB c3:Code}{id:Nat}{o0 o1:Oper}
  (hb:fn.body=some (.seq cA (.seq cB (.seq (.region id #[o0,o1] false) c3)))) {t2 t3 d:Nat}
  (h0:o0.op = .makeFunc (.func gd) #[] #[.tmp t2,.tmp t3]) (c1:o0.dst=some d) (c2:o0.guard=none) (h1:o1.op = .defer { callee:= .value (.tmp d),args:= #[],argTypes:= #[] }) (c4:o1.dst=none) (c5:o1.guard=none)
  {args:List ag} (dm:args.length≤fn.ntmps) (ds:ou args=true) {l:List (Nat×ag)} {m:List (Nat×Obj)} {nx s2 s3:Nat} (p:(look l d).isNone=true) (b1:d<fn.ntmps) (c6:look l t2=some (.adr 0 0 s2 0)) (c7:look l t3=some (.adr 1 0 s3 0)) (dt:2≤nx)
  (hA:∀Bw w0,W P fn.ntmps Bw w0 cA (nq args) (zx P fn.ntmps Bw w0 cB (od fn.ntmps (fun(_:Unit)=>ay l m nx 0) ())))
  {g:A→List (Σ T:Ty,T.den)} {fv:E→Value} {lp:List (Nat×ag)} {mp:List (Nat×Obj)} {nxp:Nat} {a8:A⊕E}
  (hC:∀Bw w0 D,W P ⟨fn.ntmps,D⟩ Bw w0 c3 (ay l m nx 2) (DQ ⟨fn.ntmps,D⟩ tb fn.results.toList g fv lp mp nxp a8))
  (a9:Ji P gd 2) {hin:List (Nat×Obj)} {hout:E→List (Nat×Obj)} (b2:∀e,rF P gd [.adr 0 0 s2 0,.adr 1 0 s3 0] hin (hout e) (fv e))
  (C:jR [0,1] (ay lp mp nxp 2).h 0 [0,1]=some hin) (c8:∀e,ur [0,1] (hout e) .unk=true) (Ts:List Ty) {gp:E→List (Σ T:Ty,T.den)}
  (b3:∀e,(match tv tb (ay lp mp nxp 2).s (apply (vb [0,1] nxp (hout e)) (ay lp mp nxp 2).h) fn.results.toList with | some xs=>lZ (apply (vb [0,1] nxp (hout e)) (ay lp mp nxp 2).h) xs Ts | none=>none)=some (gp e)) :
  Pure P f args (aG (aU false (Jb g gp a8))):=by
 refine⟨⟨fn,hf,a7,by rw[hb];rfl⟩,fun Bw w us p c9 aa=>calls_of_wp_defers hf hb ?_⟩;have cc:∀β a v,Fr fN Bw w β a v→Fr (own EP (nq args).h) Bw w β a v:=fun β a v hh=>⟨fun⟨_,_,_,_,h3⟩=>h3,hh.2⟩
 obtain⟨hl,hg⟩:=iS aa;have hR:R fn.ntmps Bw (lv p) (nq args) { tmps:=us++Array.replicate (fn.ntmps - us.size) undef,defers:=[] } w:=by
  refine⟨⟨jK,EP,⟨fun id o h=>(by cases h),fun id o k h=>(by cases h),fun id du o o' k h1=>(by cases h1),c9,fun k ⟨_,_,_,_,h3⟩=>h3.elim,Kept.refl _,fun i u h=>(by cases h)⟩,⟨?_,rfl,fun t=> ?_⟩,fun id u hu=>(by cases hu)⟩,fun i u h=>(by cases h)⟩
  ·have:us.size=args.length:=by rw[hl,Array.length_toList]
   simp only[Array.size_append,Array.size_replicate];omega
  ·have hv:=V.mono cc (fun _ _ h=>h) (hg t);simp only[nq];rcases Nat.lt_or_ge t us.size with q | q
   ·have e:(us++Array.replicate (fn.ntmps - us.size) undef).getD t undef=(us.toList[t]?).getD undef:=by simp[Array.getD_eq_getD_getElem?,Array.getElem?_append,q]
    rw[e];exact hv
   ·have:args[t]? = none:=List.getElem?_eq_none (by rw[hl,Array.length_toList];exact q);rw[this];simp only[Option.getD_none,V]
 refine wp_seq (wp_mono (hA Bw (lv p) _ _ hR) fun e a1 w1 ⟨σ1,ch,N⟩=> ?_);cases e with
 | exit _=>exact absurd N.1 (by simp)
 | goto _=>exact absurd N.1 (by simp)
 | ret=>exact absurd N.1 (by simp)
 | panic _=>exact absurd N.1 (by simp)
 | outgrown=>exact absurd N.1 (by simp)
 | normal =>
 refine wp_seq (wp_mono (N a1 w1 ch) fun e O w2 ⟨e2,cp,cs,b4⟩=> ?_);subst cs;have cx:R fn.ntmps Bw (lv p) (ay l m nx 0) O w2:=b4 _ Bw (lv p) O w2 cp;obtain⟨ρ,φ,Y,q2,q3⟩:=cx.ex;have b5:=q2.sl t2;have b6:=q2.sl t3;generalize d1:O.tmps.getD t2 undef=z at b5;generalize d2:O.tmps.getD t3 undef=B at b6;have e0:∀w,(execOp O.eval o0).run P w = .ok (.value (.func (.func gd) #[] #[z,B])) w:=fun w=>by
  have:O.eval (.tmp t2)=z:=by rw[←d1];rfl
  have:O.eval (.tmp t3)=B:=by rw[←d2];rfl
  simp_all [execOp,Instr.makeFunc]
 have d3:(O.put (some d) (.func (.func gd) #[] #[z,B])).eval (.tmp d) = .func (.func gd) #[] #[z,B]:=by
  have d4:d<O.tmps.size:=by rw[q2.tm];exact b1
  simp[Act.eval,Act.put,Array.getD_eq_getD_getElem?,d4]
 let D0:Deferred:= { target:= .fn (.func gd) #[z,B],args:= #[] }
 have e1:∀w,(execOp (O.put (some d) (.func (.func gd) #[] #[z,B])).eval o1).run P w = .ok (.defer D0) w:=fun w=>by simp[execOp,h1,resolve,d3,Deferred.ofValue,D0]
 have be:∀y,Region.wanted o0 y=true:=fun y=>by unfold Region.wanted;rw[c2]
 have bi:∀y,Region.wanted o1 y=true:=fun y=>by unfold Region.wanted;rw[c5]
 refine wp_seq (wp_region ?_);show wpOps P #[o0,o1] _ [0,1] _ _;simp only[wpOps_cons,wpOp,List.getElem?_toArray,List.getElem?_cons_zero,List.getElem?_cons_succ,be,bi,if_true];refine .inl ?_;unfold Oper.wp;rw[e0];simp only[Oper.upon];rw[c1];simp only[wpOps_cons,wpOp,List.getElem?_toArray,List.getElem?_cons_zero,List.getElem?_cons_succ,be,bi,if_true];refine .inl ?_;unfold Oper.wp;rw[e1];simp only[Oper.upon];rw[c4];show c3.wp P _ _ _;let b:b9 P:=⟨w,fun k=>k<w.heap.size,fun _ h=>h,fun i=>if i<2 then ρ i else none,p,(lv p).lk⟩
 have d5:Mem Bw b ρ φ (ay l m nx 0).h w2:=⟨Y.ob,Y.lt,Y.dj,Y.bw,Y.ow,⟨Y.kp.os,Y.kp.tape,Y.kp.output,Y.kp.size,Y.kp.block⟩,fun i u hu=>by
  simp only[b]at hu;split at hu
  ·exact hu
  ·cases hu⟩
 have hS:=q2.put (x:= .unk) (v:= .func (.func gd) #[] #[z,B]) (by simp only[V]) (d:=d) b1;have d6:R ⟨fn.ntmps,[D0]⟩ Bw b (ay l m nx 2) (({ O.put (some d) (.func (.func gd) #[] #[z,B])with defers:=D0::(O.put (some d) (.func (.func gd) #[] #[z,B])).defers }:Act).put none undef) w2:=by
  refine⟨⟨ρ,φ,d5,⟨hS.tm,?_,fun t=> ?_⟩,q3⟩,fun i u hu=> ?_⟩
  ·have:(O.put (some d) (.func (.func gd) #[] #[z,B])).defers=[]:=hS.df;show D0::_=_;rw[this]
  ·have:=hS.sl t;by_cases e:t=d
   ·subst e;have hn:look l t=none:=by simpa using p
    show V _ _ ((look l t).getD .unk) _;rw[hn];simp only[Option.getD_none,V]
   ·rw[aB _ _ e]at this;exact this
  ·simp only[b]at hu;split at hu
   ·assumption
   ·cases hu
 have M:∀ {X:Nat→Nat→Prop} {I:Nat→Option Value} {h':Nat→Option Obj} {w':World},Mem Bw b I X h' w'→∀i,i<2→∀u,ρ i=some u→I i=some u:=fun m i hi u hu=>m.pM i u (by simp only[b];rw[if_pos hi];exact hu)
 refine wp_mono (hC Bw b [D0] _ _ d6) fun e a3 w3 ⟨e3,bs,bt⟩=> ?_
 have a6:∀w,(invoke (.fn (.func gd) #[z,B]) #[]).run P w = .ok (.enter gd #[z,B]) w:=fun w=>by
  have n1:¬fnd.name = "runtime.NumGoroutine" :=by simpa using a4
  have n2:¬fnd.body=none:=fun e=>by rw[e]at ax;cases ax
  simp[invoke,callFunc,bx,n1,n2]
 cases a8 with
 | inl x =>
  obtain⟨rfl,xs,e4,r1,r2⟩:=bt;obtain⟨I,X,Z,p2,_⟩:=bs.ex;have bv:=answers (P:=P) ad (fn:=fn) (w:=w) (b:=b) rfl (fun k hk=>hk) Z p2 r1 r2;show Leaves P fn a3.tmps _ a3.defers .returning w3;rw[p2.df];refine leaves_cons (by simp) (a6 w3) ((a9 #[z,B] w3 rfl).mono ?_);rintro e u d7 ⟨⟨v,rfl⟩,rfl,rfl⟩;obtain⟨v,hv,hr⟩:=bv;exact⟨v,hv,hr⟩
 | inr ev =>
  obtain⟨rfl,d8⟩:=bt;obtain⟨I,X,Z,p2,p3⟩:=(d8 _ Bw b a3 w3 bs).ex;show Leaves P fn a3.tmps _ a3.defers (.panicking [{ v:=fv ev,recovered:=false }]) w3;rw[p2.df];have hn:([0,1]:List Nat).Nodup:=by decide
  obtain⟨mc,L⟩:=ri Z hn C;have hV:iA (Fr (own X (ay lp mp nxp 2).h) Bw w3) I [.adr 0 0 s2 0,.adr 1 0 s3 0] [z,B]:=by
   have f2:V (Fr (own φ (ay l m nx 0).h) Bw w2) ρ (.adr 0 0 s2 0) z:=by have:=b5;simp only[ay,c6,Option.getD_some]at this;exact this
   have f3:V (Fr (own φ (ay l m nx 0).h) Bw w2) ρ (.adr 1 0 s3 0) B:=by have:=b6;simp only[ay,c7,Option.getD_some]at this;exact this
   simp only[V]at f2 f3;obtain⟨g2,k2,r2⟩:=f2;obtain⟨g3,k3,r3⟩:=f3;refine⟨?_,?_,trivial⟩
   ·simp only[V];exact⟨g2,k2.imp (M Z 0 (by omega) _) (fun⟨n,c,h⟩=>⟨n,c,M Z 0 (by omega) _ h⟩),r2⟩
   ·simp only[V];exact⟨g3,k3.imp (M Z 1 (by omega) _) (fun⟨n,c,h⟩=>⟨n,c,M Z 1 (by omega) _ h⟩),r3⟩
  have a5:=lQ Z L (xs:=[.adr 0 0 s2 0,.adr 1 0 s3 0]) (ys:=[.adr 0 0 s2 0,.adr 1 0 s3 0]) (by rfl) hV;have ac:=b2 ev (qe X (less [0,1] (ay lp mp nxp 2).h) Bw) (eA Z [0,1]) (fun i=>X (([0,1]:List Nat).getD i 0)) #[z,B] mc a5 (fun i u e=>by
   rw[ku C];simp only[eA]at e;split at e
   ·assumption
   ·cases e)
  refine leaves_cons (by simp) (a6 w3) (ac.mono ?_);rintro e u d7 ⟨v,e5,e6,rfl,rfl,m2⟩;have d9:∀j,j<8→I (nxp+j)=none:=fun j hj=>by
   cases hq:I (nxp+j)with
   | none=>rfl
   | some u=>have:=p3 _ u hq;simp only[ay]at this;omega
  obtain⟨e7,e8,s1,dd,de,_,_⟩:=rv (r:= .unk) (v:=undef) Z hn d9 (pS C) (c8 ev) m2 trivial;have di:=p2.mono dd de;have J:=b3 ev;split at J
  ·rename_i xs dk;obtain⟨v,hv,hr⟩:=answers (P:=P) ad (fn:=fn) (w:=w) (b:=b) rfl (fun k hk=>hk) s1 di dk J;exact⟨v,hv,hr⟩
  ·cases J
end
end Go.Tv
