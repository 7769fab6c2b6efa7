import Derived.Test.YtobbjfkfmdiklaaGreatDoorTvSm
import Derived.Lib.Bytealg
import Derived.WalkKit
import Derived.WalkLawsBesides
import Derived.Recover
namespace Go.Tv
open Go Go.RowKit
def xf:QX→Int→Int→Int
 | [],_,_=> -1
 | x::r,c,k=>if x == c.toNat.toUInt8 then k else xf r c (k+1)
theorem E5(c:Int):∀(l:QX) (k:Int),0≤k→xf l c k=if Lib.indexByte l c.toNat.toUInt8 == -1 then -1 else Lib.indexByte l c.toNat.toUInt8+k
 | [],k,_=>rfl
 | x::r,k,hk=>by
  have h:=Lib.indexByte_ge r c.toNat.toUInt8;simp only[xf,Lib.indexByte];rw[E5 c r (k+1) (by omega)];split
  ·simp
  ·split
   ·simp
   ·rename_i h2 j;simp only[beq_iff_eq]at j;have p:(Lib.indexByte r c.toNat.toUInt8+1 == -1)=false:=by simp only[beq_eq_false_iff_ne,ne_eq];omega
    rw[p];simp only[Bool.false_eq_true,if_false];omega
theorem Pure.Lt{P:Program}{f:FuncId}{fn:Func}(hf:P.funcs[f]? = some fn)(hname:(fn.name == "runtime.NumGoroutine")=false)(hb:fn.body.isNone=false){q u:Bool}{s:QX}{c:Int}
  (h:∀(s:ByteArray) w,Calls P f #[.string s,.int .u8 c] w fun e w'=>e = .returned (.int .i64 (Lib.indexByte s.data.toList c.toNat.toUInt8))∧w'=w):Pure P f [.p q .str s,.p u (.int .u8) c] (.p false (.int .i64) (xf s c 0)):=by
 refine⟨⟨fn,hf,hname,hb⟩,fun Bw w C z E j=>?_⟩;match B:C.toList,j with
 | [v0,v1],j =>
  have I:=pw j.1;have J:=bQ j.2.1;subst I J;have:C = #[.string ⟨List.toArray s⟩,.int .u8 c]:=Array.ext' B;subst this;refine(h ⟨List.toArray s⟩ w).mono fun r w' ⟨h1,h2⟩=>⟨_,h1,by subst h2;exact(Kept.refl (jn z)).below,?_⟩
  have L:xf s c 0=Lib.indexByte s c.toNat.toUInt8:=by
   rw[E5 c s 0 (by omega)];split
   ·rename_i D;simp only[beq_iff_eq]at D;exact D.symm
   ·omega
  rw[L];exact dF _ _ _
section
variable{P:Program}{tb:bT}
def qY(P:Program)(g:FuncId)(args:List ag)(hin hout:Qw)(x:Value):Prop :=
 ∀(Bw:Nat→Prop) (b:cC P) (φ:Nat→Nat→Prop) (j:QU),Mem Bw b b.pc φ (fun i=>look hin i) b.w →
  iS (Fr (own φ (fun i=>look hin i)) Bw b.w) b.pc args j.toList→(∀i u,b.pc i=some u→i<hin.length) →
  CallsD P g j (.panicking [{ v:=x,recovered:=false }]) b.w fun e u z=>∃v p q,e = .returned v∧u = .panicking [{ v:=x,recovered:=true }]∧Mem Bw b p q (fun i=>look hout i) z
def Kb(P:Program)(g:FuncId)(k:Nat):Prop :=
 ∀(j:QU) (w:World),j.size=k→CallsD P g j .returning w fun e u p=>(∃v,e = .returned v)∧u = .returning∧p=w
theorem Bo{fn:Func}(h:fn.results = #[])(j:QU)(w:World):(results fn j).run P w = .ok (.tuple #[]) w:=by
 simp[results,h]
theorem qY.jK{g:FuncId}{fn:Func}(hf:P.funcs[g]? = some fn){B o1:Oper}{id:Nat}{c:Code}(hb:fn.body=some (.seq (.region id #[B,o1] false) c))(E:fn.results = #[]){p D:Nat}
  (h0:B.op = .call { callee:= .builtin .recover,args:= #[],argTypes:= #[] }) (N:B.dst=some p) (O:B.guard=none) (h1:o1.op = .assign (.tmp p)) (X:o1.dst=some D) (Y:o1.guard=none)
  (hd:(decide (2≤p) && decide (2≤D) && decide (p<fn.ntmps) && decide (D<fn.ntmps))=true) {a0 L:ag} {hin hout:Qw} {x:Value} {nx pn:Nat} (Z:hin.length=pn)
  (hK:∀Bw w0,W P fn.ntmps Bw w0 c (aA [(0,a0),(1,L),(D,.lit x)] hin pn pn) (n9 fn.ntmps (fun(_:Unit)=>aA [] hout nx pn) ())):qY P g [a0,L] hin hout x:=by
 subst Z;simp only[Bool.and_eq_true,decide_eq_true_eq]at hd;obtain⟨⟨⟨k0,k1⟩,k2⟩,k3⟩:=hd;refine fun Bw b φ q m j z=>callsD_of_wpS hf hb fun A cs hu=>?_
 match a2:q.toList,j with
 | [v0,v1],j =>
 have hv:q = #[v0,v1]:=Array.ext' a2;subst hv;apply wpS_seq;apply wpS_region;have e0:∀ρ:Operand→Value,(execOp ρ B).run P b.w = .ok .recover b.w:=fun ρ=>by simp[execOp,h0,resolve,invoke,builtin]
 have e1:∀ρ:Operand→Value,(execOp ρ o1).run P b.w = .ok (.value (ρ (.tmp p))) b.w:=fun ρ=>by simp[execOp,h1]
 have er:recoverD (A :: cs)=some (x,{ A with mode:= .panicking [{ v:=x,recovered:=true }] }::cs):=by simp[recoverD,hu]
 have a3:∀y,Region.wanted B y=true:=fun y=>by unfold Region.wanted;rw[O]
 have a4:∀y,Region.wanted o1 y=true:=fun y=>by unfold Region.wanted;rw[Y]
 show wpOpsS P #[B,o1] _ [0,1] _ _ _;simp only[wpOpsS,List.getElem?_toArray,List.getElem?_cons_zero,List.getElem?_cons_succ,a3,a4,if_true,e0,er,e1,Oper.upon];simp only[Exit.thenS];refine wpS_of_wp ?_;have a5:fb (fn.ntmps:NS) (Fr (own φ (fun i=>look hin i)) Bw b.w) b.pc (fun t=>(([a0,L]:List ag)[t]?).getD .unk) { tmps:= #[v0,v1]++Array.replicate (fn.ntmps - 2) undef,defers:=[] }:=by
  refine⟨?_,rfl,fun t=>?_⟩
  ·simp only[Array.size_append,Array.size_replicate];show 2+(fn.ntmps - 2)=fn.ntmps;omega
  ·match t with
   | 0 =>
    have g0:(#[v0,v1]++Array.replicate (fn.ntmps - 2) undef).getD 0 undef=v0:=by simp[Array.getD_eq_getD_getElem?,Array.getElem?_append]
    show V _ _ a0 ((#[v0,v1]++Array.replicate (fn.ntmps - 2) undef).getD 0 undef);rw[g0];exact j.1
   | 1 =>
    have g0:(#[v0,v1]++Array.replicate (fn.ntmps - 2) undef).getD 1 undef=v1:=by simp[Array.getD_eq_getD_getElem?,Array.getElem?_append]
    show V _ _ L ((#[v0,v1]++Array.replicate (fn.ntmps - 2) undef).getD 1 undef);rw[g0];exact j.2.1
   | t+2=>simp only[List.getElem?_cons_succ,List.getElem?_nil,Option.getD_none,V]
 have C:=(a5.put (x:= .lit x) (v:=x) (by simp only[V]) (d:=p) k2).put (x:= .lit x) (v:=x) (by simp only[V]) (d:=D) k3;have I:Act.eval (Act.put { tmps:= #[v0,v1]++Array.replicate (fn.ntmps - (#[v0,v1]:QU).size) undef,defers:=[] } (some p) x) (.tmp p)=x:=by simp[Act.eval,Act.put];omega
 rw[N,X,I];refine wp_mono (hK Bw b _ b.w ⟨⟨b.pc,φ,m,⟨C.tm,C.df,fun t=>?_⟩,fun id u hu=>z id u hu⟩,fun i u h=>z i u h⟩) fun e a' w' ⟨σ',a6,he,a7⟩=>?_
 ·have:=C.sl t;simp only[aA,look];by_cases q0:0=t
  ·subst q0;simp only[if_true,Option.getD_some];rw[aR _ _ (by omega),aR _ _ (by omega)]at this;exact this
  ·by_cases J:1=t
   ·subst J;simp only[if_true,Option.getD_some];rw[aR _ _ (by omega),aR _ _ (by omega)]at this;simpa using this
   ·by_cases M:D=t
    ·subst M;rw[if_neg q0,if_neg J,if_pos rfl];rw[aB]at this;exact this
    ·rw[if_neg q0,if_neg J,if_neg M];simp only[Option.getD_none,V]
 ·subst he;obtain⟨a8,a9,J,M,_⟩:=(a7 _ Bw b a' w' a6).ex;exact⟨M.df,_,rfl,_,Bo E _ _,_,a8,a9,rfl,rfl,J⟩
def DQ{A E:Type}(n:NS)(tb:bT)(p:List ResultVar)(g:A→List (Σ T:Ty,T.den))(f:E→Value)(q:List (Nat×ag))(mp:Qw)(j:Nat):A⊕E→Exit→St→Prop
 | .inl x=>gr tb p g x
 | .inr e=>fun ex σ=>ex = .panic [{ v:=f e,recovered:=false }]∧Le n σ (aA q mp j 2)
def Km{A E:Type}(g:A→List (Σ T:Ty,T.den))(j:E→List (Σ T:Ty,T.den)):A⊕E→List (Σ T:Ty,T.den)
 | .inl x=>g x
 | .inr e=>j e
theorem answers(D:bX P tb){fn:Func}{w:World}{b:cC P}(E:b.w=w){n:NS}{Bw:Nat→Prop}{ρ:Nat→QW}{φ:Nat→Nat→Prop}{s:Nat→ag}{h:Nat→Qz}{a:Act}{p:World}(I:∀k,k<w.heap.size→b.kp k)(m:Mem Bw b ρ φ h p)
  (J:fb n (Fr (own φ h) Bw p) ρ s a) {xs:List ag} {Ts:List Ty} {j:List (Σ T:Ty,T.den)} (h1:sM tb s h fn.results.toList=some xs) (h2:mE h xs Ts=some j) :
  ∃v,(results fn a.tmps).run P p = .ok v p∧∃A,Ending.returned v = .returned A∧Below w.heap.size w p∧V (fun _=>Fr fK Bw p false) jl (aK (bd false j)) A:=by
 obtain⟨q,L,M⟩:=jb (P:=P) D m J h1;have u:=nE m h2 M;have N:=lP (P:=P) _ fn.results p L;have B:Below w.heap.size w p:=by subst E;exact⟨m.kp.os,m.kp.tape,m.kp.output,m.kp.size,fun k hk=>m.kp.block k (I k hk)⟩
 refine⟨(if h:q.toArray.size=1 then q.toArray[0]else .tuple q.toArray),?_,_,rfl,B,?_⟩
 ·unfold results;rw[Sem.run_bind];exact(congrArg (fun r=>Result.andThen r (fun a p=>Sem.run P (pure (if h:a.size=1 then a[0]else Value.tuple a)) p)) N).trans rfl
 ·have z:=(jd u).1;generalize bd false j=ys at u z ⊢;match ys,q,u with
  | [],[],_=>simp only[aK,V];exact⟨#[],rfl,rfl,by simp only[VL]⟩
  | [y],[v],u=>exact u.1
  | y::O::ys,v::A::q,u =>
   have:¬((v::A::q).toArray.size=1):=by simp
   rw[dif_neg this];simp only[aK,V];refine⟨_,rfl,by simpa using z.symm,VL.mk fun k x hk=>?_⟩;have:=(jd u).2 k;rw[hk]at this;have C:k<(v::A::q).length:=by rw[←z];exact(List.getElem?_eq_some_iff.1 hk).1
   rw[List.getElem?_eq_getElem C]at this;exact⟨_,by simp[C],this⟩
theorem Pure.Hf{A E:Type}(ac:bX P tb){f gd:FuncId}{fn fnd:Func}(hf:P.funcs[f]? = some fn)(hname:(fn.name == "runtime.NumGoroutine")=false)(bi:P.funcs[gd]? = some fnd)(a4:(fnd.name == "runtime.NumGoroutine")=false)(ad:fnd.body.isNone=false){cA cB c3:Code}{id:Nat}{o0 o1:Oper}
  (hb:fn.body=some (.seq cA (.seq cB (.seq (.region id #[o0,o1] false) c3)))) {t2 t3 d:Nat}
  (h0:o0.op = .makeFunc (.func gd) #[] #[.tmp t2,.tmp t3]) (bs:o0.dst=some d) (bv:o0.guard=none) (h1:o1.op = .defer { callee:= .value (.tmp d),args:= #[],argTypes:= #[] }) (bx:o1.dst=none) (c1:o1.guard=none)
  {args:List ag} (de:args.length≤fn.ntmps) (_:od args=true) {l:List (Nat×ag)} {m:Qw} {nx s2 s3:Nat} (p:(look l d).isNone=true) (ax:d<fn.ntmps) (c2:look l t2=some (.adr 0 0 s2 0)) (c4:look l t3=some (.adr 1 0 s3 0)) (_:2≤nx)
  (hA:∀Bw w0,W P fn.ntmps Bw w0 cA (nj args) (w7 P fn.ntmps Bw w0 cB (n9 fn.ntmps (fun(_:Unit)=>aA l m nx 0) ())))
  {g:A→List (Σ T:Ty,T.den)} {fv:E→Value} {lp:List (Nat×ag)} {mp:Qw} {nxp:Nat} {a7:A⊕E}
  (hC:∀Bw w0 D,W P ⟨fn.ntmps,D⟩ Bw w0 c3 (aA l m nx 2) (DQ ⟨fn.ntmps,D⟩ tb fn.results.toList g fv lp mp nxp a7))
  (a8:Kb P gd 2) {hin:Qw} {hout:E→Qw} (b1:∀e,qY P gd [.adr 0 0 s2 0,.adr 1 0 s3 0] hin (hout e) (fv e))
  (C:jR [0,1] (aA lp mp nxp 2).h 0 [0,1]=some hin) (c5:∀e,ue [0,1] (hout e) .unk=true) (Ts:List Ty) {gp:E→List (Σ T:Ty,T.den)}
  (b2:∀e,(match sM tb (aA lp mp nxp 2).s (apply (uL [0,1] nxp (hout e)) (aA lp mp nxp 2).h) fn.results.toList with | some xs=>mE (apply (uL [0,1] nxp (hout e)) (aA lp mp nxp 2).h) xs Ts | none=>none)=some (gp e)) :
  Pure P f args (aK (bd false (Km g gp a7))):=by
 refine⟨⟨fn,hf,hname,by rw[hb];rfl⟩,fun Bw w us p c6 a9=>calls_of_wp_defers hf hb ?_⟩;have c7:∀β a v,Fr fK Bw w β a v→Fr (own EN (nj args).h) Bw w β a v:=fun β a v hh=>⟨fun⟨_,_,_,_,h3⟩=>h3,hh.2⟩
 obtain⟨hl,hg⟩:=jd a9;have hR:R fn.ntmps Bw (jn p) (nj args) { tmps:=us++Array.replicate (fn.ntmps - us.size) undef,defers:=[] } w:=by
  refine⟨⟨jl,EN,⟨fun id o h=>(by cases h),fun id o k h=>(by cases h),fun id di o o' k h1=>(by cases h1),c6,fun k ⟨_,_,_,_,h3⟩=>h3.elim,Kept.refl _,fun i u h=>(by cases h)⟩,⟨?_,rfl,fun t=>?_⟩,fun id u hu=>(by cases hu)⟩,fun i u h=>(by cases h)⟩
  ·have:us.size=args.length:=by rw[hl,Array.length_toList]
   simp only[Array.size_append,Array.size_replicate];omega
  ·have hv:=V.mono c7 (fun _ _ h=>h) (hg t);simp only[nj];rcases Nat.lt_or_ge t us.size with q | q
   ·have e:(us++Array.replicate (fn.ntmps - us.size) undef).getD t undef=(us.toList[t]?).getD undef:=by simp[Array.getD_eq_getD_getElem?,Array.getElem?_append,q]
    rw[e];exact hv
   ·have:args[t]? = none:=List.getElem?_eq_none (by rw[hl,Array.length_toList];exact q);rw[this];simp only[Option.getD_none,V]
 refine wp_seq (wp_mono (hA Bw (jn p) _ _ hR) fun e a1 w1 ⟨σ1,c8,N⟩=>?_);cases e with
 | exit _=>exact absurd N.1 (by simp)
 | goto _=>exact absurd N.1 (by simp)
 | ret=>exact absurd N.1 (by simp)
 | panic _=>exact absurd N.1 (by simp)
 | outgrown=>exact absurd N.1 (by simp)
 | normal =>
 refine wp_seq (wp_mono (N a1 w1 c8) fun e O w2 ⟨dk,c9,cc,b3⟩=>?_);subst cc;have ch:R fn.ntmps Bw (jn p) (aA l m nx 0) O w2:=b3 _ Bw (jn p) O w2 c9;obtain⟨ρ,φ,Y,q2,q3⟩:=ch.ex;have b4:=q2.sl t2;have b5:=q2.sl t3;generalize cp:O.tmps.getD t2 undef=z at b4;generalize cs:O.tmps.getD t3 undef=B at b5;have e0:∀w,(execOp O.eval o0).run P w = .ok (.value (.func (.func gd) #[] #[z,B])) w:=fun w=>by
  have:O.eval (.tmp t2)=z:=by rw[←cp];rfl
  have:O.eval (.tmp t3)=B:=by rw[←cs];rfl
  simp_all [execOp,Instr.makeFunc]
 have cx:(O.put (some d) (.func (.func gd) #[] #[z,B])).eval (.tmp d) = .func (.func gd) #[] #[z,B]:=by
  have d1:d<O.tmps.size:=by rw[q2.tm];exact ax
  simp[Act.eval,Act.put,Array.getD_eq_getD_getElem?,d1]
 let D0:Deferred:= { target:= .fn (.func gd) #[z,B],args:= #[] }
 have e1:∀w,(execOp (O.put (some d) (.func (.func gd) #[] #[z,B])).eval o1).run P w = .ok (.defer D0) w:=fun w=>by simp[execOp,h1,resolve,cx,Deferred.ofValue,D0]
 have b6:∀y,Region.wanted o0 y=true:=fun y=>by unfold Region.wanted;rw[bv]
 have b7:∀y,Region.wanted o1 y=true:=fun y=>by unfold Region.wanted;rw[c1]
 refine wp_seq (wp_region ?_);show wpOps P #[o0,o1] _ [0,1] _ _;simp only[wpOps_cons,wpOp,List.getElem?_toArray,List.getElem?_cons_zero,List.getElem?_cons_succ,b6,b7,if_true];refine .inl ?_;unfold Oper.wp;rw[e0];simp only[Oper.upon];rw[bs];simp only[wpOps_cons,wpOp,List.getElem?_toArray,List.getElem?_cons_zero,List.getElem?_cons_succ,b6,b7,if_true];refine .inl ?_;unfold Oper.wp;rw[e1];simp only[Oper.upon];rw[bx];show c3.wp P _ _ _;let b:cC P:=⟨w,fun k=>k<w.heap.size,fun _ h=>h,fun i=>if i<2 then ρ i else none,p,(jn p).lk⟩
 have d2:Mem Bw b ρ φ (aA l m nx 0).h w2:=⟨Y.ob,Y.lt,Y.dj,Y.bw,Y.ow,⟨Y.kp.os,Y.kp.tape,Y.kp.output,Y.kp.size,Y.kp.block⟩,fun i u hu=>by
  simp only[b]at hu;split at hu
  ·exact hu
  ·cases hu⟩
 have hS:=q2.put (x:= .unk) (v:= .func (.func gd) #[] #[z,B]) (by simp only[V]) (d:=d) ax;have d3:R ⟨fn.ntmps,[D0]⟩ Bw b (aA l m nx 2) (({ O.put (some d) (.func (.func gd) #[] #[z,B])with defers:=D0::(O.put (some d) (.func (.func gd) #[] #[z,B])).defers }:Act).put none undef) w2:=by
  refine⟨⟨ρ,φ,d2,⟨hS.tm,?_,fun t=>?_⟩,q3⟩,fun i u hu=>?_⟩
  ·have:(O.put (some d) (.func (.func gd) #[] #[z,B])).defers=[]:=hS.df;show D0::_=_;rw[this]
  ·have:=hS.sl t;by_cases e:t=d
   ·subst e;have hn:look l t=none:=by simpa using p
    show V _ _ ((look l t).getD .unk) _;rw[hn];simp only[Option.getD_none,V]
   ·rw[aR _ _ e]at this;exact this
  ·simp only[b]at hu;split at hu
   ·assumption
   ·cases hu
 have M:∀ {X:Nat→Nat→Prop} {I:Nat→QW} {h':Nat→Qz} {w':World},Mem Bw b I X h' w'→∀i,i<2→∀u,ρ i=some u→I i=some u:=fun m i hi u hu=>m.pc i u (by simp only[b];rw[if_pos hi];exact hu)
 refine wp_mono (hC Bw b [D0] _ _ d3) fun e a3 w3 ⟨dm,b8,b9⟩=>?_
 have a6:∀w,(invoke (.fn (.func gd) #[z,B]) #[]).run P w = .ok (.enter gd #[z,B]) w:=fun w=>by
  have n1:¬fnd.name = "runtime.NumGoroutine" :=by simpa using a4
  have n2:¬fnd.body=none:=fun e=>by rw[e]at ad;cases ad
  simp[invoke,callFunc,bi,n1,n2]
 cases a7 with
 | inl x =>
  obtain⟨rfl,xs,ds,r1,r2⟩:=b9;obtain⟨I,X,Z,p2,_⟩:=b8.ex;have be:=answers (P:=P) ac (fn:=fn) (w:=w) (b:=b) rfl (fun k hk=>hk) Z p2 r1 r2;show Leaves P fn a3.tmps _ a3.defers .returning w3;rw[p2.df];refine leaves_cons (by simp) (a6 w3) ((a8 #[z,B] w3 rfl).mono ?_);rintro e u d4 ⟨⟨v,rfl⟩,rfl,rfl⟩;obtain⟨v,hv,hr⟩:=be;exact⟨v,hv,hr⟩
 | inr ev =>
  obtain⟨rfl,d5⟩:=b9;obtain⟨I,X,Z,p2,p3⟩:=(d5 _ Bw b a3 w3 b8).ex;show Leaves P fn a3.tmps _ a3.defers (.panicking [{ v:=fv ev,recovered:=false }]) w3;rw[p2.df];have hn:([0,1]:QV).Nodup:=by decide
  obtain⟨mc,L⟩:=qy Z hn C;have hV:iS (Fr (own X (aA lp mp nxp 2).h) Bw w3) I [.adr 0 0 s2 0,.adr 1 0 s3 0] [z,B]:=by
   have f2:V (Fr (own φ (aA l m nx 0).h) Bw w2) ρ (.adr 0 0 s2 0) z:=by have:=b4;simp only[aA,c2,Option.getD_some]at this;exact this
   have f3:V (Fr (own φ (aA l m nx 0).h) Bw w2) ρ (.adr 1 0 s3 0) B:=by have:=b5;simp only[aA,c4,Option.getD_some]at this;exact this
   simp only[V]at f2 f3;obtain⟨g2,k2,r2⟩:=f2;obtain⟨g3,k3,r3⟩:=f3;refine⟨?_,?_,trivial⟩
   ·simp only[V];exact⟨g2,k2.imp (M Z 0 (by omega) _) (fun⟨n,c,h⟩=>⟨n,c,M Z 0 (by omega) _ h⟩),r2⟩
   ·simp only[V];exact⟨g3,k3.imp (M Z 1 (by omega) _) (fun⟨n,c,h⟩=>⟨n,c,M Z 1 (by omega) _ h⟩),r3⟩
  have a5:=mh Z L (xs:=[.adr 0 0 s2 0,.adr 1 0 s3 0]) (ys:=[.adr 0 0 s2 0,.adr 1 0 s3 0]) (by rfl) hV;have aa:=b1 ev (pS X (less [0,1] (aA lp mp nxp 2).h) Bw) (fp Z [0,1]) (fun i=>X (([0,1]:QV).getD i 0)) #[z,B] mc a5 (fun i u e=>by
   rw[kM C];simp only[fp]at e;split at e
   ·assumption
   ·cases e)
  refine leaves_cons (by simp) (a6 w3) (aa.mono ?_);rintro e u d4 ⟨v,dt,du,rfl,rfl,m2⟩;have d6:∀j,j<8→I (nxp+j)=none:=fun j hj=>by
   cases hq:I (nxp+j)with
   | none=>rfl
   | some u=>have:=p3 _ u hq;simp only[aA]at this;omega
  obtain⟨e2,e3,s1,d7,d8,_,_⟩:=qA (r:= .unk) (v:=undef) Z hn d6 (pD C) (c5 ev) m2 trivial;have d9:=p2.mono d7 d8;have J:=b2 ev;split at J
  ·rename_i xs dd;obtain⟨v,hv,hr⟩:=answers (P:=P) ac (fn:=fn) (w:=w) (b:=b) rfl (fun k hk=>hk) s1 d9 dd J;exact⟨v,hv,hr⟩
  ·cases J
end
end Go.Tv
