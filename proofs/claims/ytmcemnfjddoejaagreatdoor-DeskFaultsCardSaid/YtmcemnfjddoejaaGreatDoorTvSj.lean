import Derived.Test.YtmcemnfjddoejaaGreatDoorTvSdm
import Derived.Maps.RangeRun
namespace Go.Tv
open Go Go.RowKit
open Go.MapKept (run_setObj_map heap_set)
open Go.ChangeMaps (setBlock)
def K4{A B:Type}(f:A→ag×Qw)(g:B→ag×Qw):A⊕B→ag×Qw
 | .inl x=>f x
 | .inr x=>g x
def rv(K:Ty){α:Type}(kv:List (K.den×α))(us:List (K.den×Bool)):List (K.den×α):=kv.filter fun p=>(aU K us p.1).getD false
def sM(dead:QV)(s:Nat→ag):Nat→ag:=fun t=>if dead.contains t then .unk else s t
section
variable{P:Program}{tb:bP}{n:NS}{Bw:Nat→Prop}{w0:cu P}{ρ:Nat→QW}{φ:Nat→Nat→Prop}{h:Nat→Qz}{s:Nat→ag}{a:Act}{w:World}{o:Oper}
def Calm(P:Program)(F:Bool→Addr→Value→Prop)(ρ:Nat→QW)(o:Oper)(a:Act)(w:World)(x:ag):Prop:=∃v,(execOp a.eval o).run P w = .ok (.value v) w∧V F ρ x v
variable{F:Bool→Addr→Value→Prop}
theorem lb{t:Nat}(e:bT n F ρ s a)(c:o.op = .move (.tmp t)∨o.op = .assign (.tmp t)):Calm P F ρ o a w (s t) :=
 ⟨_,by rcases c with c | c <;> (simp only[execOp,c];rfl),e.sl t⟩
theorem od{t i:Nat}{f:List ag}{y:ag}(j:bT n F ρ s a)(ht:s t = .tup f)(p:o.op = .extract (.tmp t) i)(q:f[i]? = some y):Calm P F ρ o a w y:=by
 have c:=j.sl t;rw[ht]at c;simp only[V]at c;obtain⟨B,e,_,hl⟩:=c;obtain⟨u,z,A⟩:=VL.get hl q;exact⟨u,by simp[execOp,p,Act.eval,e,Instr.extract,z],A⟩
theorem BK{t id i sz off:Nat}(j:bT n F ρ s a)(ht:s t = .adr id i sz off)(p:o.op = .nilCheck (.tmp t)):Calm P F ρ o a w (.adr id i sz off):=by
 have e:=j.sl t;rw[ht]at e;have c:=e;simp only[V]at c;obtain⟨g,q,f⟩:=c;exact⟨_,by simp only[execOp,p,Act.eval,f];rfl,by rw[←f];exact e⟩
theorem yk{t id i sz k:Nat}{st:TypeId}{ti:TI}{f:Nat}(L:bT n F ρ s a)(ht:s t = .adr id i sz k)(M:o.op = .fieldAddr st (.tmp t) f)(q:aP P st ti){D:List (Nat×TypeId)}(hk:ti.k = .st D){off:Nat}{E:TypeId}(e:D[f]? = some (off,E)):
  Calm P F ρ o a w (.adr id i sz (k+off)):=by
 have u:=L.sl t;rw[ht]at u;obtain⟨d,N,I⟩:=q.hu;rw[hk]at I;obtain⟨z,rfl,O,X⟩:=I;subst O;rw[List.getElem?_map]at e;obtain⟨c,p,A⟩:∃c,z.toList[f]? = some c∧(c.offset,c.type)=(off,E):=by
  cases J:z.toList[f]? with
  | none=>rw[J]at e;cases e
  | some c=>rw[J]at e;exact⟨c,rfl,by simpa using e⟩
 cases A;have B:z[f]? = some c:=by simpa using p
 obtain⟨j,hi,C⟩:=X c (List.mem_of_getElem? p);simp only[V]at u;obtain⟨g,Y,Z⟩:=u;refine⟨.pointer (some ((⟨g,i*sz+k,none⟩:Addr).add c.offset)),?_,?_⟩
 ·simp[execOp,M,Instr.fieldAt,run_underlying N,B,Act.eval,Z,Instr.sureAddr,fieldPlace,sizeOf,typeInfo,hi,C]
 ·simp only[V];exact⟨g,Y,by simp[Addr.add,Nat.add_assoc]⟩
theorem zH(m:Mem Bw w0 ρ φ h w){t id off:Nat}{lt:TypeId}{ti:TI}{cs:List ag}{y:ag}(j:bT n (Fr (own φ h) Bw w) ρ s a){sz:Nat}(ht:s t = .adr id 0 sz off)(hb:h id=some (.box cs))(p:o.op = .load lt (.tmp t))(e:aP P lt ti)(q:eR ti cs off=some y):
  Calm P (Fr (own φ h) Bw w) ρ o a w y:=by
 have f:=j.sl t;rw[ht]at f;obtain⟨C,u,z⟩:=mT m f (cs:=cs) (off:=off) (c:=True) (by simp only[kN,hb,Nat.zero_mul,Nat.zero_add]) trivial;obtain⟨v,A,B⟩:=gx (P:=P) e z q;refine⟨v,?_,B⟩;simp[execOp,p,Instr.loadAt,Act.eval,u,Instr.sureAddr,A]
theorem IP{t e:Nat}{β b:Bool}(f:bT n F ρ s a)(ht:s t = .p β .bool b)(j:o.op = .unOp .not e (.tmp t)):Calm P F ρ o a w (.p false .bool (!b)):=by
 have c:=f.sl t;rw[ht]at c;obtain⟨z,q,u⟩:=Bz (P:=P) (w:=w) (op:= .not) (r:= .p false .bool (!b)) rfl c;exact⟨z,by simp only[execOp,j,Act.eval];rw[Sem.run_bind,q];rfl,u⟩
theorem Cy(m:Mem Bw w0 ρ φ h w){tm I id:Nat}{t kt et:TypeId}{ti te:TI}(M:aP P t ti)(hk:ti.k = .mp kt et){K:Ty}(f:fC P kt K)(N:K.scalar=true)(q:aP P et te)(hT:te.T=some .bool){us:List (K.den×Bool)}(hi:h id=some (.mpo K .bool us))
  (hs:bT n (Fr (own φ h) Bw w) ρ s a) (h1:s tm = .mp id) {β:Bool} {k:K.den} (h2:s I = .p β K k) (ho:o.op = .lookup t (.tmp tm) (.tmp I) false):Calm P (Fr (own φ h) Bw w) ρ o a w (.p false .bool ((aU K us k).getD false)):=by
 have hx:=hs.sl tm;rw[h1]at hx;have hy:=hs.sl I;rw[h2]at hy;have e2:a.tmps.getD I undef=aO K k:=nu f.isKey N hy;obtain⟨r,J,clock,e1,_,_,hb,⟨O,_⟩,c,V,u⟩:=uA m hi hx;obtain⟨dm,hm,A⟩:=M.hu;rw[hk]at A;simp only[UK]at A;subst A;have X:J.toList.map (·.key)=(us.map (·.1)).map (aO K):=by rw[c,List.map_map];rfl
 obtain⟨z,hz,Y,Z,a1⟩:=dy q w;obtain⟨a7,a8,a9⟩:=q.hT _ hT;rcases f.find k J.toList (us.map (·.1)) w X with⟨g1,g2⟩ | ⟨j,e,g1,g2,g3⟩
 ·have B:aU K us k=none:=jB O fun p D e=>by
   obtain⟨j,L⟩:=List.mem_iff_getElem?.1 D;have E:(us.map (fun p=>aO K p.1))[j]? = some (aO K p.1):=by rw[List.getElem?_map,L];rfl
   rw[←c,List.getElem?_map]at E;cases hq:J.toList[j]? with
   | none=>rw[hq]at E;cases E
   | some x =>rw[hq]at E;simp at E;exact g2 x (List.mem_of_getElem? hq) (by rw[E,e])
  rw[B];have a2:MV (Fr (own φ h) Bw w false) .bool (Ty.bool.zero) z:=wA q hT hz Y Z a1;refine⟨z,?_,by have:=Hy (ρ:=ρ) (F:=Fr (own φ h) Bw w) a2;exact this⟩;simp only[execOp,ho,Act.eval];rw[e1,e2];simp[Instr.lookup,run_underlying hm,Go.MapKept.run_getObj_map hb,f.check,g1,hz,Result.andThen]
 ·obtain⟨p,D,a3⟩:=jT c g2;have a4:p.1=k:=fO O (by rw[←a3,g3]);have C:=lB (α:=Bool) O V D a4;rw[C];have L:j<us.length:=(List.getElem?_eq_some_iff.1 D).1;obtain⟨e',q1,q2⟩:=u j L;have a5:e'=e:=by
   have:J.toList[j]? = some e':=by simpa using q1
   rw[g2]at this;cases this;rfl
  subst a5;have a6:us[j]=p:=by rw[List.getElem?_eq_getElem L]at D;simpa using D
  rw[a6]at q2;refine⟨e'.val,?_,by have:=Hy (ρ:=ρ) (F:=Fr (own φ h) Bw w) q2;exact this⟩;simp only[execOp,ho,Act.eval];rw[e1,e2];simp[Instr.lookup,run_underlying hm,Go.MapKept.run_getObj_map hb,f.check,g1,Result.andThen]
theorem EO{t mt k e c:Nat}{f:Array MapEntry}{clock:Nat}(j:o.op = .range mt (.tmp t))(ev:a.tmps.getD t undef = .map (some c))(p:P.underlying mt=some (.map k e))(hb:w.heap[c]? = some (.map f clock)):
  (execOp a.eval o).run P w = .ok (.value (.pointer (some ⟨w.heap.size,0,none⟩))) (w.alloc (.mapIter (some c) clock #[] clock)):=by
 simp only[execOp,j,Act.eval,ev,Sem.run_bind,run_range_map w mt k e c f clock p hb,Result.andThen_ok];rfl
theorem zN{t:Nat}{u v:Value}{w':World}(c:o.op = .next (.tmp t) false)(ev:a.tmps.getD t undef=u)(e:(Instr.next u false o.type).run P w = .ok v w'):(execOp a.eval o).run P w = .ok (.value v) w':=by
 simp only[execOp,c,Act.eval,ev,Sem.run_bind,e,Result.andThen_ok];rfl
theorem EX{t:Nat}{u v:Value}{w':World}(c:o.op = .entry (.tmp t))(ev:a.tmps.getD t undef=u)(e:(Instr.entry u).run P w = .ok v w'):(execOp a.eval o).run P w = .ok (.value v) w':=by
 simp only[execOp,c,Act.eval,ev,Sem.run_bind,e,Result.andThen_ok];rfl
theorem Cl{p q mt c u f j:Nat}{e:Array MapEntry}{clock:Nat}{k v:Value}(z:o.op = .call { callee:= .builtin .delete,args:= #[.tmp p,.tmp q],argTypes:= #[mt,c] })(A:a.tmps.getD p undef = .map (some f))(B:a.tmps.getD q undef=k)
  (C:P.underlying mt=some (.map c u)) (hb:w.heap[f]? = some (.map e clock)) (D:(Instr.checkKey e.isEmpty 10000 c k).run P w = .ok () w) (E:(Instr.findKey c k e.toList).run P w = .ok (some (j,v)) w) :
  (execOp a.eval o).run P w = .ok (.value (.tuple #[])) (setBlock w f (.map (e.eraseIdxIfInBounds j) clock)):=by
 simp only[execOp,z,resolve,invoke,builtin,Sem.run_bind,Sem.run_pure,Result.andThen_ok,List.map_toArray,List.map_cons,List.map_nil,Act.eval,A,B];simp[Builtin.delete_,run_underlying C,Go.MapKept.run_getObj_map hb,D,E,run_setObj_map _ hb,Result.andThen,setBlock]
theorem uI{ops:Array Oper}{i:Nat}(hi:ops[i]? = some o)(f:o.guard=none){d:QJ}(hd:o.dst=d){v:Value}{w':World}(c:(execOp a.eval o).run P w = .ok (.value v) w'){K:Act→World→Prop}{Q:Exit→Act→World→Prop}(hk:K (a.put d v) w'):wpOp P ops Q i K a w:=by
 subst hd;unfold wpOp;rw[hi];simp only;rw[if_pos (by unfold Region.wanted;rw[f])];exact .inl (Good.aH (post:=fun u e=>u=v∧e=w') c ⟨rfl,rfl⟩ _ _ (by rintro u e ⟨rfl,rfl⟩;exact hk))
theorem eI{ops:Array Oper}{i:Nat}(hi:ops[i]? = some o)(f:o.guard=none){d:QJ}(c:o.dst=d)(hd:wG n d=true)(j:bT n F ρ s a){x:ag}(p:Calm P F ρ o a w x){K:Act→World→Prop}{Q:Exit→Act→World→Prop}
  (hk:∀e,bT n F ρ (dE s d x) e→K e w):wpOp P ops Q i K a w:=by
 obtain⟨v,q,u⟩:=p;exact uI hi f c q (hk _ (j.BS u hd))
end
section
variable{P:Program}{tb:bP}{n:NS}{Bw:Nat→Prop}{w0:cu P}{ρ:Nat→QW}{φ:Nat→Nat→Prop}{h:Nat→Qz}{s:Nat→ag}{a:Act}{w:World}
theorem Jl{c:Code}{Q:Exit→Act→World→Prop}(Inv:Nat→Act→World→Prop)
  (B:∀k a w,Inv k a w→c.wp P (Exit.then (fun u w'=>∃j,j<k∧Inv j u w') Q) a w) {k:Nat} {a:Act} {w:World} (C:Inv k a w):(Code.loop c).wp P Q a w:=by
 have z:∀a w,(∃k,Inv k a w)→∃k,Inv k a w∧∀m,Inv m a w→k≤m:=fun a w=>BG (fun k=>Inv k a w)
 classical
 let q:Act→World→Nat:=fun a w=>if h:∃k,Inv k a w then(z a w h).choose else 0
 have p:∀a w (h:∃k,Inv k a w),Inv (q a w) a w∧∀m,Inv m a w→q a w≤m:=fun a w h=>by simp only[q,dif_pos h];exact(z a w h).choose_spec
 refine Go.wp_loop (fun a w=>∃k,Inv k a w) q ⟨k,C⟩ fun a w hi=>?_
 obtain⟨D,_⟩:=p a w hi;refine wp_mono (B _ a w D) fun e u w' A=>?_
 cases e with
 | normal =>
  obtain⟨j,E,f⟩:=A;exact⟨⟨j,f⟩,Nat.lt_of_le_of_lt ((p u w' ⟨j,f⟩).2 j f) E⟩
 | _=>exact A
theorem Mem.FH(m:Mem Bw w0 ρ φ h w){w':World}{r:Nat}(I:w'.os=w.os)(J:w'.tape=w.tape)(L:w'.output=w.output)(D:w.heap.size≤w'.heap.size)(hb:∀k,k<w.heap.size→k≠r→w'.heap[k]? = w.heap[k]?)
  (M:¬own φ h r) (hk:¬w0.kp r) (N:∀ad v,w.pb ad=some v→ad.block≠r):Mem Bw w0 ρ φ h w'∧∀β a v,Fr (own φ h) Bw w β a v→Fr (own φ h) Bw w' β a v:=by
 have E:∀β a v,Fr (own φ h) Bw w β a v→Fr (own φ h) Bw w' β a v:=fun β a v q=>⟨q.1,q.2.1,by rw[World.qM (hb _ (World.A2 q.2.2) (N _ _ q.2.2))];exact q.2.2⟩
 refine⟨⟨fun id o j=>?_,fun id o k B C O=>Nat.lt_of_lt_of_le (m.lt id o k B C O) D,m.dj,m.bw,m.ow,⟨I.trans m.kp.os,J.trans m.kp.tape,L.trans m.kp.output,Nat.le_trans m.kp.size D,fun k q=>?_⟩,m.pd⟩,E⟩
 ·obtain⟨u,B,C⟩:=m.ob id o j;exact⟨u,B,OR.mono E (fun _ _ h=>h) (fun _ h=>h) (fun hl k z=>hb k (m.lt id o k j hl z) (fun e=>M ⟨id,o,j,hl,by rw[←e];exact z⟩)) C⟩
 ·rw[hb k (Nat.lt_of_lt_of_le (w0.lt k q) m.kp.size) (fun e=>hk (by rw[←e];exact q))];exact m.kp.block k q
theorem bT.back{F:Bool→Addr→Value→Prop}{f:Nat→ag}(h:bT n F ρ f a)(j:∀t,s t=f t∨s t = .unk):bT n F ρ s a:=⟨h.tm,h.df,fun t=>by
 rcases j t with e | e
 ·rw[e];exact h.sl t
 ·rw[e];simp only[V]⟩
theorem filter_lt{α:Type}{p q:α→Bool}:∀ {l:List α},(∀x,q x=true→p x=true)→(∃x∈l,p x=true∧q x=false)→(l.filter q).length<(l.filter p).length
 | [],_,⟨x,e,_⟩=>by cases e
 | y::l,c,⟨x,e,f,j⟩=>by
  have u:(l.filter q).length≤(l.filter p).length:=by
   clear e;induction l with
   | nil=>simp
   | cons z l A =>
    simp only[List.filter_cons];cases hz:q z with
    | true=>rw[c z hz];simpa using A
    | false=>cases p z <;> simp <;> omega
  simp only[List.filter_cons];rcases List.mem_cons.1 e with rfl | e
  ·rw[f,j];simp;omega
  ·have:=filter_lt (p:=p) (q:=q) c ⟨x,e,f,j⟩;cases B:q y with
   | true=>rw[c y B];simpa using this
   | false=>cases p y <;> simp <;> omega
theorem erase_filter{α:Type}{k:QX}:∀ {l:List (QX×α)} {j:Nat} {p:QX×α},(l.map (·.1)).Nodup→l[j]? = some p→p.1=k→l.eraseIdx j=l.filter fun x=> !(x.1 == k)
 | [],_,_,_,h,_=>by simp at h
 | x::l,0,p,hn,h,e=>by
  simp at h;subst h;simp only[List.map_cons,List.nodup_cons]at hn;simp only[List.eraseIdx_cons_zero,List.filter_cons,e,BEq.rfl,Bool.not_true,Bool.false_eq_true,if_false];refine(List.filter_eq_self.2 fun y f=>?_).symm;have:y.1≠k:=fun c=>hn.1 (by rw[e,←c];exact List.mem_map_of_mem f)
  simpa using this
 | x::l,j+1,p,hn,h,e=>by
  simp only[List.map_cons,List.nodup_cons]at hn;simp only[List.getElem?_cons_succ]at h;have q:x.1≠k:=fun c=>hn.1 (by rw[c,←e];exact List.mem_map_of_mem (List.mem_of_getElem? h))
  have u:=erase_filter hn.2 h e;simp only[List.eraseIdx_cons_succ,List.filter_cons];rw[if_pos (by simpa using q),u]
def rF{α:Type}(c:List (QX×α))(us:List (QX×Bool))(e:QQ):List (QX×α):=c.filter fun p=>(aU (α:=Bool) .str us p.1).getD false || !e.contains p.1
def Jx(tb:bP)(ST q u z p:Nat):QJ :=
 match tb.find ST,tb.find u,tb.find z,tb.find p with
 | some A,some B,some C,some D=>match A.k,B.k,C.k,D.k with
  | .st fl,.mp c _,.mp e f,.str=>match fl[q]?,tb.find e,tb.find f with
   | some (off,_),some j,some E=>match j.k with
    | .str=>if c=p∧E.T=some .bool then some off else none
    | _=>none
   | _,_,_=>none
  | _,_,_,_=>none
 | _,_,_,_=>none
def HL(tb:bP)(c:Nat)(o:Qz)(off:Nat):Option ag :=
 match tb.find c,o with
 | some e,some (.box f)=>eR e f off
 | _,_=>none
theorem AI{id:Nat}{o j:Obj}(q:h id=some o)(u:o.live=true)(z:j.live=true):own φ (bq h id (some j))=own φ h:=by
 funext k;refine propext ⟨fun⟨i,x,f,p,c⟩=>?_,fun⟨i,x,f,p,c⟩=>?_⟩
 ·by_cases e:i=id
  ·subst e;exact⟨i,o,q,u,c⟩
  ·rw[aD _ _ e]at f;exact⟨i,x,f,p,c⟩
 ·by_cases e:i=id
  ·subst e;exact⟨i,j,ao _ _ _,z,c⟩
  ·exact⟨i,x,by rw[aD _ _ e];exact f,p,c⟩
theorem G3{w:World}{r:Nat}{x:QJ}{y z:Nat}{l:Array Nat}(h:w.heap[r]? = some (.mapIter x y l z))(f:Addr)(v:Value)(c:w.pb f=some v):f.block≠r:=fun e=>by
 subst e;unfold World.pb at c;split at c
 ·unfold World.cell? at c;rw[h]at c;simp at c
 ·rw[h]at c;cases c
set_option maxHeartbeats 4000000 in
theorem KM(N:bV P tb){σ:St}{Q:Exit→St→Prop}{idK idU idF:Nat}{A:Ty}{kv:List (QX×A.den)}{us:List (QX×Bool)}{dead:QV}{kn ko ks kw l1 b b2 tS tU I tN tO tE tF J tG d0 d1 d2 d3 d7 d8 d9 e0 e1 O e3 e4 fi sz off:Nat}{ST MT UT kt bt:TypeId}
  {y0 y1 y2 y3 y4 y5 y6 y7 y8 y9 l2 l3 l4 l5 l6 l7 lc li lm ln:TypeId} {q0 q1 q2 q3 q4 q5 q6 q7 q8 q9 lo lp ls lw lx ly mc md mo ms:String} {f0 f1 f2 f3 f4 f5 f6 f7 f8 f9 nn ns oi oj on p1 p2 pi pl pp:Array Edge}
  (hT:Jx tb ST fi MT UT kt=some off) (s1:σ.s tS = .adr idF 0 sz 0) (s2:HL tb MT (σ.h idF) off=some (.mp idK)) (s4:σ.h idK=some (.mpo .str A kv)) (s5:σ.s tU = .mp idU) (s6:σ.h idU=some (.mpo .str .bool us))
  (b1:([d0,d1,d2,d3,I,tN,tO,tE,tF,J,d7,d8,d9,tG,e0,e1,O,e3,e4].all fun t=>dead.contains t && decide (t<n.sz))=true) (b3:(dead.contains tS || dead.contains tU)=false) (b4:idK≠idF∧idU≠idK)
  (hI:([tN,tO,tE,tF,J,d7,d8,d9,tG,e0,e1,O,e3,e4].all fun t=>t != I)=true)
  (ne:J≠d7∧J≠d8∧J≠d9∧J≠tG∧J≠e0∧J≠e1∧J≠O∧J≠e3∧d7≠d8∧e3≠e4∧J≠e4)
  (hq:∀σ',Le n σ' ⟨sM dead σ.s,bq σ.h idK (some (.mpo .str A (rv .str kv us))),σ.nx,σ.pn⟩→Q .normal σ') :
  W P n Bw w0 (.seq (.region kn #[⟨some d0,.move (.tmp tS),y0,q0,f0,none⟩,⟨some d1,.nilCheck (.tmp d0),y1,q1,f1,none⟩,⟨some d2,.fieldAddr ST (.tmp d1) fi,y2,q2,f2,none⟩,⟨some d3,.load MT (.tmp d2),y3,q3,f3,none⟩,⟨some I,.range MT (.tmp d3),y4,q4,f4,none⟩] false) (.block b (.loop (.seq (.region ko #[⟨some tN,.next (.tmp I) false,y5,q5,f5,none⟩,⟨some tO,.extract (.tmp tN) 0,y6,q6,f6,none⟩] false) (.seq (.cond (.tmp tO) .skip (.exit b)) (.block b2 (.seq (.region ks #[⟨some tE,.entry (.tmp I),y7,q7,f7,none⟩,⟨some tF,.extract (.tmp tE) 0,y8,q8,f8,none⟩,⟨some J,.assign (.tmp tF),y9,q9,f9,none⟩] false) (.seq (.region kw #[⟨some d7,.move (.tmp tU),l2,lo,nn,none⟩,⟨some d8,.move (.tmp J),l3,lp,ns,none⟩,⟨some d9,.lookup UT (.tmp d7) (.tmp d8) false,l4,ls,oi,none⟩,⟨some tG,.unOp .not bt (.tmp d9),l5,lw,oj,none⟩] false) (.cond (.tmp tG) (.region l1 #[⟨some e0,.move (.tmp tS),l6,lx,on,none⟩,⟨some e1,.nilCheck (.tmp e0),l7,ly,p1,none⟩,⟨some O,.fieldAddr ST (.tmp e1) fi,lc,mc,p2,none⟩,⟨some e3,.load MT (.tmp O),li,md,pi,none⟩,⟨some e4,.move (.tmp J),lm,mo,pl,none⟩,⟨none,.call { callee:= .builtin .delete,args:= #[.tmp e3,.tmp e4],argTypes:= #[MT,kt] },ln,ms,pp,none⟩] false) .skip))))))))) σ Q:=by
 obtain⟨si,fl,ft,mi,et,ki,ui,b5,be,bs,bi,t1,t2,t3,t4,t5,t6,t7,t8,t9,di,dk,ds,dt⟩:∃si fl ft mi et ki ui b5 be bs bi,tb.find ST=some si∧si.k = .st fl∧fl[fi]? = some (off,ft)∧tb.find MT=some mi∧mi.k = .mp kt et∧tb.find kt=some ki∧ki.k = .str ∧
   tb.find UT=some ui∧ui.k = .mp b5 be∧tb.find b5=some bs∧bs.k = .str∧tb.find be=some bi∧bi.T=some .bool:=by
  unfold Jx at hT;split at hT
  ·rename_i si mi ui ki t1 t4 t8 t6;split at hT
   ·rename_i fl sj et b5 be t2 t5 t9 t7;split at hT
    ·rename_i s8 ft bs bi t3 di ds;split at hT
     ·rename_i dk;split at hT
      ·rename_i hh;cases hT;obtain⟨rfl,dt⟩:=hh;exact⟨si,fl,ft,mi,et,ki,ui,b5,be,bs,bi,t1,t2,t3,t4,t5,t6,t7,t8,t9,di,dk,ds,dt⟩
      ·cases hT
     ·cases hT
    ·cases hT
   ·cases hT
  ·cases hT
 obtain⟨cs,sF,s3⟩:∃cs,σ.h idF=some (.box cs)∧eR mi cs off=some (.mp idK):=by
  unfold HL at s2;rw[t4]at s2;split at s2
  ·rename_i sq cs e1 O;cases e1;exact⟨cs,O,s2⟩
  ·cases s2
 clear hT s2;have ey:fC P kt .str:=fC.Af (N.find t6) (by rw[t7];rfl);have fa:fC P b5 .str:=fC.Af (N.find di) (by rw[dk];rfl);simp only[List.all_cons,List.all_nil,Bool.and_true,Bool.and_eq_true,decide_eq_true_eq]at b1;obtain⟨⟨D0,n0⟩,⟨D1,n1⟩,⟨D2,n2⟩,⟨D3,n3⟩,⟨DI,nI⟩,⟨DN,nN⟩,⟨DO,nO⟩,⟨DE,nE⟩,⟨DF,nF⟩,⟨DK,nK⟩,⟨D7,n7⟩,⟨D8,n8⟩,⟨D9,n9⟩,⟨DG,nG⟩,⟨E0,m0⟩,⟨E1,ps⟩,⟨E2,pu⟩,⟨E3,m3⟩,E4,m4⟩:=b1;rw[Bool.or_eq_false_iff]at b3;simp only[List.all_cons,List.all_nil,Bool.and_true,Bool.and_eq_true,bne_iff_ne,ne_eq]at hI;obtain⟨fd,fo,qr,r1,fr,fs,fv,fw,r2,g1,g5,g6,g7,g8⟩:=hI;obtain⟨g9,r3,r4,r5,gb,gd,gi,de,gj,gp,du⟩:=ne;have f:∀ {t:Nat},t<n.sz→wG n (some t)=true:=fun h=>by simpa [wG]using h
 obtain⟨dm,hm,e5⟩:=(N.find t4).hu;rw[t5]at e5;simp only[UK]at e5;subst e5;intro a w hR;obtain⟨ρ,φ,m,hs,r6⟩:=hR.ex;refine wp_seq (wp_region ?_);simp only[List.size_toArray,List.length_cons,List.length_nil,show List.range (0+1+1+1+1+1)=[0,1,2,3,4]from rfl];rw[wpOps_cons];refine eI (d:=some d0) rfl rfl rfl (f n0) hs (lb hs (.inl rfl)) fun a1 h1=>?_
 rw[s1]at h1;rw[wpOps_cons];refine eI (d:=some d1) rfl rfl rfl (f n1) h1 (BK h1 (ao _ _ _) rfl) fun a2 h2=>?_
 rw[wpOps_cons];refine eI (d:=some d2) rfl rfl rfl (f n2) h2 (yk h2 (ao _ _ _) rfl (N.find t1) t2 t3) fun a3 h3=>?_
 rw[wpOps_cons];refine eI (d:=some d3) rfl rfl rfl (f n3) h3 (zH m h3 (ao _ _ _) sF rfl (N.find t4) (by rw[Nat.zero_add];exact s3)) fun a4 h4=>?_
 have hv:=h4.sl d3;simp only[dE,ao]at hv;obtain⟨L,r7,c,ev,cc,e6,bv,⟨hK,hB⟩,ch,gs,cl⟩:=uA m s4 hv;have bx:own φ σ.h L:=⟨idK,_,s4,rfl,e6⟩;have h5:L<w.heap.size:=m.rB bx;have C:¬own φ σ.h w.heap.size:=fun ho=>Nat.lt_irrefl _ (m.rB ho)
 have c4:¬w0.kp w.heap.size:=fun hk=>Nat.lt_irrefl _ (Nat.lt_of_lt_of_le (w0.lt _ hk) m.kp.size)
 rw[wpOps_cons];refine uI (w':=w.alloc (.mapIter (some L) c #[] c)) rfl rfl (d:=some I) rfl (v:= .pointer (some ⟨w.heap.size,0,none⟩)) (EO rfl ev hm bv) ?_;generalize r8:w.heap.size=r at C c4;obtain⟨mm,h6⟩:=m.FH (w':=w.alloc (.mapIter (some L) c #[] c)) (r:=r) rfl rfl rfl (by simp) (fun k hk _=>heap_alloc_old w _ hk) C c4 (fun ad v hp e=>by
  have:=World.A2 hp;omega)
 have b6:bT n (Fr (own φ σ.h) Bw (w.alloc (.mapIter (some L) c #[] c))) ρ (bq (sM dead σ.s) I (.lit (.pointer (some ⟨r,0,none⟩)))) (a4.put (some I) (.pointer (some ⟨r,0,none⟩))):=by
  refine((h4.mono h6 (fun _ _ h=>h)).BS (d:=some I) (x:= .lit (.pointer (some ⟨r,0,none⟩))) (v:= .pointer (some ⟨r,0,none⟩)) (by simp only[V]) (f nI)).back fun t=>?_
  simp only[dE];by_cases e:t=I
  ·subst e;exact .inl (by rw[ao,ao])
  ·rw[aD _ _ e];unfold sM;cases hd:dead.contains t with
   | true=>exact .inr rfl
   | false =>
    refine .inl ?_;have a6:∀x,dead.contains x=true→t≠x:=fun x E e=>by rw[e,E]at hd;cases hd
    rw[aD _ _ e,aD _ _ (a6 _ D3),aD _ _ (a6 _ D2),aD _ _ (a6 _ D1),aD _ _ (a6 _ D0)];rfl
 show(Code.block b _).wp P (fun e a' w'=>∃σ',R n Bw w0 σ' a' w'∧Q e σ') _ _;refine wp_block ?_;refine Jl (fun k a w=>∃z B seen,k=(kv.filter fun p=> !z.contains p.1).length∧Mem Bw w0 ρ φ (bq σ.h idK (some (.mpo .str A (rF kv us z)))) w∧bT n (Fr (own φ σ.h) Bw w) ρ (bq (sM dead σ.s) I (.lit (.pointer (some ⟨r,0,none⟩)))) a∧w.heap[r]? = some (.mapIter (some L) c seen c) ∧
  w.heap[L]? = some (.map B c)∧(∀x∈B.toList,x.born<c)∧∀e∈B.toList,(seen.contains e.born=true↔∃k,k∈z∧e.key=aO .str k)) ?_ (k:=(kv.filter fun p=> !([]:QQ).contains p.1).length)
  ⟨[],r7,#[],rfl,?_,b6,by rw[←r8];exact heap_alloc_new w _,by rw[heap_alloc_old w _ h5];exact bv,hB.2,fun e _=>by simp⟩
 case refine_2 =>
  have e1:rF kv us []=kv:=List.filter_eq_self.2 fun p _=>by simp
  have O:bq σ.h idK (some (.mpo .str A kv))=σ.h:=by
   funext i;by_cases e:i=idK
   ·subst e;rw[ao,s4]
   ·rw[aD _ _ e]
  rw[e1,O];exact mm
 clear b6 mm h6 h1 h2 h3 h4 hv ev hB ch gs cl bv hs;rintro k a w ⟨z,B,seen,rfl,m1,b6,hr,e7,X,Y⟩;have e8:own φ (bq σ.h idK (some (.mpo .str A (rF kv us z))))=own φ σ.h:=AI s4 rfl rfl;obtain⟨b7,D,e9,ea⟩:ym B c∧B.toList.map (·.key)=(rF kv us z).map (fun p=>aO .str p.1)∧((rF kv us z).map (·.1)).Nodup∧∀i (h':i<(rF kv us z).length),∃e:MapEntry,B[i]? = some e∧MV (Fr (own φ (bq σ.h idK (some (.mpo .str A (rF kv us z))))) Bw w false) A (rF kv us z)[i].2 e.val:=by obtain⟨u,q1,sx,sy,kl,rfl,_,h7,⟨_,b7⟩,q2,q3,q4⟩:=m1.ob idK _ (ao _ _ _);rw[cc]at q1;cases q1;rw[e7]at h7;cases h7;exact⟨b7,q2,q3,q4⟩
 refine wp_seq (wp_region ?_);simp only[List.size_toArray,List.length_cons,List.length_nil,show List.range (0+1+1)=[0,1]from rfl];rw[wpOps_cons];have h8:a.tmps.getD I undef = .pointer (some ⟨r,0,none⟩):=by have:=b6.sl I;rw[ao]at this;simpa only [V]using this
 rcases run_next_at (P:=P) w y5 r L c c seen B c hr e7 X (Nat.le_refl _)with⟨g0,ac⟩ | ⟨e,he,w1,r9,ac⟩
 ·-- all s9 looked at
  refine uI (d:=some tN) rfl rfl rfl (zN rfl h8 ac) ?_;have k1:=b6.BS (d:=some tN) (x:= .tup [.p false .bool false]) (v:= .tuple #[.bool false]) (by
   simp only[V,VL,ai];exact⟨_,rfl,rfl,⟨.bool false,by simp,rfl,rfl⟩,trivial⟩) (f nN)
  rw[wpOps_cons];refine eI (d:=some tO) rfl rfl rfl (f nO) k1 (od k1 (ao _ _ _) rfl rfl) fun a2 k2=>?_
  show(Code.seq (.cond (.tmp tO) .skip (.exit b)) _).wp P _ _ _;have eb:a2.tmps.getD tO undef = .bool false:=kq (by have:=k2.sl tO;simp only[dE,ao]at this;exact this);refine wp_seq (wp_cond_false eb (wp_exit ?_));simp only[Exit.then,Exit.inBlock,if_true];have h9:∀e∈B.toList,seen.contains e.born=true:=fun e he=>by
   cases hc:seen.contains e.born with
   | true=>rfl
   | false =>
    exfalso
    have:e∈leftOf B seen:=by unfold leftOf;rw[Array.mem_filter];exact⟨by simpa using he,by rw[hc];rfl⟩
    have:=Array.size_pos_of_mem this;omega
  have ec:rF kv us z=rv .str kv us:=by
   refine List.filter_congr fun p hp=>?_
   cases hc:z.contains p.1 with
   | true=>simp
   | false =>
    exfalso
    have b8:p∈rF kv us z:=List.mem_filter.2 ⟨hp,by simp only[hc,Bool.not_false,Bool.or_true]⟩;obtain⟨j,hj⟩:=List.mem_iff_getElem?.1 b8;have q:(B.toList.map (·.key))[j]? = some (aO .str p.1):=by rw[D,List.getElem?_map,hj];rfl
    rw[List.getElem?_map]at q;cases hq:B.toList[j]? with
    | none=>rw[hq]at q;cases q
    | some e =>rw[hq]at q;simp only[Option.map_some,Option.some.injEq]at q;have aa:=List.mem_of_getElem? hq;obtain⟨k',hw,rb⟩:=(Y e aa).1 (h9 e aa);have:p.1=k':=fO (K:= .str) rfl (by rw[←q,rb]);rw[←this]at hw;rw[List.contains_iff_mem.2 hw]at hc;cases hc
  refine⟨⟨sM dead σ.s,bq σ.h idK (some (.mpo .str A (rv .str kv us))),σ.nx,σ.pn⟩,⟨⟨ρ,φ,by have:=m1;rw[ec]at this;exact this,?_,r6⟩,hR.pn⟩,hq _ (Le.refl _)⟩;rw[show own φ (bq σ.h idK (some (.mpo .str A (rv .str kv us))))=own φ σ.h from AI s4 rfl rfl];refine k2.back fun t=>?_
  simp only[dE];unfold sM;cases hd:dead.contains t with
  | true=>exact .inr rfl
  | false =>
   refine .inl ?_;have a6:∀x,dead.contains x=true→t≠x:=fun x E e=>by rw[e,E]at hd;cases hd
   rw[aD _ _ (a6 _ DO),aD _ _ (a6 _ DN),aD _ _ (a6 _ DI)];simp only[hd]
 ·-- one entry
  have hy:e∈B.toList∧seen.contains e.born=false:=by unfold leftOf at he;simp only[Array.toList_filter,List.mem_filter,Bool.not_eq_true']at he;exact he
  obtain⟨aa,rc⟩:=hy;obtain⟨j0,i1⟩:=List.mem_iff_getElem?.1 aa;obtain⟨p0,i2,c5⟩:=jT (K:= .str) D i1;obtain⟨k,hk⟩:∃k,k=p0.1:=⟨_,rfl⟩;rw[←hk]at c5;have i3:p0∈kv:=(List.mem_filter.1 (List.mem_of_getElem? i2)).1;have i4:z.contains k=false:=by
   cases hc:z.contains k with
   | false=>rfl
   | true =>have:=(Y e aa).2 ⟨k,List.contains_iff_mem.1 hc,c5⟩;rw[rc]at this;cases this
  have c6:(kv.filter fun p=> !(k::z).contains p.1).length<(kv.filter fun p=> !z.contains p.1).length:=by refine filter_lt (fun x E=>?_) ⟨p0,i3,by rw[←hk,i4];rfl,by rw[←hk];simp⟩;simp only[List.contains_cons,Bool.not_or,Bool.and_eq_true]at E;exact E.2
  have cp:w1.os=w.os∧w1.tape=w.tape∧w1.output=w.output∧w1.heap=w.heap:=by rcases r9 with rfl | rfl <;> exact⟨rfl,rfl,rfl,rfl⟩
  generalize cx:setBlock w1 r (.mapIter (some L) c (seen.push e.born) c)=w2 at ac;have d4:w2.heap=w.heap.setIfInBounds r (.mapIter (some L) c (seen.push e.born) c):=by rw[←cx];show w1.heap.setIfInBounds _ _=_;rw[cp.2.2.2]
  have i5:r<w.heap.size:=(Array.getElem?_eq_some_iff.1 hr).1;have i6:L≠r:=fun e=>C (e ▸ bx)
  have ed:w2.heap[r]? = some (.mapIter (some L) c (seen.push e.born) c):=by rw[d4];simp[i5]
  have M:w2.heap[L]? = some (.map B c):=by rw[d4,Array.getElem?_setIfInBounds_ne (Ne.symm i6)];exact e7
  obtain⟨m2,i7⟩:=m1.FH (w':=w2) (r:=r) (by rw[←cx];exact cp.1) (by rw[←cx];exact cp.2.1) (by rw[←cx];exact cp.2.2.1) (by rw[d4];simp) (fun i _ hi=>by rw[d4,Array.getElem?_setIfInBounds_ne (Ne.symm hi)])
   (by rw[e8];exact C) c4 (fun ad v hp=>G3 hr ad v hp)
  refine uI (d:=some tN) rfl rfl rfl (zN rfl h8 ac) ?_;have rh:bT n (Fr (own φ (bq σ.h idK (some (.mpo .str A (rF kv us z))))) Bw w2) ρ (bq (sM dead σ.s) I (.lit (.pointer (some ⟨r,0,none⟩)))) a:=b6.mono (fun β a v hv=>i7 β a v (by rw[e8];exact hv)) (fun _ _ h=>h);have k1:=rh.BS (d:=some tN) (x:= .tup [.p false .bool true,.lit e.key,.lit e.val]) (v:= .tuple #[.bool true,e.key,e.val]) (by
   simp only[V,VL,ai];exact⟨_,rfl,rfl,⟨.bool true,by simp,rfl,rfl⟩,⟨e.key,by simp,rfl⟩,⟨e.val,by simp,rfl⟩,trivial⟩) (f nN)
  rw[wpOps_cons];refine eI (d:=some tO) rfl rfl rfl (f nO) k1 (od k1 (ao _ _ _) rfl rfl) fun a2 k2=>?_
  show(Code.seq (.cond (.tmp tO) .skip (.exit b)) _).wp P _ _ _;have eb:a2.tmps.getD tO undef = .bool true:=kq (by have:=k2.sl tO;simp only[dE,ao]at this;exact this);refine wp_seq (wp_cond_true eb (wp_skip ?_));show(Code.block b2 _).wp P _ _ _;refine wp_block (wp_seq (wp_region ?_));simp only[List.size_toArray,List.length_cons,List.length_nil,show List.range (0+1+1+1)=[0,1,2]from rfl];rw[wpOps_cons];have i9:a2.tmps.getD I undef = .pointer (some ⟨r,0,none⟩):=by have:=k2.sl I;simp only[dE]at this;rw[aD _ _ (Ne.symm fo),aD _ _ (Ne.symm fd),ao]at this;simpa only [V]using this
  refine uI (d:=some tE) rfl rfl rfl (EX rfl i9 (run_entry_at (P:=P) w2 r L c seen B c e ed M aa b7.1)) ?_;have k3:=k2.BS (d:=some tE) (x:= .tup [.p false .str k,.lit e.val]) (v:= .tuple #[e.key,e.val]) (by
   simp only[V,VL,ai];exact⟨_,rfl,rfl,⟨e.key,by simp,rfl,c5.symm⟩,⟨e.val,by simp,rfl⟩,trivial⟩) (f nE)
  rw[wpOps_cons];refine eI (d:=some tF) rfl rfl rfl (f nF) k3 (od k3 (ao _ _ _) rfl rfl) fun a4 k4=>?_
  rw[wpOps_cons];refine eI (d:=some J) rfl rfl rfl (f nK) k4 (lb k4 (.inr rfl)) fun a5 k5=>?_
  have Z:∀ {s':Nat→ag} {a':Act},bT n (Fr (own φ (bq σ.h idK (some (.mpo .str A (rF kv us z))))) Bw w2) ρ s' a'→s' J = .p false .str k→s' I = .lit (.pointer (some ⟨r,0,none⟩))→(∀t,dead.contains t=false→s' t=σ.s t) →
    bT n (Fr (own φ (bq σ.h idK (some (.mpo .str A (rF kv us z))))) Bw w2) ρ (bq (bq (sM dead σ.s) I (.lit (.pointer (some ⟨r,0,none⟩)))) J (.p false .str k)) a':=fun ef c1 c2 c3=>ef.back fun t=>by
   by_cases e1:t=J
   ·subst e1;exact .inl (by rw[ao,c1])
   ·rw[aD _ _ e1];by_cases O:t=I
    ·subst O;exact .inl (by rw[ao,c2])
    ·rw[aD _ _ O];unfold sM;cases hd:dead.contains t with
     | true=>exact .inr rfl
     | false=>exact .inl (c3 t hd).symm
  have nd:∀ {x t:Nat},dead.contains x=true→dead.contains t=false→t≠x:=fun E ht e=>by rw[e,E]at ht;cases ht
  have k6:=Z k5 (by simp only[dE,ao]) (by
   simp only[dE];rw[aD _ _ (Ne.symm fr),aD _ _ (Ne.symm r1),aD _ _ (Ne.symm qr),aD _ _ (Ne.symm fo),aD _ _ (Ne.symm fd),ao]) (fun t ht=>by
   simp only[dE];rw[aD _ _ (nd DK ht),aD _ _ (nd DF ht),aD _ _ (nd DE ht),aD _ _ (nd DO ht),aD _ _ (nd DN ht),aD _ _ (nd DI ht)];unfold sM;rw[ht];rfl)
  generalize ei:bq (bq (sM dead σ.s) I (.lit (.pointer (some ⟨r,0,none⟩)))) J (.p false .str k)=sC at k6 Z;have cK:sC J = .p false .str k:=by rw[←ei,ao]
  have cI:sC I = .lit (.pointer (some ⟨r,0,none⟩)):=by rw[←ei,aD _ _ (Ne.symm fr),ao]
  have cD:∀t,dead.contains t=false→sC t=σ.s t:=fun t ht=>by rw[←ei,aD _ _ (nd DK ht),aD _ _ (nd DI ht)];unfold sM;rw[ht];rfl
  clear k1 k2 k3 k4 k5;show(Code.seq _ (.cond (.tmp tG) _ .skip)).wp P _ _ _;refine wp_seq (wp_region ?_);simp only[List.size_toArray,List.length_cons,List.length_nil,show List.range (0+1+1+1+1)=[0,1,2,3]from rfl];rw[wpOps_cons];refine eI (d:=some d7) rfl rfl rfl (f n7) k6 (lb k6 (.inl rfl)) fun a7 k7=>?_
  rw[cD tU b3.2,s5]at k7;rw[wpOps_cons];refine eI (d:=some d8) rfl rfl rfl (f n8) k7 (lb k7 (.inl rfl)) fun a8 k8=>?_
  rw[show dE sC (some d7) (.mp idU) J = .p false .str k by simp only[dE];rw[aD _ _ g9,cK]]at k8;rw[wpOps_cons];refine eI (d:=some d9) rfl rfl rfl (f n9) k8 (Cy m2 (N.find t8) t9 fa rfl (N.find ds) dt (us:=us) (id:=idU) (k:=k) (by rw[aD _ _ b4.2];exact s6) k8 (by simp only[dE];rw[aD _ _ gj,ao]) (ao _ _ _) rfl) fun a9 k9=>?_
  rw[wpOps_cons];refine eI (d:=some tG) rfl rfl rfl (f nG) k9 (IP k9 (ao _ _ _) rfl) fun ro ej=>?_
  have d5:ro.tmps.getD tG undef = .bool (!((aU (α:=Bool) .str us k).getD false)):=kq (by have:=ej.sl tG;simp only[dE,ao]at this;exact this);have ek:=Z ej (by simp only[dE];rw[aD _ _ r5,aD _ _ r4,aD _ _ r3,aD _ _ g9,cK]) (by
   simp only[dE];rw[aD _ _ (Ne.symm r2),aD _ _ (Ne.symm fw),aD _ _ (Ne.symm fv),aD _ _ (Ne.symm fs),cI]) (fun t ht=>by
   simp only[dE];rw[aD _ _ (nd DG ht),aD _ _ (nd D9 ht),aD _ _ (nd D8 ht),aD _ _ (nd D7 ht),cD t ht])
  clear k6 k7 k8 k9 ej;have ax:∀e'∈B.toList,((seen.push e.born).contains e'.born=true↔∃k',k'∈k::z∧e'.key=aO .str k'):=fun e' b9=>by
   rw[Array.contains_push];simp only[Bool.or_eq_true,beq_iff_eq];constructor
   ·rintro(h1 | h1)
    ·obtain⟨k',q1,q2⟩:=(Y e' b9).1 h1;exact⟨k',List.mem_cons_of_mem _ q1,q2⟩
    ·have q1:=find_born e B.toList b7.1 aa;have q2:=find_born e' B.toList b7.1 b9;rw[h1,q1]at q2;cases q2;exact⟨k,List.mem_cons_self ..,c5⟩
   ·rintro⟨k',q1,q2⟩;rcases List.mem_cons.1 q1 with rfl | q1
    ·right
     obtain⟨j',el⟩:=List.mem_iff_getElem?.1 b9;obtain⟨p',ih,c7⟩:=jT (K:= .str) D el;have e1:p'.1=k':=fO (K:= .str) rfl (by rw[←c7,q2]);have O:((rF kv us z).map (·.1))[j']? = ((rF kv us z).map (·.1))[j0]? :=by rw[List.getElem?_map,List.getElem?_map,ih,i2];simp[e1,hk]
     have e3:j'=j0:=List.getElem?_inj (by rw[List.length_map];exact(List.getElem?_eq_some_iff.1 ih).1) e9 |>.1 O
     subst e3;rw[i1]at el;cases el;rfl
    ·left
     exact(Y e' b9).2 ⟨k',q1,q2⟩
  have ip:∀ {F:Bool→Addr→Value→Prop} {a':Act},bT n F ρ sC a'→bT n F ρ (bq (sM dead σ.s) I (.lit (.pointer (some ⟨r,0,none⟩)))) a':=fun ef=>ef.back fun t=>by
   by_cases O:t=I
   ·subst O;exact .inl (by rw[ao,cI])
   ·rw[aD _ _ O];unfold sM;cases hd:dead.contains t with
    | true=>exact .inr rfl
    | false=>exact .inl (cD t hd).symm
  show(Code.cond (.tmp tG) _ .skip).wp P _ _ _;cases hu:(aU (α:=Bool) .str us k).getD false with
  | true =>
   rw[hu]at d5;refine wp_cond_false d5 (wp_skip ?_);simp only[Exit.inBlock,Exit.then];have ec:rF kv us (k::z)=rF kv us z:=List.filter_congr fun p hp=>by
    by_cases b8:p.1=k
    ·rw[b8,hu];rfl
    ·rw[List.contains_cons,beq_eq_false_iff_ne.2 b8,Bool.false_or]
   exact⟨_,c6,k::z,B,seen.push e.born,rfl,by rw[ec];exact m2,by rw[←e8];exact ip ek,ed,M,X,ax⟩
  | false =>
   rw[hu]at d5;refine wp_cond_true d5 (wp_region ?_);simp only[List.size_toArray,List.length_cons,List.length_nil,show List.range (0+1+1+1+1+1+1)=[0,1,2,3,4,5]from rfl];rw[wpOps_cons];refine eI (d:=some e0) rfl rfl rfl (f m0) ek (lb ek (.inl rfl)) fun te er=>?_
   rw[cD tS b3.1,s1]at er;rw[wpOps_cons];refine eI (d:=some e1) rfl rfl rfl (f ps) er (BK er (ao _ _ _) rfl) fun tk is=>?_
   rw[wpOps_cons];refine eI (d:=some O) rfl rfl rfl (f pu) is (yk is (ao _ _ _) rfl (N.find t1) t2 t3) fun to it=>?_
   rw[wpOps_cons];refine eI (d:=some e3) rfl rfl rfl (f m3) it (zH m2 it (ao _ _ _) (by rw[aD _ _ (Ne.symm b4.1)];exact sF) rfl (N.find t4) (by rw[Nat.zero_add];exact s3)) fun ts j1=>?_
   rw[wpOps_cons];refine eI (d:=some e4) rfl rfl rfl (f m4) j1 (lb j1 (.inl rfl)) fun j2 d6=>?_
   rw[show dE (dE (dE (dE sC (some e0) (.adr idF 0 sz 0)) (some e1) (.adr idF 0 sz 0)) (some O) (.adr idF 0 sz (0+off))) (some e3) (.mp idK) J = .p false .str k by simp only[dE];rw[aD _ _ de,aD _ _ gi,aD _ _ gd,aD _ _ gb,cK]]at d6;have rr:j2.tmps.getD e3 undef = .map (some L):=by have:=d6.sl e3;simp only[dE]at this;rw[aD _ _ gp,ao]at this;simp only[V]at this;have:=this.1;rw[cc]at this;exact(Option.some.inj this).symm
   have rs:j2.tmps.getD e4 undef=aO .str k:=nu (K:= .str) rfl rfl (by have:=d6.sl e4;simp only[dE,ao]at this;exact this);have rt:B.toList.map (·.key)=((rF kv us z).map (·.1)).map (aO .str):=by rw[D,List.map_map];rfl
   obtain⟨j,e',hf,hj,ru⟩:∃j e',(Instr.findKey kt (aO .str k) B.toList).run P w2 = .ok (some (j,e'.val)) w2∧B.toList[j]? = some e'∧e'.key=aO .str k:=by
    rcases ey.find k B.toList ((rF kv us z).map (·.1)) w2 rt with⟨_,h2⟩ | h2
    ·exact absurd c5 (h2 e aa)
    ·exact h2
   rw[wpOps_cons];refine uI (d:=none) rfl rfl rfl (Cl rfl rr rs hm M (ey.check _ _ _) hf) ?_;obtain⟨p,hp,c7⟩:=jT (K:= .str) D hj;have b8:p.1=k:=fO (K:= .str) rfl (by rw[←c7,ru]);have eu:(rF kv us z).eraseIdx j=rF kv us (k::z):=by
    rw[erase_filter e9 hp b8];unfold rF;rw[List.filter_filter];refine List.filter_congr fun x _=>?_
    by_cases E:x.1=k
    ·rw[E,hu];simp
    ·rw[List.contains_cons,beq_eq_false_iff_ne.2 E,Bool.false_or,Bool.not_false,Bool.true_and]
   have dd:(B.eraseIdxIfInBounds j).toList=B.toList.eraseIdx j:=by simp
   have c8:∀x∈(B.eraseIdxIfInBounds j).toList,x∈B.toList:=fun x E=>List.mem_of_mem_eraseIdx (by rw[←dd];exact E)
   have hg:=gG w2 L (.map (B.eraseIdxIfInBounds j) c);have j4:=m2.put (some idK) idK (.mpo .str A (rF kv us (k::z))) (.map (some L)) (φ idK) (some L) hg (fun x e=>⟨idK,_,rfl,ao _ _ _,rfl,by cases e;exact e6⟩) (.inr ⟨rfl,cc⟩)
    (fun _ x E=>Nat.lt_of_lt_of_le (m2.lt idK _ x (ao _ _ _) rfl E) hg.size) (fun _ x E=> .inr ⟨idK,_,rfl,ao _ _ _,rfl,E⟩) (fun F' tu hF sg=>by
     refine⟨L,_,c,rfl,e6,(heap_set M).1,⟨hK,?_,fun x E=>X x (c8 x E)⟩,?_,?_,fun i hi=>?_⟩
     ·rw[dd,Go.ChangeMaps.map_eraseIdx];exact List.Nodup.eraseIdx _ b7.1
     ·rw[dd,Go.ChangeMaps.map_eraseIdx,D,←eu,Go.ChangeMaps.map_eraseIdx]
     ·rw[←eu,Go.ChangeMaps.map_eraseIdx];exact List.Nodup.eraseIdx _ e9
     ·have c9:(rF kv us (k::z))[i]? = some (rF kv us (k::z))[i]:=List.getElem?_eq_getElem hi;generalize (rF kv us (k::z))[i]=x at c9;rw[←eu,List.getElem?_eraseIdx]at c9;have get:∀i',(rF kv us z)[i']? = some x→∃e:MapEntry,B.toList[i']? = some e∧MV (F' false) A x.2 e.val:=fun i' E=>by have c6:=(List.getElem?_eq_some_iff.1 E).1;obtain⟨e,q1,q2⟩:=ea i' c6;rw[List.getElem?_eq_getElem c6]at E;simp only[Option.some.injEq]at E;rw[E]at q2;exact⟨e,by rw[Array.getElem?_toList];exact q1,ai.mono (fun a v hv=>hF _ _ _ (i7 _ _ _ hv)) (fun _ _ h=>h) q2.1,q2.2⟩
      rw[←Array.getElem?_toList,dd,List.getElem?_eraseIdx];split at c9
      ·rename_i ew;rw[if_pos ew];exact get i c9
      ·rename_i ew;rw[if_neg ew];exact get (i+1) c9)
   obtain⟨jx,kc,-⟩:=j4;have rx:bq ρ idK (some (.map (some L)))=ρ:=by
    funext i;by_cases e:i=idK
    ·subst e;rw[ao,cc]
    ·rw[aD _ _ e]
   have kk:bq φ idK (φ idK)=φ:=by
    funext i;by_cases e:i=idK
    ·subst e;rw[ao]
    ·rw[aD _ _ e]
   have eh:bq (bq σ.h idK (some (.mpo .str A (rF kv us z)))) idK (some (.mpo .str A (rF kv us (k::z))))=bq σ.h idK (some (.mpo .str A (rF kv us (k::z)))):=by
    funext i;by_cases e:i=idK
    ·subst e;rw[ao,ao]
    ·rw[aD _ _ e,aD _ _ e,aD _ _ e]
   rw[bg,rx,kk,eh]at jx;rw[bg,kk,eh]at kc;have s7:=Z d6 (by simp only[dE];rw[aD _ _ du,aD _ _ de,aD _ _ gi,aD _ _ gd,aD _ _ gb,cK]) (by
    simp only[dE];rw[aD _ _ (Ne.symm g8),aD _ _ (Ne.symm g7),aD _ _ (Ne.symm g6),aD _ _ (Ne.symm g5),aD _ _ (Ne.symm g1),cI]) (fun t ht=>by
    simp only[dE];rw[aD _ _ (nd E4 ht),aD _ _ (nd E3 ht),aD _ _ (nd E2 ht),aD _ _ (nd E1 ht),aD _ _ (nd E0 ht),cD t ht])
   show Exit.inBlock b2 _ .normal _ _;simp only[Exit.inBlock,Exit.then];refine⟨_,c6,k::z,B.eraseIdxIfInBounds j,seen.push e.born,rfl,jx,?_,?_,(heap_set M).1,fun x E=>X x (c8 x E),fun e' b9=>ax e' (c8 e' b9)⟩
   ·have:=(ip s7).mono kc (fun _ _ h=>h);rw[show own φ (bq σ.h idK (some (.mpo .str A (rF kv us (k::z)))))=own φ σ.h from AI s4 rfl rfl]at this;exact this
   ·show(w2.heap.setIfInBounds L _)[r]? = _;rw[(heap_set M).2 r (Ne.symm i6)];exact ed
end
end Go.Tv
