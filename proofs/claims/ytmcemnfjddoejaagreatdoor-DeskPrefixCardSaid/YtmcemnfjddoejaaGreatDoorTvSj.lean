/- A loop over a map that takes out of it what is not used. -/
import Derived.Test.YtmcemnfjddoejaaGreatDoorTvSdm
import Derived.Maps.RangeRun
namespace Go.Tv
open Go Go.RowKit
open Go.MapKept (run_setObj_map heap_set)
open Go.ChangeMaps (setBlock)
def Jo{A B:Type}(f:A→ag×List (Nat×Obj))(g:B→ag×List (Nat×Obj)):A⊕B→ag×List (Nat×Obj)
 | .inl x=>f x
 | .inr x=>g x
def rm(K:Ty){α:Type}(kv:List (K.den×α))(us:List (K.den×Bool)):List (K.den×α):=kv.filter fun p=>(bc K us p.1).getD false
def sJ(dead:List Nat)(s:Nat→ag):Nat→ag:=fun t=>if dead.contains t then .unk else s t
section
variable{P:Program}{tb:bR}{n:NS}{Bw:Nat→Prop}{w0:b9 P}{ρ:Nat→Option Value}{φ:Nat→Nat→Prop}{h:Nat→Option Obj}{s:Nat→ag}{a:Act}{w:World}{o:Oper}
def Calm(P:Program)(F:Bool→Addr→Value→Prop)(ρ:Nat→Option Value)(o:Oper)(a:Act)(w:World)(x:ag):Prop:=∃v,(execOp a.eval o).run P w = .ok (.value v) w∧V F ρ x v
variable{F:Bool→Addr→Value→Prop}
theorem kP{t:Nat}(e:bP n F ρ s a)(c:o.op = .move (.tmp t)∨o.op = .assign (.tmp t)):Calm P F ρ o a w (s t) :=
 ⟨_,by rcases c with c | c <;> (simp only[execOp,c];rfl),e.sl t⟩
theorem mZ{t i:Nat}{f:List ag}{y:ag}(j:bP n F ρ s a)(m:s t = .tup f)(p:o.op = .extract (.tmp t) i)(q:f[i]? = some y):Calm P F ρ o a w y:=by
 have c:=j.sl t;rw[m]at c;simp only[V]at c;obtain⟨B,e,_,hl⟩:=c;obtain⟨u,z,A⟩:=VL.get hl q;exact⟨u,by simp[execOp,p,Act.eval,e,Instr.extract,z],A⟩
theorem Be{t id i sz off:Nat}(j:bP n F ρ s a)(m:s t = .adr id i sz off)(p:o.op = .nilCheck (.tmp t)):Calm P F ρ o a w (.adr id i sz off):=by
 have e:=j.sl t;rw[m]at e;have c:=e;simp only[V]at c;obtain⟨g,q,f⟩:=c;exact⟨_,by simp only[execOp,p,Act.eval,f];rfl,by rw[←f];exact e⟩
theorem wG{t id i sz k:Nat}{st:TypeId}{ti:TI}{f:Nat}(J:bP n F ρ s a)(L:s t = .adr id i sz k)(M:o.op = .fieldAddr st (.tmp t) f)(p:aQ P st ti){C:List (Nat×TypeId)}(N:ti.k = .st C){off:Nat}{D:TypeId}(e:C[f]? = some (off,D)):
  Calm P F ρ o a w (.adr id i sz (k+off)):=by
 have q:=J.sl t;rw[L]at q;obtain⟨d,O,E⟩:=p.hu;rw[N]at E;obtain⟨u,rfl,R,X⟩:=E;subst R;rw[List.getElem?_map]at e;obtain⟨c,m,z⟩:∃c,u.toList[f]? = some c∧(c.offset,c.type)=(off,D):=by
  cases I:u.toList[f]? with
  | none=>rw[I]at e;cases e
  | some c=>rw[I]at e;exact⟨c,rfl,by simpa using e⟩
 cases z;have A:u[f]? = some c:=by simpa using m
 obtain⟨j,hi,B⟩:=X c (List.mem_of_getElem? m);simp only[V]at q;obtain⟨g,Y,Z⟩:=q;refine⟨.pointer (some ((⟨g,i*sz+k,none⟩:Addr).add c.offset)),?_,?_⟩
 ·simp[execOp,M,Instr.fieldAt,run_underlying O,A,Act.eval,Z,Instr.sureAddr,fieldPlace,sizeOf,typeInfo,hi,B]
 ·simp only[V];exact⟨g,Y,by simp[Addr.add,Nat.add_assoc]⟩
theorem zb(m:Mem Bw w0 ρ φ h w){t id off:Nat}{lt:TypeId}{ti:TI}{cs:List ag}{y:ag}(j:bP n (Fr (own φ h) Bw w) ρ s a){sz:Nat}(p:s t = .adr id 0 sz off)(hb:h id=some (.box cs))(q:o.op = .load lt (.tmp t))(e:aQ P lt ti)(u:dV ti cs off=some y):
  Calm P (Fr (own φ h) Bw w) ρ o a w y:=by
 have f:=j.sl t;rw[p]at f;obtain⟨D,z,A⟩:=mj m f (cs:=cs) (off:=off) (c:=True) (by simp only[kE,hb,Nat.zero_mul,Nat.zero_add]) trivial;obtain⟨v,B,C⟩:=gn (P:=P) e A u;refine⟨v,?_,C⟩;simp[execOp,q,Instr.loadAt,Act.eval,z,Instr.sureAddr,B]
theorem Hl{t e:Nat}{β b:Bool}(f:bP n F ρ s a)(j:s t = .p β .bool b)(m:o.op = .unOp .not e (.tmp t)):Calm P F ρ o a w (.p false .bool (!b)):=by
 have c:=f.sl t;rw[j]at c;obtain⟨z,q,u⟩:=Ck (P:=P) (w:=w) (op:= .not) (r:= .p false .bool (!b)) rfl c;exact⟨z,by simp only[execOp,m,Act.eval];rw[Sem.run_bind,q];rfl,u⟩
theorem BM(m:Mem Bw w0 ρ φ h w){tm I id:Nat}{t kt et:TypeId}{ti te:TI}(M:aQ P t ti)(hk:ti.k = .mp kt et){K:Ty}(f:fP P kt K)(N:K.scalar=true)(q:aQ P et te)(hT:te.T=some .bool){us:List (K.den×Bool)}(hi:h id=some (.mpo K .bool us))
  (hs:bP n (Fr (own φ h) Bw w) ρ s a) (h1:s tm = .mp id) {β:Bool} {k:K.den} (h2:s I = .p β K k) (ho:o.op = .lookup t (.tmp tm) (.tmp I) false):Calm P (Fr (own φ h) Bw w) ρ o a w (.p false .bool ((bc K us k).getD false)):=by
 have hx:=hs.sl tm;rw[h1]at hx;have hy:=hs.sl I;rw[h2]at hy;have e2:a.tmps.getD I undef=aO K k:=so f.isKey N hy;obtain⟨r,J,clock,e1,_,_,hb,⟨O,_⟩,c,R,u⟩:=tD m hi hx;obtain⟨dm,hm,A⟩:=M.hu;rw[hk]at A;simp only[UK]at A;subst A;have V:J.toList.map (·.key)=(us.map (·.1)).map (aO K):=by rw[c,List.map_map];rfl
 obtain⟨z,hz,X,Y,Z⟩:=dg q w;obtain⟨a6,a7,a8⟩:=q.hT _ hT;rcases f.find k J.toList (us.map (·.1)) w V with⟨g1,g2⟩ | ⟨j,e,g1,g2,g3⟩
 ·have B:bc K us k=none:=jq O fun p D e=>by
   obtain⟨j,L⟩:=List.mem_iff_getElem?.1 D;have E:(us.map (fun p=>aO K p.1))[j]? = some (aO K p.1):=by rw[List.getElem?_map,L];rfl
   rw[←c,List.getElem?_map]at E;cases hq:J.toList[j]? with
   | none=>rw[hq]at E;cases E
   | some x =>rw[hq]at E;simp at E;exact g2 x (List.mem_of_getElem? hq) (by rw[E,e])
  rw[B];have a1:MV (Fr (own φ h) Bw w false) .bool (Ty.bool.zero) z:=vD q hT hz X Y Z;refine⟨z,?_,by have:=FW (ρ:=ρ) (F:=Fr (own φ h) Bw w) a1;exact this⟩;simp only[execOp,ho,Act.eval];rw[e1,e2];simp[Instr.lookup,run_underlying hm,Go.MapKept.run_getObj_map hb,f.check,g1,hz,Result.andThen]
 ·obtain⟨p,D,a2⟩:=jH c g2;have a3:p.1=k:=eY O (by rw[←a2,g3]);have C:=ll (α:=Bool) O R D a3;rw[C];have L:j<us.length:=(List.getElem?_eq_some_iff.1 D).1;obtain⟨e',q1,q2⟩:=u j L;have a4:e'=e:=by
   have:J.toList[j]? = some e':=by simpa using q1
   rw[g2]at this;cases this;rfl
  subst a4;have a5:us[j]=p:=by rw[List.getElem?_eq_getElem L]at D;simpa using D
  rw[a5]at q2;refine⟨e'.val,?_,by have:=FW (ρ:=ρ) (F:=Fr (own φ h) Bw w) q2;exact this⟩;simp only[execOp,ho,Act.eval];rw[e1,e2];simp[Instr.lookup,run_underlying hm,Go.MapKept.run_getObj_map hb,f.check,g1,Result.andThen]
theorem C0{t mt k e c:Nat}{f:Array MapEntry}{clock:Nat}(j:o.op = .range mt (.tmp t))(ev:a.tmps.getD t undef = .map (some c))(m:P.underlying mt=some (.map k e))(hb:w.heap[c]? = some (.map f clock)):
  (execOp a.eval o).run P w = .ok (.value (.pointer (some ⟨w.heap.size,0,none⟩))) (w.alloc (.mapIter (some c) clock #[] clock)):=by
 simp only[execOp,j,Act.eval,ev,Sem.run_bind,run_range_map w mt k e c f clock m hb,Result.andThen_ok];rfl
theorem zg{t:Nat}{u v:Value}{w':World}(c:o.op = .next (.tmp t) false)(ev:a.tmps.getD t undef=u)(e:(Instr.next u false o.type).run P w = .ok v w'):(execOp a.eval o).run P w = .ok (.value v) w':=by
 simp only[execOp,c,Act.eval,ev,Sem.run_bind,e,Result.andThen_ok];rfl
theorem Dv{t:Nat}{u v:Value}{w':World}(c:o.op = .entry (.tmp t))(ev:a.tmps.getD t undef=u)(e:(Instr.entry u).run P w = .ok v w'):(execOp a.eval o).run P w = .ok (.value v) w':=by
 simp only[execOp,c,Act.eval,ev,Sem.run_bind,e,Result.andThen_ok];rfl
theorem CN{m p mt c q f j:Nat}{e:Array MapEntry}{clock:Nat}{k v:Value}(u:o.op = .call { callee:= .builtin .delete,args:= #[.tmp m,.tmp p],argTypes:= #[mt,c] })(z:a.tmps.getD m undef = .map (some f))(A:a.tmps.getD p undef=k)
  (B:P.underlying mt=some (.map c q)) (hb:w.heap[f]? = some (.map e clock)) (C:(Instr.checkKey e.isEmpty 10000 c k).run P w = .ok () w) (D:(Instr.findKey c k e.toList).run P w = .ok (some (j,v)) w) :
  (execOp a.eval o).run P w = .ok (.value (.tuple #[])) (setBlock w f (.map (e.eraseIdxIfInBounds j) clock)):=by
 simp only[execOp,u,resolve,invoke,builtin,Sem.run_bind,Sem.run_pure,Result.andThen_ok,List.map_toArray,List.map_cons,List.map_nil,Act.eval,z,A];simp[Builtin.delete_,run_underlying B,Go.MapKept.run_getObj_map hb,C,D,run_setObj_map _ hb,Result.andThen,setBlock]
theorem ue{ops:Array Oper}{i:Nat}(hi:ops[i]? = some o)(f:o.guard=none){d:Option Nat}(j:o.dst=d){v:Value}{w':World}(c:(execOp a.eval o).run P w = .ok (.value v) w'){K:Act→World→Prop}{Q:Exit→Act→World→Prop}(m:K (a.put d v) w'):wpOp P ops Q i K a w:=by
 subst j;unfold wpOp;rw[hi];simp only;rw[if_pos (by unfold Region.wanted;rw[f])];exact .inl (Good.aH (post:=fun u e=>u=v∧e=w') c ⟨rfl,rfl⟩ _ _ (by rintro u e ⟨rfl,rfl⟩;exact m))
theorem dZ{ops:Array Oper}{i:Nat}(hi:ops[i]? = some o)(f:o.guard=none){d:Option Nat}(c:o.dst=d)(j:xD n d=true)(m:bP n F ρ s a){x:ag}(p:Calm P F ρ o a w x){K:Act→World→Prop}{Q:Exit→Act→World→Prop}
  (q:∀e,bP n F ρ (dr s d x) e→K e w):wpOp P ops Q i K a w:=by
 obtain⟨v,u,z⟩:=p;exact ue hi f c u (q _ (m.AF z j))
end
section
variable{P:Program}{tb:bR}{n:NS}{Bw:Nat→Prop}{w0:b9 P}{ρ:Nat→Option Value}{φ:Nat→Nat→Prop}{h:Nat→Option Obj}{s:Nat→ag}{a:Act}{w:World}
theorem GQ{c:Code}{Q:Exit→Act→World→Prop}(Inv:Nat→Act→World→Prop)
  (B:∀k a w,Inv k a w→c.wp P (Exit.then (fun u w'=>∃j,j<k∧Inv j u w') Q) a w) {k:Nat} {a:Act} {w:World} (C:Inv k a w):(Code.loop c).wp P Q a w:=by
 have z:∀a w,(∃k,Inv k a w)→∃k,Inv k a w∧∀m,Inv m a w→k≤m:=fun a w=>Cs (fun k=>Inv k a w)
 classical
 let q:Act→World→Nat:=fun a w=>if h:∃k,Inv k a w then(z a w h).choose else 0
 have p:∀a w (h:∃k,Inv k a w),Inv (q a w) a w∧∀m,Inv m a w→q a w≤m:=fun a w h=>by simp only[q,dif_pos h];exact(z a w h).choose_spec
 refine Go.wp_loop (fun a w=>∃k,Inv k a w) q ⟨k,C⟩ fun a w hi=> ?_
 obtain⟨D,_⟩:=p a w hi;refine wp_mono (B _ a w D) fun e u w' A=> ?_
 cases e with
 | normal =>
  obtain⟨j,E,f⟩:=A;exact⟨⟨j,f⟩,Nat.lt_of_le_of_lt ((p u w' ⟨j,f⟩).2 j f) E⟩
 | _=>exact A
theorem Mem.EI(m:Mem Bw w0 ρ φ h w){w':World}{r:Nat}(I:w'.os=w.os)(J:w'.tape=w.tape)(L:w'.output=w.output)(D:w.heap.size≤w'.heap.size)(hb:∀k,k<w.heap.size→k≠r→w'.heap[k]? = w.heap[k]?)
  (M:¬own φ h r) (N:¬w0.kp r) (O:∀ad v,w.qi ad=some v→ad.block≠r):Mem Bw w0 ρ φ h w'∧∀β a v,Fr (own φ h) Bw w β a v→Fr (own φ h) Bw w' β a v:=by
 have E:∀β a v,Fr (own φ h) Bw w β a v→Fr (own φ h) Bw w' β a v:=fun β a v q=>⟨q.1,q.2.1,by rw[World.qw (hb _ (World.Ae q.2.2) (O _ _ q.2.2))];exact q.2.2⟩
 refine⟨⟨fun id o j=> ?_,fun id o k B C R=>Nat.lt_of_lt_of_le (m.lt id o k B C R) D,m.dj,m.bw,m.ow,⟨I.trans m.kp.os,J.trans m.kp.tape,L.trans m.kp.output,Nat.le_trans m.kp.size D,fun k q=> ?_⟩,m.pM⟩,E⟩
 ·obtain⟨u,B,C⟩:=m.ob id o j;exact⟨u,B,OR.mono E (fun _ _ h=>h) (fun _ h=>h) (fun hl k z=>hb k (m.lt id o k j hl z) (fun e=>M ⟨id,o,j,hl,by rw[←e];exact z⟩)) C⟩
 ·rw[hb k (Nat.lt_of_lt_of_le (w0.lt k q) m.kp.size) (fun e=>N (by rw[←e];exact q))];exact m.kp.block k q
theorem bP.back{F:Bool→Addr→Value→Prop}{f:Nat→ag}(h:bP n F ρ f a)(j:∀t,s t=f t∨s t = .unk):bP n F ρ s a:=⟨h.tm,h.df,fun t=>by
 rcases j t with e | e
 ·rw[e];exact h.sl t
 ·rw[e];simp only[V]⟩
theorem filter_lt{α:Type}{p q:α→Bool}:∀ {l:List α},(∀x,q x=true→p x=true)→(∃x∈l,p x=true∧q x=false)→(l.filter q).length<(l.filter p).length
 | [],_,⟨x,e,_⟩=>by cases e
 | y::l,c,⟨x,e,f,j⟩=>by
  have m:(l.filter q).length≤(l.filter p).length:=by
   clear e;induction l with
   | nil=>simp
   | cons z l u =>
    simp only[List.filter_cons];cases hz:q z with
    | true=>rw[c z hz];simpa using u
    | false=>cases p z <;> simp <;> omega
  simp only[List.filter_cons];rcases List.mem_cons.1 e with rfl | e
  ·rw[f,j];simp;omega
  ·have:=filter_lt (p:=p) (q:=q) c ⟨x,e,f,j⟩;cases A:q y with
   | true=>rw[c y A];simpa using this
   | false=>cases p y <;> simp <;> omega
theorem erase_filter{α:Type}{k:List UInt8}:∀ {l:List (List UInt8×α)} {j:Nat} {p:List UInt8×α},(l.map (·.1)).Nodup→l[j]? = some p→p.1=k→l.eraseIdx j=l.filter fun x=> !(x.1 == k)
 | [],_,_,_,h,_=>by simp at h
 | x::l,0,p,c,h,e=>by
  simp at h;subst h;simp only[List.map_cons,List.nodup_cons]at c;simp only[List.eraseIdx_cons_zero,List.filter_cons,e,BEq.rfl,Bool.not_true,Bool.false_eq_true,if_false];refine(List.filter_eq_self.2 fun y m=> ?_).symm;have:y.1≠k:=fun f=>c.1 (by rw[e,←f];exact List.mem_map_of_mem m)
  simpa using this
 | x::l,j+1,p,c,h,e=>by
  simp only[List.map_cons,List.nodup_cons]at c;simp only[List.getElem?_cons_succ]at h;have q:x.1≠k:=fun f=>c.1 (by rw[f,←e];exact List.mem_map_of_mem (List.mem_of_getElem? h))
  have u:=erase_filter c.2 h e;simp only[List.eraseIdx_cons_succ,List.filter_cons];rw[if_pos (by simpa using q),u]
def rb{α:Type}(c:List (List UInt8×α))(us:List (List UInt8×Bool))(e:List (List UInt8)):List (List UInt8×α):=c.filter fun p=>(bc (α:=Bool) .str us p.1).getD false || !e.contains p.1
def Gm(tb:bR)(ST p q u m:Nat):Option Nat :=
 match tb.find ST,tb.find q,tb.find u,tb.find m with
 | some z,some A,some B,some C=>match z.k,A.k,B.k,C.k with
  | .st fl,.mp c _,.mp e f,.str=>match fl[p]?,tb.find e,tb.find f with
   | some (off,_),some j,some D=>match j.k with
    | .str=>if c=m∧D.T=some .bool then some off else none
    | _=>none
   | _,_,_=>none
  | _,_,_,_=>none
 | _,_,_,_=>none
def HS(tb:bR)(c:Nat)(o:Option Obj)(off:Nat):Option ag :=
 match tb.find c,o with
 | some e,some (.box f)=>dV e f off
 | _,_=>none
theorem AB{id:Nat}{o j:Obj}(p:h id=some o)(q:o.live=true)(u:j.live=true):own φ (bH h id (some j))=own φ h:=by
 funext k;refine propext ⟨fun⟨i,x,f,m,c⟩=> ?_,fun⟨i,x,f,m,c⟩=> ?_⟩
 ·by_cases e:i=id
  ·subst e;exact⟨i,o,p,q,c⟩
  ·rw[aB _ _ e]at f;exact⟨i,x,f,m,c⟩
 ·by_cases e:i=id
  ·subst e;exact⟨i,j,aw _ _ _,u,c⟩
  ·exact⟨i,x,by rw[aB _ _ e];exact f,m,c⟩
theorem Ft{w:World}{r:Nat}{x:Option Nat}{y z:Nat}{l:Array Nat}(h:w.heap[r]? = some (.mapIter x y l z))(f:Addr)(v:Value)(c:w.qi f=some v):f.block≠r:=fun e=>by
 subst e;unfold World.qi at c;split at c
 ·unfold World.cell? at c;rw[h]at c;simp at c
 ·rw[h]at c;cases c
set_option maxHeartbeats 4000000 in
theorem Io(O:bS P tb){σ:St}{Q:Exit→St→Prop}{idK idU idF:Nat}{A:Ty}{kv:List (List UInt8×A.den)}{us:List (List UInt8×Bool)}{dead:List Nat}{l6 l7 lc li lm b b2 tS tU J tN tO tE tF L tG d0 d1 d2 d3 d7 d8 d9 e0 e1 X e3 e4 fi sz off:Nat}{ST MT UT kt bt:TypeId}
  {y0 y1 y2 y3 y4 y5 y6 y7 y8 y9 lo lp ls lw lx ly mc md mo ms:TypeId} {q0 q1 q2 q3 q4 q5 q6 q7 q8 q9 mx nn ns o1 o2 o3 o4 oi oj on:String} {f0 f1 f2 f3 f4 f5 f6 f7 f8 f9 p1 p2 p3 p4 p5 p6 pi pl pp ps:Array Edge}
  (hT:Gm tb ST fi MT UT kt=some off) (s1:σ.s tS = .adr idF 0 sz 0) (s2:HS tb MT (σ.h idF) off=some (.mp idK)) (s4:σ.h idK=some (.mpo .str A kv)) (s5:σ.s tU = .mp idU) (s6:σ.h idU=some (.mpo .str .bool us))
  (b1:([d0,d1,d2,d3,J,tN,tO,tE,tF,L,d7,d8,d9,tG,e0,e1,X,e3,e4].all fun t=>dead.contains t && decide (t<n.sz))=true) (b3:(dead.contains tS || dead.contains tU)=false) (b4:idK≠idF∧idU≠idK)
  (hI:([tN,tO,tE,tF,L,d7,d8,d9,tG,e0,e1,X,e3,e4].all fun t=>t != J)=true)
  (ne:L≠d7∧L≠d8∧L≠d9∧L≠tG∧L≠e0∧L≠e1∧L≠X∧L≠e3∧d7≠d8∧e3≠e4∧L≠e4)
  (hq:∀σ',Le n σ' ⟨sJ dead σ.s,bH σ.h idK (some (.mpo .str A (rm .str kv us))),σ.nx,σ.pn⟩→Q .normal σ') :
  W P n Bw w0 (.seq (.region l6 #[⟨some d0,.move (.tmp tS),y0,q0,f0,none⟩,⟨some d1,.nilCheck (.tmp d0),y1,q1,f1,none⟩,⟨some d2,.fieldAddr ST (.tmp d1) fi,y2,q2,f2,none⟩,⟨some d3,.load MT (.tmp d2),y3,q3,f3,none⟩,⟨some J,.range MT (.tmp d3),y4,q4,f4,none⟩] false) (.block b (.loop (.seq (.region l7 #[⟨some tN,.next (.tmp J) false,y5,q5,f5,none⟩,⟨some tO,.extract (.tmp tN) 0,y6,q6,f6,none⟩] false) (.seq (.cond (.tmp tO) .skip (.exit b)) (.block b2 (.seq (.region lc #[⟨some tE,.entry (.tmp J),y7,q7,f7,none⟩,⟨some tF,.extract (.tmp tE) 0,y8,q8,f8,none⟩,⟨some L,.assign (.tmp tF),y9,q9,f9,none⟩] false) (.seq (.region li #[⟨some d7,.move (.tmp tU),lo,mx,p1,none⟩,⟨some d8,.move (.tmp L),lp,nn,p2,none⟩,⟨some d9,.lookup UT (.tmp d7) (.tmp d8) false,ls,ns,p3,none⟩,⟨some tG,.unOp .not bt (.tmp d9),lw,o1,p4,none⟩] false) (.cond (.tmp tG) (.region lm #[⟨some e0,.move (.tmp tS),lx,o2,p5,none⟩,⟨some e1,.nilCheck (.tmp e0),ly,o3,p6,none⟩,⟨some X,.fieldAddr ST (.tmp e1) fi,mc,o4,pi,none⟩,⟨some e3,.load MT (.tmp X),md,oi,pl,none⟩,⟨some e4,.move (.tmp L),mo,oj,pp,none⟩,⟨none,.call { callee:= .builtin .delete,args:= #[.tmp e3,.tmp e4],argTypes:= #[MT,kt] },ms,on,ps,none⟩] false) .skip))))))))) σ Q:=by
 obtain⟨si,fl,ft,mi,et,ki,ui,b6,c4,c5,bi,t1,t2,t3,t4,t5,t6,t7,t8,t9,e5,e6,e7,e8⟩:∃si fl ft mi et ki ui b6 c4 c5 bi,tb.find ST=some si∧si.k = .st fl∧fl[fi]? = some (off,ft)∧tb.find MT=some mi∧mi.k = .mp kt et∧tb.find kt=some ki∧ki.k = .str ∧
   tb.find UT=some ui∧ui.k = .mp b6 c4∧tb.find b6=some c5∧c5.k = .str∧tb.find c4=some bi∧bi.T=some .bool:=by
  unfold Gm at hT;split at hT
  ·rename_i si mi ui ki t1 t4 t8 t6;split at hT
   ·rename_i fl te et b6 c4 t2 t5 t9 t7;split at hT
    ·rename_i sq ft c5 bi t3 e5 e7;split at hT
     ·rename_i e6;split at hT
      ·rename_i hh;cases hT;obtain⟨rfl,e8⟩:=hh;exact⟨si,fl,ft,mi,et,ki,ui,b6,c4,c5,bi,t1,t2,t3,t4,t5,t6,t7,t8,t9,e5,e6,e7,e8⟩
      ·cases hT
     ·cases hT
    ·cases hT
   ·cases hT
  ·cases hT
 obtain⟨cs,sF,s3⟩:∃cs,σ.h idF=some (.box cs)∧dV mi cs off=some (.mp idK):=by
  unfold HS at s2;rw[t4]at s2;split at s2
  ·rename_i tk cs e1 X;cases e1;exact⟨cs,X,s2⟩
  ·cases s2
 clear hT s2;have fv:fP P kt .str:=fP.BE (O.find t6) (by rw[t7];rfl);have fw:fP P b6 .str:=fP.BE (O.find e5) (by rw[e6];rfl);simp only[List.all_cons,List.all_nil,Bool.and_true,Bool.and_eq_true,decide_eq_true_eq]at b1;obtain⟨⟨D0,n0⟩,⟨D1,n1⟩,⟨D2,n2⟩,⟨D3,n3⟩,⟨DI,nI⟩,⟨DN,nN⟩,⟨DO,nO⟩,⟨DE,nE⟩,⟨DF,nF⟩,⟨DK,nK⟩,⟨D7,n7⟩,⟨D8,n8⟩,⟨D9,n9⟩,⟨DG,nG⟩,⟨E0,m0⟩,⟨E1,pu⟩,⟨E2,qr⟩,⟨E3,m3⟩,E4,m4⟩:=b1;rw[Bool.or_eq_false_iff]at b3;simp only[List.all_cons,List.all_nil,Bool.and_true,Bool.and_eq_true,bne_iff_ne,ne_eq]at hI;obtain⟨g1,g5,r1,r2,g7,gb,gd,gi,r3,gj,gp,gs,h5,h6⟩:=hI;obtain⟨h7,r4,r5,r6,h8,h9,hn,du,hw,hy,e9⟩:=ne;have f:∀ {t:Nat},t<n.sz→xD n (some t)=true:=fun h=>by simpa [xD]using h
 obtain⟨dm,hm,ea⟩:=(O.find t4).hu;rw[t5]at ea;simp only[UK]at ea;subst ea;intro a w hR;obtain⟨ρ,φ,m,hs,r7⟩:=hR.ex;refine wp_seq (wp_region ?_);simp only[List.size_toArray,List.length_cons,List.length_nil,show List.range (0+1+1+1+1+1)=[0,1,2,3,4]from rfl];rw[wpOps_cons];refine dZ (d:=some d0) rfl rfl rfl (f n0) hs (kP hs (.inl rfl)) fun a1 h1=> ?_
 rw[s1]at h1;rw[wpOps_cons];refine dZ (d:=some d1) rfl rfl rfl (f n1) h1 (Be h1 (aw _ _ _) rfl) fun a2 h2=> ?_
 rw[wpOps_cons];refine dZ (d:=some d2) rfl rfl rfl (f n2) h2 (wG h2 (aw _ _ _) rfl (O.find t1) t2 t3) fun a3 h3=> ?_
 rw[wpOps_cons];refine dZ (d:=some d3) rfl rfl rfl (f n3) h3 (zb m h3 (aw _ _ _) sF rfl (O.find t4) (by rw[Nat.zero_add];exact s3)) fun a4 h4=> ?_
 have hv:=h4.sl d3;simp only[dr,aw]at hv;obtain⟨M,r8,c,ev,d4,ec,c6,⟨hK,hB⟩,d5,i1,d6⟩:=tD m s4 hv;have c7:own φ σ.h M:=⟨idK,_,s4,rfl,ec⟩;have i2:M<w.heap.size:=m.qS c7;have C:¬own φ σ.h w.heap.size:=fun ho=>Nat.lt_irrefl _ (m.qS ho)
 have c8:¬w0.kp w.heap.size:=fun hk=>Nat.lt_irrefl _ (Nat.lt_of_lt_of_le (w0.lt _ hk) m.kp.size)
 rw[wpOps_cons];refine ue (w':=w.alloc (.mapIter (some M) c #[] c)) rfl rfl (d:=some J) rfl (v:= .pointer (some ⟨w.heap.size,0,none⟩)) (C0 rfl ev hm c6) ?_;generalize r9:w.heap.size=r at C c8;obtain⟨mm,i3⟩:=m.EI (w':=w.alloc (.mapIter (some M) c #[] c)) (r:=r) rfl rfl rfl (by simp) (fun k hk _=>heap_alloc_old w _ hk) C c8 (fun ad v hp e=>by
  have:=World.Ae hp;omega)
 have be:bP n (Fr (own φ σ.h) Bw (w.alloc (.mapIter (some M) c #[] c))) ρ (bH (sJ dead σ.s) J (.lit (.pointer (some ⟨r,0,none⟩)))) (a4.put (some J) (.pointer (some ⟨r,0,none⟩))):=by
  refine((h4.mono i3 (fun _ _ h=>h)).AF (d:=some J) (x:= .lit (.pointer (some ⟨r,0,none⟩))) (v:= .pointer (some ⟨r,0,none⟩)) (by simp only[V]) (f nI)).back fun t=> ?_
  simp only[dr];by_cases e:t=J
  ·subst e;exact .inl (by rw[aw,aw])
  ·rw[aB _ _ e];unfold sJ;cases hd:dead.contains t with
   | true=>exact .inr rfl
   | false =>
    refine .inl ?_;have aa:∀x,dead.contains x=true→t≠x:=fun x I e=>by rw[e,I]at hd;cases hd
    rw[aB _ _ e,aB _ _ (aa _ D3),aB _ _ (aa _ D2),aB _ _ (aa _ D1),aB _ _ (aa _ D0)];rfl
 show(Code.block b _).wp P (fun e a' w'=>∃σ',R n Bw w0 σ' a' w'∧Q e σ') _ _;refine wp_block ?_;refine GQ (fun k a w=>∃z B seen,k=(kv.filter fun p=> !z.contains p.1).length∧Mem Bw w0 ρ φ (bH σ.h idK (some (.mpo .str A (rb kv us z)))) w∧bP n (Fr (own φ σ.h) Bw w) ρ (bH (sJ dead σ.s) J (.lit (.pointer (some ⟨r,0,none⟩)))) a∧w.heap[r]? = some (.mapIter (some M) c seen c) ∧
  w.heap[M]? = some (.map B c)∧(∀x∈B.toList,x.born<c)∧∀e∈B.toList,(seen.contains e.born=true↔∃k,k∈z∧e.key=aO .str k)) ?_ (k:=(kv.filter fun p=> !([]:List (List UInt8)).contains p.1).length)
  ⟨[],r8,#[],rfl,?_,be,by rw[←r9];exact heap_alloc_new w _,by rw[heap_alloc_old w _ i2];exact c6,hB.2,fun e _=>by simp⟩
 case refine_2 =>
  have e1:rb kv us []=kv:=List.filter_eq_self.2 fun p _=>by simp
  have X:bH σ.h idK (some (.mpo .str A kv))=σ.h:=by
   funext i;by_cases e:i=idK
   ·subst e;rw[aw,s4]
   ·rw[aB _ _ e]
  rw[e1,X];exact mm
 clear be mm i3 h1 h2 h3 h4 hv ev hB d5 i1 d6 c6 hs;rintro k a w ⟨z,B,seen,rfl,m1,be,hr,ed,Y,Z⟩;have ef:own φ (bH σ.h idK (some (.mpo .str A (rb kv us z))))=own φ σ.h:=AB s4 rfl rfl;obtain⟨bs,D,ei,ej⟩:yf B c∧B.toList.map (·.key)=(rb kv us z).map (fun p=>aO .str p.1)∧((rb kv us z).map (·.1)).Nodup∧∀i (h':i<(rb kv us z).length),∃e:MapEntry,B[i]? = some e∧MV (Fr (own φ (bH σ.h idK (some (.mpo .str A (rb kv us z))))) Bw w false) A (rb kv us z)[i].2 e.val:=by obtain⟨u,q1,to,ts,l5,rfl,_,i4,⟨_,bs⟩,q2,q3,q4⟩:=m1.ob idK _ (aw _ _ _);rw[d4]at q1;cases q1;rw[ed]at i4;cases i4;exact⟨bs,q2,q3,q4⟩
 refine wp_seq (wp_region ?_);simp only[List.size_toArray,List.length_cons,List.length_nil,show List.range (0+1+1)=[0,1]from rfl];rw[wpOps_cons];have i5:a.tmps.getD J undef = .pointer (some ⟨r,0,none⟩):=by have:=be.sl J;rw[aw]at this;simpa only [V]using this
 rcases run_next_at (P:=P) w y5 r M c c seen B c hr ed Y (Nat.le_refl _)with⟨g0,ax⟩ | ⟨e,he,w1,rc,ax⟩
 ·-- all sx looked at
  refine ue (d:=some tN) rfl rfl rfl (zg rfl i5 ax) ?_;have k1:=be.AF (d:=some tN) (x:= .tup [.p false .bool false]) (v:= .tuple #[.bool false]) (by
   simp only[V,VL,ai];exact⟨_,rfl,rfl,⟨.bool false,by simp,rfl,rfl⟩,trivial⟩) (f nN)
  rw[wpOps_cons];refine dZ (d:=some tO) rfl rfl rfl (f nO) k1 (mZ k1 (aw _ _ _) rfl rfl) fun a2 k2=> ?_
  show(Code.seq (.cond (.tmp tO) .skip (.exit b)) _).wp P _ _ _;have ek:a2.tmps.getD tO undef = .bool false:=jY (by have:=k2.sl tO;simp only[dr,aw]at this;exact this);refine wp_seq (wp_cond_false ek (wp_exit ?_));simp only[Exit.then,Exit.inBlock,if_true];have i6:∀e∈B.toList,seen.contains e.born=true:=fun e he=>by
   cases hc:seen.contains e.born with
   | true=>rfl
   | false =>
    exfalso
    have:e∈leftOf B seen:=by unfold leftOf;rw[Array.mem_filter];exact⟨by simpa using he,by rw[hc];rfl⟩
    have:=Array.size_pos_of_mem this;omega
  have el:rb kv us z=rm .str kv us:=by
   refine List.filter_congr fun p hp=> ?_
   cases hc:z.contains p.1 with
   | true=>simp
   | false =>
    exfalso
    have bv:p∈rb kv us z:=List.mem_filter.2 ⟨hp,by simp only[hc,Bool.not_false,Bool.or_true]⟩;obtain⟨j,hj⟩:=List.mem_iff_getElem?.1 bv;have q:(B.toList.map (·.key))[j]? = some (aO .str p.1):=by rw[D,List.getElem?_map,hj];rfl
    rw[List.getElem?_map]at q;cases hq:B.toList[j]? with
    | none=>rw[hq]at q;cases q
    | some e =>rw[hq]at q;simp only[Option.map_some,Option.some.injEq]at q;have ac:=List.mem_of_getElem? hq;obtain⟨k',i7,ro⟩:=(Z e ac).1 (i6 e ac);have:p.1=k':=eY (K:= .str) rfl (by rw[←q,ro]);rw[←this]at i7;rw[List.contains_iff_mem.2 i7]at hc;cases hc
  refine⟨⟨sJ dead σ.s,bH σ.h idK (some (.mpo .str A (rm .str kv us))),σ.nx,σ.pn⟩,⟨⟨ρ,φ,by have:=m1;rw[el]at this;exact this,?_,r7⟩,hR.pn⟩,hq _ (Le.refl _)⟩;rw[show own φ (bH σ.h idK (some (.mpo .str A (rm .str kv us))))=own φ σ.h from AB s4 rfl rfl];refine k2.back fun t=> ?_
  simp only[dr];unfold sJ;cases hd:dead.contains t with
  | true=>exact .inr rfl
  | false =>
   refine .inl ?_;have aa:∀x,dead.contains x=true→t≠x:=fun x I e=>by rw[e,I]at hd;cases hd
   rw[aB _ _ (aa _ DO),aB _ _ (aa _ DN),aB _ _ (aa _ DI)];simp only[hd]
 ·-- one entry
  have i9:e∈B.toList∧seen.contains e.born=false:=by unfold leftOf at he;simp only[Array.toList_filter,List.mem_filter,Bool.not_eq_true']at he;exact he
  obtain⟨ac,rr⟩:=i9;obtain⟨j0,ih⟩:=List.mem_iff_getElem?.1 ac;obtain⟨p0,ip,c9⟩:=jH (K:= .str) D ih;obtain⟨k,hk⟩:∃k,k=p0.1:=⟨_,rfl⟩;rw[←hk]at c9;have is:p0∈kv:=(List.mem_filter.1 (List.mem_of_getElem? ip)).1;have it:z.contains k=false:=by
   cases hc:z.contains k with
   | false=>rfl
   | true =>have:=(Z e ac).2 ⟨k,List.contains_iff_mem.1 hc,c9⟩;rw[rr]at this;cases this
  have cc:(kv.filter fun p=> !(k::z).contains p.1).length<(kv.filter fun p=> !z.contains p.1).length:=by refine filter_lt (fun x I=> ?_) ⟨p0,is,by rw[←hk,it];rfl,by rw[←hk];simp⟩;simp only[List.contains_cons,Bool.not_or,Bool.and_eq_true]at I;exact I.2
  have dd:w1.os=w.os∧w1.tape=w.tape∧w1.output=w.output∧w1.heap=w.heap:=by rcases rc with rfl | rfl <;> exact⟨rfl,rfl,rfl,rfl⟩
  generalize de:setBlock w1 r (.mapIter (some M) c (seen.push e.born) c)=w2 at ax;have di:w2.heap=w.heap.setIfInBounds r (.mapIter (some M) c (seen.push e.born) c):=by rw[←de];show w1.heap.setIfInBounds _ _=_;rw[dd.2.2.2]
  have j2:r<w.heap.size:=(Array.getElem?_eq_some_iff.1 hr).1;have j4:M≠r:=fun e=>C (e ▸ c7)
  have er:w2.heap[r]? = some (.mapIter (some M) c (seen.push e.born) c):=by rw[di];simp[j2]
  have N:w2.heap[M]? = some (.map B c):=by rw[di,Array.getElem?_setIfInBounds_ne (Ne.symm j4)];exact ed
  obtain⟨m2,kc⟩:=m1.EI (w':=w2) (r:=r) (by rw[←de];exact dd.1) (by rw[←de];exact dd.2.1) (by rw[←de];exact dd.2.2.1) (by rw[di];simp) (fun i _ hi=>by rw[di,Array.getElem?_setIfInBounds_ne (Ne.symm hi)])
   (by rw[ef];exact C) c8 (fun ad v hp=>Ft hr ad v hp)
  refine ue (d:=some tN) rfl rfl rfl (zg rfl i5 ax) ?_;have rs:bP n (Fr (own φ (bH σ.h idK (some (.mpo .str A (rb kv us z))))) Bw w2) ρ (bH (sJ dead σ.s) J (.lit (.pointer (some ⟨r,0,none⟩)))) a:=be.mono (fun β a v hv=>kc β a v (by rw[ef];exact hv)) (fun _ _ h=>h);have k1:=rs.AF (d:=some tN) (x:= .tup [.p false .bool true,.lit e.key,.lit e.val]) (v:= .tuple #[.bool true,e.key,e.val]) (by
   simp only[V,VL,ai];exact⟨_,rfl,rfl,⟨.bool true,by simp,rfl,rfl⟩,⟨e.key,by simp,rfl⟩,⟨e.val,by simp,rfl⟩,trivial⟩) (f nN)
  rw[wpOps_cons];refine dZ (d:=some tO) rfl rfl rfl (f nO) k1 (mZ k1 (aw _ _ _) rfl rfl) fun a2 k2=> ?_
  show(Code.seq (.cond (.tmp tO) .skip (.exit b)) _).wp P _ _ _;have ek:a2.tmps.getD tO undef = .bool true:=jY (by have:=k2.sl tO;simp only[dr,aw]at this;exact this);refine wp_seq (wp_cond_true ek (wp_skip ?_));show(Code.block b2 _).wp P _ _ _;refine wp_block (wp_seq (wp_region ?_));simp only[List.size_toArray,List.length_cons,List.length_nil,show List.range (0+1+1+1)=[0,1,2]from rfl];rw[wpOps_cons];have kk:a2.tmps.getD J undef = .pointer (some ⟨r,0,none⟩):=by have:=k2.sl J;simp only[dr]at this;rw[aB _ _ (Ne.symm g5),aB _ _ (Ne.symm g1),aw]at this;simpa only [V]using this
  refine ue (d:=some tE) rfl rfl rfl (Dv rfl kk (run_entry_at (P:=P) w2 r M c seen B c e er N ac bs.1)) ?_;have k3:=k2.AF (d:=some tE) (x:= .tup [.p false .str k,.lit e.val]) (v:= .tuple #[e.key,e.val]) (by
   simp only[V,VL,ai];exact⟨_,rfl,rfl,⟨e.key,by simp,rfl,c9.symm⟩,⟨e.val,by simp,rfl⟩,trivial⟩) (f nE)
  rw[wpOps_cons];refine dZ (d:=some tF) rfl rfl rfl (f nF) k3 (mZ k3 (aw _ _ _) rfl rfl) fun a4 k4=> ?_
  rw[wpOps_cons];refine dZ (d:=some L) rfl rfl rfl (f nK) k4 (kP k4 (.inr rfl)) fun a5 k5=> ?_
  have a6:∀ {s':Nat→ag} {a':Act},bP n (Fr (own φ (bH σ.h idK (some (.mpo .str A (rb kv us z))))) Bw w2) ρ s' a'→s' L = .p false .str k→s' J = .lit (.pointer (some ⟨r,0,none⟩))→(∀t,dead.contains t=false→s' t=σ.s t) →
    bP n (Fr (own φ (bH σ.h idK (some (.mpo .str A (rb kv us z))))) Bw w2) ρ (bH (bH (sJ dead σ.s) J (.lit (.pointer (some ⟨r,0,none⟩)))) L (.p false .str k)) a':=fun eu c1 c2 c3=>eu.back fun t=>by
   by_cases e1:t=L
   ·subst e1;exact .inl (by rw[aw,c1])
   ·rw[aB _ _ e1];by_cases X:t=J
    ·subst X;exact .inl (by rw[aw,c2])
    ·rw[aB _ _ X];unfold sJ;cases hd:dead.contains t with
     | true=>exact .inr rfl
     | false=>exact .inl (c3 t hd).symm
  have nd:∀ {x t:Nat},dead.contains x=true→dead.contains t=false→t≠x:=fun I E e=>by rw[e,I]at E;cases E
  have k6:=a6 k5 (by simp only[dr,aw]) (by
   simp only[dr];rw[aB _ _ (Ne.symm g7),aB _ _ (Ne.symm r2),aB _ _ (Ne.symm r1),aB _ _ (Ne.symm g5),aB _ _ (Ne.symm g1),aw]) (fun t E=>by
   simp only[dr];rw[aB _ _ (nd DK E),aB _ _ (nd DF E),aB _ _ (nd DE E),aB _ _ (nd DO E),aB _ _ (nd DN E),aB _ _ (nd DI E)];unfold sJ;rw[E];rfl)
  generalize ey:bH (bH (sJ dead σ.s) J (.lit (.pointer (some ⟨r,0,none⟩)))) L (.p false .str k)=sC at k6 a6;have cK:sC L = .p false .str k:=by rw[←ey,aw]
  have cI:sC J = .lit (.pointer (some ⟨r,0,none⟩)):=by rw[←ey,aB _ _ (Ne.symm g7),aw]
  have cD:∀t,dead.contains t=false→sC t=σ.s t:=fun t E=>by rw[←ey,aB _ _ (nd DK E),aB _ _ (nd DI E)];unfold sJ;rw[E];rfl
  clear k1 k2 k3 k4 k5;show(Code.seq _ (.cond (.tmp tG) _ .skip)).wp P _ _ _;refine wp_seq (wp_region ?_);simp only[List.size_toArray,List.length_cons,List.length_nil,show List.range (0+1+1+1+1)=[0,1,2,3]from rfl];rw[wpOps_cons];refine dZ (d:=some d7) rfl rfl rfl (f n7) k6 (kP k6 (.inl rfl)) fun a7 k7=> ?_
  rw[cD tU b3.2,s5]at k7;rw[wpOps_cons];refine dZ (d:=some d8) rfl rfl rfl (f n8) k7 (kP k7 (.inl rfl)) fun a8 k8=> ?_
  rw[show dr sC (some d7) (.mp idU) L = .p false .str k by simp only[dr];rw[aB _ _ h7,cK]]at k8;rw[wpOps_cons];refine dZ (d:=some d9) rfl rfl rfl (f n9) k8 (BM m2 (O.find t8) t9 fw rfl (O.find e7) e8 (us:=us) (id:=idU) (k:=k) (by rw[aB _ _ b4.2];exact s6) k8 (by simp only[dr];rw[aB _ _ hw,aw]) (aw _ _ _) rfl) fun a9 k9=> ?_
  rw[wpOps_cons];refine dZ (d:=some tG) rfl rfl rfl (f nG) k9 (Hl k9 (aw _ _ _) rfl) fun rt fa=> ?_
  have dk:rt.tmps.getD tG undef = .bool (!((bc (α:=Bool) .str us k).getD false)):=jY (by have:=fa.sl tG;simp only[dr,aw]at this;exact this);have fd:=a6 fa (by simp only[dr];rw[aB _ _ r6,aB _ _ r5,aB _ _ r4,aB _ _ h7,cK]) (by
   simp only[dr];rw[aB _ _ (Ne.symm r3),aB _ _ (Ne.symm gi),aB _ _ (Ne.symm gd),aB _ _ (Ne.symm gb),cI]) (fun t E=>by
   simp only[dr];rw[aB _ _ (nd DG E),aB _ _ (nd D9 E),aB _ _ (nd D8 E),aB _ _ (nd D7 E),cD t E])
  clear k6 k7 k8 k9 fa;have b5:∀e'∈B.toList,((seen.push e.born).contains e'.born=true↔∃k',k'∈k::z∧e'.key=aO .str k'):=fun e' bx=>by
   rw[Array.contains_push];simp only[Bool.or_eq_true,beq_iff_eq];constructor
   ·rintro(h1 | h1)
    ·obtain⟨k',q1,q2⟩:=(Z e' bx).1 h1;exact⟨k',List.mem_cons_of_mem _ q1,q2⟩
    ·have q1:=find_born e B.toList bs.1 ac;have q2:=find_born e' B.toList bs.1 bx;rw[h1,q1]at q2;cases q2;exact⟨k,List.mem_cons_self ..,c9⟩
   ·rintro⟨k',q1,q2⟩;rcases List.mem_cons.1 q1 with rfl | q1
    ·right
     obtain⟨j',fo⟩:=List.mem_iff_getElem?.1 bx;obtain⟨p',kl,ch⟩:=jH (K:= .str) D fo;have e1:p'.1=k':=eY (K:= .str) rfl (by rw[←ch,q2]);have X:((rb kv us z).map (·.1))[j']? = ((rb kv us z).map (·.1))[j0]? :=by rw[List.getElem?_map,List.getElem?_map,kl,ip];simp[e1,hk]
     have e3:j'=j0:=List.getElem?_inj (by rw[List.length_map];exact(List.getElem?_eq_some_iff.1 kl).1) ei |>.1 X
     subst e3;rw[ih]at fo;cases fo;rfl
    ·left
     exact(Z e' bx).2 ⟨k',q1,q2⟩
  have kn:∀ {F:Bool→Addr→Value→Prop} {a':Act},bP n F ρ sC a'→bP n F ρ (bH (sJ dead σ.s) J (.lit (.pointer (some ⟨r,0,none⟩)))) a':=fun eu=>eu.back fun t=>by
   by_cases X:t=J
   ·subst X;exact .inl (by rw[aw,cI])
   ·rw[aB _ _ X];unfold sJ;cases hd:dead.contains t with
    | true=>exact .inr rfl
    | false=>exact .inl (cD t hd).symm
  show(Code.cond (.tmp tG) _ .skip).wp P _ _ _;cases hu:(bc (α:=Bool) .str us k).getD false with
  | true =>
   rw[hu]at dk;refine wp_cond_false dk (wp_skip ?_);simp only[Exit.inBlock,Exit.then];have el:rb kv us (k::z)=rb kv us z:=List.filter_congr fun p hp=>by
    by_cases bv:p.1=k
    ·rw[bv,hu];rfl
    ·rw[List.contains_cons,beq_eq_false_iff_ne.2 bv,Bool.false_or]
   exact⟨_,cc,k::z,B,seen.push e.born,rfl,by rw[el];exact m2,by rw[←ef];exact kn fd,er,N,Y,b5⟩
  | false =>
   rw[hu]at dk;refine wp_cond_true dk (wp_region ?_);simp only[List.size_toArray,List.length_cons,List.length_nil,show List.range (0+1+1+1+1+1+1)=[0,1,2,3,4,5]from rfl];rw[wpOps_cons];refine dZ (d:=some e0) rfl rfl rfl (f m0) fd (kP fd (.inl rfl)) fun tu Li=> ?_
   rw[cD tS b3.1,s1]at Li;rw[wpOps_cons];refine dZ (d:=some e1) rfl rfl rfl (f pu) Li (Be Li (aw _ _ _) rfl) fun ty Ls=> ?_
   rw[wpOps_cons];refine dZ (d:=some X) rfl rfl rfl (f qr) Ls (wG Ls (aw _ _ _) rfl (O.find t1) t2 t3) fun u1 ko=> ?_
   rw[wpOps_cons];refine dZ (d:=some e3) rfl rfl rfl (f m3) ko (zb m2 ko (aw _ _ _) (by rw[aB _ _ (Ne.symm b4.1)];exact sF) rfl (O.find t4) (by rw[Nat.zero_add];exact s3)) fun u2 ks=> ?_
   rw[wpOps_cons];refine dZ (d:=some e4) rfl rfl rfl (f m4) ks (kP ks (.inl rfl)) fun kw ds=> ?_
   rw[show dr (dr (dr (dr sC (some e0) (.adr idF 0 sz 0)) (some e1) (.adr idF 0 sz 0)) (some X) (.adr idF 0 sz (0+off))) (some e3) (.mp idK) L = .p false .str k by simp only[dr];rw[aB _ _ du,aB _ _ hn,aB _ _ h9,aB _ _ h8,cK]]at ds;have rx:kw.tmps.getD e3 undef = .map (some M):=by have:=ds.sl e3;simp only[dr]at this;rw[aB _ _ hy,aw]at this;simp only[V]at this;have:=this.1;rw[d4]at this;exact(Option.some.inj this).symm
   have s7:kw.tmps.getD e4 undef=aO .str k:=so (K:= .str) rfl rfl (by have:=ds.sl e4;simp only[dr,aw]at this;exact this);have s8:B.toList.map (·.key)=((rb kv us z).map (·.1)).map (aO .str):=by rw[D,List.map_map];rfl
   obtain⟨j,e',hf,hj,s9⟩:∃j e',(Instr.findKey kt (aO .str k) B.toList).run P w2 = .ok (some (j,e'.val)) w2∧B.toList[j]? = some e'∧e'.key=aO .str k:=by
    rcases fv.find k B.toList ((rb kv us z).map (·.1)) w2 s8 with⟨_,h2⟩ | h2
    ·exact absurd c9 (h2 e ac)
    ·exact h2
   rw[wpOps_cons];refine ue (d:=none) rfl rfl rfl (CN rfl rx s7 hm N (fv.check _ _ _) hf) ?_;obtain⟨p,hp,ch⟩:=jH (K:= .str) D hj;have bv:p.1=k:=eY (K:= .str) rfl (by rw[←ch,s9]);have fr:(rb kv us z).eraseIdx j=rb kv us (k::z):=by
    rw[erase_filter ei hp bv];unfold rb;rw[List.filter_filter];refine List.filter_congr fun x _=> ?_
    by_cases I:x.1=k
    ·rw[I,hu];simp
    ·rw[List.contains_cons,beq_eq_false_iff_ne.2 I,Bool.false_or,Bool.not_false,Bool.true_and]
   have dt:(B.eraseIdxIfInBounds j).toList=B.toList.eraseIdx j:=by simp
   have cp:∀x∈(B.eraseIdxIfInBounds j).toList,x∈B.toList:=fun x I=>List.mem_of_mem_eraseIdx (by rw[←dt];exact I)
   have hg:=fY w2 M (.map (B.eraseIdxIfInBounds j) c);have l1:=m2.put (some idK) idK (.mpo .str A (rb kv us (k::z))) (.map (some M)) (φ idK) (some M) hg (fun x e=>⟨idK,_,rfl,aw _ _ _,rfl,by cases e;exact ec⟩) (.inr ⟨rfl,d4⟩)
    (fun _ x I=>Nat.lt_of_lt_of_le (m2.lt idK _ x (aw _ _ _) rfl I) hg.size) (fun _ x I=> .inr ⟨idK,_,rfl,aw _ _ _,rfl,I⟩) (fun F' uu hF sy=>by
     refine⟨M,_,c,rfl,ec,(heap_set N).1,⟨hK,?_,fun x I=>Y x (cp x I)⟩,?_,?_,fun i hi=> ?_⟩
     ·rw[dt,Go.ChangeMaps.map_eraseIdx];exact List.Nodup.eraseIdx _ bs.1
     ·rw[dt,Go.ChangeMaps.map_eraseIdx,D,←fr,Go.ChangeMaps.map_eraseIdx]
     ·rw[←fr,Go.ChangeMaps.map_eraseIdx];exact List.Nodup.eraseIdx _ ei
     ·have cx:(rb kv us (k::z))[i]? = some (rb kv us (k::z))[i]:=List.getElem?_eq_getElem hi;generalize (rb kv us (k::z))[i]=x at cx;rw[←fr,List.getElem?_eraseIdx]at cx;have get:∀i',(rb kv us z)[i']? = some x→∃e:MapEntry,B.toList[i']? = some e∧MV (F' false) A x.2 e.val:=fun i' I=>by have cc:=(List.getElem?_eq_some_iff.1 I).1;obtain⟨e,q1,q2⟩:=ej i' cc;rw[List.getElem?_eq_getElem cc]at I;simp only[Option.some.injEq]at I;rw[I]at q2;exact⟨e,by rw[Array.getElem?_toList];exact q1,ai.mono (fun a v hv=>hF _ _ _ (kc _ _ _ hv)) (fun _ _ h=>h) q2.1,q2.2⟩
      rw[←Array.getElem?_toList,dt,List.getElem?_eraseIdx];split at cx
      ·rename_i fs;rw[if_pos fs];exact get i cx
      ·rename_i fs;rw[if_neg fs];exact get (i+1) cx)
   obtain⟨l2,l3,-⟩:=l1;have sg:bH ρ idK (some (.map (some M)))=ρ:=by
    funext i;by_cases e:i=idK
    ·subst e;rw[aw,d4]
    ·rw[aB _ _ e]
   have l4:bH φ idK (φ idK)=φ:=by
    funext i;by_cases e:i=idK
    ·subst e;rw[aw]
    ·rw[aB _ _ e]
   have eh:bH (bH σ.h idK (some (.mpo .str A (rb kv us z)))) idK (some (.mpo .str A (rb kv us (k::z))))=bH σ.h idK (some (.mpo .str A (rb kv us (k::z)))):=by
    funext i;by_cases e:i=idK
    ·subst e;rw[aw,aw]
    ·rw[aB _ _ e,aB _ _ e,aB _ _ e]
   rw[aZ,sg,l4,eh]at l2;rw[aZ,l4,eh]at l3;have sj:=a6 ds (by simp only[dr];rw[aB _ _ e9,aB _ _ du,aB _ _ hn,aB _ _ h9,aB _ _ h8,cK]) (by
    simp only[dr];rw[aB _ _ (Ne.symm h6),aB _ _ (Ne.symm h5),aB _ _ (Ne.symm gs),aB _ _ (Ne.symm gp),aB _ _ (Ne.symm gj),cI]) (fun t E=>by
    simp only[dr];rw[aB _ _ (nd E4 E),aB _ _ (nd E3 E),aB _ _ (nd E2 E),aB _ _ (nd E1 E),aB _ _ (nd E0 E),cD t E])
   show Exit.inBlock b2 _ .normal _ _;simp only[Exit.inBlock,Exit.then];refine⟨_,cc,k::z,B.eraseIdxIfInBounds j,seen.push e.born,rfl,l2,?_,?_,(heap_set N).1,fun x I=>Y x (cp x I),fun e' bx=>b5 e' (cp e' bx)⟩
   ·have:=(kn sj).mono l3 (fun _ _ h=>h);rw[show own φ (bH σ.h idK (some (.mpo .str A (rb kv us (k::z)))))=own φ σ.h from AB s4 rfl rfl]at this;exact this
   ·show(w2.heap.setIfInBounds M _)[r]? = _;rw[(heap_set N).2 r (Ne.symm j4)];exact er
end
end Go.Tv
