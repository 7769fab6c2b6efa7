import Derived.Test.YtbedjpdfkmfplaaGreatDoorTvSdm
import Derived.Maps.RangeRun
namespace Go.Tv
open Go Go.RowKit
open Go.MapKept (run_setObj_map heap_set)
open Go.ChangeMaps (setBlock)
def K0{A B:Type}(f:A→ag×Qw)(g:B→ag×Qw):A⊕B→ag×Qw
 | .inl x=>f x
 | .inr x=>g x
def rK(K:Ty){α:Type}(kv:List (K.den×α))(us:List (K.den×Bool)):List (K.den×α):=kv.filter fun p=>(aT K us p.1).getD false
def tD(dead:QV)(s:Nat→ag):Nat→ag:=fun t=>if dead.contains t then .unk else s t
section
variable{P:Program}{tb:bQ}{n:NS}{Bw:Nat→Prop}{w0:cE P}{ρ:Nat→QW}{φ:Nat→Nat→Prop}{h:Nat→Qz}{s:Nat→ag}{a:Act}{w:World}{o:Oper}
def Calm(P:Program)(F:Bool→Addr→Value→Prop)(ρ:Nat→QW)(o:Oper)(a:Act)(w:World)(x:ag):Prop:=∃v,(execOp a.eval o).run P w = .ok (.value v) w∧V F ρ x v
variable{F:Bool→Addr→Value→Prop}
theorem lB{t:Nat}(f:bV n F ρ s a)(e:o.op = .move (.tmp t)∨o.op = .assign (.tmp t)):Calm P F ρ o a w (s t) :=
 ⟨_,by rcases e with e | e <;> (simp only[execOp,e];rfl),f.sl t⟩
theorem nV{t i:Nat}{j:List ag}{y:ag}(q:bV n F ρ s a)(ht:s t = .tup j)(z:o.op = .extract (.tmp t) i)(A:j[i]? = some y):Calm P F ρ o a w y:=by
 have f:=q.sl t;rw[ht]at f;simp only[V]at f;obtain⟨D,e,_,hl⟩:=f;obtain⟨u,B,C⟩:=VL.get hl A;exact⟨u,by simp[execOp,z,Act.eval,e,Instr.extract,B],C⟩
theorem DJ{t id i sz off:Nat}(q:bV n F ρ s a)(ht:s t = .adr id i sz off)(u:o.op = .nilCheck (.tmp t)):Calm P F ρ o a w (.adr id i sz off):=by
 have f:=q.sl t;rw[ht]at f;have e:=f;simp only[V]at e;obtain⟨g,z,j⟩:=e;exact⟨_,by simp only[execOp,u,Act.eval,j];rfl,by rw[←j];exact f⟩
theorem wR{t id i sz k:Nat}{st:TypeId}{ti:TI}{f:Nat}(L:bV n F ρ s a)(ht:s t = .adr id i sz k)(M:o.op = .fieldAddr st (.tmp t) f)(u:aO P st ti){D:List (Nat×TypeId)}(hk:ti.k = .st D){off:Nat}{E:TypeId}(N:D[f]? = some (off,E)):
  Calm P F ρ o a w (.adr id i sz (k+off)):=by
 have z:=L.sl t;rw[ht]at z;obtain⟨d,O,I⟩:=u.hu;rw[hk]at I;obtain⟨J,rfl,X,Y⟩:=I;subst X;rw[List.getElem?_map]at N;obtain⟨e,q,A⟩:∃e,J.toList[f]? = some e∧(e.offset,e.type)=(off,E):=by simp_all
 cases A;have B:J[f]? = some e:=by simpa using q
 obtain⟨j,hi,C⟩:=Y e (List.mem_of_getElem? q);simp only[V]at z;obtain⟨g,Z,q2⟩:=z;refine⟨.pointer (some ((⟨g,i*sz+k,none⟩:Addr).add e.offset)),?_,?_⟩
 ·simp[execOp,M,Instr.fieldAt,run_underlying O,B,Act.eval,q2,Instr.sureAddr,fieldPlace,sizeOf,typeInfo,hi,C]
 ·simp only[V];exact⟨g,Z,by simp[Addr.add,Nat.add_assoc]⟩
theorem zM(m:Mem Bw w0 ρ φ h w){t id off:Nat}{lt:TypeId}{ti:TI}{cs:List ag}{y:ag}(j:bV n (Fr (own φ h) Bw w) ρ s a){sz:Nat}(ht:s t = .adr id 0 sz off)(hb:h id=some (.box cs))(q:o.op = .load lt (.tmp t))(e:aO P lt ti)(u:fk ti cs off=some y):
  Calm P (Fr (own φ h) Bw w) ρ o a w y:=by
 have f:=j.sl t;rw[ht]at f;obtain⟨D,z,A⟩:=m7 m f (cs:=cs) (off:=off) (c:=True) (by simp only[ll,hb,Nat.zero_mul,Nat.zero_add]) trivial;obtain⟨v,B,C⟩:=gP (P:=P) e A u;refine⟨v,?_,C⟩;simp[execOp,q,Instr.loadAt,Act.eval,z,Instr.sureAddr,B]
theorem Ik{t f:Nat}{β b:Bool}(j:bV n F ρ s a)(ht:s t = .p β .bool b)(q:o.op = .unOp .not f (.tmp t)):Calm P F ρ o a w (.p false .bool (!b)):=by
 have e:=j.sl t;rw[ht]at e;obtain⟨z,u,A⟩:=Dj (P:=P) (w:=w) (op:= .not) (r:= .p false .bool (!b)) rfl e;exact⟨z,by simp only[execOp,q,Act.eval];rw[Sem.run_bind,u];rfl,A⟩
theorem BU(m:Mem Bw w0 ρ φ h w){tm I id:Nat}{t kt et:TypeId}{ti te:TI}(L:aO P t ti)(hk:ti.k = .mp kt et){K:Ty}(q:fU P kt K)(M:K.scalar=true)(u:aO P et te)(hT:te.T=some .bool){us:List (K.den×Bool)}(hi:h id=some (.mpo K .bool us))
  (hs:bV n (Fr (own φ h) Bw w) ρ s a) (h1:s tm = .mp id) {β:Bool} {k:K.den} (h2:s I = .p β K k) (ho:o.op = .lookup t (.tmp tm) (.tmp I) false):Calm P (Fr (own φ h) Bw w) ρ o a w (.p false .bool ((aT K us k).getD false)):=by
 have hx:=hs.sl tm;rw[h1]at hx;have hy:=hs.sl I;rw[h2]at hy;have e2:a.tmps.getD I undef=aP K k:=nS q.isKey M hy;obtain⟨r,N,clock,e1,_,_,hb,⟨O,_⟩,f,V,A⟩:=uw m hi hx;obtain⟨dm,hm,B⟩:=L.hu;rw[hk]at B;simp only[UK]at B;subst B;have X:N.toList.map (·.key)=(us.map (·.1)).map (aP K):=by rw[f,List.map_map];rfl
 obtain⟨z,hz,Y,Z,a1⟩:=dF u w;obtain⟨a7,a8,a9⟩:=u.hT _ hT;rcases q.find k N.toList (us.map (·.1)) w X with⟨g1,g2⟩ | ⟨j,e,g1,g2,g3⟩
 ·have C:aT K us k=none:=jU O fun p J e=>by
   obtain⟨j,hj⟩:=List.mem_iff_getElem?.1 J;have E:(us.map (fun p=>aP K p.1))[j]? = some (aP K p.1):=by rw[List.getElem?_map,hj];rfl
   rw[←f,List.getElem?_map]at E;cases hq:N.toList[j]? with
   | none=>rw[hq]at E;cases E
   | some x =>rw[hq]at E;simp at E;exact g2 x (List.mem_of_getElem? hq) (by rw[E,e])
  rw[C];have a2:MV (Fr (own φ h) Bw w false) .bool (Ty.bool.zero) z:=vZ u hT hz Y Z a1;refine⟨z,?_,by have:=Gy (ρ:=ρ) (F:=Fr (own φ h) Bw w) a2;exact this⟩;simp only[execOp,ho,Act.eval];rw[e1,e2];simp[Instr.lookup,run_underlying hm,Go.MapKept.run_getObj_map hb,q.check,g1,hz,Result.andThen]
 ·obtain⟨p,J,a3⟩:=kr f g2;have a4:p.1=k:=gm O (by rw[←a3,g3]);have D:=mg (α:=Bool) O V J a4;rw[D];have hj:j<us.length:=(List.getElem?_eq_some_iff.1 J).1;obtain⟨e',q1,q2⟩:=A j hj;have a5:e'=e:=by simp_all
  subst a5;have a6:us[j]=p:=by simp_all
  rw[a6]at q2;refine⟨e'.val,?_,by have:=Gy (ρ:=ρ) (F:=Fr (own φ h) Bw w) q2;exact this⟩;simp only[execOp,ho,Act.eval];rw[e1,e2];simp[Instr.lookup,run_underlying hm,Go.MapKept.run_getObj_map hb,q.check,g1,Result.andThen]
theorem EN{t mt k e f:Nat}{j:Array MapEntry}{clock:Nat}(q:o.op = .range mt (.tmp t))(ev:a.tmps.getD t undef = .map (some f))(u:P.underlying mt=some (.map k e))(hb:w.heap[f]? = some (.map j clock)):
  (execOp a.eval o).run P w = .ok (.value (.pointer (some ⟨w.heap.size,0,none⟩))) (w.alloc (.mapIter (some f) clock #[] clock)):=by
 simp only[execOp,q,Act.eval,ev,Sem.run_bind,run_range_map w mt k e f j clock u hb,Result.andThen_ok];rfl
theorem zJ{t:Nat}{u v:Value}{w':World}(e:o.op = .next (.tmp t) false)(ev:a.tmps.getD t undef=u)(f:(Instr.next u false o.type).run P w = .ok v w'):(execOp a.eval o).run P w = .ok (.value v) w':=by
 simp only[execOp,e,Act.eval,ev,Sem.run_bind,f,Result.andThen_ok];rfl
theorem E8{t:Nat}{u v:Value}{w':World}(e:o.op = .entry (.tmp t))(ev:a.tmps.getD t undef=u)(f:(Instr.entry u).run P w = .ok v w'):(execOp a.eval o).run P w = .ok (.value v) w':=by
 simp only[execOp,e,Act.eval,ev,Sem.run_bind,f,Result.andThen_ok];rfl
theorem Cj{u z mt e A q j:Nat}{f:Array MapEntry}{clock:Nat}{k v:Value}(B:o.op = .call { callee:= .builtin .delete,args:= #[.tmp u,.tmp z],argTypes:= #[mt,e] })(C:a.tmps.getD u undef = .map (some q))(D:a.tmps.getD z undef=k)
  (E:P.underlying mt=some (.map e A)) (hb:w.heap[q]? = some (.map f clock)) (I:(Instr.checkKey f.isEmpty 10000 e k).run P w = .ok () w) (J:(Instr.findKey e k f.toList).run P w = .ok (some (j,v)) w) :
  (execOp a.eval o).run P w = .ok (.value (.tuple #[])) (setBlock w q (.map (f.eraseIdxIfInBounds j) clock)):=by
 simp only[execOp,B,resolve,invoke,builtin,Sem.run_bind,Sem.run_pure,Result.andThen_ok,List.map_toArray,List.map_cons,List.map_nil,Act.eval,C,D];simp[Builtin.delete_,run_underlying E,Go.MapKept.run_getObj_map hb,I,J,run_setObj_map _ hb,Result.andThen,setBlock]
theorem um{ops:Array Oper}{i:Nat}(hi:ops[i]? = some o)(j:o.guard=none){d:QJ}(hd:o.dst=d){v:Value}{w':World}(e:(execOp a.eval o).run P w = .ok (.value v) w'){K:Act→World→Prop}{Q:Exit→Act→World→Prop}(hk:K (a.put d v) w'):wpOp P ops Q i K a w:=by
 subst hd;unfold wpOp;rw[hi];simp only;rw[if_pos (by unfold Region.wanted;rw[j])];exact .inl (Good.aH (post:=fun u f=>u=v∧f=w') e ⟨rfl,rfl⟩ _ _ (by rintro u f ⟨rfl,rfl⟩;exact hk))
theorem fb{ops:Array Oper}{i:Nat}(hi:ops[i]? = some o)(j:o.guard=none){d:QJ}(e:o.dst=d)(hd:xU n d=true)(q:bV n F ρ s a){x:ag}(u:Calm P F ρ o a w x){K:Act→World→Prop}{Q:Exit→Act→World→Prop}
  (hk:∀f,bV n F ρ (dN s d x) f→K f w):wpOp P ops Q i K a w:=by
 obtain⟨v,z,A⟩:=u;exact um hi j e z (hk _ (q.BP A hd))
end
section
variable{P:Program}{tb:bQ}{n:NS}{Bw:Nat→Prop}{w0:cE P}{ρ:Nat→QW}{φ:Nat→Nat→Prop}{h:Nat→Qz}{s:Nat→ag}{a:Act}{w:World}
theorem Ix{c:Code}{Q:Exit→Act→World→Prop}(Inv:Nat→Act→World→Prop)
  (B:∀k a w,Inv k a w→c.wp P (Exit.then (fun u w'=>∃j,j<k∧Inv j u w') Q) a w) {k:Nat} {a:Act} {w:World} (C:Inv k a w):(Code.loop c).wp P Q a w:=by
 have D:∀a w,(∃k,Inv k a w)→∃k,Inv k a w∧∀m,Inv m a w→k≤m:=fun a w=>DH (fun k=>Inv k a w)
 classical
 let z:Act→World→Nat:=fun a w=>if h:∃k,Inv k a w then(D a w h).choose else 0
 have q:∀a w (h:∃k,Inv k a w),Inv (z a w) a w∧∀m,Inv m a w→z a w≤m:=fun a w h=>by
  grind
 refine Go.wp_loop (fun a w=>∃k,Inv k a w) z ⟨k,C⟩ fun a w hi=>?_
 obtain⟨E,_⟩:=q a w hi;refine wp_mono (B _ a w E) fun e u w' A=>?_
 cases e with
 | normal =>
  obtain⟨j,I,f⟩:=A;exact⟨⟨j,f⟩,Nat.lt_of_le_of_lt ((q u w' ⟨j,f⟩).2 j f) I⟩
 | _=>exact A
theorem Mem.F3(m:Mem Bw w0 ρ φ h w){w':World}{r:Nat}(I:w'.os=w.os)(J:w'.tape=w.tape)(L:w'.output=w.output)(D:w.heap.size≤w'.heap.size)(hb:∀k,k<w.heap.size→k≠r→w'.heap[k]? = w.heap[k]?)
  (M:¬own φ h r) (hk:¬w0.kp r) (N:∀ad v,w.pb ad=some v→ad.block≠r):Mem Bw w0 ρ φ h w'∧∀β a v,Fr (own φ h) Bw w β a v→Fr (own φ h) Bw w' β a v:=by
 have E:∀β a v,Fr (own φ h) Bw w β a v→Fr (own φ h) Bw w' β a v:=fun β a v q=>⟨q.1,q.2.1,by rw[World.qO (hb _ (World.Bh q.2.2) (N _ _ q.2.2))];exact q.2.2⟩
 refine⟨⟨fun id o j=>?_,fun id o k B C O=>Nat.lt_of_lt_of_le (m.lt id o k B C O) D,m.dj,m.bw,m.ow,⟨I.trans m.kp.os,J.trans m.kp.tape,L.trans m.kp.output,Nat.le_trans m.kp.size D,fun k q=>?_⟩,m.pk⟩,E⟩
 ·obtain⟨u,B,C⟩:=m.ob id o j;exact⟨u,B,OR.mono E (fun _ _ h=>h) (fun _ h=>h) (fun hl k z=>hb k (m.lt id o k j hl z) (fun e=>M ⟨id,o,j,hl,by rw[←e];exact z⟩)) C⟩
 ·rw[hb k (Nat.lt_of_lt_of_le (w0.lt k q) m.kp.size) (fun e=>hk (by rw[←e];exact q))];exact m.kp.block k q
theorem bV.back{F:Bool→Addr→Value→Prop}{f:Nat→ag}(h:bV n F ρ f a)(j:∀t,s t=f t∨s t = .unk):bV n F ρ s a:=⟨h.tm,h.df,fun t=>by
 rcases j t with e | e
 ·rw[e];exact h.sl t
 ·rw[e];simp only[V]⟩
theorem filter_lt{α:Type}{p q:α→Bool}:∀ {l:List α},(∀x,q x=true→p x=true)→(∃x∈l,p x=true∧q x=false)→(l.filter q).length<(l.filter p).length
 | [],_,⟨x,f,_⟩=>by cases f
 | y::l,e,⟨x,f,j,u⟩=>by
  have A:(l.filter q).length≤(l.filter p).length:=by
   clear f;induction l with
   | nil=>simp
   | cons z l B =>
    simp only[List.filter_cons];cases hz:q z with
    | true=>rw[e z hz];simpa using B
    | false=>cases p z <;> simp <;> omega
  simp only[List.filter_cons];rcases List.mem_cons.1 f with rfl | f
  ·rw[j,u];simp;omega
  ·have:=filter_lt (p:=p) (q:=q) e ⟨x,f,j,u⟩;cases C:q y with
   | true=>rw[e y C];simpa using this
   | false=>cases p y <;> simp <;> omega
theorem erase_filter{α:Type}{k:QX}:∀ {l:List (QX×α)} {j:Nat} {p:QX×α},(l.map (·.1)).Nodup→l[j]? = some p→p.1=k→l.eraseIdx j=l.filter fun x=> !(x.1 == k)
 | [],_,_,_,h,_=>by simp at h
 | x::l,0,p,hn,h,e=>by
  simp at h;subst h;simp only[List.map_cons,List.nodup_cons]at hn;simp only[List.eraseIdx_cons_zero,List.filter_cons,e,BEq.rfl,Bool.not_true,Bool.false_eq_true,if_false];refine(List.filter_eq_self.2 fun y q=>?_).symm;have:y.1≠k:=fun f=>hn.1 (by rw[e,←f];exact List.mem_map_of_mem q)
  simpa using this
 | x::l,j+1,p,hn,h,e=>by
  simp only[List.map_cons,List.nodup_cons]at hn;simp only[List.getElem?_cons_succ]at h;have u:x.1≠k:=fun f=>hn.1 (by rw[f,←e];exact List.mem_map_of_mem (List.mem_of_getElem? h))
  have z:=erase_filter hn.2 h e;simp only[List.eraseIdx_cons_succ,List.filter_cons];rw[if_pos (by simpa using u),z]
def rP{α:Type}(e:List (QX×α))(us:List (QX×Bool))(f:QQ):List (QX×α):=e.filter fun p=>(aT (α:=Bool) .str us p.1).getD false || !f.contains p.1
def HU(tb:bQ)(ST z A B u:Nat):QJ :=
 match tb.find ST,tb.find A,tb.find B,tb.find u with
 | some C,some D,some E,some I=>match C.k,D.k,E.k,I.k with
  | .st fl,.mp e _,.mp f j,.str=>match fl[z]?,tb.find f,tb.find j with
   | some (off,_),some q,some J=>match q.k with
    | .str=>if e=u∧J.T=some .bool then some off else none
    | _=>none
   | _,_,_=>none
  | _,_,_,_=>none
 | _,_,_,_=>none
def Is(tb:bQ)(e:Nat)(o:Qz)(off:Nat):Option ag :=
 match tb.find e,o with
 | some f,some (.box j)=>fk f j off
 | _,_=>none
theorem Ai{id:Nat}{o q:Obj}(z:h id=some o)(A:o.live=true)(B:q.live=true):own φ (bu h id (some q))=own φ h:=by
 funext k;refine propext ⟨fun⟨i,x,j,u,f⟩=>?_,fun⟨i,x,j,u,f⟩=>?_⟩
 ·by_cases e:i=id
  ·subst e;exact⟨i,o,z,A,f⟩
  ·rw[aD _ _ e]at j;exact⟨i,x,j,u,f⟩
 ·by_cases e:i=id
  ·subst e;exact⟨i,q,av _ _ _,B,f⟩
  ·exact⟨i,x,by rw[aD _ _ e];exact j,u,f⟩
theorem GB{w:World}{r:Nat}{x:QJ}{y z:Nat}{l:Array Nat}(h:w.heap[r]? = some (.mapIter x y l z))(j:Addr)(v:Value)(f:w.pb j=some v):j.block≠r:=fun e=>by
 subst e;unfold World.pb at f;split at f
 ·unfold World.cell? at f;rw[h]at f;simp at f
 ·rw[h]at f;cases f
set_option maxHeartbeats 4000000 in
theorem JQ(O:bY P tb){σ:St}{Q:Exit→St→Prop}{idK idU idF:Nat}{A:Ty}{kv:List (QX×A.den)}{us:List (QX×Bool)}{dead:QV}{ko ks kw l1 l2 b b2 tS tU J tN tO tE tF L tG d0 d1 d2 d3 d7 d8 d9 e0 e1 e2 e3 e4 fi sz off:Nat}{ST MT UT kt bt:TypeId}
  {y0 y1 y2 y3 y4 y5 y6 y7 y8 y9 l3 l5 l6 l7 lc li lm ln lo lp:TypeId} {q0 q1 q2 q3 q4 q5 q6 q7 q8 q9 ls lw lx ly mc md mo ms nn ns:String} {f0 f1 f2 f3 f4 f5 f6 f7 f8 f9 oi oj on p1 p2 pi pl pp ps pu:Array Edge}
  (hT:HU tb ST fi MT UT kt=some off) (s1:σ.s tS = .adr idF 0 sz 0) (s2:Is tb MT (σ.h idF) off=some (.mp idK)) (s4:σ.h idK=some (.mpo .str A kv)) (s5:σ.s tU = .mp idU) (s6:σ.h idU=some (.mpo .str .bool us))
  (b1:([d0,d1,d2,d3,J,tN,tO,tE,tF,L,d7,d8,d9,tG,e0,e1,e2,e3,e4].all fun t=>dead.contains t && decide (t<n.sz))=true) (b3:(dead.contains tS || dead.contains tU)=false) (b4:idK≠idF∧idU≠idK)
  (hI:([tN,tO,tE,tF,L,d7,d8,d9,tG,e0,e1,e2,e3,e4].all fun t=>t != J)=true)
  (ne:L≠d7∧L≠d8∧L≠d9∧L≠tG∧L≠e0∧L≠e1∧L≠e2∧L≠e3∧d7≠d8∧e3≠e4∧L≠e4)
  (hq:∀σ',Le n σ' ⟨tD dead σ.s,bu σ.h idK (some (.mpo .str A (rK .str kv us))),σ.nx,σ.pn⟩→Q .normal σ') :
  W P n Bw w0 (.seq (.region ko #[⟨some d0,.move (.tmp tS),y0,q0,f0,none⟩,⟨some d1,.nilCheck (.tmp d0),y1,q1,f1,none⟩,⟨some d2,.fieldAddr ST (.tmp d1) fi,y2,q2,f2,none⟩,⟨some d3,.load MT (.tmp d2),y3,q3,f3,none⟩,⟨some J,.range MT (.tmp d3),y4,q4,f4,none⟩] false) (.block b (.loop (.seq (.region ks #[⟨some tN,.next (.tmp J) false,y5,q5,f5,none⟩,⟨some tO,.extract (.tmp tN) 0,y6,q6,f6,none⟩] false) (.seq (.cond (.tmp tO) .skip (.exit b)) (.block b2 (.seq (.region kw #[⟨some tE,.entry (.tmp J),y7,q7,f7,none⟩,⟨some tF,.extract (.tmp tE) 0,y8,q8,f8,none⟩,⟨some L,.assign (.tmp tF),y9,q9,f9,none⟩] false) (.seq (.region l1 #[⟨some d7,.move (.tmp tU),l3,ls,oi,none⟩,⟨some d8,.move (.tmp L),l5,lw,oj,none⟩,⟨some d9,.lookup UT (.tmp d7) (.tmp d8) false,l6,lx,on,none⟩,⟨some tG,.unOp .not bt (.tmp d9),l7,ly,p1,none⟩] false) (.cond (.tmp tG) (.region l2 #[⟨some e0,.move (.tmp tS),lc,mc,p2,none⟩,⟨some e1,.nilCheck (.tmp e0),li,md,pi,none⟩,⟨some e2,.fieldAddr ST (.tmp e1) fi,lm,mo,pl,none⟩,⟨some e3,.load MT (.tmp e2),ln,ms,pp,none⟩,⟨some e4,.move (.tmp L),lo,nn,ps,none⟩,⟨none,.call { callee:= .builtin .delete,args:= #[.tmp e3,.tmp e4],argTypes:= #[MT,kt] },lp,ns,pu,none⟩] false) .skip))))))))) σ Q:=by
 obtain⟨si,fl,ft,mi,et,ki,ui,ax,b7,b8,bi,t1,t2,t3,t4,t5,t6,t7,t8,t9,de,di,dk,ds⟩:∃si fl ft mi et ki ui ax b7 b8 bi,tb.find ST=some si∧si.k = .st fl∧fl[fi]? = some (off,ft)∧tb.find MT=some mi∧mi.k = .mp kt et∧tb.find kt=some ki∧ki.k = .str ∧
   tb.find UT=some ui∧ui.k = .mp ax b7∧tb.find ax=some b8∧b8.k = .str∧tb.find b7=some bi∧bi.T=some .bool:=by
  unfold HU at hT;split at hT
  ·rename_i si mi ui ki t1 t4 t8 t6;split at hT
   ·rename_i fl sq et ax b7 t2 t5 t9 t7;split at hT
    ·rename_i s9 ft b8 bi t3 de dk;split at hT
     ·rename_i di;split at hT
      ·rename_i hh;cases hT;obtain⟨rfl,ds⟩:=hh;exact⟨si,fl,ft,mi,et,ki,ui,ax,b7,b8,bi,t1,t2,t3,t4,t5,t6,t7,t8,t9,de,di,dk,ds⟩
      ·cases hT
     ·cases hT
    ·cases hT
   ·cases hT
  ·cases hT
 obtain⟨cs,sF,s3⟩:∃cs,σ.h idF=some (.box cs)∧fk mi cs off=some (.mp idK):=by
  unfold Is at s2;rw[t4]at s2;split at s2
  ·rename_i sx cs e1 e2;cases e1;exact⟨cs,e2,s2⟩
  ·cases s2
 clear hT s2;have ew:fU P kt .str:=fU.zL (O.find t6) (by rw[t7];rfl);have ey:fU P ax .str:=fU.zL (O.find de) (by rw[di];rfl);simp only[List.all_cons,List.all_nil,Bool.and_true,Bool.and_eq_true,decide_eq_true_eq]at b1;obtain⟨⟨D0,n0⟩,⟨D1,n1⟩,⟨D2,n2⟩,⟨D3,n3⟩,⟨DI,nI⟩,⟨DN,nN⟩,⟨DO,nO⟩,⟨DE,nE⟩,⟨DF,nF⟩,⟨DK,nK⟩,⟨D7,n7⟩,⟨D8,n8⟩,⟨D9,n9⟩,⟨DG,nG⟩,⟨E0,m0⟩,⟨E1,qr⟩,⟨E2,r1⟩,⟨E3,m3⟩,E4,m4⟩:=b1;rw[Bool.or_eq_false_iff]at b3;simp only[List.all_cons,List.all_nil,Bool.and_true,Bool.and_eq_true,bne_iff_ne,ne_eq]at hI;obtain⟨fa,fd,r2,r3,fo,fr,fs,fv,r4,fw,g1,g5,g6,g7⟩:=hI;obtain⟨g8,r5,r6,r7,g9,gb,gd,dd,gi,gj,dt⟩:=ne;have z:∀ {t:Nat},t<n.sz→xU n (some t)=true:=fun h=>by simpa [xU]using h
 obtain⟨dm,hm,du⟩:=(O.find t4).hu;rw[t5]at du;simp only[UK]at du;subst du;intro a w hR;obtain⟨ρ,φ,m,hs,r8⟩:=hR.ex;refine wp_seq (wp_region ?_);simp only[List.size_toArray,List.length_cons,List.length_nil,show List.range (0+1+1+1+1+1)=[0,1,2,3,4]from rfl];rw[wpOps_cons];refine fb (d:=some d0) rfl rfl rfl (z n0) hs (lB hs (.inl rfl)) fun a1 h1=>?_
 rw[s1]at h1;rw[wpOps_cons];refine fb (d:=some d1) rfl rfl rfl (z n1) h1 (DJ h1 (av _ _ _) rfl) fun a2 h2=>?_
 rw[wpOps_cons];refine fb (d:=some d2) rfl rfl rfl (z n2) h2 (wR h2 (av _ _ _) rfl (O.find t1) t2 t3) fun a3 h3=>?_
 rw[wpOps_cons];refine fb (d:=some d3) rfl rfl rfl (z n3) h3 (zM m h3 (av _ _ _) sF rfl (O.find t4) (by rw[Nat.zero_add];exact s3)) fun a4 h4=>?_
 have hv:=h4.sl d3;simp only[dN,av]at hv;obtain⟨M,r9,f,ev,e5,e6,b9,⟨hK,hB⟩,c8,gp,c9⟩:=uw m s4 hv;have be:own φ σ.h M:=⟨idK,_,s4,rfl,e6⟩;have gs:M<w.heap.size:=m.rO be;have D:¬own φ σ.h w.heap.size:=fun ho=>Nat.lt_irrefl _ (m.rO ho)
 have bs:¬w0.kp w.heap.size:=fun hk=>Nat.lt_irrefl _ (Nat.lt_of_lt_of_le (w0.lt _ hk) m.kp.size)
 rw[wpOps_cons];refine um (w':=w.alloc (.mapIter (some M) f #[] f)) rfl rfl (d:=some J) rfl (v:= .pointer (some ⟨w.heap.size,0,none⟩)) (EN rfl ev hm b9) ?_;generalize rb:w.heap.size=r at D bs;obtain⟨mm,h5⟩:=m.F3 (w':=w.alloc (.mapIter (some M) f #[] f)) (r:=r) rfl rfl rfl (by simp) (fun k hk _=>heap_alloc_old w _ hk) D bs (fun ad v hp e=>by
  have:=World.Bh hp;omega)
 have b5:bV n (Fr (own φ σ.h) Bw (w.alloc (.mapIter (some M) f #[] f))) ρ (bu (tD dead σ.s) J (.lit (.pointer (some ⟨r,0,none⟩)))) (a4.put (some J) (.pointer (some ⟨r,0,none⟩))):=by
  refine((h4.mono h5 (fun _ _ h=>h)).BP (d:=some J) (x:= .lit (.pointer (some ⟨r,0,none⟩))) (v:= .pointer (some ⟨r,0,none⟩)) (by simp only[V]) (z nI)).back fun t=>?_
  simp only[dN];by_cases e:t=J
  ·subst e;exact .inl (by rw[av,av])
  ·grind (splits:=6) (ematch:=4) [aD,tD]
 show(Code.block b _).wp P (fun e a' w'=>∃σ',R n Bw w0 σ' a' w'∧Q e σ') _ _;refine wp_block ?_;refine Ix (fun k a w=>∃B C seen,k=(kv.filter fun p=> !B.contains p.1).length∧Mem Bw w0 ρ φ (bu σ.h idK (some (.mpo .str A (rP kv us B)))) w∧bV n (Fr (own φ σ.h) Bw w) ρ (bu (tD dead σ.s) J (.lit (.pointer (some ⟨r,0,none⟩)))) a∧w.heap[r]? = some (.mapIter (some M) f seen f) ∧
  w.heap[M]? = some (.map C f)∧(∀x∈C.toList,x.born<f)∧∀e∈C.toList,(seen.contains e.born=true↔∃k,k∈B∧e.key=aP .str k)) ?_ (k:=(kv.filter fun p=> !([]:QQ).contains p.1).length)
  ⟨[],r9,#[],rfl,?_,b5,by rw[←rb];exact heap_alloc_new w _,by rw[heap_alloc_old w _ gs];exact b9,hB.2,fun e _=>by simp⟩
 case refine_2 =>
  have e1:rP kv us []=kv:=List.filter_eq_self.2 fun p _=>by simp
  have e2:bu σ.h idK (some (.mpo .str A kv))=σ.h:=by
   grind (splits:=6) (ematch:=4) [av,aD]
  rw[e1,e2];exact mm
 clear b5 mm h5 h1 h2 h3 h4 hv ev hB c8 gp c9 b9 hs;rintro k a w ⟨B,C,seen,rfl,m1,b5,hr,e7,X,bv⟩;have e8:own φ (bu σ.h idK (some (.mpo .str A (rP kv us B))))=own φ σ.h:=Ai s4 rfl rfl;obtain⟨b6,E,h6,e9⟩:xB C f∧C.toList.map (·.key)=(rP kv us B).map (fun p=>aP .str p.1)∧((rP kv us B).map (·.1)).Nodup∧∀i (h':i<(rP kv us B).length),∃e:MapEntry,C[i]? = some e∧MV (Fr (own φ (bu σ.h idK (some (.mpo .str A (rP kv us B))))) Bw w false) A (rP kv us B)[i].2 e.val:=by obtain⟨u,q1,sy,te,kl,rfl,_,h7,⟨_,b6⟩,q2,q3,q4⟩:=m1.ob idK _ (av _ _ _);rw[e5]at q1;cases q1;rw[e7]at h7;cases h7;exact⟨b6,q2,q3,q4⟩
 refine wp_seq (wp_region ?_);simp only[List.size_toArray,List.length_cons,List.length_nil,show List.range (0+1+1)=[0,1]from rfl];rw[wpOps_cons];have h8:a.tmps.getD J undef = .pointer (some ⟨r,0,none⟩):=by have:=b5.sl J;rw[av]at this;simpa only [V]using this
 rcases run_next_at (P:=P) w y5 r M f f seen C f hr e7 X (Nat.le_refl _)with⟨g0,aa⟩ | ⟨e,he,w1,rc,aa⟩
 ·-- all sg looked at
  refine um (d:=some tN) rfl rfl rfl (zJ rfl h8 aa) ?_;have k1:=b5.BP (d:=some tN) (x:= .tup [.p false .bool false]) (v:= .tuple #[.bool false]) (by
   simp only[V,VL,ai];exact⟨_,rfl,rfl,⟨.bool false,by simp,rfl,rfl⟩,trivial⟩) (z nN)
  rw[wpOps_cons];refine fb (d:=some tO) rfl rfl rfl (z nO) k1 (nV k1 (av _ _ _) rfl rfl) fun a2 k2=>?_
  show(Code.seq (.cond (.tmp tO) .skip (.exit b)) _).wp P _ _ _;have ea:a2.tmps.getD tO undef = .bool false:=kL (by have:=k2.sl tO;simp only[dN,av]at this;exact this);refine wp_seq (wp_cond_false ea (wp_exit ?_));simp only[Exit.then,Exit.inBlock,if_true];have h9:∀e∈C.toList,seen.contains e.born=true:=fun e he=>by
   cases hc:seen.contains e.born with
   | true=>rfl
   | false =>
    exfalso
    have:e∈leftOf C seen:=by unfold leftOf;rw[Array.mem_filter];exact⟨by simpa using he,by rw[hc];rfl⟩
    have:=Array.size_pos_of_mem this;omega
  have eb:rP kv us B=rK .str kv us:=by
   refine List.filter_congr fun p hp=>?_
   cases hc:B.contains p.1 with
   | true=>simp
   | false =>
    exfalso
    have ec:p∈rP kv us B:=List.mem_filter.2 ⟨hp,by simp only[hc,Bool.not_false,Bool.or_true]⟩;obtain⟨j,hj⟩:=List.mem_iff_getElem?.1 ec;have q:(C.toList.map (·.key))[j]? = some (aP .str p.1):=by rw[E,List.getElem?_map,hj];rfl
    rw[List.getElem?_map]at q;cases hq:C.toList[j]? with
    | none=>rw[hq]at q;cases q
    | some e =>rw[hq]at q;simp only[Option.map_some,Option.some.injEq]at q;have a6:=List.mem_of_getElem? hq;obtain⟨k',hw,rh⟩:=(bv e a6).1 (h9 e a6);have:p.1=k':=gm (K:= .str) rfl (by rw[←q,rh]);rw[←this]at hw;rw[List.contains_iff_mem.2 hw]at hc;cases hc
  refine⟨⟨tD dead σ.s,bu σ.h idK (some (.mpo .str A (rK .str kv us))),σ.nx,σ.pn⟩,⟨⟨ρ,φ,by have:=m1;rw[eb]at this;exact this,?_,r8⟩,hR.pn⟩,hq _ (Le.refl _)⟩;rw[show own φ (bu σ.h idK (some (.mpo .str A (rK .str kv us))))=own φ σ.h from Ai s4 rfl rfl];refine k2.back fun t=>?_
  simp only[dN];unfold tD;cases hd:dead.contains t with
  | true=>exact .inr rfl
  | false =>
   refine .inl ?_;have ed:∀x,dead.contains x=true→t≠x:=fun x I e=>by rw[e,I]at hd;cases hd
   rw[aD _ _ (ed _ DO),aD _ _ (ed _ DN),aD _ _ (ed _ DI)];simp only[hd]
 ·-- one entry
  have hy:e∈C.toList∧seen.contains e.born=false:=by unfold leftOf at he;simp only[Array.toList_filter,List.mem_filter,Bool.not_eq_true']at he;exact he
  obtain⟨a6,tk⟩:=hy;obtain⟨j0,i1⟩:=List.mem_iff_getElem?.1 a6;obtain⟨p0,i2,cc⟩:=kr (K:= .str) E i1;obtain⟨k,hk⟩:∃k,k=p0.1:=⟨_,rfl⟩;rw[←hk]at cc;have i3:p0∈kv:=(List.mem_filter.1 (List.mem_of_getElem? i2)).1;have i4:B.contains k=false:=by
   grind
  have bx:(kv.filter fun p=> !(k::B).contains p.1).length<(kv.filter fun p=> !B.contains p.1).length:=by refine filter_lt (fun x I=>?_) ⟨p0,i3,by rw[←hk,i4];rfl,by rw[←hk];simp⟩;simp only[List.contains_cons,Bool.not_or,Bool.and_eq_true]at I;exact I.2
  have ch:w1.os=w.os∧w1.tape=w.tape∧w1.output=w.output∧w1.heap=w.heap:=by rcases rc with rfl | rfl <;> exact⟨rfl,rfl,rfl,rfl⟩
  generalize cp:setBlock w1 r (.mapIter (some M) f (seen.push e.born) f)=w2 at aa;have cx:w2.heap=w.heap.setIfInBounds r (.mapIter (some M) f (seen.push e.born) f):=by rw[←cp];show w1.heap.setIfInBounds _ _=_;rw[ch.2.2.2]
  have i5:r<w.heap.size:=(Array.getElem?_eq_some_iff.1 hr).1;have i6:M≠r:=fun e=>D (e ▸ be)
  have ef:w2.heap[r]? = some (.mapIter (some M) f (seen.push e.born) f):=by rw[cx];simp[i5]
  have N:w2.heap[M]? = some (.map C f):=by rw[cx,Array.getElem?_setIfInBounds_ne (Ne.symm i6)];exact e7
  obtain⟨m2,i7⟩:=m1.F3 (w':=w2) (r:=r) (by rw[←cp];exact ch.1) (by rw[←cp];exact ch.2.1) (by rw[←cp];exact ch.2.2.1) (by rw[cx];simp) (fun i _ hi=>by rw[cx,Array.getElem?_setIfInBounds_ne (Ne.symm hi)])
   (by rw[e8];exact D) bs (fun ad v hp=>GB hr ad v hp)
  refine um (d:=some tN) rfl rfl rfl (zJ rfl h8 aa) ?_;have ro:bV n (Fr (own φ (bu σ.h idK (some (.mpo .str A (rP kv us B))))) Bw w2) ρ (bu (tD dead σ.s) J (.lit (.pointer (some ⟨r,0,none⟩)))) a:=b5.mono (fun β a v hv=>i7 β a v (by rw[e8];exact hv)) (fun _ _ h=>h);have k1:=ro.BP (d:=some tN) (x:= .tup [.p false .bool true,.lit e.key,.lit e.val]) (v:= .tuple #[.bool true,e.key,e.val]) (by
   simp only[V,VL,ai];exact⟨_,rfl,rfl,⟨.bool true,by simp,rfl,rfl⟩,⟨e.key,by simp,rfl⟩,⟨e.val,by simp,rfl⟩,trivial⟩) (z nN)
  rw[wpOps_cons];refine fb (d:=some tO) rfl rfl rfl (z nO) k1 (nV k1 (av _ _ _) rfl rfl) fun a2 k2=>?_
  show(Code.seq (.cond (.tmp tO) .skip (.exit b)) _).wp P _ _ _;have ea:a2.tmps.getD tO undef = .bool true:=kL (by have:=k2.sl tO;simp only[dN,av]at this;exact this);refine wp_seq (wp_cond_true ea (wp_skip ?_));show(Code.block b2 _).wp P _ _ _;refine wp_block (wp_seq (wp_region ?_));simp only[List.size_toArray,List.length_cons,List.length_nil,show List.range (0+1+1+1)=[0,1,2]from rfl];rw[wpOps_cons];have i9:a2.tmps.getD J undef = .pointer (some ⟨r,0,none⟩):=by have:=k2.sl J;simp only[dN]at this;rw[aD _ _ (Ne.symm fd),aD _ _ (Ne.symm fa),av]at this;simpa only [V]using this
  refine um (d:=some tE) rfl rfl rfl (E8 rfl i9 (run_entry_at (P:=P) w2 r M f seen C f e ef N a6 b6.1)) ?_;have k3:=k2.BP (d:=some tE) (x:= .tup [.p false .str k,.lit e.val]) (v:= .tuple #[e.key,e.val]) (by
   simp only[V,VL,ai];exact⟨_,rfl,rfl,⟨e.key,by simp,rfl,cc.symm⟩,⟨e.val,by simp,rfl⟩,trivial⟩) (z nE)
  rw[wpOps_cons];refine fb (d:=some tF) rfl rfl rfl (z nF) k3 (nV k3 (av _ _ _) rfl rfl) fun a4 k4=>?_
  rw[wpOps_cons];refine fb (d:=some L) rfl rfl rfl (z nK) k4 (lB k4 (.inr rfl)) fun a5 k5=>?_
  have Y:∀ {s':Nat→ag} {a':Act},bV n (Fr (own φ (bu σ.h idK (some (.mpo .str A (rP kv us B))))) Bw w2) ρ s' a'→s' L = .p false .str k→s' J = .lit (.pointer (some ⟨r,0,none⟩))→(∀t,dead.contains t=false→s' t=σ.s t) →
    bV n (Fr (own φ (bu σ.h idK (some (.mpo .str A (rP kv us B))))) Bw w2) ρ (bu (bu (tD dead σ.s) J (.lit (.pointer (some ⟨r,0,none⟩)))) L (.p false .str k)) a':=fun ei c1 c2 c3=>ei.back fun t=>by
   grind (splits:=6) (ematch:=4) [av,aD,tD]
  have Z:∀ {x t:Nat},dead.contains x=true→dead.contains t=false→t≠x:=fun I ht e=>by rw[e,I]at ht;cases ht
  have k6:=Y k5 (by simp only[dN,av]) (by
   simp only[dN];rw[aD _ _ (Ne.symm fo),aD _ _ (Ne.symm r3),aD _ _ (Ne.symm r2),aD _ _ (Ne.symm fd),aD _ _ (Ne.symm fa),av]) (fun t ht=>by
   simp only[dN];rw[aD _ _ (Z DK ht),aD _ _ (Z DF ht),aD _ _ (Z DE ht),aD _ _ (Z DO ht),aD _ _ (Z DN ht),aD _ _ (Z DI ht)];unfold tD;rw[ht];rfl)
  generalize ej:bu (bu (tD dead σ.s) J (.lit (.pointer (some ⟨r,0,none⟩)))) L (.p false .str k)=sC at k6 Y;have cK:sC L = .p false .str k:=by rw[←ej,av]
  have cI:sC J = .lit (.pointer (some ⟨r,0,none⟩)):=by rw[←ej,aD _ _ (Ne.symm fo),av]
  have cD:∀t,dead.contains t=false→sC t=σ.s t:=fun t ht=>by rw[←ej,aD _ _ (Z DK ht),aD _ _ (Z DI ht)];unfold tD;rw[ht];rfl
  clear k1 k2 k3 k4 k5;show(Code.seq _ (.cond (.tmp tG) _ .skip)).wp P _ _ _;refine wp_seq (wp_region ?_);simp only[List.size_toArray,List.length_cons,List.length_nil,show List.range (0+1+1+1+1)=[0,1,2,3]from rfl];rw[wpOps_cons];refine fb (d:=some d7) rfl rfl rfl (z n7) k6 (lB k6 (.inl rfl)) fun a7 k7=>?_
  rw[cD tU b3.2,s5]at k7;rw[wpOps_cons];refine fb (d:=some d8) rfl rfl rfl (z n8) k7 (lB k7 (.inl rfl)) fun a8 k8=>?_
  rw[show dN sC (some d7) (.mp idU) L = .p false .str k by simp only[dN];rw[aD _ _ g8,cK]]at k8;rw[wpOps_cons];refine fb (d:=some d9) rfl rfl rfl (z n9) k8 (BU m2 (O.find t8) t9 ey rfl (O.find dk) ds (us:=us) (id:=idU) (k:=k) (by rw[aD _ _ b4.2];exact s6) k8 (by simp only[dN];rw[aD _ _ gi,av]) (av _ _ _) rfl) fun a9 k9=>?_
  rw[wpOps_cons];refine fb (d:=some tG) rfl rfl rfl (z nG) k9 (Ik k9 (av _ _ _) rfl) fun rr ek=>?_
  have d4:rr.tmps.getD tG undef = .bool (!((aT (α:=Bool) .str us k).getD false)):=kL (by have:=ek.sl tG;simp only[dN,av]at this;exact this);have el:=Y ek (by simp only[dN];rw[aD _ _ r7,aD _ _ r6,aD _ _ r5,aD _ _ g8,cK]) (by
   simp only[dN];rw[aD _ _ (Ne.symm r4),aD _ _ (Ne.symm fv),aD _ _ (Ne.symm fs),aD _ _ (Ne.symm fr),cI]) (fun t ht=>by
   simp only[dN];rw[aD _ _ (Z DG ht),aD _ _ (Z D9 ht),aD _ _ (Z D8 ht),aD _ _ (Z D7 ht),cD t ht])
  clear k6 k7 k8 k9 ek;have ac:∀e'∈C.toList,((seen.push e.born).contains e'.born=true↔∃k',k'∈k::B∧e'.key=aP .str k'):=fun e' c4=>by
   rw[Array.contains_push];simp only[Bool.or_eq_true,beq_iff_eq];constructor
   ·rintro(h1 | h1)
    ·simp_all
    ·have q1:=find_born e C.toList b6.1 a6;have q2:=find_born e' C.toList b6.1 c4;rw[h1,q1]at q2;cases q2;exact⟨k,List.mem_cons_self ..,cc⟩
   ·rintro⟨k',q1,q2⟩;rcases List.mem_cons.1 q1 with rfl | q1
    ·right
     obtain⟨j',er⟩:=List.mem_iff_getElem?.1 c4;obtain⟨p',ih,c5⟩:=kr (K:= .str) E er;have e1:p'.1=k':=gm (K:= .str) rfl (by rw[←c5,q2]);have e2:((rP kv us B).map (·.1))[j']? = ((rP kv us B).map (·.1))[j0]? :=by rw[List.getElem?_map,List.getElem?_map,ih,i2];simp[e1,hk]
     have e3:j'=j0:=List.getElem?_inj (by rw[List.length_map];exact(List.getElem?_eq_some_iff.1 ih).1) h6 |>.1 e2
     subst e3;rw[i1]at er;cases er;rfl
    ·left
     exact(bv e' c4).2 ⟨k',q1,q2⟩
  have ip:∀ {F:Bool→Addr→Value→Prop} {a':Act},bV n F ρ sC a'→bV n F ρ (bu (tD dead σ.s) J (.lit (.pointer (some ⟨r,0,none⟩)))) a':=fun ei=>ei.back fun t=>by
   grind (splits:=6) (ematch:=4) [av,aD,tD]
  show(Code.cond (.tmp tG) _ .skip).wp P _ _ _;cases hu:(aT (α:=Bool) .str us k).getD false with
  | true =>
   rw[hu]at d4;refine wp_cond_false d4 (wp_skip ?_);simp only[Exit.inBlock,Exit.then];have eb:rP kv us (k::B)=rP kv us B:=List.filter_congr fun p hp=>by
    grind
   exact⟨_,bx,k::B,C,seen.push e.born,rfl,by rw[eb];exact m2,by rw[←e8];exact ip el,ef,N,X,ac⟩
  | false =>
   rw[hu]at d4;refine wp_cond_true d4 (wp_region ?_);simp only[List.size_toArray,List.length_cons,List.length_nil,show List.range (0+1+1+1+1+1+1)=[0,1,2,3,4,5]from rfl];rw[wpOps_cons];refine fb (d:=some e0) rfl rfl rfl (z m0) el (lB el (.inl rfl)) fun to NT=>?_
   rw[cD tS b3.1,s1]at NT;rw[wpOps_cons];refine fb (d:=some e1) rfl rfl rfl (z qr) NT (DJ NT (av _ _ _) rfl) fun ts N9=>?_
   rw[wpOps_cons];refine fb (d:=some e2) rfl rfl rfl (z r1) N9 (wR N9 (av _ _ _) rfl (O.find t1) t2 t3) fun tu is=>?_
   rw[wpOps_cons];refine fb (d:=some e3) rfl rfl rfl (z m3) is (zM m2 is (av _ _ _) (by rw[aD _ _ (Ne.symm b4.1)];exact sF) rfl (O.find t4) (by rw[Nat.zero_add];exact s3)) fun ty it=>?_
   rw[wpOps_cons];refine fb (d:=some e4) rfl rfl rfl (z m4) it (lB it (.inl rfl)) fun j1 d5=>?_
   rw[show dN (dN (dN (dN sC (some e0) (.adr idF 0 sz 0)) (some e1) (.adr idF 0 sz 0)) (some e2) (.adr idF 0 sz (0+off))) (some e3) (.mp idK) L = .p false .str k by simp only[dN];rw[aD _ _ dd,aD _ _ gd,aD _ _ gb,aD _ _ g9,cK]]at d5;have rs:j1.tmps.getD e3 undef = .map (some M):=by have:=d5.sl e3;simp only[dN]at this;rw[aD _ _ gj,av]at this;simp only[V]at this;have:=this.1;rw[e5]at this;exact(Option.some.inj this).symm
   have rt:j1.tmps.getD e4 undef=aP .str k:=nS (K:= .str) rfl rfl (by have:=d5.sl e4;simp only[dN,av]at this;exact this);have ru:C.toList.map (·.key)=((rP kv us B).map (·.1)).map (aP .str):=by rw[E,List.map_map];rfl
   obtain⟨j,e',hf,hj,rx⟩:∃j e',(Instr.findKey kt (aP .str k) C.toList).run P w2 = .ok (some (j,e'.val)) w2∧C.toList[j]? = some e'∧e'.key=aP .str k:=by
    rcases ew.find k C.toList ((rP kv us B).map (·.1)) w2 ru with⟨_,h2⟩ | h2
    ·exact absurd cc (h2 e a6)
    ·exact h2
   rw[wpOps_cons];refine um (d:=none) rfl rfl rfl (Cj rfl rs rt hm N (ew.check _ _ _) hf) ?_;obtain⟨p,hp,c5⟩:=kr (K:= .str) E hj;have ec:p.1=k:=gm (K:= .str) rfl (by rw[←c5,rx]);have j2:(rP kv us B).eraseIdx j=rP kv us (k::B):=by
    rw[erase_filter h6 hp ec];unfold rP;rw[List.filter_filter];refine List.filter_congr fun x _=>?_
    by_cases I:x.1=k
    ·rw[I,hu];simp
    ·simp_all
   have d6:(C.eraseIdxIfInBounds j).toList=C.toList.eraseIdx j:=by simp
   have c6:∀x∈(C.eraseIdxIfInBounds j).toList,x∈C.toList:=fun x I=>List.mem_of_mem_eraseIdx (by rw[←d6];exact I)
   have hg:=gY w2 M (.map (C.eraseIdxIfInBounds j) f);have j4:=m2.put (some idK) idK (.mpo .str A (rP kv us (k::B))) (.map (some M)) (φ idK) (some M) hg (fun x e=>⟨idK,_,rfl,av _ _ _,rfl,by cases e;exact e6⟩) (.inr ⟨rfl,e5⟩)
    (fun _ x I=>Nat.lt_of_lt_of_le (m2.lt idK _ x (av _ _ _) rfl I) hg.size) (fun _ x I=> .inr ⟨idK,_,rfl,av _ _ _,rfl,I⟩) (fun F' u1 hF sj=>by
     refine⟨M,_,f,rfl,e6,(heap_set N).1,⟨hK,?_,fun x I=>X x (c6 x I)⟩,?_,?_,fun i hi=>?_⟩
     ·rw[d6,Go.ChangeMaps.map_eraseIdx];exact List.Nodup.eraseIdx _ b6.1
     ·rw[d6,Go.ChangeMaps.map_eraseIdx,E,←j2,Go.ChangeMaps.map_eraseIdx]
     ·grind
     ·have c7:(rP kv us (k::B))[i]? = some (rP kv us (k::B))[i]:=List.getElem?_eq_getElem hi;generalize (rP kv us (k::B))[i]=x at c7;rw[←j2,List.getElem?_eraseIdx]at c7;have get:∀i',(rP kv us B)[i']? = some x→∃e:MapEntry,C.toList[i']? = some e∧MV (F' false) A x.2 e.val:=fun i' I=>by have bx:=(List.getElem?_eq_some_iff.1 I).1;obtain⟨e,q1,q2⟩:=e9 i' bx;rw[List.getElem?_eq_getElem bx]at I;simp only[Option.some.injEq]at I;rw[I]at q2;exact⟨e,by rw[Array.getElem?_toList];exact q1,ai.mono (fun a v hv=>hF _ _ _ (i7 _ _ _ hv)) (fun _ _ h=>h) q2.1,q2.2⟩
      rw[←Array.getElem?_toList,d6,List.getElem?_eraseIdx];split at c7
      ·rename_i eu;rw[if_pos eu];exact get i c7
      ·rename_i eu;rw[if_neg eu];exact get (i+1) c7)
   obtain⟨jx,kc,-⟩:=j4;have s7:bu ρ idK (some (.map (some M)))=ρ:=by
    grind (splits:=6) (ematch:=4) [av,aD]
   have kk:bu φ idK (φ idK)=φ:=by
    grind (splits:=6) (ematch:=4) [av,aD]
   have eh:bu (bu σ.h idK (some (.mpo .str A (rP kv us B)))) idK (some (.mpo .str A (rP kv us (k::B))))=bu σ.h idK (some (.mpo .str A (rP kv us (k::B)))):=by
    grind (splits:=6) (ematch:=4) [av,aD]
   rw[bf,s7,kk,eh]at jx;rw[bf,kk,eh]at kc;have s8:=Y d5 (by simp only[dN];rw[aD _ _ dt,aD _ _ dd,aD _ _ gd,aD _ _ gb,aD _ _ g9,cK]) (by
    simp only[dN];rw[aD _ _ (Ne.symm g7),aD _ _ (Ne.symm g6),aD _ _ (Ne.symm g5),aD _ _ (Ne.symm g1),aD _ _ (Ne.symm fw),cI]) (fun t ht=>by
    simp only[dN];rw[aD _ _ (Z E4 ht),aD _ _ (Z E3 ht),aD _ _ (Z E2 ht),aD _ _ (Z E1 ht),aD _ _ (Z E0 ht),cD t ht])
   show Exit.inBlock b2 _ .normal _ _;simp only[Exit.inBlock,Exit.then];refine⟨_,bx,k::B,C.eraseIdxIfInBounds j,seen.push e.born,rfl,jx,?_,?_,(heap_set N).1,fun x I=>X x (c6 x I),fun e' c4=>ac e' (c6 e' c4)⟩
   ·have:=(ip s8).mono kc (fun _ _ h=>h);rw[show own φ (bu σ.h idK (some (.mpo .str A (rP kv us (k::B)))))=own φ σ.h from Ai s4 rfl rfl]at this;exact this
   ·show(w2.heap.setIfInBounds M _)[r]? = _;rw[(heap_set N).2 r (Ne.symm i6)];exact ef
end
end Go.Tv
