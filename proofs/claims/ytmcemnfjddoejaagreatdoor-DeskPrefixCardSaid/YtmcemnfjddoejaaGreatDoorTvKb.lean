/- Calls that are handed objects of the caller's own: what they come to. -/
import Derived.Test.YtmcemnfjddoejaaGreatDoorTvKa
namespace Go.Tv
open Go Go.RowKit
section
variable{P:Program}{Bw:Nat→Prop}{w0:b9 P}{ρ:Nat→Option Value}{φ:Nat→Nat→Prop}{h:Nat→Option Obj}{w:World}{new:Nat}{g:List Nat}
theorem rK{i:Nat}{o:Obj}(hi:less g h i=some o):h i=some o∧i ∉ g:=by
 unfold less at hi;split at hi
 ·cases hi
 ·rename_i c;exact⟨hi,by simpa using c⟩
def rC(φ:Nat→Nat→Prop)(h:Nat→Option Obj)(g:List Nat)(k:Nat):Prop:=∃id o,id∈g∧h id=some o∧o.live=true∧φ id k
theorem gE{f:Nat→Nat}{o:Obj}:(m7 f o).live=o.live:=by
 cases o with
 | mat e j A c hole=>cases hole <;> rfl
 | _=>rfl
theorem Fu{k:Nat}(c:rC φ h g k):own φ h k:=by
 obtain⟨id,o,_,e,f,j⟩:=c;exact⟨id,o,e,f,j⟩
def eA(m:Mem Bw w0 ρ φ h w)(g:List Nat):b9 P :=
 ⟨w,fun k=>k<w.heap.size∧¬rC φ h g k,fun _ c=>c.1,fun i=>if i<g.length then ρ (g.getD i 0)else none,m.kp.laid,
  fun k c=>⟨Nat.lt_of_lt_of_le (w0.lt k (w0.lk k c)) m.kp.size,fun e=>m.ow k (Fu e) (w0.lk k c)⟩⟩
theorem A7(m:Mem Bw w0 ρ φ h w){x y:ag}(c:yZ g (less g h) x=some y){v:Value}(j:V (Fr (own φ h) Bw w) ρ x v)
  {F':Bool→Addr→Value→Prop} (L:mM φ h Bw w (less g h) F'):V F' (eA m g).pM y v:=by
 unfold yZ at c;split at c
 ·rename_i k;cases c;simp only[Bool.and_eq_true,List.all_eq_true,List.contains_eq_mem,decide_eq_true_eq]at k;refine JC (ρ:=ρ) (fun i f=> ?_) (V.mono L.hA (fun _ _ h=>h) j);have:=k.1 i f;simp only[eA];rw[if_pos (HW this),AP this]
 ·exact V.mono (fun _ _ _ h=>h) (fun _ _ e=>by cases e) (wR m L c j)
theorem lQ(m:Mem Bw w0 ρ φ h w){F':Bool→Addr→Value→Prop}(L:mM φ h Bw w (less g h) F'):
  ∀ {xs ys:List ag},tc g (less g h) xs=some ys→∀ {c:List Value},iA (Fr (own φ h) Bw w) ρ xs c→iA F' (eA m g).pM ys c
 | [],ys,e,c,j=>by
  cases e;cases c with
  | nil=>trivial
  | cons _ _=>exact j.elim
 | x::xs,ys,e,c,j=>by
  simp only[tc]at e;split at e
  ·rename_i y k p q;cases e;cases c with
   | nil=>exact j.elim
   | cons v c=>exact⟨A7 m p j.1 L,lQ m L q j.2⟩
  ·cases e
theorem ri(m:Mem Bw w0 ρ φ h w)(hn:g.Nodup){hin:List (Nat×Obj)}(hi:jR g h 0 g=some hin):
  Mem (qe φ (less g h) Bw) (eA m g) (eA m g).pM (fun i=>φ (g.getD i 0)) (fun i=>look hin i) w ∧
  mM φ h Bw w (less g h) (Fr (own (fun i=>φ (g.getD i 0)) (fun i=>look hin i)) (qe φ (less g h) Bw) w):=by
 have c:∀i o,look hin i=some o→i<g.length∧∃B,h (g.getD i 0)=some B∧o=m7 (H4 g) B∧∀k∈qa B,k∈g:=fun i o e=>by obtain⟨id,B,_,z,A,I,X⟩:=xG hi e;simp only[Nat.sub_zero]at z;have p:=(List.getElem?_eq_some_iff.1 z).1;refine⟨p,B,?_,I,X⟩;rw[List.getD_eq_getElem?_getD,z];exact A
 have M:∀i,i<g.length→g.getD i 0∈g:=fun i p=>by rw[List.getD_eq_getElem?_getD,List.getElem?_eq_getElem p];exact List.getElem_mem p
 have J:∀k,own (fun i=>φ (g.getD i 0)) (fun i=>look hin i) k→rC φ h g k:=fun k ⟨i,o,C,z,A⟩=>by obtain⟨p,B,D,R,_⟩:=c i o C;subst R;rw[gE]at z;exact⟨_,B,M i p,D,z,A⟩
 have N:∀k,rC φ h g k→own φ h k:=fun k ⟨id,o,_,z,A,I⟩=>⟨id,o,z,A,I⟩
 have L:∀k,own φ (less g h) k→own φ h k∧¬rC φ h g k:=fun k ⟨id,o,C,z,A⟩=>by obtain⟨D,R⟩:=rK C;refine⟨⟨id,o,D,z,A⟩,fun⟨Y,B,Z,s2,s3,s4⟩=> ?_⟩;have:=m.dj id Y o B k D z s2 s3 A s4;subst this;exact R Z
 have hF:∀β a v,Fr (own φ h) Bw w β a v→Fr (own (fun i=>φ (g.getD i 0)) (fun i=>look hin i)) (qe φ (less g h) Bw) w β a v:=fun β a v V =>
  ⟨fun e=>V.1 (N _ (J _ e)),fun e E=>E.elim (fun q=>V.1 (L _ q).1) (V.2.1 e),V.2.2⟩
 refine⟨⟨fun i o e=> ?_,fun i o k C z A=> ?_,fun i j o B k C z A I X q6=> ?_,fun k E=> ?_,fun k E a1=>a1.2 (J k E),Kept.refl _,fun _ _ e=>e⟩,⟨fun i o e=>(rK e).1,hF,fun id o a v C z A I=> ?_⟩⟩
 ·obtain⟨p,B,D,rfl,r3⟩:=c i o e;obtain⟨u,Z,s2⟩:=m.ob _ _ D;refine⟨u,by simp only[eA];rw[if_pos p];exact Z,?_⟩;refine Jf (ρ:=ρ) (fun j hj=> ?_) (OR.mono hF (fun _ _ h=>h) (fun _ h=>h) (fun _ _ _=>rfl) s2);have:=r3 j hj;simp only[eA];rw[if_pos (HW this),AP this]
 ·obtain⟨p,B,D,rfl,r3⟩:=c i o C;rw[gE]at z;exact m.lt _ _ k D z A
 ·obtain⟨p,o1,D,rfl,_⟩:=c i o C;obtain⟨O,o2,a2,rfl,_⟩:=c j B A;rw[gE]at z I;have:=m.dj _ _ _ _ k D z a2 I X q6;rw[←px hn p,←px hn O,this]
 ·rcases E with E | E
  ·obtain⟨C,z⟩:=L k E;exact⟨m.qS C,z⟩
  ·have:=m.bw k E;exact⟨Nat.lt_of_lt_of_le (w0.lt k this) m.kp.size,fun e=>m.ow k (N k e) this⟩
 ·obtain⟨D,R⟩:=rK C;refine⟨fun e=> ?_,fun e=>(by cases e),World.gH I⟩;exact(L _ ⟨id,o,C,z,A⟩).2 (J _ e)
theorem rv(m:Mem Bw w0 ρ φ h w)(hn:g.Nodup)(aa:∀j,j<8→ρ (new+j)=none)(hg:∀i∈g,∃o,h i=some o){hout:List (Nat×Obj)}{r:ag}(ad:ur g hout r=true)
  {a3:Nat→Option Value} {N:Nat→Nat→Prop} {w':World} (m':Mem (qe φ (less g h) Bw) (eA m g) a3 N (fun i=>look hout i) w') {v:Value}
  (hv:V (Fr (own N (fun i=>look hout i)) (qe φ (less g h) Bw) w') a3 r v) :
  aE Bw w0 ρ φ h w new (lP (rZ g new) r) (vb g new hout) v w':=by
 simp only[ur,Bool.and_eq_true,List.all_eq_true,decide_eq_true_eq]at ad;obtain⟨⟨⟨⟨_,k1⟩,k2⟩,k3⟩,k4⟩:=ad;have b1:=kr k1;have a9:∀i∈g,∃u,ρ i=some u:=fun i hi=>by obtain⟨o,ho⟩:=hg i hi;obtain⟨u,q,_⟩:=m.ob i o ho;exact⟨u,q⟩
 have a6:∀i∈g,¬(new≤i∧i<new+8):=fun i hi ⟨e1,e2⟩=>by obtain⟨u,q⟩:=a9 i hi;have:=aa (i - new) (by omega);rw[show new+(i - new)=i by omega,q]at this;cases this
 have a2:∀i,i<g.length→g.getD i 0∈g:=fun i O=>by rw[List.getD_eq_getElem?_getD,List.getElem?_eq_getElem O];exact List.getElem_mem O
 let Y:Nat→Option Value:=fun i=>if new≤i∧i<new+8 then a3 (g.length+(i - new))else ρ i
 let E:Nat→Nat→Prop:=fun i=>if new≤i∧i<new+8 then N (g.length+(i - new))else if i∈g then N (H4 g i)else φ i
 have a7:∀i u,ρ i=some u→Y i=some u:=fun i u hi=>by
  simp only[Y];split
  ·rename_i hc;have:=aa (i - new) (by omega);rw[show new+(i - new)=i by omega,hi]at this;cases this
  ·exact hi
 have a4:∀i,i<g.length+8→Y (rZ g new i)=a3 i:=fun i hi=>by
  unfold rZ;split
  ·rename_i O;have X:=a2 i O;simp only[Y];rw[if_neg (a6 _ X)];obtain⟨u,q⟩:=a9 _ X;have:=m'.pM i u (by simp only[eA];rw[if_pos O];exact q);rw[q,this]
  ·simp only[Y];rw[if_pos (by omega)];congr 1;omega
 have A:∀i,i<g.length+8→E (rZ g new i)=N i:=fun i hi=>by
  unfold rZ;split
  ·rename_i O;have X:=a2 i O;simp only[E];rw[if_neg (a6 _ X),if_pos X,px hn O]
  ·simp only[E];rw[if_pos (by omega)];congr 1;omega
 have b2:∀i j,i<g.length+8→j<g.length+8→rZ g new i=rZ g new j→i=j:=fun i j hi hj e=>by
  unfold rZ at e;split at e <;> split at e
  ·rename_i X h2;rw[←px hn X,←px hn h2,e]
  ·rename_i X h2;exact absurd ⟨by omega,by omega⟩ (a6 _ (a2 i X))
  ·rename_i X h2;exact absurd ⟨by omega,by omega⟩ (a6 _ (a2 j h2))
  ·omega
 have B:∀id o,apply (vb g new hout) h id=some o→(id ∉ g∧h id=some o∧¬(new≤id∧id<new+8)) ∨
   ∃i z,look hout i=some z∧i<g.length+8∧(∀j∈qa z,j<g.length+8)∧zG z=true∧id=rZ g new i∧o=m7 (rZ g new) z:=fun id o e=>by
  rcases xp e with hm | ⟨M,c⟩
  ·right
   simp only[vb,List.mem_append,List.mem_map]at hm;rcases hm with⟨i,_,e⟩ | ⟨⟨i,z⟩,hm,e⟩
   ·simp at e
   ·simp only[Prod.mk.injEq,Option.some.injEq]at e;have:=k4 _ hm;exact⟨i,z,uy b1 hm,this.1.2,this.2,this.1.1,e.1.symm,e.2.symm⟩
  ·left
   refine⟨fun hi=>c (id,none) (by simp[vb,hi]) rfl,M,fun hc=> ?_⟩;obtain⟨u,D,_⟩:=m.ob id o M;have:=aa (id - new) (by omega);rw[show new+(id - new)=id by omega,D]at this;cases this
 have C:∀id,id ∉ g→¬(new≤id∧id<new+8)→E id=φ id:=fun id X h2=>by simp only[E];rw[if_neg h2,if_neg X]
 have a8:∀k,rC φ h g k→own φ h k:=fun k ⟨id,o,_,c,p,R⟩=>⟨id,o,c,p,R⟩
 have I:∀i z k,look hout i=some z→z.live=true→N i k→w.heap.size≤k∨rC φ h g k:=fun i z k M c p=>by
  have:=m'.ow k ⟨i,z,M,c,p⟩;by_cases hk:k<w.heap.size
  ·exact .inr (Classical.byContradiction fun hh=>this ⟨hk,hh⟩)
  ·exact .inl (by omega)
 have Z:∀id o k,id ∉ g→h id=some o→o.live=true→φ id k→k<w.heap.size∧¬rC φ h g k:=fun id o k M c p R=>by refine⟨m.lt id o k c p R,fun⟨a1,z,s1,s2,s3,s4⟩=> ?_⟩;have:=m.dj id a1 o z k c p s2 s3 R s4;subst this;exact M s1
 have J:∀k,k<w.heap.size→¬rC φ h g k→w'.heap[k]? = w.heap[k]? :=fun k X h2=>m'.kp.block k ⟨X,h2⟩
 have a5:∀k,own E (apply (vb g new hout) h) k→(∃id o,id ∉ g∧h id=some o∧o.live=true∧φ id k)∨own N (fun i=>look hout i) k:=fun k ⟨id,o,M,c,p⟩=>by
  rcases B id o M with⟨D,L,r3⟩ | ⟨i,z,D,L,r3,r4,rfl,rfl⟩
  ·rw[C id D r3]at p;exact .inl ⟨id,o,D,L,c,p⟩
  ·rw[A i L]at p;rw[gE]at c;exact .inr ⟨i,z,D,c,p⟩
 have hF:∀β a v,Fr (own φ h) Bw w β a v→Fr (own E (apply (vb g new hout) h)) Bw w' β a v:=fun β a v=>Fr.Js (fun k X h2=>J k X fun e=>h2 (a8 k e)) (fun k hk=>by
  rcases a5 k hk with⟨id,o,_,c,p,R⟩ | ⟨i,z,M,c,p⟩
  ·exact .inl ⟨id,o,c,p,R⟩
  ·exact(I i z k M c p).elim .inr (fun e=> .inl (a8 k e))) β a v
 have ax:∀a v,Fr (own N (fun i=>look hout i)) (qe φ (less g h) Bw) w' false a v→∀β,Fr (own E (apply (vb g new hout) h)) Bw w' β a v:=fun a v hh β=>by
  refine⟨fun e=> ?_,fun _ hb=>hh.2.1 rfl (.inr hb),hh.2.2⟩;rcases a5 _ e with⟨id,o,M,c,p,R⟩ | q
  ·exact hh.2.1 rfl (.inl ⟨id,o,by unfold less;rw[if_neg (by simpa using M)];exact c,p,R⟩)
  ·exact hh.1 q
 have b3:(eA m g).w=w:=rfl;refine⟨Y,E,⟨fun id o e=> ?_,fun id o k M c p=> ?_,fun id a1 o z k M c p R q5 q6=> ?_,m.bw,fun k hk ac=> ?_,?_,fun i u hi=>a7 i u (m.pM i u hi)⟩,hF,a7,fun i u hi=> ?_,?_⟩
 ·rcases B id o e with⟨D,L,r3⟩ | ⟨i,z,D,L,r3,r4,rfl,rfl⟩
  ·obtain⟨u,s1,s2⟩:=m.ob id o L;refine⟨u,a7 id u s1,?_⟩;rw[C id D r3];exact OR.mono hF a7 (fun _ h=>h) (fun hl k hk=>by
    obtain⟨t1,t2⟩:=Z id o k D L hl hk;exact J k t1 t2) s2
  ·obtain⟨u,s1,s2⟩:=m'.ob i z D;refine⟨u,by rw[a4 i L];exact s1,?_⟩;rw[A i L];refine Jf (ρ:=a3) (fun j hj=>a4 j (r3 j hj)) ?_;exact OR.mono (fun β a v hh=>ax a v hh β) (fun _ _ h=>h) (fun _ h=>h) (fun _ _ _=>rfl) (HG r4 s2)
 ·rcases B id o M with⟨D,L,r3⟩ | ⟨i,z,D,L,r3,r4,rfl,rfl⟩
  ·rw[C id D r3]at p;exact Nat.lt_of_lt_of_le (m.lt id o k L c p) m'.kp.size
  ·rw[A i L]at p;rw[gE]at c;exact m'.lt i z k D c p
 ·rcases B id o M with⟨D,L,r3⟩ | ⟨i,o1,D,L,r3,r4,rfl,rfl⟩ <;> rcases B a1 z p with⟨s1,s2,s3⟩ | ⟨j,o2,s1,s2,s3,s4,rfl,rfl⟩
  ·rw[C id D r3]at q5;rw[C a1 s1 s3]at q6;exact m.dj id a1 o z k L c s2 R q5 q6
  ·rw[C id D r3]at q5;rw[A j s2]at q6;rw[gE]at R;obtain⟨t1,t2⟩:=Z id o k D L c q5;rcases I j o2 k s1 R q6 with t3 | t3
   ·omega
   ·exact absurd t3 t2
  ·rw[A i L]at q5;rw[C a1 s1 s3]at q6;rw[gE]at c;obtain⟨t1,t2⟩:=Z a1 z k s1 s2 R q6;rcases I i o1 k D c q5 with t3 | t3
   ·omega
   ·exact absurd t3 t2
  ·rw[A i L]at q5;rw[A j s2]at q6;rw[gE]at c R;rw[m'.dj i j o1 o2 k D c s1 R q5 q6]
 ·rcases a5 k hk with⟨id,o,_,c,p,R⟩ | ⟨i,z,M,c,p⟩
  ·exact m.ow k ⟨id,o,c,p,R⟩ ac
  ·rcases I i z k M c p with t | t
   ·have:=w0.lt k ac;have:=m.kp.size;omega
   ·exact m.ow k (a8 k t) ac
 ·refine⟨m'.kp.os.trans m.kp.os,m'.kp.tape.trans m.kp.tape,m'.kp.output.trans m.kp.output,Nat.le_trans m.kp.size m'.kp.size,fun k hk=> ?_⟩;rw[J k (Nat.lt_of_lt_of_le (w0.lt k hk) m.kp.size) (fun e=>m.ow k (a8 k e) hk)];exact m.kp.block k hk
 ·simp only[Y]at hi;split at hi
  ·rename_i hc;exact .inr ⟨i - new,by omega,by omega⟩
  ·exact .inl hi
 ·exact JC (ρ:=a3) (fun i hi=>a4 i (k3 i hi)) (V.mono (fun β a v hh=>ax a v hh β) (fun _ _ h=>h) (vq k2 hv))
theorem pS:∀ {l:List Nat} {i:Nat} {hin:List (Nat×Obj)},jR g h i l=some hin→∀id∈l,∃o,h id=some o
 | [],_,_,_,id,c=>by cases c
 | x::r,i,hin,e,id,c=>by
  simp only[jR]at e;split at e
  ·rename_i j k;split at e
   ·split at e
    ·rename_i m hl;rcases List.mem_cons.1 c with rfl | c
     ·exact⟨j,k⟩
     ·exact pS hl id c
    ·cases e
   ·cases e
  ·cases e
theorem GA(m:Mem Bw w0 ρ φ h w)(Y:∀j,j<8→ρ (new+j)=none){o:Oper}{a:Act}{fo:Operand}{q:Array Operand}{Z:Array TypeId}(ho:o.op = .call { callee:= .value fo,args:=q,argTypes:=Z })
  {f:FuncId} {z:List ag} (hf:V (Fr (own φ h) Bw w) ρ (.fn f z) (a.eval fo)) {xs:List ag} (hx:iA (Fr (own φ h) Bw w) ρ xs (q.toList.map a.eval)) {args:List ag} (hl:tc g (less g h) (xs++z)=some args)
  {hin:List (Nat×Obj)} (hi:jR g h 0 g=some hin) {r:ag} {hout:List (Nat×Obj)} (D:ur g hout r=true)
  (hp:ff P f args hin r hout):Good P o a w (aE Bw w0 ρ φ h w new (lP (rZ g new) r) (vb g new hout)):=by
 simp only[V]at hf;obtain⟨X,a1,a2,E⟩:=hf;obtain⟨fn,a3,I,B⟩:=hp.fn;have J:∀(O:List ag) (p:List Value),p.length=O.length→VL (Fr (own φ h) Bw w) ρ O (fun k u=>p[k]? = some u)→iA (Fr (own φ h) Bw w) ρ O p:=fun O=>by
  induction O with
  | nil=>intro p hl _;cases p with | nil=>trivial | cons _ _=>simp at hl
  | cons c O ih =>
   intro p hl C;cases p with
   | nil=>simp at hl
   | cons u p =>simp only[VL]at C;obtain⟨⟨u',q1,q2⟩,q3⟩:=C;simp at q1;subst q1;exact⟨q2,ih p (by simpa using hl) (VL.mono (fun _ _ _ h=>h) (fun _ _ h=>h) (fun k u hk=>by simpa using hk) q3)⟩
 have R:∀(xs:List ag) (p:List Value),iA (Fr (own φ h) Bw w) ρ xs p→iA (Fr (own φ h) Bw w) ρ (xs++z) (p++X.toList):=fun xs=>by
  induction xs with
  | nil =>
   intro p C;cases p with
   | nil=>exact J z X.toList (by simpa using a2) (VL.mono (fun _ _ _ h=>h) (fun _ _ h=>h) (fun k u hk=>by simpa using hk) E)
   | cons _ _=>exact C.elim
  | cons x xs ih =>
   intro p C;cases p with
   | nil=>exact C.elim
   | cons u p=>exact⟨C.1,ih p C.2⟩
 have hn:g.Nodup:=by simp only[ur,Bool.and_eq_true]at D;exact kr D.1.1.1.1
 obtain⟨mc,L⟩:=ri m hn hi;have M:=lQ m L hl (R xs _ hx);have N:=hp.calls (qe φ (less g h) Bw) (eA m g) (fun i=>φ (g.getD i 0)) (q.map a.eval++X) mc (by rw[Array.toList_append,Array.toList_map];exact M) (fun i u e=>by
  rw[ku hi];simp only[eA]at e;split at e
  ·assumption
  ·cases e)
 refine Good.sH (f:=f) (args:=q.map a.eval++X) (w':=w) ?_ (N.mono fun e w' ⟨v,a5,a6,he,a4,C⟩=>⟨v,he,?_⟩)
 ·have n1:¬fn.name = "runtime.NumGoroutine" :=by simpa using I
  have n2:¬fn.body=none:=fun e=>by rw[e]at B;cases B
  simp[execOp,ho,resolve,a1,Deferred.ofValue,invoke,callFunc,a3,n1,n2]
 ·exact rv m hn Y (pS hi) D a4 C
theorem H9(m:Mem Bw w0 ρ φ h w)(Y:∀j,j<8→ρ (new+j)=none){o:Oper}{a:Act}{fo:Operand}{q:Array Operand}{Z:Array TypeId}(ho:o.op = .call { callee:= .value fo,args:=q,argTypes:=Z })
  {f:FuncId} {z:List ag} (hf:V (Fr (own φ h) Bw w) ρ (.fn f z) (a.eval fo)) {B:List ag} (hx:iA (Fr (own φ h) Bw w) ρ B (q.toList.map a.eval)) {args:List ag} (hl:tc g (less g h) (B++z)=some args)
  {hin:List (Nat×Obj)} (hi:jR g h 0 g=some hin) (D:ur g [] .unk=true) {x:Value}
  (hp:jP P f args hin x):Km P o a w x (fun w'=>∃v,aE Bw w0 ρ φ h w new .unk (vb g new []) v w'):=by
 simp only[V]at hf;obtain⟨X,a1,a2,E⟩:=hf;obtain⟨fn,a3,I,A⟩:=hp.fn;have J:∀(O:List ag) (p:List Value),p.length=O.length→VL (Fr (own φ h) Bw w) ρ O (fun k u=>p[k]? = some u)→iA (Fr (own φ h) Bw w) ρ O p:=fun O=>by
  induction O with
  | nil=>intro p hl _;cases p with | nil=>trivial | cons _ _=>simp at hl
  | cons c O ih =>
   intro p hl C;cases p with
   | nil=>simp at hl
   | cons u p =>simp only[VL]at C;obtain⟨⟨u',q1,q2⟩,q3⟩:=C;simp at q1;subst q1;exact⟨q2,ih p (by simpa using hl) (VL.mono (fun _ _ _ h=>h) (fun _ _ h=>h) (fun k u hk=>by simpa using hk) q3)⟩
 have R:∀(B:List ag) (p:List Value),iA (Fr (own φ h) Bw w) ρ B p→iA (Fr (own φ h) Bw w) ρ (B++z) (p++X.toList):=fun B=>by
  induction B with
  | nil =>
   intro p C;cases p with
   | nil=>exact J z X.toList (by simpa using a2) (VL.mono (fun _ _ _ h=>h) (fun _ _ h=>h) (fun k u hk=>by simpa using hk) E)
   | cons _ _=>exact C.elim
  | cons x B ih =>
   intro p C;cases p with
   | nil=>exact C.elim
   | cons u p=>exact⟨C.1,ih p C.2⟩
 have hn:g.Nodup:=by simp only[ur,Bool.and_eq_true]at D;exact kr D.1.1.1.1
 obtain⟨mc,L⟩:=ri m hn hi;have M:=lQ m L hl (R B _ hx);have N:=hp.calls (qe φ (less g h) Bw) (eA m g) (fun i=>φ (g.getD i 0)) (q.map a.eval++X) mc (by rw[Array.toList_append,Array.toList_map];exact M) (fun i u e=>by
  rw[ku hi];simp only[eA]at e;split at e
  ·assumption
  ·cases e)
 refine Km.sH (f:=f) (args:=q.map a.eval++X) (w':=w) ?_ (N.mono fun e w' ⟨a5,a6,he,a4⟩=>⟨he,undef,?_⟩)
 ·have n1:¬fn.name = "runtime.NumGoroutine" :=by simpa using I
  have n2:¬fn.body=none:=fun e=>by rw[e]at A;cases A
  simp[execOp,ho,resolve,a1,Deferred.ofValue,invoke,callFunc,a3,n1,n2]
 ·exact rv m hn Y (pS hi) (r:= .unk) D a4 trivial
end
end Go.Tv
