/- Calls that are handed objects of the caller's own: what they come to. -/
import Derived.Test.YtbedjpdfkmfplaaGreatDoorTvKa
namespace Go.Tv
open Go Go.RowKit
section
variable{P:Program}{Bw:Nat→Prop}{w0:Base P}{ρ:Nat→Option Value}{φ:Nat→Nat→Prop}{h:Nat→Option Obj}{w:World}{new:Nat}{g:List Nat}
theorem zM{i:Nat}{o:Obj}(hi:less g h i=some o):h i=some o∧i ∉ g:=by
 unfold less at hi
 split at hi
 ·cases hi
 ·rename_i hc
  exact⟨hi,by simpa using hc⟩
def B2(φ:Nat→Nat→Prop)(h:Nat→Option Obj)(g:List Nat)(k:Nat):Prop:=∃id o,id∈g∧h id=some o∧o.live=true∧φ id k
theorem iP{f:Nat→Nat}{o:Obj}:(qY f o).live=o.live:=by
 cases o with
 | mat e e2 A xss hole=>cases hole <;> rfl
 | _=>rfl
theorem aF3{k:Nat}(hk:B2 φ h g k):own φ h k:=by
 obtain⟨id,o,_,h1,h2,h3⟩:=hk
 exact⟨id,o,h1,h2,h3⟩
def fR(m:Mem Bw w0 ρ φ h w)(g:List Nat):Base P :=
 ⟨w,fun k=>k<w.heap.size∧¬B2 φ h g k,fun _ hk=>hk.1,fun i=>if i<g.length then ρ (g.getD i 0)else none,m.kp.laid,
  fun k hk=>⟨Nat.lt_of_lt_of_le (w0.lt k (w0.lk k hk)) m.kp.size,fun hm=>m.ow k (aF3 hm) (w0.lk k hk)⟩⟩
theorem aDj(m:Mem Bw w0 ρ φ h w){x y:AVal}(hd:aBc g (less g h) x=some y){v:Value}(hv:V (Fr (own φ h) Bw w) ρ x v)
  {F':Bool→Addr→Value→Prop} (L:Lends φ h Bw w (less g h) F'):V F' (fR m g).pin y v:=by
 unfold aBc at hd
 split at hd
 ·rename_i hc
  cases hd
  simp only[Bool.and_eq_true,List.all_eq_true,List.contains_eq_mem,decide_eq_true_eq]at hc
  refine aJ7 (ρ:=ρ) (fun i hi'=> ?_) (V.mono L.hA (fun _ _ h=>h) hv)
  have:=hc.1 i hi'
  simp only[fR]
  rw[if_pos (aH8 this),aCZ this]
 ·exact V.mono (fun _ _ _ h=>h) (fun _ _ e=>by cases e) (V0 m L hd hv)
theorem oS(m:Mem Bw w0 ρ φ h w){F':Bool→Addr→Value→Prop}(L:Lends φ h Bw w (less g h) F'):
  ∀ {xs ys:List AVal},C0 g (less g h) xs=some ys→∀ {vs:List Value},VVs (Fr (own φ h) Bw w) ρ xs vs→VVs F' (fR m g).pin ys vs
 | [],ys,hd,vs,hv=>by
  cases hd
  cases vs with
  | nil=>trivial
  | cons _ _=>exact hv.elim
 | x::xs,ys,hd,vs,hv=>by
  simp only[C0]at hd
  split at hd
  ·rename_i y ys' h1 h2
   cases hd
   cases vs with
   | nil=>exact hv.elim
   | cons v vs=>exact⟨aDj m h1 hv.1 L,oS m L h2 hv.2⟩
  ·cases hd
theorem yC(m:Mem Bw w0 ρ φ h w)(hn:g.Nodup){hin:List (Nat×Obj)}(hi:lL g h 0 g=some hin):
  Mem (wK φ (less g h) Bw) (fR m g) (fR m g).pin (fun i=>φ (g.getD i 0)) (fun i=>dL hin i) w ∧
  Lends φ h Bw w (less g h) (Fr (own (fun i=>φ (g.getD i 0)) (fun i=>dL hin i)) (wK φ (less g h) Bw) w):=by
 have hlook:∀i o,dL hin i=some o→i<g.length∧∃o',h (g.getD i 0)=some o'∧o=qY (gin g) o'∧∀k∈wM o',k∈g:=fun i o e=>by
  obtain⟨id,o',_,q2,q3,q4,q5⟩:=P6 hi e
  simp only[Nat.sub_zero]at q2
  have hlt:=(List.getElem?_eq_some_iff.1 q2).1
  refine⟨hlt,o',?_,q4,q5⟩
  rw[List.getD_eq_getElem?_getD,q2]
  exact q3
 have hmem:∀i,i<g.length→g.getD i 0∈g:=fun i hlt=>by
  rw[List.getD_eq_getElem?_getD,List.getElem?_eq_getElem hlt]
  exact List.getElem_mem hlt
 have hmv:∀k,own (fun i=>φ (g.getD i 0)) (fun i=>dL hin i) k→B2 φ h g k:=fun k ⟨i,o,q1,q2,q3⟩=>by
  obtain⟨hlt,o',r1,r2,_⟩:=hlook i o q1
  subst r2
  rw[iP]at q2
  exact⟨_,o',hmem i hlt,r1,q2,q3⟩
 have hmo:∀k,B2 φ h g k→own φ h k:=fun k ⟨id,o,_,q2,q3,q4⟩=>⟨id,o,q2,q3,q4⟩
 have hlo:∀k,own φ (less g h) k→own φ h k∧¬B2 φ h g k:=fun k ⟨id,o,q1,q2,q3⟩=>by
  obtain⟨r1,r2⟩:=zM q1
  refine⟨⟨id,o,r1,q2,q3⟩,fun⟨id',o',s1,s2,s3,s4⟩=> ?_⟩
  have:=m.dj id id' o o' k r1 q2 s2 s3 q3 s4
  subst this
  exact r2 s1
 have hF:∀β a v,Fr (own φ h) Bw w β a v→Fr (own (fun i=>φ (g.getD i 0)) (fun i=>dL hin i)) (wK φ (less g h) Bw) w β a v:=fun β a v hh =>
  ⟨fun e=>hh.1 (hmo _ (hmv _ e)),fun e hk=>hk.elim (fun q=>hh.1 (hlo _ q).1) (hh.2.1 e),hh.2.2⟩
 refine⟨⟨fun i o e=> ?_,fun i o k q1 q2 q3=> ?_,fun i j o o' k q1 q2 q3 q4 q5 q6=> ?_,fun k hk=> ?_,fun k hk hkp=>hkp.2 (hmv k hk),Kept.refl _,fun _ _ e=>e⟩,⟨fun i o e=>(zM e).1,hF,fun id o a v q1 q2 q3 q4=> ?_⟩⟩
 ·obtain⟨hlt,o',r1,rfl,r3⟩:=hlook i o e
  obtain⟨u,s1,s2⟩:=m.ob _ _ r1
  refine⟨u,by simp only[fR];rw[if_pos hlt];exact s1,?_⟩
  refine aJf (ρ:=ρ) (fun j hj=> ?_) (OR.mono hF (fun _ _ h=>h) (fun _ h=>h) (fun _ _ _=>rfl) s2)
  have:=r3 j hj
  simp only[fR]
  rw[if_pos (aH8 this),aCZ this]
 ·obtain⟨hlt,o',r1,rfl,r3⟩:=hlook i o q1
  rw[iP]at q2
  exact m.lt _ _ k r1 q2 q3
 ·obtain⟨hlt,o1,r1,rfl,_⟩:=hlook i o q1
  obtain⟨hlt',o2,r1',rfl,_⟩:=hlook j o' q3
  rw[iP]at q2 q4
  have:=m.dj _ _ _ _ k r1 q2 r1' q4 q5 q6
  rw[←uC hn hlt,←uC hn hlt',this]
 ·rcases hk with hk | hk
  ·obtain⟨q1,q2⟩:=hlo k hk
   exact⟨m.own_lt q1,q2⟩
  ·have:=m.bw k hk
   exact⟨Nat.lt_of_lt_of_le (w0.lt k this) m.kp.size,fun e=>m.ow k (hmo k e) this⟩
 ·obtain⟨r1,r2⟩:=zM q1
  refine⟨fun e=> ?_,fun e=>(by cases e),World.cell_peek q4⟩
  exact(hlo _ ⟨id,o,q1,q2,q3⟩).2 (hmv _ e)
theorem yE(m:Mem Bw w0 ρ φ h w)(hn:g.Nodup)(hn8:∀j,j<8→ρ (new+j)=none)(hg:∀i∈g,∃o,h i=some o){hout:List (Nat×Obj)}{r:AVal}(hok:J1 g hout r=true)
  {ρ':Nat→Option Value} {φ':Nat→Nat→Prop} {w':World} (m':Mem (wK φ (less g h) Bw) (fR m g) ρ' φ' (fun i=>dL hout i) w') {v:Value}
  (hv:V (Fr (own φ' (fun i=>dL hout i)) (wK φ (less g h) Bw) w') ρ' r v) :
  Post Bw w0 ρ φ h w new (oX (z7 g new) r) (M2 g new hout) v w':=by
 simp only[J1,Bool.and_eq_true,List.all_eq_true,decide_eq_true_eq]at hok
 obtain⟨⟨⟨⟨_,k1⟩,k2⟩,k3⟩,k4⟩:=hok
 have k1':=mR k1
 have hρg:∀i∈g,∃u,ρ i=some u:=fun i hi=>by
  obtain⟨o,ho⟩:=hg i hi
  obtain⟨u,q,_⟩:=m.ob i o ho
  exact⟨u,q⟩
 have hgn:∀i∈g,¬(new≤i∧i<new+8):=fun i hi ⟨e1,e2⟩=>by
  obtain⟨u,q⟩:=hρg i hi
  have:=hn8 (i - new) (by omega)
  rw[show new+(i - new)=i by omega,q]at this
  cases this
 have hmem:∀i,i<g.length→g.getD i 0∈g:=fun i hlt=>by
  rw[List.getD_eq_getElem?_getD,List.getElem?_eq_getElem hlt]
  exact List.getElem_mem hlt
 let ρ2:Nat→Option Value:=fun i=>if new≤i∧i<new+8 then ρ' (g.length+(i - new))else ρ i
 let φ2:Nat→Nat→Prop:=fun i=>if new≤i∧i<new+8 then φ' (g.length+(i - new))else if i∈g then φ' (gin g i)else φ i
 have hρ:∀i u,ρ i=some u→ρ2 i=some u:=fun i u hi=>by
  simp only[ρ2]
  split
  ·rename_i hc
   have:=hn8 (i - new) (by omega)
   rw[show new+(i - new)=i by omega,hi]at this
   cases this
  ·exact hi
 have hρo:∀i,i<g.length+8→ρ2 (z7 g new i)=ρ' i:=fun i hi=>by
  unfold z7
  split
  ·rename_i hlt
   have h1:=hmem i hlt
   simp only[ρ2]
   rw[if_neg (hgn _ h1)]
   obtain⟨u,q⟩:=hρg _ h1
   have:=m'.pin i u (by simp only[fR];rw[if_pos hlt];exact q)
   rw[q,this]
  ·simp only[ρ2]
   rw[if_pos (by omega)]
   congr 1
   omega
 have hφo:∀i,i<g.length+8→φ2 (z7 g new i)=φ' i:=fun i hi=>by
  unfold z7
  split
  ·rename_i hlt
   have h1:=hmem i hlt
   simp only[φ2]
   rw[if_neg (hgn _ h1),if_pos h1,uC hn hlt]
  ·simp only[φ2]
   rw[if_pos (by omega)]
   congr 1
   omega
 have hginj:∀i j,i<g.length+8→j<g.length+8→z7 g new i=z7 g new j→i=j:=fun i j hi hj e=>by
  unfold z7 at e
  split at e <;> split at e
  ·rename_i h1 h2
   rw[←uC hn h1,←uC hn h2,e]
  ·rename_i h1 h2
   exact absurd ⟨by omega,by omega⟩ (hgn _ (hmem i h1))
  ·rename_i h1 h2
   exact absurd ⟨by omega,by omega⟩ (hgn _ (hmem j h2))
  ·omega
 have hcase:∀id o,apply (M2 g new hout) h id=some o→(id ∉ g∧h id=some o∧¬(new≤id∧id<new+8)) ∨
   ∃i o',dL hout i=some o'∧i<g.length+8∧(∀j∈wM o',j<g.length+8)∧aBQ o'=true∧id=z7 g new i∧o=qY (z7 g new) o':=fun id o e=>by
  rcases R4 e with hm | ⟨q1,q2⟩
  ·right
   simp only[M2,List.mem_append,List.mem_map]at hm
   rcases hm with⟨i,_,e⟩ | ⟨⟨i,o'⟩,hm,e⟩
   ·simp at e
   ·simp only[Prod.mk.injEq,Option.some.injEq]at e
    have:=k4 _ hm
    exact⟨i,o',H8 k1' hm,this.1.2,this.2,this.1.1,e.1.symm,e.2.symm⟩
  ·left
   refine⟨fun hi=>q2 (id,none) (by simp[M2,hi]) rfl,q1,fun hc=> ?_⟩
   obtain⟨u,r1,_⟩:=m.ob id o q1
   have:=hn8 (id - new) (by omega)
   rw[show new+(id - new)=id by omega,r1]at this
   cases this
 have hφn:∀id,id ∉ g→¬(new≤id∧id<new+8)→φ2 id=φ id:=fun id h1 h2=>by simp only[φ2];rw[if_neg h2,if_neg h1]
 have hmo:∀k,B2 φ h g k→own φ h k:=fun k ⟨id,o,_,q2,q3,q4⟩=>⟨id,o,q2,q3,q4⟩
 have hout':∀i o' k,dL hout i=some o'→o'.live=true→φ' i k→w.heap.size≤k∨B2 φ h g k:=fun i o' k q1 q2 q3=>by
  have:=m'.ow k ⟨i,o',q1,q2,q3⟩
  by_cases hk:k<w.heap.size
  ·exact .inr (Classical.byContradiction fun hh=>this ⟨hk,hh⟩)
  ·exact .inl (by omega)
 have hstay:∀id o k,id ∉ g→h id=some o→o.live=true→φ id k→k<w.heap.size∧¬B2 φ h g k:=fun id o k q1 q2 q3 q4=>by
  refine⟨m.lt id o k q2 q3 q4,fun⟨id',o',s1,s2,s3,s4⟩=> ?_⟩
  have:=m.dj id id' o o' k q2 q3 s2 s3 q4 s4
  subst this
  exact q1 s1
 have hblock:∀k,k<w.heap.size→¬B2 φ h g k→w'.heap[k]? = w.heap[k]? :=fun k h1 h2=>m'.kp.block k ⟨h1,h2⟩
 have hown:∀k,own φ2 (apply (M2 g new hout) h) k→(∃id o,id ∉ g∧h id=some o∧o.live=true∧φ id k)∨own φ' (fun i=>dL hout i) k:=fun k ⟨id,o,q1,q2,q3⟩=>by
  rcases hcase id o q1 with⟨r1,r2,r3⟩ | ⟨i,o',r1,r2,r3,r4,rfl,rfl⟩
  ·rw[hφn id r1 r3]at q3
   exact .inl ⟨id,o,r1,r2,q2,q3⟩
  ·rw[hφo i r2]at q3
   rw[iP]at q2
   exact .inr ⟨i,o',r1,q2,q3⟩
 have hF:∀β a v,Fr (own φ h) Bw w β a v→Fr (own φ2 (apply (M2 g new hout) h)) Bw w' β a v:=fun β a v=>Fr.evo (fun k h1 h2=>hblock k h1 fun e=>h2 (hmo k e)) (fun k hk=>by
  rcases hown k hk with⟨id,o,_,q2,q3,q4⟩ | ⟨i,o',q1,q2,q3⟩
  ·exact .inl ⟨id,o,q2,q3,q4⟩
  ·exact(hout' i o' k q1 q2 q3).elim .inr (fun e=> .inl (hmo k e))) β a v
 have hF':∀a v,Fr (own φ' (fun i=>dL hout i)) (wK φ (less g h) Bw) w' false a v→∀β,Fr (own φ2 (apply (M2 g new hout) h)) Bw w' β a v:=fun a v hh β=>by
  refine⟨fun e=> ?_,fun _ hb=>hh.2.1 rfl (.inr hb),hh.2.2⟩
  rcases hown _ e with⟨id,o,q1,q2,q3,q4⟩ | q
  ·exact hh.2.1 rfl (.inl ⟨id,o,by unfold less;rw[if_neg (by simpa using q1)];exact q2,q3,q4⟩)
  ·exact hh.1 q
 have hb0:(fR m g).w=w:=rfl
 refine⟨ρ2,φ2,⟨fun id o e=> ?_,fun id o k q1 q2 q3=> ?_,fun id id' o o' k q1 q2 q3 q4 q5 q6=> ?_,m.bw,fun k hk hkp=> ?_,?_,fun i u hi=>hρ i u (m.pin i u hi)⟩,hF,hρ,fun i u hi=> ?_,?_⟩
 ·rcases hcase id o e with⟨r1,r2,r3⟩ | ⟨i,o',r1,r2,r3,r4,rfl,rfl⟩
  ·obtain⟨u,s1,s2⟩:=m.ob id o r2
   refine⟨u,hρ id u s1,?_⟩
   rw[hφn id r1 r3]
   exact OR.mono hF hρ (fun _ h=>h) (fun hl k hk=>by
    obtain⟨t1,t2⟩:=hstay id o k r1 r2 hl hk
    exact hblock k t1 t2) s2
  ·obtain⟨u,s1,s2⟩:=m'.ob i o' r1
   refine⟨u,by rw[hρo i r2];exact s1,?_⟩
   rw[hφo i r2]
   refine aJf (ρ:=ρ') (fun j hj=>hρo j (r3 j hj)) ?_
   exact OR.mono (fun β a v hh=>hF' a v hh β) (fun _ _ h=>h) (fun _ h=>h) (fun _ _ _=>rfl) (aHh r4 s2)
 ·rcases hcase id o q1 with⟨r1,r2,r3⟩ | ⟨i,o',r1,r2,r3,r4,rfl,rfl⟩
  ·rw[hφn id r1 r3]at q3
   exact Nat.lt_of_lt_of_le (m.lt id o k r2 q2 q3) m'.kp.size
  ·rw[hφo i r2]at q3
   rw[iP]at q2
   exact m'.lt i o' k r1 q2 q3
 ·rcases hcase id o q1 with⟨r1,r2,r3⟩ | ⟨i,o1,r1,r2,r3,r4,rfl,rfl⟩ <;> rcases hcase id' o' q3 with⟨s1,s2,s3⟩ | ⟨j,o2,s1,s2,s3,s4,rfl,rfl⟩
  ·rw[hφn id r1 r3]at q5;rw[hφn id' s1 s3]at q6
   exact m.dj id id' o o' k r2 q2 s2 q4 q5 q6
  ·rw[hφn id r1 r3]at q5;rw[hφo j s2]at q6
   rw[iP]at q4
   obtain⟨t1,t2⟩:=hstay id o k r1 r2 q2 q5
   rcases hout' j o2 k s1 q4 q6 with t3 | t3
   ·omega
   ·exact absurd t3 t2
  ·rw[hφo i r2]at q5;rw[hφn id' s1 s3]at q6
   rw[iP]at q2
   obtain⟨t1,t2⟩:=hstay id' o' k s1 s2 q4 q6
   rcases hout' i o1 k r1 q2 q5 with t3 | t3
   ·omega
   ·exact absurd t3 t2
  ·rw[hφo i r2]at q5;rw[hφo j s2]at q6
   rw[iP]at q2 q4
   rw[m'.dj i j o1 o2 k r1 q2 s1 q4 q5 q6]
 ·rcases hown k hk with⟨id,o,_,q2,q3,q4⟩ | ⟨i,o',q1,q2,q3⟩
  ·exact m.ow k ⟨id,o,q2,q3,q4⟩ hkp
  ·rcases hout' i o' k q1 q2 q3 with t | t
   ·have:=w0.lt k hkp
    have:=m.kp.size
    omega
   ·exact m.ow k (hmo k t) hkp
 ·refine⟨m'.kp.os.trans m.kp.os,m'.kp.tape.trans m.kp.tape,m'.kp.output.trans m.kp.output,Nat.le_trans m.kp.size m'.kp.size,fun k hk=> ?_⟩
  rw[hblock k (Nat.lt_of_lt_of_le (w0.lt k hk) m.kp.size) (fun e=>m.ow k (hmo k e) hk)]
  exact m.kp.block k hk
 ·simp only[ρ2]at hi
  split at hi
  ·rename_i hc
   exact .inr ⟨i - new,by omega,by omega⟩
  ·exact .inl hi
 ·exact aJ7 (ρ:=ρ') (fun i hi=>hρo i (k3 i hi)) (V.mono (fun β a v hh=>hF' a v hh β) (fun _ _ h=>h) (N5 k2 hv))
theorem vV:∀ {l:List Nat} {i:Nat} {hin:List (Nat×Obj)},lL g h i l=some hin→∀id∈l,∃o,h id=some o
 | [],_,_,_,id,hm=>by cases hm
 | x::r,i,hin,e,id,hm=>by
  simp only[lL]at e
  split at e
  ·rename_i o' ho
   split at e
   ·split at e
    ·rename_i l' hl
     rcases List.mem_cons.1 hm with rfl | hm
     ·exact⟨o',ho⟩
     ·exact vV hl id hm
    ·cases e
   ·cases e
  ·cases e
theorem aG5(m:Mem Bw w0 ρ φ h w)(hn8:∀j,j<8→ρ (new+j)=none){o:Oper}{a:Act}{fo:Operand}{argo:Array Operand}{tys:Array TypeId}(ho:o.op = .call { callee:= .value fo,args:=argo,argTypes:=tys })
  {f:FuncId} {caps:List AVal} (hf:V (Fr (own φ h) Bw w) ρ (.fn f caps) (a.eval fo)) {xs:List AVal} (hx:VVs (Fr (own φ h) Bw w) ρ xs (argo.toList.map a.eval)) {args:List AVal} (hl:C0 g (less g h) (xs++caps)=some args)
  {hin:List (Nat×Obj)} (hi:lL g h 0 g=some hin) {r:AVal} {hout:List (Nat×Obj)} (hok:J1 g hout r=true)
  (hp:Owns P f args hin r hout):Good P o a w (Post Bw w0 ρ φ h w new (oX (z7 g new) r) (M2 g new hout)):=by
 simp only[V]at hf
 obtain⟨vs,hfe,hvs,hcaps⟩:=hf
 obtain⟨fn,hfn,hname,hbody⟩:=hp.fn
 have hlist:∀(cs:List AVal) (us:List Value),us.length=cs.length→VL (Fr (own φ h) Bw w) ρ cs (fun k u=>us[k]? = some u)→VVs (Fr (own φ h) Bw w) ρ cs us:=fun cs=>by
  induction cs with
  | nil=>intro us hl _;cases us with | nil=>trivial | cons _ _=>simp at hl
  | cons c cs ih =>
   intro us hl hv
   cases us with
   | nil=>simp at hl
   | cons u us =>
    simp only[VL]at hv
    obtain⟨⟨u',q1,q2⟩,q3⟩:=hv
    simp at q1
    subst q1
    exact⟨q2,ih us (by simpa using hl) (VL.mono (fun _ _ _ h=>h) (fun _ _ h=>h) (fun k u hk=>by simpa using hk) q3)⟩
 have happ:∀(xs:List AVal) (us:List Value),VVs (Fr (own φ h) Bw w) ρ xs us→VVs (Fr (own φ h) Bw w) ρ (xs++caps) (us++vs.toList):=fun xs=>by
  induction xs with
  | nil =>
   intro us hv
   cases us with
   | nil=>exact hlist caps vs.toList (by simpa using hvs) (VL.mono (fun _ _ _ h=>h) (fun _ _ h=>h) (fun k u hk=>by simpa using hk) hcaps)
   | cons _ _=>exact hv.elim
  | cons x xs ih =>
   intro us hv
   cases us with
   | nil=>exact hv.elim
   | cons u us=>exact⟨hv.1,ih us hv.2⟩
 have hn:g.Nodup:=by
  simp only[J1,Bool.and_eq_true]at hok
  exact mR hok.1.1.1.1
 obtain⟨mc,L⟩:=yC m hn hi
 have hargs:=oS m L hl (happ xs _ hx)
 have hcall:=hp.calls (wK φ (less g h) Bw) (fR m g) (fun i=>φ (g.getD i 0)) (argo.map a.eval++vs) mc (by rw[Array.toList_append,Array.toList_map];exact hargs) (fun i u e=>by
  rw[mK hi]
  simp only[fR]at e
  split at e
  ·assumption
  ·cases e)
 refine Good.of_call (f:=f) (args:=argo.map a.eval++vs) (w':=w) ?_ (hcall.mono fun e w' ⟨v,ρ',φ',he,hm',hv⟩=>⟨v,he,?_⟩)
 ·have n1:¬fn.name = "runtime.NumGoroutine" :=by simpa using hname
  have n2:¬fn.body=none:=fun e=>by rw[e]at hbody;cases hbody
  simp[execOp,ho,resolve,hfe,Deferred.ofValue,invoke,callFunc,hfn,n1,n2]
 ·exact yE m hn hn8 (vV hi) hok hm' hv
theorem aIz(m:Mem Bw w0 ρ φ h w)(hn8:∀j,j<8→ρ (new+j)=none){o:Oper}{a:Act}{fo:Operand}{argo:Array Operand}{tys:Array TypeId}(ho:o.op = .call { callee:= .value fo,args:=argo,argTypes:=tys })
  {f:FuncId} {caps:List AVal} (hf:V (Fr (own φ h) Bw w) ρ (.fn f caps) (a.eval fo)) {xs:List AVal} (hx:VVs (Fr (own φ h) Bw w) ρ xs (argo.toList.map a.eval)) {args:List AVal} (hl:C0 g (less g h) (xs++caps)=some args)
  {hin:List (Nat×Obj)} (hi:lL g h 0 g=some hin) (hok:J1 g [] .unk=true) {x:Value}
  (hp:Dies P f args hin x):Bad P o a w x (fun w'=>∃v,Post Bw w0 ρ φ h w new .unk (M2 g new []) v w'):=by
 simp only[V]at hf
 obtain⟨vs,hfe,hvs,hcaps⟩:=hf
 obtain⟨fn,hfn,hname,hbody⟩:=hp.fn
 have hlist:∀(cs:List AVal) (us:List Value),us.length=cs.length→VL (Fr (own φ h) Bw w) ρ cs (fun k u=>us[k]? = some u)→VVs (Fr (own φ h) Bw w) ρ cs us:=fun cs=>by
  induction cs with
  | nil=>intro us hl _;cases us with | nil=>trivial | cons _ _=>simp at hl
  | cons c cs ih =>
   intro us hl hv
   cases us with
   | nil=>simp at hl
   | cons u us =>
    simp only[VL]at hv
    obtain⟨⟨u',q1,q2⟩,q3⟩:=hv
    simp at q1
    subst q1
    exact⟨q2,ih us (by simpa using hl) (VL.mono (fun _ _ _ h=>h) (fun _ _ h=>h) (fun k u hk=>by simpa using hk) q3)⟩
 have happ:∀(xs:List AVal) (us:List Value),VVs (Fr (own φ h) Bw w) ρ xs us→VVs (Fr (own φ h) Bw w) ρ (xs++caps) (us++vs.toList):=fun xs=>by
  induction xs with
  | nil =>
   intro us hv
   cases us with
   | nil=>exact hlist caps vs.toList (by simpa using hvs) (VL.mono (fun _ _ _ h=>h) (fun _ _ h=>h) (fun k u hk=>by simpa using hk) hcaps)
   | cons _ _=>exact hv.elim
  | cons x xs ih =>
   intro us hv
   cases us with
   | nil=>exact hv.elim
   | cons u us=>exact⟨hv.1,ih us hv.2⟩
 have hn:g.Nodup:=by
  simp only[J1,Bool.and_eq_true]at hok
  exact mR hok.1.1.1.1
 obtain⟨mc,L⟩:=yC m hn hi
 have hargs:=oS m L hl (happ xs _ hx)
 have hcall:=hp.calls (wK φ (less g h) Bw) (fR m g) (fun i=>φ (g.getD i 0)) (argo.map a.eval++vs) mc (by rw[Array.toList_append,Array.toList_map];exact hargs) (fun i u e=>by
  rw[mK hi]
  simp only[fR]at e
  split at e
  ·assumption
  ·cases e)
 refine Bad.of_call (f:=f) (args:=argo.map a.eval++vs) (w':=w) ?_ (hcall.mono fun e w' ⟨ρ',φ',he,hm'⟩=>⟨he,undef,?_⟩)
 ·have n1:¬fn.name = "runtime.NumGoroutine" :=by simpa using hname
  have n2:¬fn.body=none:=fun e=>by rw[e]at hbody;cases hbody
  simp[execOp,ho,resolve,hfe,Deferred.ofValue,invoke,callFunc,hfn,n1,n2]
 ·exact yE m hn hn8 (vV hi) (r:= .unk) hok hm' trivial
end
end Go.Tv
