import Derived.Test.YtobbjfkfmdiklaaGreatDoorTvG
namespace Go.Tv
open Go Go.RowKit
def Ty.refs:Ty→Bool
 | .prod a b=>a.refs || b.refs
 | .slice _=>true
 | .ptr _=>true
 | .tree _ _=>true
 | .mapi _ _=>true
 | _=>false
theorem jO{G p:Addr→Value→Prop}:∀ {T:Ty} {x:T.den} {g:Nat→Value→Prop},T.refs=false→ai G T x g→ai p T x g
 | .int _,_,_,_,h=>h
 | .bool,_,_,_,h=>h
 | .str,_,_,_,h=>h
 | .flt,_,_,_,h=>h
 | .unit,_,_,_,_=>trivial
 | .prod a b,_,_,h,j=>by
  simp only[Ty.refs,Bool.or_eq_false_iff]at h;exact⟨jO h.1 j.1,jO h.2 j.2⟩
 | .slice _,_,_,h,_=>by cases h
 | .ptr _,_,_,h,_=>by cases h
 | .tree _ _,_,_,h,_=>by cases h
 | .arr _ _,_,_,_,j=>j
 | .mapi _ _,_,_,h,_=>by cases h
theorem ai.zt{F:Addr→Value→Prop}:∀ {T:Ty} {x:T.den} {g g':Nat→Value→Prop},(∀k v,v.oneCell'=true→g k v→g' k v)→ai F T x g→ai F T x g'
 | .int _,_,_,_,j,h=>j _ _ rfl h
 | .bool,_,_,_,j,h=>j _ _ rfl h
 | .str,_,_,_,j,h=>j _ _ rfl h
 | .flt,_,_,_,j,⟨m,h,e⟩=>⟨m,j _ _ rfl h,e⟩
 | .unit,_,_,_,_,_=>trivial
 | .prod _ _,_,_,_,j,h=>⟨ai.zt j h.1,ai.zt (fun k v hk z=>j _ v hk z) h.2⟩
 | .slice _,_,_,_,j,⟨ad,len,cap,q,hl⟩=>⟨ad,len,cap,j _ _ rfl q,hl⟩
 | .ptr _,none,_,_,j,h=>j _ _ rfl h
 | .ptr _,some _,_,_,j,⟨b,q,z⟩=>⟨b,j _ _ rfl q,z⟩
 | .tree _ _,.node _ _ _,_,_,j,h=>by
  simp only[ai,gF]at h ⊢;obtain⟨h1,h2,ad,len,cap,B,C⟩:=h;exact⟨j _ _ rfl h1,j _ _ rfl h2,ad,len,cap,j _ _ rfl B,C⟩
 | .arr _ _,_,_,_,j,h=>fun i hi=>j _ _ rfl (h i hi)
 | .mapi _ _,_,_,_,j,⟨r,q,h⟩=>⟨r,j _ _ rfl q,h⟩
theorem ai.list{G:Addr→Value→Prop}:∀ {T:Ty} {x:T.den} {g:Nat→Value→Prop},ai G T x g →
  ∃j:QY,j.length=T.size∧(∀k u,j[k]? = some u→g k u)∧ai G T x (fun k v=>j[k]? = some v)
 | .int k,x,g,h=>⟨[_],rfl,fun k u hk=>by cases k with | zero=>simp at hk;subst hk;exact h | succ k=>simp at hk,rfl⟩
 | .bool,x,g,h=>⟨[_],rfl,fun k u hk=>by cases k with | zero=>simp at hk;subst hk;exact h | succ k=>simp at hk,rfl⟩
 | .str,x,g,h=>⟨[_],rfl,fun k u hk=>by cases k with | zero=>simp at hk;subst hk;exact h | succ k=>simp at hk,rfl⟩
 | .flt,x,g,⟨m,h,e⟩=>⟨[_],rfl,fun k u hk=>by cases k with | zero=>simp at hk;subst hk;exact h | succ k=>simp at hk,m,rfl,e⟩
 | .unit,x,g,h=>⟨[],rfl,fun k u hk=>by simp at hk,trivial⟩
 | .prod a b,x,g,h=>by
  obtain⟨j,h1,h2,B⟩:=ai.list h.1;obtain⟨vs,C,I,J⟩:=ai.list h.2;refine⟨j++vs,by simp[h1,C,Ty.size],fun k u hk=>?_,?_,?_⟩
  ·rcases Nat.lt_or_ge k j.length with q | q
   ·rw[List.getElem?_append_left q]at hk;exact h2 k u hk
   ·rw[List.getElem?_append_right q]at hk;have:=I _ _ hk;rwa [h1,Nat.add_sub_cancel' (by omega)]at this
  ·exact ai.mono (fun _ _ h=>h) (fun k v hk=>by rw[List.getElem?_append_left (List.getElem?_eq_some_iff.1 hk).1];exact hk) B
  ·exact ai.mono (fun _ _ h=>h) (fun k v hk=>by show(j++vs)[a.size+k]? = some v;rw[List.getElem?_append_right (by omega),h1,Nat.add_sub_cancel_left];exact hk) J
 | .slice a,x,g,⟨ad,l,c,z,hl,h⟩=>⟨[_],rfl,fun k u hk=>by cases k with | zero=>simp at hk;subst hk;exact z | succ k=>simp at hk,⟨ad,l,c,rfl,hl,h⟩⟩
 | .ptr a,none,g,h=>⟨[_],rfl,fun k u hk=>by cases k with | zero=>simp at hk;subst hk;exact h | succ k=>simp at hk,rfl⟩
 | .ptr a,some y,g,⟨b,z,h⟩=>⟨[_],rfl,fun k u hk=>by cases k with | zero=>simp at hk;subst hk;exact z | succ k=>simp at hk,⟨b,rfl,h⟩⟩
 | .tree D E,.node o s L,g,h=>by
  simp only[ai,gF]at h;obtain⟨h1,h2,ad,len,cap,B,C⟩:=h;refine⟨[.int D o,.int E s,.slice ad len cap],rfl,fun k u hk=>?_,?_⟩
  ·match k,hk with
   | 0,hk=>simp at hk;subst hk;exact h1
   | 1,hk=>simp at hk;subst hk;exact h2
   | 2,hk=>simp at hk;subst hk;exact B
   | k+3,hk=>simp at hk
  ·simp only[ai,gF];exact⟨rfl,rfl,ad,len,cap,rfl,C⟩
 | .arr k n,x,g,h=>by
  refine⟨x.1.map (Value.int k),by simp[Ty.size,x.2],fun i u hi=>?_,fun i hi=>by simp[hi]⟩;rw[List.getElem?_map]at hi;rcases Nat.lt_or_ge i x.1.length with hl | hl
  ·rw[List.getElem?_eq_getElem hl]at hi;cases hi;exact h i hl
  ·rw[List.getElem?_eq_none hl]at hi;cases hi
 | .mapi D E,x,g,⟨r,z,h⟩=>⟨[_],rfl,fun k u hk=>by cases k with | zero=>simp at hk;subst hk;exact z | succ k=>simp at hk,r,rfl,h⟩
theorem kS{G:Addr→Value→Prop}{A:Ty}:∀ {ys:List A.den} {g:Nat→Value→Prop},(∀i (h:i<ys.length),ai G A ys[i] (fun k v=>g (i*A.size+k) v)) →
  ∃j:QY,j.length=ys.length*A.size∧(∀k u,j[k]? = some u→g k u)∧(∀i (h:i<ys.length),ai G A ys[i] (fun k v=>j[i*A.size+k]? = some v))
 | [],g,_=>⟨[],by simp,fun k u hk=>by simp at hk,fun i h=>absurd h (by simp)⟩
 | y::ys,g,h=>by
  obtain⟨j,h1,h2,z⟩:=ai.list (ai.mono (g':=fun k v=>g k v) (fun _ _ h=>h) (fun k v hk=>by simpa using hk) (h 0 (by simp)));obtain⟨vs,B,C,D⟩:=kS (ys:=ys) (g:=fun k v=>g (A.size+k) v) (fun i hi=>by
   have:=h (i+1) (by simp;omega);refine ai.mono (fun _ _ h=>h) (fun k v hk=>?_) this;rwa [Nat.succ_mul,Nat.add_comm (i*A.size) A.size,Nat.add_assoc]at hk)
  refine⟨j++vs,by simp[h1,B,Nat.succ_mul];omega,fun k u hk=>?_,fun i hi=>?_⟩
  ·rcases Nat.lt_or_ge k j.length with q | q
   ·rw[List.getElem?_append_left q]at hk;exact h2 k u hk
   ·rw[List.getElem?_append_right q]at hk;have:=C _ _ hk;rwa [h1,Nat.add_sub_cancel' (by omega)]at this
  ·cases i with
   | zero=>exact ai.mono (fun _ _ h=>h) (fun k v hk=>by rw[Nat.zero_mul,Nat.zero_add,List.getElem?_append_left (List.getElem?_eq_some_iff.1 hk).1];exact hk) z
   | succ i =>
    refine ai.mono (fun _ _ h=>h) (fun k v hk=>?_) (D i (by simpa using hi));rw[List.getElem?_append_right (by rw[h1,Nat.succ_mul];omega),h1,←hk];congr 1;rw[Nat.succ_mul];omega
theorem nP{G:Addr→Value→Prop}{A:Ty}{q:List A.den}{x:QY}(hl:x.length=q.length*A.size)(h:∀i (h:i<q.length),ai G A q[i] (fun k v=>x[i*A.size+k]? = some v)):
  ∀u∈x,u.oneCell'=true:=fun u hu=>by
 obtain⟨k,hk,rfl⟩:=List.getElem_of_mem hu;have z:0<A.size:=by
  rcases Nat.eq_zero_or_pos A.size with e | e
  ·rw[e]at hl;omega
  ·exact e
 have hi:k / A.size<q.length:=by rw[Nat.div_lt_iff_lt_mul z];omega
 have h1:=h _ hi;have h2:ai G A q[k / A.size] (fun j v=>(x.drop (k / A.size*A.size))[j]? = some v):=ai.mono (fun _ _ h=>h) (fun j v C=>by rw[List.getElem?_drop];exact C) h1;obtain⟨u,B,D⟩:=lu h2 (k % A.size) (Nat.mod_lt _ z);rw[List.getElem?_drop,Nat.mul_comm,Nat.div_add_mod,List.getElem?_eq_getElem hk]at B;cases B;exact D
def eZ(h:Nat→Qz)(A:Ty):ag→Option (List A.den)
 | .sl id=>match h id with
  | some (.arr _ B j)=>if e:B=A then some (e ▸ j)else none
  | some (.fz B j)=>if e:B=A then some (e ▸ j)else none
  | _=>none
 | .p β (.slice B) j=>if e:B=A then(if B.refs && β then none else some (e ▸ j))else none
 | .nils=>some []
 | _=>none
section
variable{P:Program}{Bw:Nat→Prop}{w0:cC P}{ρ:Nat→QW}{φ:Nat→Nat→Prop}{h:Nat→Qz}{w:World}{new:Nat}
theorem ic(m:Mem Bw w0 ρ φ h w){A:Ty}{x:ag}{ys:List A.den}(hd:eZ h A x=some ys){v:Value}(z:V (Fr (own φ h) Bw w) ρ x v):
  ∃ad len cap,v = .slice ad len cap∧len=ys.length∧(∀i (h':i<ys.length),∃b,ad=some b∧ai (Fr (own φ h) Bw w false) A ys[i] (fun k v=>w.cell? (b.add (i*A.size+k))=some v)) ∧
   (ad=none→v = .slice none 0 0∨ys.length=0):=by
 have data:∀(β:Bool) (B:Ty) (j:List B.den),(B.refs && β)=false→V (Fr (own φ h) Bw w) ρ (.p β (.slice B) j) v →
   ∃ad len cap,v = .slice ad len cap∧len=j.length∧(∀i (h':i<j.length),∃b,ad=some b∧ai (Fr (own φ h) Bw w false) B j[i] (fun k v=>w.cell? (b.add (i*B.size+k))=some v)) ∧
   (ad=none→v = .slice none 0 0∨j.length=0):=fun β B j hb z=>by
  simp only[V,ai]at z;obtain⟨_,ad,len,cap,e,⟨hl,_⟩,z⟩:=z;refine⟨ad,len,cap,e.symm,hl,fun i hi=>?_,fun L=>?_⟩
  ·obtain⟨b,D,E⟩:=z i hi;refine⟨b,D,?_⟩;have I:ai (Fr (own φ h) Bw w β) B j[i] (fun k v=>w.cell? (b.add (i*B.size+k))=some v):=ai.zt (fun k v h1 hk=>World.jH hk.2.2 h1) E;cases β with
   | false=>exact I
   | true=>exact jO (by simpa using hb) I
  ·rcases Nat.eq_zero_or_pos j.length with q | q
   ·exact .inr q
   ·obtain⟨b,D,_⟩:=z 0 q;rw[L]at D;cases D
 unfold eZ at hd;split at hd
 ·rename_i id;split at hd
  ·rename_i X B j hi;split at hd
   ·rename_i e;subst e;have C:some j=some ys:=hd;cases C;obtain⟨u,D,M,hA,cells,J,N⟩:=m.ob id _ hi;simp only[V]at z;rw[z.1]at D;cases D;rcases J.2 with⟨rfl,hn⟩ | ⟨g,cap,O,rfl,r⟩
    ·exact⟨none,0,0,rfl,hn.symm,fun i hi=>absurd hi (by omega),fun _=> .inl rfl⟩
    ·refine⟨_,_,_,rfl,rfl,fun i hi=>⟨_,rfl,ai.mono (fun _ _ h=>h) (fun k v hk=>J.cells (g:=g) rfl _ _ hk) (N i hi)⟩,fun e=>by cases e⟩
   ·cases hd
  ·rename_i B j hi;split at hd
   ·rename_i e;subst e;have C:some j=some ys:=hd;cases C;obtain⟨u,D,E⟩:=m.ob id _ hi;simp only[V]at z;rw[z.1]at D;cases D;exact data false _ _ (by simp) E
   ·cases hd
  ·cases hd
 ·split at hd
  ·rename_i e;subst e;split at hd
   ·cases hd
   ·rename_i j hb;have C:some j=some ys:=hd;cases C;exact data _ _ _ (by simpa using hb) z
  ·cases hd
 ·cases hd;simp only[V]at z;subst z;exact⟨none,0,0,rfl,rfl,fun i hi=>absurd hi (by simp),fun _=> .inl rfl⟩
 ·cases hd
theorem mT{t ty e:TypeId}{i:TypeInfo}{z:Value}(ht:P.underlying t=some (.slice e))(hi:P.info? e=some i)(hz:i.zero=some z)
  (M:z.cells.size=i.size) (N:0<i.size) {v:Value} {n:Nat} {xs:QY} (x:w.ownsRow 0 e i.size v n xs)
  {ad:Addr} {len c:Nat} {news:QY} (hl:news.length=len*i.size) (p:∀j u,news[j]? = some u→w.cell? (ad.add j)=some u) (h1:∀u∈news,u.oneCell'=true)
  (D:n+len≤maxLen) (q:(n+len)*i.bytes≤140737488355328) :
  ∃E w',(Builtin.append_ #[t,t] ty #[v,.slice (some ad) len c]).run P w = .ok E w'∧w'.ownsRow 0 e i.size E (n+len) (xs++news)∧w.grownBy w' v.ownBlock ∧
   ∀k,E.ownBlock=some k→w.heap.size≤k∨v.ownBlock=some k:=by
 obtain⟨E,w',B,h2,X,Y⟩:=run_append_own (P:=P) w 0 t ty e i z i.size i.bytes ht hi hz rfl rfl M N v n xs x ad len c news hl p h1 D q (Nat.zero_le _);refine⟨E,w',B,h2,X,fun k hk=>?_⟩;have L:n+len≤9223372036854775807:=by simp only[maxLen]at D;omega
 rcases x.2 with⟨rfl,rfl⟩ | ⟨g,cap,I,rfl,_,Z,a1,a2,O,V⟩
 ·by_cases hm:len=0
  ·rw[Y.2 ⟨rfl,hm⟩]at hk;cases hk
  ·have:=run_append_nil (P:=P) w t ty e i z ht hi hz ad len c news hl p (by omega) (by omega) (by rw[Nat.zero_add]at q;omega);rw[this]at B;cases B;simp only[Value.ownBlock,Option.some.injEq]at hk;exact .inl (by omega)
 ·by_cases A:n+len≤cap
  ·have J:n*i.size+news.length≤I.size:=by rw[hl,O,←Nat.add_mul];exact Nat.mul_le_mul_right _ A
   have:=run_append_room (P:=P) w t ty e i ht hi g n cap I Z ad len c news hl p h1 A J;rw[this]at B;cases B;exact .inr hk
  ·have C:∀j u,xs[j]? = some u→w.cell? ((⟨g,0,none⟩:Addr).add j)=some u:=x.cells (g:=g) rfl;have:=run_append_grow (P:=P) w t ty e i z ht hi hz ⟨g,0,none⟩ n cap xs x.1 C ad len c news hl p (by omega) (by omega) (growslice_fits (by omega) q);rw[this]at B;cases B;simp only[Value.ownBlock,Option.some.injEq]at hk;exact .inl (by omega)
theorem cE{v:Value}{a:Option Addr}{n c:Nat}(h:v = .slice a n c):dw v=v.ownBlock:=by
 subst h;cases a <;> rfl
theorem pa{G:Addr→Value→Prop}{A:Ty}{j ys:List A.den}{p B:QY}(hu:p.length=j.length*A.size)
  (h1:∀i (h:i<j.length),ai G A j[i] (fun k v=>p[i*A.size+k]? = some v)) (h2:∀i (h:i<ys.length),ai G A ys[i] (fun k v=>B[i*A.size+k]? = some v)) :
  ∀i (h:i<(j++ys).length),ai G A (j++ys)[i] (fun k v=>(p++B)[i*A.size+k]? = some v):=fun i hi=>by
 rcases Nat.lt_or_ge i j.length with q | q
 ·rw[List.getElem_append_left q];exact ai.mono (fun _ _ h=>h) (fun k v hk=>by rw[List.getElem?_append_left (List.getElem?_eq_some_iff.1 hk).1];exact hk) (h1 i q)
 ·rw[List.getElem_append_right q];have z:i - j.length<ys.length:=by simp at hi;omega
  refine ai.mono (fun _ _ h=>h) (fun k v hk=>?_) (h2 _ z);have e:i*A.size=j.length*A.size+(i - j.length)*A.size:=by rw[←Nat.add_mul];congr 1;omega
  rw[List.getElem?_append_right (by rw[hu];omega),hu,←hk];congr 1;omega
theorem tZ(m:Mem Bw w0 ρ φ h w)(hn:ρ new=none){o:Oper}{a:Act}{t e:TypeId}{ti te:TI}(ht:aN P t ti)(hk:ti.k = .sl e)(a2:aN P e te){A:Ty}(hT:te.T=some A)(h0:0<A.size)
  {xo yo:Operand} {x y:ag} (hx:V (Fr (own φ h) Bw w) ρ x (a.eval xo)) (hy:V (Fr (own φ h) Bw w) ρ y (a.eval yo)) (ho:o.op = .call { callee:= .builtin .append,args:= #[xo,yo],argTypes:= #[t,t] })
  {xs p:List A.den} {i0:QJ} {u:gX}
  (a3:(x = .nils∧xs=[]∧i0=none∧u=[(new,some (.arr e A p))])∨(∃id,x = .sl id∧h id=some (.arr e A xs)∧i0=some id∧u=[(id,none),(new,some (.arr e A (xs++p)))]))
  (a8:eZ h A y=some p) (hb:(xs.length+p.length)*te.bytes≤140737488355328) (b9:xs.length+p.length≤9223372036854775807) :
  Good P o a w (aF Bw w0 ρ φ h w new (.sl new) u):=by
 obtain⟨i,z,hi,hz,q,E,be,a9,bi⟩:=a2.hi;obtain⟨ac,bs,bv⟩:=a2.hT A hT;have hu:=aY ht hk;have B:i.size=A.size:=by rw[q,ac]
 obtain⟨cells,v,hv,j,O,ax⟩:∃cells v,a.eval xo=v∧w.ownsRow 0 e A.size v xs.length cells ∧
   (∀i (h':i<xs.length),ai (Fr (own φ h) Bw w false) A xs[i] (fun k v=>cells[i*A.size+k]? = some v)) ∧
   ∀k,v.ownBlock=some k→∃i o,i0=some i∧h i=some o∧o.live=true∧φ i k:=by
  rcases a3 with⟨rfl,rfl,rfl,_⟩ | ⟨id,rfl,a4,rfl,_⟩
  ·simp only[V]at hx;exact⟨[],_,hx,World.ownsRow_nil w 0 e _,fun i hi=>absurd hi (by simp),fun k hk=>by cases hk⟩
  ·simp only[V]at hx;obtain⟨u,q1,b1,_,cells,r1,r2⟩:=m.ob id _ a4;rw[hx.1]at q1;cases q1;obtain⟨_,aa,nn,cc,he⟩:=hx;exact⟨cells,_,rfl,r1,r2,fun k X=>⟨id,_,rfl,a4,rfl,b1 _ (by rw[cE he];exact X)⟩⟩
 obtain⟨ad,len,cap,I,C,b2,M⟩:=ic m a8 hy;have a5:apply u h=bF (fun i=>if i0=some i then none else h i) new (some (.arr e A (xs++p))):=by
  rcases a3 with⟨_,rfl,rfl,rfl⟩ | ⟨id,_,_,rfl,rfl⟩
  ·rw[bn];rfl
  ·rw[rY];rfl
 have Y:∀J w' (news:QY),(Builtin.append_ #[t,t] o.type #[v,a.eval yo]).run P w = .ok J w'→w'.ownsRow 0 e A.size J (xs++p).length (cells++news)→w.grownBy w' v.ownBlock →
   (∀k,J.ownBlock=some k→w.heap.size≤k∨v.ownBlock=some k)→(∀i (h':i<p.length),ai (Fr (own φ h) Bw w false) A p[i] (fun k v=>news[i*A.size+k]? = some v)) →
   Good P o a w (aF Bw w0 ρ φ h w new (.sl new) u):=fun J w' news D h2 h3 h4 h5=>by
  have b3:∃aa nn cc,J = .slice aa nn cc:=by rcases h2.2 with⟨e,_⟩ | ⟨g,cap,b4,e,_⟩ <;> exact⟨_,_,_,e⟩
  refine Good.aG (v:=J) (w':=w') ?_ ?_
  ·simp only[execOp,ho,resolve,invoke,builtin,Sem.run_bind,Sem.run_pure,Result.andThen_ok,List.map_toArray,List.map_cons,List.map_nil,hv,D]
  ·obtain⟨aa,nn,cc,N⟩:=b3;refine cT m i0 new (.arr e A (xs++p)) J v.ownBlock h3 ax (.inl hn) (fun _ k X=>h4 k (by rw[←cE N];exact X)) (fun F' b5 hF b6=>?_) a5 (fun _=>rfl) (fun F' b5 hF b6 a6=>?_)
   ·refine⟨fun _ h=>h,h0,cells++news,h2,fun i hi=>ai.mono (hF _) (fun _ _ h=>h) (pa j.1 O h5 i hi)⟩
   ·simp only[V];exact⟨a6,_,_,_,N⟩
 by_cases L:ad=none
 ·have b7:p.length=0:=by
   rcases M L with e | e
   ·rw[e]at I;simp only[Value.slice.injEq]at I;omega
   ·exact e
  have a7:p=[]:=List.eq_nil_of_length_eq_zero b7;rcases M L with e' | e'
  ·have D:=run_append_owned_none (P:=P) w 0 t o.type e i A.size hu hi v xs.length cells j;rw[←e']at D;refine Y v w [] D (by rw[a7];simpa using j) ⟨rfl,rfl,rfl,Nat.le_refl _,fun _ _ _=>rfl⟩ (fun k hk=> .inr hk) (fun i hi=>absurd hi (by omega))
  ·subst L;have Z:len=0:=by omega
   subst Z;have D:(Builtin.append_ #[t,t] o.type #[v,.slice none 0 cap]).run P w = .ok v w:=by
    rcases j.2 with⟨rfl,_⟩ | ⟨g,cp,b4,rfl,_,_,b8,_⟩
    ·simp[Builtin.append_,run_underlying hu,sizeOf,typeInfo,hi,Builtin.lenOf,Builtin.firstCells]
    ·simp[Builtin.append_,run_underlying hu,sizeOf,typeInfo,hi,Builtin.lenOf,Builtin.firstCells,b8,storeCells]
   rw[←I]at D;refine Y v w [] D (by rw[a7];simpa using j) ⟨rfl,rfl,rfl,Nat.le_refl _,fun _ _ _=>rfl⟩ (fun k hk=> .inr hk) (fun i hi=>absurd hi (by omega))
 ·obtain⟨b,rfl⟩:=Option.ne_none_iff_exists'.1 L;obtain⟨news,q1,q2,q3⟩:=kS (g:=fun k v=>w.cell? (b.add k)=some v) (fun i hi=>by
   obtain⟨b',e1,e2⟩:=b2 i hi;cases e1;exact e2)
  have a1:w.ownsRow 0 e i.size v xs.length cells:=by rw[B];exact j
  obtain⟨J,w',D,h2,h3,h4⟩:=mT (P:=P) (t:=t) (ty:=o.type) hu hi hz (by rw[a9,q]) (by omega) a1 (ad:=b) (len:=len) (c:=cap) (news:=news) (by rw[q1,C,B]) q2 (nP q1 q3)
   (by unfold maxLen;omega) (by rw[E,C];exact hb)
  rw[←I]at D;refine Y J w' news D ?_ h3 h4 q3;rw[B]at h2;rw[List.length_append,←C];exact h2
theorem we(m:Mem Bw w0 ρ φ h w)(hn:ρ new=none){o:Oper}{a:Act}{t e:TypeId}{ti te:TI}(ht:aN P t ti)(hk:ti.k = .sl e)(Z:aN P e te){A:Ty}(hT:te.T=some A)(h0:0<A.size)
  {xo yo:Operand} {id:Nat} {y:ag} (hx:V (Fr (own φ h) Bw w) ρ (.sl id) (a.eval xo)) (hy:V (Fr (own φ h) Bw w) ρ y (a.eval yo)) (ho:o.op = .call { callee:= .builtin .append,args:= #[xo,yo],argTypes:= #[t,t] })
  {xs ys:List A.den} (aa:h id=some (.cutz A xs)) (ac:eZ h A y=some ys) (a1:0<ys.length) (hb:(xs.length+ys.length)*te.bytes≤140737488355328) (J:xs.length+ys.length≤9223372036854775807) :
  Good P o a w (aF Bw w0 ρ φ h w new (.sl new) [(new,some (.arr e A (xs++ys)))]):=by
 obtain⟨i,z,hi,hz,E,B,bi,ax,bs⟩:=Z.hi;obtain⟨a2,bv,c3⟩:=Z.hT A hT;have hu:=aY ht hk;have C:i.size=A.size:=by rw[E,a2]
 obtain⟨u,q1,⟨b1,q2⟩,q3⟩:=m.ob id _ aa;simp only[V]at hx;have L:a.eval xo=u:=by have:=hx.1;rw[q1]at this;cases this;rfl
 obtain⟨ad,len,cap,M,a3,a4,_⟩:=ic m ac hy;obtain⟨b,b2,_⟩:=a4 0 a1;subst b2;obtain⟨D,N,n2,n3⟩:=kS (g:=fun k v=>w.cell? (b.add k)=some v) (fun i hi=>by
  obtain⟨b',e1,e2⟩:=a4 i hi;cases e1;exact e2)
 obtain⟨c4,b9,be,O,b3,a5,_⟩:=ic (h:=h) m (A:=A) (x:= .p false (.slice A) xs) (ys:=xs) (by simp[eZ]) q3;rw[q2]at O;simp only[Value.slice.injEq]at O;obtain⟨rfl,rfl,rfl⟩:=O;have c5:A.size=i.size:=C.symm;have X:∀(q:QY) (Y:Nat),q.length=xs.length*A.size→(∀j (I:j<xs.length),ai (Fr (own φ h) Bw w false) A xs[j] (fun k v=>q[j*A.size+k]? = some v))→xs.length+ys.length≤Y→Y≤maxLen →
   (Builtin.append_ #[t,t] o.type #[a.eval xo,a.eval yo]).run P w = .ok (.slice (some ⟨w.heap.size,0,none⟩) (xs.length+ys.length) Y) (w.drew.alloc (.cells (q.toArray++D.toArray++Builtin.zeroCells z.cells (Y - (xs.length+ys.length))) e)) →
   Good P o a w (aF Bw w0 ρ φ h w new (.sl new) [(new,some (.arr e A (xs++ys)))]):=fun q Y o1 o2 c1 c2 hr=>by
  obtain⟨m',hF⟩:=m.drew;refine Good.aG (v:=_) (w':=_) (by simp only[execOp,ho,resolve,invoke,builtin,Sem.run_bind,Sem.run_pure,Result.andThen_ok,List.map_toArray,List.map_cons,List.map_nil,hr];rfl) ?_;refine aF.after (u1:=[]) rfl hF ?_;refine cT m' none new (.arr e A (xs++ys)) (.slice (some ⟨w.heap.size,0,none⟩) (xs.length+ys.length) Y) none (World.grownBy_alloc w.drew _ none) (fun k e=>by cases e) (.inl hn) (fun _ k b4=>?_) (fun F' b5 a6 b6=>?_) (by rw[bn];rfl) (fun _=>rfl) (fun F' b5 a6 b6 a7=>?_)
  ·simp only[dw,Option.some.injEq]at b4;left
   show w.heap.size≤k;omega
  ·refine⟨fun _ h=>h,h0,q++D,⟨by simp[o1,N,Nat.add_mul],.inr ⟨w.heap.size,Y,_,by simp,Nat.zero_le _,heap_alloc_new w.drew _,by simpa using c1,c2,?_,?_⟩⟩,fun j I=>ai.mono (fun a v hh=>a6 _ _ _ (hF _ _ _ hh)) (fun _ _ h=>h) (pa o1 o2 n3 j I)⟩
   ·simp only[Array.size_append,List.size_toArray,size_zeroCells,o1,N,ax,E,a2];rw[←Nat.add_mul,←Nat.add_mul,Nat.add_sub_cancel' c1]
   ·simp only[Array.toList_append,List.length_append];rw[List.take_append_of_le_length (by simp[o1,N,Nat.add_mul]),List.take_of_length_le (by simp[o1,N,Nat.add_mul])]
  ·simp only[V];exact⟨a7,_,_,_,rfl⟩
 have a8:grownCap w (xs.length+ys.length) xs.length e≤maxLen:=grownCap_le_maxLen w _ _ e (by unfold maxLen;omega);have a9:=grownCap_ge w (xs.length+ys.length) xs.length e;subst a3;rcases Nat.eq_zero_or_pos xs.length with e0 | e0
 ·-- of nothing
  have b7:xs=[]:=List.eq_nil_of_length_eq_zero e0;subst b7;cases b1 with
  | none =>
   have:=run_append_nil (P:=P) w t o.type e i z hu hi hz b ys.length cap D (by rw[N,C]) n2 a1 (by simp at J;omega) (by rw[B];simp at hb;omega);refine X [] (grownCap w ys.length 0 e) (by simp) (fun j I=>absurd I (by simp)) (by simpa using grownCap_ge w ys.length 0 e) (grownCap_le_maxLen w _ _ e (by unfold maxLen;simp at J;omega)) ?_;rw[L,q2,M];simp only[List.length_nil,Nat.zero_add]at this ⊢;rw[this];simp
  | some bx =>
   have:=run_append_grow (P:=P) w t o.type e i z hu hi hz bx 0 0 [] (by simp) (fun j v I=>by simp at I) b ys.length cap D (by rw[N,C]) n2 (by omega) (by simp at J;omega) (growslice_fits (by omega) (by rw[B];simpa using hb));refine X [] _ (by simp) (fun j I=>absurd I (by simp)) a9 a8 ?_;rw[L,q2,M];exact this
 ·obtain⟨bx,b8,_⟩:=a5 0 e0;subst b8;obtain⟨q,o1,o2,o3⟩:=kS (g:=fun k v=>w.cell? (bx.add k)=some v) (fun i hi=>by
   obtain⟨b',e1,e2⟩:=a5 i hi;cases e1;exact e2)
  have:=run_append_grow (P:=P) w t o.type e i z hu hi hz bx xs.length xs.length q (by rw[o1,C]) o2 b ys.length cap D (by rw[N,C]) n2 (by omega) (by omega) (growslice_fits (by omega) (by rw[B];exact hb));refine X q _ o1 o3 a9 a8 ?_;rw[L,q2,M];exact this
end
end Go.Tv
