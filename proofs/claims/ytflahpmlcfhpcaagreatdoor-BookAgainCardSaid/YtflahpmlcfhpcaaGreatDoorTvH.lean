import Derived.Test.YtflahpmlcfhpcaaGreatDoorTvG
namespace Go.Tv
open Go Go.RowKit
def Ty.refs:Ty→Bool
 | .prod a b=>a.refs || b.refs
 | .slice _=>true
 | .ptr _=>true
 | .tree _ _=>true
 | .mapi _ _=>true
 | _=>false
theorem jE{G f:Addr→Value→Prop}:∀ {T:Ty} {x:T.den} {g:Nat→Value→Prop},T.refs=false→ah G T x g→ah f T x g
 | .int _,_,_,_,h=>h
 | .bool,_,_,_,h=>h
 | .str,_,_,_,h=>h
 | .flt,_,_,_,h=>h
 | .unit,_,_,_,_=>trivial
 | .prod a b,_,_,h,e=>by
  simp only[Ty.refs,Bool.or_eq_false_iff]at h;exact⟨jE h.1 e.1,jE h.2 e.2⟩
 | .slice _,_,_,h,_=>by cases h
 | .ptr _,_,_,h,_=>by cases h
 | .tree _ _,_,_,h,_=>by cases h
 | .arr _ _,_,_,_,e=>e
 | .mapi _ _,_,_,h,_=>by cases h
theorem ah.yM{F:Addr→Value→Prop}:∀ {T:Ty} {x:T.den} {g g':Nat→Value→Prop},(∀k v,v.oneCell'=true→g k v→g' k v)→ah F T x g→ah F T x g'
 | .int _,_,_,_,f,h=>f _ _ rfl h
 | .bool,_,_,_,f,h=>f _ _ rfl h
 | .str,_,_,_,f,h=>f _ _ rfl h
 | .flt,_,_,_,f,⟨m,h,e⟩=>⟨m,f _ _ rfl h,e⟩
 | .unit,_,_,_,_,_=>trivial
 | .prod _ _,_,_,_,f,h=>⟨ah.yM f h.1,ah.yM (fun k v hk q=>f _ v hk q) h.2⟩
 | .slice _,_,_,_,f,⟨ad,len,cap,j,hl⟩=>⟨ad,len,cap,f _ _ rfl j,hl⟩
 | .ptr _,none,_,_,f,h=>f _ _ rfl h
 | .ptr _,some _,_,_,f,⟨b,j,q⟩=>⟨b,f _ _ rfl j,q⟩
 | .tree _ _,.node _ _ _,_,_,f,h=>by
  simp only[ah,gw]at h ⊢;obtain⟨z,B,ad,len,cap,C,D⟩:=h;exact⟨f _ _ rfl z,f _ _ rfl B,ad,len,cap,f _ _ rfl C,D⟩
 | .arr _ _,_,_,_,f,h=>fun i hi=>f _ _ rfl (h i hi)
 | .mapi _ _,_,_,_,f,⟨r,j,h⟩=>⟨r,f _ _ rfl j,h⟩
theorem ah.list{G:Addr→Value→Prop}:∀ {T:Ty} {x:T.den} {g:Nat→Value→Prop},ah G T x g →
  ∃f:QY,f.length=T.size∧(∀k u,f[k]? = some u→g k u)∧ah G T x (fun k v=>f[k]? = some v)
 | .int k,x,g,h=>⟨[_],rfl,fun k u hk=>by cases k with | zero=>simp at hk;subst hk;exact h | succ k=>simp at hk,rfl⟩
 | .bool,x,g,h=>⟨[_],rfl,fun k u hk=>by cases k with | zero=>simp at hk;subst hk;exact h | succ k=>simp at hk,rfl⟩
 | .str,x,g,h=>⟨[_],rfl,fun k u hk=>by cases k with | zero=>simp at hk;subst hk;exact h | succ k=>simp at hk,rfl⟩
 | .flt,x,g,⟨m,h,e⟩=>⟨[_],rfl,fun k u hk=>by cases k with | zero=>simp at hk;subst hk;exact h | succ k=>simp at hk,m,rfl,e⟩
 | .unit,x,g,h=>⟨[],rfl,fun k u hk=>by simp at hk,trivial⟩
 | .prod a b,x,g,h=>by
  obtain⟨f,j,B,C⟩:=ah.list h.1;obtain⟨vs,D,J,L⟩:=ah.list h.2;refine⟨f++vs,by simp[j,D,Ty.size],fun k u hk=>?_,?_,?_⟩
  ·rcases Nat.lt_or_ge k f.length with q | q
   ·rw[List.getElem?_append_left q]at hk;exact B k u hk
   ·rw[List.getElem?_append_right q]at hk;have:=J _ _ hk;rwa [j,Nat.add_sub_cancel' (by omega)]at this
  ·exact ah.mono (fun _ _ h=>h) (fun k v hk=>by rw[List.getElem?_append_left (List.getElem?_eq_some_iff.1 hk).1];exact hk) C
  ·exact ah.mono (fun _ _ h=>h) (fun k v hk=>by show(f++vs)[a.size+k]? = some v;rw[List.getElem?_append_right (by omega),j,Nat.add_sub_cancel_left];exact hk) L
 | .slice a,x,g,⟨ad,l,c,z,hl,h⟩=>⟨[_],rfl,fun k u hk=>by cases k with | zero=>simp at hk;subst hk;exact z | succ k=>simp at hk,⟨ad,l,c,rfl,hl,h⟩⟩
 | .ptr a,none,g,h=>⟨[_],rfl,fun k u hk=>by cases k with | zero=>simp at hk;subst hk;exact h | succ k=>simp at hk,rfl⟩
 | .ptr a,some y,g,⟨b,z,h⟩=>⟨[_],rfl,fun k u hk=>by cases k with | zero=>simp at hk;subst hk;exact z | succ k=>simp at hk,⟨b,rfl,h⟩⟩
 | .tree E I,.node o s M,g,h=>by
  simp only[ah,gw]at h;obtain⟨j,B,ad,len,cap,C,D⟩:=h;refine⟨[.int E o,.int I s,.slice ad len cap],rfl,fun k u hk=>?_,?_⟩
  ·match k,hk with
   | 0,hk=>simp at hk;subst hk;exact j
   | 1,hk=>simp at hk;subst hk;exact B
   | 2,hk=>simp at hk;subst hk;exact C
   | k+3,hk=>simp at hk
  ·simp only[ah,gw];exact⟨rfl,rfl,ad,len,cap,rfl,D⟩
 | .arr k n,x,g,h=>by
  refine⟨x.1.map (Value.int k),by simp[Ty.size,x.2],fun i u hi=>?_,fun i hi=>by simp[hi]⟩;rw[List.getElem?_map]at hi;rcases Nat.lt_or_ge i x.1.length with hl | hl
  ·rw[List.getElem?_eq_getElem hl]at hi;cases hi;exact h i hl
  ·rw[List.getElem?_eq_none hl]at hi;cases hi
 | .mapi E I,x,g,⟨r,z,h⟩=>⟨[_],rfl,fun k u hk=>by cases k with | zero=>simp at hk;subst hk;exact z | succ k=>simp at hk,r,rfl,h⟩
theorem kK{G:Addr→Value→Prop}{A:Ty}:∀ {ys:List A.den} {g:Nat→Value→Prop},(∀i (h:i<ys.length),ah G A ys[i] (fun k v=>g (i*A.size+k) v)) →
  ∃e:QY,e.length=ys.length*A.size∧(∀k u,e[k]? = some u→g k u)∧(∀i (h:i<ys.length),ah G A ys[i] (fun k v=>e[i*A.size+k]? = some v))
 | [],g,_=>⟨[],by simp,fun k u hk=>by simp at hk,fun i h=>absurd h (by simp)⟩
 | y::ys,g,h=>by
  obtain⟨e,f,j,z⟩:=ah.list (ah.mono (g':=fun k v=>g k v) (fun _ _ h=>h) (fun k v hk=>by simpa using hk) (h 0 (by simp)));obtain⟨vs,B,C,D⟩:=kK (ys:=ys) (g:=fun k v=>g (A.size+k) v) (fun i hi=>by
   have:=h (i+1) (by simp;omega);refine ah.mono (fun _ _ h=>h) (fun k v hk=>?_) this;rwa [Nat.succ_mul,Nat.add_comm (i*A.size) A.size,Nat.add_assoc]at hk)
  refine⟨e++vs,by simp[f,B,Nat.succ_mul];omega,fun k u hk=>?_,fun i hi=>?_⟩
  ·rcases Nat.lt_or_ge k e.length with q | q
   ·rw[List.getElem?_append_left q]at hk;exact j k u hk
   ·rw[List.getElem?_append_right q]at hk;have:=C _ _ hk;rwa [f,Nat.add_sub_cancel' (by omega)]at this
  ·cases i with
   | zero=>exact ah.mono (fun _ _ h=>h) (fun k v hk=>by rw[Nat.zero_mul,Nat.zero_add,List.getElem?_append_left (List.getElem?_eq_some_iff.1 hk).1];exact hk) z
   | succ i =>
    refine ah.mono (fun _ _ h=>h) (fun k v hk=>?_) (D i (by simpa using hi));rw[List.getElem?_append_right (by rw[f,Nat.succ_mul];omega),f,←hk];congr 1;rw[Nat.succ_mul];omega
theorem nK{G:Addr→Value→Prop}{A:Ty}{f:List A.den}{q:QY}(hl:q.length=f.length*A.size)(h:∀i (h:i<f.length),ah G A f[i] (fun k v=>q[i*A.size+k]? = some v)):
  ∀u∈q,u.oneCell'=true:=fun u hu=>by
 obtain⟨k,hk,rfl⟩:=List.getElem_of_mem hu;have x:0<A.size:=by
  rcases Nat.eq_zero_or_pos A.size with e | e
  ·rw[e]at hl;omega
  ·exact e
 have hi:k / A.size<f.length:=by rw[Nat.div_lt_iff_lt_mul x];omega
 have B:=h _ hi;have C:ah G A f[k / A.size] (fun j v=>(q.drop (k / A.size*A.size))[j]? = some v):=ah.mono (fun _ _ h=>h) (fun j v D=>by rw[List.getElem?_drop];exact D) B;obtain⟨u,z,E⟩:=lF C (k % A.size) (Nat.mod_lt _ x);rw[List.getElem?_drop,Nat.mul_comm,Nat.div_add_mod,List.getElem?_eq_getElem hk]at z;cases z;exact E
def fb(h:Nat→Qz)(A:Ty):ag→Option (List A.den)
 | .sl id=>match h id with
  | some (.arr _ B j)=>if e:B=A then some (e ▸ j)else none
  | some (.fz B j)=>if e:B=A then some (e ▸ j)else none
  | _=>none
 | .p β (.slice B) j=>if e:B=A then(if B.refs && β then none else some (e ▸ j))else none
 | .nils=>some []
 | _=>none
section
variable{P:Program}{Bw:Nat→Prop}{w0:cw P}{ρ:Nat→QW}{φ:Nat→Nat→Prop}{h:Nat→Qz}{w:World}{new:Nat}
theorem hI(m:Mem Bw w0 ρ φ h w){A:Ty}{x:ag}{ys:List A.den}(hd:fb h A x=some ys){v:Value}(j:V (Fr (own φ h) Bw w) ρ x v):
  ∃ad len cap,v = .slice ad len cap∧len=ys.length∧(∀i (h':i<ys.length),∃b,ad=some b∧ah (Fr (own φ h) Bw w false) A ys[i] (fun k v=>w.cell? (b.add (i*A.size+k))=some v)) ∧
   (ad=none→v = .slice none 0 0∨ys.length=0):=by
 have data:∀(β:Bool) (B:Ty) (f:List B.den),(B.refs && β)=false→V (Fr (own φ h) Bw w) ρ (.p β (.slice B) f) v →
   ∃ad len cap,v = .slice ad len cap∧len=f.length∧(∀i (h':i<f.length),∃b,ad=some b∧ah (Fr (own φ h) Bw w false) B f[i] (fun k v=>w.cell? (b.add (i*B.size+k))=some v)) ∧
   (ad=none→v = .slice none 0 0∨f.length=0):=fun β B f hb j=>by
  simp only[V,ah]at j;obtain⟨_,ad,len,cap,e,⟨hl,_⟩,j⟩:=j;refine⟨ad,len,cap,e.symm,hl,fun i hi=>?_,fun J=>?_⟩
  ·obtain⟨b,C,D⟩:=j i hi;refine⟨b,C,?_⟩;have E:ah (Fr (own φ h) Bw w β) B f[i] (fun k v=>w.cell? (b.add (i*B.size+k))=some v):=ah.yM (fun k v L hk=>World.jt hk.2.2 L) D;cases β with
   | false=>exact E
   | true=>exact jE (by simpa using hb) E
  ·rcases Nat.eq_zero_or_pos f.length with q | q
   ·exact .inr q
   ·obtain⟨b,C,_⟩:=j 0 q;rw[J]at C;cases C
 unfold fb at hd;split at hd
 ·rename_i id;split at hd
  ·rename_i X B f hi;split at hd
   ·rename_i e;subst e;have z:some f=some ys:=hd;cases z;obtain⟨u,C,M,hA,cells,I,N⟩:=m.ob id _ hi;simp only[V]at j;rw[j.1]at C;cases C;rcases I.2 with⟨rfl,hn⟩ | ⟨g,cap,O,rfl,r⟩
    ·exact⟨none,0,0,rfl,hn.symm,fun i hi=>absurd hi (by omega),fun _=> .inl rfl⟩
    ·refine⟨_,_,_,rfl,rfl,fun i hi=>⟨_,rfl,ah.mono (fun _ _ h=>h) (fun k v hk=>I.cells (g:=g) rfl _ _ hk) (N i hi)⟩,fun e=>by cases e⟩
   ·cases hd
  ·rename_i B f hi;split at hd
   ·rename_i e;subst e;have z:some f=some ys:=hd;cases z;obtain⟨u,C,D⟩:=m.ob id _ hi;simp only[V]at j;rw[j.1]at C;cases C;exact data false _ _ (by simp) D
   ·cases hd
  ·cases hd
 ·split at hd
  ·rename_i e;subst e;split at hd
   ·cases hd
   ·rename_i f hb;have z:some f=some ys:=hd;cases z;exact data _ _ _ (by simpa using hb) j
  ·cases hd
 ·cases hd;simp only[V]at j;subst j;exact⟨none,0,0,rfl,rfl,fun i hi=>absurd hi (by simp),fun _=> .inl rfl⟩
 ·cases hd
theorem mO{t ty e:TypeId}{i:TypeInfo}{z:Value}(ht:P.underlying t=some (.slice e))(hi:P.info? e=some i)(hz:i.zero=some z)
  (L:z.cells.size=i.size) (M:0<i.size) {v:Value} {n:Nat} {xs:QY} (q:w.ownsRow 0 e i.size v n xs)
  {ad:Addr} {len c:Nat} {news:QY} (hl:news.length=len*i.size) (f:∀j u,news[j]? = some u→w.cell? (ad.add j)=some u) (V:∀u∈news,u.oneCell'=true)
  (C:n+len≤maxLen) (p:(n+len)*i.bytes≤140737488355328) :
  ∃D w',(Builtin.append_ #[t,t] ty #[v,.slice (some ad) len c]).run P w = .ok D w'∧w'.ownsRow 0 e i.size D (n+len) (xs++news)∧w.grownBy w' v.ownBlock ∧
   ∀k,D.ownBlock=some k→w.heap.size≤k∨v.ownBlock=some k:=by
 obtain⟨D,w',A,X,Y,Z⟩:=run_append_own (P:=P) w 0 t ty e i z i.size i.bytes ht hi hz rfl rfl L M v n xs q ad len c news hl f V C p (Nat.zero_le _);refine⟨D,w',A,X,Y,fun k hk=>?_⟩;have J:n+len≤9223372036854775807:=by simp only[maxLen]at C;omega
 rcases q.2 with⟨rfl,rfl⟩ | ⟨g,cap,E,rfl,_,hg,a1,a2,N,O⟩
 ·by_cases hm:len=0
  ·rw[Z.2 ⟨rfl,hm⟩]at hk;cases hk
  ·have:=run_append_nil (P:=P) w t ty e i z ht hi hz ad len c news hl f (by omega) (by omega) (by rw[Nat.zero_add]at p;omega);rw[this]at A;cases A;simp only[Value.ownBlock,Option.some.injEq]at hk;exact .inl (by omega)
 ·by_cases x:n+len≤cap
  ·have I:n*i.size+news.length≤E.size:=by rw[hl,N,←Nat.add_mul];exact Nat.mul_le_mul_right _ x
   have:=run_append_room (P:=P) w t ty e i ht hi g n cap E hg ad len c news hl f V x I;rw[this]at A;cases A;exact .inr hk
  ·have B:∀j u,xs[j]? = some u→w.cell? ((⟨g,0,none⟩:Addr).add j)=some u:=q.cells (g:=g) rfl;have:=run_append_grow (P:=P) w t ty e i z ht hi hz ⟨g,0,none⟩ n cap xs q.1 B ad len c news hl f (by omega) (by omega) (growslice_fits (by omega) p);rw[this]at A;cases A;simp only[Value.ownBlock,Option.some.injEq]at hk;exact .inl (by omega)
theorem cF{v:Value}{a:Option Addr}{n c:Nat}(h:v = .slice a n c):dx v=v.ownBlock:=by
 subst h;cases a <;> rfl
theorem oN{G:Addr→Value→Prop}{A:Ty}{f ys:List A.den}{j z:QY}(hu:j.length=f.length*A.size)
  (B:∀i (h:i<f.length),ah G A f[i] (fun k v=>j[i*A.size+k]? = some v)) (C:∀i (h:i<ys.length),ah G A ys[i] (fun k v=>z[i*A.size+k]? = some v)) :
  ∀i (h:i<(f++ys).length),ah G A (f++ys)[i] (fun k v=>(j++z)[i*A.size+k]? = some v):=fun i hi=>by
 rcases Nat.lt_or_ge i f.length with q | q
 ·rw[List.getElem_append_left q];exact ah.mono (fun _ _ h=>h) (fun k v hk=>by rw[List.getElem?_append_left (List.getElem?_eq_some_iff.1 hk).1];exact hk) (B i q)
 ·rw[List.getElem_append_right q];have p:i - f.length<ys.length:=by simp at hi;omega
  refine ah.mono (fun _ _ h=>h) (fun k v hk=>?_) (C _ p);have e:i*A.size=f.length*A.size+(i - f.length)*A.size:=by rw[←Nat.add_mul];congr 1;omega
  rw[List.getElem?_append_right (by rw[hu];omega),hu,←hk];congr 1;omega
theorem tV(m:Mem Bw w0 ρ φ h w)(hn:ρ new=none){o:Oper}{a:Act}{t e:TypeId}{ti te:TI}(ht:aN P t ti)(hk:ti.k = .sl e)(a1:aN P e te){A:Ty}(hT:te.T=some A)(h0:0<A.size)
  {xo yo:Operand} {x y:ag} (hx:V (Fr (own φ h) Bw w) ρ x (a.eval xo)) (hy:V (Fr (own φ h) Bw w) ρ y (a.eval yo)) (ho:o.op = .call { callee:= .builtin .append,args:= #[xo,yo],argTypes:= #[t,t] })
  {xs j:List A.den} {i0:QJ} {u:gZ}
  (a2:(x = .nils∧xs=[]∧i0=none∧u=[(new,some (.arr e A j))])∨(∃id,x = .sl id∧h id=some (.arr e A xs)∧i0=some id∧u=[(id,none),(new,some (.arr e A (xs++j)))]))
  (a7:fb h A y=some j) (hb:(xs.length+j.length)*te.bytes≤140737488355328) (b8:xs.length+j.length≤9223372036854775807) :
  Good P o a w (aF Bw w0 ρ φ h w new (.sl new) u):=by
 obtain⟨i,z,hi,hz,p,D,b9,a8,be⟩:=a1.hi;obtain⟨a9,bi,bs⟩:=a1.hT A hT;have hu:=aX ht hk;have q:i.size=A.size:=by rw[p,a9]
 obtain⟨cells,v,hv,f,N,ac⟩:∃cells v,a.eval xo=v∧w.ownsRow 0 e A.size v xs.length cells ∧
   (∀i (h':i<xs.length),ah (Fr (own φ h) Bw w false) A xs[i] (fun k v=>cells[i*A.size+k]? = some v)) ∧
   ∀k,v.ownBlock=some k→∃i o,i0=some i∧h i=some o∧o.live=true∧φ i k:=by
  rcases a2 with⟨rfl,rfl,rfl,_⟩ | ⟨id,rfl,a3,rfl,_⟩
  ·simp only[V]at hx;exact⟨[],_,hx,World.ownsRow_nil w 0 e _,fun i hi=>absurd hi (by simp),fun k hk=>by cases hk⟩
  ·simp only[V]at hx;obtain⟨u,q1,ax,_,cells,r1,r2⟩:=m.ob id _ a3;rw[hx.1]at q1;cases q1;obtain⟨_,aa,nn,cc,he⟩:=hx;exact⟨cells,_,rfl,r1,r2,fun k O=>⟨id,_,rfl,a3,rfl,ax _ (by rw[cF he];exact O)⟩⟩
 obtain⟨ad,len,cap,E,B,b1,L⟩:=hI m a7 hy;have a4:apply u h=bF (fun i=>if i0=some i then none else h i) new (some (.arr e A (xs++j))):=by
  rcases a2 with⟨_,rfl,rfl,rfl⟩ | ⟨id,_,_,rfl,rfl⟩
  ·rw[bp];rfl
  ·rw[rJ];rfl
 have X:∀I w' (news:QY),(Builtin.append_ #[t,t] o.type #[v,a.eval yo]).run P w = .ok I w'→w'.ownsRow 0 e A.size I (xs++j).length (cells++news)→w.grownBy w' v.ownBlock →
   (∀k,I.ownBlock=some k→w.heap.size≤k∨v.ownBlock=some k)→(∀i (h':i<j.length),ah (Fr (own φ h) Bw w false) A j[i] (fun k v=>news[i*A.size+k]? = some v)) →
   Good P o a w (aF Bw w0 ρ φ h w new (.sl new) u):=fun I w' news C h2 h3 h4 h5=>by
  have b2:∃aa nn cc,I = .slice aa nn cc:=by rcases h2.2 with⟨e,_⟩ | ⟨g,cap,b3,e,_⟩ <;> exact⟨_,_,_,e⟩
  refine Good.aG (v:=I) (w':=w') ?_ ?_
  ·simp only[execOp,ho,resolve,invoke,builtin,Sem.run_bind,Sem.run_pure,Result.andThen_ok,List.map_toArray,List.map_cons,List.map_nil,hv,C]
  ·obtain⟨aa,nn,cc,M⟩:=b2;refine cV m i0 new (.arr e A (xs++j)) I v.ownBlock h3 ac (.inl hn) (fun _ k O=>h4 k (by rw[←cF M];exact O)) (fun F' b4 hF b5=>?_) a4 (fun _=>rfl) (fun F' b4 hF b5 a5=>?_)
   ·refine⟨fun _ h=>h,h0,cells++news,h2,fun i hi=>ah.mono (hF _) (fun _ _ h=>h) (oN f.1 N h5 i hi)⟩
   ·simp only[V];exact⟨a5,_,_,_,M⟩
 by_cases J:ad=none
 ·have b6:j.length=0:=by
   rcases L J with e | e
   ·rw[e]at E;simp only[Value.slice.injEq]at E;omega
   ·exact e
  have a6:j=[]:=List.eq_nil_of_length_eq_zero b6;rcases L J with e' | e'
  ·have C:=run_append_owned_none (P:=P) w 0 t o.type e i A.size hu hi v xs.length cells f;rw[←e']at C;refine X v w [] C (by rw[a6];simpa using f) ⟨rfl,rfl,rfl,Nat.le_refl _,fun _ _ _=>rfl⟩ (fun k hk=> .inr hk) (fun i hi=>absurd hi (by omega))
  ·subst J;have Y:len=0:=by omega
   subst Y;have C:(Builtin.append_ #[t,t] o.type #[v,.slice none 0 cap]).run P w = .ok v w:=by
    rcases f.2 with⟨rfl,_⟩ | ⟨g,cp,b3,rfl,_,_,b7,_⟩
    ·simp[Builtin.append_,run_underlying hu,sizeOf,typeInfo,hi,Builtin.lenOf,Builtin.firstCells]
    ·simp[Builtin.append_,run_underlying hu,sizeOf,typeInfo,hi,Builtin.lenOf,Builtin.firstCells,b7,storeCells]
   rw[←E]at C;refine X v w [] C (by rw[a6];simpa using f) ⟨rfl,rfl,rfl,Nat.le_refl _,fun _ _ _=>rfl⟩ (fun k hk=> .inr hk) (fun i hi=>absurd hi (by omega))
 ·obtain⟨b,rfl⟩:=Option.ne_none_iff_exists'.1 J;obtain⟨news,q1,q2,q3⟩:=kK (g:=fun k v=>w.cell? (b.add k)=some v) (fun i hi=>by
   obtain⟨b',e1,e2⟩:=b1 i hi;cases e1;exact e2)
  have Z:w.ownsRow 0 e i.size v xs.length cells:=by rw[q];exact f
  obtain⟨I,w',C,h2,h3,h4⟩:=mO (P:=P) (t:=t) (ty:=o.type) hu hi hz (by rw[a8,p]) (by omega) Z (ad:=b) (len:=len) (c:=cap) (news:=news) (by rw[q1,B,q]) q2 (nK q1 q3)
   (by unfold maxLen;omega) (by rw[D,B];exact hb)
  rw[←E]at C;refine X I w' news C ?_ h3 h4 q3;rw[q]at h2;rw[List.length_append,←B];exact h2
theorem vI(m:Mem Bw w0 ρ φ h w)(hn:ρ new=none){o:Oper}{a:Act}{t e:TypeId}{ti te:TI}(ht:aN P t ti)(hk:ti.k = .sl e)(Y:aN P e te){A:Ty}(hT:te.T=some A)(h0:0<A.size)
  {xo yo:Operand} {id:Nat} {y:ag} (hx:V (Fr (own φ h) Bw w) ρ (.sl id) (a.eval xo)) (hy:V (Fr (own φ h) Bw w) ρ y (a.eval yo)) (ho:o.op = .call { callee:= .builtin .append,args:= #[xo,yo],argTypes:= #[t,t] })
  {xs ys:List A.den} (a9:h id=some (.cutz A xs)) (aa:fb h A y=some ys) (Z:0<ys.length) (hb:(xs.length+ys.length)*te.bytes≤140737488355328) (I:xs.length+ys.length≤9223372036854775807) :
  Good P o a w (aF Bw w0 ρ φ h w new (.sl new) [(new,some (.arr e A (xs++ys)))]):=by
 obtain⟨i,z,hi,hz,D,q,be,ac,bi⟩:=Y.hi;obtain⟨a1,bs,bv⟩:=Y.hT A hT;have hu:=aX ht hk;have B:i.size=A.size:=by rw[D,a1]
 obtain⟨u,q1,⟨ax,q2⟩,q3⟩:=m.ob id _ a9;simp only[V]at hx;have J:a.eval xo=u:=by have:=hx.1;rw[q1]at this;cases this;rfl
 obtain⟨ad,len,cap,L,a2,a3,_⟩:=hI m aa hy;obtain⟨b,b1,_⟩:=a3 0 Z;subst b1;obtain⟨C,M,n2,n3⟩:=kK (g:=fun k v=>w.cell? (b.add k)=some v) (fun i hi=>by
  obtain⟨b',e1,e2⟩:=a3 i hi;cases e1;exact e2)
 obtain⟨c3,b8,b9,N,b2,a4,_⟩:=hI (h:=h) m (A:=A) (x:= .p false (.slice A) xs) (ys:=xs) (by simp[fb]) q3;rw[q2]at N;simp only[Value.slice.injEq]at N;obtain⟨rfl,rfl,rfl⟩:=N;have c4:A.size=i.size:=B.symm;have O:∀(f:QY) (X:Nat),f.length=xs.length*A.size→(∀j (E:j<xs.length),ah (Fr (own φ h) Bw w false) A xs[j] (fun k v=>f[j*A.size+k]? = some v))→xs.length+ys.length≤X→X≤maxLen →
   (Builtin.append_ #[t,t] o.type #[a.eval xo,a.eval yo]).run P w = .ok (.slice (some ⟨w.heap.size,0,none⟩) (xs.length+ys.length) X) (w.drew.alloc (.cells (f.toArray++C.toArray++Builtin.zeroCells z.cells (X - (xs.length+ys.length))) e)) →
   Good P o a w (aF Bw w0 ρ φ h w new (.sl new) [(new,some (.arr e A (xs++ys)))]):=fun f X o1 o2 c1 c2 hr=>by
  obtain⟨m',hF⟩:=m.drew;refine Good.aG (v:=_) (w':=_) (by simp only[execOp,ho,resolve,invoke,builtin,Sem.run_bind,Sem.run_pure,Result.andThen_ok,List.map_toArray,List.map_cons,List.map_nil,hr];rfl) ?_;refine aF.after (u1:=[]) rfl hF ?_;refine cV m' none new (.arr e A (xs++ys)) (.slice (some ⟨w.heap.size,0,none⟩) (xs.length+ys.length) X) none (World.grownBy_alloc w.drew _ none) (fun k e=>by cases e) (.inl hn) (fun _ k b3=>?_) (fun F' b4 a5 b5=>?_) (by rw[bp];rfl) (fun _=>rfl) (fun F' b4 a5 b5 a6=>?_)
  ·simp only[dx,Option.some.injEq]at b3;left
   show w.heap.size≤k;omega
  ·refine⟨fun _ h=>h,h0,f++C,⟨by simp[o1,M,Nat.add_mul],.inr ⟨w.heap.size,X,_,by simp,Nat.zero_le _,heap_alloc_new w.drew _,by simpa using c1,c2,?_,?_⟩⟩,fun j E=>ah.mono (fun a v hh=>a5 _ _ _ (hF _ _ _ hh)) (fun _ _ h=>h) (oN o1 o2 n3 j E)⟩
   ·simp only[Array.size_append,List.size_toArray,size_zeroCells,o1,M,ac,D,a1];rw[←Nat.add_mul,←Nat.add_mul,Nat.add_sub_cancel' c1]
   ·simp only[Array.toList_append,List.length_append];rw[List.take_append_of_le_length (by simp[o1,M,Nat.add_mul]),List.take_of_length_le (by simp[o1,M,Nat.add_mul])]
  ·simp only[V];exact⟨a6,_,_,_,rfl⟩
 have a7:grownCap w (xs.length+ys.length) xs.length e≤maxLen:=grownCap_le_maxLen w _ _ e (by unfold maxLen;omega);have a8:=grownCap_ge w (xs.length+ys.length) xs.length e;subst a2;rcases Nat.eq_zero_or_pos xs.length with e0 | e0
 ·-- of nothing
  have b6:xs=[]:=List.eq_nil_of_length_eq_zero e0;subst b6;cases ax with
  | none =>
   have:=run_append_nil (P:=P) w t o.type e i z hu hi hz b ys.length cap C (by rw[M,B]) n2 Z (by simp at I;omega) (by rw[q];simp at hb;omega);refine O [] (grownCap w ys.length 0 e) (by simp) (fun j E=>absurd E (by simp)) (by simpa using grownCap_ge w ys.length 0 e) (grownCap_le_maxLen w _ _ e (by unfold maxLen;simp at I;omega)) ?_;rw[J,q2,L];simp only[List.length_nil,Nat.zero_add]at this ⊢;rw[this];simp
  | some bx =>
   have:=run_append_grow (P:=P) w t o.type e i z hu hi hz bx 0 0 [] (by simp) (fun j v E=>by simp at E) b ys.length cap C (by rw[M,B]) n2 (by omega) (by simp at I;omega) (growslice_fits (by omega) (by rw[q];simpa using hb));refine O [] _ (by simp) (fun j E=>absurd E (by simp)) a8 a7 ?_;rw[J,q2,L];exact this
 ·obtain⟨bx,b7,_⟩:=a4 0 e0;subst b7;obtain⟨f,o1,o2,o3⟩:=kK (g:=fun k v=>w.cell? (bx.add k)=some v) (fun i hi=>by
   obtain⟨b',e1,e2⟩:=a4 i hi;cases e1;exact e2)
  have:=run_append_grow (P:=P) w t o.type e i z hu hi hz bx xs.length xs.length f (by rw[o1,B]) o2 b ys.length cap C (by rw[M,B]) n2 (by omega) (by omega) (growslice_fits (by omega) (by rw[q];exact hb));refine O f _ o1 o3 a8 a7 ?_;rw[J,q2,L];exact this
end
end Go.Tv
