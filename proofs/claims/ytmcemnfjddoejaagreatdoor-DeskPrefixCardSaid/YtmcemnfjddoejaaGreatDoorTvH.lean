/- Operations on memory: appends, new arrays. -/
import Derived.Test.YtmcemnfjddoejaaGreatDoorTvG
namespace Go.Tv
open Go Go.RowKit
def Ty.refs:Ty→Bool
 | .prod a b=>a.refs || b.refs
 | .slice _=>true
 | .ptr _=>true
 | .tree _ _=>true
 | .mapi _ _=>true
 | _=>false
theorem jA{G e:Addr→Value→Prop}:∀ {T:Ty} {x:T.den} {g:Nat→Value→Prop},T.refs=false→ai G T x g→ai e T x g
 | .int _,_,_,_,h=>h
 | .bool,_,_,_,h=>h
 | .str,_,_,_,h=>h
 | .flt,_,_,_,h=>h
 | .unit,_,_,_,_=>trivial
 | .prod a b,_,_,h,c=>by
  simp only[Ty.refs,Bool.or_eq_false_iff]at h;exact⟨jA h.1 c.1,jA h.2 c.2⟩
 | .slice _,_,_,h,_=>by cases h
 | .ptr _,_,_,h,_=>by cases h
 | .tree _ _,_,_,h,_=>by cases h
 | .arr _ _,_,_,_,c=>c
 | .mapi _ _,_,_,h,_=>by cases h
theorem ai.zD{F:Addr→Value→Prop}:∀ {T:Ty} {x:T.den} {g g':Nat→Value→Prop},(∀k v,v.oneCell'=true→g k v→g' k v)→ai F T x g→ai F T x g'
 | .int _,_,_,_,f,h=>f _ _ rfl h
 | .bool,_,_,_,f,h=>f _ _ rfl h
 | .str,_,_,_,f,h=>f _ _ rfl h
 | .flt,_,_,_,f,⟨m,h,e⟩=>⟨m,f _ _ rfl h,e⟩
 | .unit,_,_,_,_,_=>trivial
 | .prod _ _,_,_,_,f,h=>⟨ai.zD f h.1,ai.zD (fun k v z q=>f _ v z q) h.2⟩
 | .slice _,_,_,_,f,⟨ad,len,cap,j,hl⟩=>⟨ad,len,cap,f _ _ rfl j,hl⟩
 | .ptr _,none,_,_,f,h=>f _ _ rfl h
 | .ptr _,some _,_,_,f,⟨b,j,q⟩=>⟨b,f _ _ rfl j,q⟩
 | .tree _ _,.node _ _ _,_,_,f,h=>by
  simp only[ai,fU]at h ⊢;obtain⟨B,C,ad,len,cap,D,E⟩:=h;exact⟨f _ _ rfl B,f _ _ rfl C,ad,len,cap,f _ _ rfl D,E⟩
 | .arr _ _,_,_,_,f,h=>fun i hi=>f _ _ rfl (h i hi)
 | .mapi _ _,_,_,_,f,⟨r,j,h⟩=>⟨r,f _ _ rfl j,h⟩
theorem ai.list{G:Addr→Value→Prop}:∀ {T:Ty} {x:T.den} {g:Nat→Value→Prop},ai G T x g →
  ∃us:List Value,us.length=T.size∧(∀k u,us[k]? = some u→g k u)∧ai G T x (fun k v=>us[k]? = some v)
 | .int k,x,g,h=>⟨[_],rfl,fun k u f=>by cases k with | zero=>simp at f;subst f;exact h | succ k=>simp at f,rfl⟩
 | .bool,x,g,h=>⟨[_],rfl,fun k u f=>by cases k with | zero=>simp at f;subst f;exact h | succ k=>simp at f,rfl⟩
 | .str,x,g,h=>⟨[_],rfl,fun k u f=>by cases k with | zero=>simp at f;subst f;exact h | succ k=>simp at f,rfl⟩
 | .flt,x,g,⟨m,h,e⟩=>⟨[_],rfl,fun k u f=>by cases k with | zero=>simp at f;subst f;exact h | succ k=>simp at f,m,rfl,e⟩
 | .unit,x,g,h=>⟨[],rfl,fun k u f=>by simp at f,trivial⟩
 | .prod a b,x,g,h=>by
  obtain⟨us,j,B,C⟩:=ai.list h.1;obtain⟨vs,D,J,L⟩:=ai.list h.2;refine⟨us++vs,by simp[j,D,Ty.size],fun k u f=> ?_,?_,?_⟩
  ·rcases Nat.lt_or_ge k us.length with q | q
   ·rw[List.getElem?_append_left q]at f;exact B k u f
   ·rw[List.getElem?_append_right q]at f;have:=J _ _ f;rwa [j,Nat.add_sub_cancel' (by omega)]at this
  ·exact ai.mono (fun _ _ h=>h) (fun k v f=>by rw[List.getElem?_append_left (List.getElem?_eq_some_iff.1 f).1];exact f) C
  ·exact ai.mono (fun _ _ h=>h) (fun k v f=>by show(us++vs)[a.size+k]? = some v;rw[List.getElem?_append_right (by omega),j,Nat.add_sub_cancel_left];exact f) L
 | .slice a,x,g,⟨ad,l,c,z,hl,h⟩=>⟨[_],rfl,fun k u f=>by cases k with | zero=>simp at f;subst f;exact z | succ k=>simp at f,⟨ad,l,c,rfl,hl,h⟩⟩
 | .ptr a,none,g,h=>⟨[_],rfl,fun k u f=>by cases k with | zero=>simp at f;subst f;exact h | succ k=>simp at f,rfl⟩
 | .ptr a,some y,g,⟨b,z,h⟩=>⟨[_],rfl,fun k u f=>by cases k with | zero=>simp at f;subst f;exact z | succ k=>simp at f,⟨b,rfl,h⟩⟩
 | .tree E I,.node o s M,g,h=>by
  simp only[ai,fU]at h;obtain⟨j,B,ad,len,cap,C,D⟩:=h;refine⟨[.int E o,.int I s,.slice ad len cap],rfl,fun k u f=> ?_,?_⟩
  ·match k,f with
   | 0,f=>simp at f;subst f;exact j
   | 1,f=>simp at f;subst f;exact B
   | 2,f=>simp at f;subst f;exact C
   | k+3,f=>simp at f
  ·simp only[ai,fU];exact⟨rfl,rfl,ad,len,cap,rfl,D⟩
 | .arr k n,x,g,h=>by
  refine⟨x.1.map (Value.int k),by simp[Ty.size,x.2],fun i u hi=> ?_,fun i hi=>by simp[hi]⟩;rw[List.getElem?_map]at hi;rcases Nat.lt_or_ge i x.1.length with hl | hl
  ·rw[List.getElem?_eq_getElem hl]at hi;cases hi;exact h i hl
  ·rw[List.getElem?_eq_none hl]at hi;cases hi
 | .mapi E I,x,g,⟨r,z,h⟩=>⟨[_],rfl,fun k u f=>by cases k with | zero=>simp at f;subst f;exact z | succ k=>simp at f,r,rfl,h⟩
theorem kN{G:Addr→Value→Prop}{A:Ty}:∀ {ys:List A.den} {g:Nat→Value→Prop},(∀i (h:i<ys.length),ai G A ys[i] (fun k v=>g (i*A.size+k) v)) →
  ∃f:List Value,f.length=ys.length*A.size∧(∀k u,f[k]? = some u→g k u)∧(∀i (h:i<ys.length),ai G A ys[i] (fun k v=>f[i*A.size+k]? = some v))
 | [],g,_=>⟨[],by simp,fun k u e=>by simp at e,fun i h=>absurd h (by simp)⟩
 | y::ys,g,h=>by
  obtain⟨f,j,z,B⟩:=ai.list (ai.mono (g':=fun k v=>g k v) (fun _ _ h=>h) (fun k v e=>by simpa using e) (h 0 (by simp)));obtain⟨vs,C,D,E⟩:=kN (ys:=ys) (g:=fun k v=>g (A.size+k) v) (fun i hi=>by
   have:=h (i+1) (by simp;omega);refine ai.mono (fun _ _ h=>h) (fun k v e=> ?_) this;rwa [Nat.succ_mul,Nat.add_comm (i*A.size) A.size,Nat.add_assoc]at e)
  refine⟨f++vs,by simp[j,C,Nat.succ_mul];omega,fun k u e=> ?_,fun i hi=> ?_⟩
  ·rcases Nat.lt_or_ge k f.length with q | q
   ·rw[List.getElem?_append_left q]at e;exact z k u e
   ·rw[List.getElem?_append_right q]at e;have:=D _ _ e;rwa [j,Nat.add_sub_cancel' (by omega)]at this
  ·cases i with
   | zero=>exact ai.mono (fun _ _ h=>h) (fun k v e=>by rw[Nat.zero_mul,Nat.zero_add,List.getElem?_append_left (List.getElem?_eq_some_iff.1 e).1];exact e) B
   | succ i =>
    refine ai.mono (fun _ _ h=>h) (fun k v e=> ?_) (E i (by simpa using hi));rw[List.getElem?_append_right (by rw[j,Nat.succ_mul];omega),j,←e];congr 1;rw[Nat.succ_mul];omega
theorem nC{G:Addr→Value→Prop}{A:Ty}{f:List A.den}{q:List Value}(hl:q.length=f.length*A.size)(h:∀i (h:i<f.length),ai G A f[i] (fun k v=>q[i*A.size+k]? = some v)):
  ∀u∈q,u.oneCell'=true:=fun u hu=>by
 obtain⟨k,B,rfl⟩:=List.getElem_of_mem hu;have x:0<A.size:=by
  rcases Nat.eq_zero_or_pos A.size with e | e
  ·rw[e]at hl;omega
  ·exact e
 have hi:k / A.size<f.length:=by rw[Nat.div_lt_iff_lt_mul x];omega
 have C:=h _ hi;have D:ai G A f[k / A.size] (fun j v=>(q.drop (k / A.size*A.size))[j]? = some v):=ai.mono (fun _ _ h=>h) (fun j v E=>by rw[List.getElem?_drop];exact E) C;obtain⟨u,z,I⟩:=kX D (k % A.size) (Nat.mod_lt _ x);rw[List.getElem?_drop,Nat.mul_comm,Nat.div_add_mod,List.getElem?_eq_getElem B]at z;cases z;exact I
def dS(h:Nat→Option Obj)(A:Ty):ag→Option (List A.den)
 | .sl id=>match h id with
  | some (.arr _ B j)=>if e:B=A then some (e ▸ j)else none
  | some (.fz B j)=>if e:B=A then some (e ▸ j)else none
  | _=>none
 | .p β (.slice B) j=>if e:B=A then(if B.refs && β then none else some (e ▸ j))else none
 | .nils=>some []
 | _=>none
section
variable{P:Program}{Bw:Nat→Prop}{w0:b9 P}{ρ:Nat→Option Value}{φ:Nat→Nat→Prop}{h:Nat→Option Obj}{w:World}{new:Nat}
theorem gX(m:Mem Bw w0 ρ φ h w){A:Ty}{x:ag}{ys:List A.den}(f:dS h A x=some ys){v:Value}(z:V (Fr (own φ h) Bw w) ρ x v):
  ∃ad len cap,v = .slice ad len cap∧len=ys.length∧(∀i (h':i<ys.length),∃b,ad=some b∧ai (Fr (own φ h) Bw w false) A ys[i] (fun k v=>w.cell? (b.add (i*A.size+k))=some v)) ∧
   (ad=none→v = .slice none 0 0∨ys.length=0):=by
 have data:∀(β:Bool) (B:Ty) (j:List B.den),(B.refs && β)=false→V (Fr (own φ h) Bw w) ρ (.p β (.slice B) j) v →
   ∃ad len cap,v = .slice ad len cap∧len=j.length∧(∀i (h':i<j.length),∃b,ad=some b∧ai (Fr (own φ h) Bw w false) B j[i] (fun k v=>w.cell? (b.add (i*B.size+k))=some v)) ∧
   (ad=none→v = .slice none 0 0∨j.length=0):=fun β B j hb z=>by
  simp only[V,ai]at z;obtain⟨_,ad,len,cap,e,⟨hl,_⟩,z⟩:=z;refine⟨ad,len,cap,e.symm,hl,fun i hi=> ?_,fun M=> ?_⟩
  ·obtain⟨b,D,E⟩:=z i hi;refine⟨b,D,?_⟩;have J:ai (Fr (own φ h) Bw w β) B j[i] (fun k v=>w.cell? (b.add (i*B.size+k))=some v):=ai.zD (fun k v N I=>World.ji I.2.2 N) E;cases β with
   | false=>exact J
   | true=>exact jA (by simpa using hb) J
  ·rcases Nat.eq_zero_or_pos j.length with q | q
   ·exact .inr q
   ·obtain⟨b,D,_⟩:=z 0 q;rw[M]at D;cases D
 unfold dS at f;split at f
 ·rename_i id;split at f
  ·rename_i Z B j hi;split at f
   ·rename_i e;subst e;have C:some j=some ys:=f;cases C;obtain⟨u,D,O,hA,cells,L,R⟩:=m.ob id _ hi;simp only[V]at z;rw[z.1]at D;cases D;rcases L.2 with⟨rfl,X⟩ | ⟨g,cap,Y,rfl,r⟩
    ·exact⟨none,0,0,rfl,X.symm,fun i hi=>absurd hi (by omega),fun _=> .inl rfl⟩
    ·refine⟨_,_,_,rfl,rfl,fun i hi=>⟨_,rfl,ai.mono (fun _ _ h=>h) (fun k v I=>L.cells (g:=g) rfl _ _ I) (R i hi)⟩,fun e=>by cases e⟩
   ·cases f
  ·rename_i B j hi;split at f
   ·rename_i e;subst e;have C:some j=some ys:=f;cases C;obtain⟨u,D,E⟩:=m.ob id _ hi;simp only[V]at z;rw[z.1]at D;cases D;exact data false _ _ (by simp) E
   ·cases f
  ·cases f
 ·split at f
  ·rename_i e;subst e;split at f
   ·cases f
   ·rename_i j hb;have C:some j=some ys:=f;cases C;exact data _ _ _ (by simpa using hb) z
  ·cases f
 ·cases f;simp only[V]at z;subst z;exact⟨none,0,0,rfl,rfl,fun i hi=>absurd hi (by simp),fun _=> .inl rfl⟩
 ·cases f
theorem tB{t ty e:TypeId}{i:TypeInfo}{z:Value}(L:P.underlying t=some (.slice e))(hi:P.info? e=some i)(hz:i.zero=some z)
  (N:z.cells.size=i.size) (O:0<i.size) {v:Value} {n:Nat} {B:List Value} (p:w.ownsRow 0 e i.size v n B)
  {ad:Addr} {len c:Nat} {news:List Value} (hl:news.length=len*i.size) (f:∀j u,news[j]? = some u→w.cell? (ad.add j)=some u) (X:∀u∈news,u.oneCell'=true)
  (C:n+len≤maxLen) (m:(n+len)*i.bytes≤140737488355328) :
  ∃D w',(Builtin.append_ #[t,t] ty #[v,.slice (some ad) len c]).run P w = .ok D w'∧w'.ownsRow 0 e i.size D (n+len) (B++news)∧w.grownBy w' v.ownBlock ∧
   ∀k,D.ownBlock=some k→w.heap.size≤k∨v.ownBlock=some k:=by
 obtain⟨D,w',x,Y,Z,h4⟩:=run_append_own (P:=P) w 0 t ty e i z i.size i.bytes L hi hz rfl rfl N O v n B p ad len c news hl f X C m (Nat.zero_le _);refine⟨D,w',x,Y,Z,fun k E=> ?_⟩;have M:n+len≤9223372036854775807:=by simp only[maxLen]at C;omega
 rcases p.2 with⟨rfl,rfl⟩ | ⟨g,cap,I,rfl,_,hg,a1,a2,R,V⟩
 ·by_cases hm:len=0
  ·rw[h4.2 ⟨rfl,hm⟩]at E;cases E
  ·have:=run_append_nil (P:=P) w t ty e i z L hi hz ad len c news hl f (by omega) (by omega) (by rw[Nat.zero_add]at m;omega);rw[this]at x;cases x;simp only[Value.ownBlock,Option.some.injEq]at E;exact .inl (by omega)
 ·by_cases q:n+len≤cap
  ·have J:n*i.size+news.length≤I.size:=by rw[hl,R,←Nat.add_mul];exact Nat.mul_le_mul_right _ q
   have:=run_append_room (P:=P) w t ty e i L hi g n cap I hg ad len c news hl f X q J;rw[this]at x;cases x;exact .inr E
  ·have A:∀j u,B[j]? = some u→w.cell? ((⟨g,0,none⟩:Addr).add j)=some u:=p.cells (g:=g) rfl;have:=run_append_grow (P:=P) w t ty e i z L hi hz ⟨g,0,none⟩ n cap B p.1 A ad len c news hl f (by omega) (by omega) (growslice_fits (by omega) m);rw[this]at x;cases x;simp only[Value.ownBlock,Option.some.injEq]at E;exact .inl (by omega)
theorem gF{v:Value}{a:Option Addr}{n c:Nat}(h:v = .slice a n c):iB v=v.ownBlock:=by
 subst h;cases a <;> rfl
theorem oK{G:Addr→Value→Prop}{A:Ty}{f ys:List A.den}{m z:List Value}(hu:m.length=f.length*A.size)
  (B:∀i (h:i<f.length),ai G A f[i] (fun k v=>m[i*A.size+k]? = some v)) (C:∀i (h:i<ys.length),ai G A ys[i] (fun k v=>z[i*A.size+k]? = some v)) :
  ∀i (h:i<(f++ys).length),ai G A (f++ys)[i] (fun k v=>(m++z)[i*A.size+k]? = some v):=fun i hi=>by
 rcases Nat.lt_or_ge i f.length with q | q
 ·rw[List.getElem_append_left q];exact ai.mono (fun _ _ h=>h) (fun k v j=>by rw[List.getElem?_append_left (List.getElem?_eq_some_iff.1 j).1];exact j) (B i q)
 ·rw[List.getElem_append_right q];have p:i - f.length<ys.length:=by simp at hi;omega
  refine ai.mono (fun _ _ h=>h) (fun k v j=> ?_) (C _ p);have e:i*A.size=f.length*A.size+(i - f.length)*A.size:=by rw[←Nat.add_mul];congr 1;omega
  rw[List.getElem?_append_right (by rw[hu];omega),hu,←j];congr 1;omega
theorem u3(m:Mem Bw w0 ρ φ h w)(hn:ρ new=none){o:Oper}{a:Act}{t e:TypeId}{ti te:TI}(ht:aQ P t ti)(N:ti.k = .sl e)(a1:aQ P e te){A:Ty}(hT:te.T=some A)(h0:0<A.size)
  {xo yo:Operand} {x y:ag} (hx:V (Fr (own φ h) Bw w) ρ x (a.eval xo)) (hy:V (Fr (own φ h) Bw w) ρ y (a.eval yo)) (ho:o.op = .call { callee:= .builtin .append,args:= #[xo,yo],argTypes:= #[t,t] })
  {xs j:List A.den} {i0:Option Nat} {u:hZ}
  (a2:(x = .nils∧xs=[]∧i0=none∧u=[(new,some (.arr e A j))])∨(∃id,x = .sl id∧h id=some (.arr e A xs)∧i0=some id∧u=[(id,none),(new,some (.arr e A (xs++j)))]))
  (a7:dS h A y=some j) (hb:(xs.length+j.length)*te.bytes≤140737488355328) (bi:xs.length+j.length≤9223372036854775807) :
  Good P o a w (aE Bw w0 ρ φ h w new (.sl new) u):=by
 obtain⟨i,z,hi,hz,p,D,bs,a8,bt⟩:=a1.hi;obtain⟨a9,bv,bx⟩:=a1.hT A hT;have hu:=bd ht N;have q:i.size=A.size:=by rw[p,a9]
 obtain⟨cells,v,hv,f,O,ac⟩:∃cells v,a.eval xo=v∧w.ownsRow 0 e A.size v xs.length cells ∧
   (∀i (h':i<xs.length),ai (Fr (own φ h) Bw w false) A xs[i] (fun k v=>cells[i*A.size+k]? = some v)) ∧
   ∀k,v.ownBlock=some k→∃i o,i0=some i∧h i=some o∧o.live=true∧φ i k:=by
  rcases a2 with⟨rfl,rfl,rfl,_⟩ | ⟨id,rfl,a3,rfl,_⟩
  ·simp only[V]at hx;exact⟨[],_,hx,World.ownsRow_nil w 0 e _,fun i hi=>absurd hi (by simp),fun k N=>by cases N⟩
  ·simp only[V]at hx;obtain⟨u,q1,ax,_,cells,r1,r2⟩:=m.ob id _ a3;rw[hx.1]at q1;cases q1;obtain⟨_,aa,nn,cc,he⟩:=hx;exact⟨cells,_,rfl,r1,r2,fun k R=>⟨id,_,rfl,a3,rfl,ax _ (by rw[gF he];exact R)⟩⟩
 obtain⟨ad,len,cap,E,B,b1,L⟩:=gX m a7 hy;have a4:apply u h=bH (fun i=>if i0=some i then none else h i) new (some (.arr e A (xs++j))):=by
  rcases a2 with⟨_,rfl,rfl,rfl⟩ | ⟨id,_,_,rfl,rfl⟩
  ·rw[bn];rfl
  ·rw[vz];rfl
 have X:∀I w' (news:List Value),(Builtin.append_ #[t,t] o.type #[v,a.eval yo]).run P w = .ok I w'→w'.ownsRow 0 e A.size I (xs++j).length (cells++news)→w.grownBy w' v.ownBlock →
   (∀k,I.ownBlock=some k→w.heap.size≤k∨v.ownBlock=some k)→(∀i (h':i<j.length),ai (Fr (own φ h) Bw w false) A j[i] (fun k v=>news[i*A.size+k]? = some v)) →
   Good P o a w (aE Bw w0 ρ φ h w new (.sl new) u):=fun I w' news C h2 h3 h4 h5=>by
  have b2:∃aa nn cc,I = .slice aa nn cc:=by rcases h2.2 with⟨e,_⟩ | ⟨g,cap,b3,e,_⟩ <;> exact⟨_,_,_,e⟩
  refine Good.aH (v:=I) (w':=w') ?_ ?_
  ·simp only[execOp,ho,resolve,invoke,builtin,Sem.run_bind,Sem.run_pure,Result.andThen_ok,List.map_toArray,List.map_cons,List.map_nil,hv,C]
  ·obtain⟨aa,nn,cc,M⟩:=b2;refine cQ m i0 new (.arr e A (xs++j)) I v.ownBlock h3 ac (.inl hn) (fun _ k R=>h4 k (by rw[←gF M];exact R)) (fun F' b4 hF b5=> ?_) a4 (fun _=>rfl) (fun F' b4 hF b5 a5=> ?_)
   ·refine⟨fun _ h=>h,h0,cells++news,h2,fun i hi=>ai.mono (hF _) (fun _ _ h=>h) (oK f.1 O h5 i hi)⟩
   ·simp only[V];exact⟨a5,_,_,_,M⟩
 by_cases J:ad=none
 ·have b6:j.length=0:=by
   rcases L J with e | e
   ·rw[e]at E;simp only[Value.slice.injEq]at E;omega
   ·exact e
  have a6:j=[]:=List.eq_nil_of_length_eq_zero b6;rcases L J with e' | e'
  ·have C:=run_append_owned_none (P:=P) w 0 t o.type e i A.size hu hi v xs.length cells f;rw[←e']at C;refine X v w [] C (by rw[a6];simpa using f) ⟨rfl,rfl,rfl,Nat.le_refl _,fun _ _ _=>rfl⟩ (fun k N=> .inr N) (fun i hi=>absurd hi (by omega))
  ·subst J;have Y:len=0:=by omega
   subst Y;have C:(Builtin.append_ #[t,t] o.type #[v,.slice none 0 cap]).run P w = .ok v w:=by
    rcases f.2 with⟨rfl,_⟩ | ⟨g,cp,b3,rfl,_,_,be,_⟩
    ·simp[Builtin.append_,run_underlying hu,sizeOf,typeInfo,hi,Builtin.lenOf,Builtin.firstCells]
    ·simp[Builtin.append_,run_underlying hu,sizeOf,typeInfo,hi,Builtin.lenOf,Builtin.firstCells,be,storeCells]
   rw[←E]at C;refine X v w [] C (by rw[a6];simpa using f) ⟨rfl,rfl,rfl,Nat.le_refl _,fun _ _ _=>rfl⟩ (fun k N=> .inr N) (fun i hi=>absurd hi (by omega))
 ·obtain⟨b,rfl⟩:=Option.ne_none_iff_exists'.1 J;obtain⟨news,q1,q2,q3⟩:=kN (g:=fun k v=>w.cell? (b.add k)=some v) (fun i hi=>by
   obtain⟨b',e1,e2⟩:=b1 i hi;cases e1;exact e2)
  have Z:w.ownsRow 0 e i.size v xs.length cells:=by rw[q];exact f
  obtain⟨I,w',C,h2,h3,h4⟩:=tB (P:=P) (t:=t) (ty:=o.type) hu hi hz (by rw[a8,p]) (by omega) Z (ad:=b) (len:=len) (c:=cap) (news:=news) (by rw[q1,B,q]) q2 (nC q1 q3)
   (by unfold maxLen;omega) (by rw[D,B];exact hb)
  rw[←E]at C;refine X I w' news C ?_ h3 h4 q3;rw[q]at h2;rw[List.length_append,←B];exact h2
theorem wU(m:Mem Bw w0 ρ φ h w)(hn:ρ new=none){o:Oper}{a:Act}{t e:TypeId}{ti te:TI}(ht:aQ P t ti)(hk:ti.k = .sl e)(X:aQ P e te){A:Ty}(hT:te.T=some A)(h0:0<A.size)
  {xo yo:Operand} {id:Nat} {y:ag} (hx:V (Fr (own φ h) Bw w) ρ (.sl id) (a.eval xo)) (hy:V (Fr (own φ h) Bw w) ρ y (a.eval yo)) (ho:o.op = .call { callee:= .builtin .append,args:= #[xo,yo],argTypes:= #[t,t] })
  {xs ys:List A.den} (a8:h id=some (.cutz A xs)) (a9:dS h A y=some ys) (Y:0<ys.length) (hb:(xs.length+ys.length)*te.bytes≤140737488355328) (I:xs.length+ys.length≤9223372036854775807) :
  Good P o a w (aE Bw w0 ρ φ h w new (.sl new) [(new,some (.arr e A (xs++ys)))]):=by
 obtain⟨i,z,hi,hz,C,f,bs,aa,bt⟩:=X.hi;obtain⟨Z,bv,c3⟩:=X.hT A hT;have hu:=bd ht hk;have q:i.size=A.size:=by rw[C,Z]
 obtain⟨u,q1,⟨ac,q2⟩,q3⟩:=m.ob id _ a8;simp only[V]at hx;have J:a.eval xo=u:=by have:=hx.1;rw[q1]at this;cases this;rfl
 obtain⟨ad,len,cap,L,a1,a2,_⟩:=gX m a9 hy;obtain⟨b,ax,_⟩:=a2 0 Y;subst ax;obtain⟨B,M,n2,n3⟩:=kN (g:=fun k v=>w.cell? (b.add k)=some v) (fun i hi=>by
  obtain⟨b',e1,e2⟩:=a2 i hi;cases e1;exact e2)
 obtain⟨c4,be,bi,N,b1,a3,_⟩:=gX (h:=h) m (A:=A) (x:= .p false (.slice A) xs) (ys:=xs) (by simp[dS]) q3;rw[q2]at N;simp only[Value.slice.injEq]at N;obtain⟨rfl,rfl,rfl⟩:=N;have c5:A.size=i.size:=q.symm;have O:∀(c:List Value) (R:Nat),c.length=xs.length*A.size→(∀j (D:j<xs.length),ai (Fr (own φ h) Bw w false) A xs[j] (fun k v=>c[j*A.size+k]? = some v))→xs.length+ys.length≤R→R≤maxLen →
   (Builtin.append_ #[t,t] o.type #[a.eval xo,a.eval yo]).run P w = .ok (.slice (some ⟨w.heap.size,0,none⟩) (xs.length+ys.length) R) (w.drew.alloc (.cells (c.toArray++B.toArray++Builtin.zeroCells z.cells (R - (xs.length+ys.length))) e)) →
   Good P o a w (aE Bw w0 ρ φ h w new (.sl new) [(new,some (.arr e A (xs++ys)))]):=fun c R E o2 c1 c2 hr=>by
  obtain⟨m',hF⟩:=m.drew;refine Good.aH (v:=_) (w':=_) (by simp only[execOp,ho,resolve,invoke,builtin,Sem.run_bind,Sem.run_pure,Result.andThen_ok,List.map_toArray,List.map_cons,List.map_nil,hr];rfl) ?_;refine aE.after (u1:=[]) rfl hF ?_;refine cQ m' none new (.arr e A (xs++ys)) (.slice (some ⟨w.heap.size,0,none⟩) (xs.length+ys.length) R) none (World.grownBy_alloc w.drew _ none) (fun k e=>by cases e) (.inl hn) (fun _ k b2=> ?_) (fun F' b3 a4 b4=> ?_) (by rw[bn];rfl) (fun _=>rfl) (fun F' b3 a4 b4 a5=> ?_)
  ·simp only[iB,Option.some.injEq]at b2;left
   show w.heap.size≤k;omega
  ·refine⟨fun _ h=>h,h0,c++B,⟨by simp[E,M,Nat.add_mul],.inr ⟨w.heap.size,R,_,by simp,Nat.zero_le _,heap_alloc_new w.drew _,by simpa using c1,c2,?_,?_⟩⟩,fun j D=>ai.mono (fun a v hh=>a4 _ _ _ (hF _ _ _ hh)) (fun _ _ h=>h) (oK E o2 n3 j D)⟩
   ·simp only[Array.size_append,List.size_toArray,size_zeroCells,E,M,aa,C,Z];rw[←Nat.add_mul,←Nat.add_mul,Nat.add_sub_cancel' c1]
   ·simp only[Array.toList_append,List.length_append];rw[List.take_append_of_le_length (by simp[E,M,Nat.add_mul]),List.take_of_length_le (by simp[E,M,Nat.add_mul])]
  ·simp only[V];exact⟨a5,_,_,_,rfl⟩
 have a6:grownCap w (xs.length+ys.length) xs.length e≤maxLen:=grownCap_le_maxLen w _ _ e (by unfold maxLen;omega);have a7:=grownCap_ge w (xs.length+ys.length) xs.length e;subst a1;rcases Nat.eq_zero_or_pos xs.length with e0 | e0
 ·-- of nothing
  have b5:xs=[]:=List.eq_nil_of_length_eq_zero e0;subst b5;cases ac with
  | none =>
   have:=run_append_nil (P:=P) w t o.type e i z hu hi hz b ys.length cap B (by rw[M,q]) n2 Y (by simp at I;omega) (by rw[f];simp at hb;omega);refine O [] (grownCap w ys.length 0 e) (by simp) (fun j D=>absurd D (by simp)) (by simpa using grownCap_ge w ys.length 0 e) (grownCap_le_maxLen w _ _ e (by unfold maxLen;simp at I;omega)) ?_;rw[J,q2,L];simp only[List.length_nil,Nat.zero_add]at this ⊢;rw[this];simp
  | some bx =>
   have:=run_append_grow (P:=P) w t o.type e i z hu hi hz bx 0 0 [] (by simp) (fun j v D=>by simp at D) b ys.length cap B (by rw[M,q]) n2 (by omega) (by simp at I;omega) (growslice_fits (by omega) (by rw[f];simpa using hb));refine O [] _ (by simp) (fun j D=>absurd D (by simp)) a7 a6 ?_;rw[J,q2,L];exact this
 ·obtain⟨bx,b6,_⟩:=a3 0 e0;subst b6;obtain⟨c,E,o2,o3⟩:=kN (g:=fun k v=>w.cell? (bx.add k)=some v) (fun i hi=>by
   obtain⟨b',e1,e2⟩:=a3 i hi;cases e1;exact e2)
  have:=run_append_grow (P:=P) w t o.type e i z hu hi hz bx xs.length xs.length c (by rw[E,q]) o2 b ys.length cap B (by rw[M,q]) n2 (by omega) (by omega) (growslice_fits (by omega) (by rw[f];exact hb));refine O c _ E o3 a7 a6 ?_;rw[J,q2,L];exact this
end
end Go.Tv
