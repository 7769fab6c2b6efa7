/- Operations on memory: appends, new arrays. -/
import Derived.Test.YtbedjpdfkmfplaaGreatDoorTvG
namespace Go.Tv
open Go Go.RowKit
def Ty.refs:Ty→Bool
 | .prod a b=>a.refs || b.refs
 | .slice _=>true
 | .ptr _=>true
 | .tree _ _=>true
 | .mapi _ _=>true
 | _=>false
theorem kY{G G':Addr→Value→Prop}:∀ {T:Ty} {x:T.den} {g:Nat→Value→Prop},T.refs=false→Vcells G T x g→Vcells G' T x g
 | .int _,_,_,_,h=>h
 | .bool,_,_,_,h=>h
 | .str,_,_,_,h=>h
 | .flt,_,_,_,h=>h
 | .unit,_,_,_,_=>trivial
 | .prod a b,_,_,h,hv=>by
  simp only[Ty.refs,Bool.or_eq_false_iff]at h
  exact⟨kY h.1 hv.1,kY h.2 hv.2⟩
 | .slice _,_,_,h,_=>by cases h
 | .ptr _,_,_,h,_=>by cases h
 | .tree _ _,_,_,h,_=>by cases h
 | .arr _ _,_,_,_,hv=>hv
 | .mapi _ _,_,_,h,_=>by cases h
theorem Vcells.monoOne{F:Addr→Value→Prop}:∀ {T:Ty} {x:T.den} {g g':Nat→Value→Prop},(∀k v,v.oneCell'=true→g k v→g' k v)→Vcells F T x g→Vcells F T x g'
 | .int _,_,_,_,hg,h=>hg _ _ rfl h
 | .bool,_,_,_,hg,h=>hg _ _ rfl h
 | .str,_,_,_,hg,h=>hg _ _ rfl h
 | .flt,_,_,_,hg,⟨m,h,e⟩=>⟨m,hg _ _ rfl h,e⟩
 | .unit,_,_,_,_,_=>trivial
 | .prod _ _,_,_,_,hg,h=>⟨Vcells.monoOne hg h.1,Vcells.monoOne (fun k v hk hv=>hg _ v hk hv) h.2⟩
 | .slice _,_,_,_,hg,⟨ad,len,cap,h0,hl⟩=>⟨ad,len,cap,hg _ _ rfl h0,hl⟩
 | .ptr _,none,_,_,hg,h=>hg _ _ rfl h
 | .ptr _,some _,_,_,hg,⟨b,h0,hv⟩=>⟨b,hg _ _ rfl h0,hv⟩
 | .tree _ _,.node _ _ _,_,_,hg,h=>by
  simp only[Vcells,Vtree]at h ⊢
  obtain⟨h1,h2,ad,len,cap,h3,h4⟩:=h
  exact⟨hg _ _ rfl h1,hg _ _ rfl h2,ad,len,cap,hg _ _ rfl h3,h4⟩
 | .arr _ _,_,_,_,hg,h=>fun i hi=>hg _ _ rfl (h i hi)
 | .mapi _ _,_,_,_,hg,⟨r,h0,h⟩=>⟨r,hg _ _ rfl h0,h⟩
theorem Vcells.list{G:Addr→Value→Prop}:∀ {T:Ty} {x:T.den} {g:Nat→Value→Prop},Vcells G T x g →
  ∃us:List Value,us.length=T.size∧(∀k u,us[k]? = some u→g k u)∧Vcells G T x (fun k v=>us[k]? = some v)
 | .int k,x,g,h=>⟨[_],rfl,fun k u hk=>by cases k with | zero=>simp at hk;subst hk;exact h | succ k=>simp at hk,rfl⟩
 | .bool,x,g,h=>⟨[_],rfl,fun k u hk=>by cases k with | zero=>simp at hk;subst hk;exact h | succ k=>simp at hk,rfl⟩
 | .str,x,g,h=>⟨[_],rfl,fun k u hk=>by cases k with | zero=>simp at hk;subst hk;exact h | succ k=>simp at hk,rfl⟩
 | .flt,x,g,⟨m,h,e⟩=>⟨[_],rfl,fun k u hk=>by cases k with | zero=>simp at hk;subst hk;exact h | succ k=>simp at hk,m,rfl,e⟩
 | .unit,x,g,h=>⟨[],rfl,fun k u hk=>by simp at hk,trivial⟩
 | .prod a b,x,g,h=>by
  obtain⟨us,h1,h2,h3⟩:=Vcells.list h.1
  obtain⟨vs,h4,h5,h6⟩:=Vcells.list h.2
  refine⟨us++vs,by simp[h1,h4,Ty.size],fun k u hk=> ?_,?_,?_⟩
  ·rcases Nat.lt_or_ge k us.length with q | q
   ·rw[List.getElem?_append_left q]at hk;exact h2 k u hk
   ·rw[List.getElem?_append_right q]at hk
    have:=h5 _ _ hk
    rwa [h1,Nat.add_sub_cancel' (by omega)]at this
  ·exact Vcells.mono (fun _ _ h=>h) (fun k v hk=>by rw[List.getElem?_append_left (List.getElem?_eq_some_iff.1 hk).1];exact hk) h3
  ·exact Vcells.mono (fun _ _ h=>h) (fun k v hk=>by show(us++vs)[a.size+k]? = some v;rw[List.getElem?_append_right (by omega),h1,Nat.add_sub_cancel_left];exact hk) h6
 | .slice a,x,g,⟨ad,l,c,h0,hl,h⟩=>⟨[_],rfl,fun k u hk=>by cases k with | zero=>simp at hk;subst hk;exact h0 | succ k=>simp at hk,⟨ad,l,c,rfl,hl,h⟩⟩
 | .ptr a,none,g,h=>⟨[_],rfl,fun k u hk=>by cases k with | zero=>simp at hk;subst hk;exact h | succ k=>simp at hk,rfl⟩
 | .ptr a,some y,g,⟨b,h0,h⟩=>⟨[_],rfl,fun k u hk=>by cases k with | zero=>simp at hk;subst hk;exact h0 | succ k=>simp at hk,⟨b,rfl,h⟩⟩
 | .tree k1 k2,.node o s ks,g,h=>by
  simp only[Vcells,Vtree]at h
  obtain⟨h1,h2,ad,len,cap,h3,h4⟩:=h
  refine⟨[.int k1 o,.int k2 s,.slice ad len cap],rfl,fun k u hk=> ?_,?_⟩
  ·match k,hk with
   | 0,hk=>simp at hk;subst hk;exact h1
   | 1,hk=>simp at hk;subst hk;exact h2
   | 2,hk=>simp at hk;subst hk;exact h3
   | k+3,hk=>simp at hk
  ·simp only[Vcells,Vtree]
   exact⟨rfl,rfl,ad,len,cap,rfl,h4⟩
 | .arr k n,x,g,h=>by
  refine⟨x.1.map (Value.int k),by simp[Ty.size,x.2],fun i u hi=> ?_,fun i hi=>by simp[hi]⟩
  rw[List.getElem?_map]at hi
  rcases Nat.lt_or_ge i x.1.length with hl | hl
  ·rw[List.getElem?_eq_getElem hl]at hi
   cases hi
   exact h i hl
  ·rw[List.getElem?_eq_none hl]at hi
   cases hi
 | .mapi k1 k2,x,g,⟨r,h0,h⟩=>⟨[_],rfl,fun k u hk=>by cases k with | zero=>simp at hk;subst hk;exact h0 | succ k=>simp at hk,r,rfl,h⟩
theorem mY{G:Addr→Value→Prop}{A:Ty}:∀ {ys:List A.den} {g:Nat→Value→Prop},(∀i (h:i<ys.length),Vcells G A ys[i] (fun k v=>g (i*A.size+k) v)) →
  ∃us:List Value,us.length=ys.length*A.size∧(∀k u,us[k]? = some u→g k u)∧(∀i (h:i<ys.length),Vcells G A ys[i] (fun k v=>us[i*A.size+k]? = some v))
 | [],g,_=>⟨[],by simp,fun k u hk=>by simp at hk,fun i h=>absurd h (by simp)⟩
 | y::ys,g,h=>by
  obtain⟨us,h1,h2,h3⟩:=Vcells.list (Vcells.mono (g':=fun k v=>g k v) (fun _ _ h=>h) (fun k v hk=>by simpa using hk) (h 0 (by simp)))
  obtain⟨vs,h4,h5,h6⟩:=mY (ys:=ys) (g:=fun k v=>g (A.size+k) v) (fun i hi=>by
   have:=h (i+1) (by simp;omega)
   refine Vcells.mono (fun _ _ h=>h) (fun k v hk=> ?_) this
   rwa [Nat.succ_mul,Nat.add_comm (i*A.size) A.size,Nat.add_assoc]at hk)
  refine⟨us++vs,by simp[h1,h4,Nat.succ_mul];omega,fun k u hk=> ?_,fun i hi=> ?_⟩
  ·rcases Nat.lt_or_ge k us.length with q | q
   ·rw[List.getElem?_append_left q]at hk;exact h2 k u hk
   ·rw[List.getElem?_append_right q]at hk
    have:=h5 _ _ hk
    rwa [h1,Nat.add_sub_cancel' (by omega)]at this
  ·cases i with
   | zero=>exact Vcells.mono (fun _ _ h=>h) (fun k v hk=>by rw[Nat.zero_mul,Nat.zero_add,List.getElem?_append_left (List.getElem?_eq_some_iff.1 hk).1];exact hk) h3
   | succ i =>
    refine Vcells.mono (fun _ _ h=>h) (fun k v hk=> ?_) (h6 i (by simpa using hi))
    rw[List.getElem?_append_right (by rw[h1,Nat.succ_mul];omega),h1,←hk]
    congr 1
    rw[Nat.succ_mul];omega
theorem qW{G:Addr→Value→Prop}{A:Ty}{ys:List A.den}{us:List Value}(hl:us.length=ys.length*A.size)(h:∀i (h:i<ys.length),Vcells G A ys[i] (fun k v=>us[i*A.size+k]? = some v)):
  ∀u∈us,u.oneCell'=true:=fun u hu=>by
 obtain⟨k,hk,rfl⟩:=List.getElem_of_mem hu
 have h0:0<A.size:=by
  rcases Nat.eq_zero_or_pos A.size with e | e
  ·rw[e]at hl;omega
  ·exact e
 have hi:k / A.size<ys.length:=by rw[Nat.div_lt_iff_lt_mul h0];omega
 have h1:=h _ hi
 have h2:Vcells G A ys[k / A.size] (fun j v=>(us.drop (k / A.size*A.size))[j]? = some v):=Vcells.mono (fun _ _ h=>h) (fun j v hj=>by rw[List.getElem?_drop];exact hj) h1
 obtain⟨u,q1,q2⟩:=nZ h2 (k % A.size) (Nat.mod_lt _ h0)
 rw[List.getElem?_drop,Nat.mul_comm,Nat.div_add_mod,List.getElem?_eq_getElem hk]at q1
 cases q1
 exact q2
def fI(h:Nat→Option Obj)(A:Ty):AVal→Option (List A.den)
 | .sl id=>match h id with
  | some (.arr _ B xs)=>if e:B=A then some (e ▸ xs)else none
  | some (.fz B xs)=>if e:B=A then some (e ▸ xs)else none
  | _=>none
 | .p β (.slice B) xs=>if e:B=A then(if B.refs && β then none else some (e ▸ xs))else none
 | .nils=>some []
 | _=>none
section
variable{P:Program}{Bw:Nat→Prop}{w0:Base P}{ρ:Nat→Option Value}{φ:Nat→Nat→Prop}{h:Nat→Option Obj}{w:World}{new:Nat}
theorem jB(m:Mem Bw w0 ρ φ h w){A:Ty}{x:AVal}{ys:List A.den}(hd:fI h A x=some ys){v:Value}(hv:V (Fr (own φ h) Bw w) ρ x v):
  ∃ad len cap,v = .slice ad len cap∧len=ys.length∧(∀i (h':i<ys.length),∃b,ad=some b∧Vcells (Fr (own φ h) Bw w false) A ys[i] (fun k v=>w.cell? (b.add (i*A.size+k))=some v)) ∧
   (ad=none→v = .slice none 0 0∨ys.length=0):=by
 have data:∀(β:Bool) (B:Ty) (xs:List B.den),(B.refs && β)=false→V (Fr (own φ h) Bw w) ρ (.p β (.slice B) xs) v →
   ∃ad len cap,v = .slice ad len cap∧len=xs.length∧(∀i (h':i<xs.length),∃b,ad=some b∧Vcells (Fr (own φ h) Bw w false) B xs[i] (fun k v=>w.cell? (b.add (i*B.size+k))=some v)) ∧
   (ad=none→v = .slice none 0 0∨xs.length=0):=fun β B xs hb hv=>by
  simp only[V,Vcells]at hv
  obtain⟨_,ad,len,cap,e,⟨hl,_⟩,hv⟩:=hv
  refine⟨ad,len,cap,e.symm,hl,fun i hi=> ?_,fun e'=> ?_⟩
  ·obtain⟨b,q1,q2⟩:=hv i hi
   refine⟨b,q1,?_⟩
   have q3:Vcells (Fr (own φ h) Bw w β) B xs[i] (fun k v=>w.cell? (b.add (i*B.size+k))=some v):=Vcells.monoOne (fun k v h1 hk=>World.peek_cell hk.2.2 h1) q2
   cases β with
   | false=>exact q3
   | true=>exact kY (by simpa using hb) q3
  ·rcases Nat.eq_zero_or_pos xs.length with q | q
   ·exact .inr q
   ·obtain⟨b,q1,_⟩:=hv 0 q
    rw[e']at q1;cases q1
 unfold fI at hd
 split at hd
 ·rename_i id
  split at hd
  ·rename_i te B xs hi
   split at hd
   ·rename_i e
    subst e
    have hd':some xs=some ys:=hd
    cases hd'
    obtain⟨u,q1,hsa,hA,cells,r1,r2⟩:=m.ob id _ hi
    simp only[V]at hv
    rw[hv.1]at q1
    cases q1
    rcases r1.2 with⟨rfl,hn⟩ | ⟨g,cap,cur,rfl,r⟩
    ·exact⟨none,0,0,rfl,hn.symm,fun i hi=>absurd hi (by omega),fun _=> .inl rfl⟩
    ·refine⟨_,_,_,rfl,rfl,fun i hi=>⟨_,rfl,Vcells.mono (fun _ _ h=>h) (fun k v hk=>r1.cells (g:=g) rfl _ _ hk) (r2 i hi)⟩,fun e=>by cases e⟩
   ·cases hd
  ·rename_i B xs hi
   split at hd
   ·rename_i e
    subst e
    have hd':some xs=some ys:=hd
    cases hd'
    obtain⟨u,q1,q2⟩:=m.ob id _ hi
    simp only[V]at hv
    rw[hv.1]at q1
    cases q1
    exact data false _ _ (by simp) q2
   ·cases hd
  ·cases hd
 ·split at hd
  ·rename_i e
   subst e
   split at hd
   ·cases hd
   ·rename_i xs hb
    have hd':some xs=some ys:=hd
    cases hd'
    exact data _ _ _ (by simpa using hb) hv
  ·cases hd
 ·cases hd
  simp only[V]at hv
  subst hv
  exact⟨none,0,0,rfl,rfl,fun i hi=>absurd hi (by simp),fun _=> .inl rfl⟩
 ·cases hd
theorem E8{t ty e:TypeId}{i:TypeInfo}{z:Value}(ht:P.underlying t=some (.slice e))(hi:P.info? e=some i)(hz:i.zero=some z)
  (hzs:z.cells.size=i.size) (hsz:0<i.size) {v:Value} {n:Nat} {xs:List Value} (hown:w.ownsRow 0 e i.size v n xs)
  {ad:Addr} {len c:Nat} {news:List Value} (hl:news.length=len*i.size) (hnews:∀j u,news[j]? = some u→w.cell? (ad.add j)=some u) (h1:∀u∈news,u.oneCell'=true)
  (h63:n+len≤maxLen) (hbytes:(n+len)*i.bytes≤140737488355328) :
  ∃v' w',(Builtin.append_ #[t,t] ty #[v,.slice (some ad) len c]).run P w = .ok v' w'∧w'.ownsRow 0 e i.size v' (n+len) (xs++news)∧w.grownBy w' v.ownBlock ∧
   ∀k,v'.ownBlock=some k→w.heap.size≤k∨v.ownBlock=some k:=by
 obtain⟨v',w',hr,h2,h3,h4⟩:=run_append_own (P:=P) w 0 t ty e i z i.size i.bytes ht hi hz rfl rfl hzs hsz v n xs hown ad len c news hl hnews h1 h63 hbytes (Nat.zero_le _)
 refine⟨v',w',hr,h2,h3,fun k hk=> ?_⟩
 have hsmall:n+len≤9223372036854775807:=by simp only[maxLen]at h63;omega
 rcases hown.2 with⟨rfl,rfl⟩ | ⟨g,cap,cur,rfl,_,hg,hnc,hcm,hcs,htake⟩
 ·by_cases hm:len=0
  ·rw[h4.2 ⟨rfl,hm⟩]at hk;cases hk
  ·have:=run_append_nil (P:=P) w t ty e i z ht hi hz ad len c news hl hnews (by omega) (by omega) (by rw[Nat.zero_add]at hbytes;omega)
   rw[this]at hr
   cases hr
   simp only[Value.ownBlock,Option.some.injEq]at hk
   exact .inl (by omega)
 ·by_cases hroom:n+len≤cap
  ·have hfit:n*i.size+news.length≤cur.size:=by rw[hl,hcs,←Nat.add_mul];exact Nat.mul_le_mul_right _ hroom
   have:=run_append_room (P:=P) w t ty e i ht hi g n cap cur hg ad len c news hl hnews h1 hroom hfit
   rw[this]at hr
   cases hr
   exact .inr hk
  ·have holds:∀j u,xs[j]? = some u→w.cell? ((⟨g,0,none⟩:Addr).add j)=some u:=hown.cells (g:=g) rfl
   have:=run_append_grow (P:=P) w t ty e i z ht hi hz ⟨g,0,none⟩ n cap xs hown.1 holds ad len c news hl hnews (by omega) (by omega) (growslice_fits (by omega) hbytes)
   rw[this]at hr
   cases hr
   simp only[Value.ownBlock,Option.some.injEq]at hk
   exact .inl (by omega)
theorem iS{v:Value}{a:Option Addr}{n c:Nat}(h:v = .slice a n c):jT v=v.ownBlock:=by
 subst h;cases a <;> rfl
theorem tJ{G:Addr→Value→Prop}{A:Ty}{xs ys:List A.den}{us vs:List Value}(hu:us.length=xs.length*A.size)
  (h1:∀i (h:i<xs.length),Vcells G A xs[i] (fun k v=>us[i*A.size+k]? = some v)) (h2:∀i (h:i<ys.length),Vcells G A ys[i] (fun k v=>vs[i*A.size+k]? = some v)) :
  ∀i (h:i<(xs++ys).length),Vcells G A (xs++ys)[i] (fun k v=>(us++vs)[i*A.size+k]? = some v):=fun i hi=>by
 rcases Nat.lt_or_ge i xs.length with q | q
 ·rw[List.getElem_append_left q]
  exact Vcells.mono (fun _ _ h=>h) (fun k v hk=>by rw[List.getElem?_append_left (List.getElem?_eq_some_iff.1 hk).1];exact hk) (h1 i q)
 ·rw[List.getElem_append_right q]
  have hlt:i - xs.length<ys.length:=by simp at hi;omega
  refine Vcells.mono (fun _ _ h=>h) (fun k v hk=> ?_) (h2 _ hlt)
  have e:i*A.size=xs.length*A.size+(i - xs.length)*A.size:=by rw[←Nat.add_mul];congr 1;omega
  rw[List.getElem?_append_right (by rw[hu];omega),hu,←hk]
  congr 1
  omega
theorem I8(m:Mem Bw w0 ρ φ h w)(hn:ρ new=none){o:Oper}{a:Act}{t e:TypeId}{ti te:TI}(ht:TIok P t ti)(hk:ti.k = .sl e)(hte:TIok P e te){A:Ty}(hT:te.T=some A)(h0:0<A.size)
  {xo yo:Operand} {x y:AVal} (hx:V (Fr (own φ h) Bw w) ρ x (a.eval xo)) (hy:V (Fr (own φ h) Bw w) ρ y (a.eval yo)) (ho:o.op = .call { callee:= .builtin .append,args:= #[xo,yo],argTypes:= #[t,t] })
  {xs ys:List A.den} {i0:Option Nat} {u:jJ}
  (hxs:(x = .nils∧xs=[]∧i0=none∧u=[(new,some (.arr e A ys))])∨(∃id,x = .sl id∧h id=some (.arr e A xs)∧i0=some id∧u=[(id,none),(new,some (.arr e A (xs++ys)))]))
  (hys:fI h A y=some ys) (hb:(xs.length+ys.length)*te.bytes≤140737488355328) (hb':xs.length+ys.length≤9223372036854775807) :
  Good P o a w (Post Bw w0 ρ φ h w new (.sl new) u):=by
 obtain⟨i,z,hi,hz,hsize,hbytes,hz1,hz2,hz3⟩:=hte.hi
 obtain⟨hT1,hT2,hT3⟩:=hte.hT A hT
 have hu:=bK ht hk
 have hisz:i.size=A.size:=by rw[hsize,hT1]
 obtain⟨cells,v,hv,hrow,hrows,hI0⟩:∃cells v,a.eval xo=v∧w.ownsRow 0 e A.size v xs.length cells ∧
   (∀i (h':i<xs.length),Vcells (Fr (own φ h) Bw w false) A xs[i] (fun k v=>cells[i*A.size+k]? = some v)) ∧
   ∀k,v.ownBlock=some k→∃i o,i0=some i∧h i=some o∧o.live=true∧φ i k:=by
  rcases hxs with⟨rfl,rfl,rfl,_⟩ | ⟨id,rfl,hid,rfl,_⟩
  ·simp only[V]at hx
   exact⟨[],_,hx,World.ownsRow_nil w 0 e _,fun i hi=>absurd hi (by simp),fun k hk=>by cases hk⟩
  ·simp only[V]at hx
   obtain⟨u,q1,hsa,_,cells,r1,r2⟩:=m.ob id _ hid
   rw[hx.1]at q1
   cases q1
   obtain⟨_,aa,nn,cc,he⟩:=hx
   exact⟨cells,_,rfl,r1,r2,fun k hk'=>⟨id,_,rfl,hid,rfl,hsa _ (by rw[iS he];exact hk')⟩⟩
 obtain⟨ad,len,cap,hve,hlen,hyr,hnil⟩:=jB m hys hy
 have happ:apply u h=upd (fun i=>if i0=some i then none else h i) new (some (.arr e A (xs++ys))):=by
  rcases hxs with⟨_,rfl,rfl,rfl⟩ | ⟨id,_,_,rfl,rfl⟩
  ·rw[bQ];rfl
  ·rw[M8];rfl
 have fin:∀v' w' (news:List Value),(Builtin.append_ #[t,t] o.type #[v,a.eval yo]).run P w = .ok v' w'→w'.ownsRow 0 e A.size v' (xs++ys).length (cells++news)→w.grownBy w' v.ownBlock →
   (∀k,v'.ownBlock=some k→w.heap.size≤k∨v.ownBlock=some k)→(∀i (h':i<ys.length),Vcells (Fr (own φ h) Bw w false) A ys[i] (fun k v=>news[i*A.size+k]? = some v)) →
   Good P o a w (Post Bw w0 ρ φ h w new (.sl new) u):=fun v' w' news hr h2 h3 h4 h5=>by
  have hvs:∃aa nn cc,v' = .slice aa nn cc:=by
   rcases h2.2 with⟨e,_⟩ | ⟨g,cap,cur,e,_⟩ <;> exact⟨_,_,_,e⟩
  refine Good.of_run (v:=v') (w':=w') ?_ ?_
  ·simp only[execOp,ho,resolve,invoke,builtin,Sem.run_bind,Sem.run_pure,Result.andThen_ok,List.map_toArray,List.map_cons,List.map_nil,hv,hr]
  ·obtain⟨aa,nn,cc,hve'⟩:=hvs
   refine dT m i0 new (.arr e A (xs++ys)) v' v.ownBlock h3 hI0 (.inl hn) (fun _ k hk'=>h4 k (by rw[←iS hve'];exact hk')) (fun F' ρ' hF hρ=> ?_) happ (fun _=>rfl) (fun F' ρ' hF hρ hnew=> ?_)
   ·refine⟨fun _ h=>h,h0,cells++news,h2,fun i hi=>Vcells.mono (hF _) (fun _ _ h=>h) (tJ hrow.1 hrows h5 i hi)⟩
   ·simp only[V]
    exact⟨hnew,_,_,_,hve'⟩
 by_cases had:ad=none
 ·have hl0:ys.length=0:=by
   rcases hnil had with e | e
   ·rw[e]at hve;simp only[Value.slice.injEq]at hve;omega
   ·exact e
  have hy0:ys=[]:=List.eq_nil_of_length_eq_zero hl0
  rcases hnil had with e' | e'
  ·have hr:=run_append_owned_none (P:=P) w 0 t o.type e i A.size hu hi v xs.length cells hrow
   rw[←e']at hr
   refine fin v w [] hr (by rw[hy0];simpa using hrow) ⟨rfl,rfl,rfl,Nat.le_refl _,fun _ _ _=>rfl⟩ (fun k hk=> .inr hk) (fun i hi=>absurd hi (by omega))
  ·subst had
   have hlen0:len=0:=by omega
   subst hlen0
   have hr:(Builtin.append_ #[t,t] o.type #[v,.slice none 0 cap]).run P w = .ok v w:=by
    rcases hrow.2 with⟨rfl,_⟩ | ⟨g,cp,cur,rfl,_,_,hnc,_⟩
    ·simp[Builtin.append_,run_underlying hu,sizeOf,typeInfo,hi,Builtin.lenOf,Builtin.firstCells]
    ·simp[Builtin.append_,run_underlying hu,sizeOf,typeInfo,hi,Builtin.lenOf,Builtin.firstCells,hnc,storeCells]
   rw[←hve]at hr
   refine fin v w [] hr (by rw[hy0];simpa using hrow) ⟨rfl,rfl,rfl,Nat.le_refl _,fun _ _ _=>rfl⟩ (fun k hk=> .inr hk) (fun i hi=>absurd hi (by omega))
 ·obtain⟨b,rfl⟩:=Option.ne_none_iff_exists'.1 had
  obtain⟨news,q1,q2,q3⟩:=mY (g:=fun k v=>w.cell? (b.add k)=some v) (fun i hi=>by
   obtain⟨b',e1,e2⟩:=hyr i hi
   cases e1
   exact e2)
  have hrow':w.ownsRow 0 e i.size v xs.length cells:=by rw[hisz];exact hrow
  obtain⟨v',w',hr,h2,h3,h4⟩:=E8 (P:=P) (t:=t) (ty:=o.type) hu hi hz (by rw[hz2,hsize]) (by omega) hrow' (ad:=b) (len:=len) (c:=cap) (news:=news) (by rw[q1,hlen,hisz]) q2 (qW q1 q3)
   (by unfold maxLen;omega) (by rw[hbytes,hlen];exact hb)
  rw[←hve]at hr
  refine fin v' w' news hr ?_ h3 h4 q3
  rw[hisz]at h2
  rw[List.length_append,←hlen]
  exact h2
theorem R7(m:Mem Bw w0 ρ φ h w)(hn:ρ new=none){o:Oper}{a:Act}{t e:TypeId}{ti te:TI}(ht:TIok P t ti)(hk:ti.k = .sl e)(hte:TIok P e te){A:Ty}(hT:te.T=some A)(h0:0<A.size)
  {xo yo:Operand} {id:Nat} {y:AVal} (hx:V (Fr (own φ h) Bw w) ρ (.sl id) (a.eval xo)) (hy:V (Fr (own φ h) Bw w) ρ y (a.eval yo)) (ho:o.op = .call { callee:= .builtin .append,args:= #[xo,yo],argTypes:= #[t,t] })
  {xs ys:List A.den} (hid:h id=some (.cutz A xs)) (hys:fI h A y=some ys) (h0y:0<ys.length) (hb:(xs.length+ys.length)*te.bytes≤140737488355328) (hb':xs.length+ys.length≤9223372036854775807) :
  Good P o a w (Post Bw w0 ρ φ h w new (.sl new) [(new,some (.arr e A (xs++ys)))]):=by
 obtain⟨i,z,hi,hz,hsize,hbytes,hz1,hz2,hz3⟩:=hte.hi
 obtain⟨hT1,hT2,hT3⟩:=hte.hT A hT
 have hu:=bK ht hk
 have hisz:i.size=A.size:=by rw[hsize,hT1]
 obtain⟨u,q1,⟨ad0,q2⟩,q3⟩:=m.ob id _ hid
 simp only[V]at hx
 have hxu:a.eval xo=u:=by
  have:=hx.1
  rw[q1]at this
  cases this
  rfl
 obtain⟨ad,len,cap,hve,hlen,hyr,_⟩:=jB m hys hy
 obtain⟨b,hb1,_⟩:=hyr 0 h0y
 subst hb1
 obtain⟨news,n1,n2,n3⟩:=mY (g:=fun k v=>w.cell? (b.add k)=some v) (fun i hi=>by
  obtain⟨b',e1,e2⟩:=hyr i hi
  cases e1
  exact e2)
 obtain⟨adx,lenx,capx,hvx,hlenx,hxr,_⟩:=jB (h:=h) m (A:=A) (x:= .p false (.slice A) xs) (ys:=xs) (by simp[fI]) q3
 rw[q2]at hvx
 simp only[Value.slice.injEq]at hvx
 obtain⟨rfl,rfl,rfl⟩:=hvx
 have hbl:A.size=i.size:=hisz.symm
 have fin:∀(olds:List Value) (cp:Nat),olds.length=xs.length*A.size→(∀j (hj:j<xs.length),Vcells (Fr (own φ h) Bw w false) A xs[j] (fun k v=>olds[j*A.size+k]? = some v))→xs.length+ys.length≤cp→cp≤maxLen →
   (Builtin.append_ #[t,t] o.type #[a.eval xo,a.eval yo]).run P w = .ok (.slice (some ⟨w.heap.size,0,none⟩) (xs.length+ys.length) cp) (w.drew.alloc (.cells (olds.toArray++news.toArray++Builtin.zeroCells z.cells (cp - (xs.length+ys.length))) e)) →
   Good P o a w (Post Bw w0 ρ φ h w new (.sl new) [(new,some (.arr e A (xs++ys)))]):=fun olds cp o1 o2 c1 c2 hr=>by
  obtain⟨m',hF⟩:=m.drew
  refine Good.of_run (v:=_) (w':=_) (by simp only[execOp,ho,resolve,invoke,builtin,Sem.run_bind,Sem.run_pure,Result.andThen_ok,List.map_toArray,List.map_cons,List.map_nil,hr];rfl) ?_
  refine Post.after (u1:=[]) rfl hF ?_
  refine dT m' none new (.arr e A (xs++ys)) (.slice (some ⟨w.heap.size,0,none⟩) (xs.length+ys.length) cp) none (World.grownBy_alloc w.drew _ none) (fun k e=>by cases e) (.inl hn) (fun _ k hk'=> ?_) (fun F' ρ' hF' hρ=> ?_) (by rw[bQ];rfl) (fun _=>rfl) (fun F' ρ' hF' hρ hnew=> ?_)
  ·simp only[jT,Option.some.injEq]at hk'
   left
   show w.heap.size≤k
   omega
  ·refine⟨fun _ h=>h,h0,olds++news,⟨by simp[o1,n1,Nat.add_mul],.inr ⟨w.heap.size,cp,_,by simp,Nat.zero_le _,heap_alloc_new w.drew _,by simpa using c1,c2,?_,?_⟩⟩,fun j hj=>Vcells.mono (fun a v hh=>hF' _ _ _ (hF _ _ _ hh)) (fun _ _ h=>h) (tJ o1 o2 n3 j hj)⟩
   ·simp only[Array.size_append,List.size_toArray,size_zeroCells,o1,n1,hz2,hsize,hT1]
    rw[←Nat.add_mul,←Nat.add_mul,Nat.add_sub_cancel' c1]
   ·simp only[Array.toList_append,List.length_append]
    rw[List.take_append_of_le_length (by simp[o1,n1,Nat.add_mul]),List.take_of_length_le (by simp[o1,n1,Nat.add_mul])]
  ·simp only[V]
   exact⟨hnew,_,_,_,rfl⟩
 have hcm:grownCap w (xs.length+ys.length) xs.length e≤maxLen:=grownCap_le_maxLen w _ _ e (by unfold maxLen;omega)
 have hcg:=grownCap_ge w (xs.length+ys.length) xs.length e
 subst hlen
 rcases Nat.eq_zero_or_pos xs.length with e0 | e0
 ·-- of nothing
  have hx0:xs=[]:=List.eq_nil_of_length_eq_zero e0
  subst hx0
  cases ad0 with
  | none =>
   have:=run_append_nil (P:=P) w t o.type e i z hu hi hz b ys.length cap news (by rw[n1,hisz]) n2 h0y (by simp at hb';omega) (by rw[hbytes];simp at hb;omega)
   refine fin [] (grownCap w ys.length 0 e) (by simp) (fun j hj=>absurd hj (by simp)) (by simpa using grownCap_ge w ys.length 0 e) (grownCap_le_maxLen w _ _ e (by unfold maxLen;simp at hb';omega)) ?_
   rw[hxu,q2,hve]
   simp only[List.length_nil,Nat.zero_add]at this ⊢
   rw[this]
   simp
  | some bx =>
   have:=run_append_grow (P:=P) w t o.type e i z hu hi hz bx 0 0 [] (by simp) (fun j v hj=>by simp at hj) b ys.length cap news (by rw[n1,hisz]) n2 (by omega) (by simp at hb';omega) (growslice_fits (by omega) (by rw[hbytes];simpa using hb))
   refine fin [] _ (by simp) (fun j hj=>absurd hj (by simp)) hcg hcm ?_
   rw[hxu,q2,hve]
   exact this
 ·obtain⟨bx,hbx,_⟩:=hxr 0 e0
  subst hbx
  obtain⟨olds,o1,o2,o3⟩:=mY (g:=fun k v=>w.cell? (bx.add k)=some v) (fun i hi=>by
   obtain⟨b',e1,e2⟩:=hxr i hi
   cases e1
   exact e2)
  have:=run_append_grow (P:=P) w t o.type e i z hu hi hz bx xs.length xs.length olds (by rw[o1,hisz]) o2 b ys.length cap news (by rw[n1,hisz]) n2 (by omega) (by omega) (growslice_fits (by omega) (by rw[hbytes];exact hb))
  refine fin olds _ o1 o3 hcg hcm ?_
  rw[hxu,q2,hve]
  exact this
end
end Go.Tv
