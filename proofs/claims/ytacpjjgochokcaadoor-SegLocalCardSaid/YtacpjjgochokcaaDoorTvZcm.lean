/- Stretches of rows; expressions the other way round. -/
import Derived.Test.YtacpjjgochokcaaDoorTvYm
import Derived.Test.YtacpjjgochokcaaDoorTvT06xa
namespace Go.Tv
open Go
def W7(w:Wd)(i j:Nat):Wd:=(w.take j).drop i
def Et(A:Wd→Prop)(w:Wd)(x:Nat→Prop)(j:Nat):Prop:=∃i,i≤j∧j≤w.length∧x i∧A (W7 w i j)
theorem aDF(w:Wd)(i:Nat):W7 w i i=[]:=by
 simp only[W7];exact List.drop_eq_nil_of_le (by simp;omega)
theorem tL{w:Wd}{i j:Nat}(h:j≤w.length):(W7 w i j).length=j - i:=by simp only[W7,List.length_drop,List.length_take];omega
theorem aBb{w:Wd}{i k j:Nat}(h1:i≤k)(h2:k≤j):W7 w i j=W7 w i k++W7 w k j:=by
 simp only[W7]
 have e:w.take j=w.take k++(w.take j).drop k:=by
  conv=>lhs;rw[←List.take_append_drop k (w.take j)]
  rw[List.take_take,Nat.min_eq_left h2]
 rcases Nat.lt_or_ge w.length k with hk | hk
 ·rw[List.take_of_length_le (by omega:w.length≤k),List.take_of_length_le (by omega:w.length≤j),List.drop_eq_nil_of_le (by omega:w.length≤k),List.append_nil]
 ·conv=>lhs;rw[e]
  rw[List.drop_append_of_le_length (by simp;omega)]
theorem C7{w u v:Wd}{i j:Nat}(hij:i≤j)(hj:j≤w.length)(h:W7 w i j=u++v):∃k,i≤k∧k≤j∧u=W7 w i k∧v=W7 w k j:=by
 have hl:=tL (i:=i) hj
 rw[h,List.length_append]at hl
 have h2:=aBb (w:=w) (i:=i) (k:=i+u.length) (j:=j) (by omega) (by omega)
 rw[h]at h2
 have h3:(W7 w i (i+u.length)).length=u.length:=by rw[tL (by omega)];omega
 obtain⟨e1,e2⟩:=List.append_inj h2 (by omega)
 exact⟨i+u.length,by omega,by omega,e1,e2⟩
theorem aAL{w:Wd}{i:Nat}(h:i<w.length):W7 w i (i+1)=[w.getD i 0]:=by
 simp only[W7]
 rw[eW (d:=0) h,List.drop_append_of_le_length (by simp;omega),List.drop_eq_nil_of_le (by simp;omega)]
 rfl
section
variable{A B:Wd→Prop}{w:Wd}{x y:Nat→Prop}{j:Nat}
theorem Et.mono(h:∀i,x i→y i):Et A w x j→Et A w y j:=fun⟨i,h1,h2,h3,h4⟩=>⟨i,h1,h2,h _ h3,h4⟩
theorem Et.imp(h:∀u,A u→B u):Et A w x j→Et B w x j:=fun⟨i,h1,h2,h3,h4⟩=>⟨i,h1,h2,h3,h _ h4⟩
theorem Et.congr(h:∀u,A u↔B u):Et A w x j↔Et B w x j:=⟨Et.imp fun u=>(h u).1,Et.imp fun u=>(h u).2⟩
theorem Et.eps(hj:j≤w.length):Et (fun u=>u=[]) w x j↔x j:=by
 constructor
 ·rintro⟨i,h1,h2,h3,h4⟩
  have:=tL (i:=i) h2
  rw[h4]at this
  have:i=j:=by simp at this;omega
  exact this ▸ h3
 ·exact fun h=>⟨j,Nat.le_refl _,hj,h,aDF _ _⟩
theorem Et.or:Et (fun u=>A u∨B u) w x j↔Et A w x j∨Et B w x j:=by
 constructor
 ·rintro⟨i,h1,h2,h3,h4 | h4⟩
  ·exact .inl ⟨i,h1,h2,h3,h4⟩
  ·exact .inr ⟨i,h1,h2,h3,h4⟩
 ·rintro(⟨i,h1,h2,h3,h4⟩ | ⟨i,h1,h2,h3,h4⟩)
  ·exact⟨i,h1,h2,h3,.inl h4⟩
  ·exact⟨i,h1,h2,h3,.inr h4⟩
theorem Et.no:¬Et (fun _=>False) w x j:=fun⟨_,_,_,_,h⟩=>h
theorem Et.cat:Et (Cat A B) w x j↔Et B w (Et A w x) j:=by
 constructor
 ·rintro⟨i,h1,h2,h3,u,v,h4,h5,h6⟩
  obtain⟨k,k1,k2,rfl,rfl⟩:=C7 h1 h2 h4
  exact⟨k,k2,h2,⟨i,k1,by omega,h3,h5⟩,h6⟩
 ·rintro⟨k,h1,h2,⟨i,k1,k2,k3,k4⟩,h3⟩
  exact⟨i,by omega,h2,k3,_,_,aBb k1 h1,k4,h3⟩
theorem Et.set{s:Int}(hj:j≤w.length):Et (fun u=>∃c,u=[c]∧P5 s c) w x j↔∃i,j=i+1∧x i∧P5 s (w.getD i 0):=by
 constructor
 ·rintro⟨i,h1,h2,h3,c,h4,h5⟩
  have:=tL (i:=i) h2
  rw[h4]at this
  have e:j=i+1:=by simp at this;omega
  subst e
  rw[aAL (by omega)]at h4
  simp only[List.cons.injEq,and_true]at h4
  exact⟨i,rfl,h3,h4 ▸ h5⟩
 ·rintro⟨i,rfl,h3,h5⟩
  exact⟨i,by omega,hj,h3,_,aAL (by omega),h5⟩
theorem Et.star{out:Nat→Prop}(h0:∀j,x j→out j)(hs:∀j,Et A w out j→out j):Et (Star A) w x j→out j:=by
 rintro⟨i,h1,h2,h3,h4⟩
 suffices hh:∀u,Star A u→∀i j,i≤j→j≤w.length→u=W7 w i j→out i→out j from hh _ h4 i j h1 h2 rfl (h0 _ h3)
 intro u hu
 induction hu with
 | nil =>
  intro i j h1 h2 e ho
  have:=tL (i:=i) h2
  rw[←e]at this
  have:i=j:=by simp at this;omega
  exact this ▸ ho
 | app hu hv ih =>
  intro i j h1 h2 e ho
  obtain⟨k,k1,k2,rfl,rfl⟩:=C7 h1 h2 e.symm
  exact ih k j k2 h2 rfl (hs k ⟨i,k1,by omega,ho,hu⟩)
theorem Et.plus{out:Nat→Prop}(h0:∀j,Et A w x j→out j)(hs:∀j,Et A w out j→out j)(h:Et (Plus A) w x j):out j :=
 Et.star h0 hs (Et.cat.1 h)
theorem Plus.star{u:Wd}(h:Plus A u):Star A u:=by obtain⟨p,q,rfl,hp,hq⟩:=h;exact .app hp hq
end
/-! ### The other way round -/
mutual
def kS:Tree→Tree
 | .node o s ks=> .node o s (if o=2 then(dO ks).reverse else dO ks)
def dO:List Tree→List Tree
 | []=>[]
 | k::ks=>kS k::dO ks
end
theorem jZ:∀ks:List Tree,dO ks=ks.map kS
 | []=>by simp only[dO,List.map_nil]
 | k::ks=>by simp only[dO,List.map_cons,jZ ks]
theorem oH:∀(xs ys:List Tree) (w:Wd),K5 (xs++ys) w↔Cat (K5 xs) (K5 ys) w
 | [],ys,w=>by
  simp only[List.nil_append,K5]
  exact⟨fun h=>⟨[],w,rfl,rfl,h⟩,fun⟨u,v,e,hu,hv⟩=>by cases hu;rw[e];exact hv⟩
 | x::xs,ys,w=>by
  simp only[List.cons_append,K5]
  constructor
  ·rintro⟨u,v,rfl,h1,h2⟩
   obtain⟨p,q,rfl,h3,h4⟩:=(oH xs ys v).1 h2
   exact⟨u++p,q,by simp,⟨u,p,rfl,h1,h3⟩,h4⟩
  ·rintro⟨p,q,rfl,h3,h4⟩
   obtain⟨u,v,rfl,h1,h2⟩:=h3
   exact⟨u,v++q,by simp,h1,(oH xs ys _).2 ⟨v,q,rfl,h2,h4⟩⟩
theorem Star.rev{A B:Wd→Prop}(h:∀w,A w.reverse→B w){w:Wd}(hs:Star A w):Star B w.reverse:=by
 induction hs with
 | nil=>exact .nil
 | @app u v hu hv ih =>
  rw[List.reverse_append]
  exact ih.append (.one (h _ (by rw[List.reverse_reverse];exact hu)))
theorem Star.rev_iff{A B:Wd→Prop}(h:∀w,A w.reverse↔B w)(w:Wd):Star A w.reverse↔Star B w :=
 ⟨fun hs=>by have:=hs.rev fun w=>(h w).1;rwa [List.reverse_reverse]at this,fun hs=>hs.rev fun w hb=>by have:=(h w.reverse).2 hb;rwa [List.reverse_reverse]at this⟩
mutual
theorem qN:∀(t:Tree) (w:Wd),Lg (kS t) w.reverse↔Lg t w
 | .node o s ks,w=>by
  simp only[kS,Lg]
  by_cases h1:o=1
  ·rw[if_pos h1,if_pos h1]
   constructor
   ·rintro⟨c,e,hc⟩
    refine⟨c,?_,hc⟩
    have:=congrArg List.reverse e
    simpa using this
   ·rintro⟨c,rfl,hc⟩;exact⟨c,rfl,hc⟩
  rw[if_neg h1,if_neg h1]
  by_cases h2:o=2
  ·rw[if_pos h2,if_pos h2,if_pos h2];exact yE ks w
  simp only[if_neg h2]
  by_cases h3:o=3
  ·rw[if_pos h3,if_pos h3];exact P8 ks w
  rw[if_neg h3,if_neg h3]
  by_cases h4:o=4
  ·rw[if_pos h4,if_pos h4];exact Star.rev_iff (tQ ks) w
  rw[if_neg h4,if_neg h4]
  by_cases h5:o=5
  ·rw[if_pos h5,if_pos h5]
   by_cases e:w=[]
   ·subst e
    have hh:=tQ ks []
    simp only[List.reverse_nil]at hh ⊢
    constructor
    ·rintro⟨u,v,e,hu,hv⟩
     obtain⟨rfl,rfl⟩:=List.append_eq_nil_iff.1 e.symm
     exact⟨[],[],rfl,hh.1 hu,.nil⟩
    ·rintro⟨u,v,e,hu,hv⟩
     obtain⟨rfl,rfl⟩:=List.append_eq_nil_iff.1 e.symm
     exact⟨[],[],rfl,hh.2 hu,.nil⟩
   ·rw[xR e,xR (by simpa using e)];exact Star.rev_iff (tQ ks) w
  rw[if_neg h5,if_neg h5]
  by_cases h6:o=6
  ·rw[if_pos h6,if_pos h6];exact or_congr (by simp) (tQ ks w)
  rw[if_neg h6,if_neg h6]
  simp
theorem yE:∀(ks:List Tree) (w:Wd),K5 (dO ks).reverse w.reverse↔K5 ks w
 | [],w=>by simp only[dO,K5,List.reverse_nil];simp
 | k::ks,w=>by
  simp only[dO,List.reverse_cons,oH]
  simp only[Cat,K5]
  constructor
  ·rintro⟨u,v,e,hu,p,q,rfl,hp,rfl⟩
   rw[List.append_nil]at e
   have e':w=p.reverse++u.reverse:=by
    have:=congrArg List.reverse e;simpa using this
   exact⟨p.reverse,u.reverse,e',(qN k p.reverse).1 (by rw[List.reverse_reverse];exact hp),(yE ks u.reverse).1 (by rw[List.reverse_reverse];exact hu)⟩
  ·rintro⟨u,v,rfl,hu,hv⟩
   exact⟨v.reverse,u.reverse,by simp,(yE ks v).2 hv,u.reverse,[],by simp,(qN k u).2 hu,rfl⟩
theorem P8:∀(ks:List Tree) (w:Wd),LgA (dO ks) w.reverse↔LgA ks w
 | [],w=>by simp only[dO,LgA]
 | k::ks,w=>by simp only[dO,LgA,qN k w,P8 ks w]
theorem tQ:∀(ks:List Tree) (w:Wd),LgH (dO ks) w.reverse↔LgH ks w
 | [],w=>by simp only[dO,LgH]
 | k::ks,w=>by simp only[dO,LgH,qN k w]
end
theorem aAT(k:Tree)(w:Wd):K5 [k] w↔Lg k w:=by
 simp only[K5]
 exact⟨fun⟨u,v,e,h,h2⟩=>by subst h2;rw[List.append_nil]at e;exact e ▸ h,fun h=>⟨w,[],by simp,h,rfl⟩⟩
theorem aDf(ks:List Tree)(k:Tree)(w:Wd):K5 (ks++[k]) w↔Cat (K5 ks) (Lg k) w:=by
 rw[oH]
 exact⟨fun⟨u,v,e,h,h2⟩=>⟨u,v,e,h,(aAT k v).1 h2⟩,fun⟨u,v,e,h,h2⟩=>⟨u,v,e,h,(aAT k v).2 h2⟩⟩
theorem S5:∀(ks:List Tree) (k:Tree) (w:Wd),LgA (ks++[k]) w↔LgA ks w∨Lg k w
 | [],k,w=>by simp only[List.nil_append,LgA,or_false,false_or]
 | x::xs,k,w=>by simp only[List.cons_append,LgA,S5 xs k w,or_assoc]
def Tok:Nat→Tree→Prop
 | 0,_=>False
 | d+1,t=>U32 t.set∧t.kids.length≤1000∧∀k∈t.kids,Tok d k
theorem Tok.mono:∀ {d e:Nat} {t:Tree},d≤e→Tok d t→Tok e t
 | 0,_,_,_,h=>h.elim
 | d+1,0,_,h,_=>absurd h (by omega)
 | d+1,e+1,t,h,ht=>⟨ht.1,ht.2.1,fun k hk=>(ht.2.2 k hk).mono (by omega)⟩
end Go.Tv
namespace Go.Tv
open Go
abbrev S4:=Int×Int×Int×Int
def W4(s:S4):Prop:=U64 s.1∧U64 s.2.1∧U64 s.2.2.1∧U64 s.2.2.2
def me(s:S4)(i:Nat):Bool:=bt (([s.1,s.2.1,s.2.2.1,s.2.2.2]:List Int).getD (i / 64) 0) (i % 64)
def m9(a b:S4):S4:=(aG .or .u64 a.1 b.1,aG .or .u64 a.2.1 b.2.1,aG .or .u64 a.2.2.1 b.2.2.1,aG .or .u64 a.2.2.2 b.2.2.2)
abbrev z4:S4:=(0,0,0,0)
theorem U64.zero:U64 0:=⟨by decide,by decide⟩
theorem wZ(i:Nat):bt 0 i=false:=by simp[bt]
theorem W4.z:W4 z4:=⟨U64.zero,U64.zero,U64.zero,U64.zero⟩
theorem kN{P:Nat→Prop}(h0:P 0)(h1:P 1)(h2:P 2)(h3:P 3){q:Nat}(h:q<4):P q :=
 match q,h with
 | 0,_=>h0
 | 1,_=>h1
 | 2,_=>h2
 | 3,_=>h3
theorem W4.get{s:S4}(h:W4 s)(q:Nat):U64 (([s.1,s.2.1,s.2.2.1,s.2.2.2]:List Int).getD q 0):=by
 rcases Nat.lt_or_ge q 4 with hq | hq
 ·exact kN (P:=fun q=>U64 (([s.1,s.2.1,s.2.2.1,s.2.2.2]:List Int).getD q 0)) h.1 h.2.1 h.2.2.1 h.2.2.2 hq
 ·rw[List.getD_eq_getElem?_getD,List.getElem?_eq_none (by simpa using hq)]
  exact U64.zero
theorem I4(i:Nat):me z4 i=false:=by
 have:([z4.1,z4.2.1,z4.2.2.1,z4.2.2.2]:List Int).getD (i / 64) 0=0:=by
  rcases Nat.lt_or_ge (i / 64) 4 with hq | hq
  ·exact kN (P:=fun q=>([z4.1,z4.2.1,z4.2.2.1,z4.2.2.2]:List Int).getD q 0=0) rfl rfl rfl rfl hq
  ·rw[List.getD_eq_getElem?_getD,List.getElem?_eq_none (by simpa using hq)];rfl
 unfold me
 rw[this,wZ]
theorem y7{s:S4}{i:Nat}(h:256≤i):me s i=false:=by
 unfold me
 rw[List.getD_eq_getElem?_getD,List.getElem?_eq_none (by simp;omega)]
 exact wZ _
theorem aGO{s:S4}{i:Nat}(h:me s i=true):i<256:=by
 rcases Nat.lt_or_ge i 256 with h' | h'
 ·exact h'
 ·rw[y7 h']at h;cases h
theorem W4.or{a b:S4}(ha:W4 a)(hb:W4 b):W4 (m9 a b):=⟨ha.1.or hb.1,ha.2.1.or hb.2.1,ha.2.2.1.or hb.2.2.1,ha.2.2.2.or hb.2.2.2⟩
theorem vK{a b:S4}(ha:W4 a)(hb:W4 b)(i:Nat):me (m9 a b) i=(me a i || me b i):=by
 rcases Nat.lt_or_ge i 256 with h | h
 ·unfold me
  generalize i % 64=r
  exact kN (P:=fun q=>bt (([(m9 a b).1,(m9 a b).2.1,(m9 a b).2.2.1,(m9 a b).2.2.2]:List Int).getD q 0) r=(bt (([a.1,a.2.1,a.2.2.1,a.2.2.2]:List Int).getD q 0) r || bt (([b.1,b.2.1,b.2.2.1,b.2.2.2]:List Int).getD q 0) r))
   (aBh ha.1 hb.1 r) (aBh ha.2.1 hb.2.1 r) (aBh ha.2.2.1 hb.2.2.1 r) (aBh ha.2.2.2 hb.2.2.2 r) (show i / 64<4 by omega)
 ·rw[y7 h,y7 h,y7 h];rfl
theorem aCD{a b:S4}(ha:W4 a)(hb:W4 b)(h:∀i,me a i=me b i):a=b:=by
 have key:∀q,q<4→([a.1,a.2.1,a.2.2.1,a.2.2.2]:List Int).getD q 0=([b.1,b.2.1,b.2.2.1,b.2.2.2]:List Int).getD q 0:=fun q hq=>by
  refine aFI (ha.get q).1 (hb.get q).1 fun r=> ?_
  rcases Nat.lt_or_ge r 64 with hr | hr
  ·have:=h (q*64+r)
   unfold me at this
   rwa [show(q*64+r) / 64=q by omega,show(q*64+r) % 64=r by omega]at this
  ·rw[aDD (ha.get q) hr,aDD (hb.get q) hr]
 obtain⟨a1,a2,a3,a4⟩:=a
 obtain⟨b1,b2,b3,b4⟩:=b
 have e1:a1=b1:=key 0 (by decide)
 have e2:a2=b2:=key 1 (by decide)
 have e3:a3=b3:=key 2 (by decide)
 have e4:a4=b4:=key 3 (by decide)
 rw[e1,e2,e3,e4]
def ad4(i:Nat)(s:S4):S4:=m9 s (if i / 64=0 then((2 ^ (i % 64):Nat):Int)else 0,if i / 64=1 then((2 ^ (i % 64):Nat):Int)else 0,if i / 64=2 then((2 ^ (i % 64):Nat):Int)else 0,if i / 64=3 then((2 ^ (i % 64):Nat):Int)else 0)
theorem wR{x:Int}(hx:U64 x):aG .or .u64 x 0=x:=by
 rw[aAo hx U64.zero]
 have:=hx.1
 simp;omega
theorem aGt(i:Nat):W4 (if i / 64=0 then((2 ^ (i % 64):Nat):Int)else 0,if i / 64=1 then((2 ^ (i % 64):Nat):Int)else 0,if i / 64=2 then((2 ^ (i % 64):Nat):Int)else 0,if i / 64=3 then((2 ^ (i % 64):Nat):Int)else 0):=by
 have hp:U64 ((2 ^ (i % 64):Nat):Int):=U64.pow (Nat.mod_lt _ (by decide))
 refine⟨?_,?_,?_,?_⟩ <;> dsimp only <;> split <;> first | exact hp | exact U64.zero
theorem W4.ad{s:S4}(h:W4 s)(i:Nat):W4 (ad4 i s):=h.or (aGt i)
theorem aFq{s:S4}(h:W4 s){i:Nat}(hi:i<256)(j:Nat):me (ad4 i s) j=(me s j || decide (i=j)):=by
 unfold ad4
 rw[vK h (aGt i)]
 congr 1
 rcases Nat.lt_or_ge j 256 with hj | hj
 ·unfold me
  dsimp only
  have e:∀q,q<4→([if i / 64=0 then((2 ^ (i % 64):Nat):Int)else 0,if i / 64=1 then((2 ^ (i % 64):Nat):Int)else 0,if i / 64=2 then((2 ^ (i % 64):Nat):Int)else 0,if i / 64=3 then((2 ^ (i % 64):Nat):Int)else 0]:List Int).getD q 0=if i / 64=q then((2 ^ (i % 64):Nat):Int)else 0 :=
   fun q hq=>kN (P:=fun q=>([if i / 64=0 then((2 ^ (i % 64):Nat):Int)else 0,if i / 64=1 then((2 ^ (i % 64):Nat):Int)else 0,if i / 64=2 then((2 ^ (i % 64):Nat):Int)else 0,if i / 64=3 then((2 ^ (i % 64):Nat):Int)else 0]:List Int).getD q 0=if i / 64=q then((2 ^ (i % 64):Nat):Int)else 0) rfl rfl rfl rfl hq
  rw[e _ (show j / 64<4 by omega)]
  by_cases hq:i / 64=j / 64
  ·rw[if_pos hq,X3]
   refine decide_eq_decide.2 ⟨fun hh=>by omega,fun hh=>by rw[hh]⟩
  ·rw[if_neg hq,wZ]
   have:i≠j:=fun hh=>hq (by rw[hh])
   simp[this]
 ·rw[y7 hj]
  have:i≠j:=by omega
  simp[this]
mutual
def gF:Tree→Nat
 | .node o _ ks=>if o=1 then 1 else if o=2 then cR ks else if o=3 then cR ks else if o=4 then rQ ks else if o=5 then rQ ks else if o=6 then rQ ks else 0
def cR:List Tree→Nat
 | []=>0
 | k::ks=>gF k+cR ks
def rQ:List Tree→Nat
 | []=>0
 | k::_=>gF k
end
theorem gO:∀(xs ys:List Tree),cR (xs++ys)=cR xs+cR ys
 | [],ys=>by simp[cR]
 | x::xs,ys=>by simp[cR,gO xs ys,Nat.add_assoc]
theorem rW{α:Type}{K:Ty}(hK:K.isKey=true)(k k':K.den)(v:α):∀kv:List (K.den×α),bF K (d9 K kv k v) k'=if jQ K k k'=true then some v else bF K kv k'
 | []=>by simp only[d9,bF]
 | p::r=>by
  simp only[d9]
  by_cases h1:jQ K p.1 k=true
  ·rw[if_pos h1]
   simp only[bF]
   rw[(bX hK).1 h1]
   by_cases h2:jQ K k k'=true
   ·rw[if_pos h2,if_pos h2]
   ·rw[if_neg h2,if_neg h2,if_neg h2]
  ·rw[if_neg h1]
   simp only[bF]
   rw[rW hK k k' v r]
   by_cases h2:jQ K k k'=true
   ·have e:=(bX hK).1 h2
    subst e
    rw[if_neg h1,if_pos h2,if_pos h2]
   ·rw[if_neg h2,if_neg h2]
end Go.Tv
namespace Go.Proofs.YtacpjjgochokcaaDoor.T
open Go Go.Tv Go.Proofs
theorem aFt(i:Nat)(hi:i<1000):(IntKind.i64.wrap (Int.tdiv (i:Int) 64))=((i / 64:Nat):Int):=by
 rw[Int.tdiv_eq_ediv_of_nonneg (by omega),aR (by omega) (by omega)];omega
theorem aFb(i:Nat):(Int.tmod (i:Int) 64)=((i % 64:Nat):Int):=by
 rw[Int.tmod_eq_emod_of_nonneg (by omega)];omega
theorem X2{s:S4}(h:W4 s){i:Nat}(hi:i<256):fL s.1 s.2.1 s.2.2.1 s.2.2.2 (i:Int)=some (me s i):=by
 unfold fL
 simp only[aFt i (by omega),aFb,Int.toNat_natCast]
 have c0:¬(64:Int)=0:=by decide
 rw[if_pos c0,if_pos (by omega),if_pos c0,if_pos (by omega)]
 unfold me
 rw[aD5 (h.get _) (Nat.mod_lt _ (by decide))]
theorem xD(a b:S4):cW a.1 a.2.1 a.2.2.1 a.2.2.2 b.1 b.2.1 b.2.2.1 b.2.2.2=some (m9 a b):=by
 obtain⟨a1,a2,a3,a4⟩:=a
 obtain⟨b1,b2,b3,b4⟩:=b
 kernel_rfl
theorem aC0{s:S4}(h:W4 s){i:Nat}(hi:i<256):eO (i:Int) s.1 s.2.1 s.2.2.1 s.2.2.2=some (ad4 i s):=by
 unfold eO
 simp only[aFt i (by omega),aFb,Int.toNat_natCast]
 have c0:¬(64:Int)=0:=by decide
 rw[if_pos c0,if_pos (by omega),if_pos c0,if_pos (by omega),if_pos (by omega),aEg (Nat.mod_lt _ (by decide))]
 obtain⟨a1,a2,a3,a4⟩:=s
 obtain⟨h1,h2,h3,h4⟩:=h
 dsimp only at h1 h2 h3 h4
 unfold ad4 m9
 dsimp only
 generalize ((2 ^ (i % 64):Nat):Int)=p
 revert hi
 generalize hq:i / 64=q
 intro hi
 have hq4:q<4:=by omega
 clear hq hi
 revert q
 intro q hq
 refine kN (P:=fun q=>(some (if q=0 then aG .or .u64 (([a1,a2,a3,a4]:List Int).getD q 0) p else a1,if q=1 then aG .or .u64 (([a1,a2,a3,a4]:List Int).getD q 0) p else a2,if q=2 then aG .or .u64 (([a1,a2,a3,a4]:List Int).getD q 0) p else a3,if q=3 then aG .or .u64 (([a1,a2,a3,a4]:List Int).getD q 0) p else a4):Option S4) =
  some (aG .or .u64 a1 (if q=0 then p else 0),aG .or .u64 a2 (if q=1 then p else 0),aG .or .u64 a3 (if q=2 then p else 0),aG .or .u64 a4 (if q=3 then p else 0))) ?_ ?_ ?_ ?_ hq <;> simp[wR h1,wR h2,wR h3,wR h4]
theorem aEp{i:Nat}(hi:i<256):fV (i:Int) false 0 0 0 0 0 0 0 0=some (ad4 i z4):=by
 have:=aC0 W4.z hi
 unfold eO at this
 unfold fV
 exact this
theorem aDN{a b:S4}(ha:W4 a)(hb:W4 b):∃r,iF a.1 a.2.1 a.2.2.1 a.2.2.2 b.1 b.2.1 b.2.2.1 b.2.2.2=some r∧(r=true↔∃i,me a i=true∧me b i=true):=by
 let P:Nat→Bool:=fun q=>aG .and .u64 (([a.1,a.2.1,a.2.2.1,a.2.2.2]:List Int).getD q 0) (([b.1,b.2.1,b.2.2.1,b.2.2.2]:List Int).getD q 0) != 0
 have hP:∀q,P q=true↔∃r,r<64∧bt (([a.1,a.2.1,a.2.2.1,a.2.2.2]:List Int).getD q 0) r=true∧bt (([b.1,b.2.1,b.2.2.1,b.2.2.2]:List Int).getD q 0) r=true:=fun q=>aBz (ha.get q) (hb.get q)
 have hM:(∃q,q<4∧P q=true)↔∃i,me a i=true∧me b i=true:=by
  constructor
  ·rintro⟨q,hq,h⟩
   obtain⟨r,hr,h1,h2⟩:=(hP q).1 h
   refine⟨q*64+r,?_,?_⟩ <;> unfold me <;> rw[show(q*64+r) / 64=q by omega,show(q*64+r) % 64=r by omega]
   ·exact h1
   ·exact h2
  ·rintro⟨i,h1,h2⟩
   have:=aGO h1
   exact⟨i / 64,by omega,(hP _).2 ⟨i % 64,Nat.mod_lt _ (by decide),h1,h2⟩⟩
 have key:∃r,iter (f8 a.1 a.2.1 a.2.2.1 a.2.2.2 b.1 b.2.1 b.2.2.1 b.2.2.2) (0:Int)=some r∧(((∃q,q<4∧P q=true)∧r = .inr true)∨(¬(∃q,q<4∧P q=true)∧r = .inl ())):=by
  refine cC (I:=fun s=>∃k:Nat,s=(k:Int)∧k≤4∧∀j,j<k→P j=false) (μ:=fun s=>4 - s.toNat) _ ?_ ⟨0,rfl,by omega,fun j h=>by omega⟩
  rintro s ⟨k,rfl,hk,hj⟩
  by_cases h4:k<4
  ·have c1:0≤(k:Int)∧(k:Int)<((4:Nat):Int):=by omega
   have c5:IntKind.i64.wrap ((k:Int)+1)=((k+1:Nat):Int):=by rw[aR (by omega) (by omega)];omega
   have e:f8 a.1 a.2.1 a.2.2.1 a.2.2.2 b.1 b.2.1 b.2.2.1 b.2.2.2 (k:Int)=if P k=true then some (.inr (.inr true))else some (.inl ((k+1:Nat):Int)):=by
    unfold f8
    rw[if_pos (by simp;omega),if_pos c1,if_pos c1,c5,Int.toNat_natCast]
   cases hp:P k with
   | true=>exact .inr ⟨_,by rw[e,hp,if_pos rfl],.inl ⟨⟨k,h4,hp⟩,rfl⟩⟩
   | false =>
    refine .inl ⟨((k+1:Nat):Int),by rw[e,hp];rfl,⟨k+1,rfl,h4,fun j h=> ?_⟩,by simp only[Int.toNat_natCast];omega⟩
    by_cases ej:j=k
    ·exact ej ▸ hp
    ·exact hj j (by omega)
  ·refine .inr ⟨.inl (),?_,.inr ⟨?_,rfl⟩⟩
   ·unfold f8
    rw[if_neg (by simp;omega)]
   ·rintro⟨q,h1,h2⟩
    rw[hj q (by omega)]at h2
    cases h2
 obtain⟨r,h1,⟨h2,rfl⟩ | ⟨h2,rfl⟩⟩:=key
 ·exact⟨true,by unfold iF;rw[h1];rfl,fun _=>hM.1 h2,fun _=>rfl⟩
 ·exact⟨false,by unfold iF;rw[h1];rfl,fun h=>(by cases h),fun h=>(h2 (hM.2 h)).elim⟩
end Go.Proofs.YtacpjjgochokcaaDoor.T
