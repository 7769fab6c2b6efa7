/- What seg.Make makes of rules. -/
import Derived.Test.YtacpjjgochokcaaDoorTv06lpm
import Derived.Test.YtacpjjgochokcaaDoorTvSam
import Derived.Test.YtacpjjgochokcaaDoorTvYm
namespace Go.Proofs.YtacpjjgochokcaaDoor.T
open Go Go.Tv Go.Proofs
abbrev RU:=Int×Tree×Tree
abbrev RR:=List (List UInt8)×Int×Int×List Int×List RU
abbrev ru0:RU:=((0:Int),((Tree.node 0 0 []),(Tree.node 0 0 [])))
def hX(l:List RU):List Tree:=l.map fun x=>x.2.1
def eA(l:List RU):List Tree:=l.map fun x=>kS x.2.2
theorem U4:∀l:List Tree,cR l.reverse=cR l
 | []=>rfl
 | x::l=>by
  rw[List.reverse_cons,gO,U4 l]
  simp only[cR]
  omega
mutual
theorem u3:∀t:Tree,gF (kS t)=gF t
 | .node o s ks=>by
  simp only[kS,gF]
  by_cases h1:o=1
  ·rw[if_pos h1,if_pos h1]
  ·rw[if_neg h1,if_neg h1]
   by_cases h2:o=2
   ·rw[if_pos h2,if_pos h2,if_pos h2,U4,uQ ks]
   ·rw[if_neg h2,if_neg h2,if_neg h2,uQ ks,aBE ks]
theorem uQ:∀ks:List Tree,cR (dO ks)=cR ks
 | []=>by simp only[dO]
 | k::ks=>by simp only[dO,cR,u3 k,uQ ks]
theorem aBE:∀ks:List Tree,rQ (dO ks)=rQ ks
 | []=>by simp only[dO]
 | k::ks=>by simp only[dO,rQ,u3 k]
end
structure Good(r:RR):Prop where
 n1:1≤r.1.length
 n24:r.1.length≤24
 jU:U32 r.2.1
 aU:U32 r.2.2.1
 tl:r.2.2.2.1.length=r.1.length
 tc:∀c∈r.2.2.2.1,0≤c∧c<(r.1.length:Int)
 rl:r.2.2.2.2.length≤24
 tk:∀x∈r.2.2.2.2,Tok 100 x.2.1∧Tok 100 x.2.2
 cl:cR (r.2.2.2.2.map fun x=>x.2.1)≤200
 cr:cR (r.2.2.2.2.map fun x=>x.2.2)≤200
theorem zD:∀l:List RU,cR (eA l)=cR (l.map fun x=>x.2.2)
 | []=>rfl
 | x::l=>by
  have:=zD l
  unfold eA at this ⊢
  simp only[List.map_cons,cR,u3,this]
theorem Good.fitL{r:RR}(h:Good r):Fit (hX r.2.2.2.2):=by
 refine⟨by unfold hX;rw[List.length_map];exact h.rl,fun t ht=> ?_,h.cl⟩
 obtain⟨x,hx,rfl⟩:=List.mem_map.1 ht
 exact(h.tk x hx).1.mono (by omega)
theorem Good.fitR{r:RR}(h:Good r):Fit (eA r.2.2.2.2):=by
 refine⟨by unfold eA;rw[List.length_map];exact h.rl,fun t ht=> ?_,by rw[zD];exact h.cr⟩
 obtain⟨x,hx,rfl⟩:=List.mem_map.1 ht
 exact(U1 _ _ (h.tk x hx).2).mono (by omega)
theorem mX{α β:Type}(f:α→β){l:List α}{k:Nat}(hk:k<l.length)(d:α):(l.map f).take (k+1)=(l.map f).take k++[f (l.getD k d)]:=by
 rw[List.take_add_one,List.getElem?_map,List.getElem?_eq_getElem hk,List.getD_eq_getElem?_getD,List.getElem?_eq_getElem hk];rfl
theorem X1{l:List RU}(hl:l.length≤24)(ht:∀x∈l,Tok 100 x.2.2):iter (iP l) ([],[],0)=some (hX l,eA l):=by
 have e1:(hX l).take l.length=hX l:=List.take_of_length_le (by simp[hX])
 have e2:(eA l).take l.length=eA l:=List.take_of_length_le (by simp[eA])
 have:=bZ (body:=iP l) (fun k=>((hX l).take k,(eA l).take k,(k:Int))) l.length (r:=(hX l,eA l)) (fun k hlt=> ?_) ?_
 ·exact this
 ·have hm:l.getD k ru0∈l:=by rw[cY hlt];exact List.getElem_mem hlt
  unfold iP
  dsimp only
  rw[if_pos (by simp;omega),if_pos (by omega),if_pos (by simp only[List.length_take,hX,List.length_map,List.length_cons,List.length_nil];omega),Int.toNat_natCast,P4 100 _ (ht _ hm) 1000 (by omega)]
  simp only[Option.bind_some]
  rw[if_pos (by simp only[List.length_take,eA,List.length_map,List.length_cons,List.length_nil];omega),gN (by omega)]
  simp only[zL]
  unfold hX eA
  rw[mX _ hlt ru0,mX _ hlt ru0]
 ·unfold iP
  dsimp only
  rw[if_neg (by simp),e1,e2]
def aE3(r:RR)(A B:AU):Prop:=Au (hX r.2.2.2.2) r.1.length A∧Au (eA r.2.2.2.2) r.1.length B
abbrev MA:=Option (RR×AU×AU)
def aFM(r:RR):Prop:=(∃x,PI (hX r.2.2.2.2) (hX r.2.2.2.2).length x∧P3 x r.1.length)∨∃x,PI (eA r.2.2.2.2) (eA r.2.2.2.2).length x∧P3 x r.1.length
theorem aAc{r:RR}(h:Good r):(nF r.1 r.2.1 r.2.2.1 r.2.2.2.1 r.2.2.2.2=some ((none:MA),27)∧aFM r)∨∃A B,nF r.1 r.2.1 r.2.2.1 r.2.2.2.1 r.2.2.2.2=some ((some (r,A,B):MA),0)∧aE3 r A B:=by
 have h0:((r.1.length:Int) == 0)=false:=beq_eq_false_iff_ne.mpr (by have:=h.n1;omega)
 unfold nF
 rw[h0,X1 h.rl fun x hx=>(h.tk x hx).2]
 simp only[Bool.false_eq_true,if_false,Option.bind_some]
 rcases aAJ h.fitL h.n1 h.n24 with⟨q,hf⟩ | ⟨nx,ou,A,q1,q2,q3⟩
 ·rw[q];exact .inl ⟨rfl,.inl hf⟩
 rw[q1]
 simp only[Option.bind_some]
 rw[if_neg (by decide)]
 rcases aAJ h.fitR h.n1 h.n24 with⟨q,hf⟩ | ⟨nx',ou',B,p1,p2,p3⟩
 ·rw[q];exact .inl ⟨rfl,.inr hf⟩
 rw[p1]
 simp only[Option.bind_some]
 rw[if_neg (by decide),q2]
 simp only[Option.bind_some]
 rw[p2]
 exact .inr ⟨A,B,rfl,q3,p3⟩
end Go.Proofs.YtacpjjgochokcaaDoor.T
namespace Go.Proofs.YtacpjjgochokcaaDoor.T
open Go Go.Tv Go.Proofs
theorem aEq:∀i,i<32→deB.getD i 0=((Lib.deBruijn32tab.getD i 0:Nat):Int):=by decide +kernel
theorem aG3{x:Int}(hx:U32 x)(h0:x≠0):∃k:Nat,w9 x=(k:Int)∧k<32∧bt x k=true∧∀j,j<k→bt x j=false:=by
 obtain⟨n,rfl⟩:=Int.eq_ofNat_of_zero_le hx.1
 have hn:n≠0:=fun e=>h0 (by rw[e];rfl)
 have hlt:n<2 ^ 32:=by
  have:=hx.2
  have e:(2:Nat) ^ 32=4294967296:=by decide
  omega
 obtain⟨l1,l2⟩:=Lib.lowest_bit 32 n hn hlt
 have hs:Lib.ctz 32 n=Lib.ctzFrom 32 n:=by simp[Lib.ctz,hn]
 obtain⟨m,hm,_⟩:=Lib.ctzFrom_spec 32 n (by omega) hlt
 rw[←hs]at hm
 generalize Lib.ctz 32 n=k at l1 l2 hm
 have hb:bits BinOp.and IntKind.u32 (n:Int) (-(n:Int) % 4294967296)=((2 ^ k:Nat):Int):=by
  have e1 : -(n:Int) % 4294967296=((2 ^ 32 - n:Nat):Int):=by
   have e:(2:Nat) ^ 32=4294967296:=by decide
   omega
  rw[e1]
  have h2:U32 ((2 ^ 32 - n:Nat):Int):=by
   have e:(2:Nat) ^ 32=4294967296:=by decide
   exact⟨by omega,by omega⟩
  have:=wU hx h2
  rw[Int.toNat_natCast,Int.toNat_natCast,l1]at this
  exact this
 obtain⟨d1,d2⟩:=Lib.deBruijn32_at k l2
 refine⟨k,?_,l2,?_,fun j hj=> ?_⟩
 ·unfold w9
  rw[if_neg (by rw[beq_iff_eq];exact h0),hb]
  have e:(((2 ^ k:Nat):Int)*125613361 % 4294967296 / 134217728).toNat=2 ^ k*125613361 % 4294967296 / 134217728:=by
   generalize (2 ^ k:Nat)=q
   rw[show((q:Nat):Int)*125613361=((q*125613361:Nat):Int) by rw[Int.natCast_mul];rfl]
   generalize q*125613361=z
   omega
  rw[e,aEq _ d1,d2]
 ·simp only[bt,Int.toNat_natCast]
  rw[hm,Nat.mul_comm,Nat.testBit_mul_two_pow]
  simp
 ·simp only[bt,Int.toNat_natCast]
  rw[hm,Nat.mul_comm,Nat.testBit_mul_two_pow]
  have:¬k≤j:=by omega
  simp[this]
end Go.Proofs.YtacpjjgochokcaaDoor.T
namespace Go.Proofs.YtacpjjgochokcaaDoor.T
open Go Go.Tv Go.Proofs
def Hit(x:RU)(u v:Wd):Prop:=(∃k,k≤u.length∧Lg x.2.1 (u.drop k))∧∃k,k≤v.length∧Lg x.2.2 (v.take k)
def Dec:List RU→Wd→Wd→Int→Prop
 | [],_,_,d=>d=1
 | x::l,u,v,d=>(Hit x u v∧d=x.1)∨(¬Hit x u v∧Dec l u v d)
theorem Dec.uniq:∀ {l:List RU} {u v:Wd} {d d':Int},Dec l u v d→Dec l u v d'→d=d'
 | [],_,_,_,_,h,h'=>h.trans h'.symm
 | x::l,u,v,d,d',h,h'=>by
  rcases h with⟨h1,h2⟩ | ⟨h1,h2⟩ <;> rcases h' with⟨k1,k2⟩ | ⟨k1,k2⟩
  ·rw[h2,k2]
  ·exact absurd h1 k1
  ·exact absurd k1 h1
  ·exact Dec.uniq h2 k2
theorem Dec.none:∀ {l:List RU} {u v:Wd},(∀x∈l,¬Hit x u v)→Dec l u v 1
 | [],_,_,_=>rfl
 | x::l,u,v,h=> .inr ⟨h x (.head _),Dec.none fun y hy=>h y (.tail _ hy)⟩
theorem Dec.first:∀ {l:List RU} {u v:Wd} {m:Nat},m<l.length→Hit (l.getD m ru0) u v→(∀j,j<m→¬Hit (l.getD j ru0) u v)→Dec l u v (l.getD m ru0).1
 | [],_,_,_,h,_,_=>absurd h (by simp)
 | x::l,u,v,0,_,h,_=> .inl ⟨h,rfl⟩
 | x::l,u,v,m+1,hm,h,hj=> .inr ⟨hj 0 (by omega),Dec.first (l:=l) (m:=m) (by simpa using hm) h fun j hj'=>hj (j+1) (by omega)⟩
def clp(n:Nat)(c:Int):Int:=if c<0∨(n:Int)≤c then 0 else c
theorem aDE{n:Nat}(h:1≤n)(c:Int):0≤clp n c∧clp n c<(n:Int):=by
 unfold clp;split <;> omega
theorem aDT{α:Type}{n:Nat}{c:Int}{F:Int→Option α}:((if decide (c<0)=true then some true else some (decide (c≥(n:Int)))).bind fun v=>(if v=true then some 0 else some c).bind F)=F (clp n c):=by
 unfold clp
 by_cases h1:c<0
 ·simp[h1]
 ·by_cases h2:(n:Int)≤c
  ·simp[h1,h2]
  ·simp[h1,h2]
def sg(r:RR)(i1:List Int):Nat→List Nat×List Int×Bool
 | 0=>([],[],false)
 | k+1=>if(sg r i1 k).2.2 && bt r.2.1 (clp r.1.length (i1.getD k 0)).toNat then sg r i1 k
  else((sg r i1 k).1++[k],(sg r i1 k).2.1++[r.2.2.2.1.getD (clp r.1.length (i1.getD k 0)).toNat 0],bt r.2.2.1 (clp r.1.length (i1.getD k 0)).toNat)
structure SgOk(r:RR)(s:List Nat×List Int×Bool)(k:Nat):Prop where
 ln:s.1.length=s.2.1.length
 le:s.1.length≤k
 lt:∀p,p<s.1.length→s.1.getD p 0<k
 inc:∀p q,p<q→q<s.1.length→s.1.getD p 0<s.1.getD q 0
 cls:Cls r.1.length s.2.1
theorem oF{α:Type}{l:List α}{x d:α}:(l++[x]).getD l.length d=x:=by simp[List.getD_eq_getElem?_getD]
theorem aCn{r:RR}(h:Good r)(i1:List Int):∀k,SgOk r (sg r i1 k) k
 | 0=>⟨rfl,Nat.le_refl _,fun p hp=>absurd hp (by simp[sg]),fun p q _ hq=>absurd hq (by simp[sg]),fun c hc=>by cases hc⟩
 | k+1=>by
  have ih:=aCn h i1 k
  simp only[sg]
  split
  ·exact⟨ih.ln,Nat.le_succ_of_le ih.le,fun p hp=>Nat.lt_succ_of_lt (ih.lt p hp),ih.inc,ih.cls⟩
  ·refine⟨by simp[ih.ln],by simp only[List.length_append,List.length_singleton];have:=ih.le;omega,fun p hp=> ?_,fun p q hpq hq=> ?_,fun c hc=> ?_⟩
   ·simp only[List.length_append,List.length_singleton]at hp
    by_cases e:p=(sg r i1 k).1.length
    ·rw[e,oF];omega
    ·rw[bN (by omega)]
     exact Nat.lt_succ_of_lt (ih.lt p (by omega))
   ·simp only[List.length_append,List.length_singleton]at hq
    by_cases e:q=(sg r i1 k).1.length
    ·rw[e,oF,bN (by omega)]
     exact ih.lt p (by omega)
    ·rw[bN (by omega),bN (by omega)]
     exact ih.inc p q hpq (by omega)
   ·rcases List.mem_append.1 hc with q | q
    ·exact ih.cls c q
    ·obtain rfl:=List.mem_singleton.1 q
     have h1:=aDE h.n1 (i1.getD k 0)
     exact h.tc _ (dN (by have:=h.tl;omega))
def n8(r:RR)(i1:List Int):List Nat:=(sg r i1 i1.length).1
def kM(r:RR)(i1:List Int):List Int:=(sg r i1 i1.length).2.1
theorem aHs{r:RR}(h:Good r)(i1:List Int):(n8 r i1).length=(kM r i1).length∧(n8 r i1).length≤i1.length∧(∀p,p<(n8 r i1).length→(n8 r i1).getD p 0<i1.length) ∧
  (∀p q,p<q→q<(n8 r i1).length→(n8 r i1).getD p 0<(n8 r i1).getD q 0)∧Cls r.1.length (kM r i1) :=
 let q:=aCn h i1 i1.length
 ⟨q.ln,q.le,q.lt,q.inc,q.cls⟩
structure Spec(r:RR)(i1 out:List Int):Prop where
 len:out.length=i1.length+1
 last:out.getD i1.length 0=2
 dec:∀k,1≤k→k<(n8 r i1).length→Dec r.2.2.2.2 ((kM r i1).take k) ((kM r i1).drop k) (out.getD ((n8 r i1).getD k 0) 0)
 oth:∀i,i<i1.length→(∀k,1≤k→k<(n8 r i1).length→(n8 r i1).getD k 0≠i)→out.getD i 0=0
theorem Spec.uniq{r:RR}{i1 o o':List Int}(h:Spec r i1 o)(h':Spec r i1 o'):o=o':=by
 have e:∀i,i<i1.length+1→o.getD i 0=o'.getD i 0:=fun i hi=>by
  by_cases e:i=i1.length
  ·rw[e,h.last,h'.last]
  ·by_cases q:∃k,1≤k∧k<(n8 r i1).length∧(n8 r i1).getD k 0=i
   ·obtain⟨k,k1,k2,rfl⟩:=q
    exact(h.dec k k1 k2).uniq (h'.dec k k1 k2)
   ·have q':∀k,1≤k→k<(n8 r i1).length→(n8 r i1).getD k 0≠i:=fun k k1 k2 e=>q ⟨k,k1,k2,e⟩
    rw[h.oth i (by omega) q',h'.oth i (by omega) q']
 refine List.ext_getElem (by rw[h.len,h'.len]) fun i h1 h2=> ?_
 have:=e i (by have:=h.len;omega)
 rwa [cY h1,cY h2]at this
theorem aBM{α:Type}{b:Bool}{x:Int}(hx:U32 x){c:Int}(h0:0≤c)(h1:c<24){F:Bool→Option α}:
  ((if b=true then if 0≤c then some (aG .and .u32 (Int.fdiv x (2 ^ (min c.toNat IntKind.u32.bits))) 1 == 1)else none else some false).bind F)=F (b && bt x c.toNat):=by
 rw[M5 hx (by omega),if_pos h0]
 cases b <;> rfl
theorem aD0{r:RR}(h:Good r){A B:AU}{i1:List Int}(hl:i1.length≤1000):iter (eK (some (r,A,B)) i1) ([],[],false,0)=some (iE (n8 r i1),kM r i1):=by
 refine bZ (fun k=>(iE (sg r i1 k).1,(sg r i1 k).2.1,(sg r i1 k).2.2,(k:Int))) i1.length (fun k hlt=> ?_) ?_
 ·have ih:=aCn h i1 k
  have hle:=ih.le
  have hln:=ih.ln
  have hn:=h.n24
  have htl:=h.tl
  obtain⟨c1,c2⟩:=aDE h.n1 (i1.getD k 0)
  unfold eK
  dsimp only
  simp only[Option.isSome_some,if_true,Option.getD_some]
  rw[if_pos (by simp;omega),if_pos (by omega),Int.toNat_natCast,aDT,aBM h.jU c1 (by omega),gN (by omega)]
  simp only[sg]
  by_cases hb:((sg r i1 k).2.2 && bt r.2.1 (clp r.1.length (i1.getD k 0)).toNat)=true
  ·rw[if_pos hb,if_pos hb]
  ·rw[if_neg hb,if_neg hb,if_pos c1,if_pos (by rw[dU];simp only[List.length_cons,List.length_nil];omega),if_pos (by omega),
    if_pos (by simp only[List.length_cons,List.length_nil];omega),M5 h.aU (by omega),O5]
 ·unfold eK
  dsimp only
  rw[if_neg (by simp)]
  rfl
end Go.Proofs.YtacpjjgochokcaaDoor.T
namespace Go.Proofs.YtacpjjgochokcaaDoor.T
open Go Go.Tv Go.Proofs
theorem jX{l:List Int}{k:Nat}(hk:k<l.length)(v:Int)(j:Nat):(l.set k v).getD j 0=if k=j then v else l.getD j 0:=by
 simp only[List.getD_eq_getElem?_getD,List.getElem?_set]
 by_cases e:k=j
 ·rw[if_pos e,if_pos e,if_pos (by omega)];rfl
 ·rw[if_neg e,if_neg e]
theorem aCb{l m:List Int}(h:l.length=m.length)(e:∀i,i<l.length→l.getD i 0=m.getD i 0):l=m :=
 List.ext_getElem h fun i h1 h2=>by
  have:=e i h1
  rwa [cY h1,cY h2]at this
theorem aDc{w:List Int}{i:Nat}(h:i<w.length):w.reverse.getD i 0=w.getD (w.length - 1 - i) 0:=by
 rw[cY (by simpa using h),cY (by omega),List.getElem_reverse]
theorem aAh{w:List Int}(hl:w.length≤1000):bY w=some w.reverse:=by
 have key:∃s,iter bL (w,0,IntKind.i64.wrap ((w.length:Int) - 1))=some s∧s=w.reverse:=by
  rw[aR (by omega) (by omega)]
  refine cC (I:=fun q=>∃i:Nat,q.2.1=(i:Int)∧q.2.2=(w.length:Int) - 1 - i∧i≤w.length∧2*i≤w.length+1∧q.1.length=w.length∧∀p,p<w.length→q.1.getD p 0=if p<i∨w.length≤p+i then w.getD (w.length - 1 - p) 0 else w.getD p 0)
   (μ:=fun q=>w.length - q.2.1.toNat) _ ?_ ⟨0,rfl,by simp,Nat.zero_le _,by omega,rfl,fun p hp=>by rw[if_neg (by omega)]⟩
  rintro⟨s,i',j'⟩ ⟨i,hi',hj',hi,h2,hs,hp⟩
  dsimp only at hi' hj' hs hp
  subst hi' hj'
  by_cases hlt:(i:Int)<(w.length:Int) - 1 - i
  ·obtain⟨j,hj⟩:∃j:Nat,(w.length:Int) - 1 - i=(j:Int):=⟨w.length - 1 - i,by omega⟩
   have hjl:j<w.length:=by omega
   have vi:s.getD i 0=w.getD i 0:=by rw[hp i (by omega),if_neg (by omega)]
   have vj:s.getD j 0=w.getD j 0:=by rw[hp j (by omega),if_neg (by omega)]
   refine .inl ⟨((s.set i (s.getD j 0)).set j (s.getD i 0),((i+1:Nat):Int),((w.length:Int) - 1 - ((i+1:Nat):Int))),?_,⟨i+1,rfl,rfl,by omega,by omega,by simp[hs],fun p hpl=> ?_⟩,by simp only[Int.toNat_natCast];omega⟩
   ·unfold bL
    dsimp only
    rw[hj,if_pos (by simp;omega),if_pos (by omega),Int.toNat_natCast,Int.toNat_natCast,if_pos (by omega),if_pos (by omega),if_pos (by omega),if_pos (by omega),if_pos (by omega),if_pos (by rw[List.length_set];omega),if_pos (by rw[List.length_set];omega),gN (by omega),
     aR (by omega) (by omega)]
    have:(j:Int) - 1=(w.length:Int) - 1 - ((i+1:Nat):Int):=by omega
    rw[this]
   ·dsimp only
    rw[jX (by rw[List.length_set];omega),jX (by omega),vi,vj]
    by_cases e1:j=p
    ·subst e1
     rw[if_pos rfl,if_pos (by omega)]
     congr 1;omega
    ·rw[if_neg e1]
     by_cases e2:i=p
     ·subst e2
      rw[if_pos rfl,if_pos (by omega)]
      congr 1;omega
     ·rw[if_neg e2,hp p hpl]
      by_cases e3:p<i∨w.length≤p+i
      ·rw[if_pos e3,if_pos (by omega)]
      ·rw[if_neg e3,if_neg (by omega)]
  ·refine .inr ⟨s,?_,aCb (by simp[hs]) fun p hpl=> ?_⟩
   ·unfold bL
    dsimp only
    rw[if_neg (by simp;omega)]
   ·rw[hp p (by omega),aDc (by omega)]
    by_cases e3:p<i∨w.length≤p+i
    ·rw[if_pos e3]
    ·rw[if_neg e3]
     congr 1;omega
 obtain⟨s,h1,rfl⟩:=key
 unfold bY
 rw[h1]
 rfl
theorem Cls.rev{n:Nat}{w:Wd}(h:Cls n w):Cls n w.reverse:=fun c hc=>h c (List.mem_reverse.1 hc)
theorem aBT{l:List RU}{m:Nat}(h:m<l.length):(hX l).getD m (.node 0 0 [])=(l.getD m ru0).2.1:=by
 unfold hX
 rw[cY (by simpa using h),cY h,List.getElem_map]
theorem Z4{l:List RU}{m:Nat}(h:m<l.length):(eA l).getD m (.node 0 0 [])=kS (l.getD m ru0).2.2:=by
 unfold eA
 rw[cY (by simpa using h),cY h,List.getElem_map]
theorem aBa{l:List RU}{m:Nat}(h:m<l.length){u:Wd}:En (hX l) m u↔∃k,k≤u.length∧Lg (l.getD m ru0).2.1 (u.drop k):=by
 unfold En;rw[aBT h]
theorem Q6{l:List RU}{m:Nat}(h:m<l.length){v:Wd}:En (eA l) m v.reverse↔∃k,k≤v.length∧Lg (l.getD m ru0).2.2 (v.take k):=by
 unfold En
 rw[Z4 h,List.length_reverse]
 constructor
 ·rintro⟨k,h1,h2⟩
  rw[List.drop_reverse,qN]at h2
  exact⟨v.length - k,by omega,h2⟩
 ·rintro⟨k,h1,h2⟩
  refine⟨v.length - k,by omega,?_⟩
  rw[List.drop_reverse,qN,Nat.sub_sub_self h1]
  exact h2
theorem aCW{x y:Int}(hx:U32 x)(hy:U32 y)(i:Nat):bt (aG .and .u32 x y) i=(bt x i && bt y i):=by
 rw[wU hx hy];simp only[bt,Int.toNat_natCast,Nat.testBit_and]
theorem aEO{x y:Int}(hx:U32 x)(hy:U32 y):U32 (aG .and .u32 x y):=by
 rw[wU hx hy]
 have:=Nat.and_le_left (n:=x.toNat) (m:=y.toNat)
 have:=hx.2
 exact⟨by omega,by omega⟩
theorem aDu{l:List RU}(hl:l.length≤24){u v:Wd}{a b:Int}(ha:U32 a)(hb:U32 b)(h1:∀m,bt a m=true↔m<(hX l).length∧En (hX l) m u)(h2:∀m,bt b m=true↔m<(eA l).length∧En (eA l) m v.reverse):
  ((aG .and .u32 a b != 0)=true∧∃k:Nat,w9 (aG .and .u32 a b)=(k:Int)∧k<l.length∧Dec l u v (l.getD k ru0).1)∨((aG .and .u32 a b != 0)=false∧Dec l u v 1):=by
 have l1:(hX l).length=l.length:=by simp[hX]
 have l2:(eA l).length=l.length:=by simp[eA]
 have hit:∀m,bt (aG .and .u32 a b) m=true↔m<l.length∧Hit (l.getD m ru0) u v:=fun m=>by
  rw[aCW ha hb,Bool.and_eq_true,h1,h2,l1,l2]
  constructor
  ·rintro⟨⟨q,q1⟩,_,q2⟩
   exact⟨q,(aBa q).1 q1,(Q6 q).1 q2⟩
  ·rintro⟨q,q1,q2⟩
   exact⟨⟨q,(aBa q).2 q1⟩,q,(Q6 q).2 q2⟩
 by_cases h0:aG .and .u32 a b=0
 ·refine .inr ⟨by rw[h0];rfl,Dec.none fun x hx hh=> ?_⟩
  obtain⟨m,hm,rfl⟩:=List.getElem_of_mem hx
  have:=(hit m).2 ⟨hm,by rw[cY hm];exact hh⟩
  rw[h0]at this
  simp[bt]at this
 ·obtain⟨k,k1,k2,k3,k4⟩:=aG3 (aEO ha hb) h0
  obtain⟨k5,k6⟩:=(hit k).1 k3
  refine .inl ⟨bne_iff_ne.mpr h0,k,k1,k5,Dec.first k5 k6 fun j hj hh=> ?_⟩
  have:=(hit j).2 ⟨by omega,hh⟩
  rw[k4 j hj]at this
  cases this
theorem aE5{r:RR}(h:Good r){A B:AU}(hM:aE3 r A B){i1:List Int}(hl:i1.length≤1000):∃out,dS (some (r,A,B)) i1=some out∧Spec r i1 out:=by
 obtain⟨p1,p2,p3,p4,p5⟩:=aHs h i1
 obtain⟨r3,a1,a2,a3⟩:=hM.1 (kM r i1) p5 (by omega)
 obtain⟨r7,b1,b2,b3⟩:=hM.2 (kM r i1).reverse p5.rev (by rw[List.length_reverse];omega)
 rw[List.length_reverse]at b2 b3
 have e0:IntKind.i64.wrap ((i1.length:Int)+1)=((i1.length+1:Nat):Int):=gN (by omega)
 have L2:∃out,iter (dB (some (r,A,B)) (iE (n8 r i1)) r3 r7) ((List.replicate (i1.length+1) (0:Int)).set i1.length 2,1)=some out∧Spec r i1 out:=by
  refine cC (I:=fun q=>∃k:Nat,q.2=(k:Int)∧1≤k∧k≤max 1 (n8 r i1).length∧q.1.length=i1.length+1∧q.1.getD i1.length 0=2 ∧
   (∀j,1≤j→j<k→Dec r.2.2.2.2 ((kM r i1).take j) ((kM r i1).drop j) (q.1.getD ((n8 r i1).getD j 0) 0))∧∀i,i<i1.length→(∀j,1≤j→j<k→(n8 r i1).getD j 0≠i)→q.1.getD i 0=0)
   (μ:=fun q=>i1.length+2 - q.2.toNat) _ ?_ ⟨1,rfl,Nat.le_refl _,by omega,by simp,?_,fun j _ _=>by omega,fun i hi _=> ?_⟩
  ·rintro⟨o,k'⟩ ⟨k,rfl,k1,k2,ho,hL,hD,hO⟩
   dsimp only at ho hL hD hO
   by_cases hlt:k<(n8 r i1).length
   ·obtain⟨jA,A1,A2,A3,A4⟩:=a3 k (by omega)
    obtain⟨jB,B1,B2,B3,B4⟩:=b3 ((kM r i1).length - k) (by omega)
    have ht:((kM r i1).reverse).take ((kM r i1).length - k)=((kM r i1).drop k).reverse:=by
     rw[List.take_reverse,Nat.sub_sub_self (by omega)]
    rw[ht]at B4
    have hw:IntKind.i64.wrap (((iE (n8 r i1)).length:Int) - (k:Int))=(((kM r i1).length - k:Nat):Int):=by
     rw[dU,aR (by omega) (by omega)];omega
    have hat:=p3 k hlt
    have hg:(iE (n8 r i1)).getD k 0=(((n8 r i1).getD k 0:Nat):Int):=pR hlt
    have hil:(iE (n8 r i1)).length=(n8 r i1).length:=dU _
    have step:∀d:Int,Dec r.2.2.2.2 ((kM r i1).take k) ((kM r i1).drop k) d→∀o':List Int,o'.length=i1.length+1→(∀i,o'.getD i 0=if(n8 r i1).getD k 0=i then d else o.getD i 0) →
      (∃m:Nat,((k+1:Nat):Int)=(m:Int)∧1≤m∧m≤max 1 (n8 r i1).length∧o'.length=i1.length+1∧o'.getD i1.length 0=2 ∧
       (∀j,1≤j→j<m→Dec r.2.2.2.2 ((kM r i1).take j) ((kM r i1).drop j) (o'.getD ((n8 r i1).getD j 0) 0))∧∀i,i<i1.length→(∀j,1≤j→j<m→(n8 r i1).getD j 0≠i)→o'.getD i 0=0):=fun d hd o' ho' hg'=>by
     refine⟨k+1,rfl,by omega,by omega,ho',?_,fun j j1 j2=> ?_,fun i hi hj=> ?_⟩
     ·rw[hg',if_neg (by omega)];exact hL
     ·rw[hg']
      by_cases e:j=k
      ·subst e;rw[if_pos rfl];exact hd
      ·have:=p4 j k (by omega) hlt
       rw[if_neg (by omega)]
       exact hD j j1 (by omega)
     ·rw[hg',if_neg (hj k k1 (by omega))]
      exact hO i hi fun j j1 j2=>hj j j1 (by omega)
    have main:∃o',dB (some (r,A,B)) (iE (n8 r i1)) r3 r7 (o,(k:Int))=some (.inl (o',((k+1:Nat):Int)))∧o'.length=i1.length+1∧∃d,Dec r.2.2.2.2 ((kM r i1).take k) ((kM r i1).drop k) d∧∀i,o'.getD i 0=if(n8 r i1).getD k 0=i then d else o.getD i 0:=by
     unfold dB
     dsimp only
     simp only[Option.isSome_some,if_true,Option.getD_some,hw,hg,Int.toNat_natCast,A2,B2]
     rw[if_pos (by simp;omega),if_pos (by omega),if_pos (by omega),if_pos (by omega),if_pos (by omega),if_pos (by omega),if_pos (by omega),if_pos (by omega),if_pos (by omega)]
     rcases aDu h.rl A3 B3 A4 B4 with⟨c1,m,c2,c3,c4⟩ | ⟨c1,c2⟩
     ·rw[if_pos c1,if_pos (by omega),if_pos (by omega)]
      unfold gH
      simp only[Option.bind_some]
      rw[c2,if_pos (by omega),if_pos (by rw[List.length_set];omega),if_pos (by rw[List.length_set];omega)]
      simp only[Option.bind_some,Int.toNat_natCast]
      rw[gN (by omega)]
      refine⟨_,rfl,by simp[ho],_,c4,fun i=> ?_⟩
      rw[jX (by rw[List.length_set];omega),jX (by omega)]
      by_cases e:(n8 r i1).getD k 0=i
      ·rw[if_pos e,if_pos e]
      ·rw[if_neg e,if_neg e,if_neg e]
     ·rw[if_neg (by rw[c1];decide)]
      simp only[Option.bind_some]
      rw[gN (by omega)]
      exact⟨_,rfl,by simp[ho],1,c2,fun i=>jX (by omega) _ _⟩
    obtain⟨o',m1,m2,d,m3,m4⟩:=main
    exact .inl ⟨(o',((k+1:Nat):Int)),m1,step d m3 o' m2 m4,by simp only[Int.toNat_natCast];omega⟩
   ·refine .inr ⟨o,?_,ho,hL,fun j j1 j2=>hD j j1 (by omega),fun i hi hj=>hO i hi fun j j1 j2=>by
     by_cases e:j<(n8 r i1).length
     ·exact hj j j1 e
     ·omega⟩
    unfold dB
    dsimp only
    rw[if_neg (by rw[dU];simp;omega)]
  ·dsimp only
   rw[jX (by simp),if_pos rfl]
  ·dsimp only
   rw[jX (by simp),if_neg (by omega)]
   rw[List.getD_eq_getElem?_getD,List.getElem?_replicate,if_pos (by omega)]
   rfl
 obtain⟨out,o1,o2⟩:=L2
 refine⟨out,?_,o2⟩
 unfold dS
 rw[e0,if_pos (by omega),Int.toNat_natCast,if_pos (by rw[List.length_replicate];omega),Int.toNat_natCast,if_pos (by rw[List.length_replicate];omega)]
 simp only[Option.isNone_some,Bool.false_eq_true,if_false,Option.isSome_some,if_true,Option.getD_some]
 rw[aD0 h hl]
 simp only[Option.bind_some]
 rw[a1]
 simp only[Option.bind_some]
 rw[aAh (by omega)]
 simp only[Option.bind_some]
 rw[b1]
 simp only[Option.bind_some]
 rw[o1]
 rfl
end Go.Proofs.YtacpjjgochokcaaDoor.T
