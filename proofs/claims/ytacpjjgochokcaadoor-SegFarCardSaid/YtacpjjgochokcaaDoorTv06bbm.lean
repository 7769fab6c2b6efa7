/- What seg.Make makes of rules. -/
import Derived.Test.YtacpjjgochokcaaDoorTv06lpm
import Derived.Test.YtacpjjgochokcaaDoorTvSdm
import Derived.Test.YtacpjjgochokcaaDoorTvYm
namespace Go.Proofs.YtacpjjgochokcaaDoor.T
open Go Go.Tv Go.Proofs
abbrev RU:=Int×Tree×Tree
abbrev RR:=List (List UInt8)×Int×Int×List Int×List RU
abbrev T8:RU:=((0:Int),((Tree.node 0 0 []),(Tree.node 0 0 [])))
def gP(l:List RU):List Tree:=l.map fun x=>x.2.1
def dN(l:List RU):List Tree:=l.map fun x=>jY x.2.2
theorem A8:∀l:List Tree,eZ l.reverse=eZ l
 | []=>rfl
 | x::l=>by
  rw[List.reverse_cons,kJ,A8 l]
  simp only[eZ]
  omega
mutual
theorem rV:∀t:Tree,hH (jY t)=hH t
 | .node o s ks=>by
  simp only[jY,hH]
  by_cases h1:o=1
  ·rw[if_pos h1,if_pos h1]
  ·rw[if_neg h1,if_neg h1]
   by_cases h2:o=2
   ·rw[if_pos h2,if_pos h2,if_pos h2,A8,sF ks]
   ·rw[if_neg h2,if_neg h2,if_neg h2,sF ks,P9 ks]
theorem sF:∀ks:List Tree,eZ (dF ks)=eZ ks
 | []=>by simp only[dF]
 | k::ks=>by simp only[dF,eZ,rV k,sF ks]
theorem P9:∀ks:List Tree,t7 (dF ks)=t7 ks
 | []=>by simp only[dF]
 | k::ks=>by simp only[dF,t7,rV k]
end
structure Good(r:RR):Prop where
 n1:1≤r.1.length
 n24:r.1.length≤24
 jU:U32 r.2.1
 aU:U32 r.2.2.1
 tl:r.2.2.2.1.length=r.1.length
 tc:∀c∈r.2.2.2.1,0≤c∧c<(r.1.length:Int)
 rl:r.2.2.2.2.length≤24
 tk:∀x∈r.2.2.2.2,Tok 100 x.2.1∧Tok 100 x.2.2
 cl:eZ (r.2.2.2.2.map fun x=>x.2.1)≤200
 cr:eZ (r.2.2.2.2.map fun x=>x.2.2)≤200
theorem vW:∀l:List RU,eZ (dN l)=eZ (l.map fun x=>x.2.2)
 | []=>rfl
 | x::l=>by
  have:=vW l
  unfold dN at this ⊢
  simp only[List.map_cons,eZ,rV,this]
theorem Good.fitL{r:RR}(h:Good r):Fit (gP r.2.2.2.2):=by
 refine⟨by unfold gP;rw[List.length_map];exact h.rl,fun t ht=> ?_,h.cl⟩
 obtain⟨x,hx,rfl⟩:=List.mem_map.1 ht
 exact(h.tk x hx).1.mono (by omega)
theorem Good.fitR{r:RR}(h:Good r):Fit (dN r.2.2.2.2):=by
 refine⟨by unfold dN;rw[List.length_map];exact h.rl,fun t ht=> ?_,by rw[vW];exact h.cr⟩
 obtain⟨x,hx,rfl⟩:=List.mem_map.1 ht
 exact(B6 _ _ (h.tk x hx).2).mono (by omega)
theorem kX{α β:Type}(f:α→β){l:List α}{k:Nat}(hk:k<l.length)(d:α):(l.map f).take (k+1)=(l.map f).take k++[f (l.getD k d)]:=by
 rw[List.take_add_one,List.getElem?_map,List.getElem?_eq_getElem hk,List.getD_eq_getElem?_getD,List.getElem?_eq_getElem hk];rfl
theorem L7{l:List RU}(hl:l.length≤24)(ht:∀x∈l,Tok 100 x.2.2):iter (gO l) ([],[],0)=some (gP l,dN l):=by
 have e1:(gP l).take l.length=gP l:=List.take_of_length_le (by simp[gP])
 have e2:(dN l).take l.length=dN l:=List.take_of_length_le (by simp[dN])
 have:=b8 (body:=gO l) (fun k=>((gP l).take k,(dN l).take k,(k:Int))) l.length (r:=(gP l,dN l)) (fun k hlt=> ?_) ?_
 ·exact this
 ·have hm:l.getD k T8∈l:=by rw[cI hlt];exact List.getElem_mem hlt
  unfold gO
  dsimp only
  rw[if_pos (by simp;omega),if_pos (by omega),if_pos (by simp only[List.length_take,gP,List.length_map,List.length_cons,List.length_nil];omega),Int.toNat_natCast,F9 100 _ (ht _ hm) 1000 (by omega)]
  simp only[Option.bind_some]
  rw[if_pos (by simp only[List.length_take,dN,List.length_map,List.length_cons,List.length_nil];omega),dV (by omega)]
  simp only[wC]
  unfold gP dN
  rw[kX _ hlt T8,kX _ hlt T8]
 ·unfold gO
  dsimp only
  rw[if_neg (by simp),e1,e2]
def aBd(r:RR)(A B:AU):Prop:=Au (gP r.2.2.2.2) r.1.length A∧Au (dN r.2.2.2.2) r.1.length B
abbrev MA:=Option (RR×AU×AU)
def aDa(r:RR):Prop:=(∃x,PI (gP r.2.2.2.2) (gP r.2.2.2.2).length x∧I8 x r.1.length)∨∃x,PI (dN r.2.2.2.2) (dN r.2.2.2.2).length x∧I8 x r.1.length
theorem J9{r:RR}(h:Good r):(lM r.1 r.2.1 r.2.2.1 r.2.2.2.1 r.2.2.2.2=some ((none:MA),27)∧aDa r)∨∃A B,lM r.1 r.2.1 r.2.2.1 r.2.2.2.1 r.2.2.2.2=some ((some (r,A,B):MA),0)∧aBd r A B:=by
 have h0:((r.1.length:Int) == 0)=false:=beq_eq_false_iff_ne.mpr (by have:=h.n1;omega)
 unfold lM
 rw[h0,L7 h.rl fun x hx=>(h.tk x hx).2]
 simp only[Bool.false_eq_true,if_false,Option.bind_some]
 rcases M7 h.fitL h.n1 h.n24 with⟨q,hf⟩ | ⟨nx,ou,A,q1,q2,q3⟩
 ·rw[q];exact .inl ⟨rfl,.inl hf⟩
 rw[q1]
 simp only[Option.bind_some]
 rw[if_neg (by decide)]
 rcases M7 h.fitR h.n1 h.n24 with⟨q,hf⟩ | ⟨nx',ou',B,p1,p2,p3⟩
 ·rw[q];exact .inl ⟨rfl,.inr hf⟩
 rw[p1]
 simp only[Option.bind_some]
 rw[if_neg (by decide),q2]
 simp only[Option.bind_some]
 rw[p2]
 exact .inr ⟨A,B,rfl,q3,p3⟩
end Go.Proofs.YtacpjjgochokcaaDoor.T
namespace Go.Proofs.YtacpjjgochokcaaDoor.T
open Go Go.Tv Go.Proofs
theorem aAO:∀i,i<32→deB.getD i 0=((Lib.deBruijn32tab.getD i 0:Nat):Int):=by decide +kernel
theorem aDf{x:Int}(hx:U32 x)(h0:x≠0):∃k:Nat,vP x=(k:Int)∧k<32∧bt x k=true∧∀j,j<k→bt x j=false:=by
 obtain⟨n,rfl⟩:=Int.eq_ofNat_of_zero_le hx.1
 have hn:n≠0:=fun e=>h0 (by rw[e];rfl)
 have hlt:n<2 ^ 32:=by
  have:=hx.2
  have e:(2:Nat) ^ 32=4294967296:=by decide
  omega
 obtain⟨l1,l2⟩:=Lib.lowest_bit 32 n hn hlt
 have hs:Lib.ctz 32 n=Lib.ctzFrom 32 n:=by simp[Lib.ctz,hn]
 obtain⟨m,hm,_⟩:=Lib.ctzFrom_spec 32 n (by omega) hlt
 rw[←hs]at hm
 generalize Lib.ctz 32 n=k at l1 l2 hm
 have hb:bits BinOp.and IntKind.u32 (n:Int) (-(n:Int) % 4294967296)=((2 ^ k:Nat):Int):=by
  have e1 : -(n:Int) % 4294967296=((2 ^ 32 - n:Nat):Int):=by
   have e:(2:Nat) ^ 32=4294967296:=by decide
   omega
  rw[e1]
  have h2:U32 ((2 ^ 32 - n:Nat):Int):=by
   have e:(2:Nat) ^ 32=4294967296:=by decide
   exact⟨by omega,by omega⟩
  have:=uF hx h2
  rw[Int.toNat_natCast,Int.toNat_natCast,l1]at this
  exact this
 obtain⟨d1,d2⟩:=Lib.deBruijn32_at k l2
 refine⟨k,?_,l2,?_,fun j hj=> ?_⟩
 ·unfold vP
  rw[if_neg (by rw[beq_iff_eq];exact h0),hb]
  have e:(((2 ^ k:Nat):Int)*125613361 % 4294967296 / 134217728).toNat=2 ^ k*125613361 % 4294967296 / 134217728:=by
   generalize (2 ^ k:Nat)=q
   rw[show((q:Nat):Int)*125613361=((q*125613361:Nat):Int) by rw[Int.natCast_mul];rfl]
   generalize q*125613361=z
   omega
  rw[e,aAO _ d1,d2]
 ·simp only[bt,Int.toNat_natCast]
  rw[hm,Nat.mul_comm,Nat.testBit_mul_two_pow]
  simp
 ·simp only[bt,Int.toNat_natCast]
  rw[hm,Nat.mul_comm,Nat.testBit_mul_two_pow]
  have:¬k≤j:=by omega
  simp[this]
end Go.Proofs.YtacpjjgochokcaaDoor.T
namespace Go.Proofs.YtacpjjgochokcaaDoor.T
open Go Go.Tv Go.Proofs
def Hit(x:RU)(u v:Wd):Prop:=(∃k,k≤u.length∧Lg x.2.1 (u.drop k))∧∃k,k≤v.length∧Lg x.2.2 (v.take k)
def Dec:List RU→Wd→Wd→Int→Prop
 | [],_,_,d=>d=1
 | x::l,u,v,d=>(Hit x u v∧d=x.1)∨(¬Hit x u v∧Dec l u v d)
theorem Dec.uniq:∀ {l:List RU} {u v:Wd} {d d':Int},Dec l u v d→Dec l u v d'→d=d'
 | [],_,_,_,_,h,h'=>h.trans h'.symm
 | x::l,u,v,d,d',h,h'=>by
  rcases h with⟨h1,h2⟩ | ⟨h1,h2⟩ <;> rcases h' with⟨k1,k2⟩ | ⟨k1,k2⟩
  ·rw[h2,k2]
  ·exact absurd h1 k1
  ·exact absurd k1 h1
  ·exact Dec.uniq h2 k2
theorem Dec.none:∀ {l:List RU} {u v:Wd},(∀x∈l,¬Hit x u v)→Dec l u v 1
 | [],_,_,_=>rfl
 | x::l,u,v,h=> .inr ⟨h x (.head _),Dec.none fun y hy=>h y (.tail _ hy)⟩
theorem Dec.first:∀ {l:List RU} {u v:Wd} {m:Nat},m<l.length→Hit (l.getD m T8) u v→(∀j,j<m→¬Hit (l.getD j T8) u v)→Dec l u v (l.getD m T8).1
 | [],_,_,_,h,_,_=>absurd h (by simp)
 | x::l,u,v,0,_,h,_=> .inl ⟨h,rfl⟩
 | x::l,u,v,m+1,hm,h,hj=> .inr ⟨hj 0 (by omega),Dec.first (l:=l) (m:=m) (by simpa using hm) h fun j hj'=>hj (j+1) (by omega)⟩
def Q3(n:Nat)(c:Int):Int:=if c<0∨(n:Int)≤c then 0 else c
theorem aAa{n:Nat}(h:1≤n)(c:Int):0≤Q3 n c∧Q3 n c<(n:Int):=by
 unfold Q3;split <;> omega
theorem aAd{α:Type}{n:Nat}{c:Int}{F:Int→Option α}:((if decide (c<0)=true then some true else some (decide (c≥(n:Int)))).bind fun v=>(if v=true then some 0 else some c).bind F)=F (Q3 n c):=by
 unfold Q3
 by_cases h1:c<0
 ·simp[h1]
 ·by_cases h2:(n:Int)≤c
  ·simp[h1,h2]
  ·simp[h1,h2]
def sg(r:RR)(i1:List Int):Nat→List Nat×List Int×Bool
 | 0=>([],[],false)
 | k+1=>if(sg r i1 k).2.2 && bt r.2.1 (Q3 r.1.length (i1.getD k 0)).toNat then sg r i1 k
  else((sg r i1 k).1++[k],(sg r i1 k).2.1++[r.2.2.2.1.getD (Q3 r.1.length (i1.getD k 0)).toNat 0],bt r.2.2.1 (Q3 r.1.length (i1.getD k 0)).toNat)
structure SgOk(r:RR)(s:List Nat×List Int×Bool)(k:Nat):Prop where
 ln:s.1.length=s.2.1.length
 le:s.1.length≤k
 lt:∀p,p<s.1.length→s.1.getD p 0<k
 inc:∀p q,p<q→q<s.1.length→s.1.getD p 0<s.1.getD q 0
 cls:Cls r.1.length s.2.1
theorem qJ{α:Type}{l:List α}{x d:α}:(l++[x]).getD l.length d=x:=by simp[List.getD_eq_getElem?_getD]
theorem Z6{r:RR}(h:Good r)(i1:List Int):∀k,SgOk r (sg r i1 k) k
 | 0=>⟨rfl,Nat.le_refl _,fun p hp=>absurd hp (by simp[sg]),fun p q _ hq=>absurd hq (by simp[sg]),fun c hc=>by cases hc⟩
 | k+1=>by
  have ih:=Z6 h i1 k
  simp only[sg]
  split
  ·exact⟨ih.ln,Nat.le_succ_of_le ih.le,fun p hp=>Nat.lt_succ_of_lt (ih.lt p hp),ih.inc,ih.cls⟩
  ·refine⟨by simp[ih.ln],by simp only[List.length_append,List.length_singleton];have:=ih.le;omega,fun p hp=> ?_,fun p q hpq hq=> ?_,fun c hc=> ?_⟩
   ·simp only[List.length_append,List.length_singleton]at hp
    by_cases e:p=(sg r i1 k).1.length
    ·rw[e,qJ];omega
    ·rw[bL (by omega)]
     exact Nat.lt_succ_of_lt (ih.lt p (by omega))
   ·simp only[List.length_append,List.length_singleton]at hq
    by_cases e:q=(sg r i1 k).1.length
    ·rw[e,qJ,bL (by omega)]
     exact ih.lt p (by omega)
    ·rw[bL (by omega),bL (by omega)]
     exact ih.inc p q hpq (by omega)
   ·rcases List.mem_append.1 hc with q | q
    ·exact ih.cls c q
    ·obtain rfl:=List.mem_singleton.1 q
     have h1:=aAa h.n1 (i1.getD k 0)
     exact h.tc _ (eC (by have:=h.tl;omega))
def mL(r:RR)(i1:List Int):List Nat:=(sg r i1 i1.length).1
def kD(r:RR)(i1:List Int):List Int:=(sg r i1 i1.length).2.1
theorem aCL{r:RR}(h:Good r)(i1:List Int):(mL r i1).length=(kD r i1).length∧(mL r i1).length≤i1.length∧(∀p,p<(mL r i1).length→(mL r i1).getD p 0<i1.length) ∧
  (∀p q,p<q→q<(mL r i1).length→(mL r i1).getD p 0<(mL r i1).getD q 0)∧Cls r.1.length (kD r i1) :=
 let q:=Z6 h i1 i1.length
 ⟨q.ln,q.le,q.lt,q.inc,q.cls⟩
structure Spec(r:RR)(i1 out:List Int):Prop where
 len:out.length=i1.length+1
 last:out.getD i1.length 0=2
 dec:∀k,1≤k→k<(mL r i1).length→Dec r.2.2.2.2 ((kD r i1).take k) ((kD r i1).drop k) (out.getD ((mL r i1).getD k 0) 0)
 oth:∀i,i<i1.length→(∀k,1≤k→k<(mL r i1).length→(mL r i1).getD k 0≠i)→out.getD i 0=0
theorem Spec.uniq{r:RR}{i1 o o':List Int}(h:Spec r i1 o)(h':Spec r i1 o'):o=o':=by
 have e:∀i,i<i1.length+1→o.getD i 0=o'.getD i 0:=fun i hi=>by
  by_cases e:i=i1.length
  ·rw[e,h.last,h'.last]
  ·by_cases q:∃k,1≤k∧k<(mL r i1).length∧(mL r i1).getD k 0=i
   ·obtain⟨k,k1,k2,rfl⟩:=q
    exact(h.dec k k1 k2).uniq (h'.dec k k1 k2)
   ·have q':∀k,1≤k→k<(mL r i1).length→(mL r i1).getD k 0≠i:=fun k k1 k2 e=>q ⟨k,k1,k2,e⟩
    rw[h.oth i (by omega) q',h'.oth i (by omega) q']
 refine List.ext_getElem (by rw[h.len,h'.len]) fun i h1 h2=> ?_
 have:=e i (by have:=h.len;omega)
 rwa [cI h1,cI h2]at this
theorem S5{α:Type}{b:Bool}{x:Int}(hx:U32 x){c:Int}(h0:0≤c)(h1:c<24){F:Bool→Option α}:
  ((if b=true then if 0≤c then some (aI .and .u32 (Int.fdiv x (2 ^ (min c.toNat IntKind.u32.bits))) 1 == 1)else none else some false).bind F)=F (b && bt x c.toNat):=by
 rw[y1 hx (by omega),if_pos h0]
 cases b <;> rfl
theorem aBo{r:RR}(h:Good r){A B:AU}{i1:List Int}(hl:i1.length≤1000):iter (dL (some (r,A,B)) i1) ([],[],false,0)=some (gJ (mL r i1),kD r i1):=by
 refine b8 (fun k=>(gJ (sg r i1 k).1,(sg r i1 k).2.1,(sg r i1 k).2.2,(k:Int))) i1.length (fun k hlt=> ?_) ?_
 ·have ih:=Z6 h i1 k
  have hle:=ih.le
  have hln:=ih.ln
  have hn:=h.n24
  have htl:=h.tl
  obtain⟨c1,c2⟩:=aAa h.n1 (i1.getD k 0)
  unfold dL
  dsimp only
  simp only[Option.isSome_some,if_true,Option.getD_some]
  rw[if_pos (by simp;omega),if_pos (by omega),Int.toNat_natCast,aAd,S5 h.jU c1 (by omega),dV (by omega)]
  simp only[sg]
  by_cases hb:((sg r i1 k).2.2 && bt r.2.1 (Q3 r.1.length (i1.getD k 0)).toNat)=true
  ·rw[if_pos hb,if_pos hb]
  ·rw[if_neg hb,if_neg hb,if_pos c1,if_pos (by rw[dA];simp only[List.length_cons,List.length_nil];omega),if_pos (by omega),
    if_pos (by simp only[List.length_cons,List.length_nil];omega),y1 h.aU (by omega),F5]
 ·unfold dL
  dsimp only
  rw[if_neg (by simp)]
  rfl
end Go.Proofs.YtacpjjgochokcaaDoor.T
namespace Go.Proofs.YtacpjjgochokcaaDoor.T
open Go Go.Tv Go.Proofs
theorem iI{l:List Int}{k:Nat}(hk:k<l.length)(v:Int)(j:Nat):(l.set k v).getD j 0=if k=j then v else l.getD j 0:=by
 simp only[List.getD_eq_getElem?_getD,List.getElem?_set]
 by_cases e:k=j
 ·rw[if_pos e,if_pos e,if_pos (by omega)];rfl
 ·rw[if_neg e,if_neg e]
theorem Z2{l m:List Int}(h:l.length=m.length)(e:∀i,i<l.length→l.getD i 0=m.getD i 0):l=m :=
 List.ext_getElem h fun i h1 h2=>by
  have:=e i h1
  rwa [cI h1,cI h2]at this
theorem X4{w:List Int}{i:Nat}(h:i<w.length):w.reverse.getD i 0=w.getD (w.length - 1 - i) 0:=by
 rw[cI (by simpa using h),cI (by omega),List.getElem_reverse]
theorem K5{w:List Int}(hl:w.length≤1000):bP w=some w.reverse:=by
 have key:∃s,iter bH (w,0,IntKind.i64.wrap ((w.length:Int) - 1))=some s∧s=w.reverse:=by
  rw[aY (by omega) (by omega)]
  refine bS (I:=fun q=>∃i:Nat,q.2.1=(i:Int)∧q.2.2=(w.length:Int) - 1 - i∧i≤w.length∧2*i≤w.length+1∧q.1.length=w.length∧∀p,p<w.length→q.1.getD p 0=if p<i∨w.length≤p+i then w.getD (w.length - 1 - p) 0 else w.getD p 0)
   (μ:=fun q=>w.length - q.2.1.toNat) _ ?_ ⟨0,rfl,by simp,Nat.zero_le _,by omega,rfl,fun p hp=>by rw[if_neg (by omega)]⟩
  rintro⟨s,i',j'⟩ ⟨i,hi',hj',hi,h2,hs,hp⟩
  dsimp only at hi' hj' hs hp
  subst hi' hj'
  by_cases hlt:(i:Int)<(w.length:Int) - 1 - i
  ·obtain⟨j,hj⟩:∃j:Nat,(w.length:Int) - 1 - i=(j:Int):=⟨w.length - 1 - i,by omega⟩
   have hjl:j<w.length:=by omega
   have vi:s.getD i 0=w.getD i 0:=by rw[hp i (by omega),if_neg (by omega)]
   have vj:s.getD j 0=w.getD j 0:=by rw[hp j (by omega),if_neg (by omega)]
   refine .inl ⟨((s.set i (s.getD j 0)).set j (s.getD i 0),((i+1:Nat):Int),((w.length:Int) - 1 - ((i+1:Nat):Int))),?_,⟨i+1,rfl,rfl,by omega,by omega,by simp[hs],fun p hpl=> ?_⟩,by simp only[Int.toNat_natCast];omega⟩
   ·unfold bH
    dsimp only
    rw[hj,if_pos (by simp;omega),if_pos (by omega),Int.toNat_natCast,Int.toNat_natCast,if_pos (by omega),if_pos (by omega),if_pos (by omega),if_pos (by omega),if_pos (by omega),if_pos (by rw[List.length_set];omega),if_pos (by rw[List.length_set];omega),dV (by omega),
     aY (by omega) (by omega)]
    have:(j:Int) - 1=(w.length:Int) - 1 - ((i+1:Nat):Int):=by omega
    rw[this]
   ·dsimp only
    rw[iI (by rw[List.length_set];omega),iI (by omega),vi,vj]
    by_cases e1:j=p
    ·subst e1
     rw[if_pos rfl,if_pos (by omega)]
     congr 1;omega
    ·rw[if_neg e1]
     by_cases e2:i=p
     ·subst e2
      rw[if_pos rfl,if_pos (by omega)]
      congr 1;omega
     ·rw[if_neg e2,hp p hpl]
      by_cases e3:p<i∨w.length≤p+i
      ·rw[if_pos e3,if_pos (by omega)]
      ·rw[if_neg e3,if_neg (by omega)]
  ·refine .inr ⟨s,?_,Z2 (by simp[hs]) fun p hpl=> ?_⟩
   ·unfold bH
    dsimp only
    rw[if_neg (by simp;omega)]
   ·rw[hp p (by omega),X4 (by omega)]
    by_cases e3:p<i∨w.length≤p+i
    ·rw[if_pos e3]
    ·rw[if_neg e3]
     congr 1;omega
 obtain⟨s,h1,rfl⟩:=key
 unfold bP
 rw[h1]
 rfl
theorem Cls.rev{n:Nat}{w:Wd}(h:Cls n w):Cls n w.reverse:=fun c hc=>h c (List.mem_reverse.1 hc)
theorem S3{l:List RU}{m:Nat}(h:m<l.length):(gP l).getD m (.node 0 0 [])=(l.getD m T8).2.1:=by
 unfold gP
 rw[cI (by simpa using h),cI h,List.getElem_map]
theorem J5{l:List RU}{m:Nat}(h:m<l.length):(dN l).getD m (.node 0 0 [])=jY (l.getD m T8).2.2:=by
 unfold dN
 rw[cI (by simpa using h),cI h,List.getElem_map]
theorem M3{l:List RU}{m:Nat}(h:m<l.length){u:Wd}:En (gP l) m u↔∃k,k≤u.length∧Lg (l.getD m T8).2.1 (u.drop k):=by
 unfold En;rw[S3 h]
theorem zW{l:List RU}{m:Nat}(h:m<l.length){v:Wd}:En (dN l) m v.reverse↔∃k,k≤v.length∧Lg (l.getD m T8).2.2 (v.take k):=by
 unfold En
 rw[J5 h,List.length_reverse]
 constructor
 ·rintro⟨k,h1,h2⟩
  rw[List.drop_reverse,n5]at h2
  exact⟨v.length - k,by omega,h2⟩
 ·rintro⟨k,h1,h2⟩
  refine⟨v.length - k,by omega,?_⟩
  rw[List.drop_reverse,n5,Nat.sub_sub_self h1]
  exact h2
theorem aAs{x y:Int}(hx:U32 x)(hy:U32 y)(i:Nat):bt (aI .and .u32 x y) i=(bt x i && bt y i):=by
 rw[uF hx hy];simp only[bt,Int.toNat_natCast,Nat.testBit_and]
theorem aBB{x y:Int}(hx:U32 x)(hy:U32 y):U32 (aI .and .u32 x y):=by
 rw[uF hx hy]
 have:=Nat.and_le_left (n:=x.toNat) (m:=y.toNat)
 have:=hx.2
 exact⟨by omega,by omega⟩
theorem aAx{l:List RU}(hl:l.length≤24){u v:Wd}{a b:Int}(ha:U32 a)(hb:U32 b)(h1:∀m,bt a m=true↔m<(gP l).length∧En (gP l) m u)(h2:∀m,bt b m=true↔m<(dN l).length∧En (dN l) m v.reverse):
  ((aI .and .u32 a b != 0)=true∧∃k:Nat,vP (aI .and .u32 a b)=(k:Int)∧k<l.length∧Dec l u v (l.getD k T8).1)∨((aI .and .u32 a b != 0)=false∧Dec l u v 1):=by
 have l1:(gP l).length=l.length:=by simp[gP]
 have l2:(dN l).length=l.length:=by simp[dN]
 have hit:∀m,bt (aI .and .u32 a b) m=true↔m<l.length∧Hit (l.getD m T8) u v:=fun m=>by
  rw[aAs ha hb,Bool.and_eq_true,h1,h2,l1,l2]
  constructor
  ·rintro⟨⟨q,q1⟩,_,q2⟩
   exact⟨q,(M3 q).1 q1,(zW q).1 q2⟩
  ·rintro⟨q,q1,q2⟩
   exact⟨⟨q,(M3 q).2 q1⟩,q,(zW q).2 q2⟩
 by_cases h0:aI .and .u32 a b=0
 ·refine .inr ⟨by rw[h0];rfl,Dec.none fun x hx hh=> ?_⟩
  obtain⟨m,hm,rfl⟩:=List.getElem_of_mem hx
  have:=(hit m).2 ⟨hm,by rw[cI hm];exact hh⟩
  rw[h0]at this
  simp[bt]at this
 ·obtain⟨k,k1,k2,k3,k4⟩:=aDf (aBB ha hb) h0
  obtain⟨k5,k6⟩:=(hit k).1 k3
  refine .inl ⟨bne_iff_ne.mpr h0,k,k1,k5,Dec.first k5 k6 fun j hj hh=> ?_⟩
  have:=(hit j).2 ⟨by omega,hh⟩
  rw[k4 j hj]at this
  cases this
theorem aA6{r:RR}(h:Good r){A B:AU}(hM:aBd r A B){i1:List Int}(hl:i1.length≤1000):∃out,cY (some (r,A,B)) i1=some out∧Spec r i1 out:=by
 obtain⟨p1,p2,p3,p4,p5⟩:=aCL h i1
 obtain⟨r3,a1,a2,a3⟩:=hM.1 (kD r i1) p5 (by omega)
 obtain⟨r7,b1,b2,b3⟩:=hM.2 (kD r i1).reverse p5.rev (by rw[List.length_reverse];omega)
 rw[List.length_reverse]at b2 b3
 have e0:IntKind.i64.wrap ((i1.length:Int)+1)=((i1.length+1:Nat):Int):=dV (by omega)
 have L2:∃out,iter (cJ (some (r,A,B)) (gJ (mL r i1)) r3 r7) ((List.replicate (i1.length+1) (0:Int)).set i1.length 2,1)=some out∧Spec r i1 out:=by
  refine bS (I:=fun q=>∃k:Nat,q.2=(k:Int)∧1≤k∧k≤max 1 (mL r i1).length∧q.1.length=i1.length+1∧q.1.getD i1.length 0=2 ∧
   (∀j,1≤j→j<k→Dec r.2.2.2.2 ((kD r i1).take j) ((kD r i1).drop j) (q.1.getD ((mL r i1).getD j 0) 0))∧∀i,i<i1.length→(∀j,1≤j→j<k→(mL r i1).getD j 0≠i)→q.1.getD i 0=0)
   (μ:=fun q=>i1.length+2 - q.2.toNat) _ ?_ ⟨1,rfl,Nat.le_refl _,by omega,by simp,?_,fun j _ _=>by omega,fun i hi _=> ?_⟩
  ·rintro⟨o,k'⟩ ⟨k,rfl,k1,k2,ho,hL,hD,hO⟩
   dsimp only at ho hL hD hO
   by_cases hlt:k<(mL r i1).length
   ·obtain⟨jA,A1,A2,A3,A4⟩:=a3 k (by omega)
    obtain⟨jB,B1,B2,B3,B4⟩:=b3 ((kD r i1).length - k) (by omega)
    have ht:((kD r i1).reverse).take ((kD r i1).length - k)=((kD r i1).drop k).reverse:=by
     rw[List.take_reverse,Nat.sub_sub_self (by omega)]
    rw[ht]at B4
    have hw:IntKind.i64.wrap (((gJ (mL r i1)).length:Int) - (k:Int))=(((kD r i1).length - k:Nat):Int):=by
     rw[dA,aY (by omega) (by omega)];omega
    have hat:=p3 k hlt
    have hg:(gJ (mL r i1)).getD k 0=(((mL r i1).getD k 0:Nat):Int):=mW hlt
    have hil:(gJ (mL r i1)).length=(mL r i1).length:=dA _
    have step:∀d:Int,Dec r.2.2.2.2 ((kD r i1).take k) ((kD r i1).drop k) d→∀o':List Int,o'.length=i1.length+1→(∀i,o'.getD i 0=if(mL r i1).getD k 0=i then d else o.getD i 0) →
      (∃m:Nat,((k+1:Nat):Int)=(m:Int)∧1≤m∧m≤max 1 (mL r i1).length∧o'.length=i1.length+1∧o'.getD i1.length 0=2 ∧
       (∀j,1≤j→j<m→Dec r.2.2.2.2 ((kD r i1).take j) ((kD r i1).drop j) (o'.getD ((mL r i1).getD j 0) 0))∧∀i,i<i1.length→(∀j,1≤j→j<m→(mL r i1).getD j 0≠i)→o'.getD i 0=0):=fun d hd o' ho' hg'=>by
     refine⟨k+1,rfl,by omega,by omega,ho',?_,fun j j1 j2=> ?_,fun i hi hj=> ?_⟩
     ·rw[hg',if_neg (by omega)];exact hL
     ·rw[hg']
      by_cases e:j=k
      ·subst e;rw[if_pos rfl];exact hd
      ·have:=p4 j k (by omega) hlt
       rw[if_neg (by omega)]
       exact hD j j1 (by omega)
     ·rw[hg',if_neg (hj k k1 (by omega))]
      exact hO i hi fun j j1 j2=>hj j j1 (by omega)
    have main:∃o',cJ (some (r,A,B)) (gJ (mL r i1)) r3 r7 (o,(k:Int))=some (.inl (o',((k+1:Nat):Int)))∧o'.length=i1.length+1∧∃d,Dec r.2.2.2.2 ((kD r i1).take k) ((kD r i1).drop k) d∧∀i,o'.getD i 0=if(mL r i1).getD k 0=i then d else o.getD i 0:=by
     unfold cJ
     dsimp only
     simp only[Option.isSome_some,if_true,Option.getD_some,hw,hg,Int.toNat_natCast,A2,B2]
     rw[if_pos (by simp;omega),if_pos (by omega),if_pos (by omega),if_pos (by omega),if_pos (by omega),if_pos (by omega),if_pos (by omega),if_pos (by omega),if_pos (by omega)]
     rcases aAx h.rl A3 B3 A4 B4 with⟨c1,m,c2,c3,c4⟩ | ⟨c1,c2⟩
     ·rw[if_pos c1,if_pos (by omega),if_pos (by omega)]
      unfold fT
      simp only[Option.bind_some]
      rw[c2,if_pos (by omega),if_pos (by rw[List.length_set];omega),if_pos (by rw[List.length_set];omega)]
      simp only[Option.bind_some,Int.toNat_natCast]
      rw[dV (by omega)]
      refine⟨_,rfl,by simp[ho],_,c4,fun i=> ?_⟩
      rw[iI (by rw[List.length_set];omega),iI (by omega)]
      by_cases e:(mL r i1).getD k 0=i
      ·rw[if_pos e,if_pos e]
      ·rw[if_neg e,if_neg e,if_neg e]
     ·rw[if_neg (by rw[c1];decide)]
      simp only[Option.bind_some]
      rw[dV (by omega)]
      exact⟨_,rfl,by simp[ho],1,c2,fun i=>iI (by omega) _ _⟩
    obtain⟨o',m1,m2,d,m3,m4⟩:=main
    exact .inl ⟨(o',((k+1:Nat):Int)),m1,step d m3 o' m2 m4,by simp only[Int.toNat_natCast];omega⟩
   ·refine .inr ⟨o,?_,ho,hL,fun j j1 j2=>hD j j1 (by omega),fun i hi hj=>hO i hi fun j j1 j2=>by
     by_cases e:j<(mL r i1).length
     ·exact hj j j1 e
     ·omega⟩
    unfold cJ
    dsimp only
    rw[if_neg (by rw[dA];simp;omega)]
  ·dsimp only
   rw[iI (by simp),if_pos rfl]
  ·dsimp only
   rw[iI (by simp),if_neg (by omega)]
   rw[List.getD_eq_getElem?_getD,List.getElem?_replicate,if_pos (by omega)]
   rfl
 obtain⟨out,o1,o2⟩:=L2
 refine⟨out,?_,o2⟩
 unfold cY
 rw[e0,if_pos (by omega),Int.toNat_natCast,if_pos (by rw[List.length_replicate];omega),Int.toNat_natCast,if_pos (by rw[List.length_replicate];omega)]
 simp only[Option.isNone_some,Bool.false_eq_true,if_false,Option.isSome_some,if_true,Option.getD_some]
 rw[aBo h hl]
 simp only[Option.bind_some]
 rw[a1]
 simp only[Option.bind_some]
 rw[K5 (by omega)]
 simp only[Option.bind_some]
 rw[b1]
 simp only[Option.bind_some]
 rw[o1]
 rfl
end Go.Proofs.YtacpjjgochokcaaDoor.T
