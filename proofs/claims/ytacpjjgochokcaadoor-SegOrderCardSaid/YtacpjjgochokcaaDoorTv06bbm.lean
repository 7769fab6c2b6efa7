/- What seg.Make makes of rules. -/
import Derived.Test.YtacpjjgochokcaaDoorTv06lpm
import Derived.Test.YtacpjjgochokcaaDoorTvSdm
import Derived.Test.YtacpjjgochokcaaDoorTvYm
namespace Go.Proofs.YtacpjjgochokcaaDoor.T
open Go Go.Tv Go.Proofs
abbrev RU:=Int×Tree×Tree
abbrev RR:=List (List UInt8)×Int×Int×List Int×List RU
abbrev ru0:RU:=((0:Int),((Tree.node 0 0 []),(Tree.node 0 0 [])))
def kO(l:List RU):List Tree:=l.map fun x=>x.2.1
def fS(l:List RU):List Tree:=l.map fun x=>oL x.2.2
theorem aAz:∀l:List Tree,dR l.reverse=dR l
 | []=>rfl
 | x::l=>by
  rw[List.reverse_cons,iU,aAz l]
  simp only[dR]
  omega
mutual
theorem yE:∀t:Tree,iV (oL t)=iV t
 | .node o s ks=>by
  simp only[oL,iV]
  by_cases h1:o=1
  ·rw[if_pos h1,if_pos h1]
  ·rw[if_neg h1,if_neg h1]
   by_cases h2:o=2
   ·rw[if_pos h2,if_pos h2,if_pos h2,aAz,yT ks]
   ·rw[if_neg h2,if_neg h2,if_neg h2,yT ks,aDw ks]
theorem yT:∀ks:List Tree,dR (fD ks)=dR ks
 | []=>by simp only[fD]
 | k::ks=>by simp only[fD,dR,yE k,yT ks]
theorem aDw:∀ks:List Tree,vC (fD ks)=vC ks
 | []=>by simp only[fD]
 | k::ks=>by simp only[fD,vC,yE k]
end
structure Good(r:RR):Prop where
 n1:1≤r.1.length
 n24:r.1.length≤24
 jU:U32 r.2.1
 aU:U32 r.2.2.1
 tl:r.2.2.2.1.length=r.1.length
 tc:∀c∈r.2.2.2.1,0≤c∧c<(r.1.length:Int)
 rl:r.2.2.2.2.length≤24
 tk:∀x∈r.2.2.2.2,Tok 100 x.2.1∧Tok 100 x.2.2
 cl:dR (r.2.2.2.2.map fun x=>x.2.1)≤200
 cr:dR (r.2.2.2.2.map fun x=>x.2.2)≤200
theorem K9:∀l:List RU,dR (fS l)=dR (l.map fun x=>x.2.2)
 | []=>rfl
 | x::l=>by
  have:=K9 l
  unfold fS at this ⊢
  simp only[List.map_cons,dR,yE,this]
theorem Good.fitL{r:RR}(h:Good r):Fit (kO r.2.2.2.2):=by
 refine⟨by unfold kO;rw[List.length_map];exact h.rl,fun t ht=> ?_,h.cl⟩
 obtain⟨x,hx,rfl⟩:=List.mem_map.1 ht
 exact(h.tk x hx).1.mono (by omega)
theorem Good.fitR{r:RR}(h:Good r):Fit (fS r.2.2.2.2):=by
 refine⟨by unfold fS;rw[List.length_map];exact h.rl,fun t ht=> ?_,by rw[K9];exact h.cr⟩
 obtain⟨x,hx,rfl⟩:=List.mem_map.1 ht
 exact(aAV _ _ (h.tk x hx).2).mono (by omega)
theorem uW{α β:Type}(f:α→β){l:List α}{k:Nat}(hk:k<l.length)(d:α):(l.map f).take (k+1)=(l.map f).take k++[f (l.getD k d)]:=by
 rw[List.take_add_one,List.getElem?_map,List.getElem?_eq_getElem hk,List.getD_eq_getElem?_getD,List.getElem?_eq_getElem hk];rfl
theorem aBN{l:List RU}(hl:l.length≤24)(ht:∀x∈l,Tok 100 x.2.2):iter (kM l) ([],[],0)=some (kO l,fS l):=by
 have e1:(kO l).take l.length=kO l:=List.take_of_length_le (by simp[kO])
 have e2:(fS l).take l.length=fS l:=List.take_of_length_le (by simp[fS])
 have:=bI (body:=kM l) (fun k=>((kO l).take k,(fS l).take k,(k:Int))) l.length (r:=(kO l,fS l)) (fun k hlt=> ?_) ?_
 ·exact this
 ·have hm:l.getD k ru0∈l:=by rw[eJ hlt];exact List.getElem_mem hlt
  unfold kM
  dsimp only
  rw[if_pos (by simp;omega),if_pos (by omega),if_pos (by simp only[List.length_take,kO,List.length_map,List.length_cons,List.length_nil];omega),Int.toNat_natCast,aAI 100 _ (ht _ hm) 1000 (by omega)]
  simp only[Option.bind_some]
  rw[if_pos (by simp only[List.length_take,fS,List.length_map,List.length_cons,List.length_nil];omega),mP (by omega)]
  simp only[H0]
  unfold kO fS
  rw[uW _ hlt ru0,uW _ hlt ru0]
 ·unfold kM
  dsimp only
  rw[if_neg (by simp),e1,e2]
def aDy(r:RR)(A B:AU):Prop:=Au (kO r.2.2.2.2) r.1.length A∧Au (fS r.2.2.2.2) r.1.length B
abbrev MA:=Option (RR×AU×AU)
def aJW(r:RR):Prop:=(∃x,PI (kO r.2.2.2.2) (kO r.2.2.2.2).length x∧aCu x r.1.length)∨∃x,PI (fS r.2.2.2.2) (fS r.2.2.2.2).length x∧aCu x r.1.length
theorem aB3{r:RR}(h:Good r):(qO r.1 r.2.1 r.2.2.1 r.2.2.2.1 r.2.2.2.2=some ((none:MA),27)∧aJW r)∨∃A B,qO r.1 r.2.1 r.2.2.1 r.2.2.2.1 r.2.2.2.2=some ((some (r,A,B):MA),0)∧aDy r A B:=by
 have h0:((r.1.length:Int) == 0)=false:=beq_eq_false_iff_ne.mpr (by have:=h.n1;omega)
 unfold qO
 rw[h0,aBN h.rl fun x hx=>(h.tk x hx).2]
 simp only[Bool.false_eq_true,if_false,Option.bind_some]
 rcases aDq h.fitL h.n1 h.n24 with⟨q,hf⟩ | ⟨nx,ou,A,q1,q2,q3⟩
 ·rw[q];exact .inl ⟨rfl,.inl hf⟩
 rw[q1]
 simp only[Option.bind_some]
 rw[if_neg (by decide)]
 rcases aDq h.fitR h.n1 h.n24 with⟨q,hf⟩ | ⟨nx',ou',B,p1,p2,p3⟩
 ·rw[q];exact .inl ⟨rfl,.inr hf⟩
 rw[p1]
 simp only[Option.bind_some]
 rw[if_neg (by decide),q2]
 simp only[Option.bind_some]
 rw[p2]
 exact .inr ⟨A,B,rfl,q3,p3⟩
end Go.Proofs.YtacpjjgochokcaaDoor.T
namespace Go.Proofs.YtacpjjgochokcaaDoor.T
open Go Go.Tv Go.Proofs
theorem aHb:∀i,i<32→deB.getD i 0=((Lib.deBruijn32tab.getD i 0:Nat):Int):=by decide +kernel
theorem aJ0{x:Int}(hx:U32 x)(h0:x≠0):∃k:Nat,J4 x=(k:Int)∧k<32∧bt x k=true∧∀j,j<k→bt x j=false:=by
 obtain⟨n,rfl⟩:=Int.eq_ofNat_of_zero_le hx.1
 have hn:n≠0:=fun e=>h0 (by rw[e];rfl)
 have hlt:n<2 ^ 32:=by
  have:=hx.2
  have e:(2:Nat) ^ 32=4294967296:=by decide
  omega
 obtain⟨l1,l2⟩:=Lib.lowest_bit 32 n hn hlt
 have hs:Lib.ctz 32 n=Lib.ctzFrom 32 n:=by simp[Lib.ctz,hn]
 obtain⟨m,hm,_⟩:=Lib.ctzFrom_spec 32 n (by omega) hlt
 rw[←hs]at hm
 generalize Lib.ctz 32 n=k at l1 l2 hm
 have hb:bits BinOp.and IntKind.u32 (n:Int) (-(n:Int) % 4294967296)=((2 ^ k:Nat):Int):=by
  have e1 : -(n:Int) % 4294967296=((2 ^ 32 - n:Nat):Int):=by
   have e:(2:Nat) ^ 32=4294967296:=by decide
   omega
  rw[e1]
  have h2:U32 ((2 ^ 32 - n:Nat):Int):=by
   have e:(2:Nat) ^ 32=4294967296:=by decide
   exact⟨by omega,by omega⟩
  have:=E3 hx h2
  rw[Int.toNat_natCast,Int.toNat_natCast,l1]at this
  exact this
 obtain⟨d1,d2⟩:=Lib.deBruijn32_at k l2
 refine⟨k,?_,l2,?_,fun j hj=> ?_⟩
 ·unfold J4
  rw[if_neg (by rw[beq_iff_eq];exact h0),hb]
  have e:(((2 ^ k:Nat):Int)*125613361 % 4294967296 / 134217728).toNat=2 ^ k*125613361 % 4294967296 / 134217728:=by
   generalize (2 ^ k:Nat)=q
   rw[show((q:Nat):Int)*125613361=((q*125613361:Nat):Int) by rw[Int.natCast_mul];rfl]
   generalize q*125613361=z
   omega
  rw[e,aHb _ d1,d2]
 ·simp only[bt,Int.toNat_natCast]
  rw[hm,Nat.mul_comm,Nat.testBit_mul_two_pow]
  simp
 ·simp only[bt,Int.toNat_natCast]
  rw[hm,Nat.mul_comm,Nat.testBit_mul_two_pow]
  have:¬k≤j:=by omega
  simp[this]
end Go.Proofs.YtacpjjgochokcaaDoor.T
namespace Go.Proofs.YtacpjjgochokcaaDoor.T
open Go Go.Tv Go.Proofs
def Hit(x:RU)(u v:Wd):Prop:=(∃k,k≤u.length∧Lg x.2.1 (u.drop k))∧∃k,k≤v.length∧Lg x.2.2 (v.take k)
def Dec:List RU→Wd→Wd→Int→Prop
 | [],_,_,d=>d=1
 | x::l,u,v,d=>(Hit x u v∧d=x.1)∨(¬Hit x u v∧Dec l u v d)
theorem Dec.uniq:∀ {l:List RU} {u v:Wd} {d d':Int},Dec l u v d→Dec l u v d'→d=d'
 | [],_,_,_,_,h,h'=>h.trans h'.symm
 | x::l,u,v,d,d',h,h'=>by
  rcases h with⟨h1,h2⟩ | ⟨h1,h2⟩ <;> rcases h' with⟨k1,k2⟩ | ⟨k1,k2⟩
  ·rw[h2,k2]
  ·exact absurd h1 k1
  ·exact absurd k1 h1
  ·exact Dec.uniq h2 k2
theorem Dec.none:∀ {l:List RU} {u v:Wd},(∀x∈l,¬Hit x u v)→Dec l u v 1
 | [],_,_,_=>rfl
 | x::l,u,v,h=> .inr ⟨h x (.head _),Dec.none fun y hy=>h y (.tail _ hy)⟩
theorem Dec.first:∀ {l:List RU} {u v:Wd} {m:Nat},m<l.length→Hit (l.getD m ru0) u v→(∀j,j<m→¬Hit (l.getD j ru0) u v)→Dec l u v (l.getD m ru0).1
 | [],_,_,_,h,_,_=>absurd h (by simp)
 | x::l,u,v,0,_,h,_=> .inl ⟨h,rfl⟩
 | x::l,u,v,m+1,hm,h,hj=> .inr ⟨hj 0 (by omega),Dec.first (l:=l) (m:=m) (by simpa using hm) h fun j hj'=>hj (j+1) (by omega)⟩
def clp(n:Nat)(c:Int):Int:=if c<0∨(n:Int)≤c then 0 else c
theorem aEv{n:Nat}(h:1≤n)(c:Int):0≤clp n c∧clp n c<(n:Int):=by
 unfold clp;split <;> omega
theorem aFU{α:Type}{n:Nat}{c:Int}{F:Int→Option α}:((if decide (c<0)=true then some true else some (decide (c≥(n:Int)))).bind fun v=>(if v=true then some 0 else some c).bind F)=F (clp n c):=by
 unfold clp
 by_cases h1:c<0
 ·simp[h1]
 ·by_cases h2:(n:Int)≤c
  ·simp[h1,h2]
  ·simp[h1,h2]
def sg(r:RR)(i1:List Int):Nat→List Nat×List Int×Bool
 | 0=>([],[],false)
 | k+1=>if(sg r i1 k).2.2 && bt r.2.1 (clp r.1.length (i1.getD k 0)).toNat then sg r i1 k
  else((sg r i1 k).1++[k],(sg r i1 k).2.1++[r.2.2.2.1.getD (clp r.1.length (i1.getD k 0)).toNat 0],bt r.2.2.1 (clp r.1.length (i1.getD k 0)).toNat)
structure SgOk(r:RR)(s:List Nat×List Int×Bool)(k:Nat):Prop where
 ln:s.1.length=s.2.1.length
 le:s.1.length≤k
 lt:∀p,p<s.1.length→s.1.getD p 0<k
 inc:∀p q,p<q→q<s.1.length→s.1.getD p 0<s.1.getD q 0
 cls:Cls r.1.length s.2.1
theorem wQ{α:Type}{l:List α}{x d:α}:(l++[x]).getD l.length d=x:=by simp[List.getD_eq_getElem?_getD]
theorem aF6{r:RR}(h:Good r)(i1:List Int):∀k,SgOk r (sg r i1 k) k
 | 0=>⟨rfl,Nat.le_refl _,fun p hp=>absurd hp (by simp[sg]),fun p q _ hq=>absurd hq (by simp[sg]),fun c hc=>by cases hc⟩
 | k+1=>by
  have ih:=aF6 h i1 k
  simp only[sg]
  split
  ·exact⟨ih.ln,Nat.le_succ_of_le ih.le,fun p hp=>Nat.lt_succ_of_lt (ih.lt p hp),ih.inc,ih.cls⟩
  ·refine⟨by simp[ih.ln],by simp only[List.length_append,List.length_singleton];have:=ih.le;omega,fun p hp=> ?_,fun p q hpq hq=> ?_,fun c hc=> ?_⟩
   ·simp only[List.length_append,List.length_singleton]at hp
    by_cases e:p=(sg r i1 k).1.length
    ·rw[e,wQ];omega
    ·rw[cE (by omega)]
     exact Nat.lt_succ_of_lt (ih.lt p (by omega))
   ·simp only[List.length_append,List.length_singleton]at hq
    by_cases e:q=(sg r i1 k).1.length
    ·rw[e,wQ,cE (by omega)]
     exact ih.lt p (by omega)
    ·rw[cE (by omega),cE (by omega)]
     exact ih.inc p q hpq (by omega)
   ·rcases List.mem_append.1 hc with q | q
    ·exact ih.cls c q
    ·obtain rfl:=List.mem_singleton.1 q
     have h1:=aEv h.n1 (i1.getD k 0)
     exact h.tc _ (d9 (by have:=h.tl;omega))
def rR(r:RR)(i1:List Int):List Nat:=(sg r i1 i1.length).1
def oK(r:RR)(i1:List Int):List Int:=(sg r i1 i1.length).2.1
theorem aJi{r:RR}(h:Good r)(i1:List Int):(rR r i1).length=(oK r i1).length∧(rR r i1).length≤i1.length∧(∀p,p<(rR r i1).length→(rR r i1).getD p 0<i1.length) ∧
  (∀p q,p<q→q<(rR r i1).length→(rR r i1).getD p 0<(rR r i1).getD q 0)∧Cls r.1.length (oK r i1) :=
 let q:=aF6 h i1 i1.length
 ⟨q.ln,q.le,q.lt,q.inc,q.cls⟩
structure Spec(r:RR)(i1 out:List Int):Prop where
 len:out.length=i1.length+1
 last:out.getD i1.length 0=2
 dec:∀k,1≤k→k<(rR r i1).length→Dec r.2.2.2.2 ((oK r i1).take k) ((oK r i1).drop k) (out.getD ((rR r i1).getD k 0) 0)
 oth:∀i,i<i1.length→(∀k,1≤k→k<(rR r i1).length→(rR r i1).getD k 0≠i)→out.getD i 0=0
theorem Spec.uniq{r:RR}{i1 o o':List Int}(h:Spec r i1 o)(h':Spec r i1 o'):o=o':=by
 have e:∀i,i<i1.length+1→o.getD i 0=o'.getD i 0:=fun i hi=>by
  by_cases e:i=i1.length
  ·rw[e,h.last,h'.last]
  ·by_cases q:∃k,1≤k∧k<(rR r i1).length∧(rR r i1).getD k 0=i
   ·obtain⟨k,k1,k2,rfl⟩:=q
    exact(h.dec k k1 k2).uniq (h'.dec k k1 k2)
   ·have q':∀k,1≤k→k<(rR r i1).length→(rR r i1).getD k 0≠i:=fun k k1 k2 e=>q ⟨k,k1,k2,e⟩
    rw[h.oth i (by omega) q',h'.oth i (by omega) q']
 refine List.ext_getElem (by rw[h.len,h'.len]) fun i h1 h2=> ?_
 have:=e i (by have:=h.len;omega)
 rwa [eJ h1,eJ h2]at this
theorem aD0{α:Type}{b:Bool}{x:Int}(hx:U32 x){c:Int}(h0:0≤c)(h1:c<24){F:Bool→Option α}:
  ((if b=true then if 0≤c then some (aJ .and .u32 (Int.fdiv x (2 ^ (min c.toNat IntKind.u32.bits))) 1 == 1)else none else some false).bind F)=F (b && bt x c.toNat):=by
 rw[aAn hx (by omega),if_pos h0]
 cases b <;> rfl
theorem aG9{r:RR}(h:Good r){A B:AU}{i1:List Int}(hl:i1.length≤1000):iter (fQ (some (r,A,B)) i1) ([],[],false,0)=some (j7 (rR r i1),oK r i1):=by
 refine bI (fun k=>(j7 (sg r i1 k).1,(sg r i1 k).2.1,(sg r i1 k).2.2,(k:Int))) i1.length (fun k hlt=> ?_) ?_
 ·have ih:=aF6 h i1 k
  have hle:=ih.le
  have hln:=ih.ln
  have hn:=h.n24
  have htl:=h.tl
  obtain⟨c1,c2⟩:=aEv h.n1 (i1.getD k 0)
  unfold fQ
  dsimp only
  simp only[Option.isSome_some,if_true,Option.getD_some]
  rw[if_pos (by simp;omega),if_pos (by omega),Int.toNat_natCast,aFU,aD0 h.jU c1 (by omega),mP (by omega)]
  simp only[sg]
  by_cases hb:((sg r i1 k).2.2 && bt r.2.1 (clp r.1.length (i1.getD k 0)).toNat)=true
  ·rw[if_pos hb,if_pos hb]
  ·rw[if_neg hb,if_neg hb,if_pos c1,if_pos (by rw[fC];simp only[List.length_cons,List.length_nil];omega),if_pos (by omega),
    if_pos (by simp only[List.length_cons,List.length_nil];omega),aAn h.aU (by omega),aA7]
 ·unfold fQ
  dsimp only
  rw[if_neg (by simp)]
  rfl
end Go.Proofs.YtacpjjgochokcaaDoor.T
namespace Go.Proofs.YtacpjjgochokcaaDoor.T
open Go Go.Tv Go.Proofs
theorem lS{l:List Int}{k:Nat}(hk:k<l.length)(v:Int)(j:Nat):(l.set k v).getD j 0=if k=j then v else l.getD j 0:=by
 simp only[List.getD_eq_getElem?_getD,List.getElem?_set]
 by_cases e:k=j
 ·rw[if_pos e,if_pos e,if_pos (by omega)];rfl
 ·rw[if_neg e,if_neg e]
theorem aGp{l m:List Int}(h:l.length=m.length)(e:∀i,i<l.length→l.getD i 0=m.getD i 0):l=m :=
 List.ext_getElem h fun i h1 h2=>by
  have:=e i h1
  rwa [eJ h1,eJ h2]at this
theorem aFa{w:List Int}{i:Nat}(h:i<w.length):w.reverse.getD i 0=w.getD (w.length - 1 - i) 0:=by
 rw[eJ (by simpa using h),eJ (by omega),List.getElem_reverse]
theorem aB9{w:List Int}(hl:w.length≤1000):cN w=some w.reverse:=by
 have key:∃s,iter bX (w,0,IntKind.i64.wrap ((w.length:Int) - 1))=some s∧s=w.reverse:=by
  rw[aP (by omega) (by omega)]
  refine dB (I:=fun q=>∃i:Nat,q.2.1=(i:Int)∧q.2.2=(w.length:Int) - 1 - i∧i≤w.length∧2*i≤w.length+1∧q.1.length=w.length∧∀p,p<w.length→q.1.getD p 0=if p<i∨w.length≤p+i then w.getD (w.length - 1 - p) 0 else w.getD p 0)
   (μ:=fun q=>w.length - q.2.1.toNat) _ ?_ ⟨0,rfl,by simp,Nat.zero_le _,by omega,rfl,fun p hp=>by rw[if_neg (by omega)]⟩
  rintro⟨s,i',j'⟩ ⟨i,hi',hj',hi,h2,hs,hp⟩
  dsimp only at hi' hj' hs hp
  subst hi' hj'
  by_cases hlt:(i:Int)<(w.length:Int) - 1 - i
  ·obtain⟨j,hj⟩:∃j:Nat,(w.length:Int) - 1 - i=(j:Int):=⟨w.length - 1 - i,by omega⟩
   have hjl:j<w.length:=by omega
   have vi:s.getD i 0=w.getD i 0:=by rw[hp i (by omega),if_neg (by omega)]
   have vj:s.getD j 0=w.getD j 0:=by rw[hp j (by omega),if_neg (by omega)]
   refine .inl ⟨((s.set i (s.getD j 0)).set j (s.getD i 0),((i+1:Nat):Int),((w.length:Int) - 1 - ((i+1:Nat):Int))),?_,⟨i+1,rfl,rfl,by omega,by omega,by simp[hs],fun p hpl=> ?_⟩,by simp only[Int.toNat_natCast];omega⟩
   ·unfold bX
    dsimp only
    rw[hj,if_pos (by simp;omega),if_pos (by omega),Int.toNat_natCast,Int.toNat_natCast,if_pos (by omega),if_pos (by omega),if_pos (by omega),if_pos (by omega),if_pos (by omega),if_pos (by rw[List.length_set];omega),if_pos (by rw[List.length_set];omega),mP (by omega),
     aP (by omega) (by omega)]
    have:(j:Int) - 1=(w.length:Int) - 1 - ((i+1:Nat):Int):=by omega
    rw[this]
   ·dsimp only
    rw[lS (by rw[List.length_set];omega),lS (by omega),vi,vj]
    by_cases e1:j=p
    ·subst e1
     rw[if_pos rfl,if_pos (by omega)]
     congr 1;omega
    ·rw[if_neg e1]
     by_cases e2:i=p
     ·subst e2
      rw[if_pos rfl,if_pos (by omega)]
      congr 1;omega
     ·rw[if_neg e2,hp p hpl]
      by_cases e3:p<i∨w.length≤p+i
      ·rw[if_pos e3,if_pos (by omega)]
      ·rw[if_neg e3,if_neg (by omega)]
  ·refine .inr ⟨s,?_,aGp (by simp[hs]) fun p hpl=> ?_⟩
   ·unfold bX
    dsimp only
    rw[if_neg (by simp;omega)]
   ·rw[hp p (by omega),aFa (by omega)]
    by_cases e3:p<i∨w.length≤p+i
    ·rw[if_pos e3]
    ·rw[if_neg e3]
     congr 1;omega
 obtain⟨s,h1,rfl⟩:=key
 unfold cN
 rw[h1]
 rfl
theorem Cls.rev{n:Nat}{w:Wd}(h:Cls n w):Cls n w.reverse:=fun c hc=>h c (List.mem_reverse.1 hc)
theorem aDZ{l:List RU}{m:Nat}(h:m<l.length):(kO l).getD m (.node 0 0 [])=(l.getD m ru0).2.1:=by
 unfold kO
 rw[eJ (by simpa using h),eJ h,List.getElem_map]
theorem aCd{l:List RU}{m:Nat}(h:m<l.length):(fS l).getD m (.node 0 0 [])=oL (l.getD m ru0).2.2:=by
 unfold fS
 rw[eJ (by simpa using h),eJ h,List.getElem_map]
theorem aDo{l:List RU}{m:Nat}(h:m<l.length){u:Wd}:En (kO l) m u↔∃k,k≤u.length∧Lg (l.getD m ru0).2.1 (u.drop k):=by
 unfold En;rw[aDZ h]
theorem aAY{l:List RU}{m:Nat}(h:m<l.length){v:Wd}:En (fS l) m v.reverse↔∃k,k≤v.length∧Lg (l.getD m ru0).2.2 (v.take k):=by
 unfold En
 rw[aCd h,List.length_reverse]
 constructor
 ·rintro⟨k,h1,h2⟩
  rw[List.drop_reverse,uI]at h2
  exact⟨v.length - k,by omega,h2⟩
 ·rintro⟨k,h1,h2⟩
  refine⟨v.length - k,by omega,?_⟩
  rw[List.drop_reverse,uI,Nat.sub_sub_self h1]
  exact h2
theorem aEC{x y:Int}(hx:U32 x)(hy:U32 y)(i:Nat):bt (aJ .and .u32 x y) i=(bt x i && bt y i):=by
 rw[E3 hx hy];simp only[bt,Int.toNat_natCast,Nat.testBit_and]
theorem aG4{x y:Int}(hx:U32 x)(hy:U32 y):U32 (aJ .and .u32 x y):=by
 rw[E3 hx hy]
 have:=Nat.and_le_left (n:=x.toNat) (m:=y.toNat)
 have:=hx.2
 exact⟨by omega,by omega⟩
theorem aEF{l:List RU}(hl:l.length≤24){u v:Wd}{a b:Int}(ha:U32 a)(hb:U32 b)(h1:∀m,bt a m=true↔m<(kO l).length∧En (kO l) m u)(h2:∀m,bt b m=true↔m<(fS l).length∧En (fS l) m v.reverse):
  ((aJ .and .u32 a b != 0)=true∧∃k:Nat,J4 (aJ .and .u32 a b)=(k:Int)∧k<l.length∧Dec l u v (l.getD k ru0).1)∨((aJ .and .u32 a b != 0)=false∧Dec l u v 1):=by
 have l1:(kO l).length=l.length:=by simp[kO]
 have l2:(fS l).length=l.length:=by simp[fS]
 have hit:∀m,bt (aJ .and .u32 a b) m=true↔m<l.length∧Hit (l.getD m ru0) u v:=fun m=>by
  rw[aEC ha hb,Bool.and_eq_true,h1,h2,l1,l2]
  constructor
  ·rintro⟨⟨q,q1⟩,_,q2⟩
   exact⟨q,(aDo q).1 q1,(aAY q).1 q2⟩
  ·rintro⟨q,q1,q2⟩
   exact⟨⟨q,(aDo q).2 q1⟩,q,(aAY q).2 q2⟩
 by_cases h0:aJ .and .u32 a b=0
 ·refine .inr ⟨by rw[h0];rfl,Dec.none fun x hx hh=> ?_⟩
  obtain⟨m,hm,rfl⟩:=List.getElem_of_mem hx
  have:=(hit m).2 ⟨hm,by rw[eJ hm];exact hh⟩
  rw[h0]at this
  simp[bt]at this
 ·obtain⟨k,k1,k2,k3,k4⟩:=aJ0 (aG4 ha hb) h0
  obtain⟨k5,k6⟩:=(hit k).1 k3
  refine .inl ⟨bne_iff_ne.mpr h0,k,k1,k5,Dec.first k5 k6 fun j hj hh=> ?_⟩
  have:=(hit j).2 ⟨by omega,hh⟩
  rw[k4 j hj]at this
  cases this
theorem aCV{r:RR}(h:Good r){A B:AU}(hM:aDy r A B){i1:List Int}(hl:i1.length≤1000):∃out,bO (some (r,A,B)) i1=some out∧Spec r i1 out:=by
 obtain⟨p1,p2,p3,p4,p5⟩:=aJi h i1
 obtain⟨r3,a1,a2,a3⟩:=hM.1 (oK r i1) p5 (by omega)
 obtain⟨r7,b1,b2,b3⟩:=hM.2 (oK r i1).reverse p5.rev (by rw[List.length_reverse];omega)
 rw[List.length_reverse]at b2 b3
 have e0:IntKind.i64.wrap ((i1.length:Int)+1)=((i1.length+1:Nat):Int):=mP (by omega)
 have L2:∃out,iter (eF (some (r,A,B)) (j7 (rR r i1)) r3 r7) ((List.replicate (i1.length+1) (0:Int)).set i1.length 2,1)=some out∧Spec r i1 out:=by
  refine dB (I:=fun q=>∃k:Nat,q.2=(k:Int)∧1≤k∧k≤max 1 (rR r i1).length∧q.1.length=i1.length+1∧q.1.getD i1.length 0=2 ∧
   (∀j,1≤j→j<k→Dec r.2.2.2.2 ((oK r i1).take j) ((oK r i1).drop j) (q.1.getD ((rR r i1).getD j 0) 0))∧∀i,i<i1.length→(∀j,1≤j→j<k→(rR r i1).getD j 0≠i)→q.1.getD i 0=0)
   (μ:=fun q=>i1.length+2 - q.2.toNat) _ ?_ ⟨1,rfl,Nat.le_refl _,by omega,by simp,?_,fun j _ _=>by omega,fun i hi _=> ?_⟩
  ·rintro⟨o,k'⟩ ⟨k,rfl,k1,k2,ho,hL,hD,hO⟩
   dsimp only at ho hL hD hO
   by_cases hlt:k<(rR r i1).length
   ·obtain⟨jA,A1,A2,A3,A4⟩:=a3 k (by omega)
    obtain⟨jB,B1,B2,B3,B4⟩:=b3 ((oK r i1).length - k) (by omega)
    have ht:((oK r i1).reverse).take ((oK r i1).length - k)=((oK r i1).drop k).reverse:=by
     rw[List.take_reverse,Nat.sub_sub_self (by omega)]
    rw[ht]at B4
    have hw:IntKind.i64.wrap (((j7 (rR r i1)).length:Int) - (k:Int))=(((oK r i1).length - k:Nat):Int):=by
     rw[fC,aP (by omega) (by omega)];omega
    have hat:=p3 k hlt
    have hg:(j7 (rR r i1)).getD k 0=(((rR r i1).getD k 0:Nat):Int):=sS hlt
    have hil:(j7 (rR r i1)).length=(rR r i1).length:=fC _
    have step:∀d:Int,Dec r.2.2.2.2 ((oK r i1).take k) ((oK r i1).drop k) d→∀o':List Int,o'.length=i1.length+1→(∀i,o'.getD i 0=if(rR r i1).getD k 0=i then d else o.getD i 0) →
      (∃m:Nat,((k+1:Nat):Int)=(m:Int)∧1≤m∧m≤max 1 (rR r i1).length∧o'.length=i1.length+1∧o'.getD i1.length 0=2 ∧
       (∀j,1≤j→j<m→Dec r.2.2.2.2 ((oK r i1).take j) ((oK r i1).drop j) (o'.getD ((rR r i1).getD j 0) 0))∧∀i,i<i1.length→(∀j,1≤j→j<m→(rR r i1).getD j 0≠i)→o'.getD i 0=0):=fun d hd o' ho' hg'=>by
     refine⟨k+1,rfl,by omega,by omega,ho',?_,fun j j1 j2=> ?_,fun i hi hj=> ?_⟩
     ·rw[hg',if_neg (by omega)];exact hL
     ·rw[hg']
      by_cases e:j=k
      ·subst e;rw[if_pos rfl];exact hd
      ·have:=p4 j k (by omega) hlt
       rw[if_neg (by omega)]
       exact hD j j1 (by omega)
     ·rw[hg',if_neg (hj k k1 (by omega))]
      exact hO i hi fun j j1 j2=>hj j j1 (by omega)
    have main:∃o',eF (some (r,A,B)) (j7 (rR r i1)) r3 r7 (o,(k:Int))=some (.inl (o',((k+1:Nat):Int)))∧o'.length=i1.length+1∧∃d,Dec r.2.2.2.2 ((oK r i1).take k) ((oK r i1).drop k) d∧∀i,o'.getD i 0=if(rR r i1).getD k 0=i then d else o.getD i 0:=by
     unfold eF
     dsimp only
     simp only[Option.isSome_some,if_true,Option.getD_some,hw,hg,Int.toNat_natCast,A2,B2]
     rw[if_pos (by simp;omega),if_pos (by omega),if_pos (by omega),if_pos (by omega),if_pos (by omega),if_pos (by omega),if_pos (by omega),if_pos (by omega),if_pos (by omega)]
     rcases aEF h.rl A3 B3 A4 B4 with⟨c1,m,c2,c3,c4⟩ | ⟨c1,c2⟩
     ·rw[if_pos c1,if_pos (by omega),if_pos (by omega)]
      unfold iS
      simp only[Option.bind_some]
      rw[c2,if_pos (by omega),if_pos (by rw[List.length_set];omega),if_pos (by rw[List.length_set];omega)]
      simp only[Option.bind_some,Int.toNat_natCast]
      rw[mP (by omega)]
      refine⟨_,rfl,by simp[ho],_,c4,fun i=> ?_⟩
      rw[lS (by rw[List.length_set];omega),lS (by omega)]
      by_cases e:(rR r i1).getD k 0=i
      ·rw[if_pos e,if_pos e]
      ·rw[if_neg e,if_neg e,if_neg e]
     ·rw[if_neg (by rw[c1];decide)]
      simp only[Option.bind_some]
      rw[mP (by omega)]
      exact⟨_,rfl,by simp[ho],1,c2,fun i=>lS (by omega) _ _⟩
    obtain⟨o',m1,m2,d,m3,m4⟩:=main
    exact .inl ⟨(o',((k+1:Nat):Int)),m1,step d m3 o' m2 m4,by simp only[Int.toNat_natCast];omega⟩
   ·refine .inr ⟨o,?_,ho,hL,fun j j1 j2=>hD j j1 (by omega),fun i hi hj=>hO i hi fun j j1 j2=>by
     by_cases e:j<(rR r i1).length
     ·exact hj j j1 e
     ·omega⟩
    unfold eF
    dsimp only
    rw[if_neg (by rw[fC];simp;omega)]
  ·dsimp only
   rw[lS (by simp),if_pos rfl]
  ·dsimp only
   rw[lS (by simp),if_neg (by omega)]
   rw[List.getD_eq_getElem?_getD,List.getElem?_replicate,if_pos (by omega)]
   rfl
 obtain⟨out,o1,o2⟩:=L2
 refine⟨out,?_,o2⟩
 unfold bO
 rw[e0,if_pos (by omega),Int.toNat_natCast,if_pos (by rw[List.length_replicate];omega),Int.toNat_natCast,if_pos (by rw[List.length_replicate];omega)]
 simp only[Option.isNone_some,Bool.false_eq_true,if_false,Option.isSome_some,if_true,Option.getD_some]
 rw[aG9 h hl]
 simp only[Option.bind_some]
 rw[a1]
 simp only[Option.bind_some]
 rw[aB9 (by omega)]
 simp only[Option.bind_some]
 rw[b1]
 simp only[Option.bind_some]
 rw[o1]
 rfl
end Go.Proofs.YtacpjjgochokcaaDoor.T
