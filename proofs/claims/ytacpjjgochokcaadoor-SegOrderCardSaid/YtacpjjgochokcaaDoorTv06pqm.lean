/- A plan's rules as a text. -/
import Derived.Test.YtacpjjgochokcaaDoorTvT06xb
import Derived.Test.YtacpjjgochokcaaDoorTvYm
import Derived.Test.YtacpjjgochokcaaDoorTv06lpm
namespace Go.Proofs.YtacpjjgochokcaaDoor.T
open Go Go.Tv Go.Proofs
def tR(n i:Nat):UInt8:=(65+i % n).toUInt8
def dC(n b:Nat):Nat→List UInt8
 | 0=>[]
 | k+1=>dC n b k++(if b / 2 ^ k % 2=1 then[32,tR n k]else[])
theorem D8{n i:Nat}(h1:1≤n)(h6:n≤6):mC (n:Int) (i:Int)=some [tR n i]:=by
 unfold mC
 rw[if_pos (by omega)]
 have e:Int.tmod (i:Int) (n:Int)=((i % n:Nat):Int):=rfl
 have hlt:i % n<n:=Nat.mod_lt _ (by omega)
 rw[e,aP (by omega) (by omega),aC5 (by omega) (by omega)]
 rfl
theorem gW(n b k:Nat):(dC n b k).length≤2*k:=by
 induction k with
 | zero=>exact Nat.le_refl _
 | succ k ih =>
  simp only[dC,List.length_append]
  split <;> simp only[List.length_cons,List.length_nil] <;> omega
theorem xF{n b:Nat}(h1:1≤n)(h6:n≤6)(hb:b<256):iA (n:Int) (b:Int)=some (dC n b n):=by
 unfold iA
 have hi:iter (kG (n:Int) (b:Int)) (dC n b 0,((0:Nat):Int))=some (dC n b n):=by
  refine bI (fun k:Nat=>(dC n b k,(k:Int))) n (fun k hk=> ?_) ?_
  ·have hl:=gW n b k
   have e8:IntKind.u8.bits=8:=rfl
   have e:Int.fdiv (b:Int) (2 ^ (min (k:Int).toNat IntKind.u8.bits))=((b / 2 ^ k:Nat):Int):=by
    rw[Int.toNat_natCast,e8,show min k 8=k by omega,Int.fdiv_eq_ediv_of_nonneg _ (by exact Int.le_of_lt (Int.pow_pos (by decide)))]
    simp
   have e2:Int.tmod ((b / 2 ^ k:Nat):Int) (2:Int)=((b / 2 ^ k % 2:Nat):Int):=rfl
   unfold kG
   simp only[e,e2]
   rw[if_pos (by simp;omega),if_pos (by omega),if_pos (by decide)]
   simp only[dC]
   by_cases hbit:b / 2 ^ k % 2=1
   ·rw[if_pos (by rw[hbit];rfl),if_pos hbit,if_pos (by simp;omega),D8 h1 h6]
    simp only[Option.bind_some]
    rw[if_pos (by simp;omega),aP (by omega) (by omega),List.append_assoc]
    rfl
   ·rw[if_neg (by rw[beq_iff_eq];omega),if_neg hbit,aP (by omega) (by omega),List.append_nil]
    rfl
  ·unfold kG
   simp only[]
   rw[if_neg (by simp)]
 rw[show iter (kG (n:Int) (b:Int)) ([],0)=_ from hi]
 rfl
inductive Ex where
 | nm (k:Nat)
 | any
 | set (neg:Bool) (b:Nat)
 | star (a:Ex)
 | plus (a:Ex)
 | opt (a:Ex)
 | alt (a b:Ex)
 | seq (a b:Ex)
def nx(l:List Int)(i:Nat):Nat×Nat:=if l.length≤i then(0,i)else((l.getD i 0).toNat,i+1)
def yA:Nat→List Int→Nat→Ex×Nat
 | 0,l,i=>(.nm (nx l i).1,(nx l i).2)
 | d+1,l,i =>
  if(nx l i).1 % 12=4 then(.any,(nx l i).2)
  else if(nx l i).1 % 12=5 then(.set false (nx l (nx l i).2).1,(nx l (nx l i).2).2)
  else if(nx l i).1 % 12=6 then(.set true (nx l (nx l i).2).1,(nx l (nx l i).2).2)
  else if(nx l i).1 % 12=7 then(.star (yA d l (nx l i).2).1,(yA d l (nx l i).2).2)
  else if(nx l i).1 % 12=8 then(.plus (yA d l (nx l i).2).1,(yA d l (nx l i).2).2)
  else if(nx l i).1 % 12=9 then(.opt (yA d l (nx l i).2).1,(yA d l (nx l i).2).2)
  else if(nx l i).1 % 12=10 then(.alt (yA d l (nx l i).2).1 (yA d l (yA d l (nx l i).2).2).1,(yA d l (yA d l (nx l i).2).2).2)
  else if(nx l i).1 % 12=11 then(.seq (yA d l (nx l i).2).1 (yA d l (yA d l (nx l i).2).2).1,(yA d l (yA d l (nx l i).2).2).2)
  else(.nm (nx l i).1,(nx l i).2)
def x9(n:Nat):Ex→List UInt8
 | .nm k=>[tR n k]
 | .any=>[46]
 | .set neg b=>(if neg then[91,94]else[91])++dC n b n++[93]
 | .star a=>[40]++x9 n a++[41,42]
 | .plus a=>[40]++x9 n a++[41,43]
 | .opt a=>[40]++x9 n a++[41,63]
 | .alt a b=>[40]++x9 n a++[124]++x9 n b++[41]
 | .seq a b=>x9 n a++[32]++x9 n b
def Ex.D:Ex→Nat
 | .star a=>a.D+1
 | .plus a=>a.D+1
 | .opt a=>a.D+1
 | .alt a b=>max a.D b.D+1
 | .seq a b=>max a.D b.D+1
 | .set _ _=>1
 | .any=>1
 | .nm _=>0
def vV:Nat→Nat
 | 0=>1
 | d+1=>2*vV d+13
theorem aDL(d:Nat):vV d≤vV (d+1):=by simp only[vV];omega
theorem pI:∀ {a b:Nat},a≤b→vV a≤vV b:=fun {a b} h=>by
 induction b with
 | zero=>cases Nat.le_zero.mp h;exact Nat.le_refl _
 | succ b ih =>
  rcases Nat.lt_or_ge b a with h1 | h1
  ·rw[show a=b+1 by omega];exact Nat.le_refl _
  ·exact Nat.le_trans (ih h1) (aDL b)
theorem lJ{n:Nat}(h6:n≤6):∀(e:Ex),(x9 n e).length≤vV e.D
 | .nm k=>Nat.le_refl _
 | .any=>by simp[x9,Ex.D,vV]
 | .set neg b=>by
  have:=gW n b n
  simp only[x9,Ex.D,vV,List.length_append]
  split <;> simp only[List.length_cons,List.length_nil] <;> omega
 | .star a=>by have:=lJ h6 a;simp only[x9,Ex.D,vV,List.length_append,List.length_cons,List.length_nil];omega
 | .plus a=>by have:=lJ h6 a;simp only[x9,Ex.D,vV,List.length_append,List.length_cons,List.length_nil];omega
 | .opt a=>by have:=lJ h6 a;simp only[x9,Ex.D,vV,List.length_append,List.length_cons,List.length_nil];omega
 | .alt a b=>by
  have h1:=lJ h6 a;have h2:=lJ h6 b
  have h3:=pI (Nat.le_max_left a.D b.D);have h4:=pI (Nat.le_max_right a.D b.D)
  simp only[x9,Ex.D,vV,List.length_append,List.length_cons,List.length_nil];omega
 | .seq a b=>by
  have h1:=lJ h6 a;have h2:=lJ h6 b
  have h3:=pI (Nat.le_max_left a.D b.D);have h4:=pI (Nat.le_max_right a.D b.D)
  simp only[x9,Ex.D,vV,List.length_append,List.length_cons,List.length_nil];omega
theorem wY:∀(d:Nat) (l:List Int) (i:Nat),(yA d l i).1.D≤d
 | 0,_,_=>Nat.le_refl _
 | d+1,l,i=>by
  have h1:=wY d l (nx l i).2
  have h2:=wY d l (yA d l (nx l i).2).2
  simp only[yA]
  repeat (split;· simp only[Ex.D];omega)
  simp only[Ex.D];omega
def Sm(l:List Int):Prop:=∀x∈l,0≤x∧x<256
theorem aHP{l:List Int}(hl:l.length≤1000)(hs:Sm l){i:Nat}(hi:i≤l.length):dG l (i:Int)=some (((nx l i).1:Int),((nx l i).2:Int))∧(nx l i).1<256∧(nx l i).2≤l.length:=by
 unfold dG nx
 by_cases h:l.length≤i
 ·rw[if_pos (by simp;omega),if_pos h]
  exact⟨rfl,by show 0<256;decide,hi⟩
 ·have hx:=hs _ (d9 (d:=0) (show i<l.length by omega))
  have e:IntKind.i64.wrap ((IntKind.i64.wrap ((i:Int)+1)) - 1)=(i:Int):=by
   rw[aP (x:=(i:Int)+1) (by omega) (by omega),aP (by omega) (by omega)];omega
  rw[if_neg (by simp;omega),if_neg h,e,if_pos ⟨by omega,by omega⟩,Int.toNat_natCast,aP (by omega) (by omega),aP (by omega) (by omega)]
  refine⟨?_,by simp only[];omega,by simp only[];omega⟩
  simp only[Option.some.injEq,Prod.mk.injEq]
  exact⟨by omega,rfl⟩
theorem V9{n:Nat}(h1:1≤n)(h6:n≤6){l:List Int}(hl:l.length≤1000)(hs:Sm l):∀(d f i:Nat),d≤3→d<f→i≤l.length →
  j9 f (n:Int) (d:Int) l (i:Int)=some (x9 n (yA d l i).1,((yA d l i).2:Int))∧(yA d l i).2≤l.length
 | _,0,_,_,h,_=>by omega
 | d,f+1,i,h3,hf,hi=>by
  obtain⟨e1,b1,c1⟩:=aHP hl hs hi
  show kU (j9 f) (n:Int) (d:Int) l (i:Int)=_∧_
  unfold kU
  rw[e1]
  simp only[Option.bind_some]
  have nm:mC (n:Int) ((nx l i).1:Int)=some [tR n (nx l i).1]:=D8 h1 h6
  cases d with
  | zero =>
   rw[if_pos (by decide),nm]
   exact⟨rfl,c1⟩
  | succ d =>
   obtain⟨e2,b2,c2⟩:=aHP hl hs c1
   obtain⟨e3,c3⟩:=V9 h1 h6 hl hs d f (nx l i).2 (by omega) (by omega) c1
   obtain⟨e4,c4⟩:=V9 h1 h6 hl hs d f (yA d l (nx l i).2).2 (by omega) (by omega) c3
   have hw:IntKind.i64.wrap (((d+1:Nat):Int) - 1)=(d:Int):=by rw[aP (by omega) (by omega)];omega
   have em:Int.tmod ((nx l i).1:Int) (12:Int)=(((nx l i).1 % 12:Nat):Int):=rfl
   have hk:∀k:Nat,((((nx l i).1 % 12:Nat):Int) == (k:Int))=decide ((nx l i).1 % 12=k):=fun k=>by
    by_cases h:(nx l i).1 % 12=k
    ·rw[decide_eq_true h,beq_iff_eq,h]
    ·rw[decide_eq_false h,beq_eq_false_iff_ne];omega
   have k4:=hk 4;have k5:=hk 5;have k6:=hk 6;have k7:=hk 7;have k8:=hk 8;have k9:=hk 9;have k10:=hk 10;have k11:=hk 11
   have L1:(x9 n (yA d l (nx l i).2).1).length≤1000:=Nat.le_trans (lJ h6 _) (Nat.le_trans (pI (Nat.le_trans (wY d l _) (show d≤3 by omega))) (by decide))
   have L2:(x9 n (yA d l (yA d l (nx l i).2).2).1).length≤1000:=Nat.le_trans (lJ h6 _) (Nat.le_trans (pI (Nat.le_trans (wY d l _) (show d≤3 by omega))) (by decide))
   have ln:=gW n (nx l (nx l i).2).1 n
   rw[if_neg (by simp),if_pos (by decide),em]
   simp only[yA]
   rw[show((((nx l i).1 % 12:Nat):Int) == (4:Int))=_ from k4,show((((nx l i).1 % 12:Nat):Int) == (5:Int))=_ from k5,show((((nx l i).1 % 12:Nat):Int) == (6:Int))=_ from k6,show((((nx l i).1 % 12:Nat):Int) == (7:Int))=_ from k7,
    show((((nx l i).1 % 12:Nat):Int) == (8:Int))=_ from k8,show((((nx l i).1 % 12:Nat):Int) == (9:Int))=_ from k9,show((((nx l i).1 % 12:Nat):Int) == (10:Int))=_ from k10,show((((nx l i).1 % 12:Nat):Int) == (11:Int))=_ from k11]
   simp only[decide_eq_true_eq,hw,e2,e3,Option.bind_some,e4,aC5 (x:=((nx l (nx l i).2).1:Int)) (by omega) (by omega),xF h1 h6 b2,nm]
   by_cases h4:(nx l i).1 % 12=4
   ·rw[if_pos h4,if_pos h4];exact⟨rfl,c1⟩
   rw[if_neg h4,if_neg h4]
   by_cases h5:(nx l i).1 % 12=5
   ·rw[if_pos h5,if_pos h5,if_pos (by simp;omega),if_pos (by simp;omega)];exact⟨rfl,c2⟩
   rw[if_neg h5,if_neg h5]
   by_cases h6':(nx l i).1 % 12=6
   ·rw[if_pos h6',if_pos h6',if_pos (by simp;omega),if_pos (by simp;omega)];exact⟨rfl,c2⟩
   rw[if_neg h6',if_neg h6']
   by_cases h7:(nx l i).1 % 12=7
   ·rw[if_pos h7,if_pos h7,if_pos (by simp;omega),if_pos (by simp;omega)];exact⟨rfl,c3⟩
   rw[if_neg h7,if_neg h7]
   by_cases h8:(nx l i).1 % 12=8
   ·rw[if_pos h8,if_pos h8,if_pos (by simp;omega),if_pos (by simp;omega)];exact⟨rfl,c3⟩
   rw[if_neg h8,if_neg h8]
   by_cases h9:(nx l i).1 % 12=9
   ·rw[if_pos h9,if_pos h9,if_pos (by simp;omega),if_pos (by simp;omega)];exact⟨rfl,c3⟩
   rw[if_neg h9,if_neg h9]
   by_cases h10:(nx l i).1 % 12=10
   ·rw[if_pos h10,if_pos h10,if_pos (by simp;omega),if_pos (by simp;omega),if_pos (by simp;omega),if_pos (by simp;omega)];exact⟨rfl,c4⟩
   rw[if_neg h10,if_neg h10]
   by_cases h11:(nx l i).1 % 12=11
   ·rw[if_pos h11,if_pos h11,if_pos (by simp;omega),if_pos (by simp;omega)];exact⟨rfl,c4⟩
   rw[if_neg h11,if_neg h11]
   exact⟨rfl,c1⟩
def wI(l:List Int):Option Ex:=if l.length=0 then none else some (yA 3 (l.take 30) 0).1
def aCr(n:Nat):Option Ex→List UInt8
 | none=>[]
 | some e=>x9 n e
theorem wV{n:Nat}(h6:n≤6)(l:List Int):(aCr n (wI l)).length≤1000:=by
 unfold wI
 split
 ·exact Nat.zero_le _
 ·exact Nat.le_trans (lJ h6 _) (Nat.le_trans (pI (wY 3 _ _)) (by decide))
theorem aDp{n:Nat}(h1:1≤n)(h6:n≤6){l:List Int}(hs:Sm l):oZ (n:Int) l=some (aCr n (wI l)):=by
 unfold oZ wI
 by_cases h:l.length=0
 ·rw[if_pos (by rw[h];rfl),if_pos h];rfl
 ·rw[if_neg (by rw[beq_iff_eq];omega),if_neg h,if_pos ⟨by omega,by omega,by omega⟩]
  have et:(l.take (min (l.length:Int) 30).toNat).drop (0:Int).toNat=l.take 30:=by
   show(l.take (min (l.length:Int) 30).toNat).drop 0=_
   rw[List.drop_zero]
   by_cases h30:l.length≤30
   ·rw[show(min (l.length:Int) 30).toNat=l.length by omega,List.take_of_length_le (Nat.le_refl _),List.take_of_length_le h30]
   ·rw[show(min (l.length:Int) 30).toNat=30 by omega]
  rw[et,show j9 1000 (n:Int) 3 (l.take 30) 0=_ from(V9 h1 h6 (l:=l.take 30) (by rw[List.length_take];omega) (fun x hx=>hs x (List.mem_of_mem_take hx)) 3 1000 0 (by omega) (by omega) (by omega)).1]
  rfl
end Go.Proofs.YtacpjjgochokcaaDoor.T
namespace Go.Proofs.YtacpjjgochokcaaDoor.T
open Go Go.Tv Go.Proofs
abbrev PR:=Int×List Int×List Int
abbrev qS:PR:=((0:Int),(([]:List Int),([]:List Int)))
def u7(d:Int):List UInt8:=([([107,101,101,112,32]:List UInt8),([109,97,121,32]:List UInt8),([109,117,115,116,32]:List UInt8)]:List (List UInt8)).getD (Int.tmod d 3).toNat []
def S8(n:Nat):List UInt8:=([99,108,97,115,115]:List UInt8)++dC n 255 n++[59,10]
def pZ(n:Nat)(j a:Int):List UInt8:=if j=0 then S8 n else S8 n++[106,111,105,110]++dC n j.toNat n++[32,47]++dC n a.toNat n++[59,10]
def trT(b:List UInt8)(n:Nat)(tr:List Int):Nat→List UInt8
 | 0=>b
 | k+1=>trT b n tr k++[116,114,101,97,116,32]++[tR n k]++[32,61,32]++[tR n (tr.getD k 0).toNat]++[59,10]
def ruT(b:List UInt8)(n:Nat)(l:List PR):Nat→List UInt8
 | 0=>b
 | k+1=>ruT b n l k++u7 (l.getD k qS).1++aCr n (wI (l.getD k qS).2.1)++[32,47,32]++aCr n (wI (l.getD k qS).2.2)++[59,10]
def bN(c:Int):Nat:=1+c.toNat % 6
def B7(c j a:Int)(tr:List Int)(l:List PR):List UInt8:=ruT (trT (pZ (bN c) j a) (bN c) tr (min tr.length (bN c))) (bN c) l (min l.length 10)
structure Pl(c j a:Int)(tr:List Int)(l:List PR):Prop where
 hc:0≤c∧c<256
 hj:0≤j∧j<256
 ha:0≤a∧a<256
 ht:Sm tr
 hl:∀x∈l,(0≤x.1∧x.1<256)∧Sm x.2.1∧Sm x.2.2
theorem yL(d:Int):(u7 d).length≤5:=by
 unfold u7
 generalize (Int.tmod d 3).toNat=k
 match k with
 | 0=>decide
 | 1=>decide
 | 2=>decide
 | k+3=>simp
theorem aDJ{n:Nat}(h6:n≤6):(S8 n).length≤30:=by
 have:=gW n 255 n
 simp only[S8,List.length_append,List.length_cons,List.length_nil];omega
theorem Q9{n:Nat}(h6:n≤6)(j a:Int):(pZ n j a).length≤70:=by
 have h0:=aDJ h6
 have h1:=gW n j.toNat n
 have h2:=gW n a.toNat n
 unfold pZ
 split
 ·omega
 ·simp only[List.length_append,List.length_cons,List.length_nil];omega
theorem W9(b:List UInt8)(n:Nat)(tr:List Int)(k:Nat):(trT b n tr k).length=b.length+13*k:=by
 induction k with
 | zero=>rfl
 | succ k ih=>simp only[trT,List.length_append,List.length_cons,List.length_nil,ih];omega
theorem aGV{n:Nat}(h6:n≤6)(b:List UInt8)(l:List PR)(k:Nat):(ruT b n l k).length≤b.length+2010*k:=by
 induction k with
 | zero=>exact Nat.le_refl _
 | succ k ih =>
  have h1:=yL (l.getD k qS).1
  have h2:=wV h6 (l.getD k qS).2.1
  have h3:=wV h6 (l.getD k qS).2.2
  simp only[ruT,List.length_append,List.length_cons,List.length_nil];omega
theorem tE(c:Int):1≤bN c:=by unfold bN;omega
theorem tY(c:Int):bN c≤6:=by unfold bN;omega
theorem aE0{c j a:Int}{tr l}(h:Pl c j a tr l):jW c j a tr l=some (bN c:Int):=by
 unfold jW
 rw[if_pos (by decide)]
 obtain⟨m,rfl⟩:=Int.eq_ofNat_of_zero_le h.hc.1
 have e:Int.tmod ((m:Nat):Int) (6:Int)=((m % 6:Nat):Int):=rfl
 rw[e,aP (x:=((m % 6:Nat):Int)) (by omega) (by omega),aP (by omega) (by omega)]
 simp only[bN,Int.toNat_natCast]
 congr 1
theorem aHl{n:Nat}(h1:1≤n)(h6:n≤6)(b:List UInt8)(hb:b.length≤1000){tr:List Int}(ht:Sm tr):iter (lT tr (n:Int)) (b,((0:Nat):Int))=some (trT b n tr (min tr.length n)):=by
 refine bI (fun k:Nat=>(trT b n tr k,(k:Int))) (min tr.length n) (fun k hk=> ?_) ?_
 ·have hl:=W9 b n tr k
  have hx:=ht _ (d9 (d:=0) (show k<tr.length by omega))
  obtain⟨v,hv⟩:=Int.eq_ofNat_of_zero_le hx.1
  unfold lT
  simp only[Int.toNat_natCast]
  rw[if_pos (by simp;omega),decide_eq_true (show(k:Int)<(n:Int) by omega)]
  simp only[Option.bind_some,if_true]
  rw[if_pos (by simp;omega),D8 h1 h6]
  simp only[Option.bind_some]
  rw[if_pos (by simp;omega),if_pos (by simp;omega),if_pos ⟨by omega,by omega⟩,aP (x:=tr.getD k 0) (by omega) (by omega),hv,D8 h1 h6]
  simp only[Option.bind_some]
  rw[if_pos (by simp;omega),if_pos (by simp;omega),aP (by omega) (by omega)]
  have ev:(tr.getD k 0).toNat=v:=by rw[hv];rfl
  simp only[trT,ev]
  rfl
 ·unfold lT
  simp only[]
  by_cases h:min tr.length n=tr.length
  ·rw[if_neg (by simp;omega)];rfl
  ·by_cases h':((min tr.length n:Nat):Int)<(tr.length:Int)
   ·rw[if_pos (by simpa using h'),decide_eq_false (by omega)];rfl
   ·rw[if_neg (by simpa using h')];rfl
theorem aHg{n:Nat}(h1:1≤n)(h6:n≤6)(b:List UInt8)(hb:b.length≤1000){l:List PR}(hl:∀x∈l,(0≤x.1∧x.1<256)∧Sm x.2.1∧Sm x.2.2):iter (lX l (n:Int)) (b,((0:Nat):Int))=some (ruT b n l (min l.length 10)):=by
 refine bI (fun k:Nat=>(ruT b n l k,(k:Int))) (min l.length 10) (fun k hk=> ?_) ?_
 ·have hlen:=aGV h6 b l k
  obtain⟨hx,hy,hz⟩:=hl _ (d9 (d:=qS) (show k<l.length by omega))
  have hw:=yL (l.getD k qS).1
  have e1:=wV h6 (l.getD k ((0:Int),(([]:List Int),([]:List Int)))).2.1
  have e2:=wV h6 (l.getD k ((0:Int),(([]:List Int),([]:List Int)))).2.2
  obtain⟨v,hv⟩:=Int.eq_ofNat_of_zero_le hx.1
  have em:Int.tmod (l.getD k qS).1 3=((v % 3:Nat):Int):=by rw[hv];rfl
  have hm:v % 3<3:=Nat.mod_lt _ (by decide)
  have c2:0≤(k:Int)∧(k:Int)<(l.length:Int):=⟨by omega,by omega⟩
  unfold lX
  simp only[Int.toNat_natCast]
  rw[if_pos (by simp;omega),decide_eq_true (show(k:Int)<10 by omega)]
  simp only[Option.bind_some,if_true]
  rw[if_pos c2,if_pos (by decide),if_pos ⟨by rw[em];omega,by rw[em];show _<((3:Nat):Int);omega⟩,if_pos (by rw[em,Int.toNat_natCast];exact hm)]
  change (if(ruT b n l k).length+(u7 (l.getD k qS).1).length≤9223372036854775807 then _ else none)=_
  rw[if_pos (by omega),if_pos c2,show oZ (n:Int) (l.getD k ((0:Int),(([]:List Int),([]:List Int)))).2.1=_ from aDp h1 h6 hy]
  simp only[Option.bind_some]
  change (if(ruT b n l k++u7 (l.getD k qS).1).length+_≤9223372036854775807 then _ else none)=_
  rw[if_pos (by simp only[List.length_append];omega),if_pos (by simp only[List.length_append,List.length_cons,List.length_nil];change (ruT b n l k).length+(u7 (l.getD k qS).1).length+_+_≤_;omega),if_pos c2,show oZ (n:Int) (l.getD k ((0:Int),(([]:List Int),([]:List Int)))).2.2=_ from aDp h1 h6 hz]
  simp only[Option.bind_some]
  rw[if_pos (by simp only[List.length_append,List.length_cons,List.length_nil];change (ruT b n l k).length+(u7 (l.getD k qS).1).length+_+_+_≤_;omega),if_pos (by simp only[List.length_append,List.length_cons,List.length_nil];change (ruT b n l k).length+(u7 (l.getD k qS).1).length+_+_+_+_≤_;omega),aP (by omega) (by omega)]
  rfl
 ·unfold lX
  simp only[]
  by_cases h:min l.length 10=l.length
  ·rw[if_neg (by simp;omega)];rfl
  ·by_cases h':((min l.length 10:Nat):Int)<(l.length:Int)
   ·rw[if_pos (by simpa using h'),decide_eq_false (by omega)];rfl
   ·rw[if_neg (by simpa using h')];rfl
theorem aGN{c j a:Int}{tr l}(h:Pl c j a tr l):uE c j a tr l=some (B7 c j a tr l):=by
 unfold uE
 rw[aE0 h]
 simp only[Option.bind_some]
 have h1:=tE c
 have h6:=tY c
 rw[show iA (bN c:Int) 255=_ from xF (b:=255) h1 h6 (by decide)]
 simp only[Option.bind_some]
 have l0:=gW (bN c) 255 (bN c)
 have l1:=gW (bN c) j.toNat (bN c)
 have l2:=gW (bN c) a.toNat (bN c)
 rw[if_pos (by simp;omega),if_pos (by simp;omega)]
 have hjl:=Q9 h6 j a
 have key:(if(j != (0:Int))=true then(if((([99,108,97,115,115]:List UInt8)++dC (bN c) 255 (bN c))++([59,10]:List UInt8)).length+([106,111,105,110]:List UInt8).length≤9223372036854775807 then((iA (bN c:Int) j).bind fun(r11:List UInt8) =>
   (if(((([99,108,97,115,115]:List UInt8)++dC (bN c) 255 (bN c))++([59,10]:List UInt8))++([106,111,105,110]:List UInt8)).length+r11.length≤9223372036854775807 then(if((((([99,108,97,115,115]:List UInt8)++dC (bN c) 255 (bN c))++([59,10]:List UInt8))++([106,111,105,110]:List UInt8))++r11).length+([32,47]:List UInt8).length≤9223372036854775807 then((iA (bN c:Int) a).bind fun(r12:List UInt8) =>
   (if(((((([99,108,97,115,115]:List UInt8)++dC (bN c) 255 (bN c))++([59,10]:List UInt8))++([106,111,105,110]:List UInt8))++r11)++([32,47]:List UInt8)).length+r12.length≤9223372036854775807 then(if((((((([99,108,97,115,115]:List UInt8)++dC (bN c) 255 (bN c))++([59,10]:List UInt8))++([106,111,105,110]:List UInt8))++r11)++([32,47]:List UInt8))++r12).length+([59,10]:List UInt8).length≤9223372036854775807 then some ((((((((([99,108,97,115,115]:List UInt8)++dC (bN c) 255 (bN c))++([59,10]:List UInt8))++([106,111,105,110]:List UInt8))++r11)++([32,47]:List UInt8))++r12)++([59,10]:List UInt8)))else none)else none))else none)else none))else none)
   else some (((([99,108,97,115,115]:List UInt8)++dC (bN c) 255 (bN c))++([59,10]:List UInt8))))=some (pZ (bN c) j a):=by
  unfold pZ
  by_cases hj:j=0
  ·rw[if_neg (by simp[hj]),if_pos hj];rfl
  ·obtain⟨vj,hvj⟩:=Int.eq_ofNat_of_zero_le h.hj.1
   obtain⟨va,hva⟩:=Int.eq_ofNat_of_zero_le h.ha.1
   have q1:=h.hj.2
   have q2:=h.ha.2
   rw[if_pos (by simpa using hj),if_neg hj]
   subst hvj;subst hva
   simp only[Int.toNat_natCast]at l1 l2 q1 q2 ⊢
   rw[if_pos (by simp;omega),xF h1 h6 (by omega)]
   simp only[Option.bind_some]
   rw[if_pos (by simp;omega),if_pos (by simp;omega),xF h1 h6 (by omega)]
   simp only[Option.bind_some]
   rw[if_pos (by simp;omega),if_pos (by simp;omega)]
   rfl
 rw[key]
 simp only[Option.bind_some]
 have htl:=W9 (pZ (bN c) j a) (bN c) tr (min tr.length (bN c))
 rw[show iter (lT tr (bN c:Int)) (pZ (bN c) j a,0)=_ from aHl h1 h6 (pZ (bN c) j a) (by omega) h.ht]
 simp only[Option.bind_some]
 have hm:min tr.length (bN c)≤6:=by omega
 rw[show iter (lX l (bN c:Int)) (trT (pZ (bN c) j a) (bN c) tr (min tr.length (bN c)),0)=_ from aHg h1 h6 _ (by omega) h.hl]
 rfl
theorem aI4{c j a:Int}{tr:List Int}{l:List PR}(h:Wf (.prod (.int .u8) (.prod (.int .u8) (.prod (.int .u8) (.prod (.slice (.int .u8)) (.slice (.prod (.int .u8) (.prod (.slice (.int .u8)) (.slice (.int .u8))))))))) (c,j,a,tr,l)):Pl c j a tr l:=by
 obtain⟨h1,h2,h3,h4,h5⟩:=h
 have sm:∀ {y:List Int},Wf (.slice (.int .u8)) y→Sm y:=fun {y} hy z hz=>by
  obtain⟨i,hi,rfl⟩:=List.getElem_of_mem hz
  have:=hy.2 i hi
  exact⟨this.1,Int.lt_add_one_iff.mpr this.2⟩
 refine⟨⟨h1.1,Int.lt_add_one_iff.mpr h1.2⟩,⟨h2.1,Int.lt_add_one_iff.mpr h2.2⟩,⟨h3.1,Int.lt_add_one_iff.mpr h3.2⟩,sm h4,fun x hx=> ?_⟩
 obtain⟨i,hi,rfl⟩:=List.getElem_of_mem hx
 obtain⟨k1,k2,k3⟩:=h5.2 i hi
 exact⟨⟨k1.1,Int.lt_add_one_iff.mpr k1.2⟩,sm k2,sm k3⟩
end Go.Proofs.YtacpjjgochokcaaDoor.T
