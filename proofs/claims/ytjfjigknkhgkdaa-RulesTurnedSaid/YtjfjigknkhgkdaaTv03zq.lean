/- A plan's rules as a text. -/
import Derived.Test.YtjfjigknkhgkdaaTvT03zRulesTurned
import Derived.Test.YtjfjigknkhgkdaaTvYm
import Derived.Test.YtjfjigknkhgkdaaTv03zam
namespace Go.Proofs.Ytjfjigknkhgkdaa.T
open Go Go.Tv Go.Proofs
def nmB(n i:Nat):UInt8:=(65+i % n).toUInt8
def e9(n b:Nat):Nat→List UInt8
 | 0=>[]
 | k+1=>e9 n b k++(if b / 2 ^ k % 2=1 then[32,nmB n k]else[])
theorem uN{n i:Nat}(h1:1≤n)(h6:n≤6):iZ (n:Int) (i:Int)=some [nmB n i]:=by
 unfold iZ
 rw[if_pos (by omega)]
 have e:Int.tmod (i:Int) (n:Int)=((i % n:Nat):Int):=rfl
 have hlt:i % n<n:=Nat.mod_lt _ (by omega)
 rw[e,aP (by omega) (by omega),N5 (by omega) (by omega)]
 rfl
theorem eZ(n b k:Nat):(e9 n b k).length≤2*k:=by
 induction k with
 | zero=>exact Nat.le_refl _
 | succ k ih =>
  simp only[e9,List.length_append]
  split <;> simp only[List.length_cons,List.length_nil] <;> omega
theorem rD{n b:Nat}(h1:1≤n)(h6:n≤6)(hb:b<256):fE (n:Int) (b:Int)=some (e9 n b n):=by
 unfold fE
 have hi:iter (gW (n:Int) (b:Int)) (e9 n b 0,((0:Nat):Int))=some (e9 n b n):=by
  refine cC (fun k:Nat=>(e9 n b k,(k:Int))) n (fun k hk=> ?_) ?_
  ·have hl:=eZ n b k
   have e8:IntKind.u8.bits=8:=rfl
   have e:Int.fdiv (b:Int) (2 ^ (min (k:Int).toNat IntKind.u8.bits))=((b / 2 ^ k:Nat):Int):=by
    rw[Int.toNat_natCast,e8,show min k 8=k by omega,Int.fdiv_eq_ediv_of_nonneg _ (by exact Int.le_of_lt (Int.pow_pos (by decide)))]
    simp
   have e2:Int.tmod ((b / 2 ^ k:Nat):Int) (2:Int)=((b / 2 ^ k % 2:Nat):Int):=rfl
   unfold gW
   simp only[e,e2]
   rw[if_pos (by simp;omega),if_pos (by omega),if_pos (by decide)]
   simp only[e9]
   by_cases hbit:b / 2 ^ k % 2=1
   ·rw[if_pos (by rw[hbit];rfl),if_pos hbit,if_pos (by simp;omega),uN h1 h6]
    simp only[Option.bind_some]
    rw[if_pos (by simp;omega),aP (by omega) (by omega),List.append_assoc]
    rfl
   ·rw[if_neg (by rw[beq_iff_eq];omega),if_neg hbit,aP (by omega) (by omega),List.append_nil]
    rfl
  ·unfold gW
   simp only[]
   rw[if_neg (by simp)]
 rw[show iter (gW (n:Int) (b:Int)) ([],0)=_ from hi]
 rfl
inductive Ex where
 | nm (k:Nat)
 | any
 | set (neg:Bool) (b:Nat)
 | star (a:Ex)
 | plus (a:Ex)
 | opt (a:Ex)
 | alt (a b:Ex)
 | seq (a b:Ex)
def nx(l:List Int)(i:Nat):Nat×Nat:=if l.length≤i then(0,i)else((l.getD i 0).toNat,i+1)
def rZ:Nat→List Int→Nat→Ex×Nat
 | 0,l,i=>(.nm (nx l i).1,(nx l i).2)
 | d+1,l,i =>
  if(nx l i).1 % 12=4 then(.any,(nx l i).2)
  else if(nx l i).1 % 12=5 then(.set false (nx l (nx l i).2).1,(nx l (nx l i).2).2)
  else if(nx l i).1 % 12=6 then(.set true (nx l (nx l i).2).1,(nx l (nx l i).2).2)
  else if(nx l i).1 % 12=7 then(.star (rZ d l (nx l i).2).1,(rZ d l (nx l i).2).2)
  else if(nx l i).1 % 12=8 then(.plus (rZ d l (nx l i).2).1,(rZ d l (nx l i).2).2)
  else if(nx l i).1 % 12=9 then(.opt (rZ d l (nx l i).2).1,(rZ d l (nx l i).2).2)
  else if(nx l i).1 % 12=10 then(.alt (rZ d l (nx l i).2).1 (rZ d l (rZ d l (nx l i).2).2).1,(rZ d l (rZ d l (nx l i).2).2).2)
  else if(nx l i).1 % 12=11 then(.seq (rZ d l (nx l i).2).1 (rZ d l (rZ d l (nx l i).2).2).1,(rZ d l (rZ d l (nx l i).2).2).2)
  else(.nm (nx l i).1,(nx l i).2)
def yS(n:Nat):Ex→List UInt8
 | .nm k=>[nmB n k]
 | .any=>[46]
 | .set neg b=>(if neg then[91,94]else[91])++e9 n b n++[93]
 | .star a=>[40]++yS n a++[41,42]
 | .plus a=>[40]++yS n a++[41,43]
 | .opt a=>[40]++yS n a++[41,63]
 | .alt a b=>[40]++yS n a++[124]++yS n b++[41]
 | .seq a b=>yS n a++[32]++yS n b
def Ex.D:Ex→Nat
 | .star a=>a.D+1
 | .plus a=>a.D+1
 | .opt a=>a.D+1
 | .alt a b=>max a.D b.D+1
 | .seq a b=>max a.D b.D+1
 | .set _ _=>1
 | .any=>1
 | .nm _=>0
def rS:Nat→Nat
 | 0=>1
 | d+1=>2*rS d+13
theorem R6(d:Nat):rS d≤rS (d+1):=by simp only[rS];omega
theorem mL:∀ {a b:Nat},a≤b→rS a≤rS b:=fun {a b} h=>by
 induction b with
 | zero=>cases Nat.le_zero.mp h;exact Nat.le_refl _
 | succ b ih =>
  rcases Nat.lt_or_ge b a with h1 | h1
  ·rw[show a=b+1 by omega];exact Nat.le_refl _
  ·exact Nat.le_trans (ih h1) (R6 b)
theorem iW{n:Nat}(h6:n≤6):∀(e:Ex),(yS n e).length≤rS e.D
 | .nm k=>Nat.le_refl _
 | .any=>by simp[yS,Ex.D,rS]
 | .set neg b=>by
  have:=eZ n b n
  simp only[yS,Ex.D,rS,List.length_append]
  split <;> simp only[List.length_cons,List.length_nil] <;> omega
 | .star a=>by have:=iW h6 a;simp only[yS,Ex.D,rS,List.length_append,List.length_cons,List.length_nil];omega
 | .plus a=>by have:=iW h6 a;simp only[yS,Ex.D,rS,List.length_append,List.length_cons,List.length_nil];omega
 | .opt a=>by have:=iW h6 a;simp only[yS,Ex.D,rS,List.length_append,List.length_cons,List.length_nil];omega
 | .alt a b=>by
  have h1:=iW h6 a;have h2:=iW h6 b
  have h3:=mL (Nat.le_max_left a.D b.D);have h4:=mL (Nat.le_max_right a.D b.D)
  simp only[yS,Ex.D,rS,List.length_append,List.length_cons,List.length_nil];omega
 | .seq a b=>by
  have h1:=iW h6 a;have h2:=iW h6 b
  have h3:=mL (Nat.le_max_left a.D b.D);have h4:=mL (Nat.le_max_right a.D b.D)
  simp only[yS,Ex.D,rS,List.length_append,List.length_cons,List.length_nil];omega
theorem A6:∀(d:Nat) (l:List Int) (i:Nat),(rZ d l i).1.D≤d
 | 0,_,_=>Nat.le_refl _
 | d+1,l,i=>by
  have h1:=A6 d l (nx l i).2
  have h2:=A6 d l (rZ d l (nx l i).2).2
  simp only[rZ]
  repeat (split;· simp only[Ex.D];omega)
  simp only[Ex.D];omega
def Sm(l:List Int):Prop:=∀x∈l,0≤x∧x<256
theorem aAX{l:List Int}(hl:l.length≤1000)(hs:Sm l){i:Nat}(hi:i≤l.length):cL l (i:Int)=some (((nx l i).1:Int),((nx l i).2:Int))∧(nx l i).1<256∧(nx l i).2≤l.length:=by
 unfold cL nx
 by_cases h:l.length≤i
 ·rw[if_pos (by simp;omega),if_pos h]
  exact⟨rfl,by show 0<256;decide,hi⟩
 ·have hx:=hs _ (lW (d:=0) (show i<l.length by omega))
  have e:IntKind.i64.wrap ((IntKind.i64.wrap ((i:Int)+1)) - 1)=(i:Int):=by
   rw[aP (x:=(i:Int)+1) (by omega) (by omega),aP (by omega) (by omega)];omega
  rw[if_neg (by simp;omega),if_neg h,e,if_pos ⟨by omega,by omega⟩,Int.toNat_natCast,aP (by omega) (by omega),aP (by omega) (by omega)]
  refine⟨?_,by simp only[];omega,by simp only[];omega⟩
  simp only[Option.some.injEq,Prod.mk.injEq]
  exact⟨by omega,rfl⟩
theorem zO{n:Nat}(h1:1≤n)(h6:n≤6){l:List Int}(hl:l.length≤1000)(hs:Sm l):∀(d f i:Nat),d≤3→d<f→i≤l.length →
  gK f (n:Int) (d:Int) l (i:Int)=some (yS n (rZ d l i).1,((rZ d l i).2:Int))∧(rZ d l i).2≤l.length
 | _,0,_,_,h,_=>by omega
 | d,f+1,i,h3,hf,hi=>by
  obtain⟨e1,b1,c1⟩:=aAX hl hs hi
  show hY (gK f) (n:Int) (d:Int) l (i:Int)=_∧_
  unfold hY
  rw[e1]
  simp only[Option.bind_some]
  have nm:iZ (n:Int) ((nx l i).1:Int)=some [nmB n (nx l i).1]:=uN h1 h6
  cases d with
  | zero =>
   rw[if_pos (by decide),nm]
   exact⟨rfl,c1⟩
  | succ d =>
   obtain⟨e2,b2,c2⟩:=aAX hl hs c1
   obtain⟨e3,c3⟩:=zO h1 h6 hl hs d f (nx l i).2 (by omega) (by omega) c1
   obtain⟨e4,c4⟩:=zO h1 h6 hl hs d f (rZ d l (nx l i).2).2 (by omega) (by omega) c3
   have hw:IntKind.i64.wrap (((d+1:Nat):Int) - 1)=(d:Int):=by rw[aP (by omega) (by omega)];omega
   have em:Int.tmod ((nx l i).1:Int) (12:Int)=(((nx l i).1 % 12:Nat):Int):=rfl
   have hk:∀k:Nat,((((nx l i).1 % 12:Nat):Int) == (k:Int))=decide ((nx l i).1 % 12=k):=fun k=>by
    by_cases h:(nx l i).1 % 12=k
    ·rw[decide_eq_true h,beq_iff_eq,h]
    ·rw[decide_eq_false h,beq_eq_false_iff_ne];omega
   have k4:=hk 4;have k5:=hk 5;have k6:=hk 6;have k7:=hk 7;have k8:=hk 8;have k9:=hk 9;have k10:=hk 10;have k11:=hk 11
   have L1:(yS n (rZ d l (nx l i).2).1).length≤1000:=Nat.le_trans (iW h6 _) (Nat.le_trans (mL (Nat.le_trans (A6 d l _) (show d≤3 by omega))) (by decide))
   have L2:(yS n (rZ d l (rZ d l (nx l i).2).2).1).length≤1000:=Nat.le_trans (iW h6 _) (Nat.le_trans (mL (Nat.le_trans (A6 d l _) (show d≤3 by omega))) (by decide))
   have ln:=eZ n (nx l (nx l i).2).1 n
   rw[if_neg (by simp),if_pos (by decide),em]
   simp only[rZ]
   rw[show((((nx l i).1 % 12:Nat):Int) == (4:Int))=_ from k4,show((((nx l i).1 % 12:Nat):Int) == (5:Int))=_ from k5,show((((nx l i).1 % 12:Nat):Int) == (6:Int))=_ from k6,show((((nx l i).1 % 12:Nat):Int) == (7:Int))=_ from k7,
    show((((nx l i).1 % 12:Nat):Int) == (8:Int))=_ from k8,show((((nx l i).1 % 12:Nat):Int) == (9:Int))=_ from k9,show((((nx l i).1 % 12:Nat):Int) == (10:Int))=_ from k10,show((((nx l i).1 % 12:Nat):Int) == (11:Int))=_ from k11]
   simp only[decide_eq_true_eq,hw,e2,e3,Option.bind_some,e4,N5 (x:=((nx l (nx l i).2).1:Int)) (by omega) (by omega),rD h1 h6 b2,nm]
   by_cases h4:(nx l i).1 % 12=4
   ·rw[if_pos h4,if_pos h4];exact⟨rfl,c1⟩
   rw[if_neg h4,if_neg h4]
   by_cases h5:(nx l i).1 % 12=5
   ·rw[if_pos h5,if_pos h5,if_pos (by simp;omega),if_pos (by simp;omega)];exact⟨rfl,c2⟩
   rw[if_neg h5,if_neg h5]
   by_cases h6':(nx l i).1 % 12=6
   ·rw[if_pos h6',if_pos h6',if_pos (by simp;omega),if_pos (by simp;omega)];exact⟨rfl,c2⟩
   rw[if_neg h6',if_neg h6']
   by_cases h7:(nx l i).1 % 12=7
   ·rw[if_pos h7,if_pos h7,if_pos (by simp;omega),if_pos (by simp;omega)];exact⟨rfl,c3⟩
   rw[if_neg h7,if_neg h7]
   by_cases h8:(nx l i).1 % 12=8
   ·rw[if_pos h8,if_pos h8,if_pos (by simp;omega),if_pos (by simp;omega)];exact⟨rfl,c3⟩
   rw[if_neg h8,if_neg h8]
   by_cases h9:(nx l i).1 % 12=9
   ·rw[if_pos h9,if_pos h9,if_pos (by simp;omega),if_pos (by simp;omega)];exact⟨rfl,c3⟩
   rw[if_neg h9,if_neg h9]
   by_cases h10:(nx l i).1 % 12=10
   ·rw[if_pos h10,if_pos h10,if_pos (by simp;omega),if_pos (by simp;omega),if_pos (by simp;omega),if_pos (by simp;omega)];exact⟨rfl,c4⟩
   rw[if_neg h10,if_neg h10]
   by_cases h11:(nx l i).1 % 12=11
   ·rw[if_pos h11,if_pos h11,if_pos (by simp;omega),if_pos (by simp;omega)];exact⟨rfl,c4⟩
   rw[if_neg h11,if_neg h11]
   exact⟨rfl,c1⟩
def exO(l:List Int):Option Ex:=if l.length=0 then none else some (rZ 3 (l.take 30) 0).1
def aAn(n:Nat):Option Ex→List UInt8
 | none=>[]
 | some e=>yS n e
theorem qR{n:Nat}(h6:n≤6)(l:List Int):(aAn n (exO l)).length≤1000:=by
 unfold exO
 split
 ·exact Nat.zero_le _
 ·exact Nat.le_trans (iW h6 _) (Nat.le_trans (mL (A6 3 _ _)) (by decide))
theorem N9{n:Nat}(h1:1≤n)(h6:n≤6){l:List Int}(hs:Sm l):kT (n:Int) l=some (aAn n (exO l)):=by
 unfold kT exO
 by_cases h:l.length=0
 ·rw[if_pos (by rw[h];rfl),if_pos h];rfl
 ·rw[if_neg (by rw[beq_iff_eq];omega),if_neg h,if_pos ⟨by omega,by omega,by omega⟩]
  have et:(l.take (min (l.length:Int) 30).toNat).drop (0:Int).toNat=l.take 30:=by
   show(l.take (min (l.length:Int) 30).toNat).drop 0=_
   rw[List.drop_zero]
   by_cases h30:l.length≤30
   ·rw[show(min (l.length:Int) 30).toNat=l.length by omega,List.take_of_length_le (Nat.le_refl _),List.take_of_length_le h30]
   ·rw[show(min (l.length:Int) 30).toNat=30 by omega]
  rw[et,show gK 1000 (n:Int) 3 (l.take 30) 0=_ from(zO h1 h6 (l:=l.take 30) (by rw[List.length_take];omega) (fun x hx=>hs x (List.mem_of_mem_take hx)) 3 1000 0 (by omega) (by omega) (by omega)).1]
  rfl
end Go.Proofs.Ytjfjigknkhgkdaa.T
