/- A plan's rules as a text: all of it. -/
import Derived.Test.YtjfjigknkhgkdaaTv03zq
import Derived.Test.YtjfjigknkhgkdaaTv03zn
import Derived.Test.YtjfjigknkhgkdaaTvYm
namespace Go.Proofs.Ytjfjigknkhgkdaa.T
open Go Go.Tv Go.Proofs
abbrev PR:=Int×List Int×List Int
abbrev L5:PR:=((0:Int),(([]:List Int),([]:List Int)))
def t6(d:Int):List UInt8:=([([107,101,101,112,32]:List UInt8),([109,97,121,32]:List UInt8),([109,117,115,116,32]:List UInt8)]:List (List UInt8)).getD (Int.tmod d 3).toNat []
def E5(n:Nat):List UInt8:=([99,108,97,115,115]:List UInt8)++e9 n 255 n++[59,10]
def mY(n:Nat)(j a:Int):List UInt8:=if j=0 then E5 n else E5 n++[106,111,105,110]++e9 n j.toNat n++[32,47]++e9 n a.toNat n++[59,10]
def trT(b:List UInt8)(n:Nat)(tr:List Int):Nat→List UInt8
 | 0=>b
 | k+1=>trT b n tr k++[116,114,101,97,116,32]++[nmB n k]++[32,61,32]++[nmB n (tr.getD k 0).toNat]++[59,10]
def R8(b:List UInt8)(n:Nat)(l:List PR):Nat→List UInt8
 | 0=>b
 | k+1=>R8 b n l k++t6 (l.getD k L5).1++aAn n (exO (l.getD k L5).2.1)++[32,47,32]++aAn n (exO (l.getD k L5).2.2)++[59,10]
def dD(c:Int):Nat:=1+c.toNat % 6
def yI(c j a:Int)(tr:List Int)(l:List PR):List UInt8:=R8 (trT (mY (dD c) j a) (dD c) tr (min tr.length (dD c))) (dD c) l (min l.length 10)
structure Pl(c j a:Int)(tr:List Int)(l:List PR):Prop where
 hc:0≤c∧c<256
 hj:0≤j∧j<256
 ha:0≤a∧a<256
 ht:Sm tr
 hl:∀x∈l,(0≤x.1∧x.1<256)∧Sm x.2.1∧Sm x.2.2
theorem x5(d:Int):(t6 d).length≤5:=by
 unfold t6
 generalize (Int.tmod d 3).toNat=k
 match k with
 | 0=>decide
 | 1=>decide
 | 2=>decide
 | k+3=>simp
theorem R0{n:Nat}(h6:n≤6):(E5 n).length≤30:=by
 have:=eZ n 255 n
 simp only[E5,List.length_append,List.length_cons,List.length_nil];omega
theorem yK{n:Nat}(h6:n≤6)(j a:Int):(mY n j a).length≤70:=by
 have h0:=R0 h6
 have h1:=eZ n j.toNat n
 have h2:=eZ n a.toNat n
 unfold mY
 split
 ·omega
 ·simp only[List.length_append,List.length_cons,List.length_nil];omega
theorem zI(b:List UInt8)(n:Nat)(tr:List Int)(k:Nat):(trT b n tr k).length=b.length+13*k:=by
 induction k with
 | zero=>rfl
 | succ k ih=>simp only[trT,List.length_append,List.length_cons,List.length_nil,ih];omega
theorem N6{n:Nat}(h6:n≤6)(b:List UInt8)(l:List PR)(k:Nat):(R8 b n l k).length≤b.length+2010*k:=by
 induction k with
 | zero=>exact Nat.le_refl _
 | succ k ih =>
  have h1:=x5 (l.getD k L5).1
  have h2:=qR h6 (l.getD k L5).2.1
  have h3:=qR h6 (l.getD k L5).2.2
  simp only[R8,List.length_append,List.length_cons,List.length_nil];omega
theorem T3(c:Int):1≤dD c:=by unfold dD;omega
theorem L6(c:Int):dD c≤6:=by unfold dD;omega
theorem O4(c j a:Int)(tr:List Int)(l:List PR):(yI c j a tr l).length≤30000:=by
 have h6:=L6 c
 have h1:=yK h6 j a
 have h2:=zI (mY (dD c) j a) (dD c) tr (min tr.length (dD c))
 have h3:=N6 h6 (trT (mY (dD c) j a) (dD c) tr (min tr.length (dD c))) l (min l.length 10)
 unfold yI
 have h4:min l.length 10≤10:=Nat.min_le_right _ _
 have h5:min tr.length (dD c)≤dD c:=Nat.min_le_right _ _
 omega
theorem V8{c j a:Int}{tr l}(h:Pl c j a tr l):gI c j a tr l=some (dD c:Int):=by
 unfold gI
 rw[if_pos (by decide)]
 obtain⟨m,rfl⟩:=Int.eq_ofNat_of_zero_le h.hc.1
 have e:Int.tmod ((m:Nat):Int) (6:Int)=((m % 6:Nat):Int):=rfl
 rw[e,aP (x:=((m % 6:Nat):Int)) (by omega) (by omega),aP (by omega) (by omega)]
 simp only[dD,Int.toNat_natCast]
 congr 1
theorem aAD{n:Nat}(h1:1≤n)(h6:n≤6)(b:List UInt8)(hb:b.length≤1000){tr:List Int}(ht:Sm tr):iter (iP tr (n:Int)) (b,((0:Nat):Int))=some (trT b n tr (min tr.length n)):=by
 refine cC (fun k:Nat=>(trT b n tr k,(k:Int))) (min tr.length n) (fun k hk=> ?_) ?_
 ·have hl:=zI b n tr k
  have hx:=ht _ (lW (d:=0) (show k<tr.length by omega))
  obtain⟨v,hv⟩:=Int.eq_ofNat_of_zero_le hx.1
  unfold iP
  simp only[Int.toNat_natCast]
  rw[if_pos (by simp;omega),decide_eq_true (show(k:Int)<(n:Int) by omega)]
  simp only[Option.bind_some,if_true]
  rw[if_pos (by simp;omega),uN h1 h6]
  simp only[Option.bind_some]
  rw[if_pos (by simp;omega),if_pos (by simp;omega),if_pos ⟨by omega,by omega⟩,aP (x:=tr.getD k 0) (by omega) (by omega),hv,uN h1 h6]
  simp only[Option.bind_some]
  rw[if_pos (by simp;omega),if_pos (by simp;omega),aP (by omega) (by omega)]
  have ev:(tr.getD k 0).toNat=v:=by rw[hv];rfl
  simp only[trT,ev]
  rfl
 ·unfold iP
  simp only[]
  by_cases h:min tr.length n=tr.length
  ·rw[if_neg (by simp;omega)];rfl
  ·by_cases h':((min tr.length n:Nat):Int)<(tr.length:Int)
   ·rw[if_pos (by simpa using h'),decide_eq_false (by omega)];rfl
   ·rw[if_neg (by simpa using h')];rfl
theorem aAL{n:Nat}(h1:1≤n)(h6:n≤6)(b:List UInt8)(hb:b.length≤1000){l:List PR}(hl:∀x∈l,(0≤x.1∧x.1<256)∧Sm x.2.1∧Sm x.2.2):iter (iQ l (n:Int)) (b,((0:Nat):Int))=some (R8 b n l (min l.length 10)):=by
 refine cC (fun k:Nat=>(R8 b n l k,(k:Int))) (min l.length 10) (fun k hk=> ?_) ?_
 ·have hlen:=N6 h6 b l k
  obtain⟨hx,hy,hz⟩:=hl _ (lW (d:=L5) (show k<l.length by omega))
  have hw:=x5 (l.getD k L5).1
  have e1:=qR h6 (l.getD k ((0:Int),(([]:List Int),([]:List Int)))).2.1
  have e2:=qR h6 (l.getD k ((0:Int),(([]:List Int),([]:List Int)))).2.2
  obtain⟨v,hv⟩:=Int.eq_ofNat_of_zero_le hx.1
  have em:Int.tmod (l.getD k L5).1 3=((v % 3:Nat):Int):=by rw[hv];rfl
  have hm:v % 3<3:=Nat.mod_lt _ (by decide)
  have c2:0≤(k:Int)∧(k:Int)<(l.length:Int):=⟨by omega,by omega⟩
  unfold iQ
  simp only[Int.toNat_natCast]
  rw[if_pos (by simp;omega),decide_eq_true (show(k:Int)<10 by omega)]
  simp only[Option.bind_some,if_true]
  rw[if_pos c2,if_pos (by decide),if_pos ⟨by rw[em];omega,by rw[em];show _<((3:Nat):Int);omega⟩,if_pos (by rw[em,Int.toNat_natCast];exact hm)]
  change (if(R8 b n l k).length+(t6 (l.getD k L5).1).length≤9223372036854775807 then _ else none)=_
  rw[if_pos (by omega),if_pos c2,show kT (n:Int) (l.getD k ((0:Int),(([]:List Int),([]:List Int)))).2.1=_ from N9 h1 h6 hy]
  simp only[Option.bind_some]
  change (if(R8 b n l k++t6 (l.getD k L5).1).length+_≤9223372036854775807 then _ else none)=_
  rw[if_pos (by simp only[List.length_append];omega),if_pos (by simp only[List.length_append,List.length_cons,List.length_nil];change (R8 b n l k).length+(t6 (l.getD k L5).1).length+_+_≤_;omega),if_pos c2,show kT (n:Int) (l.getD k ((0:Int),(([]:List Int),([]:List Int)))).2.2=_ from N9 h1 h6 hz]
  simp only[Option.bind_some]
  rw[if_pos (by simp only[List.length_append,List.length_cons,List.length_nil];change (R8 b n l k).length+(t6 (l.getD k L5).1).length+_+_+_≤_;omega),if_pos (by simp only[List.length_append,List.length_cons,List.length_nil];change (R8 b n l k).length+(t6 (l.getD k L5).1).length+_+_+_+_≤_;omega),aP (by omega) (by omega)]
  rfl
 ·unfold iQ
  simp only[]
  by_cases h:min l.length 10=l.length
  ·rw[if_neg (by simp;omega)];rfl
  ·by_cases h':((min l.length 10:Nat):Int)<(l.length:Int)
   ·rw[if_pos (by simpa using h'),decide_eq_false (by omega)];rfl
   ·rw[if_neg (by simpa using h')];rfl
theorem aAm{c j a:Int}{tr l}(h:Pl c j a tr l):q9 c j a tr l=some (yI c j a tr l):=by
 unfold q9
 rw[V8 h]
 simp only[Option.bind_some]
 have h1:=T3 c
 have h6:=L6 c
 rw[show fE (dD c:Int) 255=_ from rD (b:=255) h1 h6 (by decide)]
 simp only[Option.bind_some]
 have l0:=eZ (dD c) 255 (dD c)
 have l1:=eZ (dD c) j.toNat (dD c)
 have l2:=eZ (dD c) a.toNat (dD c)
 rw[if_pos (by simp;omega),if_pos (by simp;omega)]
 have hjl:=yK h6 j a
 have key:(if(j != (0:Int))=true then(if((([99,108,97,115,115]:List UInt8)++e9 (dD c) 255 (dD c))++([59,10]:List UInt8)).length+([106,111,105,110]:List UInt8).length≤9223372036854775807 then((fE (dD c:Int) j).bind fun(r11:List UInt8) =>
   (if(((([99,108,97,115,115]:List UInt8)++e9 (dD c) 255 (dD c))++([59,10]:List UInt8))++([106,111,105,110]:List UInt8)).length+r11.length≤9223372036854775807 then(if((((([99,108,97,115,115]:List UInt8)++e9 (dD c) 255 (dD c))++([59,10]:List UInt8))++([106,111,105,110]:List UInt8))++r11).length+([32,47]:List UInt8).length≤9223372036854775807 then((fE (dD c:Int) a).bind fun(r12:List UInt8) =>
   (if(((((([99,108,97,115,115]:List UInt8)++e9 (dD c) 255 (dD c))++([59,10]:List UInt8))++([106,111,105,110]:List UInt8))++r11)++([32,47]:List UInt8)).length+r12.length≤9223372036854775807 then(if((((((([99,108,97,115,115]:List UInt8)++e9 (dD c) 255 (dD c))++([59,10]:List UInt8))++([106,111,105,110]:List UInt8))++r11)++([32,47]:List UInt8))++r12).length+([59,10]:List UInt8).length≤9223372036854775807 then some ((((((((([99,108,97,115,115]:List UInt8)++e9 (dD c) 255 (dD c))++([59,10]:List UInt8))++([106,111,105,110]:List UInt8))++r11)++([32,47]:List UInt8))++r12)++([59,10]:List UInt8)))else none)else none))else none)else none))else none)
   else some (((([99,108,97,115,115]:List UInt8)++e9 (dD c) 255 (dD c))++([59,10]:List UInt8))))=some (mY (dD c) j a):=by
  unfold mY
  by_cases hj:j=0
  ·rw[if_neg (by simp[hj]),if_pos hj];rfl
  ·obtain⟨vj,hvj⟩:=Int.eq_ofNat_of_zero_le h.hj.1
   obtain⟨va,hva⟩:=Int.eq_ofNat_of_zero_le h.ha.1
   have q1:=h.hj.2
   have q2:=h.ha.2
   rw[if_pos (by simpa using hj),if_neg hj]
   subst hvj;subst hva
   simp only[Int.toNat_natCast]at l1 l2 q1 q2 ⊢
   rw[if_pos (by simp;omega),rD h1 h6 (by omega)]
   simp only[Option.bind_some]
   rw[if_pos (by simp;omega),if_pos (by simp;omega),rD h1 h6 (by omega)]
   simp only[Option.bind_some]
   rw[if_pos (by simp;omega),if_pos (by simp;omega)]
   rfl
 rw[key]
 simp only[Option.bind_some]
 have htl:=zI (mY (dD c) j a) (dD c) tr (min tr.length (dD c))
 rw[show iter (iP tr (dD c:Int)) (mY (dD c) j a,0)=_ from aAD h1 h6 (mY (dD c) j a) (by omega) h.ht]
 simp only[Option.bind_some]
 have hm:min tr.length (dD c)≤6:=by omega
 rw[show iter (iQ l (dD c:Int)) (trT (mY (dD c) j a) (dD c) tr (min tr.length (dD c)),0)=_ from aAL h1 h6 _ (by omega) h.hl]
 rfl
theorem aBH{c j a:Int}{tr:List Int}{l:List PR}(h:Wf (.prod (.int .u8) (.prod (.int .u8) (.prod (.int .u8) (.prod (.slice (.int .u8)) (.slice (.prod (.int .u8) (.prod (.slice (.int .u8)) (.slice (.int .u8))))))))) (c,j,a,tr,l)):Pl c j a tr l:=by
 obtain⟨h1,h2,h3,h4,h5⟩:=h
 have sm:∀ {y:List Int},Wf (.slice (.int .u8)) y→Sm y:=fun {y} hy z hz=>by
  obtain⟨i,hi,rfl⟩:=List.getElem_of_mem hz
  have:=hy.2 i hi
  exact⟨this.1,Int.lt_add_one_iff.mpr this.2⟩
 refine⟨⟨h1.1,Int.lt_add_one_iff.mpr h1.2⟩,⟨h2.1,Int.lt_add_one_iff.mpr h2.2⟩,⟨h3.1,Int.lt_add_one_iff.mpr h3.2⟩,sm h4,fun x hx=> ?_⟩
 obtain⟨i,hi,rfl⟩:=List.getElem_of_mem hx
 obtain⟨k1,k2,k3⟩:=h5.2 i hi
 exact⟨⟨k1.1,Int.lt_add_one_iff.mpr k1.2⟩,sm k2,sm k3⟩
end Go.Proofs.Ytjfjigknkhgkdaa.T
namespace Go.Proofs.Ytjfjigknkhgkdaa.T
open Go Go.Tv Go.Proofs
theorem aBn{len x:Int}(h0:0<len)(h1:len≤200000):¬IntKind.u64.wrap len=0∧0≤IntKind.i64.wrap (Int.tmod (IntKind.u64.wrap x) (IntKind.u64.wrap len))∧IntKind.i64.wrap (Int.tmod (IntKind.u64.wrap x) (IntKind.u64.wrap len))<len:=by
 rw[V6 (x:=len) (by omega) (by omega)]
 have hu:0≤IntKind.u64.wrap x:=by rw[P6];omega
 have h2:=Int.tmod_nonneg len hu
 have h3:=Int.tmod_lt_of_pos (IntKind.u64.wrap x) h0
 rw[aP (by omega) (by omega)]
 omega
theorem aBB(x:Int):0≤Int.tmod (IntKind.i64.wrap (IntKind.u8.wrap x)) (19:Int)∧Int.tmod (IntKind.i64.wrap (IntKind.u8.wrap x)) (19:Int)<19:=by
 have h:0≤IntKind.u8.wrap x∧IntKind.u8.wrap x<256:=by
  rw[W9]
  omega
 rw[aP (x:=IntKind.u8.wrap x) (by omega) (by omega)]
 exact⟨Int.tmod_nonneg 19 h.1,Int.tmod_lt_of_pos _ (by omega)⟩
theorem C8(i1 x1 v7:List Int)(v8:Int)(h7:0<v7.length)(h7':v7.length≤100000)(h8:0≤v8):
  (∃y,cM i1 x1 (v7,v8)=some (.inl (y,v8+1))∧v8<4∧0<y.length∧y.length≤v7.length+1)∨cM i1 x1 (v7,v8)=some (.inr v7):=by
 unfold cM
 simp only
 by_cases c1:v8<(i1.length:Int)
 ·by_cases c2:v8<(x1.length:Int)
  ·by_cases c3:v8<(4:Int)
   ·left
    obtain⟨k0,k1,k2⟩:=aBn (len:=(v7.length:Int)) (x:=i1.getD v8.toNat (0:Int)) (by omega) (by omega)
    have hc:=aBB (Int.tdiv (x1.getD v8.toNat (0:Int)) (2:Int))
    have hw:IntKind.i64.wrap (v8+(1:Int))=v8+1:=aP (by omega) (by omega)
    generalize IntKind.i64.wrap (Int.tmod (IntKind.u64.wrap (i1.getD v8.toNat (0:Int))) (IntKind.u64.wrap (v7.length:Int)))=k at k1 k2 ⊢
    generalize Int.tmod (IntKind.i64.wrap (IntKind.u8.wrap (Int.tdiv (x1.getD v8.toNat (0:Int)) (2:Int)))) (19:Int)=c at hc ⊢
    have hc':0≤c∧c<(([40,41,91,93,94,124,42,43,63,46,59,47,61,65,66,32,35,10,33]:List UInt8).length:Int):=hc
    generalize ((([40,41,91,93,94,124,42,43,63,46,59,47,61,65,66,32,35,10,33]:List UInt8).getD c.toNat 0).toNat:Int)=z
    rw[decide_eq_true c1,decide_eq_true c2,decide_eq_true c3,hw]
    simp only[if_true,Option.bind_some]
    rw[if_pos ⟨h8,c1⟩,if_pos k0,if_pos ⟨h8,c2⟩,if_pos (by omega),if_pos (by omega),if_pos hc',if_pos ⟨h8,c2⟩,if_pos (by omega)]
    by_cases c4:((Int.tmod (x1.getD v8.toNat (0:Int)) (2:Int)) == (0:Int))=true
    ·rw[if_pos c4,if_pos ⟨k1,k2⟩,if_pos (by omega)]
     exact⟨_,rfl,c3,by rw[List.length_set];exact h7,by rw[List.length_set];omega⟩
    ·rw[if_neg c4,if_pos ⟨k1,by trivial,by omega⟩,if_pos ⟨k1,by omega,Int.le_refl _⟩]
     have e1:((v7.take (v7.length:Int).toNat).drop k.toNat).length≤v7.length:=by first | (simp;done) | (simp;omega)
     have e2:(v7.take k.toNat).length≤v7.length:=by first | (simp;done) | (simp;omega)
     have e3:(v7.take k.toNat).length+((v7.take (v7.length:Int).toNat).drop k.toNat).length=v7.length:=by simp;omega
     rw[if_pos ⟨by simp only[List.length_cons,List.length_nil];omega,by simp only[List.length_cons,List.length_nil];omega⟩]
     rw[if_pos ⟨by simp,by simp only[List.length_cons,List.length_nil,List.length_append];omega,by simp only[List.length_cons,List.length_nil,List.length_append];omega⟩]
     refine⟨_,rfl,c3,?_,?_⟩
     ·simp;omega
     ·simp only[List.length_cons,List.length_nil,List.length_append];omega
   ·right
    rw[decide_eq_true c1,decide_eq_true c2,decide_eq_false c3]
    rfl
  ·right
   rw[decide_eq_true c1,decide_eq_false c2]
   rfl
 ·right
  rw[decide_eq_false c1]
  rfl
theorem F5(i1 x1 v:List Int)(h:0<v.length)(h':v.length≤90000):∃r,iter (cM i1 x1) (v,0)=some r:=by
 obtain⟨r,h1,_⟩:=P9 (body:=cM i1 x1) (fun s=>0<s.1.length∧s.1.length≤90000+s.2.toNat∧0≤s.2∧s.2≤4) (fun s=>(4 - s.2).toNat) (fun _=>True) (fun s hs=>by
  obtain⟨v7,v8⟩:=s
  obtain⟨a1,a2,a3,a4⟩:=hs
  simp only at a1 a2 a3 a4 ⊢
  rcases C8 i1 x1 v7 v8 a1 (by omega) a3 with⟨y,b1,b2,b3,b4⟩ | b
  ·exact .inl ⟨_,b1,⟨b3,by simp only;omega,by simp only;omega,by simp only;omega⟩,by simp only;omega⟩
  ·exact .inr ⟨_,b,trivial⟩) (s:=(v,0)) ⟨h,by simpa using h',Int.le_refl _,by simp⟩
 exact⟨r,h1⟩
theorem O0{b:List UInt8}(h:0<b.length)(n:Nat)(tr:List Int):∀k,0<(trT b n tr k).length
 | 0=>h
 | k+1=>by simp only[trT,List.length_append];have:=O0 h n tr k;omega
theorem K8{b:List UInt8}(h:0<b.length)(n:Nat)(l:List PR):∀k,0<(R8 b n l k).length
 | 0=>h
 | k+1=>by simp only[R8,List.length_append];have:=K8 h n l k;omega
theorem O5(c j a:Int)(tr:List Int)(l:List PR):0<(yI c j a tr l).length:=by
 unfold yI
 refine K8 (O0 ?_ _ _ _) _ _ _
 unfold mY E5
 split <;> simp only[List.length_append,List.length_cons] <;> omega
abbrev rulesTurned_Ts:List Ty:=[(.prod (.int .u8) Y8),(.slice (.int .i64)),(.slice (.int .u8))]
theorem rulesTurned_all(x:Tup rulesTurned_Ts)(hx:WfT rulesTurned_Ts x):iB x.1.1 x.1.2.1 x.1.2.2.1 x.1.2.2.2.1 x.1.2.2.2.2 x.2.1 x.2.2.1=some true:=by
 obtain⟨⟨c,j,a,tr,l⟩,at1,to1,u⟩:=x
 have hp:Pl c j a tr l:=aBH hx.1
 unfold iB
 rw[aAG]
 simp only[Option.bind_some,Bool.not_true,Bool.false_eq_true,if_false]
 rw[aAm hp]
 simp only[Option.bind_some]
 have hl:=O4 c j a tr l
 have h0:=O5 c j a tr l
 obtain⟨r,hr⟩:=F5 at1 to1 (gF (yI c j a tr l)) (by simpa [gF]using h0) (by simp only[gF,List.length_map];omega)
 rw[hr]
 simp only[Option.bind_some]
 rw[V9]
 rfl
end Go.Proofs.Ytjfjigknkhgkdaa.T
