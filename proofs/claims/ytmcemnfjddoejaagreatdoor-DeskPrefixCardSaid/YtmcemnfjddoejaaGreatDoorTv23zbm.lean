/- A place is always found. -/
import Derived.Test.YtmcemnfjddoejaaGreatDoorTv23wm
namespace Go.Proofs.YtmcemnfjddoejaaGreatDoor.T
open Go Go.Tv Go.Proofs
open Go.IntKind (i64 u64)
noncomputable section
def HR(i j:Int):Int:=i64.wrap (Int.fdiv (u64.wrap (i64.wrap (i+j))) (2 ^ (min (1:Int).toNat u64.bits)))
def pV(f:Int→Option Bool):(Int×Int)→Option ((Int×Int)⊕Int):=fun((c,e):Int×Int) =>
 (if(decide (c<e))=true then(if 0≤(1:Int)then((f (HR c e)).bind fun(j:Bool) =>
 (if(!j)=true then some (Sum.inl ((i64.wrap (HR c e+(1:Int))),e))
 else some (Sum.inl (c,HR c e))))else none)
 else some (Sum.inr c))
theorem MZ(c:Int)(e:List bB):iZ c e=pV (fun i=>fm i c e):=rfl
theorem MU(c:Int)(e:List bB):iM c e=pV (fun i=>jn i c e):=rfl
theorem MI(c e:Int)(f:List Int):iV c e f=pV (fun i=>dv i c e f):=rfl
theorem JU{a b:Nat}(hb:b≤1000000)(c:a≤b):HR (a:Int) (b:Int)=(((a+b) / 2:Nat):Int):=by
 unfold HR;rw[wrap_i64 (x:=(a:Int)+b) (by omega) (by omega),mW];have e:((a:Int)+b) % 18446744073709551616=((a+b:Nat):Int):=by omega
 rw[e];have f:(2:Int) ^ (min (1:Int).toNat u64.bits)=((2:Nat):Int):=by decide
 have j:Int.fdiv ((a+b:Nat):Int) ((2:Nat):Int)=(((a+b) / 2:Nat):Int):=by rw[Int.fdiv_eq_ediv_of_nonneg _ (by omega)];rfl
 rw[f,j,wrap_i64 (by omega) (by omega)]
theorem qV{is:Int→Option Bool}(P:Nat→Bool)(n:Nat)(D:n≤1000000)(f:∀i:Nat,i<n→is (i:Int)=some (P i)):
  ∃k:Nat,k≤n∧iter (pV is) ((0:Int),(n:Int))=some (k:Int)∧(∀j,k=j+1→P j=false)∧(k<n→P k=true):=by
 obtain⟨r,u,k,v,x,z,A⟩:=cF (body:=pV is) (fun s=>∃a b:Nat,s=((a:Int),(b:Int))∧a≤b∧b≤n∧(∀j,a=j+1→P j=false)∧(b<n→P b=true))
  (fun s=>(s.2 - s.1).toNat) (fun r=>∃k:Nat,r=(k:Int)∧k≤n∧(∀j,k=j+1→P j=false)∧(k<n→P k=true))
  (fun s ⟨a,b,e,m,c,hl,p⟩=>by
   subst e;simp only[pV];by_cases h:a<b
   ·left
    have B:=JU (a:=a) (b:=b) (by omega) m;rw[if_pos (by simp only[decide_eq_true_eq];omega),if_pos (by omega),B,f _ (by omega)];simp only[Option.bind_some];cases q:P ((a+b) / 2)with
    | false =>
     rw[if_pos (show(!false)=true from rfl),wrap_i64 (by omega) (by omega)];refine⟨_,rfl,⟨(a+b) / 2+1,b,by congr 1,by omega,c,fun j C=> ?_,p⟩,by simp only;omega⟩;obtain rfl:j=(a+b) / 2:=by omega
     exact q
    | true =>
     rw[if_neg (show ¬(!true)=true by decide)];exact⟨_,rfl,⟨a,(a+b) / 2,rfl,by omega,by omega,hl,fun _=>q⟩,by simp only;omega⟩
   ·right
    obtain rfl:a=b:=by omega
    rw[if_neg (by simp only[decide_eq_true_eq];omega)];exact⟨_,rfl,a,rfl,c,hl,p⟩)
  (s:=(0,n)) ⟨0,n,rfl,by omega,Nat.le_refl _,fun j C=>by omega,fun h=>by omega⟩
 subst v;exact⟨k,x,u,z,A⟩
theorem zo{C:List bB}(f:C.length≤4096)(O:List Int)(L:List bB)(K:List (List Int)):∃e,fu (some ((C,O),(L,K)))=some e:=by
 unfold fu;simp only[Option.isSome_some,Option.getD_some,if_true];by_cases j:0<C.length
 ·have c:i64.wrap ((C.length:Int) - 1)=((C.length - 1:Nat):Int):=by rw[wrap_i64 (by omega) (by omega)];omega
  rw[if_pos (by simp only[decide_eq_true_eq];omega),c,if_pos ⟨by omega,by omega⟩,if_pos ⟨by omega,by omega⟩];exact⟨_,rfl⟩
 ·rw[if_neg (by simp only[decide_eq_true_eq];omega)];exact⟨_,rfl⟩
theorem zX{C:List bB}(f:C.length≤4096)(i:Int):∃k:Nat,k≤C.length∧jW C i=some (k:Int):=by
 obtain⟨k,c,e,-,-⟩:=qV (is:=fun j=>fm j i C) (fun j=>decide (i64.wrap ((C.getD j c0).1+(C.getD j c0).2.1) > i)) C.length (by omega) (fun j m=>by
  unfold fm;rw[if_pos ⟨by omega,by omega⟩,Int.toNat_natCast];rfl)
 refine⟨k,c,?_⟩;unfold jW iC;rw[MZ,e];rfl
theorem FD{L:List bB}(hl:L.length≤5000)(k:Nat):∃r:Nat,r≤L.length∧jL L (k:Int)=some (r:Int)∧(∀j,r=j+1→(L.getD j c0).2.1≤(k:Int))∧(r<L.length→(k:Int)<(L.getD r c0).2.1):=by
 obtain⟨r,e,f,m,p⟩:=qV (is:=fun j=>jn j (k:Int) L) (fun j=>decide ((L.getD j c0).2.1 > (k:Int))) L.length (by omega) (fun j c=>by
  unfold jn;rw[if_pos ⟨by omega,by omega⟩,Int.toNat_natCast];rfl)
 refine⟨r,e,?_,fun j c=> ?_,fun h=> ?_⟩
 ·unfold jL iK;rw[MU,f];rfl
 ·have:=of_decide_eq_false (m j c);omega
 ·exact of_decide_eq_true (p h)
theorem za(cl:List bB)(tab:Int)(l:List bB):(dQ cl tab l).length=l.length:=by simp[dQ]
theorem zj{cl:List bB}{tab:Int}{l:List bB}{t:Nat}(h:t<l.length):(dQ cl tab l).getD t []=n5 cl tab (l.getD t c0).1.toNat ((l.getD t c0).2.1.toNat - (l.getD t c0).1.toNat):=by
 unfold dQ;rw[List.getD_eq_getElem?_getD,List.getElem?_map,List.getElem?_eq_getElem h,iL h];rfl
theorem EZ{C:List bB}(hC:C.length≤4096){L:List bB}(I:tV 0 L C.length)(h0:0<L.length)(hl:L.length≤5000)(O:List Int)(c:Int)(i:Int)(b:Bool):
  ∃r,eL (some ((C,O),(L,dQ C c L))) i b=some r:=by
 obtain⟨e,he⟩:=zo hC O L (dQ C c L);obtain⟨k,hk,ek⟩:=zX hC i;obtain⟨r,hr,er,r1,r2⟩:=FD hl k;have z:∀t:Nat,t<L.length→(∃u v:Nat,(L.getD t c0).1=(u:Int)∧(L.getD t c0).2.1=(v:Int)∧u≤k∧k≤v)→0≤i64.wrap ((k:Int) - (L.getD t c0).1)∧i64.wrap ((k:Int) - (L.getD t c0).1)<(((dQ C c L).getD t []).length:Int):=by rintro t ht ⟨u,v,q,x,J,M⟩;rw[zj ht,q,x,kI,wrap_i64 (by omega) (by omega)];simp only[Int.toNat_natCast];omega
 unfold eL;simp only[Option.isNone_some,Option.isSome_some,Option.getD_some,Bool.false_eq_true,if_false,if_true,he,Option.bind_some,ek,er,za];by_cases V:i<0
 ·simp only[V,decide_true,if_true,Option.bind_some];exact⟨_,rfl⟩
 by_cases h2:i > e
 ·simp only[V,h2,decide_true,decide_false,Bool.false_eq_true,if_true,if_false,Option.bind_some];exact⟨_,rfl⟩
 simp only[V,h2,decide_false,Bool.false_eq_true,if_false,Option.bind_some];have A:∀j,r=j+1→(k:Int)≤(L.getD j c0).2.1→∃u v:Nat,(L.getD j c0).1=(u:Int)∧(L.getD j c0).2.1=(v:Int)∧u≤k∧k≤v:=fun j hj B=>by obtain⟨u,v,q,x,J,-⟩:=I.get j (by omega);have:=r1 j hj;exact⟨u,v,q,x,by omega,by omega⟩
 have D:r<L.length→∃u v:Nat,(L.getD r c0).1=(u:Int)∧(L.getD r c0).2.1=(v:Int)∧u≤k∧k≤v:=fun m=>by
  obtain⟨u,v,q,x,J,M,N,-⟩:=I.get r m;have:=r2 m;refine⟨u,v,q,x,?_,by omega⟩;cases r with
  | zero=>have:=M rfl;omega
  | succ j =>have h5:=N j rfl;have:=r1 j rfl;omega
 have w1:0<r→i64.wrap ((r:Int) - 1)=((r - 1:Nat):Int):=fun h=>by rw[wrap_i64 (by omega) (by omega)];omega
 have f:0<r→(k:Int)≤(L.getD (r - 1) c0).2.1→∃y,(if 0≤((r - 1:Nat):Int)∧((r - 1:Nat):Int)<(L.length:Int)then(if 0≤i64.wrap ((k:Int) - (L.getD ((r - 1:Nat):Int).toNat c0).1)∧i64.wrap ((k:Int) - (L.getD ((r - 1:Nat):Int).toNat c0).1)<(((dQ C c L).getD ((r - 1:Nat):Int).toNat []).length:Int)then some ((((r - 1:Nat):Int),((dQ C c L).getD ((r - 1:Nat):Int).toNat []).getD (i64.wrap ((k:Int) - (L.getD ((r - 1:Nat):Int).toNat c0).1)).toNat 0),(0:Int))else none)else none)=some y:=fun R B=>by have X:=z (r - 1) (by omega) (A (r - 1) (by omega) B);rw[if_pos ⟨by omega,by omega⟩,Int.toNat_natCast,if_pos X];exact⟨_,rfl⟩
 have p:r<L.length→∃y,(if 0≤(r:Int)∧(r:Int)<(L.length:Int)then(if 0≤i64.wrap ((k:Int) - (L.getD (r:Int).toNat c0).1)∧i64.wrap ((k:Int) - (L.getD (r:Int).toNat c0).1)<(((dQ C c L).getD (r:Int).toNat []).length:Int)then some (((r:Int),((dQ C c L).getD (r:Int).toNat []).getD (i64.wrap ((k:Int) - (L.getD (r:Int).toNat c0).1)).toNat 0),(0:Int))else none)else none)=some y:=fun m=>by have X:=z r m (D m);rw[if_pos ⟨by omega,by omega⟩,Int.toNat_natCast,if_pos X];exact⟨_,rfl⟩
 by_cases hA:r=L.length
 ·have R:(k:Int)≤(L.getD (r - 1) c0).2.1:=by obtain⟨u,v,q,x,J,M,N,q6⟩:=I.get (r - 1) (by omega);have:=q6 (by omega);omega
  have hb:((r:Int) == (L.length:Int))=true:=by rw[beq_iff_eq];omega
  simp only[hb,if_true,Option.bind_some,w1 (by omega)];obtain⟨y,E⟩:=f (by omega) R;refine⟨y,?_⟩;rw[←E];split <;> simp_all
 ·have hb:((r:Int) == (L.length:Int))=false:=by rw[beq_eq_false_iff_ne];omega
  obtain⟨y,E⟩:=p (by omega);simp only[hb,Bool.false_eq_true,if_false];cases b with
  | false =>
   simp only[Bool.false_eq_true,if_false,Option.bind_some];refine⟨y,?_⟩;rw[←E];split <;> simp_all
  | true =>
   by_cases h3:r=0
   ·have Y:¬((r:Int) > 0):=by omega
    simp only[if_true,Y,decide_false,Bool.false_eq_true,if_false,Option.bind_some];refine⟨y,?_⟩;rw[←E];split <;> simp_all
   ·have Y:(r:Int) > 0:=by omega
    have hg:0≤(r:Int)∧(r:Int)<(L.length:Int):=⟨by omega,by omega⟩;simp only[if_true,Y,hg,decide_true,Option.bind_some];by_cases Z:((L.getD (r:Int).toNat c0).1 == (k:Int))=true
    ·have R:(k:Int)≤(L.getD (r - 1) c0).2.1:=by obtain⟨u,v,q,x,J,M,N,q6⟩:=I.get r (by omega);have h5:=N (r - 1) (by omega);rw[Int.toNat_natCast,q,beq_iff_eq]at Z;omega
     obtain⟨y',a1⟩:=f (by omega) R;refine⟨y',?_⟩;rw[←a1];simp only[Z,if_true,Option.bind_some,w1 (by omega)];split <;> simp_all
    ·refine⟨y,?_⟩;rw[←E];simp only[Z,if_false,Option.bind_some];split <;> simp_all
theorem Ds{C:List bB}(c:C.length≤4096)(O:List Int)(L:List bB)(K:List (List Int)){k:Int}(f:0≤k):∃e,fh (some ((C,O),(L,K))) k=some e:=by
 obtain⟨e,j⟩:=zo c O L K;unfold fh;simp only[Option.isSome_some,Option.getD_some,if_true,j,Option.bind_some];by_cases h:k<(C.length:Int)
 ·simp only[h,f,and_self,decide_true,if_true];exact⟨_,rfl⟩
 ·simp only[h,decide_false,Bool.false_eq_true,if_false];exact⟨_,rfl⟩
theorem yN(M:(List bB×List Int)×(List bB×List (List Int)))(i:Int)(c:Int):∀v:Nat,v<(M.2.2.getD i.toNat []).length→(M.2.2.getD i.toNat []).length≤10000→∃u:Nat,u≤v∧iter (cC (some M) i c) (v:Int)=some (u:Int)
 | 0,_,_=>by
  refine⟨0,Nat.le_refl _,bM ?_⟩;simp[cC]
 | v+1,h,m=>by
  have w:i64.wrap (((v+1:Nat):Int) - 1)=(v:Int):=by rw[wrap_i64 (by omega) (by omega)];omega
  have f:((v+1:Nat):Int) > 0:=by omega
  have g2:0≤(v:Int)∧(v:Int)<((M.2.2.getD i.toNat []).length:Int):=⟨by omega,by omega⟩;have g3:0≤((v+1:Nat):Int)∧((v+1:Nat):Int)<((M.2.2.getD i.toNat []).length:Int):=⟨by omega,by omega⟩;obtain⟨u,hu,e⟩:=yN M i c v (by omega) m;by_cases q:((M.2.2.getD i.toNat []).getD (v:Int).toNat 0 == (M.2.2.getD i.toNat []).getD ((v+1:Nat):Int).toNat 0)=true
  ·by_cases j:((M.2.2.getD i.toNat []).getD ((v+1:Nat):Int).toNat 0 == c)=true
   ·refine⟨u,by omega,?_⟩;rw[dE (y:=(v:Int)) ?_,e];simp only[cC,Option.getD_some,f,w,g2,g3,and_self,decide_true,if_true,q,j,Option.bind_some]
   ·refine⟨v+1,Nat.le_refl _,bM ?_⟩;simp only[cC,Option.getD_some,f,w,g2,g3,and_self,decide_true,if_true,q,j,Option.bind_some,Bool.false_eq_true,if_false]
  ·refine⟨v+1,Nat.le_refl _,bM ?_⟩;simp only[cC,Option.getD_some,f,w,g2,g3,and_self,decide_true,if_true,q,Option.bind_some,Bool.false_eq_true,if_false]
theorem F0{C:List bB}(D:C.length≤4096){L:List bB}(x:tV 0 L C.length)(_:L.length≤5000)(O:List Int)(tab:Int)(i c:Int):
  ∃r,eI (some ((C,O),(L,dQ C tab L))) i c=some r:=by
 unfold eI;simp only[Option.isNone_some,Option.isSome_some,Option.getD_some,Bool.false_eq_true,if_false,if_true,za];by_cases m:i<0
 ·simp only[m,decide_true,if_true,Option.bind_some];exact⟨_,rfl⟩
 by_cases p:i≥(L.length:Int)
 ·simp only[m,p,decide_true,decide_false,Bool.false_eq_true,if_true,if_false,Option.bind_some];exact⟨_,rfl⟩
 by_cases z:c<0
 ·simp only[m,p,z,decide_true,decide_false,Bool.false_eq_true,if_true,if_false,Option.bind_some];exact⟨_,rfl⟩
 obtain⟨t,rfl⟩:∃t:Nat,i=(t:Int):=⟨i.toNat,by omega⟩;have g:0≤(t:Int)∧(t:Int)<(L.length:Int):=⟨by omega,by omega⟩;simp only[m,p,z,g,and_self,decide_false,Bool.false_eq_true,if_true,if_false,Option.bind_some];obtain⟨u,v,A,E,Z,-⟩:=x.get t (by omega);have f:=zj (cl:=C) (tab:=tab) (l:=L) (t:=t) (by omega);have B:((dQ C tab L).getD t []).length=v - u+1:=by rw[f,kI,A,E];simp
 have q:((dQ C tab L).getD t []).getD 0 0=0:=by rw[f,pZ _ _ _ _ _ (by omega)];rfl
 have I:v≤4096:=by have:=x.HN t (by omega);omega
 obtain⟨k,k1,J,k3,M⟩:=qV (is:=fun j=>dv j (t:Int) c ((dQ C tab L).getD t [])) (fun j=>decide (((dQ C tab L).getD t []).getD j 0 > c)) ((dQ C tab L).getD t []).length (by omega) (fun j hj=>by
  unfold dv;rw[if_pos ⟨by omega,by omega⟩,Int.toNat_natCast];rfl)
 have hk:0<k:=by
  rcases Nat.eq_zero_or_pos k with e | e
  ·subst e;have:=of_decide_eq_true (M (by omega));rw[q]at this;omega
  ·exact e
 have N:fg ((dQ C tab L).getD (t:Int).toNat []) (t:Int) c=some (k:Int):=by unfold fg iQ;rw[MI,Int.toNat_natCast,J];rfl
 have R:i64.wrap ((k:Int) - 1)=((k - 1:Nat):Int):=by rw[wrap_i64 (by omega) (by omega)];omega
 obtain⟨y,hy,V⟩:=yN ((C,O),(L,dQ C tab L)) (t:Int) c (k - 1) (by simp only[Int.toNat_natCast];omega) (by simp only[Int.toNat_natCast];omega);have X:i64.wrap ((L.getD (t:Int).toNat c0).1+(y:Int))=(u:Int)+y:=by rw[Int.toNat_natCast,A,wrap_i64 (by omega) (by omega)]
 obtain⟨e,Y⟩:=Ds D O L (dQ C tab L) (k:=(u:Int)+y) (by omega);simp only[N,Option.bind_some,R,V];rw[show i64.wrap ((L.getD (t:Int).toNat (0,0,0,0)).1+(y:Int))=(u:Int)+y from X,Y];exact⟨_,rfl⟩
end
end Go.Proofs.YtmcemnfjddoejaaGreatDoor.T
namespace Go.Proofs.YtmcemnfjddoejaaGreatDoor.T
open Go Go.Tv Go.Proofs
open Go.IntKind (i64 u64)
noncomputable section
abbrev xS:=Int×(Int×Int×List Int)×(Int×Int×Int×Int×Int×Option Nat)×Int×Bool×Int×Int
abbrev Ej:=Int×(Int×Int)×Int×(List bB)×Bool
abbrev F6:xS:=(0,((0,(0,([]:List Int))),((0,(0,(0,(0,(0,(some 0:Option Nat)))))),(0,(false,(0,0))))))
theorem xR.cl{c:Wy}{x:List Int}{p:List bB×List Int}{e:Kn}(h:xR c x p e):p.1.length≤4096:=(h.pm.LN (by have:=h.len;omega)).1
theorem xR.rl{c:Wy}{x:List Int}{p:List bB×List Int}{f:Kn}(h:xR c x p f):(LF p.1 p.2 c).1.length≤4096:=by
 have hl:=h.cl;have j:=h.pm.I0.len;have e:F7 p.2 p.1.length 0 (dO p.2 p.2.length):=by rw[pr];exact lH _ _ _ (by omega)
 have:=(pQ c e).2;unfold LF;omega
theorem Iu{cl l:List bB}{o:List Int}{r:List bB}(h:fT cl o l=some r)(hl:l.length≤4096):r.length≤100000:=by
 unfold fT at h;split at h
 ·cases h;simp
 ·cases hi:iter (db cl l) (([]:List bB),(0:Int))with
  | none=>rw[hi]at h;cases h
  | some q =>
   rw[hi]at h;cases h;have:=Gc (body:=db cl l) (fun z:List bB×Int=>0≤z.2∧z.2≤(l.length:Int)∧(z.1.length:Int)=z.2) (fun r=>r.length≤100000) (fun s y e c=> ?_) (fun s y e c=> ?_) (s:=([],0)) ⟨by simp,by simp,by simp⟩ hi
   ·exact this
   ·obtain⟨out,i⟩:=s;obtain⟨f,j,k⟩:=e;simp only at f j k;simp only[db]at c
    repeat' split at c
    all_goals first | (cases c;done) | skip
    rename_i m _ _ _ _;cases c;have p:=of_decide_eq_true m;have u:i64.wrap (i+1)=i+1:=wrap_i64 (by omega) (by omega);simp only[u,List.length_append,List.length_singleton];omega
   ·obtain⟨out,i⟩:=s;obtain⟨f,j,k⟩:=e;simp only at f j k;simp only[db]at c
    repeat' split at c
    all_goals first | (cases c;omega) | cases c
theorem lR{c:Wy}{x:List Int}{p:List bB×List Int}{e:Kn}(h:xR c x p e)(b:Option Z1):∃r,r.length≤100000∧bT (LF p.1 p.2 c).1 (LF p.1 p.2 c).2 b c.1 c.2.1 c.2.2.1 c.2.2.2.1 c.2.2.2.2.1 c.2.2.2.2.2 x p.1 p.2 (some (ib p.1 p.2 c)) e=some (r,(LF p.1 p.2 c).2):=by
 obtain⟨r,f⟩:=FY h;refine⟨r,Iu f h.rl,?_⟩;unfold bT;rw[f];rfl
theorem IU{b:Option Z1}(hb:Ia b){c:Wy}{x:List Int}{p:List bB×List Int}{j:Kn}(h:xR c x p j)(q u:Int){k:List Int}(A:Bytes k):
  ∃code v e f,dh q u k (LF p.1 p.2 c).1 (LF p.1 p.2 c).2 b c.1 c.2.1 c.2.2.1 c.2.2.2.1 c.2.2.2.2.1 c.2.2.2.2.2 x p.1 p.2 (some (ib p.1 p.2 c)) j=some (code,(LF e.1 e.2 c).1,(LF e.1 e.2 c).2,v,e.1,e.2,some (ib e.1 e.2 c),f)∧xR c v e f:=by
 unfold dh;rcases Dp h.len q u k with⟨code,z,m⟩ | ⟨i,d,rfl,rfl,z,m,z3⟩
 ·refine⟨code,x,p,j,?_,h⟩;have:(code != 0)=true:=by simpa using z
  simp only[m,Option.bind_some,this,if_true]
 ·obtain⟨e,f,B,C⟩:=Ke hb (Av h.Kd A i d) m h.wy h.Mt (LF p.1 p.2 c).1 (LF p.1 p.2 c).2 x p.1 p.2 (some (ib p.1 p.2 c));refine⟨0,_,e,f,?_,C⟩;simp only[z3,Option.bind_some,bne_self_eq_false,Bool.false_eq_true,if_false,B]
theorem Iw{b:Option Z1}(hb:Ia b){c:Wy}{x:List Int}{p:List bB×List Int}{m:Kn}(h:xR c x p m)(d:Wy):
  ∃code f e j,dq d.1 d.2.1 d.2.2.1 d.2.2.2.1 d.2.2.2.2.1 d.2.2.2.2.2 (LF p.1 p.2 c).1 (LF p.1 p.2 c).2 b c.1 c.2.1 c.2.2.1 c.2.2.2.1 c.2.2.2.2.1 c.2.2.2.2.2 x p.1 p.2 (some (ib p.1 p.2 c)) m =
   some (code,(LF e.1 e.2 f).1,(LF e.1 e.2 f).2,f.1,f.2.1,f.2.2.1,f.2.2.2.1,f.2.2.2.2.1,f.2.2.2.2.2,x,e.1,e.2,some (ib e.1 e.2 f),j)∧xR f x e j:=by
 obtain⟨ok,k⟩:=wu d.1 d.2.1 d.2.2.1 d.2.2.2.1 d.2.2.2.2.1 d.2.2.2.2.2;unfold dq;rw[k];cases ok with
 | false=>exact⟨40,c,p,m,rfl,h⟩
 | true =>
  rw[Option.bind_some,if_neg (by decide)];split
  ·exact⟨0,c,p,m,rfl,h⟩
  ·obtain⟨e,j,q,u⟩:=Ke hb h.Kd h.len (c:=d) (AU k) (A6.nil d) (LF p.1 p.2 c).1 (LF p.1 p.2 c).2 x p.1 p.2 (some (ib p.1 p.2 c));refine⟨0,d,e,j,?_,u⟩;rw[q];rfl
theorem LL{c:Wy}{x:List Int}{p:List bB×List Int}{e:Kn}(h:xR c x p e)(i:Int)(b:Bool):∃r,eL (some (ib p.1 p.2 c)) i b=some r :=
 EZ h.cl (AG (I7 h.pm c)) (FN _) (by have:=h.rl;unfold pt;split <;> simp <;> omega) p.2 c.2.1 i b
theorem Me{c:Wy}{x:List Int}{p:List bB×List Int}{e:Kn}(h:xR c x p e)(i j:Int):∃r,eI (some (ib p.1 p.2 c)) i j=some r :=
 F0 h.cl (AG (I7 h.pm c)) (by have:=h.rl;unfold pt;split <;> simp <;> omega) p.2 c.2.1 i j
abbrev dst(c:Wy)(x:List Int)(p:List bB×List Int)(e:Kn)(out:List Ej)(k:Int):(List bB)×Bool×Int×Int×Int×Int×Int×(Option Nat)×(List Int)×(List bB)×(List Int)×(Option ((List bB×List Int)×(List bB×List (List Int))))×Kn×(List Ej)×Int :=
 ((LF p.1 p.2 c).1,(LF p.1 p.2 c).2,c.1,c.2.1,c.2.2.1,c.2.2.2.1,c.2.2.2.2.1,c.2.2.2.2.2,x,p.1,p.2,some (ib p.1 p.2 c),e,out,k)
def HZ(s:xS):Prop:=0≤s.1∧s.1≤3∧Bytes s.2.1.2.2
theorem kq(i j:Int):cq (.int .i64) i j=decide (i=j):=rfl
theorem MO:¬(0:Int)=1:=by decide
theorem MS:¬(0:Int)=2:=by decide
theorem Li:¬(1:Int)=2:=by decide
theorem Mx:¬(0:Int)=3:=by decide
theorem Ls:¬(1:Int)=3:=by decide
theorem MX:¬(2:Int)=3:=by decide
theorem HF{b:Option Z1}(hb:Ia b){c:Wy}{x:List Int}{p:List bB×List Int}{D:Kn}(h:xR c x p D){s:xS}(M:HZ s):
  ∃C E m f a,xR C E m f∧a.2.2.2.1.length≤100000∧(2≤s.1→C=c∧E=x∧m=p∧f=D) ∧
   ∀ {l:List xS} {out:List Ej} {k:Nat},k<l.length→out.length≤1000→l.length≤1000→l.getD k F6=s→aV l b (dst c x p D out (k:Int))=some (.inl (dst C E m f (out++[a]) ((k+1:Nat):Int))):=by
 have pre:∀ {l:List xS} {out:List Ej} {k:Nat},k<l.length→out.length≤1000→l.length≤1000→(k:Int)<(l.length:Int)∧0≤(k:Int)∧(∀a:Ej,(out.length+([a]:List Ej).length)*64≤140737488355328∧out.length+([a]:List Ej).length≤9223372036854775807)∧i64.wrap ((k:Int)+1)=((k+1:Nat):Int):=fun {l out k} q u hl =>
  ⟨by omega,by omega,fun a=>by simp only[List.length_singleton];omega,bj (i:=k) (by omega)⟩
 obtain⟨R,V,N⟩:=M;rcases(show s.1=0∨s.1=1∨s.1=2∨s.1=3 by omega)with e | e | e | e
 ·obtain⟨code,E,m,f,v,I⟩:=IU hb h s.2.1.1 s.2.1.2.1 N;obtain⟨r,z,A⟩:=lR I b;refine⟨c,E,m,f,(code,(0,0),0,r,(LF m.1 m.2 c).2),I,z,fun O=>by omega,fun {l out k} q u hl j=> ?_⟩;obtain⟨B,g2,g3,w⟩:=pre q u hl;simp only[aV,dst,B,g2,and_self,decide_true,if_true,Int.toNat_natCast,j,w];simp only[e,kq 0 0,decide_true,if_true];unfold gm;simp only[v,Option.bind_some,A,g3,and_self,if_true]
 ·obtain⟨code,C,m,f,v,I⟩:=Iw hb h s.2.2.1;obtain⟨r,z,A⟩:=lR I b;refine⟨C,x,m,f,(code,(0,0),0,r,(LF m.1 m.2 C).2),I,z,fun O=>by omega,fun {l out k} q u hl j=> ?_⟩;obtain⟨B,g2,g3,w⟩:=pre q u hl;simp only[aV,dst,B,g2,and_self,decide_true,if_true,Int.toNat_natCast,j,w];simp only[e,kq 0 1,kq 1 1,MO,decide_false,decide_true,Bool.false_eq_true,if_false,if_true];unfold fQ;simp only[v,Option.bind_some,A,g3,and_self,if_true]
 ·obtain⟨⟨J,L⟩,v⟩:=LL h s.2.2.2.1 s.2.2.2.2.1;obtain⟨r,z,A⟩:=lR h b;refine⟨c,x,p,D,(L,(J.1,J.2),0,r,(LF p.1 p.2 c).2),h,z,fun _=>⟨rfl,rfl,rfl,rfl⟩,fun {l out k} q u hl j=> ?_⟩;obtain⟨B,g2,g3,w⟩:=pre q u hl;simp only[aV,dst,B,g2,and_self,decide_true,if_true,Int.toNat_natCast,j,w];simp only[e,kq 0 2,kq 1 2,kq 2 2,MS,Li,decide_false,decide_true,Bool.false_eq_true,if_false,if_true];unfold fS fX;simp only[v,Option.bind_some,A,g3,and_self,if_true]
 ·obtain⟨⟨J,L⟩,v⟩:=Me h s.2.2.2.2.2.1 s.2.2.2.2.2.2;obtain⟨r,z,A⟩:=lR h b;refine⟨c,x,p,D,(L,(0,0),J,r,(LF p.1 p.2 c).2),h,z,fun _=>⟨rfl,rfl,rfl,rfl⟩,fun {l out k} q u hl j=> ?_⟩;obtain⟨B,g2,g3,w⟩:=pre q u hl;simp only[aV,dst,B,g2,and_self,decide_true,if_true,Int.toNat_natCast,j,w];simp only[e,kq 0 3,kq 1 3,kq 2 3,kq 3 3,Mx,Ls,MX,decide_false,decide_true,Bool.false_eq_true,if_false,if_true];unfold ga gr;simp only[v,Option.bind_some,A,g3,and_self,if_true]
theorem Ek{b:Option Z1}(hb:Ia b){l:List xS}{c:Wy}{x:List Int}{p:List bB×List Int}{q:Kn}(h:xR c x p q){out:List Ej}{k:Nat}(u:k<l.length)(v:out.length≤1000)(hl:l.length≤1000)(z:HZ (l.getD k F6)):
  ∃f j m e a,aV l b (dst c x p q out (k:Int))=some (.inl (dst f j m e (out++[a]) ((k+1:Nat):Int)))∧xR f j m e∧a.2.2.2.1.length≤100000:=by
 obtain⟨f,j,m,e,a,A,B,-,C⟩:=HF hb h z;exact⟨f,j,m,e,a,C u v hl rfl,A,B⟩
end
end Go.Proofs.YtmcemnfjddoejaaGreatDoor.T
namespace Go.Proofs.YtmcemnfjddoejaaGreatDoor.T
open Go Go.Tv Go.Proofs
open Go.IntKind (i64 u64)
noncomputable section
theorem Ij{l:List xS}{n k:Nat}(v:n≤l.length)(f:k<n)(b:Option Z1)(c:Wy)(x:List Int)(p:List bB×List Int)(e:Kn)(out:List Ej):aV (l.take n) b (dst c x p e out (k:Int))=aV l b (dst c x p e out (k:Int)):=by
 have j:(k:Int)<((l.take n).length:Int):=by rw[List.length_take];omega
 have m:(k:Int)<(l.length:Int):=by omega
 have q:0≤(k:Int):=by omega
 have u:(l.take n).getD k F6=l.getD k F6:=by rw[List.getD_eq_getElem?_getD,List.getD_eq_getElem?_getD,List.getElem?_take_of_lt f]
 simp only[aV,dst,j,m,q,and_self,decide_true,if_true,Int.toNat_natCast,u]
theorem Gy{l:List xS}(b:Option Z1)(c:Wy)(x:List Int)(p:List bB×List Int)(e:Kn)(out:List Ej):aV l b (dst c x p e out (l.length:Int))=some (.inr (.inl out)):=by
 have q:¬((l.length:Int)<(l.length:Int)):=Int.lt_irrefl _;simp only[aV,dst,q,decide_false,Bool.false_eq_true,if_false]
theorem runs{b:Option Z1}(hb:Ia b){l:List xS}{n:Nat}(z:n≤l.length)(hl:l.length≤64)(A:∀i,i<l.length→HZ (l.getD i F6)){m:Wy}{q:List Int}{u:List bB×List Int}{e:Kn}(B:xR m q u e):
  ∀k:Nat,k≤n→∃c x p f out,iter (aV l b) (dst m q u e [] ((0:Nat):Int))=iter (aV l b) (dst c x p f out (k:Int))∧iter (aV (l.take n) b) (dst m q u e [] ((0:Nat):Int))=iter (aV (l.take n) b) (dst c x p f out (k:Int))∧xR c x p f∧out.length=k∧∀a∈out,a.2.2.2.1.length≤100000
 | 0,_=>⟨m,q,u,e,[],rfl,rfl,B,rfl,fun a ha=>by cases ha⟩
 | k+1,R=>by
  obtain⟨c,x,p,f,out,D,E,h,I,ha⟩:=runs hb z hl A B k (by omega);obtain⟨J,L,M,v,a,C,N,O⟩:=Ek hb h (l:=l) (k:=k) (by omega) (out:=out) (by omega) (by omega) (A k (by omega));refine⟨J,L,M,v,out++[a],?_,?_,N,by simp[I],fun y j=> ?_⟩
  ·rw[D,dE C]
  ·rw[E,dE ((Ij z (by omega) b c x p f out).trans C)]
  ·rcases List.mem_append.1 j with j | j
   ·exact ha y j
   ·rw[List.mem_singleton.1 j];exact O
theorem HD{b:Option Z1}(hb:Ia b){l:List xS}(hl:l.length≤64)(z:∀i,i<l.length→HZ (l.getD i F6)){n:Nat}{c:Wy}{x:List Int}{p:List bB×List Int}{f:Kn}(h:xR c x p f){out:List Ej}(A:out.length=n):
  ∀j:Nat,n+j≤l.length→∃m q u e r,iter (aV l b) (dst c x p f out (n:Int))=iter (aV l b) (dst m q u e (out++r) ((n+j:Nat):Int))∧xR m q u e∧r.length=j
 | 0,_=>⟨c,x,p,f,[],by rw[List.append_nil];rfl,h,rfl⟩
 | j+1,M=>by
  obtain⟨m,q,u,e,r,B,h',C⟩:=HD hb hl z h A j (by omega);obtain⟨D,E,I,v,a,J,L,N⟩:=Ek hb h' (l:=l) (k:=n+j) (by omega) (out:=out++r) (by simp only[List.length_append];omega) (by omega) (z (n+j) (by omega));refine⟨D,E,I,v,r++[a],?_,L,by simp[C]⟩;rw[B,dE J,List.append_assoc];rfl
theorem ER:mz=some ():=rfl
theorem LH{t:List Int}(E:Bytes t)(I:t.length≤4096){c:Wy}(k:cU c.1 c.2.1 c.2.2.1 c.2.2.2.1 c.2.2.2.2.1 c.2.2.2.2.2=some true){l:List xS}{n:Nat}(J:n≤l.length)(hl:l.length≤64)(B:∀i,i<l.length→HZ (l.getD i F6)):
  ∃A r:List Ej,g8 [] fW iG [] Dc DR [] 2 2 c.1 c.2.1 c.2.2.1 c.2.2.2.1 c.2.2.2.2.1 c.2.2.2.2.2 t l=some (A++r,0,0)∧g8 [] fW iG [] Dc DR [] 2 2 c.1 c.2.1 c.2.2.1 c.2.2.2.1 c.2.2.2.2.1 c.2.2.2.2.2 t (l.take n)=some (A,0,0) ∧
   A.length=n∧(A++r).length=l.length∧∀a∈A,a.2.2.2.1.length≤100000:=by
 obtain⟨b,e,hb⟩:=HO;rcases L0 hb (c:=c) E (by omega)with⟨C,-⟩ | ⟨-,⟨q3,-⟩ | ⟨-,p,j,D,L⟩⟩
 ·rw[k]at C;cases C
 ·omega
 obtain⟨M,N,O,q,A,R,V,X,hA,u⟩:=runs hb J hl B L n (Nat.le_refl _);obtain⟨Y,Z,p2,v,r,e3,h2,hr⟩:=HD hb hl B X hA (l.length - n) (by omega);have f:(l.take n).length=n:=by rw[List.length_take];omega
 have f1:iter (aV l b) (dst c t p j [] ((0:Nat):Int))=some (.inl (A++r)):=by rw[R,e3,show n+(l.length - n)=l.length by omega];exact bM (Gy b Y Z p2 v (A++r))
 have f2:iter (aV (l.take n) b) (dst c t p j [] ((0:Nat):Int))=some (.inl A):=by rw[V];refine bM ?_;have:=Gy (l:=l.take n) b M N O q A;rw[f]at this;exact this
 refine⟨A,r,?_,?_,hA,by simp only[List.length_append];omega,u⟩
 ·unfold g8;rw[if_neg (by rw[decide_eq_true_eq];omega),e];simp only[Option.bind_some,bne_self_eq_false,Bool.false_eq_true,if_false,D,ER];have x:iter (aV l b) ((LF p.1 p.2 c).1,(LF p.1 p.2 c).2,c.1,c.2.1,c.2.2.1,c.2.2.2.1,c.2.2.2.2.1,c.2.2.2.2.2,t,p.1,p.2,some (ib p.1 p.2 c),j,([]:List Ej),0)=some (.inl (A++r)):=f1;rw[x];rfl
 ·unfold g8;rw[if_neg (by rw[decide_eq_true_eq,f];omega),e];simp only[Option.bind_some,bne_self_eq_false,Bool.false_eq_true,if_false,D,ER];have z:iter (aV (l.take n) b) ((LF p.1 p.2 c).1,(LF p.1 p.2 c).2,c.1,c.2.1,c.2.2.1,c.2.2.2.1,c.2.2.2.2.1,c.2.2.2.2.2,t,p.1,p.2,some (ib p.1 p.2 c),j,([]:List Ej),0)=some (.inl A):=f2;rw[z];rfl
theorem Dw{b k:Option Z1}(h:∀x,aM b x=aM k x)(m p q u v z A B C D E I J L c e f j M):dq m p q u v z A B b C D E I J L c e f j M=dq m p q u v z A B k C D E I J L c e f j M:=by
 unfold dq;simp only[tL h]
theorem G1{b c:Option Z1}(h:∀x,aM b x=aM c x)(l:List xS):aV l b=aV l c:=by
 funext s;unfold aV gm fQ fS ga bT fX gr;simp only[C4 h,Dw h]
theorem IT:dX=some true:=by
 obtain⟨b,e,hb⟩:=HO;unfold dX g8;rw[Ho];simp only[Option.bind_some,e,Fs hb,G1 hb];kernel_rfl
end
end Go.Proofs.YtmcemnfjddoejaaGreatDoor.T
