/- Floats that are no less than nothing. -/
import Derived.Test.YtbedjpdfkmfplaaGreatDoorTvSdm
import Derived.Test.YtbedjpdfkmfplaaGreatDoorTv21im
namespace Go.Tv
open Go
def FP(a:Option Nat):Prop:=∀n,a=some n→n<9223372036854775808
theorem FP.abs(a:Option Nat):FP (S2 a):=fun n h=>by
 cases a with
 | none=>cases h
 | some b=>cases h;exact Nat.mod_lt _ (by decide)
theorem T2{n:Nat}(h:n<9223372036854775808):(∃m i,FloatKind.f64.format.read n = .number false m i)∨FloatKind.f64.format.read n = .infinity false∨∃t,FloatKind.f64.format.read n = .nan false t:=by
 have hs:FloatKind.f64.format.signWeight=9223372036854775808:=rfl
 have e:(n / FloatKind.f64.format.signWeight % 2 == 1)=false:=by rw[hs,Nat.div_eq_of_lt h];rfl
 unfold Ieee.Format.read
 simp only[e]
 split
 ·exact .inl ⟨_,_,rfl⟩
 ·split
  ·exact .inl ⟨_,_,rfl⟩
  ·split
   ·exact .inr (.inl rfl)
   ·exact .inr (.inr ⟨_,rfl⟩)
theorem aGF(m:Nat)(i:Int):FloatKind.f64.format.write (.number false m i)<9223372036854775808:=by
 have hi:FloatKind.f64.format.infRung=9218868437227405312:=by decide
 have hw:∀r,r≤FloatKind.f64.format.infRung→FloatKind.f64.format.word false r<9223372036854775808:=fun r hr=>by
  rw[hi]at hr
  unfold Ieee.Format.word
  simp
  omega
 show FloatKind.f64.format.nearest false m i<_
 unfold Ieee.Format.nearest
 split
 ·exact hw 0 (Nat.zero_le _)
 ·exact hw _ (Nat.min_le_right _ _)
theorem aBa:FloatKind.f64.format.write (.infinity false)<9223372036854775808:=by decide
theorem FP.mul{a b:Option Nat}(ha:FP a)(hb:FP b):FP (cC .mul a b):=fun n h=>by
 cases a with
 | none=>cases h
 | some x =>
  cases b with
  | none=>cases h
  | some y =>
   have h1:=T2 (ha x rfl)
   have h2:=T2 (hb y rfl)
   simp only[cC,fOp,Ieee.Format.mul]at h
   have key:∀d,(FloatKind.f64.format.read x).product (FloatKind.f64.format.read y)=some d→FloatKind.f64.format.write d<9223372036854775808:=fun d hd=>by
    rcases h1 with⟨m1,i1,h1⟩ | h1 | ⟨t1,h1⟩ <;> rcases h2 with⟨m2,i2,h2⟩ | h2 | ⟨t2,h2⟩ <;> rw[h1,h2]at hd <;> simp only[Ieee.Datum.product]at hd
    all_goals first
     | (cases hd;first | exact aGF _ _ | exact aBa)
     | (split at hd <;> cases hd;exact aBa)
     | cases hd
   cases hp:(FloatKind.f64.format.read x).product (FloatKind.f64.format.read y)with
   | none=>rw[hp]at h;cases h
   | some d =>
    rw[hp]at h
    simp only[Option.map_some,Option.bind_some]at h
    rw[lR h]
    exact key d hp
theorem aHt(n d B:Nat)(h:n<B*2 ^ d):Ieee.Toward.cut .zero false n d≤B:=by
 unfold Ieee.Toward.cut
 simp only[Bool.toNat_false,Nat.add_zero,Nat.one_shiftLeft]
 rcases Nat.le_total d (n.log2+2)with hd | hd
 ·rw[Nat.min_eq_left hd]
  exact Nat.le_of_lt (Nat.div_lt_of_lt_mul (by rw[Nat.mul_comm];exact h))
 ·rw[Nat.min_eq_right hd]
  have h1:n<2 ^ (n.log2+2):=by
   by_cases h0:n=0
   ·subst h0;exact Nat.two_pow_pos _
   ·have:=(Nat.log2_lt h0 (k:=n.log2+2)).1 (by omega)
    exact this
  rw[Nat.div_eq_of_lt h1]
  exact Nat.zero_le _
theorem FP.int{a:Option Nat}(ha:FP a){c B k:Nat}(hc:FloatKind.f64.format.read c = .number false (B*2 ^ k) (-(k:Int)))(h:fLt a (some c)=true):
  ∃n:Nat,sZ a=some (n:Int)∧n≤B:=by
 cases a with
 | none=>simp[fLt,L5]at h
 | some x =>
  simp only[fLt,L5,Ieee.Format.order,hc]at h
  rcases T2 (ha x rfl)with⟨m,i,h1⟩ | h1 | ⟨t,h1⟩
  ·rw[h1]at h
   refine⟨Ieee.Toward.cut .zero false (m <<< i.toNat) (-i).toNat,?_,aHt _ _ _ ?_⟩
   ·unfold sZ
    simp only[Option.bind_some,FloatKind.decode,h1]
    rfl
   ·simp only[Ieee.Datum.order,Ieee.signed,Bool.false_eq_true,if_false,beq_iff_eq,Option.some.injEq]at h
    have h':(m <<< (i - min i (-(k:Int))).toNat)<((B*2 ^ k) <<< (-(k:Int) - min i (-(k:Int))).toNat):=by
     rw[Int.compare_eq_lt]at h
     exact_mod_cast h
    simp only[Nat.shiftLeft_eq]at h' ⊢
    rcases Int.le_total 0 i with hi | hi
    ·obtain⟨j,rfl⟩:∃j:Nat,i=(j:Int):=⟨i.toNat,by omega⟩
     rw[show((j:Int) - min (j:Int) (-(k:Int))).toNat=j+k by omega,show(-(k:Int) - min (j:Int) (-(k:Int))).toNat=0 by omega,Nat.pow_add,←Nat.mul_assoc,Nat.pow_zero,Nat.mul_one]at h'
     rw[show((j:Int)).toNat=j by omega,show(-(j:Int)).toNat=0 by omega,Nat.pow_zero,Nat.mul_one]
     exact Nat.lt_of_mul_lt_mul_right h'
    ·obtain⟨j,rfl⟩:∃j:Nat,i = -(j:Int):=⟨(-i).toNat,by omega⟩
     rw[show(-(j:Int)).toNat=0 by omega,show(-(-(j:Int))).toNat=j by omega,Nat.pow_zero,Nat.mul_one]
     rcases Nat.le_total j k with hjk | hjk
     ·rw[show(-(j:Int) - min (-(j:Int)) (-(k:Int))).toNat=k - j by omega,show(-(k:Int) - min (-(j:Int)) (-(k:Int))).toNat=0 by omega,Nat.pow_zero,Nat.mul_one,show(2:Nat) ^ k=2 ^ j*2 ^ (k - j) by rw[←Nat.pow_add];congr 1;omega,←Nat.mul_assoc]at h'
      exact Nat.lt_of_mul_lt_mul_right h'
     ·rw[show(-(j:Int) - min (-(j:Int)) (-(k:Int))).toNat=0 by omega,show(-(k:Int) - min (-(j:Int)) (-(k:Int))).toNat=j - k by omega,Nat.pow_zero,Nat.mul_one,Nat.mul_assoc,←Nat.pow_add,show k+(j - k)=j by omega]at h'
      exact h'
  ·rw[h1]at h
   simp[Ieee.Datum.order]at h
  ·rw[h1]at h
   simp[Ieee.Datum.order]at h
end Go.Tv
namespace Go.Proofs.YtbedjpdfkmfplaaGreatDoor.T
open Go Go.Tv Go.Proofs
noncomputable section
theorem aEk(r:Option Nat):∃b:Int,jE r=some b∧0≤b∧b≤10000:=by
 have hmax:eK 4666723172467343360=some 4666723172467343360:=by decide
 have hread:FloatKind.f64.format.read 4666723172467343360 = .number false (10000*2 ^ 39) (-((39:Nat):Int)):=by decide
 have hfp:FP (cC .mul (cC .mul (cC .mul (eK 4636737291354636288) (S2 r)) (S2 r)) (S2 r)) :=
  FP.mul (FP.mul (FP.mul (fun n h=>by rw[lR h];decide) (FP.abs r)) (FP.abs r)) (FP.abs r)
 unfold jE qR X0
 simp only[Option.bind_some]
 generalize (cC .mul (cC .mul (cC .mul (eK 4636737291354636288) (S2 r)) (S2 r)) (S2 r))=x at hfp
 by_cases h1:(!(fEq r r))=true
 ·rw[if_pos h1]
  exact⟨0,rfl,by omega,by omega⟩
 ·rw[if_neg h1,hmax]
  by_cases h2:fLt x (some 4666723172467343360)=true
  ·obtain⟨n,e,hn⟩:=hfp.int hread h2
   rw[if_neg (by simp[h2]),e]
   simp only[Option.isSome,Option.getD]
   rw[if_pos ⟨by first | rfl | trivial,by simp[IntKind.min,IntKind.bits,IntKind.signed];try omega,by simp[IntKind.max,IntKind.bits,IntKind.signed];omega⟩]
   exact⟨n,rfl,by omega,by omega⟩
  ·rw[if_pos (by simp[h2])]
   exact⟨10000,rfl,by omega,by omega⟩
theorem aGO{o:List Int}{fr:Nat}(hf:fr<o.length)(cl:List cV)(e n g:Int)(last:Bool)(c1 c2 c3 c4 c5:Int)(c6:Option Nat):∃v b,gF cl o (fr:Int) e n g last c1 c2 c3 c4 c5 c6=some (v,b):=by
 unfold gF
 split
 ·exact⟨_,_,rfl⟩
 ·have q:0≤(fr:Int)∧(fr:Int)<(o.length:Int):=by omega
  have tail:∀bad:Int,∃v b,(((if(e == (3:Int))=true then(if 0≤(fr:Int)∧(fr:Int)<(o.length:Int)then(if((o.getD (fr:Int).toNat (0:Int)) == (3:Int))=true then some ((IntKind.i64.wrap ((IntKind.i64.wrap ((IntKind.i64.wrap ((IntKind.i64.wrap ((10:Int)+bad))*(IntKind.i64.wrap ((10:Int)+bad))))+c4))+c5)))
    else some ((IntKind.i64.wrap ((IntKind.i64.wrap ((IntKind.i64.wrap ((10:Int)+bad))*(IntKind.i64.wrap ((10:Int)+bad))))+c4))))else none)
    else some ((IntKind.i64.wrap ((IntKind.i64.wrap ((10:Int)+bad))*(IntKind.i64.wrap ((10:Int)+bad))))))).bind fun cost1=>some (cost1,true))=some (v,b):=fun bad=>by
   by_cases he:(e == 3)=true
   ·rw[if_pos he,if_pos q]
    split <;> exact⟨_,_,rfl⟩
   ·rw[if_neg he]
    exact⟨_,_,rfl⟩
  cases last with
  | true=>exact tail 0
  | false =>
   obtain⟨b,hb,-⟩:=aEk (cC .quo (ofInt (IntKind.i64.wrap (c1 - n))) (ofInt g))
   simp only[Bool.not_false,if_true,C3,rT,Option.bind_some]
   by_cases hg:(!(!(fGt (cC .quo (ofInt (IntKind.i64.wrap (c1 - n))) (ofInt g)) c6)))=true
   ·rw[if_pos hg]
    exact⟨_,_,rfl⟩
   ·rw[if_neg hg,hb]
    simp only[Option.bind_some]
    exact tail b
end
end Go.Proofs.YtbedjpdfkmfplaaGreatDoor.T
namespace Go.Proofs.YtbedjpdfkmfplaaGreatDoor.T
open Go Go.Tv Go.Proofs
noncomputable section
abbrev Dt:=Nat→Int×Int×Int
def aV(cl:List cV)(o:List Int)(fr:Nat):Dt:=fun j=>((cl.getD (fr+j) c0).2.2.1,(cl.getD (fr+j) c0).2.2.2,o.getD (fr+j+1) 0)
def lV(x:Int×Int×Int):Bool:=x.2.1 == 1 || (x.2.1 == 0 && x.1 == 0)
def jH(d:Dt)(tab:Int)(a:Nat):Nat→Int
 | 0=>0
 | k+1=>if(d (a+k)).2.1=2 then jH d tab a k+tab - jH d tab a k % tab else jH d tab a k+(d (a+k)).1
def oL(d:Dt)(a:Nat):Nat→Nat
 | 0=>0
 | n+1=>if a<n+1∧lV (d n)=true then oL d a n else n+1
def vF(d:Dt)(tab:Int)(a b:Nat)(e:Int):Int:=jH d tab a (oL d a b - a)+(if e=3 then 1 else 0)
theorem N4(cl:List cV)(o:List Int)(fr:Nat)(tab:Int)(a:Nat):∀k,yJ cl tab (fr+a) k=jH (aV cl o fr) tab a k
 | 0=>rfl
 | k+1=>by
  have e:fr+a+k=fr+(a+k):=by omega
  simp only[yJ,jH,K3,N4 cl o fr tab a k,aV,e]
  rfl
theorem aCu(cl:List cV)(o:List Int)(fr a:Nat):∀b,a≤b→eT cl (fr+a) (fr+b)=fr+oL (aV cl o fr) a b
 | 0,h=>by
  obtain rfl:a=0:=by omega
  cases fr with
  | zero=>rfl
  | succ f=>simp[eT,oL]
 | b+1,h=>by
  have e1:fr+(b+1)=(fr+b)+1:=by omega
  rw[e1]
  simp only[eT,oL]
  by_cases hb:a<b+1
  ·have hh:xV (cl.getD (fr+b) c0)=lV (aV cl o fr b):=rfl
   by_cases he:lV (aV cl o fr b)=true
   ·rw[if_pos ⟨by omega,by rw[hh];exact he⟩,if_pos ⟨hb,he⟩]
    exact aCu cl o fr a b (by omega)
   ·rw[if_neg (fun x=>he (by rw[←hh];exact x.2)),if_neg (fun x=>he x.2)]
    omega
  ·rw[if_neg (fun x=>hb (by omega)),if_neg (fun x=>hb x.1)]
   omega
theorem O4(d:Dt)(a:Nat):∀b,a≤b→a≤oL d a b∧oL d a b≤b
 | 0,h=>by simp only[oL];omega
 | b+1,h=>by
  simp only[oL]
  split
  ·rename_i hh
   have:=O4 d a b (by omega)
   omega
  ·omega
theorem qL(cl:List cV)(o:List Int)(fr:Nat)(tab:Int){a b:Nat}(h:a≤b)(e:Int):Q5 cl tab (fr+a) (fr+b) e=vF (aV cl o fr) tab a b e:=by
 unfold Q5 vF
 have:=O4 (aV cl o fr) a b h
 rw[aCu cl o fr a b h,show fr+oL (aV cl o fr) a b - (fr+a)=oL (aV cl o fr) a b - a by omega,N4 cl o fr]
theorem rD{d d':Dt}{n:Nat}(h:∀j,j<n→d j=d' j)(tab:Int)(a:Nat):∀k,a+k≤n→jH d tab a k=jH d' tab a k
 | 0,_=>rfl
 | k+1,hk=>by
  simp only[jH,rD h tab a k (by omega),h (a+k) (by omega)]
theorem K9{d d':Dt}{n:Nat}(h:∀j,j<n→d j=d' j)(a:Nat):∀b,b≤n→oL d a b=oL d' a b
 | 0,_=>rfl
 | b+1,hb=>by simp only[oL,K9 h a b (by omega),h b (by omega)]
theorem yY{d d':Dt}{n:Nat}(h:∀j,j<n→d j=d' j)(tab:Int){a b:Nat}(hab:a≤b)(hb:b≤n)(e:Int):vF d tab a b e=vF d' tab a b e:=by
 unfold vF
 have:=O4 d' a b hab
 rw[K9 h a b hb,rD h tab a _ (by omega)]
def opR(d:Dt):Nat→Int
 | 0=>0
 | k+1=>(d k).2.2
def tB(d:Dt)(wd tab:Int)(a:Nat):Nat→Nat→Int→Nat→Int→Int×Nat
 | 0,_,best,cut,_=>(best,cut)
 | m+1,k,best,cut,full =>
  let fl:=if lV (d k)=true then full else jH d tab a (k+1 - a)
  if fl > wd then(best,cut)
  else tB d wd tab a m (k+1) (if(d k).2.2≠0∧((d k).2.2≠3∨fl<wd)then((k+1:Nat):Int)else best) (k+1) fl
def nJ(d:Dt)(n:Nat)(wd tab:Int)(a:Nat):Nat×Int :=
 let p:=tB d wd tab a (n - a) a (-1) (a+1) 0
 if 0≤p.1 then(p.1.toNat,opR d p.1.toNat)
 else(p.2,if p.2<n∧opR d p.2=1 then 1 else if p.2=n then opR d n else 4)
def mkL(d:Dt)(tab:Int)(a b:Nat)(e:Int):cV:=((a:Int),((b:Int),(vF d tab a b e,e)))
def iI(d:Dt)(n:Nat)(wd tab:Int):Nat→Nat→List cV
 | 0,_=>[]
 | m+1,a=>if a<n then mkL d tab a (nJ d n wd tab a).1 (nJ d n wd tab a).2::iI d n wd tab m (nJ d n wd tab a).1 else[]
def eE(l:List cV)(by_:Int):List cV:=l.map fun x=>(x.1+by_,(x.2.1+by_,x.2.2))
theorem N2(d:Dt)(wd tab:Int)(a:Nat):∀m k best cut full,a≤k→(best = -1∨((a:Int)<best∧best≤((k+m:Nat):Int)))→a<cut→cut≤max (a+1) (k+m) →
  ((tB d wd tab a m k best cut full).1 = -1∨((a:Int)<(tB d wd tab a m k best cut full).1∧(tB d wd tab a m k best cut full).1≤((k+m:Nat):Int)))∧a<(tB d wd tab a m k best cut full).2∧(tB d wd tab a m k best cut full).2≤max (a+1) (k+m)
 | 0,k,best,cut,full,_,h1,h2,h3=>⟨h1,h2,h3⟩
 | m+1,k,best,cut,full,h0,h1,h2,h3=>by
  simp only[tB]
  generalize (if lV (d k)=true then full else jH d tab a (k+1 - a))=fl
  by_cases hw:fl > wd
  ·rw[if_pos hw]
   exact⟨h1,h2,h3⟩
  ·rw[if_neg hw]
   have:=N2 d wd tab a m (k+1) (if(d k).2.2≠0∧((d k).2.2≠3∨fl<wd)then((k+1:Nat):Int)else best) (k+1) fl (by omega) (by split <;> omega) (by omega) (by omega)
   rw[show k+1+m=k+(m+1) by omega]at this
   exact this
theorem V1(d:Dt){n:Nat}(wd tab:Int){a:Nat}(h:a<n):a<(nJ d n wd tab a).1∧(nJ d n wd tab a).1≤n:=by
 have:=N2 d wd tab a (n - a) a (-1) (a+1) 0 (Nat.le_refl _) (.inl rfl) (by omega) (by omega)
 unfold nJ
 simp only
 split <;> simp only <;> omega
theorem S8{d d':Dt}{n:Nat}(h:∀j,j<n→d j=d' j)(wd tab:Int)(a:Nat):∀m k best cut full,a≤k→k+m≤n→tB d wd tab a m k best cut full=tB d' wd tab a m k best cut full
 | 0,_,_,_,_,_,_=>rfl
 | m+1,k,best,cut,full,h1,h2=>by
  simp only[tB]
  rw[h k (by omega),rD h tab a (k+1 - a) (by omega)]
  generalize (if lV (d' k)=true then full else jH d' tab a (k+1 - a))=fl
  split
  ·rfl
  ·exact S8 h wd tab a m (k+1) _ _ _ (by omega) (by omega)
theorem m6{d d':Dt}{n:Nat}(h:∀j,j<n→d j=d' j):∀ {k:Nat},k≤n→opR d k=opR d' k
 | 0,_=>rfl
 | k+1,hk=>by simp only[opR,h k (by omega)]
theorem aDQ{d d':Dt}{n:Nat}(h:∀j,j<n→d j=d' j)(wd tab:Int){a:Nat}(ha:a<n):nJ d n wd tab a=nJ d' n wd tab a:=by
 have hin:=N2 d' wd tab a (n - a) a (-1) (a+1) 0 (Nat.le_refl _) (.inl rfl) (by omega) (by omega)
 unfold nJ
 rw[S8 h wd tab a (n - a) a (-1) (a+1) 0 (Nat.le_refl _) (by omega)]
 generalize tB d' wd tab a (n - a) a (-1) (a+1) 0=p at hin
 simp only
 by_cases hp:0≤p.1
 ·rw[if_pos hp,if_pos hp,m6 h (k:=p.1.toNat) (by omega)]
 ·rw[if_neg hp,if_neg hp,m6 h (k:=p.2) (by omega),m6 h (Nat.le_refl n)]
theorem zL{d d':Dt}{n:Nat}(h:∀j,j<n→d j=d' j)(wd tab:Int):∀m a,iI d n wd tab m a=iI d' n wd tab m a
 | 0,_=>rfl
 | m+1,a=>by
  simp only[iI]
  by_cases ha:a<n
  ·have:=V1 d' wd tab ha
   rw[if_pos ha,if_pos ha,aDQ h wd tab ha,zL h wd tab m]
   unfold mkL
   rw[yY h tab (Nat.le_of_lt this.1) this.2]
  ·rw[if_neg ha,if_neg ha]
end
end Go.Proofs.YtbedjpdfkmfplaaGreatDoor.T
