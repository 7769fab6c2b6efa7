import Derived.Test.YtbedjpdfkmfplaaGreatDoorTvSdm
import Derived.Test.YtbedjpdfkmfplaaGreatDoorTv31im
namespace Go.Tv
open Go
open Go.IntKind (i64)
def FP(a:QJ):Prop:=∀n,a=some n→n<9223372036854775808
theorem FP.abs(a:QJ):FP (xC a):=fun n h=>by
 cases a with
 | none=>cases h
 | some b=>cases h;exact Nat.mod_lt _ (by decide)
theorem wI{n:Nat}(h:n<9223372036854775808):(∃m i,FloatKind.f64.format.read n = .number false m i)∨FloatKind.f64.format.read n = .infinity false∨∃t,FloatKind.f64.format.read n = .nan false t:=by
 have f:FloatKind.f64.format.signWeight=9223372036854775808:=rfl;have e:(n / FloatKind.f64.format.signWeight % 2 == 1)=false:=by rw[f,Nat.div_eq_of_lt h];rfl
 unfold Ieee.Format.read;simp only[e];split
 ·exact .inl ⟨_,_,rfl⟩
 ·split
  ·exact .inl ⟨_,_,rfl⟩
  ·split
   ·exact .inr (.inl rfl)
   ·exact .inr (.inr ⟨_,rfl⟩)
theorem G6(m:Nat)(i:Int):FloatKind.f64.format.write (.number false m i)<9223372036854775808:=by
 have hi:FloatKind.f64.format.infRung=9218868437227405312:=by decide
 have e:∀r,r≤FloatKind.f64.format.infRung→FloatKind.f64.format.word false r<9223372036854775808:=fun r f=>by
  rw[hi]at f;unfold Ieee.Format.word;simp
  omega
 show FloatKind.f64.format.nearest false m i<_;unfold Ieee.Format.nearest;split
 ·exact e 0 (Nat.zero_le _)
 ·exact e _ (Nat.min_le_right _ _)
theorem zt:FloatKind.f64.format.write (.infinity false)<9223372036854775808:=by decide
theorem FP.mul{a b:QJ}(ha:FP a)(hb:FP b):FP (bX .mul a b):=fun n h=>by
 cases a with
 | none=>cases h
 | some x =>
  cases b with
  | none=>cases h
  | some y =>
   have e:=wI (ha x rfl);have f:=wI (hb y rfl);simp only[bX,NA,Ieee.Format.mul]at h;have key:∀d,(FloatKind.f64.format.read x).product (FloatKind.f64.format.read y)=some d→FloatKind.f64.format.write d<9223372036854775808:=fun d hd=>by
    rcases e with⟨q,u,e⟩ | e | ⟨v,e⟩ <;> rcases f with⟨z,A,f⟩ | f | ⟨B,f⟩ <;> rw[e,f]at hd <;> simp only[Ieee.Datum.product]at hd
    all_goals first
     | (cases hd;first | exact G6 _ _ | exact zt)
     | (split at hd <;> cases hd;exact zt)
     | cases hd
   cases j:(FloatKind.f64.format.read x).product (FloatKind.f64.format.read y)with
   | none=>rw[j]at h;cases h
   | some d =>
    rw[j]at h;simp only[Option.map_some,Option.bind_some]at h;rw[ky h];exact key d j
theorem IH(n d B:Nat)(h:n<B*2 ^ d):Ieee.Toward.cut .zero false n d≤B:=by
 unfold Ieee.Toward.cut;simp only[Bool.toNat_false,Nat.add_zero,Nat.one_shiftLeft];rcases Nat.le_total d (n.log2+2)with hd | hd
 ·rw[Nat.min_eq_left hd];exact Nat.le_of_lt (Nat.div_lt_of_lt_mul (by rw[Nat.mul_comm];exact h))
 ·rw[Nat.min_eq_right hd];have f:n<2 ^ (n.log2+2):=by
   by_cases e:n=0
   ·subst e;exact Nat.two_pow_pos _
   ·have:=(Nat.log2_lt e (k:=n.log2+2)).1 (by omega);exact this
  rw[Nat.div_eq_of_lt f];exact Nat.zero_le _
theorem FP.int{a:QJ}(ha:FP a){c B k:Nat}(D:FloatKind.f64.format.read c = .number false (B*2 ^ k) (-(k:Int)))(h:LL a (some c)=true):
  ∃n:Nat,pf a=some (n:Int)∧n≤B:=by
 cases a with
 | none=>simp[LL,vU]at h
 | some x =>
  simp only[LL,vU,Ieee.Format.order,D]at h;rcases wI (ha x rfl)with⟨m,i,f⟩ | f | ⟨t,f⟩
  ·rw[f]at h;refine⟨Ieee.Toward.cut .zero false (m <<< i.toNat) (-i).toNat,?_,IH _ _ _ ?_⟩
   ·unfold pf;simp only[Option.bind_some,FloatKind.decode,f];rfl
   ·simp only[Ieee.Datum.order,Ieee.signed,Bool.false_eq_true,if_false,beq_iff_eq,Option.some.injEq]at h;have h':(m <<< (i - min i (-(k:Int))).toNat)<((B*2 ^ k) <<< (-(k:Int) - min i (-(k:Int))).toNat):=by
     rw[Int.compare_eq_lt]at h
     exact_mod_cast h
    simp only[Nat.shiftLeft_eq]at h' ⊢;rcases Int.le_total 0 i with hi | hi
    ·obtain⟨j,rfl⟩:∃j:Nat,i=(j:Int):=⟨i.toNat,by omega⟩;rw[show((j:Int) - min (j:Int) (-(k:Int))).toNat=j+k by omega,show(-(k:Int) - min (j:Int) (-(k:Int))).toNat=0 by omega,Nat.pow_add,←Nat.mul_assoc,Nat.pow_zero,Nat.mul_one]at h';rw[show((j:Int)).toNat=j by omega,show(-(j:Int)).toNat=0 by omega,Nat.pow_zero,Nat.mul_one];exact Nat.lt_of_mul_lt_mul_right h'
    ·obtain⟨j,rfl⟩:∃j:Nat,i = -(j:Int):=⟨(-i).toNat,by omega⟩;rw[show(-(j:Int)).toNat=0 by omega,show(-(-(j:Int))).toNat=j by omega,Nat.pow_zero,Nat.mul_one];rcases Nat.le_total j k with z | z
     ·rw[show(-(j:Int) - min (-(j:Int)) (-(k:Int))).toNat=k - j by omega,show(-(k:Int) - min (-(j:Int)) (-(k:Int))).toNat=0 by omega,Nat.pow_zero,Nat.mul_one,show(2:Nat) ^ k=2 ^ j*2 ^ (k - j) by rw[←Nat.pow_add];congr 1;omega,←Nat.mul_assoc]at h';exact Nat.lt_of_mul_lt_mul_right h'
     ·rw[show(-(j:Int) - min (-(j:Int)) (-(k:Int))).toNat=0 by omega,show(-(k:Int) - min (-(j:Int)) (-(k:Int))).toNat=j - k by omega,Nat.pow_zero,Nat.mul_one,Nat.mul_assoc,←Nat.pow_add,show k+(j - k)=j by omega]at h';exact h'
  ·rw[f]at h;simp[Ieee.Datum.order]at h
  ·rw[f]at h;simp[Ieee.Datum.order]at h
end Go.Tv
namespace Go.Proofs.YtbedjpdfkmfplaaGreatDoor.T
open Go Go.Tv Go.Proofs
open Go.IntKind (i64)
noncomputable section
theorem Ff(r:QJ):∃b:Int,iz r=some b∧0≤b∧b≤10000:=by
 have j:dO 4666723172467343360=some 4666723172467343360:=by decide
 have f:FloatKind.f64.format.read 4666723172467343360 = .number false (10000*2 ^ 39) (-((39:Nat):Int)):=by decide
 have q:FP (bX .mul (bX .mul (bX .mul (dO 4636737291354636288) (xC r)) (xC r)) (xC r)) :=
  FP.mul (FP.mul (FP.mul (fun n h=>by rw[ky h];decide) (FP.abs r)) (FP.abs r)) (FP.abs r)
 unfold iz nY yk;simp only[Option.bind_some];generalize (bX .mul (bX .mul (bX .mul (dO 4636737291354636288) (xC r)) (xC r)) (xC r))=x at q;by_cases v:(!(L1 r r))=true
 ·rw[if_pos v];exact⟨0,rfl,by omega,by omega⟩
 ·rw[if_neg v,j];by_cases u:LL x (some 4666723172467343360)=true
  ·obtain⟨n,e,hn⟩:=q.int f u;rw[if_neg (by simp[u]),e];simp only[Option.isSome,Option.getD];rw[if_pos ⟨by first | rfl | trivial,by simp[IntKind.min,IntKind.bits,IntKind.signed];try omega,by simp[IntKind.max,IntKind.bits,IntKind.signed];omega⟩];exact⟨n,rfl,by omega,by omega⟩
  ·rw[if_pos (by simp[u])];exact⟨10000,rfl,by omega,by omega⟩
theorem HM{o:QK}{fr:Nat}(J:fr<o.length)(cl:Qk)(e n g:Int)(last:Bool)(u E I z A:Int)(B:QJ):∃v b,fZ cl o (fr:Int) e n g last u E I z A B=some (v,b):=by
 unfold fZ;split
 ·exact⟨_,_,rfl⟩
 ·have q:0≤(fr:Int)∧(fr:Int)<(o.length:Int):=by omega
  have tail:∀f:Int,∃v b,(((if(e == (3:Int))=true then(if 0≤(fr:Int)∧(fr:Int)<(o.length:Int)then(if((o.getD (fr:Int).toNat (0:Int)) == (3:Int))=true then some ((i64.wrap ((i64.wrap ((i64.wrap ((i64.wrap ((10:Int)+f))*(i64.wrap ((10:Int)+f))))+z))+A)))
    else some ((i64.wrap ((i64.wrap ((i64.wrap ((10:Int)+f))*(i64.wrap ((10:Int)+f))))+z))))else none)
    else some ((i64.wrap ((i64.wrap ((10:Int)+f))*(i64.wrap ((10:Int)+f))))))).bind fun j=>some (j,true))=some (v,b):=fun f=>by
   by_cases C:(e == 3)=true
   ·rw[if_pos C,if_pos q];split <;> exact⟨_,_,rfl⟩
   ·rw[if_neg C];exact⟨_,_,rfl⟩
  cases last with
  | true=>exact tail 0
  | false =>
   obtain⟨b,hb,-⟩:=Ff (bX .quo (ofInt (i64.wrap (u - n))) (ofInt g));simp only[Bool.not_false,if_true,sc,n4,Option.bind_some];by_cases D:(!(!(NU (bX .quo (ofInt (i64.wrap (u - n))) (ofInt g)) B)))=true
   ·rw[if_pos D];exact⟨_,_,rfl⟩
   ·rw[if_neg D,hb];simp only[Option.bind_some];exact tail b
abbrev Dt:=Nat→Int×Int×Int
def aQ(cl:Qk)(o:QK)(fr:Nat):Dt:=fun j=>((cl.getD (fr+j) c0).2.2.1,(cl.getD (fr+j) c0).2.2.2,o.getD (fr+j+1) 0)
def kG(x:Int×Int×Int):Bool:=x.2.1 == 1 || (x.2.1 == 0 && x.1 == 0)
def iR(d:Dt)(e:Int)(a:Nat):Nat→Int
 | 0=>0
 | k+1=>if(d (a+k)).2.1=2 then iR d e a k+e - iR d e a k % e else iR d e a k+(d (a+k)).1
def mz(d:Dt)(a:Nat):Nat→Nat
 | 0=>0
 | n+1=>if a<n+1∧kG (d n)=true then mz d a n else n+1
def pF(d:Dt)(f:Int)(a b:Nat)(e:Int):Int:=iR d f a (mz d a b - a)+(if e=3 then 1 else 0)
theorem wc(cl:Qk)(o:QK)(fr:Nat)(f:Int)(a:Nat):∀k,rF cl f (fr+a) k=iR (aQ cl o fr) f a k
 | 0=>rfl
 | k+1=>by
  have e:fr+a+k=fr+(a+k):=by omega
  simp only[rF,iR,vC,wc cl o fr f a k,aQ,e];rfl
theorem CY(cl:Qk)(o:QK)(e a:Nat):∀b,a≤b→eA cl (e+a) (e+b)=e+mz (aQ cl o e) a b
 | 0,h=>by
  obtain rfl:a=0:=by omega
  cases e with
  | zero=>rfl
  | succ f=>simp[eA,mz]
 | b+1,h=>by
  have u:e+(b+1)=(e+b)+1:=by omega
  rw[u];simp only[eA,mz];by_cases hb:a<b+1
  ·have q:rN (cl.getD (e+b) c0)=kG (aQ cl o e b):=rfl;by_cases j:kG (aQ cl o e b)=true
   ·rw[if_pos ⟨by omega,by rw[q];exact j⟩,if_pos ⟨hb,j⟩];exact CY cl o e a b (by omega)
   ·rw[if_neg (fun x=>j (by rw[←q];exact x.2)),if_neg (fun x=>j x.2)];omega
  ·rw[if_neg (fun x=>hb (by omega)),if_neg (fun x=>hb x.1)];omega
theorem wq(d:Dt)(a:Nat):∀b,a≤b→a≤mz d a b∧mz d a b≤b
 | 0,h=>by simp only[mz];omega
 | b+1,h=>by
  simp only[mz];split
  ·rename_i e;have:=wq d a b (by omega);omega
  ·omega
theorem nh(cl:Qk)(o:QK)(f:Nat)(j:Int){a b:Nat}(h:a≤b)(e:Int):xM cl j (f+a) (f+b) e=pF (aQ cl o f) j a b e:=by
 unfold xM pF;have:=wq (aQ cl o f) a b h;rw[CY cl o f a b h,show f+mz (aQ cl o f) a b - (f+a)=mz (aQ cl o f) a b - a by omega,wc cl o f]
theorem oI{d f:Dt}{n:Nat}(h:∀j,j<n→d j=f j)(e:Int)(a:Nat):∀k,a+k≤n→iR d e a k=iR f e a k
 | 0,_=>rfl
 | k+1,hk=>by
  simp only[iR,oI h e a k (by omega),h (a+k) (by omega)]
theorem vH{d e:Dt}{n:Nat}(h:∀j,j<n→d j=e j)(a:Nat):∀b,b≤n→mz d a b=mz e a b
 | 0,_=>rfl
 | b+1,hb=>by simp only[mz,vH h a b (by omega),h b (by omega)]
theorem sR{d q:Dt}{n:Nat}(h:∀j,j<n→d j=q j)(f:Int){a b:Nat}(u:a≤b)(hb:b≤n)(e:Int):pF d f a b e=pF q f a b e:=by
 unfold pF;have:=wq q a b u;rw[vH h a b hb,oI h f a _ (by omega)]
def yZ(d:Dt):Nat→Int
 | 0=>0
 | k+1=>(d k).2.2
def pg(d:Dt)(j f:Int)(a:Nat):Nat→Nat→Int→Nat→Int→Int×Nat
 | 0,_,e,cut,_=>(e,cut)
 | m+1,k,e,cut,full =>
  let fl:=if kG (d k)=true then full else iR d f a (k+1 - a)
  if fl > j then(e,cut)
  else pg d j f a m (k+1) (if(d k).2.2≠0∧((d k).2.2≠3∨fl<j)then((k+1:Nat):Int)else e) (k+1) fl
def lI(d:Dt)(n:Nat)(f e:Int)(a:Nat):Nat×Int :=
 let p:=pg d f e a (n - a) a (-1) (a+1) 0
 if 0≤p.1 then(p.1.toNat,yZ d p.1.toNat)
 else(p.2,if p.2<n∧yZ d p.2=1 then 1 else if p.2=n then yZ d n else 4)
def Mz(d:Dt)(f:Int)(a b:Nat)(e:Int):cg:=((a:Int),((b:Int),(pF d f a b e,e)))
def gR(d:Dt)(n:Nat)(f e:Int):Nat→Nat→Qk
 | 0,_=>[]
 | m+1,a=>if a<n then Mz d e a (lI d n f e a).1 (lI d n f e a).2::gR d n f e m (lI d n f e a).1 else[]
def dU(l:Qk)(MF:Int):Qk:=l.map fun x=>(x.1+MF,(x.2.1+MF,x.2.2))
theorem vX(d:Dt)(j f:Int)(a:Nat):∀m k e cut full,a≤k→(e = -1∨((a:Int)<e∧e≤((k+m:Nat):Int)))→a<cut→cut≤max (a+1) (k+m) →
  ((pg d j f a m k e cut full).1 = -1∨((a:Int)<(pg d j f a m k e cut full).1∧(pg d j f a m k e cut full).1≤((k+m:Nat):Int)))∧a<(pg d j f a m k e cut full).2∧(pg d j f a m k e cut full).2≤max (a+1) (k+m)
 | 0,k,e,cut,full,_,q,u,v=>⟨q,u,v⟩
 | m+1,k,e,cut,full,A,q,u,v=>by
  simp only[pg];generalize (if kG (d k)=true then full else iR d f a (k+1 - a))=fl;by_cases z:fl > j
  ·rw[if_pos z];exact⟨q,u,v⟩
  ·rw[if_neg z];have:=vX d j f a m (k+1) (if(d k).2.2≠0∧((d k).2.2≠3∨fl<j)then((k+1:Nat):Int)else e) (k+1) fl (by omega) (by split <;> omega) (by omega) (by omega);rw[show k+1+m=k+(m+1) by omega]at this;exact this
theorem yr(d:Dt){n:Nat}(f e:Int){a:Nat}(h:a<n):a<(lI d n f e a).1∧(lI d n f e a).1≤n:=by
 have:=vX d f e a (n - a) a (-1) (a+1) 0 (Nat.le_refl _) (.inl rfl) (by omega) (by omega);unfold lI;simp only;split <;> simp only <;> omega
theorem xY{d q:Dt}{n:Nat}(h:∀j,j<n→d j=q j)(u e:Int)(a:Nat):∀m k f cut full,a≤k→k+m≤n→pg d u e a m k f cut full=pg q u e a m k f cut full
 | 0,_,_,_,_,_,_=>rfl
 | m+1,k,f,cut,full,v,z=>by
  simp only[pg];rw[h k (by omega),oI h e a (k+1 - a) (by omega)];generalize (if kG (q k)=true then full else iR q e a (k+1 - a))=fl;split
  ·rfl
  ·exact xY h u e a m (k+1) _ _ _ (by omega) (by omega)
theorem lz{d e:Dt}{n:Nat}(h:∀j,j<n→d j=e j):∀ {k:Nat},k≤n→yZ d k=yZ e k
 | 0,_=>rfl
 | k+1,hk=>by simp only[yZ,h k (by omega)]
theorem Dw{d q:Dt}{n:Nat}(h:∀j,j<n→d j=q j)(f e:Int){a:Nat}(ha:a<n):lI d n f e a=lI q n f e a:=by
 have hin:=vX q f e a (n - a) a (-1) (a+1) 0 (Nat.le_refl _) (.inl rfl) (by omega) (by omega);unfold lI;rw[xY h f e a (n - a) a (-1) (a+1) 0 (Nat.le_refl _) (by omega)];generalize pg q f e a (n - a) a (-1) (a+1) 0=p at hin;simp only;by_cases u:0≤p.1
 ·rw[if_pos u,if_pos u,lz h (k:=p.1.toNat) (by omega)]
 ·rw[if_neg u,if_neg u,lz h (k:=p.2) (by omega),lz h (Nat.le_refl n)]
theorem sL{d q:Dt}{n:Nat}(h:∀j,j<n→d j=q j)(f e:Int):∀m a,gR d n f e m a=gR q n f e m a
 | 0,_=>rfl
 | m+1,a=>by
  simp only[gR];by_cases ha:a<n
  ·have:=yr q f e ha;rw[if_pos ha,if_pos ha,Dw h f e ha,sL h f e m];unfold Mz;rw[sR h e (Nat.le_of_lt this.1) this.2]
  ·rw[if_neg ha,if_neg ha]
def vP(fr:Nat)(b:Int):Int:=if b<0 then -1 else b+(fr:Int)
theorem Fm(cl:Qk)(o:QK)(fr j:Nat):o.getD (fr+j+1) 0=(aQ cl o fr j).2.2:=rfl
theorem FF{cl:Qk}(v:Fb cl){o:QK}(Z:o.length=cl.length+1){e n:Nat}(hn:e+n≤cl.length)(q:Int){f:Int}(E:1≤f)(I:f≤64)(a:Nat):∀m k j cut full,k+m=n→a≤k →
  iter (hY cl o ((e+n:Nat):Int) q f) (vP e j,((e+cut:Nat):Int),iR (aQ cl o e) f a (k - a),full,((e+k+1:Nat):Int)) =
   some (vP e (pg (aQ cl o e) q f a m k j cut full).1,((e+(pg (aQ cl o e) q f a m k j cut full).2:Nat):Int))
 | 0,k,j,cut,full,hk,ha=>by
  have C:¬(((e+k+1:Nat):Int)≤((e+n:Nat):Int)):=by omega
  exact dP (by simp only[hY,C,decide_false,Bool.false_eq_true,if_false,pg])
 | m+1,k,j,cut,full,hk,ha=>by
  have hl:=v.1;have z:=wc cl o e f a;obtain⟨b0,b1⟩:=sN v E I (e+a) (k - a) (by omega);obtain⟨J,-,-⟩:=wj (c:=cl.getD (e+k) c0) b0 (by omega) E I (v.2 _).1 (v.2 _).2;have L:vC (cl.getD (e+k) c0) (rF cl f (e+a) (k - a)) f=iR (aQ cl o e) f a (k+1 - a):=by rw[←z,show k+1 - a=(k - a)+1 by omega];simp only[rF];rw[show e+a+(k - a)=e+k by omega]
  rw[L,z]at J;obtain⟨O,-,-⟩:=sP (cl:=cl) o (show e+k≤e+k+1 by omega) (by omega) (by omega);have e3:=FZ cl (o:=o) (i:=e+k+1) (by omega);have C:((e+k+1:Nat):Int)≤((e+n:Nat):Int):=by omega
  have V:i64.wrap (((e+k+1:Nat):Int) - 1)=((e+k:Nat):Int):=l9 (by omega);have X:0≤((e+k:Nat):Int):=by omega
  have Y:((e+k:Nat):Int)<(cl.length:Int):=by omega
  have q5:i64.wrap (((e+k+1:Nat):Int)+1)=((e+(k+1)+1:Nat):Int):=bF (by omega);have ht:(((eA cl (e+k) (e+k+1):Nat):Int) == ((e+k+1:Nat):Int)) = !(kG (aQ cl o e k)):=by
   have hh:rN (cl.getD (e+k) c0)=kG (aQ cl o e k):=rfl;have:=(sP (cl:=cl) o (show e+k≤e+k by omega) (by omega) (by omega)).2.2;simp only[eA];rw[hh];cases he:kG (aQ cl o e k)with
   | true =>
    rw[if_pos ⟨by omega,rfl⟩,Bool.not_true,beq_eq_false_iff_ne];omega
   | false =>rw[if_neg (fun x=>by cases x.2)];simp
  have u:(if(((eA cl (e+k) (e+k+1):Nat):Int) == ((e+k+1:Nat):Int))=true then some (iR (aQ cl o e) f a (k+1 - a))else some full)=some (if kG (aQ cl o e k)=true then full else iR (aQ cl o e) f a (k+1 - a)):=by rw[ht];cases kG (aQ cl o e k) <;> rfl
  have M:pg (aQ cl o e) q f a (m+1) k j cut full=(if(if kG (aQ cl o e k)=true then full else iR (aQ cl o e) f a (k+1 - a)) > q then(j,cut)
    else pg (aQ cl o e) q f a m (k+1) (if(aQ cl o e k).2.2≠0∧((aQ cl o e k).2.2≠3∨(if kG (aQ cl o e k)=true then full else iR (aQ cl o e) f a (k+1 - a))<q)then((k+1:Nat):Int)else j) (k+1) (if kG (aQ cl o e k)=true then full else iR (aQ cl o e) f a (k+1 - a))):=rfl
  rw[M];generalize (if kG (aQ cl o e k)=true then full else iR (aQ cl o e) f a (k+1 - a))=fl at u;by_cases D:fl > q
  ·rw[if_pos D];refine dP ?_;simp only[hY,C,V,X,Y,J,O,and_self,decide_true,if_true,Option.bind,Int.toNat_natCast];rw[u];simp only[D,decide_true,if_true]
  ·rw[if_neg D,←FF v Z hn q E I a m (k+1) _ (k+1) fl (by omega) (by omega)];refine gA ?_;have hb:((if(o.getD (e+k+1) 0 != 0)=true then(if(o.getD (e+k+1) 0 != 3)=true then some true else some (decide (fl<q)))else some false).bind fun N=>(if N=true then some ((e+k+1:Nat):Int)else some (vP e j))) =
     some (vP e (if(aQ cl o e k).2.2≠0∧((aQ cl o e k).2.2≠3∨fl<q)then((k+1:Nat):Int)else j)):=by
    rw[Fm cl o e k];have A:vP e ((k+1:Nat):Int)=((e+k+1:Nat):Int):=by unfold vP;rw[if_neg (by omega)];omega
    by_cases B:(aQ cl o e k).2.2=0
    ·rw[if_neg (c:=(aQ cl o e k).2.2≠0∧_) (fun x=>x.1 B),if_neg (by simp[B])];rfl
    ·rw[if_pos (c:=((aQ cl o e k).2.2 != 0)=true) (by simpa using B)];by_cases g2:(aQ cl o e k).2.2=3
     ·rw[if_neg (c:=((aQ cl o e k).2.2 != 3)=true) (by simp[g2])];by_cases g3:fl<q
      ·rw[if_pos (c:=(aQ cl o e k).2.2≠0∧_) ⟨B,.inr g3⟩,decide_eq_true g3,A];rfl
      ·rw[if_neg (c:=(aQ cl o e k).2.2≠0∧_) (fun x=>x.2.elim (fun y=>y g2) g3),decide_eq_false g3];rfl
     ·rw[if_pos (c:=((aQ cl o e k).2.2 != 3)=true) (by simpa using g2),if_pos (c:=(aQ cl o e k).2.2≠0∧_) ⟨B,.inl g2⟩,A];rfl
   simp only[hY,C,V,X,Y,J,O,and_self,decide_true,if_true,Option.bind_some,Int.toNat_natCast];rw[u];simp only[D,decide_false,Bool.false_eq_true,if_false,e3,Option.bind_some,q5];rw[←Option.bind_assoc,hb];rfl
theorem np(cl:Qk)(o:QK)(e:Nat){k:Nat}(h:0<k):o.getD (e+k) 0=yZ (aQ cl o e) k:=by
 cases k with
 | zero=>omega
 | succ k=>rfl
theorem BF{cl:Qk}(v:Fb cl){o:QK}(J:o.length=cl.length+1){e n:Nat}(hn:e+n≤cl.length)(u:Int){f:Int}(z:1≤f)(A:f≤64)(L M N:Int)(O:QJ){a:Nat}(ha:a<n):
  nv cl o ((e+a:Nat):Int) ((e+n:Nat):Int) u f L M N O =
   some (((e+a:Nat):Int),(((e+(lI (aQ cl o e) n u f a).1:Nat):Int),(pF (aQ cl o e) f a (lI (aQ cl o e) n u f a).1 (lI (aQ cl o e) n u f a).2,(lI (aQ cl o e) n u f a).2))):=by
 have hl:=v.1;have V:i64.wrap (((e+a:Nat):Int)+1)=((e+a+1:Nat):Int):=bF (by omega);have B:=FF v J hn u z A a (n - a) a (-1) (a+1) 0 (by omega) (Nat.le_refl _);have hin:=vX (aQ cl o e) u f a (n - a) a (-1) (a+1) 0 (Nat.le_refl _) (.inl rfl) (by omega) (by omega);rw[Nat.sub_self]at B;simp only[iR]at B;unfold nv;have q:vP e (-1) = -1:=rfl;rw[q,show e+(a+1)=e+a+1 by omega]at B;rw[V,B,Option.bind_some];unfold lI;generalize pg (aQ cl o e) u f a (n - a) a (-1) (a+1) 0=p at hin;obtain⟨j,cut⟩:=p;simp only at hin ⊢;obtain⟨hb,X,Y⟩:=hin;by_cases E:0≤j
 ·obtain⟨b,rfl⟩:∃b:Nat,j=(b:Int):=⟨j.toNat,by omega⟩;have q:vP e (b:Int)=((e+b:Nat):Int):=by unfold vP;rw[if_neg (by omega)];omega
  rw[if_pos (c:=(0:Int)≤_) E,q,Int.toNat_natCast];rw[if_pos (by rw[decide_eq_true_eq];omega),if_pos (by omega),Int.toNat_natCast,tn v o z A (by omega) (by omega),nh cl o e f (by omega),np cl o e (by omega)];rfl
 ·have C:j = -1:=by omega
  subst C;rw[if_neg (c:=(0:Int)≤_) E,q,if_neg (by decide)];have Z:cut≤n:=by omega
  by_cases I:cut=n
  ·subst I;rw[if_pos (by simp),if_pos (by omega),Int.toNat_natCast];simp only[Option.bind_some,Int.lt_irrefl,decide_false,Bool.false_eq_true,if_false,Nat.lt_irrefl,false_and,if_true];rw[tn v o z A (by omega) (by omega),nh cl o e f (by omega),np cl o e (by omega)];rfl
  ·have h2:((((e+cut:Nat):Int)) == ((e+n:Nat):Int))=false:=by rw[beq_eq_false_iff_ne];omega
   have h3:((e+cut:Nat):Int)<((e+n:Nat):Int):=by omega
   have h4:cut<n:=by omega
   simp only[h2,Bool.false_eq_true,if_false,Option.bind_some,h3,decide_true,if_true,h4,true_and,I];rw[if_pos (c:=0≤((e+cut:Nat):Int)∧_) (by omega),Int.toNat_natCast,np cl o e (by omega)];by_cases D:yZ (aQ cl o e) cut=1
   ·simp only[D,Option.bind_some,if_true,BEq.rfl];rw[tn v o z A (by omega) (by omega),nh cl o e f (by omega)];rfl
   ·have h6:(yZ (aQ cl o e) cut == 1)=false:=by rw[beq_eq_false_iff_ne];exact D
    simp only[D,h6,Option.bind_some,if_false,Bool.false_eq_true];rw[tn v o z A (by omega) (by omega),nh cl o e f (by omega)];rfl
theorem Gh(d:Dt)(j:Int)(a b f:Nat)(e:Int):dU [Mz d j a b e] (f:Int)=[(((f+a:Nat):Int),(((f+b:Nat):Int),(pF d j a b e,e)))]:=by
 simp only[dU,Mz,List.map_cons,List.map_nil];rw[show(a:Int)+(f:Int)=((f+a:Nat):Int) by omega,show(b:Int)+(f:Int)=((f+b:Nat):Int) by omega]
theorem zj{cl:Qk}(B:Fb cl){o:QK}(C:o.length=cl.length+1){e n:Nat}(hn:e+n≤cl.length)(j:Int){f:Int}(D:1≤f)(E:f≤64)(u v z:Int)(A:QJ):
  kd cl o (e:Int) ((e+n:Nat):Int) j f u v z A=some (dU (gR (aQ cl o e) n j f n 0) (e:Int)):=by
 have hl:=B.1;have key:∀m a out,a≤n→n≤a+m→out.length≤a→iter (fJ cl o ((e+n:Nat):Int) j f u v z A) (((e+a:Nat):Int),out)=some (out++dU (gR (aQ cl o e) n j f m a) (e:Int)):=fun m=>by
  induction m with
  | zero =>
   intro a out I J L;obtain rfl:a=n:=by omega
   have q:¬(((e+a:Nat):Int)<((e+a:Nat):Int)):=by omega
   exact dP (by simp only[fJ,q,decide_false,Bool.false_eq_true,if_false,gR,dU,List.map_nil,List.append_nil])
  | succ m M =>
   intro a out I J L;by_cases ha:a<n
   ·have hin:=yr (aQ cl o e) j f ha;have q:((e+a:Nat):Int)<((e+n:Nat):Int):=by omega
    simp only[gR];rw[if_pos ha,show ∀(x:cg) l,dU (x::l) (e:Int)=dU [x] (e:Int)++dU l (e:Int)from fun _ _=>rfl,Gh,←List.append_assoc];rw[←M _ _ hin.2 (by omega) (by simp;omega)];refine gA ?_;simp only[fJ,q,decide_true,if_true,BF B C hn j D E u v z A ha,Option.bind_some,List.length_singleton];rw[if_pos (by omega)]
   ·obtain rfl:a=n:=by omega
    have q:¬(((e+a:Nat):Int)<((e+a:Nat):Int)):=by omega
    simp only[gR];rw[if_neg ha];exact dP (by simp only[fJ,q,decide_false,Bool.false_eq_true,if_false,dU,List.map_nil,List.append_nil])
 have:=key n 0 [] (by omega) (by omega) (by simp);rw[Nat.add_zero,List.nil_append]at this;unfold kd;rw[this];rfl
abbrev Wy:=Int×Int×Int×Int×Int×QJ
def rD(c:Wy)(op e n g:Int)(last:Bool):Int×Bool:=(fZ [] [op] 0 e n g last c.1 c.2.1 c.2.2.1 c.2.2.2.1 c.2.2.2.2.1 c.2.2.2.2.2).getD (0,false)
def ie(d:Dt)(n:Nat)(c:Wy)(all:Nat→Int×Int)(a:Nat):Nat→Nat→Int→Int→Int→Int→Int→Int×Int
 | 0,_,e,j,_,_,_=>(e,j)
 | m+1,k,e,j,full,sp,q =>
  let s:=if(d k).2.1=1 then i64.wrap (sp+1)else sp
  let f:=if kG (d k)=true then(full,q)else(iR d c.2.1 a (k+1 - a),s)
  if f.1 > c.1 then(e,j)
  else if(d k).2.2=0∨(k+1<n∧(all (k+1)).2<0)then ie d n c all a m (k+1) e j f.1 s f.2
  else
   let p:=rD c (yZ d a) (d k).2.2 (if(d k).2.2=3 then i64.wrap (f.1+1)else f.1) f.2 (k+1 == n)
   if p.2=true∧(j<0∨i64.wrap (p.1+(all (k+1)).1)<e)then ie d n c all a m (k+1) (i64.wrap (p.1+(all (k+1)).1)) ((k+1:Nat):Int) f.1 s f.2
   else ie d n c all a m (k+1) e j f.1 s f.2
def vO(d:Dt)(n:Nat)(c:Wy)(a:Nat)(l:Qq):Int×Int :=
 if a=0∨yZ d a≠0 then ie d n c (fun k=>l.getD (k - a - 1) (0,0)) a (n - a) a 0 (-1) 0 0 0 else(0,-1)
def eT(d:Dt)(n:Nat)(c:Wy):Nat→Qq
 | 0=>[(0,0)]
 | j+1=>vO d n c (n - (j+1)) (eT d n c j)::eT d n c j
def ma(d:Dt)(n:Nat)(e:Int)(T:Qq):Nat→Nat→Qk
 | 0,_=>[]
 | m+1,a=>if a<n then Mz d e a (T.getD a (0,0)).2.toNat (yZ d (T.getD a (0,0)).2.toNat)::ma d n e T m (T.getD a (0,0)).2.toNat else[]
def tw(d:Dt)(n:Nat)(c:Wy):Option Qk :=
 if n=0 then some []else if((eT d n c n).getD 0 (0,0)).2<0 then none else some (ma d n c.2.1 (eT d n c n) n 0)
def iZ(d:Dt)(n:Nat)(c:Wy):Qk×Bool :=
 if c.2.2.1=1 then(match tw d n c with
  | some l=>(l,false)
  | none=>(gR d n c.1 c.2.1 n 0,true))else(gR d n c.1 c.2.1 n 0,false)
theorem tj(d:Dt)(n:Nat)(c:Wy)(all:Nat→Int×Int)(a:Nat):∀m k e j full sp q,a≤k→k+m=n→(j = -1∨((a:Int)<j∧j≤(n:Int)∧(j<(n:Int)→0≤(all j.toNat).2))) →
  (ie d n c all a m k e j full sp q).2 = -1∨((a:Int)<(ie d n c all a m k e j full sp q).2∧(ie d n c all a m k e j full sp q).2≤(n:Int)∧((ie d n c all a m k e j full sp q).2<(n:Int)→0≤(all (ie d n c all a m k e j full sp q).2.toNat).2))
 | 0,k,e,j,full,sp,q,_,_,h=>h
 | m+1,k,e,j,full,sp,q,z,A,h=>by
  simp only[ie];generalize (if kG (d k)=true then(full,q)else(iR d c.2.1 a (k+1 - a),(if(d k).2.1=1 then i64.wrap (sp+1)else sp)))=f;generalize rD c (yZ d a) (d k).2.2 (if(d k).2.2=3 then i64.wrap (f.1+1)else f.1) f.2 (k+1 == n)=p;split
  ·exact h
  ·split
   ·exact tj d n c all a m (k+1) _ _ _ _ _ (by omega) (by omega) h
   ·rename_i hn;split
    ·refine tj d n c all a m (k+1) _ _ _ _ _ (by omega) (by omega) (.inr ⟨by omega,by omega,fun u=>?_⟩);rw[Int.toNat_natCast];have:¬(all (k+1)).2<0:=fun v=>hn (.inr ⟨by omega,v⟩)
     omega
    ·exact tj d n c all a m (k+1) _ _ _ _ _ (by omega) (by omega) h
theorem pq{d u:Dt}{n:Nat}(h:∀j,j<n→d j=u j)(c:Wy)(all e:Nat→Int×Int)(a:Nat)(ha:a≤n)(v:∀k,a<k→k≤n→all k=e k):∀m k q A full sp z,a≤k→k+m=n →
  ie d n c all a m k q A full sp z=ie u n c e a m k q A full sp z
 | 0,_,_,_,_,_,_,_,_=>rfl
 | m+1,k,q,A,full,sp,z,B,C=>by
  simp only[ie];rw[h k (by omega),oI h c.2.1 a (k+1 - a) (by omega),v (k+1) (by omega) (by omega),lz h ha];generalize (if kG (u k)=true then(full,z)else(iR u c.2.1 a (k+1 - a),(if(u k).2.1=1 then i64.wrap (sp+1)else sp)))=f;generalize rD c (yZ u a) (u k).2.2 (if(u k).2.2=3 then i64.wrap (f.1+1)else f.1) f.2 (k+1 == n)=p;split
  ·rfl
  ·split
   ·exact pq h c all e a ha v m (k+1) _ _ _ _ _ (by omega) (by omega)
   ·split <;> exact pq h c all e a ha v m (k+1) _ _ _ _ _ (by omega) (by omega)
theorem xv{d e:Dt}{n:Nat}(h:∀j,j<n→d j=e j)(c:Wy):∀j,j≤n→eT d n c j=eT e n c j
 | 0,_=>rfl
 | j+1,f=>by
  simp only[eT,xv h c j (by omega)];unfold vO;rw[lz h (show n - (j+1)≤n by omega),pq h c _ _ (n - (j+1)) (by omega) (fun _ _ _=>rfl) _ _ _ _ _ _ _ (Nat.le_refl _) (by omega)]
theorem FH(d:Dt)(n:Nat)(c:Wy):∀j i,j≤n→i<j→((eT d n c j).getD i (0,0)).2 = -1∨(((n - j+i:Nat):Int)<((eT d n c j).getD i (0,0)).2∧((eT d n c j).getD i (0,0)).2≤(n:Int) ∧
   (((eT d n c j).getD i (0,0)).2<(n:Int)→0≤((eT d n c j).getD (((eT d n c j).getD i (0,0)).2.toNat - (n - j)) (0,0)).2))
 | 0,i,_,hi=>by omega
 | j+1,0,B,_=>by
  simp only[eT,List.getD_cons_zero,Nat.add_zero];unfold vO;split
  ·have:=tj d n c (fun k=>(eT d n c j).getD (k - (n - (j+1)) - 1) (0,0)) (n - (j+1)) (n - (n - (j+1))) (n - (j+1)) 0 (-1) 0 0 0 (Nat.le_refl _) (by omega) (.inl rfl);generalize ie d n c (fun k=>(eT d n c j).getD (k - (n - (j+1)) - 1) (0,0)) (n - (j+1)) (n - (n - (j+1))) (n - (j+1)) 0 (-1) 0 0 0=r at this;rcases this with e | ⟨z,q,u⟩
   ·exact .inl e
   ·refine .inr ⟨z,q,fun f=>?_⟩;have:=u f;obtain⟨x,v⟩:∃x,r.2.toNat - (n - (j+1))=x+1:=⟨r.2.toNat - (n - (j+1)) - 1,by omega⟩;rw[v,List.getD_cons_succ];rw[show r.2.toNat - (n - (j+1)) - 1=x by omega]at this;exact this
  ·exact .inl rfl
 | j+1,i+1,B,hi=>by
  have A:=FH d n c j i (by omega) (by omega);simp only[eT,List.getD_cons_succ];generalize (eT d n c j).getD i (0,0)=r at A;rcases A with e | ⟨z,q,u⟩
  ·exact .inl e
  ·refine .inr ⟨by omega,q,fun f=>?_⟩;have:=u f;obtain⟨x,v⟩:∃x,r.2.toNat - (n - (j+1))=x+1:=⟨r.2.toNat - (n - (j+1)) - 1,by omega⟩;rw[v,List.getD_cons_succ,show x=r.2.toNat - (n - j) by omega];exact this
theorem vm{d q:Dt}{n:Nat}(h:∀j,j<n→d j=q j)(f:Int)(T:Qq)(hT:∀a,a<n→0≤(T.getD a (0,0)).2→(a:Int)<(T.getD a (0,0)).2∧(T.getD a (0,0)).2≤(n:Int)∧((T.getD a (0,0)).2<(n:Int)→0≤(T.getD (T.getD a (0,0)).2.toNat (0,0)).2)):∀m a,(a<n→0≤(T.getD a (0,0)).2)→ma d n f T m a=ma q n f T m a
 | 0,_,_=>rfl
 | m+1,a,ha=>by
  simp only[ma];by_cases e:a<n
  ·obtain⟨v,z,u⟩:=hT a e (ha e);rw[if_pos e,if_pos e,vm h f T hT m _ (fun A=>u (by omega)),lz h (k:=(T.getD a (0,0)).2.toNat) (by omega)];unfold Mz;rw[sR h f (by omega) (by omega)]
  ·rw[if_neg e,if_neg e]
theorem xm(d:Dt)(n:Nat)(c:Wy):∀a,a<n→0≤((eT d n c n).getD a (0,0)).2→(a:Int)<((eT d n c n).getD a (0,0)).2∧((eT d n c n).getD a (0,0)).2≤(n:Int)∧(((eT d n c n).getD a (0,0)).2<(n:Int)→0≤((eT d n c n).getD ((eT d n c n).getD a (0,0)).2.toNat (0,0)).2):=fun a ha h=>by
 rcases FH d n c n a (Nat.le_refl _) ha with e | ⟨q,j,f⟩
 ·omega
 ·rw[Nat.sub_self,Nat.sub_zero]at f;exact⟨by omega,j,f⟩
theorem CU{d e:Dt}{n:Nat}(h:∀j,j<n→d j=e j)(c:Wy):iZ d n c=iZ e n c:=by
 have hb:tw d n c=tw e n c:=by
  unfold tw;rw[xv h c n (Nat.le_refl _)];by_cases f:n=0
  ·rw[if_pos f,if_pos f]
  ·rw[if_neg f,if_neg f];by_cases q:((eT e n c n).getD 0 (0,0)).2<0
   ·rw[if_pos q,if_pos q]
   ·rw[if_neg q,if_neg q,vm h c.2.1 _ (xm e n c) n 0 (fun _=>by omega)]
 unfold iZ;rw[hb,sL h]
end
end Go.Proofs.YtbedjpdfkmfplaaGreatDoor.T
