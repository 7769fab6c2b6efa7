import Derived.Test.YtmcemnfjddoejaaGreatDoorTvSdm
import Derived.Test.YtmcemnfjddoejaaGreatDoorTv23im
namespace Go.Tv
open Go
open Go.IntKind (i64)
def FP(a:QJ):Prop:=∀n,a=some n→n<9223372036854775808
theorem FP.abs(a:QJ):FP (yc a):=fun n h=>by
 cases a with
 | none=>cases h
 | some b=>cases h;exact Nat.mod_lt _ (by decide)
theorem xB{n:Nat}(h:n<9223372036854775808):(∃m i,FloatKind.f64.format.read n = .number false m i)∨FloatKind.f64.format.read n = .infinity false∨∃t,FloatKind.f64.format.read n = .nan false t:=by
 have c:FloatKind.f64.format.signWeight=9223372036854775808:=rfl;have e:(n / FloatKind.f64.format.signWeight % 2 == 1)=false:=by rw[c,Nat.div_eq_of_lt h];rfl
 unfold Ieee.Format.read;simp only[e];split
 ·exact .inl ⟨_,_,rfl⟩
 ·split
  ·exact .inl ⟨_,_,rfl⟩
  ·split
   ·exact .inr (.inl rfl)
   ·exact .inr (.inr ⟨_,rfl⟩)
theorem G8(m:Nat)(i:Int):FloatKind.f64.format.write (.number false m i)<9223372036854775808:=by
 have hi:FloatKind.f64.format.infRung=9218868437227405312:=by decide
 have c:∀r,r≤FloatKind.f64.format.infRung→FloatKind.f64.format.word false r<9223372036854775808:=fun r e=>by
  rw[hi]at e;unfold Ieee.Format.word;simp
  omega
 show FloatKind.f64.format.nearest false m i<_;unfold Ieee.Format.nearest;split
 ·exact c 0 (Nat.zero_le _)
 ·exact c _ (Nat.min_le_right _ _)
theorem zK:FloatKind.f64.format.write (.infinity false)<9223372036854775808:=by decide
theorem FP.mul{a b:QJ}(ha:FP a)(hb:FP b):FP (bW .mul a b):=fun n h=>by
 cases a with
 | none=>cases h
 | some x =>
  cases b with
  | none=>cases h
  | some y =>
   have c:=xB (ha x rfl);have e:=xB (hb y rfl);simp only[bW,Ny,Ieee.Format.mul]at h;have key:∀d,(FloatKind.f64.format.read x).product (FloatKind.f64.format.read y)=some d→FloatKind.f64.format.write d<9223372036854775808:=fun d hd=>by
    rcases c with⟨j,p,c⟩ | c | ⟨q,c⟩ <;> rcases e with⟨u,v,e⟩ | e | ⟨z,e⟩ <;> rw[c,e]at hd <;> simp only[Ieee.Datum.product]at hd
    all_goals first
     | (cases hd;first | exact G8 _ _ | exact zK)
     | (split at hd <;> cases hd;exact zK)
     | cases hd
   cases f:(FloatKind.f64.format.read x).product (FloatKind.f64.format.read y)with
   | none=>rw[f]at h;cases h
   | some d =>
    rw[f]at h;simp only[Option.map_some,Option.bind_some]at h;rw[jP h];exact key d f
theorem Jg(n d B:Nat)(h:n<B*2 ^ d):Ieee.Toward.cut .zero false n d≤B:=by
 unfold Ieee.Toward.cut;simp only[Bool.toNat_false,Nat.add_zero,Nat.one_shiftLeft];rcases Nat.le_total d (n.log2+2)with hd | hd
 ·rw[Nat.min_eq_left hd];exact Nat.le_of_lt (Nat.div_lt_of_lt_mul (by rw[Nat.mul_comm];exact h))
 ·rw[Nat.min_eq_right hd];have e:n<2 ^ (n.log2+2):=by
   by_cases c:n=0
   ·subst c;exact Nat.two_pow_pos _
   ·have:=(Nat.log2_lt c (k:=n.log2+2)).1 (by omega);exact this
  rw[Nat.div_eq_of_lt e];exact Nat.zero_le _
theorem FP.int{a:QJ}(ha:FP a){c B k:Nat}(D:FloatKind.f64.format.read c = .number false (B*2 ^ k) (-(k:Int)))(h:Lt a (some c)=true):
  ∃n:Nat,o6 a=some (n:Int)∧n≤B:=by
 cases a with
 | none=>simp[Lt,wb]at h
 | some x =>
  simp only[Lt,wb,Ieee.Format.order,D]at h;rcases xB (ha x rfl)with⟨m,i,f⟩ | f | ⟨t,f⟩
  ·rw[f]at h;refine⟨Ieee.Toward.cut .zero false (m <<< i.toNat) (-i).toNat,?_,Jg _ _ _ ?_⟩
   ·unfold o6;simp only[Option.bind_some,FloatKind.decode,f];rfl
   ·simp only[Ieee.Datum.order,Ieee.signed,Bool.false_eq_true,if_false,beq_iff_eq,Option.some.injEq]at h;have h':(m <<< (i - min i (-(k:Int))).toNat)<((B*2 ^ k) <<< (-(k:Int) - min i (-(k:Int))).toNat):=by
     rw[Int.compare_eq_lt]at h
     exact_mod_cast h
    simp only[Nat.shiftLeft_eq]at h' ⊢;rcases Int.le_total 0 i with hi | hi
    ·obtain⟨j,rfl⟩:∃j:Nat,i=(j:Int):=⟨i.toNat,by omega⟩;rw[show((j:Int) - min (j:Int) (-(k:Int))).toNat=j+k by omega,show(-(k:Int) - min (j:Int) (-(k:Int))).toNat=0 by omega,Nat.pow_add,←Nat.mul_assoc,Nat.pow_zero,Nat.mul_one]at h';rw[show((j:Int)).toNat=j by omega,show(-(j:Int)).toNat=0 by omega,Nat.pow_zero,Nat.mul_one];exact Nat.lt_of_mul_lt_mul_right h'
    ·obtain⟨j,rfl⟩:∃j:Nat,i = -(j:Int):=⟨(-i).toNat,by omega⟩;rw[show(-(j:Int)).toNat=0 by omega,show(-(-(j:Int))).toNat=j by omega,Nat.pow_zero,Nat.mul_one];rcases Nat.le_total j k with z | z
     ·rw[show(-(j:Int) - min (-(j:Int)) (-(k:Int))).toNat=k - j by omega,show(-(k:Int) - min (-(j:Int)) (-(k:Int))).toNat=0 by omega,Nat.pow_zero,Nat.mul_one,show(2:Nat) ^ k=2 ^ j*2 ^ (k - j) by rw[←Nat.pow_add];congr 1;omega,←Nat.mul_assoc]at h';exact Nat.lt_of_mul_lt_mul_right h'
     ·rw[show(-(j:Int) - min (-(j:Int)) (-(k:Int))).toNat=0 by omega,show(-(k:Int) - min (-(j:Int)) (-(k:Int))).toNat=j - k by omega,Nat.pow_zero,Nat.mul_one,Nat.mul_assoc,←Nat.pow_add,show k+(j - k)=j by omega]at h';exact h'
  ·rw[f]at h;simp[Ieee.Datum.order]at h
  ·rw[f]at h;simp[Ieee.Datum.order]at h
end Go.Tv
namespace Go.Proofs.YtmcemnfjddoejaaGreatDoor.T
open Go Go.Tv Go.Proofs
open Go.IntKind (i64)
noncomputable section
theorem Eu(r:QJ):∃b:Int,ig r=some b∧0≤b∧b≤10000:=by
 have f:dN 4666723172467343360=some 4666723172467343360:=by decide
 have c:FloatKind.f64.format.read 4666723172467343360 = .number false (10000*2 ^ 39) (-((39:Nat):Int)):=by decide
 have j:FP (bW .mul (bW .mul (bW .mul (dN 4636737291354636288) (yc r)) (yc r)) (yc r)) :=
  FP.mul (FP.mul (FP.mul (fun n h=>by rw[jP h];decide) (FP.abs r)) (FP.abs r)) (FP.abs r)
 unfold ig n6 wI;simp only[Option.bind_some];generalize (bW .mul (bW .mul (bW .mul (dN 4636737291354636288) (yc r)) (yc r)) (yc r))=x at j;by_cases q:(!(Lq r r))=true
 ·rw[if_pos q];exact⟨0,rfl,by omega,by omega⟩
 ·rw[if_neg q,f];by_cases p:Lt x (some 4666723172467343360)=true
  ·obtain⟨n,e,hn⟩:=j.int c p;rw[if_neg (by simp[p]),e];simp only[Option.isSome,Option.getD];rw[if_pos ⟨by first | rfl | trivial,by simp[IntKind.min,IntKind.bits,IntKind.signed];try omega,by simp[IntKind.max,IntKind.bits,IntKind.signed];omega⟩];exact⟨n,rfl,by omega,by omega⟩
  ·rw[if_pos (by simp[p])];exact⟨10000,rfl,by omega,by omega⟩
theorem I8{o:QK}{fr:Nat}(E:fr<o.length)(B:XK)(e n g:Int)(last:Bool)(j C D p u:Int)(x:QJ):∃v b,fM B o (fr:Int) e n g last j C D p u x=some (v,b):=by
 unfold fM;split
 ·exact⟨_,_,rfl⟩
 ·have q:0≤(fr:Int)∧(fr:Int)<(o.length:Int):=by omega
  have tail:∀c:Int,∃v b,(((if(e == (3:Int))=true then(if 0≤(fr:Int)∧(fr:Int)<(o.length:Int)then(if((o.getD (fr:Int).toNat (0:Int)) == (3:Int))=true then some ((i64.wrap ((i64.wrap ((i64.wrap ((i64.wrap ((10:Int)+c))*(i64.wrap ((10:Int)+c))))+p))+u)))
    else some ((i64.wrap ((i64.wrap ((i64.wrap ((10:Int)+c))*(i64.wrap ((10:Int)+c))))+p))))else none)
    else some ((i64.wrap ((i64.wrap ((10:Int)+c))*(i64.wrap ((10:Int)+c))))))).bind fun f=>some (f,true))=some (v,b):=fun c=>by
   by_cases z:(e == 3)=true
   ·rw[if_pos z,if_pos q];split <;> exact⟨_,_,rfl⟩
   ·rw[if_neg z];exact⟨_,_,rfl⟩
  cases last with
  | true=>exact tail 0
  | false =>
   obtain⟨b,hb,-⟩:=Eu (bW .quo (ofInt (i64.wrap (j - n))) (ofInt g));simp only[Bool.not_false,if_true,tA,ox,Option.bind_some];by_cases A:(!(!(NM (bW .quo (ofInt (i64.wrap (j - n))) (ofInt g)) x)))=true
   ·rw[if_pos A];exact⟨_,_,rfl⟩
   ·rw[if_neg A,hb];simp only[Option.bind_some];exact tail b
abbrev Dt:=Nat→Int×Int×Int
def aR(cl:XK)(o:QK)(fr:Nat):Dt:=fun j=>((cl.getD (fr+j) c0).2.2.1,(cl.getD (fr+j) c0).2.2.2,o.getD (fr+j+1) 0)
def kf(x:Int×Int×Int):Bool:=x.2.1 == 1 || (x.2.1 == 0 && x.1 == 0)
def iz(d:Dt)(e:Int)(a:Nat):Nat→Int
 | 0=>0
 | k+1=>if(d (a+k)).2.1=2 then iz d e a k+e - iz d e a k % e else iz d e a k+(d (a+k)).1
def mw(d:Dt)(a:Nat):Nat→Nat
 | 0=>0
 | n+1=>if a<n+1∧kf (d n)=true then mw d a n else n+1
def pA(d:Dt)(f:Int)(a b:Nat)(e:Int):Int:=iz d f a (mw d a b - a)+(if e=3 then 1 else 0)
theorem we(cl:XK)(o:QK)(fr:Nat)(f:Int)(a:Nat):∀k,rz cl f (fr+a) k=iz (aR cl o fr) f a k
 | 0=>rfl
 | k+1=>by
  have e:fr+a+k=fr+(a+k):=by omega
  simp only[rz,iz,vL,we cl o fr f a k,aR,e];rfl
theorem BY(e:XK)(o:QK)(c a:Nat):∀b,a≤b→dR e (c+a) (c+b)=c+mw (aR e o c) a b
 | 0,h=>by
  obtain rfl:a=0:=by omega
  cases c with
  | zero=>rfl
  | succ f=>simp[dR,mw]
 | b+1,h=>by
  have q:c+(b+1)=(c+b)+1:=by omega
  rw[q];simp only[dR,mw];by_cases hb:a<b+1
  ·have p:rR (e.getD (c+b) c0)=kf (aR e o c b):=rfl;by_cases j:kf (aR e o c b)=true
   ·rw[if_pos ⟨by omega,by rw[p];exact j⟩,if_pos ⟨hb,j⟩];exact BY e o c a b (by omega)
   ·rw[if_neg (fun x=>j (by rw[←p];exact x.2)),if_neg (fun x=>j x.2)];omega
  ·rw[if_neg (fun x=>hb (by omega)),if_neg (fun x=>hb x.1)];omega
theorem xK(d:Dt)(a:Nat):∀b,a≤b→a≤mw d a b∧mw d a b≤b
 | 0,h=>by simp only[mw];omega
 | b+1,h=>by
  simp only[mw];split
  ·rename_i c;have:=xK d a b (by omega);omega
  ·omega
theorem nD(j:XK)(o:QK)(f:Nat)(p:Int){a b:Nat}(h:a≤b)(e:Int):yg j p (f+a) (f+b) e=pA (aR j o f) p a b e:=by
 unfold yg pA;have:=xK (aR j o f) a b h;rw[BY j o f a b h,show f+mw (aR j o f) a b - (f+a)=mw (aR j o f) a b - a by omega,we j o f]
theorem oh{d e:Dt}{n:Nat}(h:∀j,j<n→d j=e j)(c:Int)(a:Nat):∀k,a+k≤n→iz d c a k=iz e c a k
 | 0,_=>rfl
 | k+1,hk=>by
  simp only[iz,oh h c a k (by omega),h (a+k) (by omega)]
theorem vD{d c:Dt}{n:Nat}(h:∀j,j<n→d j=c j)(a:Nat):∀b,b≤n→mw d a b=mw c a b
 | 0,_=>rfl
 | b+1,hb=>by simp only[mw,vD h a b (by omega),h b (by omega)]
theorem tL{d f:Dt}{n:Nat}(h:∀j,j<n→d j=f j)(c:Int){a b:Nat}(p:a≤b)(hb:b≤n)(e:Int):pA d c a b e=pA f c a b e:=by
 unfold pA;have:=xK f a b p;rw[vD h a b hb,oh h c a _ (by omega)]
def zj(d:Dt):Nat→Int
 | 0=>0
 | k+1=>(d k).2.2
def pa(d:Dt)(j f:Int)(a:Nat):Nat→Nat→Int→Nat→Int→Int×Nat
 | 0,_,e,cut,_=>(e,cut)
 | m+1,k,e,cut,full =>
  let fl:=if kf (d k)=true then full else iz d f a (k+1 - a)
  if fl > j then(e,cut)
  else pa d j f a m (k+1) (if(d k).2.2≠0∧((d k).2.2≠3∨fl<j)then((k+1:Nat):Int)else e) (k+1) fl
def lu(d:Dt)(n:Nat)(f e:Int)(a:Nat):Nat×Int :=
 let p:=pa d f e a (n - a) a (-1) (a+1) 0
 if 0≤p.1 then(p.1.toNat,zj d p.1.toNat)
 else(p.2,if p.2<n∧zj d p.2=1 then 1 else if p.2=n then zj d n else 4)
def Mu(d:Dt)(c:Int)(a b:Nat)(e:Int):cW:=((a:Int),((b:Int),(pA d c a b e,e)))
def gu(d:Dt)(n:Nat)(e c:Int):Nat→Nat→XK
 | 0,_=>[]
 | m+1,a=>if a<n then Mu d c a (lu d n e c a).1 (lu d n e c a).2::gu d n e c m (lu d n e c a).1 else[]
def dI(l:XK)(Np:Int):XK:=l.map fun x=>(x.1+Np,(x.2.1+Np,x.2.2))
theorem wo(d:Dt)(j f:Int)(a:Nat):∀m k e cut full,a≤k→(e = -1∨((a:Int)<e∧e≤((k+m:Nat):Int)))→a<cut→cut≤max (a+1) (k+m) →
  ((pa d j f a m k e cut full).1 = -1∨((a:Int)<(pa d j f a m k e cut full).1∧(pa d j f a m k e cut full).1≤((k+m:Nat):Int)))∧a<(pa d j f a m k e cut full).2∧(pa d j f a m k e cut full).2≤max (a+1) (k+m)
 | 0,k,e,cut,full,_,p,q,u=>⟨p,q,u⟩
 | m+1,k,e,cut,full,x,p,q,u=>by
  simp only[pa];generalize (if kf (d k)=true then full else iz d f a (k+1 - a))=fl;by_cases v:fl > j
  ·rw[if_pos v];exact⟨p,q,u⟩
  ·rw[if_neg v];have:=wo d j f a m (k+1) (if(d k).2.2≠0∧((d k).2.2≠3∨fl<j)then((k+1:Nat):Int)else e) (k+1) fl (by omega) (by split <;> omega) (by omega) (by omega);rw[show k+1+m=k+(m+1) by omega]at this;exact this
theorem ya(d:Dt){n:Nat}(e c:Int){a:Nat}(h:a<n):a<(lu d n e c a).1∧(lu d n e c a).1≤n:=by
 have:=wo d e c a (n - a) a (-1) (a+1) 0 (Nat.le_refl _) (.inl rfl) (by omega) (by omega);unfold lu;simp only;split <;> simp only <;> omega
theorem yx{d f:Dt}{n:Nat}(h:∀j,j<n→d j=f j)(p c:Int)(a:Nat):∀m k e cut full,a≤k→k+m≤n→pa d p c a m k e cut full=pa f p c a m k e cut full
 | 0,_,_,_,_,_,_=>rfl
 | m+1,k,e,cut,full,q,u=>by
  simp only[pa];rw[h k (by omega),oh h c a (k+1 - a) (by omega)];generalize (if kf (f k)=true then full else iz f c a (k+1 - a))=fl;split
  ·rfl
  ·exact yx h p c a m (k+1) _ _ _ (by omega) (by omega)
theorem lh{d c:Dt}{n:Nat}(h:∀j,j<n→d j=c j):∀ {k:Nat},k≤n→zj d k=zj c k
 | 0,_=>rfl
 | k+1,hk=>by simp only[zj,h k (by omega)]
theorem CH{d f:Dt}{n:Nat}(h:∀j,j<n→d j=f j)(e c:Int){a:Nat}(ha:a<n):lu d n e c a=lu f n e c a:=by
 have hin:=wo f e c a (n - a) a (-1) (a+1) 0 (Nat.le_refl _) (.inl rfl) (by omega) (by omega);unfold lu;rw[yx h e c a (n - a) a (-1) (a+1) 0 (Nat.le_refl _) (by omega)];generalize pa f e c a (n - a) a (-1) (a+1) 0=p at hin;simp only;by_cases q:0≤p.1
 ·rw[if_pos q,if_pos q,lh h (k:=p.1.toNat) (by omega)]
 ·rw[if_neg q,if_neg q,lh h (k:=p.2) (by omega),lh h (Nat.le_refl n)]
theorem sk{d f:Dt}{n:Nat}(h:∀j,j<n→d j=f j)(e c:Int):∀m a,gu d n e c m a=gu f n e c m a
 | 0,_=>rfl
 | m+1,a=>by
  simp only[gu];by_cases ha:a<n
  ·have:=ya f e c ha;rw[if_pos ha,if_pos ha,CH h e c ha,sk h e c m];unfold Mu;rw[tL h c (Nat.le_of_lt this.1) this.2]
  ·rw[if_neg ha,if_neg ha]
def vU(fr:Nat)(b:Int):Int:=if b<0 then -1 else b+(fr:Int)
theorem FQ(cl:XK)(o:QK)(fr j:Nat):o.getD (fr+j+1) 0=(aR cl o fr j).2.2:=rfl
theorem Gq{cl:XK}(u:EP cl){o:QK}(Y:o.length=cl.length+1){e n:Nat}(hn:e+n≤cl.length)(p:Int){f:Int}(D:1≤f)(E:f≤64)(a:Nat):∀m k j cut full,k+m=n→a≤k →
  iter (gQ cl o ((e+n:Nat):Int) p f) (vU e j,((e+cut:Nat):Int),iz (aR cl o e) f a (k - a),full,((e+k+1:Nat):Int)) =
   some (vU e (pa (aR cl o e) p f a m k j cut full).1,((e+(pa (aR cl o e) p f a m k j cut full).2:Nat):Int))
 | 0,k,j,cut,full,hk,ha=>by
  have B:¬(((e+k+1:Nat):Int)≤((e+n:Nat):Int)):=by omega
  exact dq (by simp only[gQ,B,decide_false,Bool.false_eq_true,if_false,pa])
 | m+1,k,j,cut,full,hk,ha=>by
  have hl:=u.1;have v:=we cl o e f a;obtain⟨Z,b1⟩:=sV u D E (e+a) (k - a) (by omega);obtain⟨I,-,-⟩:=wq (c:=cl.getD (e+k) c0) Z (by omega) D E (u.2 _).1 (u.2 _).2;have J:vL (cl.getD (e+k) c0) (rz cl f (e+a) (k - a)) f=iz (aR cl o e) f a (k+1 - a):=by rw[←v,show k+1 - a=(k - a)+1 by omega];simp only[rz];rw[show e+a+(k - a)=e+k by omega]
  rw[J,v]at I;obtain⟨N,-,-⟩:=sS (cl:=cl) o (show e+k≤e+k+1 by omega) (by omega) (by omega);have e3:=FG cl (o:=o) (i:=e+k+1) (by omega);have B:((e+k+1:Nat):Int)≤((e+n:Nat):Int):=by omega
  have O:i64.wrap (((e+k+1:Nat):Int) - 1)=((e+k:Nat):Int):=lN (by omega);have V:0≤((e+k:Nat):Int):=by omega
  have X:((e+k:Nat):Int)<(cl.length:Int):=by omega
  have q5:i64.wrap (((e+k+1:Nat):Int)+1)=((e+(k+1)+1:Nat):Int):=bO (by omega);have ht:(((dR cl (e+k) (e+k+1):Nat):Int) == ((e+k+1:Nat):Int)) = !(kf (aR cl o e k)):=by
   have hh:rR (cl.getD (e+k) c0)=kf (aR cl o e k):=rfl;have:=(sS (cl:=cl) o (show e+k≤e+k by omega) (by omega) (by omega)).2.2;simp only[dR];rw[hh];cases he:kf (aR cl o e k)with
   | true =>
    rw[if_pos ⟨by omega,rfl⟩,Bool.not_true,beq_eq_false_iff_ne];omega
   | false =>rw[if_neg (fun x=>by cases x.2)];simp
  have q:(if(((dR cl (e+k) (e+k+1):Nat):Int) == ((e+k+1:Nat):Int))=true then some (iz (aR cl o e) f a (k+1 - a))else some full)=some (if kf (aR cl o e k)=true then full else iz (aR cl o e) f a (k+1 - a)):=by rw[ht];cases kf (aR cl o e k) <;> rfl
  have L:pa (aR cl o e) p f a (m+1) k j cut full=(if(if kf (aR cl o e k)=true then full else iz (aR cl o e) f a (k+1 - a)) > p then(j,cut)
    else pa (aR cl o e) p f a m (k+1) (if(aR cl o e k).2.2≠0∧((aR cl o e k).2.2≠3∨(if kf (aR cl o e k)=true then full else iz (aR cl o e) f a (k+1 - a))<p)then((k+1:Nat):Int)else j) (k+1) (if kf (aR cl o e k)=true then full else iz (aR cl o e) f a (k+1 - a))):=rfl
  rw[L];generalize (if kf (aR cl o e k)=true then full else iz (aR cl o e) f a (k+1 - a))=fl at q;by_cases C:fl > p
  ·rw[if_pos C];refine dq ?_;simp only[gQ,B,O,V,X,I,N,and_self,decide_true,if_true,Option.bind,Int.toNat_natCast];rw[q];simp only[C,decide_true,if_true]
  ·rw[if_neg C,←Gq u Y hn p D E a m (k+1) _ (k+1) fl (by omega) (by omega)];refine ga ?_;have hb:((if(o.getD (e+k+1) 0 != 0)=true then(if(o.getD (e+k+1) 0 != 3)=true then some true else some (decide (fl<p)))else some false).bind fun M=>(if M=true then some ((e+k+1:Nat):Int)else some (vU e j))) =
     some (vU e (if(aR cl o e k).2.2≠0∧((aR cl o e k).2.2≠3∨fl<p)then((k+1:Nat):Int)else j)):=by
    rw[FQ cl o e k];have z:vU e ((k+1:Nat):Int)=((e+k+1:Nat):Int):=by unfold vU;rw[if_neg (by omega)];omega
    by_cases A:(aR cl o e k).2.2=0
    ·rw[if_neg (c:=(aR cl o e k).2.2≠0∧_) (fun x=>x.1 A),if_neg (by simp[A])];rfl
    ·rw[if_pos (c:=((aR cl o e k).2.2 != 0)=true) (by simpa using A)];by_cases g2:(aR cl o e k).2.2=3
     ·rw[if_neg (c:=((aR cl o e k).2.2 != 3)=true) (by simp[g2])];by_cases g3:fl<p
      ·rw[if_pos (c:=(aR cl o e k).2.2≠0∧_) ⟨A,.inr g3⟩,decide_eq_true g3,z];rfl
      ·rw[if_neg (c:=(aR cl o e k).2.2≠0∧_) (fun x=>x.2.elim (fun y=>y g2) g3),decide_eq_false g3];rfl
     ·rw[if_pos (c:=((aR cl o e k).2.2 != 3)=true) (by simpa using g2),if_pos (c:=(aR cl o e k).2.2≠0∧_) ⟨A,.inl g2⟩,z];rfl
   simp only[gQ,B,O,V,X,I,N,and_self,decide_true,if_true,Option.bind_some,Int.toNat_natCast];rw[q];simp only[C,decide_false,Bool.false_eq_true,if_false,e3,Option.bind_some,q5];rw[←Option.bind_assoc,hb];rfl
theorem ni(f:XK)(o:QK)(e:Nat){k:Nat}(h:0<k):o.getD (e+k) 0=zj (aR f o e) k:=by
 cases k with
 | zero=>omega
 | succ k=>rfl
theorem C2{j:XK}(x:EP j){o:QK}(J:o.length=j.length+1){e n:Nat}(hn:e+n≤j.length)(v:Int){f:Int}(z:1≤f)(A:f≤64)(L M N:Int)(O:QJ){a:Nat}(ha:a<n):
  nq j o ((e+a:Nat):Int) ((e+n:Nat):Int) v f L M N O =
   some (((e+a:Nat):Int),(((e+(lu (aR j o e) n v f a).1:Nat):Int),(pA (aR j o e) f a (lu (aR j o e) n v f a).1 (lu (aR j o e) n v f a).2,(lu (aR j o e) n v f a).2))):=by
 have hl:=x.1;have V:i64.wrap (((e+a:Nat):Int)+1)=((e+a+1:Nat):Int):=bO (by omega);have B:=Gq x J hn v z A a (n - a) a (-1) (a+1) 0 (by omega) (Nat.le_refl _);have hin:=wo (aR j o e) v f a (n - a) a (-1) (a+1) 0 (Nat.le_refl _) (.inl rfl) (by omega) (by omega);rw[Nat.sub_self]at B;simp only[iz]at B;unfold nq;have u:vU e (-1) = -1:=rfl;rw[u,show e+(a+1)=e+a+1 by omega]at B;rw[V,B,Option.bind_some];unfold lu;generalize pa (aR j o e) v f a (n - a) a (-1) (a+1) 0=p at hin;obtain⟨q,cut⟩:=p;simp only at hin ⊢;obtain⟨hb,X,Y⟩:=hin;by_cases E:0≤q
 ·obtain⟨b,rfl⟩:∃b:Nat,q=(b:Int):=⟨q.toNat,by omega⟩;have u:vU e (b:Int)=((e+b:Nat):Int):=by unfold vU;rw[if_neg (by omega)];omega
  rw[if_pos (c:=(0:Int)≤_) E,u,Int.toNat_natCast];rw[if_pos (by rw[decide_eq_true_eq];omega),if_pos (by omega),Int.toNat_natCast,sa x o z A (by omega) (by omega),nD j o e f (by omega),ni j o e (by omega)];rfl
 ·have C:q = -1:=by omega
  subst C;rw[if_neg (c:=(0:Int)≤_) E,u,if_neg (by decide)];have Z:cut≤n:=by omega
  by_cases I:cut=n
  ·subst I;rw[if_pos (by simp),if_pos (by omega),Int.toNat_natCast];simp only[Option.bind_some,Int.lt_irrefl,decide_false,Bool.false_eq_true,if_false,Nat.lt_irrefl,false_and,if_true];rw[sa x o z A (by omega) (by omega),nD j o e f (by omega),ni j o e (by omega)];rfl
  ·have h2:((((e+cut:Nat):Int)) == ((e+n:Nat):Int))=false:=by rw[beq_eq_false_iff_ne];omega
   have h3:((e+cut:Nat):Int)<((e+n:Nat):Int):=by omega
   have h4:cut<n:=by omega
   simp only[h2,Bool.false_eq_true,if_false,Option.bind_some,h3,decide_true,if_true,h4,true_and,I];rw[if_pos (c:=0≤((e+cut:Nat):Int)∧_) (by omega),Int.toNat_natCast,ni j o e (by omega)];by_cases D:zj (aR j o e) cut=1
   ·simp only[D,Option.bind_some,if_true,BEq.rfl];rw[sa x o z A (by omega) (by omega),nD j o e f (by omega)];rfl
   ·have h6:(zj (aR j o e) cut == 1)=false:=by rw[beq_eq_false_iff_ne];exact D
    simp only[D,h6,Option.bind_some,if_false,Bool.false_eq_true];rw[sa x o z A (by omega) (by omega),nD j o e f (by omega)];rfl
theorem Fs(d:Dt)(f:Int)(a b c:Nat)(e:Int):dI [Mu d f a b e] (c:Int)=[(((c+a:Nat):Int),(((c+b:Nat):Int),(pA d f a b e,e)))]:=by
 simp only[dI,Mu,List.map_cons,List.map_nil];rw[show(a:Int)+(c:Int)=((c+a:Nat):Int) by omega,show(b:Int)+(c:Int)=((c+b:Nat):Int) by omega]
theorem zr{f:XK}(A:EP f){o:QK}(B:o.length=f.length+1){c n:Nat}(hn:c+n≤f.length)(j:Int){e:Int}(C:1≤e)(D:e≤64)(q u v:Int)(z:QJ):
  jX f o (c:Int) ((c+n:Nat):Int) j e q u v z=some (dI (gu (aR f o c) n j e n 0) (c:Int)):=by
 have hl:=A.1;have key:∀m a out,a≤n→n≤a+m→out.length≤a→iter (fx f o ((c+n:Nat):Int) j e q u v z) (((c+a:Nat):Int),out)=some (out++dI (gu (aR f o c) n j e m a) (c:Int)):=fun m=>by
  induction m with
  | zero =>
   intro a out E I J;obtain rfl:a=n:=by omega
   have p:¬(((c+a:Nat):Int)<((c+a:Nat):Int)):=by omega
   exact dq (by simp only[fx,p,decide_false,Bool.false_eq_true,if_false,gu,dI,List.map_nil,List.append_nil])
  | succ m L =>
   intro a out E I J;by_cases ha:a<n
   ·have hin:=ya (aR f o c) j e ha;have p:((c+a:Nat):Int)<((c+n:Nat):Int):=by omega
    simp only[gu];rw[if_pos ha,show ∀(x:cW) l,dI (x::l) (c:Int)=dI [x] (c:Int)++dI l (c:Int)from fun _ _=>rfl,Fs,←List.append_assoc];rw[←L _ _ hin.2 (by omega) (by simp;omega)];refine ga ?_;simp only[fx,p,decide_true,if_true,C2 A B hn j C D q u v z ha,Option.bind_some,List.length_singleton];rw[if_pos (by omega)]
   ·obtain rfl:a=n:=by omega
    have p:¬(((c+a:Nat):Int)<((c+a:Nat):Int)):=by omega
    simp only[gu];rw[if_neg ha];exact dq (by simp only[fx,p,decide_false,Bool.false_eq_true,if_false,dI,List.map_nil,List.append_nil])
 have:=key n 0 [] (by omega) (by omega) (by simp);rw[Nat.add_zero,List.nil_append]at this;unfold jX;rw[this];rfl
abbrev Wy:=Int×Int×Int×Int×Int×QJ
def rM(c:Wy)(op e n g:Int)(last:Bool):Int×Bool:=(fM [] [op] 0 e n g last c.1 c.2.1 c.2.2.1 c.2.2.2.1 c.2.2.2.2.1 c.2.2.2.2.2).getD (0,false)
def gU(d:Dt)(n:Nat)(c:Wy)(all:Nat→Int×Int)(a:Nat):Nat→Nat→Int→Int→Int→Int→Int→Int×Int
 | 0,_,e,j,_,_,_=>(e,j)
 | m+1,k,e,j,full,sp,q =>
  let s:=if(d k).2.1=1 then i64.wrap (sp+1)else sp
  let f:=if kf (d k)=true then(full,q)else(iz d c.2.1 a (k+1 - a),s)
  if f.1 > c.1 then(e,j)
  else if(d k).2.2=0∨(k+1<n∧(all (k+1)).2<0)then gU d n c all a m (k+1) e j f.1 s f.2
  else
   let p:=rM c (zj d a) (d k).2.2 (if(d k).2.2=3 then i64.wrap (f.1+1)else f.1) f.2 (k+1 == n)
   if p.2=true∧(j<0∨i64.wrap (p.1+(all (k+1)).1)<e)then gU d n c all a m (k+1) (i64.wrap (p.1+(all (k+1)).1)) ((k+1:Nat):Int) f.1 s f.2
   else gU d n c all a m (k+1) e j f.1 s f.2
def vS(d:Dt)(n:Nat)(c:Wy)(a:Nat)(l:Qq):Int×Int :=
 if a=0∨zj d a≠0 then gU d n c (fun k=>l.getD (k - a - 1) (0,0)) a (n - a) a 0 (-1) 0 0 0 else(0,-1)
def eC(d:Dt)(n:Nat)(c:Wy):Nat→Qq
 | 0=>[(0,0)]
 | j+1=>vS d n c (n - (j+1)) (eC d n c j)::eC d n c j
def lM(d:Dt)(n:Nat)(c:Int)(T:Qq):Nat→Nat→XK
 | 0,_=>[]
 | m+1,a=>if a<n then Mu d c a (T.getD a (0,0)).2.toNat (zj d (T.getD a (0,0)).2.toNat)::lM d n c T m (T.getD a (0,0)).2.toNat else[]
def sY(d:Dt)(n:Nat)(c:Wy):Option XK :=
 if n=0 then some []else if((eC d n c n).getD 0 (0,0)).2<0 then none else some (lM d n c.2.1 (eC d n c n) n 0)
def iE(d:Dt)(n:Nat)(c:Wy):XK×Bool :=
 if c.2.2.1=1 then(match sY d n c with
  | some l=>(l,false)
  | none=>(gu d n c.1 c.2.1 n 0,true))else(gu d n c.1 c.2.1 n 0,false)
theorem sP(d:Dt)(n:Nat)(c:Wy)(all:Nat→Int×Int)(a:Nat):∀m k e j full sp q,a≤k→k+m=n→(j = -1∨((a:Int)<j∧j≤(n:Int)∧(j<(n:Int)→0≤(all j.toNat).2))) →
  (gU d n c all a m k e j full sp q).2 = -1∨((a:Int)<(gU d n c all a m k e j full sp q).2∧(gU d n c all a m k e j full sp q).2≤(n:Int)∧((gU d n c all a m k e j full sp q).2<(n:Int)→0≤(all (gU d n c all a m k e j full sp q).2.toNat).2))
 | 0,k,e,j,full,sp,q,_,_,h=>h
 | m+1,k,e,j,full,sp,q,x,z,h=>by
  simp only[gU];generalize (if kf (d k)=true then(full,q)else(iz d c.2.1 a (k+1 - a),(if(d k).2.1=1 then i64.wrap (sp+1)else sp)))=f;generalize rM c (zj d a) (d k).2.2 (if(d k).2.2=3 then i64.wrap (f.1+1)else f.1) f.2 (k+1 == n)=p;split
  ·exact h
  ·split
   ·exact sP d n c all a m (k+1) _ _ _ _ _ (by omega) (by omega) h
   ·rename_i hn;split
    ·refine sP d n c all a m (k+1) _ _ _ _ _ (by omega) (by omega) (.inr ⟨by omega,by omega,fun u=>?_⟩);rw[Int.toNat_natCast];have:¬(all (k+1)).2<0:=fun v=>hn (.inr ⟨by omega,v⟩)
     omega
    ·exact sP d n c all a m (k+1) _ _ _ _ _ (by omega) (by omega) h
theorem px{d u:Dt}{n:Nat}(h:∀j,j<n→d j=u j)(c:Wy)(all e:Nat→Int×Int)(a:Nat)(ha:a≤n)(v:∀k,a<k→k≤n→all k=e k):∀m k q z full sp x,a≤k→k+m=n →
  gU d n c all a m k q z full sp x=gU u n c e a m k q z full sp x
 | 0,_,_,_,_,_,_,_,_=>rfl
 | m+1,k,q,z,full,sp,x,A,B=>by
  simp only[gU];rw[h k (by omega),oh h c.2.1 a (k+1 - a) (by omega),v (k+1) (by omega) (by omega),lh h ha];generalize (if kf (u k)=true then(full,x)else(iz u c.2.1 a (k+1 - a),(if(u k).2.1=1 then i64.wrap (sp+1)else sp)))=f;generalize rM c (zj u a) (u k).2.2 (if(u k).2.2=3 then i64.wrap (f.1+1)else f.1) f.2 (k+1 == n)=p;split
  ·rfl
  ·split
   ·exact px h c all e a ha v m (k+1) _ _ _ _ _ (by omega) (by omega)
   ·split <;> exact px h c all e a ha v m (k+1) _ _ _ _ _ (by omega) (by omega)
theorem xE{d e:Dt}{n:Nat}(h:∀j,j<n→d j=e j)(c:Wy):∀j,j≤n→eC d n c j=eC e n c j
 | 0,_=>rfl
 | j+1,f=>by
  simp only[eC,xE h c j (by omega)];unfold vS;rw[lh h (show n - (j+1)≤n by omega),px h c _ _ (n - (j+1)) (by omega) (fun _ _ _=>rfl) _ _ _ _ _ _ _ (Nat.le_refl _) (by omega)]
theorem F9(d:Dt)(n:Nat)(c:Wy):∀j i,j≤n→i<j→((eC d n c j).getD i (0,0)).2 = -1∨(((n - j+i:Nat):Int)<((eC d n c j).getD i (0,0)).2∧((eC d n c j).getD i (0,0)).2≤(n:Int) ∧
   (((eC d n c j).getD i (0,0)).2<(n:Int)→0≤((eC d n c j).getD (((eC d n c j).getD i (0,0)).2.toNat - (n - j)) (0,0)).2))
 | 0,i,_,hi=>by omega
 | j+1,0,A,_=>by
  simp only[eC,List.getD_cons_zero,Nat.add_zero];unfold vS;split
  ·have:=sP d n c (fun k=>(eC d n c j).getD (k - (n - (j+1)) - 1) (0,0)) (n - (j+1)) (n - (n - (j+1))) (n - (j+1)) 0 (-1) 0 0 0 (Nat.le_refl _) (by omega) (.inl rfl);generalize gU d n c (fun k=>(eC d n c j).getD (k - (n - (j+1)) - 1) (0,0)) (n - (j+1)) (n - (n - (j+1))) (n - (j+1)) 0 (-1) 0 0 0=r at this;rcases this with e | ⟨v,p,q⟩
   ·exact .inl e
   ·refine .inr ⟨v,p,fun f=>?_⟩;have:=q f;obtain⟨x,u⟩:∃x,r.2.toNat - (n - (j+1))=x+1:=⟨r.2.toNat - (n - (j+1)) - 1,by omega⟩;rw[u,List.getD_cons_succ];rw[show r.2.toNat - (n - (j+1)) - 1=x by omega]at this;exact this
  ·exact .inl rfl
 | j+1,i+1,A,hi=>by
  have z:=F9 d n c j i (by omega) (by omega);simp only[eC,List.getD_cons_succ];generalize (eC d n c j).getD i (0,0)=r at z;rcases z with e | ⟨v,p,q⟩
  ·exact .inl e
  ·refine .inr ⟨by omega,p,fun f=>?_⟩;have:=q f;obtain⟨x,u⟩:∃x,r.2.toNat - (n - (j+1))=x+1:=⟨r.2.toNat - (n - (j+1)) - 1,by omega⟩;rw[u,List.getD_cons_succ,show x=r.2.toNat - (n - j) by omega];exact this
theorem u9{d f:Dt}{n:Nat}(h:∀j,j<n→d j=f j)(e:Int)(T:Qq)(hT:∀a,a<n→0≤(T.getD a (0,0)).2→(a:Int)<(T.getD a (0,0)).2∧(T.getD a (0,0)).2≤(n:Int)∧((T.getD a (0,0)).2<(n:Int)→0≤(T.getD (T.getD a (0,0)).2.toNat (0,0)).2)):∀m a,(a<n→0≤(T.getD a (0,0)).2)→lM d n e T m a=lM f n e T m a
 | 0,_,_=>rfl
 | m+1,a,ha=>by
  simp only[lM];by_cases c:a<n
  ·obtain⟨q,u,p⟩:=hT a c (ha c);rw[if_pos c,if_pos c,u9 h e T hT m _ (fun v=>p (by omega)),lh h (k:=(T.getD a (0,0)).2.toNat) (by omega)];unfold Mu;rw[tL h e (by omega) (by omega)]
  ·rw[if_neg c,if_neg c]
theorem yy(d:Dt)(n:Nat)(c:Wy):∀a,a<n→0≤((eC d n c n).getD a (0,0)).2→(a:Int)<((eC d n c n).getD a (0,0)).2∧((eC d n c n).getD a (0,0)).2≤(n:Int)∧(((eC d n c n).getD a (0,0)).2<(n:Int)→0≤((eC d n c n).getD ((eC d n c n).getD a (0,0)).2.toNat (0,0)).2):=fun a ha h=>by
 rcases F9 d n c n a (Nat.le_refl _) ha with e | ⟨p,j,f⟩
 ·omega
 ·rw[Nat.sub_self,Nat.sub_zero]at f;exact⟨by omega,j,f⟩
theorem CU{d e:Dt}{n:Nat}(h:∀j,j<n→d j=e j)(c:Wy):iE d n c=iE e n c:=by
 have hb:sY d n c=sY e n c:=by
  unfold sY;rw[xE h c n (Nat.le_refl _)];by_cases f:n=0
  ·rw[if_pos f,if_pos f]
  ·rw[if_neg f,if_neg f];by_cases p:((eC e n c n).getD 0 (0,0)).2<0
   ·rw[if_pos p,if_pos p]
   ·rw[if_neg p,if_neg p,u9 h c.2.1 _ (yy e n c) n 0 (fun _=>by omega)]
 unfold iE;rw[hb,sk h]
end
end Go.Proofs.YtmcemnfjddoejaaGreatDoor.T
