import Derived.Test.YtobbjfkfmdiklaaGreatDoorTvSdm
import Derived.Test.YtobbjfkfmdiklaaGreatDoorTv50im
namespace Go.Tv
open Go
open Go.IntKind (i64)
def FP(a:QJ):Prop:=∀n,a=some n→n<9223372036854775808
theorem FP.abs(a:QJ):FP (vB a):=fun n h=>by
 cases a with
 | none=>cases h
 | some b=>cases h;exact Nat.mod_lt _ (by decide)
theorem vl{n:Nat}(h:n<9223372036854775808):(∃m i,FloatKind.f64.format.read n = .number false m i)∨FloatKind.f64.format.read n = .infinity false∨∃t,FloatKind.f64.format.read n = .nan false t:=by
 have f:FloatKind.f64.format.signWeight=9223372036854775808:=rfl;have e:(n / FloatKind.f64.format.signWeight % 2 == 1)=false:=by rw[f,Nat.div_eq_of_lt h];rfl
 unfold Ieee.Format.read;simp only[e];split
 ·exact .inl ⟨_,_,rfl⟩
 ·split
  ·exact .inl ⟨_,_,rfl⟩
  ·split
   ·exact .inr (.inl rfl)
   ·exact .inr (.inr ⟨_,rfl⟩)
theorem E6(m:Nat)(i:Int):FloatKind.f64.format.write (.number false m i)<9223372036854775808:=by
 have hi:FloatKind.f64.format.infRung=9218868437227405312:=by decide
 have f:∀r,r≤FloatKind.f64.format.infRung→FloatKind.f64.format.word false r<9223372036854775808:=fun r j=>by
  rw[hi]at j;unfold Ieee.Format.word;simp
  omega
 show FloatKind.f64.format.nearest false m i<_;unfold Ieee.Format.nearest;split
 ·exact f 0 (Nat.zero_le _)
 ·exact f _ (Nat.min_le_right _ _)
theorem yq:FloatKind.f64.format.write (.infinity false)<9223372036854775808:=by decide
theorem FP.mul{a b:QJ}(ha:FP a)(hb:FP b):FP (bR .mul a b):=fun n h=>by
 cases a with
 | none=>cases h
 | some x =>
  cases b with
  | none=>cases h
  | some y =>
   have h1:=vl (ha x rfl);have h2:=vl (hb y rfl);simp only[bR,Lq,Ieee.Format.mul]at h;have key:∀d,(FloatKind.f64.format.read x).product (FloatKind.f64.format.read y)=some d→FloatKind.f64.format.write d<9223372036854775808:=fun d hd=>by
    rcases h1 with⟨f,j,h1⟩ | h1 | ⟨p,h1⟩ <;> rcases h2 with⟨q,u,h2⟩ | h2 | ⟨v,h2⟩ <;> rw[h1,h2]at hd <;> simp only[Ieee.Datum.product]at hd
    all_goals first
     | (cases hd;first | exact E6 _ _ | exact yq)
     | (split at hd <;> cases hd;exact yq)
     | cases hd
   cases hp:(FloatKind.f64.format.read x).product (FloatKind.f64.format.read y)with
   | none=>rw[hp]at h;cases h
   | some d =>
    rw[hp]at h;simp only[Option.map_some,Option.bind_some]at h;rw[jB h];exact key d hp
theorem FU(n d B:Nat)(h:n<B*2 ^ d):Ieee.Toward.cut .zero false n d≤B:=by
 unfold Ieee.Toward.cut;simp only[Bool.toNat_false,Nat.add_zero,Nat.one_shiftLeft];rcases Nat.le_total d (n.log2+2)with hd | hd
 ·rw[Nat.min_eq_left hd];exact Nat.le_of_lt (Nat.div_lt_of_lt_mul (by rw[Nat.mul_comm];exact h))
 ·rw[Nat.min_eq_right hd];have h1:n<2 ^ (n.log2+2):=by
   by_cases f:n=0
   ·subst f;exact Nat.two_pow_pos _
   ·have:=(Nat.log2_lt f (k:=n.log2+2)).1 (by omega);exact this
  rw[Nat.div_eq_of_lt h1];exact Nat.zero_le _
theorem FP.int{a:QJ}(ha:FP a){c B k:Nat}(hc:FloatKind.f64.format.read c = .number false (B*2 ^ k) (-(k:Int)))(h:J0 a (some c)=true):
  ∃n:Nat,n7 a=some (n:Int)∧n≤B:=by
 cases a with
 | none=>simp[J0,ux]at h
 | some x =>
  simp only[J0,ux,Ieee.Format.order,hc]at h;rcases vl (ha x rfl)with⟨m,i,h1⟩ | h1 | ⟨t,h1⟩
  ·rw[h1]at h;refine⟨Ieee.Toward.cut .zero false (m <<< i.toNat) (-i).toNat,?_,FU _ _ _ ?_⟩
   ·unfold n7;simp only[Option.bind_some,FloatKind.decode,h1];rfl
   ·simp only[Ieee.Datum.order,Ieee.signed,Bool.false_eq_true,if_false,beq_iff_eq,Option.some.injEq]at h;have h':(m <<< (i - min i (-(k:Int))).toNat)<((B*2 ^ k) <<< (-(k:Int) - min i (-(k:Int))).toNat):=by
     rw[Int.compare_eq_lt]at h
     exact_mod_cast h
    simp only[Nat.shiftLeft_eq]at h' ⊢;rcases Int.le_total 0 i with hi | hi
    ·obtain⟨j,rfl⟩:∃j:Nat,i=(j:Int):=⟨i.toNat,by omega⟩;rw[show((j:Int) - min (j:Int) (-(k:Int))).toNat=j+k by omega,show(-(k:Int) - min (j:Int) (-(k:Int))).toNat=0 by omega,Nat.pow_add,←Nat.mul_assoc,Nat.pow_zero,Nat.mul_one]at h';rw[show((j:Int)).toNat=j by omega,show(-(j:Int)).toNat=0 by omega,Nat.pow_zero,Nat.mul_one];exact Nat.lt_of_mul_lt_mul_right h'
    ·obtain⟨j,rfl⟩:∃j:Nat,i = -(j:Int):=⟨(-i).toNat,by omega⟩;rw[show(-(j:Int)).toNat=0 by omega,show(-(-(j:Int))).toNat=j by omega,Nat.pow_zero,Nat.mul_one];rcases Nat.le_total j k with f | f
     ·rw[show(-(j:Int) - min (-(j:Int)) (-(k:Int))).toNat=k - j by omega,show(-(k:Int) - min (-(j:Int)) (-(k:Int))).toNat=0 by omega,Nat.pow_zero,Nat.mul_one,show(2:Nat) ^ k=2 ^ j*2 ^ (k - j) by rw[←Nat.pow_add];congr 1;omega,←Nat.mul_assoc]at h';exact Nat.lt_of_mul_lt_mul_right h'
     ·rw[show(-(j:Int) - min (-(j:Int)) (-(k:Int))).toNat=0 by omega,show(-(k:Int) - min (-(j:Int)) (-(k:Int))).toNat=j - k by omega,Nat.pow_zero,Nat.mul_one,Nat.mul_assoc,←Nat.pow_add,show k+(j - k)=j by omega]at h';exact h'
  ·rw[h1]at h;simp[Ieee.Datum.order]at h
  ·rw[h1]at h;simp[Ieee.Datum.order]at h
end Go.Tv
namespace Go.Proofs.YtobbjfkfmdiklaaGreatDoor.T
open Go Go.Tv Go.Proofs
open Go.IntKind (i64)
noncomputable section
theorem vJ(r:QJ):∃b:Int,gR r=some b∧0≤b∧b≤10000:=by
 have j:eo 4666723172467343360=some 4666723172467343360:=by decide
 have f:FloatKind.f64.format.read 4666723172467343360 = .number false (10000*2 ^ 39) (-((39:Nat):Int)):=by decide
 have p:FP (bR .mul (bR .mul (bR .mul (eo 4636737291354636288) (vB r)) (vB r)) (vB r)) :=
  FP.mul (FP.mul (FP.mul (fun n h=>by rw[jB h];decide) (FP.abs r)) (FP.abs r)) (FP.abs r)
 unfold gR nB vo;simp only[Option.bind_some];generalize (bR .mul (bR .mul (bR .mul (eo 4636737291354636288) (vB r)) (vB r)) (vB r))=x at p;by_cases h1:(!(Kg r r))=true
 ·rw[if_pos h1];exact⟨0,rfl,by omega,by omega⟩
 ·rw[if_neg h1,j];by_cases h2:J0 x (some 4666723172467343360)=true
  ·obtain⟨n,e,hn⟩:=p.int f h2;rw[if_neg (by simp[h2]),e];simp only[Option.isSome,Option.getD];rw[if_pos ⟨by first | rfl | trivial,by simp[IntKind.min,IntKind.bits,IntKind.signed];try omega,by simp[IntKind.max,IntKind.bits,IntKind.signed];omega⟩];exact⟨n,rfl,by omega,by omega⟩
  ·rw[if_pos (by simp[h2])];exact⟨10000,rfl,by omega,by omega⟩
theorem GB{o:QK}{fr:Nat}(I:fr<o.length)(C:Qk)(e n g:Int)(last:Bool)(p D E u x:Int)(z:QJ):∃v b,dS C o (fr:Int) e n g last p D E u x z=some (v,b):=by
 unfold dS;split
 ·exact⟨_,_,rfl⟩
 ·have q:0≤(fr:Int)∧(fr:Int)<(o.length:Int):=by omega
  have tail:∀f:Int,∃v b,(((if(e == (3:Int))=true then(if 0≤(fr:Int)∧(fr:Int)<(o.length:Int)then(if((o.getD (fr:Int).toNat (0:Int)) == (3:Int))=true then some ((i64.wrap ((i64.wrap ((i64.wrap ((i64.wrap ((10:Int)+f))*(i64.wrap ((10:Int)+f))))+u))+x)))
    else some ((i64.wrap ((i64.wrap ((i64.wrap ((10:Int)+f))*(i64.wrap ((10:Int)+f))))+u))))else none)
    else some ((i64.wrap ((i64.wrap ((10:Int)+f))*(i64.wrap ((10:Int)+f))))))).bind fun j=>some (j,true))=some (v,b):=fun f=>by
   by_cases A:(e == 3)=true
   ·rw[if_pos A,if_pos q];split <;> exact⟨_,_,rfl⟩
   ·rw[if_neg A];exact⟨_,_,rfl⟩
  cases last with
  | true=>exact tail 0
  | false =>
   obtain⟨b,hb,-⟩:=vJ (bR .quo (ofInt (i64.wrap (p - n))) (ofInt g));simp only[Bool.not_false,if_true,o8,lB,Option.bind_some];by_cases B:(!(!(KO (bR .quo (ofInt (i64.wrap (p - n))) (ofInt g)) z)))=true
   ·rw[if_pos B];exact⟨_,_,rfl⟩
   ·rw[if_neg B,hb];simp only[Option.bind_some];exact tail b
abbrev Dt:=Nat→Int×Int×Int
def aN(cl:Qk)(o:QK)(fr:Nat):Dt:=fun j=>((cl.getD (fr+j) c0).2.2.1,(cl.getD (fr+j) c0).2.2.2,o.getD (fr+j+1) 0)
def j5(x:Int×Int×Int):Bool:=x.2.1 == 1 || (x.2.1 == 0 && x.1 == 0)
def fh(d:Dt)(f:Int)(a:Nat):Nat→Int
 | 0=>0
 | k+1=>if(d (a+k)).2.1=2 then fh d f a k+f - fh d f a k % f else fh d f a k+(d (a+k)).1
def kb(d:Dt)(a:Nat):Nat→Nat
 | 0=>0
 | n+1=>if a<n+1∧j5 (d n)=true then kb d a n else n+1
def mi(d:Dt)(f:Int)(a b:Nat)(e:Int):Int:=fh d f a (kb d a b - a)+(if e=3 then 1 else 0)
theorem uH(cl:Qk)(o:QK)(fr:Nat)(f:Int)(a:Nat):∀k,qD cl f (fr+a) k=fh (aN cl o fr) f a k
 | 0=>rfl
 | k+1=>by
  have e:fr+a+k=fr+(a+k):=by omega
  simp only[qD,fh,tH,uH cl o fr f a k,aN,e];rfl
theorem wq(cl:Qk)(o:QK)(j a:Nat):∀b,a≤b→dL cl (j+a) (j+b)=j+kb (aN cl o j) a b
 | 0,h=>by
  obtain rfl:a=0:=by omega
  cases j with
  | zero=>rfl
  | succ f=>simp[dL,kb]
 | b+1,h=>by
  have u:j+(b+1)=(j+b)+1:=by omega
  rw[u];simp only[dL,kb];by_cases hb:a<b+1
  ·have q:qB (cl.getD (j+b) c0)=j5 (aN cl o j b):=rfl;by_cases p:j5 (aN cl o j b)=true
   ·rw[if_pos ⟨by omega,by rw[q];exact p⟩,if_pos ⟨hb,p⟩];exact wq cl o j a b (by omega)
   ·rw[if_neg (fun x=>p (by rw[←q];exact x.2)),if_neg (fun x=>p x.2)];omega
  ·rw[if_neg (fun x=>hb (by omega)),if_neg (fun x=>hb x.1)];omega
theorem qR(d:Dt)(a:Nat):∀b,a≤b→a≤kb d a b∧kb d a b≤b
 | 0,h=>by simp only[kb];omega
 | b+1,h=>by
  simp only[kb];split
  ·rename_i f;have:=qR d a b (by omega);omega
  ·omega
theorem kI(j:Qk)(o:QK)(f:Nat)(p:Int){a b:Nat}(h:a≤b)(e:Int):sU j p (f+a) (f+b) e=mi (aN j o f) p a b e:=by
 unfold sU mi;have:=qR (aN j o f) a b h;rw[wq j o f a b h,show f+kb (aN j o f) a b - (f+a)=kb (aN j o f) a b - a by omega,uH j o f]
theorem nM{d p:Dt}{n:Nat}(h:∀j,j<n→d j=p j)(f:Int)(a:Nat):∀k,a+k≤n→fh d f a k=fh p f a k
 | 0,_=>rfl
 | k+1,hk=>by
  simp only[fh,nM h f a k (by omega),h (a+k) (by omega)]
theorem ub{d f:Dt}{n:Nat}(h:∀j,j<n→d j=f j)(a:Nat):∀b,b≤n→kb d a b=kb f a b
 | 0,_=>rfl
 | b+1,hb=>by simp only[kb,ub h a b (by omega),h b (by omega)]
theorem rv{d p:Dt}{n:Nat}(h:∀j,j<n→d j=p j)(f:Int){a b:Nat}(q:a≤b)(hb:b≤n)(e:Int):mi d f a b e=mi p f a b e:=by
 unfold mi;have:=qR p a b q;rw[ub h a b hb,nM h f a _ (by omega)]
def oH(d:Dt):Nat→Int
 | 0=>0
 | k+1=>(d k).2.2
def n8(d:Dt)(p j:Int)(a:Nat):Nat→Nat→Int→Nat→Int→Int×Nat
 | 0,_,f,cut,_=>(f,cut)
 | m+1,k,f,cut,full =>
  let fl:=if j5 (d k)=true then full else fh d j a (k+1 - a)
  if fl > p then(f,cut)
  else n8 d p j a m (k+1) (if(d k).2.2≠0∧((d k).2.2≠3∨fl<p)then((k+1:Nat):Int)else f) (k+1) fl
def la(d:Dt)(n:Nat)(j f:Int)(a:Nat):Nat×Int :=
 let p:=n8 d j f a (n - a) a (-1) (a+1) 0
 if 0≤p.1 then(p.1.toNat,oH d p.1.toNat)
 else(p.2,if p.2<n∧oH d p.2=1 then 1 else if p.2=n then oH d n else 4)
def Kz(d:Dt)(f:Int)(a b:Nat)(e:Int):bV:=((a:Int),((b:Int),(mi d f a b e,e)))
def fm(d:Dt)(n:Nat)(j f:Int):Nat→Nat→Qk
 | 0,_=>[]
 | m+1,a=>if a<n then Kz d f a (la d n j f a).1 (la d n j f a).2::fm d n j f m (la d n j f a).1 else[]
def ja(l:Qk)(KW:Int):Qk:=l.map fun x=>(x.1+KW,(x.2.1+KW,x.2.2))
theorem uC(d:Dt)(p j:Int)(a:Nat):∀m k f cut full,a≤k→(f = -1∨((a:Int)<f∧f≤((k+m:Nat):Int)))→a<cut→cut≤max (a+1) (k+m) →
  ((n8 d p j a m k f cut full).1 = -1∨((a:Int)<(n8 d p j a m k f cut full).1∧(n8 d p j a m k f cut full).1≤((k+m:Nat):Int)))∧a<(n8 d p j a m k f cut full).2∧(n8 d p j a m k f cut full).2≤max (a+1) (k+m)
 | 0,k,f,cut,full,_,h1,h2,q=>⟨h1,h2,q⟩
 | m+1,k,f,cut,full,v,h1,h2,q=>by
  simp only[n8];generalize (if j5 (d k)=true then full else fh d j a (k+1 - a))=fl;by_cases u:fl > p
  ·rw[if_pos u];exact⟨h1,h2,q⟩
  ·rw[if_neg u];have:=uC d p j a m (k+1) (if(d k).2.2≠0∧((d k).2.2≠3∨fl<p)then((k+1:Nat):Int)else f) (k+1) fl (by omega) (by split <;> omega) (by omega) (by omega);rw[show k+1+m=k+(m+1) by omega]at this;exact this
theorem rm(d:Dt){n:Nat}(j f:Int){a:Nat}(h:a<n):a<(la d n j f a).1∧(la d n j f a).1≤n:=by
 have:=uC d j f a (n - a) a (-1) (a+1) 0 (Nat.le_refl _) (.inl rfl) (by omega) (by omega);unfold la;simp only;split <;> simp only <;> omega
theorem uU{d q:Dt}{n:Nat}(h:∀j,j<n→d j=q j)(u f:Int)(a:Nat):∀m k p cut full,a≤k→k+m≤n→n8 d u f a m k p cut full=n8 q u f a m k p cut full
 | 0,_,_,_,_,_,_=>rfl
 | m+1,k,p,cut,full,h1,h2=>by
  simp only[n8];rw[h k (by omega),nM h f a (k+1 - a) (by omega)];generalize (if j5 (q k)=true then full else fh q f a (k+1 - a))=fl;split
  ·rfl
  ·exact uU h u f a m (k+1) _ _ _ (by omega) (by omega)
theorem kM{d f:Dt}{n:Nat}(h:∀j,j<n→d j=f j):∀ {k:Nat},k≤n→oH d k=oH f k
 | 0,_=>rfl
 | k+1,hk=>by simp only[oH,h k (by omega)]
theorem A4{d u:Dt}{n:Nat}(h:∀j,j<n→d j=u j)(q f:Int){a:Nat}(ha:a<n):la d n q f a=la u n q f a:=by
 have hin:=uC u q f a (n - a) a (-1) (a+1) 0 (Nat.le_refl _) (.inl rfl) (by omega) (by omega);unfold la;rw[uU h q f a (n - a) a (-1) (a+1) 0 (Nat.le_refl _) (by omega)];generalize n8 u q f a (n - a) a (-1) (a+1) 0=p at hin;simp only;by_cases hp:0≤p.1
 ·rw[if_pos hp,if_pos hp,kM h (k:=p.1.toNat) (by omega)]
 ·rw[if_neg hp,if_neg hp,kM h (k:=p.2) (by omega),kM h (Nat.le_refl n)]
theorem qW{d q:Dt}{n:Nat}(h:∀j,j<n→d j=q j)(p f:Int):∀m a,fm d n p f m a=fm q n p f m a
 | 0,_=>rfl
 | m+1,a=>by
  simp only[fm];by_cases ha:a<n
  ·have:=rm q p f ha;rw[if_pos ha,if_pos ha,A4 h p f ha,qW h p f m];unfold Kz;rw[rv h f (Nat.le_of_lt this.1) this.2]
  ·rw[if_neg ha,if_neg ha]
def uq(fr:Nat)(b:Int):Int:=if b<0 then -1 else b+(fr:Int)
theorem DI(cl:Qk)(o:QK)(fr j:Nat):o.getD (fr+j+1) 0=(aN cl o fr j).2.2:=rfl
theorem D5{cl:Qk}(hc:zF cl){o:QK}(Y:o.length=cl.length+1){f n:Nat}(hn:f+n≤cl.length)(q:Int){j:Int}(D:1≤j)(E:j≤64)(a:Nat):∀m k p cut full,k+m=n→a≤k →
  iter (gD cl o ((f+n:Nat):Int) q j) (uq f p,((f+cut:Nat):Int),fh (aN cl o f) j a (k - a),full,((f+k+1:Nat):Int)) =
   some (uq f (n8 (aN cl o f) q j a m k p cut full).1,((f+(n8 (aN cl o f) q j a m k p cut full).2:Nat):Int))
 | 0,k,p,cut,full,hk,ha=>by
  have B:¬(((f+k+1:Nat):Int)≤((f+n:Nat):Int)):=by omega
  exact cr (by simp only[gD,B,decide_false,Bool.false_eq_true,if_false,n8])
 | m+1,k,p,cut,full,hk,ha=>by
  have hl:=hc.1;have v:=uH cl o f j a;obtain⟨Z,b1⟩:=sr hc D E (f+a) (k - a) (by omega);obtain⟨I,-,-⟩:=uK (c:=cl.getD (f+k) c0) Z (by omega) D E (hc.2 _).1 (hc.2 _).2;have J:tH (cl.getD (f+k) c0) (qD cl j (f+a) (k - a)) j=fh (aN cl o f) j a (k+1 - a):=by rw[←v,show k+1 - a=(k - a)+1 by omega];simp only[qD];rw[show f+a+(k - a)=f+k by omega]
  rw[J,v]at I;obtain⟨N,-,-⟩:=pw (cl:=cl) o (show f+k≤f+k+1 by omega) (by omega) (by omega);have e3:=yR cl (o:=o) (i:=f+k+1) (by omega);have B:((f+k+1:Nat):Int)≤((f+n:Nat):Int):=by omega
  have O:i64.wrap (((f+k+1:Nat):Int) - 1)=((f+k:Nat):Int):=kP (by omega);have V:0≤((f+k:Nat):Int):=by omega
  have X:((f+k:Nat):Int)<(cl.length:Int):=by omega
  have q5:i64.wrap (((f+k+1:Nat):Int)+1)=((f+(k+1)+1:Nat):Int):=bF (by omega);have ht:(((dL cl (f+k) (f+k+1):Nat):Int) == ((f+k+1:Nat):Int)) = !(j5 (aN cl o f k)):=by
   have hh:qB (cl.getD (f+k) c0)=j5 (aN cl o f k):=rfl;have:=(pw (cl:=cl) o (show f+k≤f+k by omega) (by omega) (by omega)).2.2;simp only[dL];rw[hh];cases he:j5 (aN cl o f k)with
   | true =>
    rw[if_pos ⟨by omega,rfl⟩,Bool.not_true,beq_eq_false_iff_ne];omega
   | false =>rw[if_neg (fun x=>by cases x.2)];simp
  have u:(if(((dL cl (f+k) (f+k+1):Nat):Int) == ((f+k+1:Nat):Int))=true then some (fh (aN cl o f) j a (k+1 - a))else some full)=some (if j5 (aN cl o f k)=true then full else fh (aN cl o f) j a (k+1 - a)):=by rw[ht];cases j5 (aN cl o f k) <;> rfl
  have L:n8 (aN cl o f) q j a (m+1) k p cut full=(if(if j5 (aN cl o f k)=true then full else fh (aN cl o f) j a (k+1 - a)) > q then(p,cut)
    else n8 (aN cl o f) q j a m (k+1) (if(aN cl o f k).2.2≠0∧((aN cl o f k).2.2≠3∨(if j5 (aN cl o f k)=true then full else fh (aN cl o f) j a (k+1 - a))<q)then((k+1:Nat):Int)else p) (k+1) (if j5 (aN cl o f k)=true then full else fh (aN cl o f) j a (k+1 - a))):=rfl
  rw[L];generalize (if j5 (aN cl o f k)=true then full else fh (aN cl o f) j a (k+1 - a))=fl at u;by_cases C:fl > q
  ·rw[if_pos C];refine cr ?_;simp only[gD,B,O,V,X,I,N,and_self,decide_true,if_true,Option.bind,Int.toNat_natCast];rw[u];simp only[C,decide_true,if_true]
  ·rw[if_neg C,←D5 hc Y hn q D E a m (k+1) _ (k+1) fl (by omega) (by omega)];refine dO ?_;have hb:((if(o.getD (f+k+1) 0 != 0)=true then(if(o.getD (f+k+1) 0 != 3)=true then some true else some (decide (fl<q)))else some false).bind fun M=>(if M=true then some ((f+k+1:Nat):Int)else some (uq f p))) =
     some (uq f (if(aN cl o f k).2.2≠0∧((aN cl o f k).2.2≠3∨fl<q)then((k+1:Nat):Int)else p)):=by
    rw[DI cl o f k];have z:uq f ((k+1:Nat):Int)=((f+k+1:Nat):Int):=by unfold uq;rw[if_neg (by omega)];omega
    by_cases A:(aN cl o f k).2.2=0
    ·rw[if_neg (c:=(aN cl o f k).2.2≠0∧_) (fun x=>x.1 A),if_neg (by simp[A])];rfl
    ·rw[if_pos (c:=((aN cl o f k).2.2 != 0)=true) (by simpa using A)];by_cases g2:(aN cl o f k).2.2=3
     ·rw[if_neg (c:=((aN cl o f k).2.2 != 3)=true) (by simp[g2])];by_cases g3:fl<q
      ·rw[if_pos (c:=(aN cl o f k).2.2≠0∧_) ⟨A,.inr g3⟩,decide_eq_true g3,z];rfl
      ·rw[if_neg (c:=(aN cl o f k).2.2≠0∧_) (fun x=>x.2.elim (fun y=>y g2) g3),decide_eq_false g3];rfl
     ·rw[if_pos (c:=((aN cl o f k).2.2 != 3)=true) (by simpa using g2),if_pos (c:=(aN cl o f k).2.2≠0∧_) ⟨A,.inl g2⟩,z];rfl
   simp only[gD,B,O,V,X,I,N,and_self,decide_true,if_true,Option.bind_some,Int.toNat_natCast];rw[u];simp only[C,decide_false,Bool.false_eq_true,if_false,e3,Option.bind_some,q5];rw[←Option.bind_assoc,hb];rfl
theorem jQ(f:Qk)(o:QK)(fr:Nat){k:Nat}(h:0<k):o.getD (fr+k) 0=oH (aN f o fr) k:=by
 cases k with
 | zero=>omega
 | succ k=>rfl
theorem AG{q:Qk}(hc:zF q){o:QK}(E:o.length=q.length+1){f n:Nat}(hn:f+n≤q.length)(x:Int){j:Int}(z:1≤j)(A:j≤64)(I J L:Int)(M:QJ){a:Nat}(ha:a<n):
  mM q o ((f+a:Nat):Int) ((f+n:Nat):Int) x j I J L M =
   some (((f+a:Nat):Int),(((f+(la (aN q o f) n x j a).1:Nat):Int),(mi (aN q o f) j a (la (aN q o f) n x j a).1 (la (aN q o f) n x j a).2,(la (aN q o f) n x j a).2))):=by
 have hl:=hc.1;have N:i64.wrap (((f+a:Nat):Int)+1)=((f+a+1:Nat):Int):=bF (by omega);have B:=D5 hc E hn x z A a (n - a) a (-1) (a+1) 0 (by omega) (Nat.le_refl _);have hin:=uC (aN q o f) x j a (n - a) a (-1) (a+1) 0 (Nat.le_refl _) (.inl rfl) (by omega) (by omega);rw[Nat.sub_self]at B;simp only[fh]at B;unfold mM;have v:uq f (-1) = -1:=rfl;rw[v,show f+(a+1)=f+a+1 by omega]at B;rw[N,B,Option.bind_some];unfold la;generalize n8 (aN q o f) x j a (n - a) a (-1) (a+1) 0=p at hin;obtain⟨u,cut⟩:=p;simp only at hin ⊢;obtain⟨hb,O,V⟩:=hin;by_cases hp:0≤u
 ·obtain⟨b,rfl⟩:∃b:Nat,u=(b:Int):=⟨u.toNat,by omega⟩;have v:uq f (b:Int)=((f+b:Nat):Int):=by unfold uq;rw[if_neg (by omega)];omega
  rw[if_pos (c:=(0:Int)≤_) hp,v,Int.toNat_natCast];rw[if_pos (by rw[decide_eq_true_eq];omega),if_pos (by omega),Int.toNat_natCast,pC hc o z A (by omega) (by omega),kI q o f j (by omega),jQ q o f (by omega)];rfl
 ·have C:u = -1:=by omega
  subst C;rw[if_neg (c:=(0:Int)≤_) hp,v,if_neg (by decide)];have X:cut≤n:=by omega
  by_cases h1:cut=n
  ·subst h1;rw[if_pos (by simp),if_pos (by omega),Int.toNat_natCast];simp only[Option.bind_some,Int.lt_irrefl,decide_false,Bool.false_eq_true,if_false,Nat.lt_irrefl,false_and,if_true];rw[pC hc o z A (by omega) (by omega),kI q o f j (by omega),jQ q o f (by omega)];rfl
  ·have h2:((((f+cut:Nat):Int)) == ((f+n:Nat):Int))=false:=by rw[beq_eq_false_iff_ne];omega
   have Y:((f+cut:Nat):Int)<((f+n:Nat):Int):=by omega
   have Z:cut<n:=by omega
   simp only[h2,Bool.false_eq_true,if_false,Option.bind_some,Y,decide_true,if_true,Z,true_and,h1];rw[if_pos (c:=0≤((f+cut:Nat):Int)∧_) (by omega),Int.toNat_natCast,jQ q o f (by omega)];by_cases D:oH (aN q o f) cut=1
   ·simp only[D,Option.bind_some,if_true,BEq.rfl];rw[pC hc o z A (by omega) (by omega),kI q o f j (by omega)];rfl
   ·have h6:(oH (aN q o f) cut == 1)=false:=by rw[beq_eq_false_iff_ne];exact D
    simp only[D,h6,Option.bind_some,if_false,Bool.false_eq_true];rw[pC hc o z A (by omega) (by omega),kI q o f j (by omega)];rfl
theorem E8(x:bV)(l:Qk)(b:Int):ja (x::l) b=(x.1+b,(x.2.1+b,x.2.2))::ja l b:=rfl
theorem Dy(d:Dt)(j:Int)(a b f:Nat)(e:Int):ja [Kz d j a b e] (f:Int)=[(((f+a:Nat):Int),(((f+b:Nat):Int),(mi d j a b e,e)))]:=by
 simp only[ja,Kz,List.map_cons,List.map_nil];rw[show(a:Int)+(f:Int)=((f+a:Nat):Int) by omega,show(b:Int)+(f:Int)=((f+b:Nat):Int) by omega]
theorem wY{p:Qk}(hc:zF p){o:QK}(C:o.length=p.length+1){f n:Nat}(hn:f+n≤p.length)(q:Int){j:Int}(D:1≤j)(E:j≤64)(v z A:Int)(B:QJ):
  jT p o (f:Int) ((f+n:Nat):Int) q j v z A B=some (ja (fm (aN p o f) n q j n 0) (f:Int)):=by
 have hl:=hc.1;have key:∀m a out,a≤n→n≤a+m→out.length≤a→iter (fq p o ((f+n:Nat):Int) q j v z A B) (((f+a:Nat):Int),out)=some (out++ja (fm (aN p o f) n q j m a) (f:Int)):=fun m=>by
  induction m with
  | zero =>
   intro a out h1 h2 I;obtain rfl:a=n:=by omega
   have u:¬(((f+a:Nat):Int)<((f+a:Nat):Int)):=by omega
   exact cr (by simp only[fq,u,decide_false,Bool.false_eq_true,if_false,fm,ja,List.map_nil,List.append_nil])
  | succ m J =>
   intro a out h1 h2 I;by_cases ha:a<n
   ·have hin:=rm (aN p o f) q j ha;have u:((f+a:Nat):Int)<((f+n:Nat):Int):=by omega
    simp only[fm];rw[if_pos ha,show ∀(x:bV) l,ja (x::l) (f:Int)=ja [x] (f:Int)++ja l (f:Int)from fun _ _=>rfl,Dy,←List.append_assoc];rw[←J _ _ hin.2 (by omega) (by simp;omega)];refine dO ?_;simp only[fq,u,decide_true,if_true,AG hc C hn q D E v z A B ha,Option.bind_some,List.length_singleton];rw[if_pos (by omega)]
   ·obtain rfl:a=n:=by omega
    have u:¬(((f+a:Nat):Int)<((f+a:Nat):Int)):=by omega
    simp only[fm];rw[if_neg ha];exact cr (by simp only[fq,u,decide_false,Bool.false_eq_true,if_false,ja,List.map_nil,List.append_nil])
 have:=key n 0 [] (by omega) (by omega) (by simp);rw[Nat.add_zero,List.nil_append]at this;unfold jT;rw[this];rfl
abbrev Wy:=Int×Int×Int×Int×Int×QJ
def iY(c:Wy)(op e n g:Int)(last:Bool):Int×Bool:=(dS [] [op] 0 e n g last c.1 c.2.1 c.2.2.1 c.2.2.2.1 c.2.2.2.2.1 c.2.2.2.2.2).getD (0,false)
def gH(d:Dt)(n:Nat)(c:Wy)(all:Nat→Int×Int)(a:Nat):Nat→Nat→Int→Int→Int→Int→Int→Int×Int
 | 0,_,j,q,_,_,_=>(j,q)
 | m+1,k,j,q,full,sp,u =>
  let s:=if(d k).2.1=1 then i64.wrap (sp+1)else sp
  let f:=if j5 (d k)=true then(full,u)else(fh d c.2.1 a (k+1 - a),s)
  if f.1 > c.1 then(j,q)
  else if(d k).2.2=0∨(k+1<n∧(all (k+1)).2<0)then gH d n c all a m (k+1) j q f.1 s f.2
  else
   let p:=iY c (oH d a) (d k).2.2 (if(d k).2.2=3 then i64.wrap (f.1+1)else f.1) f.2 (k+1 == n)
   if p.2=true∧(q<0∨i64.wrap (p.1+(all (k+1)).1)<j)then gH d n c all a m (k+1) (i64.wrap (p.1+(all (k+1)).1)) ((k+1:Nat):Int) f.1 s f.2
   else gH d n c all a m (k+1) j q f.1 s f.2
def uf(d:Dt)(n:Nat)(c:Wy)(a:Nat)(l:Qq):Int×Int :=
 if a=0∨oH d a≠0 then gH d n c (fun k=>l.getD (k - a - 1) (0,0)) a (n - a) a 0 (-1) 0 0 0 else(0,-1)
def dV(d:Dt)(n:Nat)(c:Wy):Nat→Qq
 | 0=>[(0,0)]
 | j+1=>uf d n c (n - (j+1)) (dV d n c j)::dV d n c j
def je(d:Dt)(n:Nat)(f:Int)(T:Qq):Nat→Nat→Qk
 | 0,_=>[]
 | m+1,a=>if a<n then Kz d f a (T.getD a (0,0)).2.toNat (oH d (T.getD a (0,0)).2.toNat)::je d n f T m (T.getD a (0,0)).2.toNat else[]
def pV(d:Dt)(n:Nat)(c:Wy):Option Qk :=
 if n=0 then some []else if((dV d n c n).getD 0 (0,0)).2<0 then none else some (je d n c.2.1 (dV d n c n) n 0)
def gI(d:Dt)(n:Nat)(c:Wy):Qk×Bool :=
 if c.2.2.1=1 then(match pV d n c with
  | some l=>(l,false)
  | none=>(fm d n c.1 c.2.1 n 0,true))else(fm d n c.1 c.2.1 n 0,false)
theorem rN(d:Dt)(n:Nat)(c:Wy)(all:Nat→Int×Int)(a:Nat):∀m k j q full sp u,a≤k→k+m=n→(q = -1∨((a:Int)<q∧q≤(n:Int)∧(q<(n:Int)→0≤(all q.toNat).2))) →
  (gH d n c all a m k j q full sp u).2 = -1∨((a:Int)<(gH d n c all a m k j q full sp u).2∧(gH d n c all a m k j q full sp u).2≤(n:Int)∧((gH d n c all a m k j q full sp u).2<(n:Int)→0≤(all (gH d n c all a m k j q full sp u).2.toNat).2))
 | 0,k,j,q,full,sp,u,_,_,h=>h
 | m+1,k,j,q,full,sp,u,z,h1,h=>by
  simp only[gH];generalize (if j5 (d k)=true then(full,u)else(fh d c.2.1 a (k+1 - a),(if(d k).2.1=1 then i64.wrap (sp+1)else sp)))=f;generalize iY c (oH d a) (d k).2.2 (if(d k).2.2=3 then i64.wrap (f.1+1)else f.1) f.2 (k+1 == n)=p;split
  ·exact h
  ·split
   ·exact rN d n c all a m (k+1) _ _ _ _ _ (by omega) (by omega) h
   ·rename_i hn;split
    ·refine rN d n c all a m (k+1) _ _ _ _ _ (by omega) (by omega) (.inr ⟨by omega,by omega,fun v=>?_⟩);rw[Int.toNat_natCast];have:¬(all (k+1)).2<0:=fun x=>hn (.inr ⟨by omega,x⟩)
     omega
    ·exact rN d n c all a m (k+1) _ _ _ _ _ (by omega) (by omega) h
theorem oA{d v:Dt}{n:Nat}(h:∀j,j<n→d j=v j)(c:Wy)(all q:Nat→Int×Int)(a:Nat)(ha:a≤n)(x:∀k,a<k→k≤n→all k=q k):∀m k u A full sp z,a≤k→k+m=n →
  gH d n c all a m k u A full sp z=gH v n c q a m k u A full sp z
 | 0,_,_,_,_,_,_,_,_=>rfl
 | m+1,k,u,A,full,sp,z,B,h1=>by
  simp only[gH];rw[h k (by omega),nM h c.2.1 a (k+1 - a) (by omega),x (k+1) (by omega) (by omega),kM h ha];generalize (if j5 (v k)=true then(full,z)else(fh v c.2.1 a (k+1 - a),(if(v k).2.1=1 then i64.wrap (sp+1)else sp)))=f;generalize iY c (oH v a) (v k).2.2 (if(v k).2.2=3 then i64.wrap (f.1+1)else f.1) f.2 (k+1 == n)=p;split
  ·rfl
  ·split
   ·exact oA h c all q a ha x m (k+1) _ _ _ _ _ (by omega) (by omega)
   ·split <;> exact oA h c all q a ha x m (k+1) _ _ _ _ _ (by omega) (by omega)
theorem uL{d f:Dt}{n:Nat}(h:∀j,j<n→d j=f j)(c:Wy):∀j,j≤n→dV d n c j=dV f n c j
 | 0,_=>rfl
 | j+1,p=>by
  simp only[dV,uL h c j (by omega)];unfold uf;rw[kM h (show n - (j+1)≤n by omega),oA h c _ _ (n - (j+1)) (by omega) (fun _ _ _=>rfl) _ _ _ _ _ _ _ (Nat.le_refl _) (by omega)]
theorem DX(d:Dt)(n:Nat)(c:Wy):∀j i,j≤n→i<j→((dV d n c j).getD i (0,0)).2 = -1∨(((n - j+i:Nat):Int)<((dV d n c j).getD i (0,0)).2∧((dV d n c j).getD i (0,0)).2≤(n:Int) ∧
   (((dV d n c j).getD i (0,0)).2<(n:Int)→0≤((dV d n c j).getD (((dV d n c j).getD i (0,0)).2.toNat - (n - j)) (0,0)).2))
 | 0,i,_,hi=>by omega
 | j+1,0,A,_=>by
  simp only[dV,List.getD_cons_zero,Nat.add_zero];unfold uf;split
  ·have:=rN d n c (fun k=>(dV d n c j).getD (k - (n - (j+1)) - 1) (0,0)) (n - (j+1)) (n - (n - (j+1))) (n - (j+1)) 0 (-1) 0 0 0 (Nat.le_refl _) (by omega) (.inl rfl);generalize gH d n c (fun k=>(dV d n c j).getD (k - (n - (j+1)) - 1) (0,0)) (n - (j+1)) (n - (n - (j+1))) (n - (j+1)) 0 (-1) 0 0 0=r at this;rcases this with e | ⟨v,p,q⟩
   ·exact .inl e
   ·refine .inr ⟨v,p,fun f=>?_⟩;have:=q f;obtain⟨x,u⟩:∃x,r.2.toNat - (n - (j+1))=x+1:=⟨r.2.toNat - (n - (j+1)) - 1,by omega⟩;rw[u,List.getD_cons_succ];rw[show r.2.toNat - (n - (j+1)) - 1=x by omega]at this;exact this
  ·exact .inl rfl
 | j+1,i+1,A,hi=>by
  have z:=DX d n c j i (by omega) (by omega);simp only[dV,List.getD_cons_succ];generalize (dV d n c j).getD i (0,0)=r at z;rcases z with e | ⟨v,p,q⟩
  ·exact .inl e
  ·refine .inr ⟨by omega,p,fun f=>?_⟩;have:=q f;obtain⟨x,u⟩:∃x,r.2.toNat - (n - (j+1))=x+1:=⟨r.2.toNat - (n - (j+1)) - 1,by omega⟩;rw[u,List.getD_cons_succ,show x=r.2.toNat - (n - j) by omega];exact this
theorem tD{d q:Dt}{n:Nat}(h:∀j,j<n→d j=q j)(p:Int)(T:Qq)(hT:∀a,a<n→0≤(T.getD a (0,0)).2→(a:Int)<(T.getD a (0,0)).2∧(T.getD a (0,0)).2≤(n:Int)∧((T.getD a (0,0)).2<(n:Int)→0≤(T.getD (T.getD a (0,0)).2.toNat (0,0)).2)):∀m a,(a<n→0≤(T.getD a (0,0)).2)→je d n p T m a=je q n p T m a
 | 0,_,_=>rfl
 | m+1,a,ha=>by
  simp only[je];by_cases f:a<n
  ·obtain⟨h1,h2,u⟩:=hT a f (ha f);rw[if_pos f,if_pos f,tD h p T hT m _ (fun v=>u (by omega)),kM h (k:=(T.getD a (0,0)).2.toNat) (by omega)];unfold Kz;rw[rv h p (by omega) (by omega)]
  ·rw[if_neg f,if_neg f]
theorem rK(d:Dt)(n:Nat)(c:Wy):∀a,a<n→0≤((dV d n c n).getD a (0,0)).2→(a:Int)<((dV d n c n).getD a (0,0)).2∧((dV d n c n).getD a (0,0)).2≤(n:Int)∧(((dV d n c n).getD a (0,0)).2<(n:Int)→0≤((dV d n c n).getD ((dV d n c n).getD a (0,0)).2.toNat (0,0)).2):=fun a ha h=>by
 rcases DX d n c n a (Nat.le_refl _) ha with e | ⟨p,j,f⟩
 ·omega
 ·rw[Nat.sub_self,Nat.sub_zero]at f;exact⟨by omega,j,f⟩
theorem BP{d f:Dt}{n:Nat}(h:∀j,j<n→d j=f j)(c:Wy):gI d n c=gI f n c:=by
 have hb:pV d n c=pV f n c:=by
  unfold pV;rw[uL h c n (Nat.le_refl _)];by_cases p:n=0
  ·rw[if_pos p,if_pos p]
  ·rw[if_neg p,if_neg p];by_cases h1:((dV f n c n).getD 0 (0,0)).2<0
   ·rw[if_pos h1,if_pos h1]
   ·rw[if_neg h1,if_neg h1,tD h c.2.1 _ (rK f n c) n 0 (fun _=>by omega)]
 unfold gI;rw[hb,qW h]
end
end Go.Proofs.YtobbjfkfmdiklaaGreatDoor.T
