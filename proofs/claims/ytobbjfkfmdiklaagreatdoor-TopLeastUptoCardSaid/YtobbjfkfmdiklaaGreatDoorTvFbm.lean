import Derived.Test.YtobbjfkfmdiklaaGreatDoorTvSdm
import Derived.Test.YtobbjfkfmdiklaaGreatDoorTv50im
namespace Go.Tv
open Go
open Go.IntKind (i64)
def FP(a:QJ):Prop:=∀n,a=some n→n<9223372036854775808
theorem FP.abs(a:QJ):FP (wu a):=fun n h=>by
 cases a with
 | none=>cases h
 | some b=>cases h;exact Nat.mod_lt _ (by decide)
theorem wv{n:Nat}(h:n<9223372036854775808):(∃m i,FloatKind.f64.format.read n = .number false m i)∨FloatKind.f64.format.read n = .infinity false∨∃t,FloatKind.f64.format.read n = .nan false t:=by
 have f:FloatKind.f64.format.signWeight=9223372036854775808:=rfl;have e:(n / FloatKind.f64.format.signWeight % 2 == 1)=false:=by rw[f,Nat.div_eq_of_lt h];rfl
 unfold Ieee.Format.read;simp only[e];split
 ·exact .inl ⟨_,_,rfl⟩
 ·split
  ·exact .inl ⟨_,_,rfl⟩
  ·split
   ·exact .inr (.inl rfl)
   ·exact .inr (.inr ⟨_,rfl⟩)
theorem Fi(m:Nat)(i:Int):FloatKind.f64.format.write (.number false m i)<9223372036854775808:=by
 have hi:FloatKind.f64.format.infRung=9218868437227405312:=by decide
 have f:∀r,r≤FloatKind.f64.format.infRung→FloatKind.f64.format.word false r<9223372036854775808:=fun r j=>by
  rw[hi]at j;unfold Ieee.Format.word;simp
  omega
 show FloatKind.f64.format.nearest false m i<_;unfold Ieee.Format.nearest;split
 ·exact f 0 (Nat.zero_le _)
 ·exact f _ (Nat.min_le_right _ _)
theorem yN:FloatKind.f64.format.write (.infinity false)<9223372036854775808:=by decide
theorem FP.mul{a b:QJ}(ha:FP a)(hb:FP b):FP (bR .mul a b):=fun n h=>by
 cases a with
 | none=>cases h
 | some x =>
  cases b with
  | none=>cases h
  | some y =>
   have h1:=wv (ha x rfl);have h2:=wv (hb y rfl);simp only[bR,Mi,Ieee.Format.mul]at h;have key:∀d,(FloatKind.f64.format.read x).product (FloatKind.f64.format.read y)=some d→FloatKind.f64.format.write d<9223372036854775808:=fun d hd=>by
    rcases h1 with⟨f,j,h1⟩ | h1 | ⟨p,h1⟩ <;> rcases h2 with⟨q,u,h2⟩ | h2 | ⟨v,h2⟩ <;> rw[h1,h2]at hd <;> simp only[Ieee.Datum.product]at hd
    all_goals first
     | (cases hd;first | exact Fi _ _ | exact yN)
     | (split at hd <;> cases hd;exact yN)
     | cases hd
   cases hp:(FloatKind.f64.format.read x).product (FloatKind.f64.format.read y)with
   | none=>rw[hp]at h;cases h
   | some d =>
    rw[hp]at h;simp only[Option.map_some,Option.bind_some]at h;rw[j5 h];exact key d hp
theorem HI(n d B:Nat)(h:n<B*2 ^ d):Ieee.Toward.cut .zero false n d≤B:=by
 unfold Ieee.Toward.cut;simp only[Bool.toNat_false,Nat.add_zero,Nat.one_shiftLeft];rcases Nat.le_total d (n.log2+2)with hd | hd
 ·rw[Nat.min_eq_left hd];exact Nat.le_of_lt (Nat.div_lt_of_lt_mul (by rw[Nat.mul_comm];exact h))
 ·rw[Nat.min_eq_right hd];have h1:n<2 ^ (n.log2+2):=by
   by_cases f:n=0
   ·subst f;exact Nat.two_pow_pos _
   ·have:=(Nat.log2_lt f (k:=n.log2+2)).1 (by omega);exact this
  rw[Nat.div_eq_of_lt h1];exact Nat.zero_le _
theorem FP.int{a:QJ}(ha:FP a){c B k:Nat}(hc:FloatKind.f64.format.read c = .number false (B*2 ^ k) (-(k:Int)))(h:KQ a (some c)=true):
  ∃n:Nat,ox a=some (n:Int)∧n≤B:=by
 cases a with
 | none=>simp[KQ,uM]at h
 | some x =>
  simp only[KQ,uM,Ieee.Format.order,hc]at h;rcases wv (ha x rfl)with⟨m,i,h1⟩ | h1 | ⟨t,h1⟩
  ·rw[h1]at h;refine⟨Ieee.Toward.cut .zero false (m <<< i.toNat) (-i).toNat,?_,HI _ _ _ ?_⟩
   ·unfold ox;simp only[Option.bind_some,FloatKind.decode,h1];rfl
   ·simp only[Ieee.Datum.order,Ieee.signed,Bool.false_eq_true,if_false,beq_iff_eq,Option.some.injEq]at h;have h':(m <<< (i - min i (-(k:Int))).toNat)<((B*2 ^ k) <<< (-(k:Int) - min i (-(k:Int))).toNat):=by
     rw[Int.compare_eq_lt]at h
     exact_mod_cast h
    simp only[Nat.shiftLeft_eq]at h' ⊢;rcases Int.le_total 0 i with hi | hi
    ·obtain⟨j,rfl⟩:∃j:Nat,i=(j:Int):=⟨i.toNat,by omega⟩;rw[show((j:Int) - min (j:Int) (-(k:Int))).toNat=j+k by omega,show(-(k:Int) - min (j:Int) (-(k:Int))).toNat=0 by omega,Nat.pow_add,←Nat.mul_assoc,Nat.pow_zero,Nat.mul_one]at h';rw[show((j:Int)).toNat=j by omega,show(-(j:Int)).toNat=0 by omega,Nat.pow_zero,Nat.mul_one];exact Nat.lt_of_mul_lt_mul_right h'
    ·obtain⟨j,rfl⟩:∃j:Nat,i = -(j:Int):=⟨(-i).toNat,by omega⟩;rw[show(-(j:Int)).toNat=0 by omega,show(-(-(j:Int))).toNat=j by omega,Nat.pow_zero,Nat.mul_one];rcases Nat.le_total j k with f | f
     ·rw[show(-(j:Int) - min (-(j:Int)) (-(k:Int))).toNat=k - j by omega,show(-(k:Int) - min (-(j:Int)) (-(k:Int))).toNat=0 by omega,Nat.pow_zero,Nat.mul_one,show(2:Nat) ^ k=2 ^ j*2 ^ (k - j) by rw[←Nat.pow_add];congr 1;omega,←Nat.mul_assoc]at h';exact Nat.lt_of_mul_lt_mul_right h'
     ·rw[show(-(j:Int) - min (-(j:Int)) (-(k:Int))).toNat=0 by omega,show(-(k:Int) - min (-(j:Int)) (-(k:Int))).toNat=j - k by omega,Nat.pow_zero,Nat.mul_one,Nat.mul_assoc,←Nat.pow_add,show k+(j - k)=j by omega]at h';exact h'
  ·rw[h1]at h;simp[Ieee.Datum.order]at h
  ·rw[h1]at h;simp[Ieee.Datum.order]at h
end Go.Tv
namespace Go.Proofs.YtobbjfkfmdiklaaGreatDoor.T
open Go Go.Tv Go.Proofs
open Go.IntKind (i64)
noncomputable section
theorem wH(r:QJ):∃b:Int,hI r=some b∧0≤b∧b≤10000:=by
 have j:eD 4666723172467343360=some 4666723172467343360:=by decide
 have f:FloatKind.f64.format.read 4666723172467343360 = .number false (10000*2 ^ 39) (-((39:Nat):Int)):=by decide
 have p:FP (bR .mul (bR .mul (bR .mul (eD 4636737291354636288) (wu r)) (wu r)) (wu r)) :=
  FP.mul (FP.mul (FP.mul (fun n h=>by rw[j5 h];decide) (FP.abs r)) (FP.abs r)) (FP.abs r)
 unfold hI nz vN;simp only[Option.bind_some];generalize (bR .mul (bR .mul (bR .mul (eD 4636737291354636288) (wu r)) (wu r)) (wu r))=x at p;by_cases h1:(!(Lf r r))=true
 ·rw[if_pos h1];exact⟨0,rfl,by omega,by omega⟩
 ·rw[if_neg h1,j];by_cases h2:KQ x (some 4666723172467343360)=true
  ·obtain⟨n,e,hn⟩:=p.int f h2;rw[if_neg (by simp[h2]),e];simp only[Option.isSome,Option.getD];rw[if_pos ⟨by first | rfl | trivial,by simp[IntKind.min,IntKind.bits,IntKind.signed];try omega,by simp[IntKind.max,IntKind.bits,IntKind.signed];omega⟩];exact⟨n,rfl,by omega,by omega⟩
  ·rw[if_pos (by simp[h2])];exact⟨10000,rfl,by omega,by omega⟩
theorem HZ{o:QK}{fr:Nat}(E:fr<o.length)(cl:Qw)(e n g:Int)(last:Bool)(p C D u x:Int)(z:QJ):∃v b,dE cl o (fr:Int) e n g last p C D u x z=some (v,b):=by
 unfold dE;split
 ·exact⟨_,_,rfl⟩
 ·have q:0≤(fr:Int)∧(fr:Int)<(o.length:Int):=by omega
  have tail:∀f:Int,∃v b,(((if(e == (3:Int))=true then(if 0≤(fr:Int)∧(fr:Int)<(o.length:Int)then(if((o.getD (fr:Int).toNat (0:Int)) == (3:Int))=true then some ((i64.wrap ((i64.wrap ((i64.wrap ((i64.wrap ((10:Int)+f))*(i64.wrap ((10:Int)+f))))+u))+x)))
    else some ((i64.wrap ((i64.wrap ((i64.wrap ((10:Int)+f))*(i64.wrap ((10:Int)+f))))+u))))else none)
    else some ((i64.wrap ((i64.wrap ((10:Int)+f))*(i64.wrap ((10:Int)+f))))))).bind fun j=>some (j,true))=some (v,b):=fun f=>by
   by_cases A:(e == 3)=true
   ·rw[if_pos A,if_pos q];split <;> exact⟨_,_,rfl⟩
   ·rw[if_neg A];exact⟨_,_,rfl⟩
  cases last with
  | true=>exact tail 0
  | false =>
   obtain⟨b,hb,-⟩:=wH (bR .quo (ofInt (i64.wrap (p - n))) (ofInt g));simp only[Bool.not_false,if_true,oT,lA,Option.bind_some];by_cases B:(!(!(Md (bR .quo (ofInt (i64.wrap (p - n))) (ofInt g)) z)))=true
   ·rw[if_pos B];exact⟨_,_,rfl⟩
   ·rw[if_neg B,hb];simp only[Option.bind_some];exact tail b
abbrev Dt:=Nat→Int×Int×Int
def aH(cl:Qw)(o:QK)(fr:Nat):Dt:=fun j=>((cl.getD (fr+j) c0).2.2.1,(cl.getD (fr+j) c0).2.2.2,o.getD (fr+j+1) 0)
def iD(x:Int×Int×Int):Bool:=x.2.1 == 1 || (x.2.1 == 0 && x.1 == 0)
def dD(d:Dt)(f:Int)(a:Nat):Nat→Int
 | 0=>0
 | k+1=>if(d (a+k)).2.1=2 then dD d f a k+f - dD d f a k % f else dD d f a k+(d (a+k)).1
def gR(d:Dt)(a:Nat):Nat→Nat
 | 0=>0
 | n+1=>if a<n+1∧iD (d n)=true then gR d a n else n+1
def kx(d:Dt)(f:Int)(a b:Nat)(e:Int):Int:=dD d f a (gR d a b - a)+(if e=3 then 1 else 0)
theorem nA(cl:Qw)(o:QK)(fr:Nat)(f:Int)(a:Nat):∀k,p7 cl f (fr+a) k=dD (aH cl o fr) f a k
 | 0=>rfl
 | k+1=>by
  have e:fr+a+k=fr+(a+k):=by omega
  simp only[p7,dD,uo,nA cl o fr f a k,aH,e];rfl
theorem vl(cl:Qw)(o:QK)(j a:Nat):∀b,a≤b→dN cl (j+a) (j+b)=j+gR (aH cl o j) a b
 | 0,h=>by
  obtain rfl:a=0:=by omega
  cases j with
  | zero=>rfl
  | succ f=>simp[dN,gR]
 | b+1,h=>by
  have u:j+(b+1)=(j+b)+1:=by omega
  rw[u];simp only[dN,gR];by_cases hb:a<b+1
  ·have q:qz (cl.getD (j+b) c0)=iD (aH cl o j b):=rfl;by_cases p:iD (aH cl o j b)=true
   ·rw[if_pos ⟨by omega,by rw[q];exact p⟩,if_pos ⟨hb,p⟩];exact vl cl o j a b (by omega)
   ·rw[if_neg (fun x=>p (by rw[←q];exact x.2)),if_neg (fun x=>p x.2)];omega
  ·rw[if_neg (fun x=>hb (by omega)),if_neg (fun x=>hb x.1)];omega
theorem kd(d:Dt)(a:Nat):∀b,a≤b→a≤gR d a b∧gR d a b≤b
 | 0,h=>by simp only[gR];omega
 | b+1,h=>by
  simp only[gR];split
  ·rename_i f;have:=kd d a b (by omega);omega
  ·omega
theorem lh(cl:Qw)(o:QK)(f:Nat)(j:Int){a b:Nat}(h:a≤b)(e:Int):qt cl j (f+a) (f+b) e=kx (aH cl o f) j a b e:=by
 unfold qt kx;have:=kd (aH cl o f) a b h;rw[vl cl o f a b h,show f+gR (aH cl o f) a b - (f+a)=gR (aH cl o f) a b - a by omega,nA cl o f]
theorem nS{d p:Dt}{n:Nat}(h:∀j,j<n→d j=p j)(f:Int)(a:Nat):∀k,a+k≤n→dD d f a k=dD p f a k
 | 0,_=>rfl
 | k+1,hk=>by
  simp only[dD,nS h f a k (by omega),h (a+k) (by omega)]
theorem tU{d f:Dt}{n:Nat}(h:∀j,j<n→d j=f j)(a:Nat):∀b,b≤n→gR d a b=gR f a b
 | 0,_=>rfl
 | b+1,hb=>by simp only[gR,tU h a b (by omega),h b (by omega)]
theorem sA{d p:Dt}{n:Nat}(h:∀j,j<n→d j=p j)(f:Int){a b:Nat}(q:a≤b)(hb:b≤n)(e:Int):kx d f a b e=kx p f a b e:=by
 unfold kx;have:=kd p a b q;rw[tU h a b hb,nS h f a _ (by omega)]
def ll(d:Dt):Nat→Int
 | 0=>0
 | k+1=>(d k).2.2
def oy(d:Dt)(p j:Int)(a:Nat):Nat→Nat→Int→Nat→Int→Int×Nat
 | 0,_,f,cut,_=>(f,cut)
 | m+1,k,f,cut,full =>
  let fl:=if iD (d k)=true then full else dD d j a (k+1 - a)
  if fl > p then(f,cut)
  else oy d p j a m (k+1) (if(d k).2.2≠0∧((d k).2.2≠3∨fl<p)then((k+1:Nat):Int)else f) (k+1) fl
def lJ(d:Dt)(n:Nat)(j f:Int)(a:Nat):Nat×Int :=
 let p:=oy d j f a (n - a) a (-1) (a+1) 0
 if 0≤p.1 then(p.1.toNat,ll d p.1.toNat)
 else(p.2,if p.2<n∧ll d p.2=1 then 1 else if p.2=n then ll d n else 4)
def La(d:Dt)(f:Int)(a b:Nat)(e:Int):bK:=((a:Int),((b:Int),(kx d f a b e,e)))
def fx(d:Dt)(n:Nat)(j f:Int):Nat→Nat→Qw
 | 0,_=>[]
 | m+1,a=>if a<n then La d f a (lJ d n j f a).1 (lJ d n j f a).2::fx d n j f m (lJ d n j f a).1 else[]
def gI(l:Qw)(Lw:Int):Qw:=l.map fun x=>(x.1+Lw,(x.2.1+Lw,x.2.2))
theorem u3(d:Dt)(p j:Int)(a:Nat):∀m k f cut full,a≤k→(f = -1∨((a:Int)<f∧f≤((k+m:Nat):Int)))→a<cut→cut≤max (a+1) (k+m) →
  ((oy d p j a m k f cut full).1 = -1∨((a:Int)<(oy d p j a m k f cut full).1∧(oy d p j a m k f cut full).1≤((k+m:Nat):Int)))∧a<(oy d p j a m k f cut full).2∧(oy d p j a m k f cut full).2≤max (a+1) (k+m)
 | 0,k,f,cut,full,_,h1,h2,q=>⟨h1,h2,q⟩
 | m+1,k,f,cut,full,v,h1,h2,q=>by
  simp only[oy];generalize (if iD (d k)=true then full else dD d j a (k+1 - a))=fl;by_cases u:fl > p
  ·rw[if_pos u];exact⟨h1,h2,q⟩
  ·rw[if_neg u];have:=u3 d p j a m (k+1) (if(d k).2.2≠0∧((d k).2.2≠3∨fl<p)then((k+1:Nat):Int)else f) (k+1) fl (by omega) (by split <;> omega) (by omega) (by omega);rw[show k+1+m=k+(m+1) by omega]at this;exact this
theorem sn(d:Dt){n:Nat}(j f:Int){a:Nat}(h:a<n):a<(lJ d n j f a).1∧(lJ d n j f a).1≤n:=by
 have:=u3 d j f a (n - a) a (-1) (a+1) 0 (Nat.le_refl _) (.inl rfl) (by omega) (by omega);unfold lJ;simp only;split <;> simp only <;> omega
theorem wI{d q:Dt}{n:Nat}(h:∀j,j<n→d j=q j)(u f:Int)(a:Nat):∀m k p cut full,a≤k→k+m≤n→oy d u f a m k p cut full=oy q u f a m k p cut full
 | 0,_,_,_,_,_,_=>rfl
 | m+1,k,p,cut,full,h1,h2=>by
  simp only[oy];rw[h k (by omega),nS h f a (k+1 - a) (by omega)];generalize (if iD (q k)=true then full else dD q f a (k+1 - a))=fl;split
  ·rfl
  ·exact wI h u f a m (k+1) _ _ _ (by omega) (by omega)
theorem kY{d f:Dt}{n:Nat}(h:∀j,j<n→d j=f j):∀ {k:Nat},k≤n→ll d k=ll f k
 | 0,_=>rfl
 | k+1,hk=>by simp only[ll,h k (by omega)]
theorem Cu{d u:Dt}{n:Nat}(h:∀j,j<n→d j=u j)(q f:Int){a:Nat}(ha:a<n):lJ d n q f a=lJ u n q f a:=by
 have hin:=u3 u q f a (n - a) a (-1) (a+1) 0 (Nat.le_refl _) (.inl rfl) (by omega) (by omega);unfold lJ;rw[wI h q f a (n - a) a (-1) (a+1) 0 (Nat.le_refl _) (by omega)];generalize oy u q f a (n - a) a (-1) (a+1) 0=p at hin;simp only;by_cases hp:0≤p.1
 ·rw[if_pos hp,if_pos hp,kY h (k:=p.1.toNat) (by omega)]
 ·rw[if_neg hp,if_neg hp,kY h (k:=p.2) (by omega),kY h (Nat.le_refl n)]
theorem rE{d q:Dt}{n:Nat}(h:∀j,j<n→d j=q j)(p f:Int):∀m a,fx d n p f m a=fx q n p f m a
 | 0,_=>rfl
 | m+1,a=>by
  simp only[fx];by_cases ha:a<n
  ·have:=sn q p f ha;rw[if_pos ha,if_pos ha,Cu h p f ha,rE h p f m];unfold La;rw[sA h f (Nat.le_of_lt this.1) this.2]
  ·rw[if_neg ha,if_neg ha]
def uI(fr:Nat)(b:Int):Int:=if b<0 then -1 else b+(fr:Int)
theorem DW(cl:Qw)(o:QK)(fr j:Nat):o.getD (fr+j+1) 0=(aH cl o fr j).2.2:=rfl
theorem El{cl:Qw}(hc:uT cl){o:QK}(ho:o.length=cl.length+1){f n:Nat}(hn:f+n≤cl.length)(q:Int){j:Int}(D:1≤j)(E:j≤64)(a:Nat):∀m k p cut full,k+m=n→a≤k →
  iter (gD cl o ((f+n:Nat):Int) q j) (uI f p,((f+cut:Nat):Int),dD (aH cl o f) j a (k - a),full,((f+k+1:Nat):Int)) =
   some (uI f (oy (aH cl o f) q j a m k p cut full).1,((f+(oy (aH cl o f) q j a m k p cut full).2:Nat):Int))
 | 0,k,p,cut,full,hk,ha=>by
  have B:¬(((f+k+1:Nat):Int)≤((f+n:Nat):Int)):=by omega
  exact cR (by simp only[gD,B,decide_false,Bool.false_eq_true,if_false,oy])
 | m+1,k,p,cut,full,hk,ha=>by
  have hl:=hc.1;have v:=nA cl o f j a;obtain⟨Y,b1⟩:=nC hc D E (f+a) (k - a) (by omega);obtain⟨I,-,-⟩:=sa (c:=cl.getD (f+k) c0) Y (by omega) D E (hc.2 _).1 (hc.2 _).2;have J:uo (cl.getD (f+k) c0) (p7 cl j (f+a) (k - a)) j=dD (aH cl o f) j a (k+1 - a):=by rw[←v,show k+1 - a=(k - a)+1 by omega];simp only[p7];rw[show f+a+(k - a)=f+k by omega]
  rw[J,v]at I;obtain⟨N,-,-⟩:=pT (cl:=cl) o (show f+k≤f+k+1 by omega) (by omega) (by omega);have Z:=uW cl (o:=o) (i:=f+k+1) (by omega);have B:((f+k+1:Nat):Int)≤((f+n:Nat):Int):=by omega
  have O:i64.wrap (((f+k+1:Nat):Int) - 1)=((f+k:Nat):Int):=lQ (by omega);have V:0≤((f+k:Nat):Int):=by omega
  have X:((f+k:Nat):Int)<(cl.length:Int):=by omega
  have q5:i64.wrap (((f+k+1:Nat):Int)+1)=((f+(k+1)+1:Nat):Int):=bD (by omega);have ht:(((dN cl (f+k) (f+k+1):Nat):Int) == ((f+k+1:Nat):Int)) = !(iD (aH cl o f k)):=by
   have hh:qz (cl.getD (f+k) c0)=iD (aH cl o f k):=rfl;have:=(pT (cl:=cl) o (show f+k≤f+k by omega) (by omega) (by omega)).2.2;simp only[dN];rw[hh];cases he:iD (aH cl o f k)with
   | true =>
    rw[if_pos ⟨by omega,rfl⟩,Bool.not_true,beq_eq_false_iff_ne];omega
   | false =>rw[if_neg (fun x=>by cases x.2)];simp
  have u:(if(((dN cl (f+k) (f+k+1):Nat):Int) == ((f+k+1:Nat):Int))=true then some (dD (aH cl o f) j a (k+1 - a))else some full)=some (if iD (aH cl o f k)=true then full else dD (aH cl o f) j a (k+1 - a)):=by rw[ht];cases iD (aH cl o f k) <;> rfl
  have L:oy (aH cl o f) q j a (m+1) k p cut full=(if(if iD (aH cl o f k)=true then full else dD (aH cl o f) j a (k+1 - a)) > q then(p,cut)
    else oy (aH cl o f) q j a m (k+1) (if(aH cl o f k).2.2≠0∧((aH cl o f k).2.2≠3∨(if iD (aH cl o f k)=true then full else dD (aH cl o f) j a (k+1 - a))<q)then((k+1:Nat):Int)else p) (k+1) (if iD (aH cl o f k)=true then full else dD (aH cl o f) j a (k+1 - a))):=rfl
  rw[L];generalize (if iD (aH cl o f k)=true then full else dD (aH cl o f) j a (k+1 - a))=fl at u;by_cases C:fl > q
  ·rw[if_pos C];refine cR ?_;simp only[gD,B,O,V,X,I,N,and_self,decide_true,if_true,Option.bind,Int.toNat_natCast];rw[u];simp only[C,decide_true,if_true]
  ·rw[if_neg C,←El hc ho hn q D E a m (k+1) _ (k+1) fl (by omega) (by omega)];refine fm ?_;have hb:((if(o.getD (f+k+1) 0 != 0)=true then(if(o.getD (f+k+1) 0 != 3)=true then some true else some (decide (fl<q)))else some false).bind fun M=>(if M=true then some ((f+k+1:Nat):Int)else some (uI f p))) =
     some (uI f (if(aH cl o f k).2.2≠0∧((aH cl o f k).2.2≠3∨fl<q)then((k+1:Nat):Int)else p)):=by
    rw[DW cl o f k];have z:uI f ((k+1:Nat):Int)=((f+k+1:Nat):Int):=by unfold uI;rw[if_neg (by omega)];omega
    by_cases A:(aH cl o f k).2.2=0
    ·rw[if_neg (c:=(aH cl o f k).2.2≠0∧_) (fun x=>x.1 A),if_neg (by simp[A])];rfl
    ·rw[if_pos (c:=((aH cl o f k).2.2 != 0)=true) (by simpa using A)];by_cases g2:(aH cl o f k).2.2=3
     ·rw[if_neg (c:=((aH cl o f k).2.2 != 3)=true) (by simp[g2])];by_cases g3:fl<q
      ·rw[if_pos (c:=(aH cl o f k).2.2≠0∧_) ⟨A,.inr g3⟩,decide_eq_true g3,z];rfl
      ·rw[if_neg (c:=(aH cl o f k).2.2≠0∧_) (fun x=>x.2.elim (fun y=>y g2) g3),decide_eq_false g3];rfl
     ·rw[if_pos (c:=((aH cl o f k).2.2 != 3)=true) (by simpa using g2),if_pos (c:=(aH cl o f k).2.2≠0∧_) ⟨A,.inl g2⟩,z];rfl
   simp only[gD,B,O,V,X,I,N,and_self,decide_true,if_true,Option.bind_some,Int.toNat_natCast];rw[u];simp only[C,decide_false,Bool.false_eq_true,if_false,Z,Option.bind_some,q5];rw[←Option.bind_assoc,hb];rfl
theorem jn(cl:Qw)(o:QK)(fr:Nat){k:Nat}(h:0<k):o.getD (fr+k) 0=ll (aH cl o fr) k:=by
 cases k with
 | zero=>omega
 | succ k=>rfl
theorem Ct{cl:Qw}(hc:uT cl){o:QK}(ho:o.length=cl.length+1){f n:Nat}(hn:f+n≤cl.length)(v:Int){j:Int}(x:1≤j)(z:j≤64)(D E I:Int)(J:QJ){a:Nat}(ha:a<n):
  nh cl o ((f+a:Nat):Int) ((f+n:Nat):Int) v j D E I J =
   some (((f+a:Nat):Int),(((f+(lJ (aH cl o f) n v j a).1:Nat):Int),(kx (aH cl o f) j a (lJ (aH cl o f) n v j a).1 (lJ (aH cl o f) n v j a).2,(lJ (aH cl o f) n v j a).2))):=by
 have hl:=hc.1;have L:i64.wrap (((f+a:Nat):Int)+1)=((f+a+1:Nat):Int):=bD (by omega);have A:=El hc ho hn v x z a (n - a) a (-1) (a+1) 0 (by omega) (Nat.le_refl _);have hin:=u3 (aH cl o f) v j a (n - a) a (-1) (a+1) 0 (Nat.le_refl _) (.inl rfl) (by omega) (by omega);rw[Nat.sub_self]at A;simp only[dD]at A;unfold nh;have u:uI f (-1) = -1:=rfl;rw[u,show f+(a+1)=f+a+1 by omega]at A;rw[L,A,Option.bind_some];unfold lJ;generalize oy (aH cl o f) v j a (n - a) a (-1) (a+1) 0=p at hin;obtain⟨q,cut⟩:=p;simp only at hin ⊢;obtain⟨hb,M,N⟩:=hin;by_cases hp:0≤q
 ·obtain⟨b,rfl⟩:∃b:Nat,q=(b:Int):=⟨q.toNat,by omega⟩;have u:uI f (b:Int)=((f+b:Nat):Int):=by unfold uI;rw[if_neg (by omega)];omega
  rw[if_pos (c:=(0:Int)≤_) hp,u,Int.toNat_natCast];rw[if_pos (by rw[decide_eq_true_eq];omega),if_pos (by omega),Int.toNat_natCast,nB hc o x z (by omega) (by omega),lh cl o f j (by omega),jn cl o f (by omega)];rfl
 ·have B:q = -1:=by omega
  subst B;rw[if_neg (c:=(0:Int)≤_) hp,u,if_neg (by decide)];have O:cut≤n:=by omega
  by_cases h1:cut=n
  ·subst h1;rw[if_pos (by simp),if_pos (by omega),Int.toNat_natCast];simp only[Option.bind_some,Int.lt_irrefl,decide_false,Bool.false_eq_true,if_false,Nat.lt_irrefl,false_and,if_true];rw[nB hc o x z (by omega) (by omega),lh cl o f j (by omega),jn cl o f (by omega)];rfl
  ·have h2:((((f+cut:Nat):Int)) == ((f+n:Nat):Int))=false:=by rw[beq_eq_false_iff_ne];omega
   have V:((f+cut:Nat):Int)<((f+n:Nat):Int):=by omega
   have X:cut<n:=by omega
   simp only[h2,Bool.false_eq_true,if_false,Option.bind_some,V,decide_true,if_true,X,true_and,h1];rw[if_pos (c:=0≤((f+cut:Nat):Int)∧_) (by omega),Int.toNat_natCast,jn cl o f (by omega)];by_cases C:ll (aH cl o f) cut=1
   ·simp only[C,Option.bind_some,if_true,BEq.rfl];rw[nB hc o x z (by omega) (by omega),lh cl o f j (by omega)];rfl
   ·have Y:(ll (aH cl o f) cut == 1)=false:=by rw[beq_eq_false_iff_ne];exact C
    simp only[C,Y,Option.bind_some,if_false,Bool.false_eq_true];rw[nB hc o x z (by omega) (by omega),lh cl o f j (by omega)];rfl
theorem FE(x:bK)(l:Qw)(b:Int):gI (x::l) b=(x.1+b,(x.2.1+b,x.2.2))::gI l b:=rfl
theorem Ed(d:Dt)(j:Int)(a b f:Nat)(e:Int):gI [La d j a b e] (f:Int)=[(((f+a:Nat):Int),(((f+b:Nat):Int),(kx d j a b e,e)))]:=by
 simp only[gI,La,List.map_cons,List.map_nil];rw[show(a:Int)+(f:Int)=((f+a:Nat):Int) by omega,show(b:Int)+(f:Int)=((f+b:Nat):Int) by omega]
theorem xL{cl:Qw}(hc:uT cl){o:QK}(ho:o.length=cl.length+1){f n:Nat}(hn:f+n≤cl.length)(p:Int){j:Int}(B:1≤j)(C:j≤64)(u v z:Int)(A:QJ):
  jS cl o (f:Int) ((f+n:Nat):Int) p j u v z A=some (gI (fx (aH cl o f) n p j n 0) (f:Int)):=by
 have hl:=hc.1;have key:∀m a out,a≤n→n≤a+m→out.length≤a→iter (fq cl o ((f+n:Nat):Int) p j u v z A) (((f+a:Nat):Int),out)=some (out++gI (fx (aH cl o f) n p j m a) (f:Int)):=fun m=>by
  induction m with
  | zero =>
   intro a out h1 h2 D;obtain rfl:a=n:=by omega
   have q:¬(((f+a:Nat):Int)<((f+a:Nat):Int)):=by omega
   exact cR (by simp only[fq,q,decide_false,Bool.false_eq_true,if_false,fx,gI,List.map_nil,List.append_nil])
  | succ m E =>
   intro a out h1 h2 D;by_cases ha:a<n
   ·have hin:=sn (aH cl o f) p j ha;have q:((f+a:Nat):Int)<((f+n:Nat):Int):=by omega
    simp only[fx];rw[if_pos ha,show ∀(x:bK) l,gI (x::l) (f:Int)=gI [x] (f:Int)++gI l (f:Int)from fun _ _=>rfl,Ed,←List.append_assoc];rw[←E _ _ hin.2 (by omega) (by simp;omega)];refine fm ?_;simp only[fq,q,decide_true,if_true,Ct hc ho hn p B C u v z A ha,Option.bind_some,List.length_singleton];rw[if_pos (by omega)]
   ·obtain rfl:a=n:=by omega
    have q:¬(((f+a:Nat):Int)<((f+a:Nat):Int)):=by omega
    simp only[fx];rw[if_neg ha];exact cR (by simp only[fq,q,decide_false,Bool.false_eq_true,if_false,gI,List.map_nil,List.append_nil])
 have:=key n 0 [] (by omega) (by omega) (by simp);rw[Nat.add_zero,List.nil_append]at this;unfold jS;rw[this];rfl
abbrev Wy:=Int×Int×Int×Int×Int×QJ
def fZ(c:Wy)(op e n g:Int)(last:Bool):Int×Bool:=(dE [] [op] 0 e n g last c.1 c.2.1 c.2.2.1 c.2.2.2.1 c.2.2.2.2.1 c.2.2.2.2.2).getD (0,false)
def dY(d:Dt)(n:Nat)(c:Wy)(all:Nat→Int×Int)(a:Nat):Nat→Nat→Int→Int→Int→Int→Int→Int×Int
 | 0,_,q,u,_,_,_=>(q,u)
 | m+1,k,q,u,full,sp,v =>
  let s:=if(d k).2.1=1 then i64.wrap (sp+1)else sp
  let f:=if iD (d k)=true then(full,v)else(dD d c.2.1 a (k+1 - a),s)
  if f.1 > c.1 then(q,u)
  else if(d k).2.2=0∨(k+1<n∧(all (k+1)).2<0)then dY d n c all a m (k+1) q u f.1 s f.2
  else
   let p:=fZ c (ll d a) (d k).2.2 (if(d k).2.2=3 then i64.wrap (f.1+1)else f.1) f.2 (k+1 == n)
   if p.2=true∧(u<0∨i64.wrap (p.1+(all (k+1)).1)<q)then dY d n c all a m (k+1) (i64.wrap (p.1+(all (k+1)).1)) ((k+1:Nat):Int) f.1 s f.2
   else dY d n c all a m (k+1) q u f.1 s f.2
def sV(d:Dt)(n:Nat)(c:Wy)(a:Nat)(l:Qq):Int×Int :=
 if a=0∨ll d a≠0 then dY d n c (fun k=>l.getD (k - a - 1) (0,0)) a (n - a) a 0 (-1) 0 0 0 else(0,-1)
def cZ(d:Dt)(n:Nat)(c:Wy):Nat→Qq
 | 0=>[(0,0)]
 | j+1=>sV d n c (n - (j+1)) (cZ d n c j)::cZ d n c j
def gT(d:Dt)(n:Nat)(f:Int)(T:Qq):Nat→Nat→Qw
 | 0,_=>[]
 | m+1,a=>if a<n then La d f a (T.getD a (0,0)).2.toNat (ll d (T.getD a (0,0)).2.toNat)::gT d n f T m (T.getD a (0,0)).2.toNat else[]
def iP(d:Dt)(n:Nat)(c:Wy):Option Qw :=
 if n=0 then some []else if((cZ d n c n).getD 0 (0,0)).2<0 then none else some (gT d n c.2.1 (cZ d n c n) n 0)
def cV(d:Dt)(n:Nat)(c:Wy):Qw×Bool :=
 if c.2.2.1=1 then(match iP d n c with
  | some l=>(l,false)
  | none=>(fx d n c.1 c.2.1 n 0,true))else(fx d n c.1 c.2.1 n 0,false)
theorem pd(d:Dt)(n:Nat)(c:Wy)(all:Nat→Int×Int)(a:Nat):∀m k j q full sp u,a≤k→k+m=n→(q = -1∨((a:Int)<q∧q≤(n:Int)∧(q<(n:Int)→0≤(all q.toNat).2))) →
  (dY d n c all a m k j q full sp u).2 = -1∨((a:Int)<(dY d n c all a m k j q full sp u).2∧(dY d n c all a m k j q full sp u).2≤(n:Int)∧((dY d n c all a m k j q full sp u).2<(n:Int)→0≤(all (dY d n c all a m k j q full sp u).2.toNat).2))
 | 0,k,j,q,full,sp,u,_,_,h=>h
 | m+1,k,j,q,full,sp,u,z,h1,h=>by
  simp only[dY];generalize (if iD (d k)=true then(full,u)else(dD d c.2.1 a (k+1 - a),(if(d k).2.1=1 then i64.wrap (sp+1)else sp)))=f;generalize fZ c (ll d a) (d k).2.2 (if(d k).2.2=3 then i64.wrap (f.1+1)else f.1) f.2 (k+1 == n)=p;split
  ·exact h
  ·split
   ·exact pd d n c all a m (k+1) _ _ _ _ _ (by omega) (by omega) h
   ·rename_i hn;split
    ·refine pd d n c all a m (k+1) _ _ _ _ _ (by omega) (by omega) (.inr ⟨by omega,by omega,fun v=>?_⟩);rw[Int.toNat_natCast];have:¬(all (k+1)).2<0:=fun x=>hn (.inr ⟨by omega,x⟩)
     omega
    ·exact pd d n c all a m (k+1) _ _ _ _ _ (by omega) (by omega) h
theorem mB{d v:Dt}{n:Nat}(h:∀j,j<n→d j=v j)(c:Wy)(all q:Nat→Int×Int)(a:Nat)(ha:a≤n)(x:∀k,a<k→k≤n→all k=q k):∀m k u A full sp z,a≤k→k+m=n →
  dY d n c all a m k u A full sp z=dY v n c q a m k u A full sp z
 | 0,_,_,_,_,_,_,_,_=>rfl
 | m+1,k,u,A,full,sp,z,B,h1=>by
  simp only[dY];rw[h k (by omega),nS h c.2.1 a (k+1 - a) (by omega),x (k+1) (by omega) (by omega),kY h ha];generalize (if iD (v k)=true then(full,z)else(dD v c.2.1 a (k+1 - a),(if(v k).2.1=1 then i64.wrap (sp+1)else sp)))=f;generalize fZ c (ll v a) (v k).2.2 (if(v k).2.2=3 then i64.wrap (f.1+1)else f.1) f.2 (k+1 == n)=p;split
  ·rfl
  ·split
   ·exact mB h c all q a ha x m (k+1) _ _ _ _ _ (by omega) (by omega)
   ·split <;> exact mB h c all q a ha x m (k+1) _ _ _ _ _ (by omega) (by omega)
theorem wS{d f:Dt}{n:Nat}(h:∀j,j<n→d j=f j)(c:Wy):∀j,j≤n→cZ d n c j=cZ f n c j
 | 0,_=>rfl
 | j+1,p=>by
  simp only[cZ,wS h c j (by omega)];unfold sV;rw[kY h (show n - (j+1)≤n by omega),mB h c _ _ (n - (j+1)) (by omega) (fun _ _ _=>rfl) _ _ _ _ _ _ _ (Nat.le_refl _) (by omega)]
theorem Ek(d:Dt)(n:Nat)(c:Wy):∀j i,j≤n→i<j→((cZ d n c j).getD i (0,0)).2 = -1∨(((n - j+i:Nat):Int)<((cZ d n c j).getD i (0,0)).2∧((cZ d n c j).getD i (0,0)).2≤(n:Int) ∧
   (((cZ d n c j).getD i (0,0)).2<(n:Int)→0≤((cZ d n c j).getD (((cZ d n c j).getD i (0,0)).2.toNat - (n - j)) (0,0)).2))
 | 0,i,_,hi=>by omega
 | j+1,0,A,_=>by
  simp only[cZ,List.getD_cons_zero,Nat.add_zero];unfold sV;split
  ·have:=pd d n c (fun k=>(cZ d n c j).getD (k - (n - (j+1)) - 1) (0,0)) (n - (j+1)) (n - (n - (j+1))) (n - (j+1)) 0 (-1) 0 0 0 (Nat.le_refl _) (by omega) (.inl rfl);generalize dY d n c (fun k=>(cZ d n c j).getD (k - (n - (j+1)) - 1) (0,0)) (n - (j+1)) (n - (n - (j+1))) (n - (j+1)) 0 (-1) 0 0 0=r at this;rcases this with e | ⟨v,p,q⟩
   ·exact .inl e
   ·refine .inr ⟨v,p,fun f=>?_⟩;have:=q f;obtain⟨x,u⟩:∃x,r.2.toNat - (n - (j+1))=x+1:=⟨r.2.toNat - (n - (j+1)) - 1,by omega⟩;rw[u,List.getD_cons_succ];rw[show r.2.toNat - (n - (j+1)) - 1=x by omega]at this;exact this
  ·exact .inl rfl
 | j+1,i+1,A,hi=>by
  have z:=Ek d n c j i (by omega) (by omega);simp only[cZ,List.getD_cons_succ];generalize (cZ d n c j).getD i (0,0)=r at z;rcases z with e | ⟨v,p,q⟩
  ·exact .inl e
  ·refine .inr ⟨by omega,p,fun f=>?_⟩;have:=q f;obtain⟨x,u⟩:∃x,r.2.toNat - (n - (j+1))=x+1:=⟨r.2.toNat - (n - (j+1)) - 1,by omega⟩;rw[u,List.getD_cons_succ,show x=r.2.toNat - (n - j) by omega];exact this
theorem uf{d q:Dt}{n:Nat}(h:∀j,j<n→d j=q j)(p:Int)(T:Qq)(hT:∀a,a<n→0≤(T.getD a (0,0)).2→(a:Int)<(T.getD a (0,0)).2∧(T.getD a (0,0)).2≤(n:Int)∧((T.getD a (0,0)).2<(n:Int)→0≤(T.getD (T.getD a (0,0)).2.toNat (0,0)).2)):∀m a,(a<n→0≤(T.getD a (0,0)).2)→gT d n p T m a=gT q n p T m a
 | 0,_,_=>rfl
 | m+1,a,ha=>by
  simp only[gT];by_cases f:a<n
  ·obtain⟨h1,h2,u⟩:=hT a f (ha f);rw[if_pos f,if_pos f,uf h p T hT m _ (fun v=>u (by omega)),kY h (k:=(T.getD a (0,0)).2.toNat) (by omega)];unfold La;rw[sA h p (by omega) (by omega)]
  ·rw[if_neg f,if_neg f]
theorem rK(d:Dt)(n:Nat)(c:Wy):∀a,a<n→0≤((cZ d n c n).getD a (0,0)).2→(a:Int)<((cZ d n c n).getD a (0,0)).2∧((cZ d n c n).getD a (0,0)).2≤(n:Int)∧(((cZ d n c n).getD a (0,0)).2<(n:Int)→0≤((cZ d n c n).getD ((cZ d n c n).getD a (0,0)).2.toNat (0,0)).2):=fun a ha h=>by
 rcases Ek d n c n a (Nat.le_refl _) ha with e | ⟨p,j,f⟩
 ·omega
 ·rw[Nat.sub_self,Nat.sub_zero]at f;exact⟨by omega,j,f⟩
theorem AZ{d f:Dt}{n:Nat}(h:∀j,j<n→d j=f j)(c:Wy):cV d n c=cV f n c:=by
 have hb:iP d n c=iP f n c:=by
  unfold iP;rw[wS h c n (Nat.le_refl _)];by_cases p:n=0
  ·rw[if_pos p,if_pos p]
  ·rw[if_neg p,if_neg p];by_cases h1:((cZ f n c n).getD 0 (0,0)).2<0
   ·rw[if_pos h1,if_pos h1]
   ·rw[if_neg h1,if_neg h1,uf h c.2.1 _ (rK f n c) n 0 (fun _=>by omega)]
 unfold cV;rw[hb,rE h]
end
end Go.Proofs.YtobbjfkfmdiklaaGreatDoor.T
