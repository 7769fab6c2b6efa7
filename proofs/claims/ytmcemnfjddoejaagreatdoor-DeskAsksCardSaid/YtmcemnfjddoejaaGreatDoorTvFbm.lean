/- Floats that are no less than nothing. -/
import Derived.Test.YtmcemnfjddoejaaGreatDoorTvSdm
import Derived.Test.YtmcemnfjddoejaaGreatDoorTv23im
namespace Go.Tv
open Go
open Go.IntKind (i64)
def FP(a:Option Nat):Prop:=∀n,a=some n→n<9223372036854775808
theorem FP.abs(a:Option Nat):FP (xk a):=fun n h=>by
 cases a with
 | none=>cases h
 | some b=>cases h;exact Nat.mod_lt _ (by decide)
theorem vW{n:Nat}(h:n<9223372036854775808):(∃m i,FloatKind.f64.format.read n = .number false m i)∨FloatKind.f64.format.read n = .infinity false∨∃t,FloatKind.f64.format.read n = .nan false t:=by
 have c:FloatKind.f64.format.signWeight=9223372036854775808:=rfl;have e:(n / FloatKind.f64.format.signWeight % 2 == 1)=false:=by rw[c,Nat.div_eq_of_lt h];rfl
 unfold Ieee.Format.read;simp only[e];split
 ·exact .inl ⟨_,_,rfl⟩
 ·split
  ·exact .inl ⟨_,_,rfl⟩
  ·split
   ·exact .inr (.inl rfl)
   ·exact .inr (.inr ⟨_,rfl⟩)
theorem Ga(m:Nat)(i:Int):FloatKind.f64.format.write (.number false m i)<9223372036854775808:=by
 have hi:FloatKind.f64.format.infRung=9218868437227405312:=by decide
 have c:∀r,r≤FloatKind.f64.format.infRung→FloatKind.f64.format.word false r<9223372036854775808:=fun r e=>by
  rw[hi]at e;unfold Ieee.Format.word;simp
  omega
 show FloatKind.f64.format.nearest false m i<_;unfold Ieee.Format.nearest;split
 ·exact c 0 (Nat.zero_le _)
 ·exact c _ (Nat.min_le_right _ _)
theorem zl:FloatKind.f64.format.write (.infinity false)<9223372036854775808:=by decide
theorem FP.mul{a b:Option Nat}(ha:FP a)(hb:FP b):FP (bP .mul a b):=fun n h=>by
 cases a with
 | none=>cases h
 | some x =>
  cases b with
  | none=>cases h
  | some y =>
   have e:=vW (ha x rfl);have f:=vW (hb y rfl);simp only[bP,Lk,Ieee.Format.mul]at h;have key:∀d,(FloatKind.f64.format.read x).product (FloatKind.f64.format.read y)=some d→FloatKind.f64.format.write d<9223372036854775808:=fun d c=>by
    rcases e with⟨k,m,e⟩ | e | ⟨p,e⟩ <;> rcases f with⟨q,u,f⟩ | f | ⟨v,f⟩ <;> rw[e,f]at c <;> simp only[Ieee.Datum.product]at c
    all_goals first
     | (cases c;first | exact Ga _ _ | exact zl)
     | (split at c <;> cases c;exact zl)
     | cases c
   cases j:(FloatKind.f64.format.read x).product (FloatKind.f64.format.read y)with
   | none=>rw[j]at h;cases h
   | some d =>
    rw[j]at h;simp only[Option.map_some,Option.bind_some]at h;rw[jV h];exact key d j
theorem GS(n d B:Nat)(h:n<B*2 ^ d):Ieee.Toward.cut .zero false n d≤B:=by
 unfold Ieee.Toward.cut;simp only[Bool.toNat_false,Nat.add_zero,Nat.one_shiftLeft];rcases Nat.le_total d (n.log2+2)with c | c
 ·rw[Nat.min_eq_left c];exact Nat.le_of_lt (Nat.div_lt_of_lt_mul (by rw[Nat.mul_comm];exact h))
 ·rw[Nat.min_eq_right c];have f:n<2 ^ (n.log2+2):=by
   by_cases e:n=0
   ·subst e;exact Nat.two_pow_pos _
   ·have:=(Nat.log2_lt e (k:=n.log2+2)).1 (by omega);exact this
  rw[Nat.div_eq_of_lt f];exact Nat.zero_le _
theorem FP.int{a:Option Nat}(ha:FP a){c B k:Nat}(D:FloatKind.f64.format.read c = .number false (B*2 ^ k) (-(k:Int)))(h:JR a (some c)=true):
  ∃n:Nat,oF a=some (n:Int)∧n≤B:=by
 cases a with
 | none=>simp[JR,vo]at h
 | some x =>
  simp only[JR,vo,Ieee.Format.order,D]at h;rcases vW (ha x rfl)with⟨m,i,f⟩ | f | ⟨t,f⟩
  ·rw[f]at h;refine⟨Ieee.Toward.cut .zero false (m <<< i.toNat) (-i).toNat,?_,GS _ _ _ ?_⟩
   ·unfold oF;simp only[Option.bind_some,FloatKind.decode,f];rfl
   ·simp only[Ieee.Datum.order,Ieee.signed,Bool.false_eq_true,if_false,beq_iff_eq,Option.some.injEq]at h;have h':(m <<< (i - min i (-(k:Int))).toNat)<((B*2 ^ k) <<< (-(k:Int) - min i (-(k:Int))).toNat):=by
     rw[Int.compare_eq_lt]at h
     exact_mod_cast h
    simp only[Nat.shiftLeft_eq]at h' ⊢;rcases Int.le_total 0 i with hi | hi
    ·obtain⟨j,rfl⟩:∃j:Nat,i=(j:Int):=⟨i.toNat,by omega⟩;rw[show((j:Int) - min (j:Int) (-(k:Int))).toNat=j+k by omega,show(-(k:Int) - min (j:Int) (-(k:Int))).toNat=0 by omega,Nat.pow_add,←Nat.mul_assoc,Nat.pow_zero,Nat.mul_one]at h';rw[show((j:Int)).toNat=j by omega,show(-(j:Int)).toNat=0 by omega,Nat.pow_zero,Nat.mul_one];exact Nat.lt_of_mul_lt_mul_right h'
    ·obtain⟨j,rfl⟩:∃j:Nat,i = -(j:Int):=⟨(-i).toNat,by omega⟩;rw[show(-(j:Int)).toNat=0 by omega,show(-(-(j:Int))).toNat=j by omega,Nat.pow_zero,Nat.mul_one];rcases Nat.le_total j k with z | z
     ·rw[show(-(j:Int) - min (-(j:Int)) (-(k:Int))).toNat=k - j by omega,show(-(k:Int) - min (-(j:Int)) (-(k:Int))).toNat=0 by omega,Nat.pow_zero,Nat.mul_one,show(2:Nat) ^ k=2 ^ j*2 ^ (k - j) by rw[←Nat.pow_add];congr 1;omega,←Nat.mul_assoc]at h';exact Nat.lt_of_mul_lt_mul_right h'
     ·rw[show(-(j:Int) - min (-(j:Int)) (-(k:Int))).toNat=0 by omega,show(-(k:Int) - min (-(j:Int)) (-(k:Int))).toNat=j - k by omega,Nat.pow_zero,Nat.mul_one,Nat.mul_assoc,←Nat.pow_add,show k+(j - k)=j by omega]at h';exact h'
  ·rw[f]at h;simp[Ieee.Datum.order]at h
  ·rw[f]at h;simp[Ieee.Datum.order]at h
end Go.Tv
namespace Go.Proofs.YtmcemnfjddoejaaGreatDoor.T
open Go Go.Tv Go.Proofs
open Go.IntKind (i64)
noncomputable section
theorem De(r:Option Nat):∃b:Int,g9 r=some b∧0≤b∧b≤10000:=by
 have f:cE 4666723172467343360=some 4666723172467343360:=by decide
 have c:FloatKind.f64.format.read 4666723172467343360 = .number false (10000*2 ^ 39) (-((39:Nat):Int)):=by decide
 have j:FP (bP .mul (bP .mul (bP .mul (cE 4636737291354636288) (xk r)) (xk r)) (xk r)) :=
  FP.mul (FP.mul (FP.mul (fun n h=>by rw[jV h];decide) (FP.abs r)) (FP.abs r)) (FP.abs r)
 unfold g9 oa xL;simp only[Option.bind_some];generalize (bP .mul (bP .mul (bP .mul (cE 4636737291354636288) (xk r)) (xk r)) (xk r))=x at j;by_cases m:(!(Jq r r))=true
 ·rw[if_pos m];exact⟨0,rfl,by omega,by omega⟩
 ·rw[if_neg m,f];by_cases k:JR x (some 4666723172467343360)=true
  ·obtain⟨n,e,p⟩:=j.int c k;rw[if_neg (by simp[k]),e];simp only[Option.isSome,Option.getD];rw[if_pos ⟨by first | rfl | trivial,by simp[IntKind.min,IntKind.bits,IntKind.signed];try omega,by simp[IntKind.max,IntKind.bits,IntKind.signed];omega⟩];exact⟨n,rfl,by omega,by omega⟩
  ·rw[if_pos (by simp[k])];exact⟨10000,rfl,by omega,by omega⟩
theorem HS{o:List Int}{fr:Nat}(B:fr<o.length)(cl:List bB)(e n g:Int)(last:Bool)(j z A k m:Int)(p:Option Nat):∃v b,fc cl o (fr:Int) e n g last j z A k m p=some (v,b):=by
 unfold fc;split
 ·exact⟨_,_,rfl⟩
 ·have q:0≤(fr:Int)∧(fr:Int)<(o.length:Int):=by omega
  have tail:∀c:Int,∃v b,(((if(e == (3:Int))=true then(if 0≤(fr:Int)∧(fr:Int)<(o.length:Int)then(if((o.getD (fr:Int).toNat (0:Int)) == (3:Int))=true then some ((i64.wrap ((i64.wrap ((i64.wrap ((i64.wrap ((10:Int)+c))*(i64.wrap ((10:Int)+c))))+k))+m)))
    else some ((i64.wrap ((i64.wrap ((i64.wrap ((10:Int)+c))*(i64.wrap ((10:Int)+c))))+k))))else none)
    else some ((i64.wrap ((i64.wrap ((10:Int)+c))*(i64.wrap ((10:Int)+c))))))).bind fun f=>some (f,true))=some (v,b):=fun c=>by
   by_cases u:(e == 3)=true
   ·rw[if_pos u,if_pos q];split <;> exact⟨_,_,rfl⟩
   ·rw[if_neg u];exact⟨_,_,rfl⟩
  cases last with
  | true=>exact tail 0
  | false =>
   obtain⟨b,hb,-⟩:=De (bP .quo (ofInt (i64.wrap (j - n))) (ofInt g));simp only[Bool.not_false,if_true,sn,nh,Option.bind_some];by_cases x:(!(!(LS (bP .quo (ofInt (i64.wrap (j - n))) (ofInt g)) p)))=true
   ·rw[if_pos x];exact⟨_,_,rfl⟩
   ·rw[if_neg x,hb];simp only[Option.bind_some];exact tail b
end
end Go.Proofs.YtmcemnfjddoejaaGreatDoor.T
namespace Go.Proofs.YtmcemnfjddoejaaGreatDoor.T
open Go Go.Tv Go.Proofs
open Go.IntKind (i64)
noncomputable section
abbrev Dt:=Nat→Int×Int×Int
def aM(cl:List bB)(o:List Int)(fr:Nat):Dt:=fun j=>((cl.getD (fr+j) c0).2.2.1,(cl.getD (fr+j) c0).2.2.2,o.getD (fr+j+1) 0)
def kd(x:Int×Int×Int):Bool:=x.2.1 == 1 || (x.2.1 == 0 && x.1 == 0)
def ia(d:Dt)(e:Int)(a:Nat):Nat→Int
 | 0=>0
 | k+1=>if(d (a+k)).2.1=2 then ia d e a k+e - ia d e a k % e else ia d e a k+(d (a+k)).1
def lY(d:Dt)(a:Nat):Nat→Nat
 | 0=>0
 | n+1=>if a<n+1∧kd (d n)=true then lY d a n else n+1
def pc(d:Dt)(f:Int)(a b:Nat)(e:Int):Int:=ia d f a (lY d a b - a)+(if e=3 then 1 else 0)
theorem vI(cl:List bB)(o:List Int)(fr:Nat)(f:Int)(a:Nat):∀k,ry cl f (fr+a) k=ia (aM cl o fr) f a k
 | 0=>rfl
 | k+1=>by
  have e:fr+a+k=fr+(a+k):=by omega
  simp only[ry,ia,uL,vI cl o fr f a k,aM,e];rfl
theorem CY(cl:List bB)(o:List Int)(c a:Nat):∀b,a≤b→dF cl (c+a) (c+b)=c+lY (aM cl o c) a b
 | 0,h=>by
  obtain rfl:a=0:=by omega
  cases c with
  | zero=>rfl
  | succ f=>simp[dF,lY]
 | b+1,h=>by
  have k:c+(b+1)=(c+b)+1:=by omega
  rw[k];simp only[dF,lY];by_cases hb:a<b+1
  ·have j:rz (cl.getD (c+b) c0)=kd (aM cl o c b):=rfl;by_cases e:kd (aM cl o c b)=true
   ·rw[if_pos ⟨by omega,by rw[j];exact e⟩,if_pos ⟨hb,e⟩];exact CY cl o c a b (by omega)
   ·rw[if_neg (fun x=>e (by rw[←j];exact x.2)),if_neg (fun x=>e x.2)];omega
  ·rw[if_neg (fun x=>hb (by omega)),if_neg (fun x=>hb x.1)];omega
theorem xG(d:Dt)(a:Nat):∀b,a≤b→a≤lY d a b∧lY d a b≤b
 | 0,h=>by simp only[lY];omega
 | b+1,h=>by
  simp only[lY];split
  ·rename_i c;have:=xG d a b (by omega);omega
  ·omega
theorem mL(cl:List bB)(o:List Int)(f:Nat)(j:Int){a b:Nat}(h:a≤b)(e:Int):xj cl j (f+a) (f+b) e=pc (aM cl o f) j a b e:=by
 unfold xj pc;have:=xG (aM cl o f) a b h;rw[CY cl o f a b h,show f+lY (aM cl o f) a b - (f+a)=lY (aM cl o f) a b - a by omega,vI cl o f]
theorem nz{d e:Dt}{n:Nat}(h:∀j,j<n→d j=e j)(c:Int)(a:Nat):∀k,a+k≤n→ia d c a k=ia e c a k
 | 0,_=>rfl
 | k+1,f=>by
  simp only[ia,nz h c a k (by omega),h (a+k) (by omega)]
theorem uW{d c:Dt}{n:Nat}(h:∀j,j<n→d j=c j)(a:Nat):∀b,b≤n→lY d a b=lY c a b
 | 0,_=>rfl
 | b+1,hb=>by simp only[lY,uW h a b (by omega),h b (by omega)]
theorem rJ{d f:Dt}{n:Nat}(h:∀j,j<n→d j=f j)(c:Int){a b:Nat}(m:a≤b)(hb:b≤n)(e:Int):pc d c a b e=pc f c a b e:=by
 unfold pc;have:=xG f a b m;rw[uW h a b hb,nz h c a _ (by omega)]
def yu(d:Dt):Nat→Int
 | 0=>0
 | k+1=>(d k).2.2
def oE(d:Dt)(j f:Int)(a:Nat):Nat→Nat→Int→Nat→Int→Int×Nat
 | 0,_,e,cut,_=>(e,cut)
 | m+1,k,e,cut,full =>
  let fl:=if kd (d k)=true then full else ia d f a (k+1 - a)
  if fl > j then(e,cut)
  else oE d j f a m (k+1) (if(d k).2.2≠0∧((d k).2.2≠3∨fl<j)then((k+1:Nat):Int)else e) (k+1) fl
def ll(d:Dt)(n:Nat)(f e:Int)(a:Nat):Nat×Int :=
 let p:=oE d f e a (n - a) a (-1) (a+1) 0
 if 0≤p.1 then(p.1.toNat,yu d p.1.toNat)
 else(p.2,if p.2<n∧yu d p.2=1 then 1 else if p.2=n then yu d n else 4)
def KK(d:Dt)(c:Int)(a b:Nat)(e:Int):bB:=((a:Int),((b:Int),(pc d c a b e,e)))
def eO(d:Dt)(n:Nat)(e c:Int):Nat→Nat→List bB
 | 0,_=>[]
 | m+1,a=>if a<n then KK d c a (ll d n e c a).1 (ll d n e c a).2::eO d n e c m (ll d n e c a).1 else[]
def dn(l:List bB)(JZ:Int):List bB:=l.map fun x=>(x.1+JZ,(x.2.1+JZ,x.2.2))
theorem vD(d:Dt)(j f:Int)(a:Nat):∀m k e cut full,a≤k→(e = -1∨((a:Int)<e∧e≤((k+m:Nat):Int)))→a<cut→cut≤max (a+1) (k+m) →
  ((oE d j f a m k e cut full).1 = -1∨((a:Int)<(oE d j f a m k e cut full).1∧(oE d j f a m k e cut full).1≤((k+m:Nat):Int)))∧a<(oE d j f a m k e cut full).2∧(oE d j f a m k e cut full).2≤max (a+1) (k+m)
 | 0,k,e,cut,full,_,p,q,u=>⟨p,q,u⟩
 | m+1,k,e,cut,full,x,p,q,u=>by
  simp only[oE];generalize (if kd (d k)=true then full else ia d f a (k+1 - a))=fl;by_cases v:fl > j
  ·rw[if_pos v];exact⟨p,q,u⟩
  ·rw[if_neg v];have:=vD d j f a m (k+1) (if(d k).2.2≠0∧((d k).2.2≠3∨fl<j)then((k+1:Nat):Int)else e) (k+1) fl (by omega) (by split <;> omega) (by omega) (by omega);rw[show k+1+m=k+(m+1) by omega]at this;exact this
theorem sw(d:Dt){n:Nat}(e c:Int){a:Nat}(h:a<n):a<(ll d n e c a).1∧(ll d n e c a).1≤n:=by
 have:=vD d e c a (n - a) a (-1) (a+1) 0 (Nat.le_refl _) (.inl rfl) (by omega) (by omega);unfold ll;simp only;split <;> simp only <;> omega
theorem wS{d f:Dt}{n:Nat}(h:∀j,j<n→d j=f j)(p c:Int)(a:Nat):∀m k e cut full,a≤k→k+m≤n→oE d p c a m k e cut full=oE f p c a m k e cut full
 | 0,_,_,_,_,_,_=>rfl
 | m+1,k,e,cut,full,q,u=>by
  simp only[oE];rw[h k (by omega),nz h c a (k+1 - a) (by omega)];generalize (if kd (f k)=true then full else ia f c a (k+1 - a))=fl;split
  ·rfl
  ·exact wS h p c a m (k+1) _ _ _ (by omega) (by omega)
theorem kQ{d c:Dt}{n:Nat}(h:∀j,j<n→d j=c j):∀ {k:Nat},k≤n→yu d k=yu c k
 | 0,_=>rfl
 | k+1,e=>by simp only[yu,h k (by omega)]
theorem Br{d f:Dt}{n:Nat}(h:∀j,j<n→d j=f j)(e c:Int){a:Nat}(ha:a<n):ll d n e c a=ll f n e c a:=by
 have hin:=vD f e c a (n - a) a (-1) (a+1) 0 (Nat.le_refl _) (.inl rfl) (by omega) (by omega);unfold ll;rw[wS h e c a (n - a) a (-1) (a+1) 0 (Nat.le_refl _) (by omega)];generalize oE f e c a (n - a) a (-1) (a+1) 0=p at hin;simp only;by_cases m:0≤p.1
 ·rw[if_pos m,if_pos m,kQ h (k:=p.1.toNat) (by omega)]
 ·rw[if_neg m,if_neg m,kQ h (k:=p.2) (by omega),kQ h (Nat.le_refl n)]
theorem rT{d f:Dt}{n:Nat}(h:∀j,j<n→d j=f j)(e c:Int):∀m a,eO d n e c m a=eO f n e c m a
 | 0,_=>rfl
 | m+1,a=>by
  simp only[eO];by_cases ha:a<n
  ·have:=sw f e c ha;rw[if_pos ha,if_pos ha,Br h e c ha,rT h e c m];unfold KK;rw[rJ h c (Nat.le_of_lt this.1) this.2]
  ·rw[if_neg ha,if_neg ha]
end
end Go.Proofs.YtmcemnfjddoejaaGreatDoor.T
namespace Go.Proofs.YtmcemnfjddoejaaGreatDoor.T
open Go Go.Tv Go.Proofs
open Go.IntKind (i64)
noncomputable section
def vz(fr:Nat)(b:Int):Int:=if b<0 then -1 else b+(fr:Int)
theorem Fc(cl:List bB)(o:List Int)(fr j:Nat):o.getD (fr+j+1) 0=(aM cl o fr j).2.2:=rfl
theorem E6{cl:List bB}(u:Dc cl){o:List Int}(X:o.length=cl.length+1){e n:Nat}(Y:e+n≤cl.length)(p:Int){f:Int}(D:1≤f)(E:f≤64)(a:Nat):∀m k j cut full,k+m=n→a≤k →
  iter (gB cl o ((e+n:Nat):Int) p f) (vz e j,((e+cut:Nat):Int),ia (aM cl o e) f a (k - a),full,((e+k+1:Nat):Int)) =
   some (vz e (oE (aM cl o e) p f a m k j cut full).1,((e+(oE (aM cl o e) p f a m k j cut full).2:Nat):Int))
 | 0,k,j,cut,full,Z,ha=>by
  have B:¬(((e+k+1:Nat):Int)≤((e+n:Nat):Int)):=by omega
  exact bL (by simp only[gB,B,decide_false,Bool.false_eq_true,if_false,oE])
 | m+1,k,j,cut,full,Z,ha=>by
  have hl:=u.1;have v:=vI cl o e f a;obtain⟨b0,b1⟩:=sc u D E (e+a) (k - a) (by omega);obtain⟨I,-,-⟩:=vG (c:=cl.getD (e+k) c0) b0 (by omega) D E (u.2 _).1 (u.2 _).2;have J:uL (cl.getD (e+k) c0) (ry cl f (e+a) (k - a)) f=ia (aM cl o e) f a (k+1 - a):=by rw[←v,show k+1 - a=(k - a)+1 by omega];simp only[ry];rw[show e+a+(k - a)=e+k by omega]
  rw[J,v]at I;obtain⟨N,-,-⟩:=sh (cl:=cl) o (show e+k≤e+k+1 by omega) (by omega) (by omega);have e3:=EX cl (o:=o) (i:=e+k+1) (by omega);have B:((e+k+1:Nat):Int)≤((e+n:Nat):Int):=by omega
  have O:i64.wrap (((e+k+1:Nat):Int) - 1)=((e+k:Nat):Int):=kZ (by omega);have R:0≤((e+k:Nat):Int):=by omega
  have V:((e+k:Nat):Int)<(cl.length:Int):=by omega
  have q5:i64.wrap (((e+k+1:Nat):Int)+1)=((e+(k+1)+1:Nat):Int):=bj (by omega);have ht:(((dF cl (e+k) (e+k+1):Nat):Int) == ((e+k+1:Nat):Int)) = !(kd (aM cl o e k)):=by
   have hh:rz (cl.getD (e+k) c0)=kd (aM cl o e k):=rfl;have:=(sh (cl:=cl) o (show e+k≤e+k by omega) (by omega) (by omega)).2.2;simp only[dF];rw[hh];cases he:kd (aM cl o e k)with
   | true =>
    rw[if_pos ⟨by omega,rfl⟩,Bool.not_true,beq_eq_false_iff_ne];omega
   | false =>rw[if_neg (fun x=>by cases x.2)];simp
  have q:(if(((dF cl (e+k) (e+k+1):Nat):Int) == ((e+k+1:Nat):Int))=true then some (ia (aM cl o e) f a (k+1 - a))else some full)=some (if kd (aM cl o e k)=true then full else ia (aM cl o e) f a (k+1 - a)):=by rw[ht];cases kd (aM cl o e k) <;> rfl
  have L:oE (aM cl o e) p f a (m+1) k j cut full=(if(if kd (aM cl o e k)=true then full else ia (aM cl o e) f a (k+1 - a)) > p then(j,cut)
    else oE (aM cl o e) p f a m (k+1) (if(aM cl o e k).2.2≠0∧((aM cl o e k).2.2≠3∨(if kd (aM cl o e k)=true then full else ia (aM cl o e) f a (k+1 - a))<p)then((k+1:Nat):Int)else j) (k+1) (if kd (aM cl o e k)=true then full else ia (aM cl o e) f a (k+1 - a))):=rfl
  rw[L];generalize (if kd (aM cl o e k)=true then full else ia (aM cl o e) f a (k+1 - a))=fl at q;by_cases C:fl > p
  ·rw[if_pos C];refine bL ?_;simp only[gB,B,O,R,V,I,N,and_self,decide_true,if_true,Option.bind,Int.toNat_natCast];rw[q];simp only[C,decide_true,if_true]
  ·rw[if_neg C,←E6 u X Y p D E a m (k+1) _ (k+1) fl (by omega) (by omega)];refine cT ?_;have hb:((if(o.getD (e+k+1) 0 != 0)=true then(if(o.getD (e+k+1) 0 != 3)=true then some true else some (decide (fl<p)))else some false).bind fun M=>(if M=true then some ((e+k+1:Nat):Int)else some (vz e j))) =
     some (vz e (if(aM cl o e k).2.2≠0∧((aM cl o e k).2.2≠3∨fl<p)then((k+1:Nat):Int)else j)):=by
    rw[Fc cl o e k];have z:vz e ((k+1:Nat):Int)=((e+k+1:Nat):Int):=by unfold vz;rw[if_neg (by omega)];omega
    by_cases A:(aM cl o e k).2.2=0
    ·rw[if_neg (c:=(aM cl o e k).2.2≠0∧_) (fun x=>x.1 A),if_neg (by simp[A])];rfl
    ·rw[if_pos (c:=((aM cl o e k).2.2 != 0)=true) (by simpa using A)];by_cases g2:(aM cl o e k).2.2=3
     ·rw[if_neg (c:=((aM cl o e k).2.2 != 3)=true) (by simp[g2])];by_cases g3:fl<p
      ·rw[if_pos (c:=(aM cl o e k).2.2≠0∧_) ⟨A,.inr g3⟩,decide_eq_true g3,z];rfl
      ·rw[if_neg (c:=(aM cl o e k).2.2≠0∧_) (fun x=>x.2.elim (fun y=>y g2) g3),decide_eq_false g3];rfl
     ·rw[if_pos (c:=((aM cl o e k).2.2 != 3)=true) (by simpa using g2),if_pos (c:=(aM cl o e k).2.2≠0∧_) ⟨A,.inl g2⟩,z];rfl
   simp only[gB,B,O,R,V,I,N,and_self,decide_true,if_true,Option.bind_some,Int.toNat_natCast];rw[q];simp only[C,decide_false,Bool.false_eq_true,if_false,e3,Option.bind_some,q5];rw[←Option.bind_assoc,hb];rfl
theorem mR(cl:List bB)(o:List Int)(e:Nat){k:Nat}(h:0<k):o.getD (e+k) 0=yu (aM cl o e) k:=by
 cases k with
 | zero=>omega
 | succ k=>rfl
theorem Bu{cl:List bB}(q:Dc cl){o:List Int}(D:o.length=cl.length+1){e n:Nat}(E:e+n≤cl.length)(m:Int){f:Int}(u:1≤f)(v:f≤64)(I J L:Int)(M:Option Nat){a:Nat}(ha:a<n):
  m9 cl o ((e+a:Nat):Int) ((e+n:Nat):Int) m f I J L M =
   some (((e+a:Nat):Int),(((e+(ll (aM cl o e) n m f a).1:Nat):Int),(pc (aM cl o e) f a (ll (aM cl o e) n m f a).1 (ll (aM cl o e) n m f a).2,(ll (aM cl o e) n m f a).2))):=by
 have hl:=q.1;have N:i64.wrap (((e+a:Nat):Int)+1)=((e+a+1:Nat):Int):=bj (by omega);have x:=E6 q D E m u v a (n - a) a (-1) (a+1) 0 (by omega) (Nat.le_refl _);have hin:=vD (aM cl o e) m f a (n - a) a (-1) (a+1) 0 (Nat.le_refl _) (.inl rfl) (by omega) (by omega);rw[Nat.sub_self]at x;simp only[ia]at x;unfold m9;have k:vz e (-1) = -1:=rfl;rw[k,show e+(a+1)=e+a+1 by omega]at x;rw[N,x,Option.bind_some];unfold ll;generalize oE (aM cl o e) m f a (n - a) a (-1) (a+1) 0=p at hin;obtain⟨j,cut⟩:=p;simp only at hin ⊢;obtain⟨hb,O,R⟩:=hin;by_cases B:0≤j
 ·obtain⟨b,rfl⟩:∃b:Nat,j=(b:Int):=⟨j.toNat,by omega⟩;have k:vz e (b:Int)=((e+b:Nat):Int):=by unfold vz;rw[if_neg (by omega)];omega
  rw[if_pos (c:=(0:Int)≤_) B,k,Int.toNat_natCast];rw[if_pos (by rw[decide_eq_true_eq];omega),if_pos (by omega),Int.toNat_natCast,sV q o u v (by omega) (by omega),mL cl o e f (by omega),mR cl o e (by omega)];rfl
 ·have z:j = -1:=by omega
  subst z;rw[if_neg (c:=(0:Int)≤_) B,k,if_neg (by decide)];have V:cut≤n:=by omega
  by_cases C:cut=n
  ·subst C;rw[if_pos (by simp),if_pos (by omega),Int.toNat_natCast];simp only[Option.bind_some,Int.lt_irrefl,decide_false,Bool.false_eq_true,if_false,Nat.lt_irrefl,false_and,if_true];rw[sV q o u v (by omega) (by omega),mL cl o e f (by omega),mR cl o e (by omega)];rfl
  ·have X:((((e+cut:Nat):Int)) == ((e+n:Nat):Int))=false:=by rw[beq_eq_false_iff_ne];omega
   have Y:((e+cut:Nat):Int)<((e+n:Nat):Int):=by omega
   have Z:cut<n:=by omega
   simp only[X,Bool.false_eq_true,if_false,Option.bind_some,Y,decide_true,if_true,Z,true_and,C];rw[if_pos (c:=0≤((e+cut:Nat):Int)∧_) (by omega),Int.toNat_natCast,mR cl o e (by omega)];by_cases A:yu (aM cl o e) cut=1
   ·simp only[A,Option.bind_some,if_true,BEq.rfl];rw[sV q o u v (by omega) (by omega),mL cl o e f (by omega)];rfl
   ·have h6:(yu (aM cl o e) cut == 1)=false:=by rw[beq_eq_false_iff_ne];exact A
    simp only[A,h6,Option.bind_some,if_false,Bool.false_eq_true];rw[sV q o u v (by omega) (by omega),mL cl o e f (by omega)];rfl
theorem Ff(x:bB)(l:List bB)(b:Int):dn (x::l) b=(x.1+b,(x.2.1+b,x.2.2))::dn l b:=rfl
theorem Fa(d:Dt)(f:Int)(a b c:Nat)(e:Int):dn [KK d f a b e] (c:Int)=[(((c+a:Nat):Int),(((c+b:Nat):Int),(pc d f a b e,e)))]:=by
 simp only[dn,KK,List.map_cons,List.map_nil];rw[show(a:Int)+(c:Int)=((c+a:Nat):Int) by omega,show(b:Int)+(c:Int)=((c+b:Nat):Int) by omega]
theorem yz{cl:List bB}(v:Dc cl){o:List Int}(z:o.length=cl.length+1){c n:Nat}(A:c+n≤cl.length)(f:Int){e:Int}(B:1≤e)(C:e≤64)(k p q:Int)(u:Option Nat):
  jI cl o (c:Int) ((c+n:Nat):Int) f e k p q u=some (dn (eO (aM cl o c) n f e n 0) (c:Int)):=by
 have hl:=v.1;have key:∀m a out,a≤n→n≤a+m→out.length≤a→iter (eJ cl o ((c+n:Nat):Int) f e k p q u) (((c+a:Nat):Int),out)=some (out++dn (eO (aM cl o c) n f e m a) (c:Int)):=fun m=>by
  induction m with
  | zero =>
   intro a out D E I;obtain rfl:a=n:=by omega
   have j:¬(((c+a:Nat):Int)<((c+a:Nat):Int)):=by omega
   exact bL (by simp only[eJ,j,decide_false,Bool.false_eq_true,if_false,eO,dn,List.map_nil,List.append_nil])
  | succ m J =>
   intro a out D E I;by_cases ha:a<n
   ·have hin:=sw (aM cl o c) f e ha;have j:((c+a:Nat):Int)<((c+n:Nat):Int):=by omega
    simp only[eO];rw[if_pos ha,show ∀(x:bB) l,dn (x::l) (c:Int)=dn [x] (c:Int)++dn l (c:Int)from fun _ _=>rfl,Fa,←List.append_assoc];rw[←J _ _ hin.2 (by omega) (by simp;omega)];refine cT ?_;simp only[eJ,j,decide_true,if_true,Bu v z A f B C k p q u ha,Option.bind_some,List.length_singleton];rw[if_pos (by omega)]
   ·obtain rfl:a=n:=by omega
    have j:¬(((c+a:Nat):Int)<((c+a:Nat):Int)):=by omega
    simp only[eO];rw[if_neg ha];exact bL (by simp only[eJ,j,decide_false,Bool.false_eq_true,if_false,dn,List.map_nil,List.append_nil])
 have:=key n 0 [] (by omega) (by omega) (by simp);rw[Nat.add_zero,List.nil_append]at this;unfold jI;rw[this];rfl
end
end Go.Proofs.YtmcemnfjddoejaaGreatDoor.T
namespace Go.Proofs.YtmcemnfjddoejaaGreatDoor.T
open Go Go.Tv Go.Proofs
open Go.IntKind (i64)
noncomputable section
abbrev Wy:=Int×Int×Int×Int×Int×Option Nat
def rq(c:Wy)(op e n g:Int)(last:Bool):Int×Bool:=(fc [] [op] 0 e n g last c.1 c.2.1 c.2.2.1 c.2.2.2.1 c.2.2.2.2.1 c.2.2.2.2.2).getD (0,false)
def gI(d:Dt)(n:Nat)(c:Wy)(all:Nat→Int×Int)(a:Nat):Nat→Nat→Int→Int→Int→Int→Int→Int×Int
 | 0,_,e,j,_,_,_=>(e,j)
 | m+1,k,e,j,full,sp,q =>
  let s:=if(d k).2.1=1 then i64.wrap (sp+1)else sp
  let f:=if kd (d k)=true then(full,q)else(ia d c.2.1 a (k+1 - a),s)
  if f.1 > c.1 then(e,j)
  else if(d k).2.2=0∨(k+1<n∧(all (k+1)).2<0)then gI d n c all a m (k+1) e j f.1 s f.2
  else
   let p:=rq c (yu d a) (d k).2.2 (if(d k).2.2=3 then i64.wrap (f.1+1)else f.1) f.2 (k+1 == n)
   if p.2=true∧(j<0∨i64.wrap (p.1+(all (k+1)).1)<e)then gI d n c all a m (k+1) (i64.wrap (p.1+(all (k+1)).1)) ((k+1:Nat):Int) f.1 s f.2
   else gI d n c all a m (k+1) e j f.1 s f.2
def vl(d:Dt)(n:Nat)(c:Wy)(a:Nat)(l:List (Int×Int)):Int×Int :=
 if a=0∨yu d a≠0 then gI d n c (fun k=>l.getD (k - a - 1) (0,0)) a (n - a) a 0 (-1) 0 0 0 else(0,-1)
def dJ(d:Dt)(n:Nat)(c:Wy):Nat→List (Int×Int)
 | 0=>[(0,0)]
 | j+1=>vl d n c (n - (j+1)) (dJ d n c j)::dJ d n c j
def jf(d:Dt)(n:Nat)(c:Int)(T:List (Int×Int)):Nat→Nat→List bB
 | 0,_=>[]
 | m+1,a=>if a<n then KK d c a (T.getD a (0,0)).2.toNat (yu d (T.getD a (0,0)).2.toNat)::jf d n c T m (T.getD a (0,0)).2.toNat else[]
def qG(d:Dt)(n:Nat)(c:Wy):Option (List bB) :=
 if n=0 then some []else if((dJ d n c n).getD 0 (0,0)).2<0 then none else some (jf d n c.2.1 (dJ d n c n) n 0)
def gK(d:Dt)(n:Nat)(c:Wy):List bB×Bool :=
 if c.2.2.1=1 then(match qG d n c with
  | some l=>(l,false)
  | none=>(eO d n c.1 c.2.1 n 0,true))else(eO d n c.1 c.2.1 n 0,false)
theorem rV(d:Dt)(n:Nat)(c:Wy)(all:Nat→Int×Int)(a:Nat):∀m k e j full sp q,a≤k→k+m=n→(j = -1∨((a:Int)<j∧j≤(n:Int)∧(j<(n:Int)→0≤(all j.toNat).2))) →
  (gI d n c all a m k e j full sp q).2 = -1∨((a:Int)<(gI d n c all a m k e j full sp q).2∧(gI d n c all a m k e j full sp q).2≤(n:Int)∧((gI d n c all a m k e j full sp q).2<(n:Int)→0≤(all (gI d n c all a m k e j full sp q).2.toNat).2))
 | 0,k,e,j,full,sp,q,_,_,h=>h
 | m+1,k,e,j,full,sp,q,z,A,h=>by
  simp only[gI];generalize (if kd (d k)=true then(full,q)else(ia d c.2.1 a (k+1 - a),(if(d k).2.1=1 then i64.wrap (sp+1)else sp)))=f;generalize rq c (yu d a) (d k).2.2 (if(d k).2.2=3 then i64.wrap (f.1+1)else f.1) f.2 (k+1 == n)=p;split
  ·exact h
  ·split
   ·exact rV d n c all a m (k+1) _ _ _ _ _ (by omega) (by omega) h
   ·rename_i u;split
    ·refine rV d n c all a m (k+1) _ _ _ _ _ (by omega) (by omega) (.inr ⟨by omega,by omega,fun v=> ?_⟩);rw[Int.toNat_natCast];have:¬(all (k+1)).2<0:=fun x=>u (.inr ⟨by omega,x⟩)
     omega
    ·exact rV d n c all a m (k+1) _ _ _ _ _ (by omega) (by omega) h
theorem pv{d u:Dt}{n:Nat}(h:∀j,j<n→d j=u j)(c:Wy)(all e:Nat→Int×Int)(a:Nat)(ha:a≤n)(v:∀k,a<k→k≤n→all k=e k):∀m k q z full sp x,a≤k→k+m=n →
  gI d n c all a m k q z full sp x=gI u n c e a m k q z full sp x
 | 0,_,_,_,_,_,_,_,_=>rfl
 | m+1,k,q,z,full,sp,x,A,B=>by
  simp only[gI];rw[h k (by omega),nz h c.2.1 a (k+1 - a) (by omega),v (k+1) (by omega) (by omega),kQ h ha];generalize (if kd (u k)=true then(full,x)else(ia u c.2.1 a (k+1 - a),(if(u k).2.1=1 then i64.wrap (sp+1)else sp)))=f;generalize rq c (yu u a) (u k).2.2 (if(u k).2.2=3 then i64.wrap (f.1+1)else f.1) f.2 (k+1 == n)=p;split
  ·rfl
  ·split
   ·exact pv h c all e a ha v m (k+1) _ _ _ _ _ (by omega) (by omega)
   ·split <;> exact pv h c all e a ha v m (k+1) _ _ _ _ _ (by omega) (by omega)
theorem xV{d e:Dt}{n:Nat}(h:∀j,j<n→d j=e j)(c:Wy):∀j,j≤n→dJ d n c j=dJ e n c j
 | 0,_=>rfl
 | j+1,f=>by
  simp only[dJ,xV h c j (by omega)];unfold vl;rw[kQ h (show n - (j+1)≤n by omega),pv h c _ _ (n - (j+1)) (by omega) (fun _ _ _=>rfl) _ _ _ _ _ _ _ (Nat.le_refl _) (by omega)]
theorem EF(d:Dt)(n:Nat)(c:Wy):∀j i,j≤n→i<j→((dJ d n c j).getD i (0,0)).2 = -1∨(((n - j+i:Nat):Int)<((dJ d n c j).getD i (0,0)).2∧((dJ d n c j).getD i (0,0)).2≤(n:Int) ∧
   (((dJ d n c j).getD i (0,0)).2<(n:Int)→0≤((dJ d n c j).getD (((dJ d n c j).getD i (0,0)).2.toNat - (n - j)) (0,0)).2))
 | 0,i,_,hi=>by omega
 | j+1,0,z,_=>by
  simp only[dJ,List.getD_cons_zero,Nat.add_zero];unfold vl;split
  ·have:=rV d n c (fun k=>(dJ d n c j).getD (k - (n - (j+1)) - 1) (0,0)) (n - (j+1)) (n - (n - (j+1))) (n - (j+1)) 0 (-1) 0 0 0 (Nat.le_refl _) (by omega) (.inl rfl);generalize gI d n c (fun k=>(dJ d n c j).getD (k - (n - (j+1)) - 1) (0,0)) (n - (j+1)) (n - (n - (j+1))) (n - (j+1)) 0 (-1) 0 0 0=r at this;rcases this with e | ⟨u,m,p⟩
   ·exact .inl e
   ·refine .inr ⟨u,m,fun f=> ?_⟩;have:=p f;obtain⟨x,q⟩:∃x,r.2.toNat - (n - (j+1))=x+1:=⟨r.2.toNat - (n - (j+1)) - 1,by omega⟩;rw[q,List.getD_cons_succ];rw[show r.2.toNat - (n - (j+1)) - 1=x by omega]at this;exact this
  ·exact .inl rfl
 | j+1,i+1,z,hi=>by
  have v:=EF d n c j i (by omega) (by omega);simp only[dJ,List.getD_cons_succ];generalize (dJ d n c j).getD i (0,0)=r at v;rcases v with e | ⟨u,m,p⟩
  ·exact .inl e
  ·refine .inr ⟨by omega,m,fun f=> ?_⟩;have:=p f;obtain⟨x,q⟩:∃x,r.2.toNat - (n - (j+1))=x+1:=⟨r.2.toNat - (n - (j+1)) - 1,by omega⟩;rw[q,List.getD_cons_succ,show x=r.2.toNat - (n - j) by omega];exact this
theorem uG{d f:Dt}{n:Nat}(h:∀j,j<n→d j=f j)(e:Int)(T:List (Int×Int))(hT:∀a,a<n→0≤(T.getD a (0,0)).2→(a:Int)<(T.getD a (0,0)).2∧(T.getD a (0,0)).2≤(n:Int)∧((T.getD a (0,0)).2<(n:Int)→0≤(T.getD (T.getD a (0,0)).2.toNat (0,0)).2)):∀m a,(a<n→0≤(T.getD a (0,0)).2)→jf d n e T m a=jf f n e T m a
 | 0,_,_=>rfl
 | m+1,a,ha=>by
  simp only[jf];by_cases c:a<n
  ·obtain⟨q,u,p⟩:=hT a c (ha c);rw[if_pos c,if_pos c,uG h e T hT m _ (fun v=>p (by omega)),kQ h (k:=(T.getD a (0,0)).2.toNat) (by omega)];unfold KK;rw[rJ h e (by omega) (by omega)]
  ·rw[if_neg c,if_neg c]
theorem tw(d:Dt)(n:Nat)(c:Wy):∀a,a<n→0≤((dJ d n c n).getD a (0,0)).2→(a:Int)<((dJ d n c n).getD a (0,0)).2∧((dJ d n c n).getD a (0,0)).2≤(n:Int)∧(((dJ d n c n).getD a (0,0)).2<(n:Int)→0≤((dJ d n c n).getD ((dJ d n c n).getD a (0,0)).2.toNat (0,0)).2):=fun a ha h=>by
 rcases EF d n c n a (Nat.le_refl _) ha with e | ⟨k,j,f⟩
 ·omega
 ·rw[Nat.sub_self,Nat.sub_zero]at f;exact⟨by omega,j,f⟩
theorem BD{d e:Dt}{n:Nat}(h:∀j,j<n→d j=e j)(c:Wy):gK d n c=gK e n c:=by
 have hb:qG d n c=qG e n c:=by
  unfold qG;rw[xV h c n (Nat.le_refl _)];by_cases f:n=0
  ·rw[if_pos f,if_pos f]
  ·rw[if_neg f,if_neg f];by_cases k:((dJ e n c n).getD 0 (0,0)).2<0
   ·rw[if_pos k,if_pos k]
   ·rw[if_neg k,if_neg k,uG h c.2.1 _ (tw e n c) n 0 (fun _=>by omega)]
 unfold gK;rw[hb,rT h]
end
end Go.Proofs.YtmcemnfjddoejaaGreatDoor.T
