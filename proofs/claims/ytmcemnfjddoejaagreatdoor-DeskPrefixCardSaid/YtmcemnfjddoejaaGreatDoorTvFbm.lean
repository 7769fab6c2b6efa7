/- Floats that are no less than nothing. -/
import Derived.Test.YtmcemnfjddoejaaGreatDoorTvSdm
import Derived.Test.YtmcemnfjddoejaaGreatDoorTv23im
namespace Go.Tv
open Go
open Go.IntKind (i64)
def FP(a:Option Nat):Prop:=∀n,a=some n→n<9223372036854775808
theorem FP.abs(a:Option Nat):FP (wF a):=fun n h=>by
 cases a with
 | none=>cases h
 | some b=>cases h;exact Nat.mod_lt _ (by decide)
theorem vU{n:Nat}(h:n<9223372036854775808):(∃m i,FloatKind.f64.format.read n = .number false m i)∨FloatKind.f64.format.read n = .infinity false∨∃t,FloatKind.f64.format.read n = .nan false t:=by
 have c:FloatKind.f64.format.signWeight=9223372036854775808:=rfl;have e:(n / FloatKind.f64.format.signWeight % 2 == 1)=false:=by rw[c,Nat.div_eq_of_lt h];rfl
 unfold Ieee.Format.read;simp only[e];split
 ·exact .inl ⟨_,_,rfl⟩
 ·split
  ·exact .inl ⟨_,_,rfl⟩
  ·split
   ·exact .inr (.inl rfl)
   ·exact .inr (.inr ⟨_,rfl⟩)
theorem Fx(m:Nat)(i:Int):FloatKind.f64.format.write (.number false m i)<9223372036854775808:=by
 have hi:FloatKind.f64.format.infRung=9218868437227405312:=by decide
 have c:∀r,r≤FloatKind.f64.format.infRung→FloatKind.f64.format.word false r<9223372036854775808:=fun r e=>by
  rw[hi]at e;unfold Ieee.Format.word;simp
  omega
 show FloatKind.f64.format.nearest false m i<_;unfold Ieee.Format.nearest;split
 ·exact c 0 (Nat.zero_le _)
 ·exact c _ (Nat.min_le_right _ _)
theorem zz:FloatKind.f64.format.write (.infinity false)<9223372036854775808:=by decide
theorem FP.mul{a b:Option Nat}(ha:FP a)(hb:FP b):FP (bN .mul a b):=fun n h=>by
 cases a with
 | none=>cases h
 | some x =>
  cases b with
  | none=>cases h
  | some y =>
   have e:=vU (ha x rfl);have f:=vU (hb y rfl);simp only[bN,Kr,Ieee.Format.mul]at h;have key:∀d,(FloatKind.f64.format.read x).product (FloatKind.f64.format.read y)=some d→FloatKind.f64.format.write d<9223372036854775808:=fun d c=>by
    rcases e with⟨k,m,e⟩ | e | ⟨p,e⟩ <;> rcases f with⟨q,u,f⟩ | f | ⟨v,f⟩ <;> rw[e,f]at c <;> simp only[Ieee.Datum.product]at c
    all_goals first
     | (cases c;first | exact Fx _ _ | exact zz)
     | (split at c <;> cases c;exact zz)
     | cases c
   cases j:(FloatKind.f64.format.read x).product (FloatKind.f64.format.read y)with
   | none=>rw[j]at h;cases h
   | some d =>
    rw[j]at h;simp only[Option.map_some,Option.bind_some]at h;rw[jN h];exact key d j
theorem Gb(n d B:Nat)(h:n<B*2 ^ d):Ieee.Toward.cut .zero false n d≤B:=by
 unfold Ieee.Toward.cut;simp only[Bool.toNat_false,Nat.add_zero,Nat.one_shiftLeft];rcases Nat.le_total d (n.log2+2)with c | c
 ·rw[Nat.min_eq_left c];exact Nat.le_of_lt (Nat.div_lt_of_lt_mul (by rw[Nat.mul_comm];exact h))
 ·rw[Nat.min_eq_right c];have f:n<2 ^ (n.log2+2):=by
   by_cases e:n=0
   ·subst e;exact Nat.two_pow_pos _
   ·have:=(Nat.log2_lt e (k:=n.log2+2)).1 (by omega);exact this
  rw[Nat.div_eq_of_lt f];exact Nat.zero_le _
theorem FP.int{a:Option Nat}(ha:FP a){c B k:Nat}(D:FloatKind.f64.format.read c = .number false (B*2 ^ k) (-(k:Int)))(h:JM a (some c)=true):
  ∃n:Nat,ov a=some (n:Int)∧n≤B:=by
 cases a with
 | none=>simp[JM,vd]at h
 | some x =>
  simp only[JM,vd,Ieee.Format.order,D]at h;rcases vU (ha x rfl)with⟨m,i,f⟩ | f | ⟨t,f⟩
  ·rw[f]at h;refine⟨Ieee.Toward.cut .zero false (m <<< i.toNat) (-i).toNat,?_,Gb _ _ _ ?_⟩
   ·unfold ov;simp only[Option.bind_some,FloatKind.decode,f];rfl
   ·simp only[Ieee.Datum.order,Ieee.signed,Bool.false_eq_true,if_false,beq_iff_eq,Option.some.injEq]at h;have h':(m <<< (i - min i (-(k:Int))).toNat)<((B*2 ^ k) <<< (-(k:Int) - min i (-(k:Int))).toNat):=by
     rw[Int.compare_eq_lt]at h
     exact_mod_cast h
    simp only[Nat.shiftLeft_eq]at h' ⊢;rcases Int.le_total 0 i with hi | hi
    ·obtain⟨j,rfl⟩:∃j:Nat,i=(j:Int):=⟨i.toNat,by omega⟩;rw[show((j:Int) - min (j:Int) (-(k:Int))).toNat=j+k by omega,show(-(k:Int) - min (j:Int) (-(k:Int))).toNat=0 by omega,Nat.pow_add,←Nat.mul_assoc,Nat.pow_zero,Nat.mul_one]at h';rw[show((j:Int)).toNat=j by omega,show(-(j:Int)).toNat=0 by omega,Nat.pow_zero,Nat.mul_one];exact Nat.lt_of_mul_lt_mul_right h'
    ·obtain⟨j,rfl⟩:∃j:Nat,i = -(j:Int):=⟨(-i).toNat,by omega⟩;rw[show(-(j:Int)).toNat=0 by omega,show(-(-(j:Int))).toNat=j by omega,Nat.pow_zero,Nat.mul_one];rcases Nat.le_total j k with z | z
     ·rw[show(-(j:Int) - min (-(j:Int)) (-(k:Int))).toNat=k - j by omega,show(-(k:Int) - min (-(j:Int)) (-(k:Int))).toNat=0 by omega,Nat.pow_zero,Nat.mul_one,show(2:Nat) ^ k=2 ^ j*2 ^ (k - j) by rw[←Nat.pow_add];congr 1;omega,←Nat.mul_assoc]at h';exact Nat.lt_of_mul_lt_mul_right h'
     ·rw[show(-(j:Int) - min (-(j:Int)) (-(k:Int))).toNat=0 by omega,show(-(k:Int) - min (-(j:Int)) (-(k:Int))).toNat=j - k by omega,Nat.pow_zero,Nat.mul_one,Nat.mul_assoc,←Nat.pow_add,show k+(j - k)=j by omega]at h';exact h'
  ·rw[f]at h;simp[Ieee.Datum.order]at h
  ·rw[f]at h;simp[Ieee.Datum.order]at h
end Go.Tv
namespace Go.Proofs.YtmcemnfjddoejaaGreatDoor.T
open Go Go.Tv Go.Proofs
open Go.IntKind (i64)
noncomputable section
theorem Dz(r:Option Nat):∃b:Int,g6 r=some b∧0≤b∧b≤10000:=by
 have f:dw 4666723172467343360=some 4666723172467343360:=by decide
 have c:FloatKind.f64.format.read 4666723172467343360 = .number false (10000*2 ^ 39) (-((39:Nat):Int)):=by decide
 have j:FP (bN .mul (bN .mul (bN .mul (dw 4636737291354636288) (wF r)) (wF r)) (wF r)) :=
  FP.mul (FP.mul (FP.mul (fun n h=>by rw[jN h];decide) (FP.abs r)) (FP.abs r)) (FP.abs r)
 unfold g6 m9 wh;simp only[Option.bind_some];generalize (bN .mul (bN .mul (bN .mul (dw 4636737291354636288) (wF r)) (wF r)) (wF r))=x at j;by_cases m:(!(Jn r r))=true
 ·rw[if_pos m];exact⟨0,rfl,by omega,by omega⟩
 ·rw[if_neg m,f];by_cases k:JM x (some 4666723172467343360)=true
  ·obtain⟨n,e,p⟩:=j.int c k;rw[if_neg (by simp[k]),e];simp only[Option.isSome,Option.getD];rw[if_pos ⟨by first | rfl | trivial,by simp[IntKind.min,IntKind.bits,IntKind.signed];try omega,by simp[IntKind.max,IntKind.bits,IntKind.signed];omega⟩];exact⟨n,rfl,by omega,by omega⟩
  ·rw[if_pos (by simp[k])];exact⟨10000,rfl,by omega,by omega⟩
theorem G6{o:List Int}{fr:Nat}(B:fr<o.length)(cl:List bB)(e n g:Int)(last:Bool)(j z A k m:Int)(p:Option Nat):∃v b,eT cl o (fr:Int) e n g last j z A k m p=some (v,b):=by
 unfold eT;split
 ·exact⟨_,_,rfl⟩
 ·have q:0≤(fr:Int)∧(fr:Int)<(o.length:Int):=by omega
  have tail:∀c:Int,∃v b,(((if(e == (3:Int))=true then(if 0≤(fr:Int)∧(fr:Int)<(o.length:Int)then(if((o.getD (fr:Int).toNat (0:Int)) == (3:Int))=true then some ((i64.wrap ((i64.wrap ((i64.wrap ((i64.wrap ((10:Int)+c))*(i64.wrap ((10:Int)+c))))+k))+m)))
    else some ((i64.wrap ((i64.wrap ((i64.wrap ((10:Int)+c))*(i64.wrap ((10:Int)+c))))+k))))else none)
    else some ((i64.wrap ((i64.wrap ((10:Int)+c))*(i64.wrap ((10:Int)+c))))))).bind fun f=>some (f,true))=some (v,b):=fun c=>by
   by_cases u:(e == 3)=true
   ·rw[if_pos u,if_pos q];split <;> exact⟨_,_,rfl⟩
   ·rw[if_neg u];exact⟨_,_,rfl⟩
  cases last with
  | true=>exact tail 0
  | false =>
   obtain⟨b,hb,-⟩:=Dz (bN .quo (ofInt (i64.wrap (j - n))) (ofInt g));simp only[Bool.not_false,if_true,tf,nw,Option.bind_some];by_cases x:(!(!(Lu (bN .quo (ofInt (i64.wrap (j - n))) (ofInt g)) p)))=true
   ·rw[if_pos x];exact⟨_,_,rfl⟩
   ·rw[if_neg x,hb];simp only[Option.bind_some];exact tail b
end
end Go.Proofs.YtmcemnfjddoejaaGreatDoor.T
namespace Go.Proofs.YtmcemnfjddoejaaGreatDoor.T
open Go Go.Tv Go.Proofs
open Go.IntKind (i64)
noncomputable section
abbrev Dt:=Nat→Int×Int×Int
def aN(cl:List bB)(o:List Int)(fr:Nat):Dt:=fun j=>((cl.getD (fr+j) c0).2.2.1,(cl.getD (fr+j) c0).2.2.2,o.getD (fr+j+1) 0)
def j1(x:Int×Int×Int):Bool:=x.2.1 == 1 || (x.2.1 == 0 && x.1 == 0)
def ij(d:Dt)(e:Int)(a:Nat):Nat→Int
 | 0=>0
 | k+1=>if(d (a+k)).2.1=2 then ij d e a k+e - ij d e a k % e else ij d e a k+(d (a+k)).1
def lU(d:Dt)(a:Nat):Nat→Nat
 | 0=>0
 | n+1=>if a<n+1∧j1 (d n)=true then lU d a n else n+1
def oB(d:Dt)(f:Int)(a b:Nat)(e:Int):Int:=ij d f a (lU d a b - a)+(if e=3 then 1 else 0)
theorem vu(cl:List bB)(o:List Int)(fr:Nat)(f:Int)(a:Nat):∀k,re cl f (fr+a) k=ij (aN cl o fr) f a k
 | 0=>rfl
 | k+1=>by
  have e:fr+a+k=fr+(a+k):=by omega
  simp only[re,ij,uP,vu cl o fr f a k,aN,e];rfl
theorem Cg(cl:List bB)(o:List Int)(c a:Nat):∀b,a≤b→dD cl (c+a) (c+b)=c+lU (aN cl o c) a b
 | 0,h=>by
  obtain rfl:a=0:=by omega
  cases c with
  | zero=>rfl
  | succ f=>simp[dD,lU]
 | b+1,h=>by
  have k:c+(b+1)=(c+b)+1:=by omega
  rw[k];simp only[dD,lU];by_cases hb:a<b+1
  ·have j:ry (cl.getD (c+b) c0)=j1 (aN cl o c b):=rfl;by_cases e:j1 (aN cl o c b)=true
   ·rw[if_pos ⟨by omega,by rw[j];exact e⟩,if_pos ⟨hb,e⟩];exact Cg cl o c a b (by omega)
   ·rw[if_neg (fun x=>e (by rw[←j];exact x.2)),if_neg (fun x=>e x.2)];omega
  ·rw[if_neg (fun x=>hb (by omega)),if_neg (fun x=>hb x.1)];omega
theorem vQ(d:Dt)(a:Nat):∀b,a≤b→a≤lU d a b∧lU d a b≤b
 | 0,h=>by simp only[lU];omega
 | b+1,h=>by
  simp only[lU];split
  ·rename_i c;have:=vQ d a b (by omega);omega
  ·omega
theorem mQ(cl:List bB)(o:List Int)(f:Nat)(j:Int){a b:Nat}(h:a≤b)(e:Int):vX cl j (f+a) (f+b) e=oB (aN cl o f) j a b e:=by
 unfold vX oB;have:=vQ (aN cl o f) a b h;rw[Cg cl o f a b h,show f+lU (aN cl o f) a b - (f+a)=lU (aN cl o f) a b - a by omega,vu cl o f]
theorem nz{d e:Dt}{n:Nat}(h:∀j,j<n→d j=e j)(c:Int)(a:Nat):∀k,a+k≤n→ij d c a k=ij e c a k
 | 0,_=>rfl
 | k+1,f=>by
  simp only[ij,nz h c a k (by omega),h (a+k) (by omega)]
theorem u4{d c:Dt}{n:Nat}(h:∀j,j<n→d j=c j)(a:Nat):∀b,b≤n→lU d a b=lU c a b
 | 0,_=>rfl
 | b+1,hb=>by simp only[lU,u4 h a b (by omega),h b (by omega)]
theorem sw{d f:Dt}{n:Nat}(h:∀j,j<n→d j=f j)(c:Int){a b:Nat}(m:a≤b)(hb:b≤n)(e:Int):oB d c a b e=oB f c a b e:=by
 unfold oB;have:=vQ f a b m;rw[u4 h a b hb,nz h c a _ (by omega)]
def yc(d:Dt):Nat→Int
 | 0=>0
 | k+1=>(d k).2.2
def ox(d:Dt)(j f:Int)(a:Nat):Nat→Nat→Int→Nat→Int→Int×Nat
 | 0,_,e,cut,_=>(e,cut)
 | m+1,k,e,cut,full =>
  let fl:=if j1 (d k)=true then full else ij d f a (k+1 - a)
  if fl > j then(e,cut)
  else ox d j f a m (k+1) (if(d k).2.2≠0∧((d k).2.2≠3∨fl<j)then((k+1:Nat):Int)else e) (k+1) fl
def lu(d:Dt)(n:Nat)(f e:Int)(a:Nat):Nat×Int :=
 let p:=ox d f e a (n - a) a (-1) (a+1) 0
 if 0≤p.1 then(p.1.toNat,yc d p.1.toNat)
 else(p.2,if p.2<n∧yc d p.2=1 then 1 else if p.2=n then yc d n else 4)
def Kl(d:Dt)(c:Int)(a b:Nat)(e:Int):bB:=((a:Int),((b:Int),(oB d c a b e,e)))
def eM(d:Dt)(n:Nat)(e c:Int):Nat→Nat→List bB
 | 0,_=>[]
 | m+1,a=>if a<n then Kl d c a (lu d n e c a).1 (lu d n e c a).2::eM d n e c m (lu d n e c a).1 else[]
def cX(l:List bB)(Kd:Int):List bB:=l.map fun x=>(x.1+Kd,(x.2.1+Kd,x.2.2))
theorem vA(d:Dt)(j f:Int)(a:Nat):∀m k e cut full,a≤k→(e = -1∨((a:Int)<e∧e≤((k+m:Nat):Int)))→a<cut→cut≤max (a+1) (k+m) →
  ((ox d j f a m k e cut full).1 = -1∨((a:Int)<(ox d j f a m k e cut full).1∧(ox d j f a m k e cut full).1≤((k+m:Nat):Int)))∧a<(ox d j f a m k e cut full).2∧(ox d j f a m k e cut full).2≤max (a+1) (k+m)
 | 0,k,e,cut,full,_,p,q,u=>⟨p,q,u⟩
 | m+1,k,e,cut,full,x,p,q,u=>by
  simp only[ox];generalize (if j1 (d k)=true then full else ij d f a (k+1 - a))=fl;by_cases v:fl > j
  ·rw[if_pos v];exact⟨p,q,u⟩
  ·rw[if_neg v];have:=vA d j f a m (k+1) (if(d k).2.2≠0∧((d k).2.2≠3∨fl<j)then((k+1:Nat):Int)else e) (k+1) fl (by omega) (by split <;> omega) (by omega) (by omega);rw[show k+1+m=k+(m+1) by omega]at this;exact this
theorem tl(d:Dt){n:Nat}(e c:Int){a:Nat}(h:a<n):a<(lu d n e c a).1∧(lu d n e c a).1≤n:=by
 have:=vA d e c a (n - a) a (-1) (a+1) 0 (Nat.le_refl _) (.inl rfl) (by omega) (by omega);unfold lu;simp only;split <;> simp only <;> omega
theorem wJ{d f:Dt}{n:Nat}(h:∀j,j<n→d j=f j)(p c:Int)(a:Nat):∀m k e cut full,a≤k→k+m≤n→ox d p c a m k e cut full=ox f p c a m k e cut full
 | 0,_,_,_,_,_,_=>rfl
 | m+1,k,e,cut,full,q,u=>by
  simp only[ox];rw[h k (by omega),nz h c a (k+1 - a) (by omega)];generalize (if j1 (f k)=true then full else ij f c a (k+1 - a))=fl;split
  ·rfl
  ·exact wJ h p c a m (k+1) _ _ _ (by omega) (by omega)
theorem kF{d c:Dt}{n:Nat}(h:∀j,j<n→d j=c j):∀ {k:Nat},k≤n→yc d k=yc c k
 | 0,_=>rfl
 | k+1,e=>by simp only[yc,h k (by omega)]
theorem BD{d f:Dt}{n:Nat}(h:∀j,j<n→d j=f j)(e c:Int){a:Nat}(ha:a<n):lu d n e c a=lu f n e c a:=by
 have hin:=vA f e c a (n - a) a (-1) (a+1) 0 (Nat.le_refl _) (.inl rfl) (by omega) (by omega);unfold lu;rw[wJ h e c a (n - a) a (-1) (a+1) 0 (Nat.le_refl _) (by omega)];generalize ox f e c a (n - a) a (-1) (a+1) 0=p at hin;simp only;by_cases m:0≤p.1
 ·rw[if_pos m,if_pos m,kF h (k:=p.1.toNat) (by omega)]
 ·rw[if_neg m,if_neg m,kF h (k:=p.2) (by omega),kF h (Nat.le_refl n)]
theorem sv{d f:Dt}{n:Nat}(h:∀j,j<n→d j=f j)(e c:Int):∀m a,eM d n e c m a=eM f n e c m a
 | 0,_=>rfl
 | m+1,a=>by
  simp only[eM];by_cases ha:a<n
  ·have:=tl f e c ha;rw[if_pos ha,if_pos ha,BD h e c ha,sv h e c m];unfold Kl;rw[sw h c (Nat.le_of_lt this.1) this.2]
  ·rw[if_neg ha,if_neg ha]
end
end Go.Proofs.YtmcemnfjddoejaaGreatDoor.T
namespace Go.Proofs.YtmcemnfjddoejaaGreatDoor.T
open Go Go.Tv Go.Proofs
open Go.IntKind (i64)
noncomputable section
def vo(fr:Nat)(b:Int):Int:=if b<0 then -1 else b+(fr:Int)
theorem EK(cl:List bB)(o:List Int)(fr j:Nat):o.getD (fr+j+1) 0=(aN cl o fr j).2.2:=rfl
theorem ED{cl:List bB}(u:DS cl){o:List Int}(X:o.length=cl.length+1){e n:Nat}(Y:e+n≤cl.length)(p:Int){f:Int}(D:1≤f)(E:f≤64)(a:Nat):∀m k j cut full,k+m=n→a≤k →
  iter (gB cl o ((e+n:Nat):Int) p f) (vo e j,((e+cut:Nat):Int),ij (aN cl o e) f a (k - a),full,((e+k+1:Nat):Int)) =
   some (vo e (ox (aN cl o e) p f a m k j cut full).1,((e+(ox (aN cl o e) p f a m k j cut full).2:Nat):Int))
 | 0,k,j,cut,full,Z,ha=>by
  have B:¬(((e+k+1:Nat):Int)≤((e+n:Nat):Int)):=by omega
  exact bM (by simp only[gB,B,decide_false,Bool.false_eq_true,if_false,ox])
 | m+1,k,j,cut,full,Z,ha=>by
  have hl:=u.1;have v:=vu cl o e f a;obtain⟨b0,b1⟩:=sB u D E (e+a) (k - a) (by omega);obtain⟨I,-,-⟩:=vw (c:=cl.getD (e+k) c0) b0 (by omega) D E (u.2 _).1 (u.2 _).2;have J:uP (cl.getD (e+k) c0) (re cl f (e+a) (k - a)) f=ij (aN cl o e) f a (k+1 - a):=by rw[←v,show k+1 - a=(k - a)+1 by omega];simp only[re];rw[show e+a+(k - a)=e+k by omega]
  rw[J,v]at I;obtain⟨N,-,-⟩:=rA (cl:=cl) o (show e+k≤e+k+1 by omega) (by omega) (by omega);have e3:=Ex cl (o:=o) (i:=e+k+1) (by omega);have B:((e+k+1:Nat):Int)≤((e+n:Nat):Int):=by omega
  have O:i64.wrap (((e+k+1:Nat):Int) - 1)=((e+k:Nat):Int):=lC (by omega);have R:0≤((e+k:Nat):Int):=by omega
  have V:((e+k:Nat):Int)<(cl.length:Int):=by omega
  have q5:i64.wrap (((e+k+1:Nat):Int)+1)=((e+(k+1)+1:Nat):Int):=bj (by omega);have ht:(((dD cl (e+k) (e+k+1):Nat):Int) == ((e+k+1:Nat):Int)) = !(j1 (aN cl o e k)):=by
   have hh:ry (cl.getD (e+k) c0)=j1 (aN cl o e k):=rfl;have:=(rA (cl:=cl) o (show e+k≤e+k by omega) (by omega) (by omega)).2.2;simp only[dD];rw[hh];cases he:j1 (aN cl o e k)with
   | true =>
    rw[if_pos ⟨by omega,rfl⟩,Bool.not_true,beq_eq_false_iff_ne];omega
   | false =>rw[if_neg (fun x=>by cases x.2)];simp
  have q:(if(((dD cl (e+k) (e+k+1):Nat):Int) == ((e+k+1:Nat):Int))=true then some (ij (aN cl o e) f a (k+1 - a))else some full)=some (if j1 (aN cl o e k)=true then full else ij (aN cl o e) f a (k+1 - a)):=by rw[ht];cases j1 (aN cl o e k) <;> rfl
  have L:ox (aN cl o e) p f a (m+1) k j cut full=(if(if j1 (aN cl o e k)=true then full else ij (aN cl o e) f a (k+1 - a)) > p then(j,cut)
    else ox (aN cl o e) p f a m (k+1) (if(aN cl o e k).2.2≠0∧((aN cl o e k).2.2≠3∨(if j1 (aN cl o e k)=true then full else ij (aN cl o e) f a (k+1 - a))<p)then((k+1:Nat):Int)else j) (k+1) (if j1 (aN cl o e k)=true then full else ij (aN cl o e) f a (k+1 - a))):=rfl
  rw[L];generalize (if j1 (aN cl o e k)=true then full else ij (aN cl o e) f a (k+1 - a))=fl at q;by_cases C:fl > p
  ·rw[if_pos C];refine bM ?_;simp only[gB,B,O,R,V,I,N,and_self,decide_true,if_true,Option.bind,Int.toNat_natCast];rw[q];simp only[C,decide_true,if_true]
  ·rw[if_neg C,←ED u X Y p D E a m (k+1) _ (k+1) fl (by omega) (by omega)];refine dE ?_;have hb:((if(o.getD (e+k+1) 0 != 0)=true then(if(o.getD (e+k+1) 0 != 3)=true then some true else some (decide (fl<p)))else some false).bind fun M=>(if M=true then some ((e+k+1:Nat):Int)else some (vo e j))) =
     some (vo e (if(aN cl o e k).2.2≠0∧((aN cl o e k).2.2≠3∨fl<p)then((k+1:Nat):Int)else j)):=by
    rw[EK cl o e k];have z:vo e ((k+1:Nat):Int)=((e+k+1:Nat):Int):=by unfold vo;rw[if_neg (by omega)];omega
    by_cases A:(aN cl o e k).2.2=0
    ·rw[if_neg (c:=(aN cl o e k).2.2≠0∧_) (fun x=>x.1 A),if_neg (by simp[A])];rfl
    ·rw[if_pos (c:=((aN cl o e k).2.2 != 0)=true) (by simpa using A)];by_cases g2:(aN cl o e k).2.2=3
     ·rw[if_neg (c:=((aN cl o e k).2.2 != 3)=true) (by simp[g2])];by_cases g3:fl<p
      ·rw[if_pos (c:=(aN cl o e k).2.2≠0∧_) ⟨A,.inr g3⟩,decide_eq_true g3,z];rfl
      ·rw[if_neg (c:=(aN cl o e k).2.2≠0∧_) (fun x=>x.2.elim (fun y=>y g2) g3),decide_eq_false g3];rfl
     ·rw[if_pos (c:=((aN cl o e k).2.2 != 3)=true) (by simpa using g2),if_pos (c:=(aN cl o e k).2.2≠0∧_) ⟨A,.inl g2⟩,z];rfl
   simp only[gB,B,O,R,V,I,N,and_self,decide_true,if_true,Option.bind_some,Int.toNat_natCast];rw[q];simp only[C,decide_false,Bool.false_eq_true,if_false,e3,Option.bind_some,q5];rw[←Option.bind_assoc,hb];rfl
theorem mR(cl:List bB)(o:List Int)(e:Nat){k:Nat}(h:0<k):o.getD (e+k) 0=yc (aN cl o e) k:=by
 cases k with
 | zero=>omega
 | succ k=>rfl
theorem Cx{cl:List bB}(q:DS cl){o:List Int}(D:o.length=cl.length+1){e n:Nat}(E:e+n≤cl.length)(m:Int){f:Int}(u:1≤f)(v:f≤64)(I J L:Int)(M:Option Nat){a:Nat}(ha:a<n):
  mK cl o ((e+a:Nat):Int) ((e+n:Nat):Int) m f I J L M =
   some (((e+a:Nat):Int),(((e+(lu (aN cl o e) n m f a).1:Nat):Int),(oB (aN cl o e) f a (lu (aN cl o e) n m f a).1 (lu (aN cl o e) n m f a).2,(lu (aN cl o e) n m f a).2))):=by
 have hl:=q.1;have N:i64.wrap (((e+a:Nat):Int)+1)=((e+a+1:Nat):Int):=bj (by omega);have x:=ED q D E m u v a (n - a) a (-1) (a+1) 0 (by omega) (Nat.le_refl _);have hin:=vA (aN cl o e) m f a (n - a) a (-1) (a+1) 0 (Nat.le_refl _) (.inl rfl) (by omega) (by omega);rw[Nat.sub_self]at x;simp only[ij]at x;unfold mK;have k:vo e (-1) = -1:=rfl;rw[k,show e+(a+1)=e+a+1 by omega]at x;rw[N,x,Option.bind_some];unfold lu;generalize ox (aN cl o e) m f a (n - a) a (-1) (a+1) 0=p at hin;obtain⟨j,cut⟩:=p;simp only at hin ⊢;obtain⟨hb,O,R⟩:=hin;by_cases B:0≤j
 ·obtain⟨b,rfl⟩:∃b:Nat,j=(b:Int):=⟨j.toNat,by omega⟩;have k:vo e (b:Int)=((e+b:Nat):Int):=by unfold vo;rw[if_neg (by omega)];omega
  rw[if_pos (c:=(0:Int)≤_) B,k,Int.toNat_natCast];rw[if_pos (by rw[decide_eq_true_eq];omega),if_pos (by omega),Int.toNat_natCast,rS q o u v (by omega) (by omega),mQ cl o e f (by omega),mR cl o e (by omega)];rfl
 ·have z:j = -1:=by omega
  subst z;rw[if_neg (c:=(0:Int)≤_) B,k,if_neg (by decide)];have V:cut≤n:=by omega
  by_cases C:cut=n
  ·subst C;rw[if_pos (by simp),if_pos (by omega),Int.toNat_natCast];simp only[Option.bind_some,Int.lt_irrefl,decide_false,Bool.false_eq_true,if_false,Nat.lt_irrefl,false_and,if_true];rw[rS q o u v (by omega) (by omega),mQ cl o e f (by omega),mR cl o e (by omega)];rfl
  ·have X:((((e+cut:Nat):Int)) == ((e+n:Nat):Int))=false:=by rw[beq_eq_false_iff_ne];omega
   have Y:((e+cut:Nat):Int)<((e+n:Nat):Int):=by omega
   have Z:cut<n:=by omega
   simp only[X,Bool.false_eq_true,if_false,Option.bind_some,Y,decide_true,if_true,Z,true_and,C];rw[if_pos (c:=0≤((e+cut:Nat):Int)∧_) (by omega),Int.toNat_natCast,mR cl o e (by omega)];by_cases A:yc (aN cl o e) cut=1
   ·simp only[A,Option.bind_some,if_true,BEq.rfl];rw[rS q o u v (by omega) (by omega),mQ cl o e f (by omega)];rfl
   ·have h6:(yc (aN cl o e) cut == 1)=false:=by rw[beq_eq_false_iff_ne];exact A
    simp only[A,h6,Option.bind_some,if_false,Bool.false_eq_true];rw[rS q o u v (by omega) (by omega),mQ cl o e f (by omega)];rfl
theorem Fy(x:bB)(l:List bB)(b:Int):cX (x::l) b=(x.1+b,(x.2.1+b,x.2.2))::cX l b:=rfl
theorem Eb(d:Dt)(f:Int)(a b c:Nat)(e:Int):cX [Kl d f a b e] (c:Int)=[(((c+a:Nat):Int),(((c+b:Nat):Int),(oB d f a b e,e)))]:=by
 simp only[cX,Kl,List.map_cons,List.map_nil];rw[show(a:Int)+(c:Int)=((c+a:Nat):Int) by omega,show(b:Int)+(c:Int)=((c+b:Nat):Int) by omega]
theorem ye{cl:List bB}(v:DS cl){o:List Int}(z:o.length=cl.length+1){c n:Nat}(A:c+n≤cl.length)(f:Int){e:Int}(B:1≤e)(C:e≤64)(k p q:Int)(u:Option Nat):
  jS cl o (c:Int) ((c+n:Nat):Int) f e k p q u=some (cX (eM (aN cl o c) n f e n 0) (c:Int)):=by
 have hl:=v.1;have key:∀m a out,a≤n→n≤a+m→out.length≤a→iter (eJ cl o ((c+n:Nat):Int) f e k p q u) (((c+a:Nat):Int),out)=some (out++cX (eM (aN cl o c) n f e m a) (c:Int)):=fun m=>by
  induction m with
  | zero =>
   intro a out D E I;obtain rfl:a=n:=by omega
   have j:¬(((c+a:Nat):Int)<((c+a:Nat):Int)):=by omega
   exact bM (by simp only[eJ,j,decide_false,Bool.false_eq_true,if_false,eM,cX,List.map_nil,List.append_nil])
  | succ m J =>
   intro a out D E I;by_cases ha:a<n
   ·have hin:=tl (aN cl o c) f e ha;have j:((c+a:Nat):Int)<((c+n:Nat):Int):=by omega
    simp only[eM];rw[if_pos ha,show ∀(x:bB) l,cX (x::l) (c:Int)=cX [x] (c:Int)++cX l (c:Int)from fun _ _=>rfl,Eb,←List.append_assoc];rw[←J _ _ hin.2 (by omega) (by simp;omega)];refine dE ?_;simp only[eJ,j,decide_true,if_true,Cx v z A f B C k p q u ha,Option.bind_some,List.length_singleton];rw[if_pos (by omega)]
   ·obtain rfl:a=n:=by omega
    have j:¬(((c+a:Nat):Int)<((c+a:Nat):Int)):=by omega
    simp only[eM];rw[if_neg ha];exact bM (by simp only[eJ,j,decide_false,Bool.false_eq_true,if_false,cX,List.map_nil,List.append_nil])
 have:=key n 0 [] (by omega) (by omega) (by simp);rw[Nat.add_zero,List.nil_append]at this;unfold jS;rw[this];rfl
end
end Go.Proofs.YtmcemnfjddoejaaGreatDoor.T
namespace Go.Proofs.YtmcemnfjddoejaaGreatDoor.T
open Go Go.Tv Go.Proofs
open Go.IntKind (i64)
noncomputable section
abbrev Wy:=Int×Int×Int×Int×Int×Option Nat
def qN(c:Wy)(op e n g:Int)(last:Bool):Int×Bool:=(eT [] [op] 0 e n g last c.1 c.2.1 c.2.2.1 c.2.2.2.1 c.2.2.2.2.1 c.2.2.2.2.2).getD (0,false)
def gJ(d:Dt)(n:Nat)(c:Wy)(all:Nat→Int×Int)(a:Nat):Nat→Nat→Int→Int→Int→Int→Int→Int×Int
 | 0,_,e,j,_,_,_=>(e,j)
 | m+1,k,e,j,full,sp,q =>
  let s:=if(d k).2.1=1 then i64.wrap (sp+1)else sp
  let f:=if j1 (d k)=true then(full,q)else(ij d c.2.1 a (k+1 - a),s)
  if f.1 > c.1 then(e,j)
  else if(d k).2.2=0∨(k+1<n∧(all (k+1)).2<0)then gJ d n c all a m (k+1) e j f.1 s f.2
  else
   let p:=qN c (yc d a) (d k).2.2 (if(d k).2.2=3 then i64.wrap (f.1+1)else f.1) f.2 (k+1 == n)
   if p.2=true∧(j<0∨i64.wrap (p.1+(all (k+1)).1)<e)then gJ d n c all a m (k+1) (i64.wrap (p.1+(all (k+1)).1)) ((k+1:Nat):Int) f.1 s f.2
   else gJ d n c all a m (k+1) e j f.1 s f.2
def vk(d:Dt)(n:Nat)(c:Wy)(a:Nat)(l:List (Int×Int)):Int×Int :=
 if a=0∨yc d a≠0 then gJ d n c (fun k=>l.getD (k - a - 1) (0,0)) a (n - a) a 0 (-1) 0 0 0 else(0,-1)
def dI(d:Dt)(n:Nat)(c:Wy):Nat→List (Int×Int)
 | 0=>[(0,0)]
 | j+1=>vk d n c (n - (j+1)) (dI d n c j)::dI d n c j
def jc(d:Dt)(n:Nat)(c:Int)(T:List (Int×Int)):Nat→Nat→List bB
 | 0,_=>[]
 | m+1,a=>if a<n then Kl d c a (T.getD a (0,0)).2.toNat (yc d (T.getD a (0,0)).2.toNat)::jc d n c T m (T.getD a (0,0)).2.toNat else[]
def ql(d:Dt)(n:Nat)(c:Wy):Option (List bB) :=
 if n=0 then some []else if((dI d n c n).getD 0 (0,0)).2<0 then none else some (jc d n c.2.1 (dI d n c n) n 0)
def gI(d:Dt)(n:Nat)(c:Wy):List bB×Bool :=
 if c.2.2.1=1 then(match ql d n c with
  | some l=>(l,false)
  | none=>(eM d n c.1 c.2.1 n 0,true))else(eM d n c.1 c.2.1 n 0,false)
theorem rO(d:Dt)(n:Nat)(c:Wy)(all:Nat→Int×Int)(a:Nat):∀m k e j full sp q,a≤k→k+m=n→(j = -1∨((a:Int)<j∧j≤(n:Int)∧(j<(n:Int)→0≤(all j.toNat).2))) →
  (gJ d n c all a m k e j full sp q).2 = -1∨((a:Int)<(gJ d n c all a m k e j full sp q).2∧(gJ d n c all a m k e j full sp q).2≤(n:Int)∧((gJ d n c all a m k e j full sp q).2<(n:Int)→0≤(all (gJ d n c all a m k e j full sp q).2.toNat).2))
 | 0,k,e,j,full,sp,q,_,_,h=>h
 | m+1,k,e,j,full,sp,q,z,A,h=>by
  simp only[gJ];generalize (if j1 (d k)=true then(full,q)else(ij d c.2.1 a (k+1 - a),(if(d k).2.1=1 then i64.wrap (sp+1)else sp)))=f;generalize qN c (yc d a) (d k).2.2 (if(d k).2.2=3 then i64.wrap (f.1+1)else f.1) f.2 (k+1 == n)=p;split
  ·exact h
  ·split
   ·exact rO d n c all a m (k+1) _ _ _ _ _ (by omega) (by omega) h
   ·rename_i u;split
    ·refine rO d n c all a m (k+1) _ _ _ _ _ (by omega) (by omega) (.inr ⟨by omega,by omega,fun v=> ?_⟩);rw[Int.toNat_natCast];have:¬(all (k+1)).2<0:=fun x=>u (.inr ⟨by omega,x⟩)
     omega
    ·exact rO d n c all a m (k+1) _ _ _ _ _ (by omega) (by omega) h
theorem oW{d u:Dt}{n:Nat}(h:∀j,j<n→d j=u j)(c:Wy)(all e:Nat→Int×Int)(a:Nat)(ha:a≤n)(v:∀k,a<k→k≤n→all k=e k):∀m k q z full sp x,a≤k→k+m=n →
  gJ d n c all a m k q z full sp x=gJ u n c e a m k q z full sp x
 | 0,_,_,_,_,_,_,_,_=>rfl
 | m+1,k,q,z,full,sp,x,A,B=>by
  simp only[gJ];rw[h k (by omega),nz h c.2.1 a (k+1 - a) (by omega),v (k+1) (by omega) (by omega),kF h ha];generalize (if j1 (u k)=true then(full,x)else(ij u c.2.1 a (k+1 - a),(if(u k).2.1=1 then i64.wrap (sp+1)else sp)))=f;generalize qN c (yc u a) (u k).2.2 (if(u k).2.2=3 then i64.wrap (f.1+1)else f.1) f.2 (k+1 == n)=p;split
  ·rfl
  ·split
   ·exact oW h c all e a ha v m (k+1) _ _ _ _ _ (by omega) (by omega)
   ·split <;> exact oW h c all e a ha v m (k+1) _ _ _ _ _ (by omega) (by omega)
theorem xy{d e:Dt}{n:Nat}(h:∀j,j<n→d j=e j)(c:Wy):∀j,j≤n→dI d n c j=dI e n c j
 | 0,_=>rfl
 | j+1,f=>by
  simp only[dI,xy h c j (by omega)];unfold vk;rw[kF h (show n - (j+1)≤n by omega),oW h c _ _ (n - (j+1)) (by omega) (fun _ _ _=>rfl) _ _ _ _ _ _ _ (Nat.le_refl _) (by omega)]
theorem EO(d:Dt)(n:Nat)(c:Wy):∀j i,j≤n→i<j→((dI d n c j).getD i (0,0)).2 = -1∨(((n - j+i:Nat):Int)<((dI d n c j).getD i (0,0)).2∧((dI d n c j).getD i (0,0)).2≤(n:Int) ∧
   (((dI d n c j).getD i (0,0)).2<(n:Int)→0≤((dI d n c j).getD (((dI d n c j).getD i (0,0)).2.toNat - (n - j)) (0,0)).2))
 | 0,i,_,hi=>by omega
 | j+1,0,z,_=>by
  simp only[dI,List.getD_cons_zero,Nat.add_zero];unfold vk;split
  ·have:=rO d n c (fun k=>(dI d n c j).getD (k - (n - (j+1)) - 1) (0,0)) (n - (j+1)) (n - (n - (j+1))) (n - (j+1)) 0 (-1) 0 0 0 (Nat.le_refl _) (by omega) (.inl rfl);generalize gJ d n c (fun k=>(dI d n c j).getD (k - (n - (j+1)) - 1) (0,0)) (n - (j+1)) (n - (n - (j+1))) (n - (j+1)) 0 (-1) 0 0 0=r at this;rcases this with e | ⟨u,m,p⟩
   ·exact .inl e
   ·refine .inr ⟨u,m,fun f=> ?_⟩;have:=p f;obtain⟨x,q⟩:∃x,r.2.toNat - (n - (j+1))=x+1:=⟨r.2.toNat - (n - (j+1)) - 1,by omega⟩;rw[q,List.getD_cons_succ];rw[show r.2.toNat - (n - (j+1)) - 1=x by omega]at this;exact this
  ·exact .inl rfl
 | j+1,i+1,z,hi=>by
  have v:=EO d n c j i (by omega) (by omega);simp only[dI,List.getD_cons_succ];generalize (dI d n c j).getD i (0,0)=r at v;rcases v with e | ⟨u,m,p⟩
  ·exact .inl e
  ·refine .inr ⟨by omega,m,fun f=> ?_⟩;have:=p f;obtain⟨x,q⟩:∃x,r.2.toNat - (n - (j+1))=x+1:=⟨r.2.toNat - (n - (j+1)) - 1,by omega⟩;rw[q,List.getD_cons_succ,show x=r.2.toNat - (n - j) by omega];exact this
theorem uV{d f:Dt}{n:Nat}(h:∀j,j<n→d j=f j)(e:Int)(T:List (Int×Int))(hT:∀a,a<n→0≤(T.getD a (0,0)).2→(a:Int)<(T.getD a (0,0)).2∧(T.getD a (0,0)).2≤(n:Int)∧((T.getD a (0,0)).2<(n:Int)→0≤(T.getD (T.getD a (0,0)).2.toNat (0,0)).2)):∀m a,(a<n→0≤(T.getD a (0,0)).2)→jc d n e T m a=jc f n e T m a
 | 0,_,_=>rfl
 | m+1,a,ha=>by
  simp only[jc];by_cases c:a<n
  ·obtain⟨q,u,p⟩:=hT a c (ha c);rw[if_pos c,if_pos c,uV h e T hT m _ (fun v=>p (by omega)),kF h (k:=(T.getD a (0,0)).2.toNat) (by omega)];unfold Kl;rw[sw h e (by omega) (by omega)]
  ·rw[if_neg c,if_neg c]
theorem sA(d:Dt)(n:Nat)(c:Wy):∀a,a<n→0≤((dI d n c n).getD a (0,0)).2→(a:Int)<((dI d n c n).getD a (0,0)).2∧((dI d n c n).getD a (0,0)).2≤(n:Int)∧(((dI d n c n).getD a (0,0)).2<(n:Int)→0≤((dI d n c n).getD ((dI d n c n).getD a (0,0)).2.toNat (0,0)).2):=fun a ha h=>by
 rcases EO d n c n a (Nat.le_refl _) ha with e | ⟨k,j,f⟩
 ·omega
 ·rw[Nat.sub_self,Nat.sub_zero]at f;exact⟨by omega,j,f⟩
theorem AO{d e:Dt}{n:Nat}(h:∀j,j<n→d j=e j)(c:Wy):gI d n c=gI e n c:=by
 have hb:ql d n c=ql e n c:=by
  unfold ql;rw[xy h c n (Nat.le_refl _)];by_cases f:n=0
  ·rw[if_pos f,if_pos f]
  ·rw[if_neg f,if_neg f];by_cases k:((dI e n c n).getD 0 (0,0)).2<0
   ·rw[if_pos k,if_pos k]
   ·rw[if_neg k,if_neg k,uV h c.2.1 _ (sA e n c) n 0 (fun _=>by omega)]
 unfold gI;rw[hb,sv h]
end
end Go.Proofs.YtmcemnfjddoejaaGreatDoor.T
