import Derived.Test.YtflahpmlcfhpcaaGreatDoorTvSdm
import Derived.Test.YtflahpmlcfhpcaaGreatDoorTv40im
namespace Go.Tv
open Go
open Go.IntKind (i64)
def FP(a:QJ):Prop:=∀n,a=some n→n<9223372036854775808
theorem FP.abs(a:QJ):FP (vU a):=fun n h=>by
 cases a with
 | none=>cases h
 | some b=>cases h;exact Nat.mod_lt _ (by decide)
theorem u7{n:Nat}(h:n<9223372036854775808):(∃m i,FloatKind.f64.format.read n = .number false m i)∨FloatKind.f64.format.read n = .infinity false∨∃t,FloatKind.f64.format.read n = .nan false t:=by
 have f:FloatKind.f64.format.signWeight=9223372036854775808:=rfl;have e:(n / FloatKind.f64.format.signWeight % 2 == 1)=false:=by rw[f,Nat.div_eq_of_lt h];rfl
 unfold Ieee.Format.read;simp only[e];split
 ·exact .inl ⟨_,_,rfl⟩
 ·split
  ·exact .inl ⟨_,_,rfl⟩
  ·split
   ·exact .inr (.inl rfl)
   ·exact .inr (.inr ⟨_,rfl⟩)
theorem En(m:Nat)(i:Int):FloatKind.f64.format.write (.number false m i)<9223372036854775808:=by
 have hi:FloatKind.f64.format.infRung=9218868437227405312:=by decide
 have e:∀r,r≤FloatKind.f64.format.infRung→FloatKind.f64.format.word false r<9223372036854775808:=fun r f=>by
  rw[hi]at f;unfold Ieee.Format.word;simp
  omega
 show FloatKind.f64.format.nearest false m i<_;unfold Ieee.Format.nearest;split
 ·exact e 0 (Nat.zero_le _)
 ·exact e _ (Nat.min_le_right _ _)
theorem xJ:FloatKind.f64.format.write (.infinity false)<9223372036854775808:=by decide
theorem FP.mul{a b:QJ}(ha:FP a)(hb:FP b):FP (cb .mul a b):=fun n h=>by
 cases a with
 | none=>cases h
 | some x =>
  cases b with
  | none=>cases h
  | some y =>
   have e:=u7 (ha x rfl);have f:=u7 (hb y rfl);simp only[cb,KI,Ieee.Format.mul]at h;have key:∀d,(FloatKind.f64.format.read x).product (FloatKind.f64.format.read y)=some d→FloatKind.f64.format.write d<9223372036854775808:=fun d hd=>by
    rcases e with⟨p,q,e⟩ | e | ⟨u,e⟩ <;> rcases f with⟨v,z,f⟩ | f | ⟨A,f⟩ <;> rw[e,f]at hd <;> simp only[Ieee.Datum.product]at hd
    all_goals first
     | (cases hd;first | exact En _ _ | exact xJ)
     | (split at hd <;> cases hd;exact xJ)
     | cases hd
   cases j:(FloatKind.f64.format.read x).product (FloatKind.f64.format.read y)with
   | none=>rw[j]at h;cases h
   | some d =>
    rw[j]at h;simp only[Option.map_some,Option.bind_some]at h;rw[jM h];exact key d j
theorem G0(n d B:Nat)(h:n<B*2 ^ d):Ieee.Toward.cut .zero false n d≤B:=by
 unfold Ieee.Toward.cut;simp only[Bool.toNat_false,Nat.add_zero,Nat.one_shiftLeft];rcases Nat.le_total d (n.log2+2)with hd | hd
 ·rw[Nat.min_eq_left hd];exact Nat.le_of_lt (Nat.div_lt_of_lt_mul (by rw[Nat.mul_comm];exact h))
 ·rw[Nat.min_eq_right hd];have f:n<2 ^ (n.log2+2):=by
   by_cases e:n=0
   ·subst e;exact Nat.two_pow_pos _
   ·have:=(Nat.log2_lt e (k:=n.log2+2)).1 (by omega);exact this
  rw[Nat.div_eq_of_lt f];exact Nat.zero_le _
theorem FP.int{a:QJ}(ha:FP a){c B k:Nat}(hc:FloatKind.f64.format.read c = .number false (B*2 ^ k) (-(k:Int)))(h:JV a (some c)=true):
  ∃n:Nat,n4 a=some (n:Int)∧n≤B:=by
 cases a with
 | none=>simp[JV,ud]at h
 | some x =>
  simp only[JV,ud,Ieee.Format.order,hc]at h;rcases u7 (ha x rfl)with⟨m,i,f⟩ | f | ⟨t,f⟩
  ·rw[f]at h;refine⟨Ieee.Toward.cut .zero false (m <<< i.toNat) (-i).toNat,?_,G0 _ _ _ ?_⟩
   ·unfold n4;simp only[Option.bind_some,FloatKind.decode,f];rfl
   ·simp only[Ieee.Datum.order,Ieee.signed,Bool.false_eq_true,if_false,beq_iff_eq,Option.some.injEq]at h;have h':(m <<< (i - min i (-(k:Int))).toNat)<((B*2 ^ k) <<< (-(k:Int) - min i (-(k:Int))).toNat):=by
     rw[Int.compare_eq_lt]at h
     exact_mod_cast h
    simp only[Nat.shiftLeft_eq]at h' ⊢;rcases Int.le_total 0 i with hi | hi
    ·obtain⟨j,rfl⟩:∃j:Nat,i=(j:Int):=⟨i.toNat,by omega⟩;rw[show((j:Int) - min (j:Int) (-(k:Int))).toNat=j+k by omega,show(-(k:Int) - min (j:Int) (-(k:Int))).toNat=0 by omega,Nat.pow_add,←Nat.mul_assoc,Nat.pow_zero,Nat.mul_one]at h';rw[show((j:Int)).toNat=j by omega,show(-(j:Int)).toNat=0 by omega,Nat.pow_zero,Nat.mul_one];exact Nat.lt_of_mul_lt_mul_right h'
    ·obtain⟨j,rfl⟩:∃j:Nat,i = -(j:Int):=⟨(-i).toNat,by omega⟩;rw[show(-(j:Int)).toNat=0 by omega,show(-(-(j:Int))).toNat=j by omega,Nat.pow_zero,Nat.mul_one];rcases Nat.le_total j k with z | z
     ·rw[show(-(j:Int) - min (-(j:Int)) (-(k:Int))).toNat=k - j by omega,show(-(k:Int) - min (-(j:Int)) (-(k:Int))).toNat=0 by omega,Nat.pow_zero,Nat.mul_one,show(2:Nat) ^ k=2 ^ j*2 ^ (k - j) by rw[←Nat.pow_add];congr 1;omega,←Nat.mul_assoc]at h';exact Nat.lt_of_mul_lt_mul_right h'
     ·rw[show(-(j:Int) - min (-(j:Int)) (-(k:Int))).toNat=0 by omega,show(-(k:Int) - min (-(j:Int)) (-(k:Int))).toNat=j - k by omega,Nat.pow_zero,Nat.mul_one,Nat.mul_assoc,←Nat.pow_add,show k+(j - k)=j by omega]at h';exact h'
  ·rw[f]at h;simp[Ieee.Datum.order]at h
  ·rw[f]at h;simp[Ieee.Datum.order]at h
end Go.Tv
namespace Go.Proofs.YtflahpmlcfhpcaaGreatDoor.T
open Go Go.Tv Go.Proofs
open Go.IntKind (i64)
noncomputable section
theorem Cw(r:QJ):∃b:Int,ig r=some b∧0≤b∧b≤10000:=by
 have j:eG 4666723172467343360=some 4666723172467343360:=by decide
 have f:FloatKind.f64.format.read 4666723172467343360 = .number false (10000*2 ^ 39) (-((39:Nat):Int)):=by decide
 have p:FP (cb .mul (cb .mul (cb .mul (eG 4636737291354636288) (vU r)) (vU r)) (vU r)) :=
  FP.mul (FP.mul (FP.mul (fun n h=>by rw[jM h];decide) (FP.abs r)) (FP.abs r)) (FP.abs r)
 unfold ig nP vY;simp only[Option.bind_some];generalize (cb .mul (cb .mul (cb .mul (eG 4636737291354636288) (vU r)) (vU r)) (vU r))=x at p;by_cases u:(!(Jw r r))=true
 ·rw[if_pos u];exact⟨0,rfl,by omega,by omega⟩
 ·rw[if_neg u,j];by_cases q:JV x (some 4666723172467343360)=true
  ·obtain⟨n,e,hn⟩:=p.int f q;rw[if_neg (by simp[q]),e];simp only[Option.isSome,Option.getD];rw[if_pos ⟨by first | rfl | trivial,by simp[IntKind.min,IntKind.bits,IntKind.signed];try omega,by simp[IntKind.max,IntKind.bits,IntKind.signed];omega⟩];exact⟨n,rfl,by omega,by omega⟩
  ·rw[if_pos (by simp[q])];exact⟨10000,rfl,by omega,by omega⟩
theorem Gu{o:QK}{fr:Nat}(I:fr<o.length)(C:XZ)(e n g:Int)(last:Bool)(p D E u x:Int)(z:QJ):∃v b,fJ C o (fr:Int) e n g last p D E u x z=some (v,b):=by
 unfold fJ;split
 ·exact⟨_,_,rfl⟩
 ·have q:0≤(fr:Int)∧(fr:Int)<(o.length:Int):=by omega
  have tail:∀f:Int,∃v b,(((if(e == (3:Int))=true then(if 0≤(fr:Int)∧(fr:Int)<(o.length:Int)then(if((o.getD (fr:Int).toNat (0:Int)) == (3:Int))=true then some ((i64.wrap ((i64.wrap ((i64.wrap ((i64.wrap ((10:Int)+f))*(i64.wrap ((10:Int)+f))))+u))+x)))
    else some ((i64.wrap ((i64.wrap ((i64.wrap ((10:Int)+f))*(i64.wrap ((10:Int)+f))))+u))))else none)
    else some ((i64.wrap ((i64.wrap ((10:Int)+f))*(i64.wrap ((10:Int)+f))))))).bind fun j=>some (j,true))=some (v,b):=fun f=>by
   by_cases A:(e == 3)=true
   ·rw[if_pos A,if_pos q];split <;> exact⟨_,_,rfl⟩
   ·rw[if_neg A];exact⟨_,_,rfl⟩
  cases last with
  | true=>exact tail 0
  | false =>
   obtain⟨b,hb,-⟩:=Cw (cb .quo (ofInt (i64.wrap (p - n))) (ofInt g));simp only[Bool.not_false,if_true,rP,nL,Option.bind_some];by_cases B:(!(!(Lo (cb .quo (ofInt (i64.wrap (p - n))) (ofInt g)) z)))=true
   ·rw[if_pos B];exact⟨_,_,rfl⟩
   ·rw[if_neg B,hb];simp only[Option.bind_some];exact tail b
abbrev Dt:=Nat→Int×Int×Int
def aR(cl:XZ)(o:QK)(fr:Nat):Dt:=fun j=>((cl.getD (fr+j) c0).2.2.1,(cl.getD (fr+j) c0).2.2.2,o.getD (fr+j+1) 0)
def j6(x:Int×Int×Int):Bool:=x.2.1 == 1 || (x.2.1 == 0 && x.1 == 0)
def gX(d:Dt)(e:Int)(a:Nat):Nat→Int
 | 0=>0
 | k+1=>if(d (a+k)).2.1=2 then gX d e a k+e - gX d e a k % e else gX d e a k+(d (a+k)).1
def l0(d:Dt)(a:Nat):Nat→Nat
 | 0=>0
 | n+1=>if a<n+1∧j6 (d n)=true then l0 d a n else n+1
def oQ(d:Dt)(f:Int)(a b:Nat)(e:Int):Int:=gX d f a (l0 d a b - a)+(if e=3 then 1 else 0)
theorem uD(cl:XZ)(o:QK)(fr:Nat)(f:Int)(a:Nat):∀k,qg cl f (fr+a) k=gX (aR cl o fr) f a k
 | 0=>rfl
 | k+1=>by
  have e:fr+a+k=fr+(a+k):=by omega
  simp only[qg,gX,tR,uD cl o fr f a k,aR,e];rfl
theorem Ak(j:XZ)(o:QK)(e a:Nat):∀b,a≤b→dV j (e+a) (e+b)=e+l0 (aR j o e) a b
 | 0,h=>by
  obtain rfl:a=0:=by omega
  cases e with
  | zero=>rfl
  | succ f=>simp[dV,l0]
 | b+1,h=>by
  have u:e+(b+1)=(e+b)+1:=by omega
  rw[u];simp only[dV,l0];by_cases hb:a<b+1
  ·have q:qu (j.getD (e+b) c0)=j6 (aR j o e b):=rfl;by_cases p:j6 (aR j o e b)=true
   ·rw[if_pos ⟨by omega,by rw[q];exact p⟩,if_pos ⟨hb,p⟩];exact Ak j o e a b (by omega)
   ·rw[if_neg (fun x=>p (by rw[←q];exact x.2)),if_neg (fun x=>p x.2)];omega
  ·rw[if_neg (fun x=>hb (by omega)),if_neg (fun x=>hb x.1)];omega
theorem wE(d:Dt)(a:Nat):∀b,a≤b→a≤l0 d a b∧l0 d a b≤b
 | 0,h=>by simp only[l0];omega
 | b+1,h=>by
  simp only[l0];split
  ·rename_i e;have:=wE d a b (by omega);omega
  ·omega
theorem mz(j:XZ)(o:QK)(f:Nat)(p:Int){a b:Nat}(h:a≤b)(e:Int):ve j p (f+a) (f+b) e=oQ (aR j o f) p a b e:=by
 unfold ve oQ;have:=wE (aR j o f) a b h;rw[Ak j o f a b h,show f+l0 (aR j o f) a b - (f+a)=l0 (aR j o f) a b - a by omega,uD j o f]
theorem nQ{d f:Dt}{n:Nat}(h:∀j,j<n→d j=f j)(e:Int)(a:Nat):∀k,a+k≤n→gX d e a k=gX f e a k
 | 0,_=>rfl
 | k+1,hk=>by
  simp only[gX,nQ h e a k (by omega),h (a+k) (by omega)]
theorem tO{d e:Dt}{n:Nat}(h:∀j,j<n→d j=e j)(a:Nat):∀b,b≤n→l0 d a b=l0 e a b
 | 0,_=>rfl
 | b+1,hb=>by simp only[l0,tO h a b (by omega),h b (by omega)]
theorem rv{d p:Dt}{n:Nat}(h:∀j,j<n→d j=p j)(f:Int){a b:Nat}(q:a≤b)(hb:b≤n)(e:Int):oQ d f a b e=oQ p f a b e:=by
 unfold oQ;have:=wE p a b q;rw[tO h a b hb,nQ h f a _ (by omega)]
def vD(d:Dt):Nat→Int
 | 0=>0
 | k+1=>(d k).2.2
def n5(d:Dt)(j f:Int)(a:Nat):Nat→Nat→Int→Nat→Int→Int×Nat
 | 0,_,e,cut,_=>(e,cut)
 | m+1,k,e,cut,full =>
  let fl:=if j6 (d k)=true then full else gX d f a (k+1 - a)
  if fl > j then(e,cut)
  else n5 d j f a m (k+1) (if(d k).2.2≠0∧((d k).2.2≠3∨fl<j)then((k+1:Nat):Int)else e) (k+1) fl
def kW(d:Dt)(n:Nat)(f e:Int)(a:Nat):Nat×Int :=
 let p:=n5 d f e a (n - a) a (-1) (a+1) 0
 if 0≤p.1 then(p.1.toNat,vD d p.1.toNat)
 else(p.2,if p.2<n∧vD d p.2=1 then 1 else if p.2=n then vD d n else 4)
def Kh(d:Dt)(f:Int)(a b:Nat)(e:Int):cR:=((a:Int),((b:Int),(oQ d f a b e,e)))
def gC(d:Dt)(n:Nat)(f e:Int):Nat→Nat→XZ
 | 0,_=>[]
 | m+1,a=>if a<n then Kh d e a (kW d n f e a).1 (kW d n f e a).2::gC d n f e m (kW d n f e a).1 else[]
def ka(l:XZ)(e:Int):XZ:=l.map fun x=>(x.1+e,(x.2.1+e,x.2.2))
theorem uB(d:Dt)(j f:Int)(a:Nat):∀m k e cut full,a≤k→(e = -1∨((a:Int)<e∧e≤((k+m:Nat):Int)))→a<cut→cut≤max (a+1) (k+m) →
  ((n5 d j f a m k e cut full).1 = -1∨((a:Int)<(n5 d j f a m k e cut full).1∧(n5 d j f a m k e cut full).1≤((k+m:Nat):Int)))∧a<(n5 d j f a m k e cut full).2∧(n5 d j f a m k e cut full).2≤max (a+1) (k+m)
 | 0,k,e,cut,full,_,p,q,u=>⟨p,q,u⟩
 | m+1,k,e,cut,full,x,p,q,u=>by
  simp only[n5];generalize (if j6 (d k)=true then full else gX d f a (k+1 - a))=fl;by_cases v:fl > j
  ·rw[if_pos v];exact⟨p,q,u⟩
  ·rw[if_neg v];have:=uB d j f a m (k+1) (if(d k).2.2≠0∧((d k).2.2≠3∨fl<j)then((k+1:Nat):Int)else e) (k+1) fl (by omega) (by split <;> omega) (by omega) (by omega);rw[show k+1+m=k+(m+1) by omega]at this;exact this
theorem wc(d:Dt){n:Nat}(f e:Int){a:Nat}(h:a<n):a<(kW d n f e a).1∧(kW d n f e a).1≤n:=by
 have:=uB d f e a (n - a) a (-1) (a+1) 0 (Nat.le_refl _) (.inl rfl) (by omega) (by omega);unfold kW;simp only;split <;> simp only <;> omega
theorem uJ{d p:Dt}{n:Nat}(h:∀j,j<n→d j=p j)(q e:Int)(a:Nat):∀m k f cut full,a≤k→k+m≤n→n5 d q e a m k f cut full=n5 p q e a m k f cut full
 | 0,_,_,_,_,_,_=>rfl
 | m+1,k,f,cut,full,u,v=>by
  simp only[n5];rw[h k (by omega),nQ h e a (k+1 - a) (by omega)];generalize (if j6 (p k)=true then full else gX p e a (k+1 - a))=fl;split
  ·rfl
  ·exact uJ h q e a m (k+1) _ _ _ (by omega) (by omega)
theorem kO{d e:Dt}{n:Nat}(h:∀j,j<n→d j=e j):∀ {k:Nat},k≤n→vD d k=vD e k
 | 0,_=>rfl
 | k+1,hk=>by simp only[vD,h k (by omega)]
theorem zQ{d q:Dt}{n:Nat}(h:∀j,j<n→d j=q j)(f e:Int){a:Nat}(ha:a<n):kW d n f e a=kW q n f e a:=by
 have hin:=uB q f e a (n - a) a (-1) (a+1) 0 (Nat.le_refl _) (.inl rfl) (by omega) (by omega);unfold kW;rw[uJ h f e a (n - a) a (-1) (a+1) 0 (Nat.le_refl _) (by omega)];generalize n5 q f e a (n - a) a (-1) (a+1) 0=p at hin;simp only;by_cases u:0≤p.1
 ·rw[if_pos u,if_pos u,kO h (k:=p.1.toNat) (by omega)]
 ·rw[if_neg u,if_neg u,kO h (k:=p.2) (by omega),kO h (Nat.le_refl n)]
theorem sb{d p:Dt}{n:Nat}(h:∀j,j<n→d j=p j)(f e:Int):∀m a,gC d n f e m a=gC p n f e m a
 | 0,_=>rfl
 | m+1,a=>by
  simp only[gC];by_cases ha:a<n
  ·have:=wc p f e ha;rw[if_pos ha,if_pos ha,zQ h f e ha,sb h f e m];unfold Kh;rw[rv h e (Nat.le_of_lt this.1) this.2]
  ·rw[if_neg ha,if_neg ha]
def ue(fr:Nat)(b:Int):Int:=if b<0 then -1 else b+(fr:Int)
theorem DL(cl:XZ)(o:QK)(fr j:Nat):o.getD (fr+j+1) 0=(aR cl o fr j).2.2:=rfl
theorem DJ{cl:XZ}(hc:C5 cl){o:QK}(X:o.length=cl.length+1){e n:Nat}(hn:e+n≤cl.length)(p:Int){f:Int}(C:1≤f)(D:f≤64)(a:Nat):∀m k j cut full,k+m=n→a≤k →
  iter (gO cl o ((e+n:Nat):Int) p f) (ue e j,((e+cut:Nat):Int),gX (aR cl o e) f a (k - a),full,((e+k+1:Nat):Int)) =
   some (ue e (n5 (aR cl o e) p f a m k j cut full).1,((e+(n5 (aR cl o e) p f a m k j cut full).2:Nat):Int))
 | 0,k,j,cut,full,hk,ha=>by
  have A:¬(((e+k+1:Nat):Int)≤((e+n:Nat):Int)):=by omega
  exact dN (by simp only[gO,A,decide_false,Bool.false_eq_true,if_false,n5])
 | m+1,k,j,cut,full,hk,ha=>by
  have hl:=hc.1;have u:=uD cl o e f a;obtain⟨Y,b1⟩:=rI hc C D (e+a) (k - a) (by omega);obtain⟨E,-,-⟩:=uv (c:=cl.getD (e+k) c0) Y (by omega) C D (hc.2 _).1 (hc.2 _).2;have I:tR (cl.getD (e+k) c0) (qg cl f (e+a) (k - a)) f=gX (aR cl o e) f a (k+1 - a):=by rw[←u,show k+1 - a=(k - a)+1 by omega];simp only[qg];rw[show e+a+(k - a)=e+k by omega]
  rw[I,u]at E;obtain⟨M,-,-⟩:=qW (cl:=cl) o (show e+k≤e+k+1 by omega) (by omega) (by omega);have Z:=DC cl (o:=o) (i:=e+k+1) (by omega);have A:((e+k+1:Nat):Int)≤((e+n:Nat):Int):=by omega
  have N:i64.wrap (((e+k+1:Nat):Int) - 1)=((e+k:Nat):Int):=ll (by omega);have O:0≤((e+k:Nat):Int):=by omega
  have V:((e+k:Nat):Int)<(cl.length:Int):=by omega
  have q5:i64.wrap (((e+k+1:Nat):Int)+1)=((e+(k+1)+1:Nat):Int):=bE (by omega);have ht:(((dV cl (e+k) (e+k+1):Nat):Int) == ((e+k+1:Nat):Int)) = !(j6 (aR cl o e k)):=by
   have hh:qu (cl.getD (e+k) c0)=j6 (aR cl o e k):=rfl;have:=(qW (cl:=cl) o (show e+k≤e+k by omega) (by omega) (by omega)).2.2;simp only[dV];rw[hh];cases he:j6 (aR cl o e k)with
   | true =>
    rw[if_pos ⟨by omega,rfl⟩,Bool.not_true,beq_eq_false_iff_ne];omega
   | false =>rw[if_neg (fun x=>by cases x.2)];simp
  have q:(if(((dV cl (e+k) (e+k+1):Nat):Int) == ((e+k+1:Nat):Int))=true then some (gX (aR cl o e) f a (k+1 - a))else some full)=some (if j6 (aR cl o e k)=true then full else gX (aR cl o e) f a (k+1 - a)):=by rw[ht];cases j6 (aR cl o e k) <;> rfl
  have J:n5 (aR cl o e) p f a (m+1) k j cut full=(if(if j6 (aR cl o e k)=true then full else gX (aR cl o e) f a (k+1 - a)) > p then(j,cut)
    else n5 (aR cl o e) p f a m (k+1) (if(aR cl o e k).2.2≠0∧((aR cl o e k).2.2≠3∨(if j6 (aR cl o e k)=true then full else gX (aR cl o e) f a (k+1 - a))<p)then((k+1:Nat):Int)else j) (k+1) (if j6 (aR cl o e k)=true then full else gX (aR cl o e) f a (k+1 - a))):=rfl
  rw[J];generalize (if j6 (aR cl o e k)=true then full else gX (aR cl o e) f a (k+1 - a))=fl at q;by_cases B:fl > p
  ·rw[if_pos B];refine dN ?_;simp only[gO,A,N,O,V,E,M,and_self,decide_true,if_true,Option.bind,Int.toNat_natCast];rw[q];simp only[B,decide_true,if_true]
  ·rw[if_neg B,←DJ hc X hn p C D a m (k+1) _ (k+1) fl (by omega) (by omega)];refine fR ?_;have hb:((if(o.getD (e+k+1) 0 != 0)=true then(if(o.getD (e+k+1) 0 != 3)=true then some true else some (decide (fl<p)))else some false).bind fun L=>(if L=true then some ((e+k+1:Nat):Int)else some (ue e j))) =
     some (ue e (if(aR cl o e k).2.2≠0∧((aR cl o e k).2.2≠3∨fl<p)then((k+1:Nat):Int)else j)):=by
    rw[DL cl o e k];have v:ue e ((k+1:Nat):Int)=((e+k+1:Nat):Int):=by unfold ue;rw[if_neg (by omega)];omega
    by_cases z:(aR cl o e k).2.2=0
    ·rw[if_neg (c:=(aR cl o e k).2.2≠0∧_) (fun x=>x.1 z),if_neg (by simp[z])];rfl
    ·rw[if_pos (c:=((aR cl o e k).2.2 != 0)=true) (by simpa using z)];by_cases g2:(aR cl o e k).2.2=3
     ·rw[if_neg (c:=((aR cl o e k).2.2 != 3)=true) (by simp[g2])];by_cases g3:fl<p
      ·rw[if_pos (c:=(aR cl o e k).2.2≠0∧_) ⟨z,.inr g3⟩,decide_eq_true g3,v];rfl
      ·rw[if_neg (c:=(aR cl o e k).2.2≠0∧_) (fun x=>x.2.elim (fun y=>y g2) g3),decide_eq_false g3];rfl
     ·rw[if_pos (c:=((aR cl o e k).2.2 != 3)=true) (by simpa using g2),if_pos (c:=(aR cl o e k).2.2≠0∧_) ⟨z,.inl g2⟩,v];rfl
   simp only[gO,A,N,O,V,E,M,and_self,decide_true,if_true,Option.bind_some,Int.toNat_natCast];rw[q];simp only[B,decide_false,Bool.false_eq_true,if_false,Z,Option.bind_some,q5];rw[←Option.bind_assoc,hb];rfl
theorem mQ(f:XZ)(o:QK)(e:Nat){k:Nat}(h:0<k):o.getD (e+k) 0=vD (aR f o e) k:=by
 cases k with
 | zero=>omega
 | succ k=>rfl
theorem BF{j:XZ}(hc:C5 j){o:QK}(I:o.length=j.length+1){e n:Nat}(hn:e+n≤j.length)(v:Int){f:Int}(x:1≤f)(z:f≤64)(J L M:Int)(N:QJ){a:Nat}(ha:a<n):
  mE j o ((e+a:Nat):Int) ((e+n:Nat):Int) v f J L M N =
   some (((e+a:Nat):Int),(((e+(kW (aR j o e) n v f a).1:Nat):Int),(oQ (aR j o e) f a (kW (aR j o e) n v f a).1 (kW (aR j o e) n v f a).2,(kW (aR j o e) n v f a).2))):=by
 have hl:=hc.1;have O:i64.wrap (((e+a:Nat):Int)+1)=((e+a+1:Nat):Int):=bE (by omega);have A:=DJ hc I hn v x z a (n - a) a (-1) (a+1) 0 (by omega) (Nat.le_refl _);have hin:=uB (aR j o e) v f a (n - a) a (-1) (a+1) 0 (Nat.le_refl _) (.inl rfl) (by omega) (by omega);rw[Nat.sub_self]at A;simp only[gX]at A;unfold mE;have u:ue e (-1) = -1:=rfl;rw[u,show e+(a+1)=e+a+1 by omega]at A;rw[O,A,Option.bind_some];unfold kW;generalize n5 (aR j o e) v f a (n - a) a (-1) (a+1) 0=p at hin;obtain⟨q,cut⟩:=p;simp only at hin ⊢;obtain⟨hb,V,X⟩:=hin;by_cases D:0≤q
 ·obtain⟨b,rfl⟩:∃b:Nat,q=(b:Int):=⟨q.toNat,by omega⟩;have u:ue e (b:Int)=((e+b:Nat):Int):=by unfold ue;rw[if_neg (by omega)];omega
  rw[if_pos (c:=(0:Int)≤_) D,u,Int.toNat_natCast];rw[if_pos (by rw[decide_eq_true_eq];omega),if_pos (by omega),Int.toNat_natCast,sa hc o x z (by omega) (by omega),mz j o e f (by omega),mQ j o e (by omega)];rfl
 ·have B:q = -1:=by omega
  subst B;rw[if_neg (c:=(0:Int)≤_) D,u,if_neg (by decide)];have Y:cut≤n:=by omega
  by_cases E:cut=n
  ·subst E;rw[if_pos (by simp),if_pos (by omega),Int.toNat_natCast];simp only[Option.bind_some,Int.lt_irrefl,decide_false,Bool.false_eq_true,if_false,Nat.lt_irrefl,false_and,if_true];rw[sa hc o x z (by omega) (by omega),mz j o e f (by omega),mQ j o e (by omega)];rfl
  ·have Z:((((e+cut:Nat):Int)) == ((e+n:Nat):Int))=false:=by rw[beq_eq_false_iff_ne];omega
   have h3:((e+cut:Nat):Int)<((e+n:Nat):Int):=by omega
   have h4:cut<n:=by omega
   simp only[Z,Bool.false_eq_true,if_false,Option.bind_some,h3,decide_true,if_true,h4,true_and,E];rw[if_pos (c:=0≤((e+cut:Nat):Int)∧_) (by omega),Int.toNat_natCast,mQ j o e (by omega)];by_cases C:vD (aR j o e) cut=1
   ·simp only[C,Option.bind_some,if_true,BEq.rfl];rw[sa hc o x z (by omega) (by omega),mz j o e f (by omega)];rfl
   ·have h6:(vD (aR j o e) cut == 1)=false:=by rw[beq_eq_false_iff_ne];exact C
    simp only[C,h6,Option.bind_some,if_false,Bool.false_eq_true];rw[sa hc o x z (by omega) (by omega),mz j o e f (by omega)];rfl
theorem DD(d:Dt)(j:Int)(a b f:Nat)(e:Int):ka [Kh d j a b e] (f:Int)=[(((f+a:Nat):Int),(((f+b:Nat):Int),(oQ d j a b e,e)))]:=by
 simp only[ka,Kh,List.map_cons,List.map_nil];rw[show(a:Int)+(f:Int)=((f+a:Nat):Int) by omega,show(b:Int)+(f:Int)=((f+b:Nat):Int) by omega]
theorem wR{j:XZ}(hc:C5 j){o:QK}(B:o.length=j.length+1){e n:Nat}(hn:e+n≤j.length)(p:Int){f:Int}(C:1≤f)(D:f≤64)(u v z:Int)(A:QJ):
  jH j o (e:Int) ((e+n:Nat):Int) p f u v z A=some (ka (gC (aR j o e) n p f n 0) (e:Int)):=by
 have hl:=hc.1;have key:∀m a out,a≤n→n≤a+m→out.length≤a→iter (fq j o ((e+n:Nat):Int) p f u v z A) (((e+a:Nat):Int),out)=some (out++ka (gC (aR j o e) n p f m a) (e:Int)):=fun m=>by
  induction m with
  | zero =>
   intro a out E I J;obtain rfl:a=n:=by omega
   have q:¬(((e+a:Nat):Int)<((e+a:Nat):Int)):=by omega
   exact dN (by simp only[fq,q,decide_false,Bool.false_eq_true,if_false,gC,ka,List.map_nil,List.append_nil])
  | succ m L =>
   intro a out E I J;by_cases ha:a<n
   ·have hin:=wc (aR j o e) p f ha;have q:((e+a:Nat):Int)<((e+n:Nat):Int):=by omega
    simp only[gC];rw[if_pos ha,show ∀(x:cR) l,ka (x::l) (e:Int)=ka [x] (e:Int)++ka l (e:Int)from fun _ _=>rfl,DD,←List.append_assoc];rw[←L _ _ hin.2 (by omega) (by simp;omega)];refine fR ?_;simp only[fq,q,decide_true,if_true,BF hc B hn p C D u v z A ha,Option.bind_some,List.length_singleton];rw[if_pos (by omega)]
   ·obtain rfl:a=n:=by omega
    have q:¬(((e+a:Nat):Int)<((e+a:Nat):Int)):=by omega
    simp only[gC];rw[if_neg ha];exact dN (by simp only[fq,q,decide_false,Bool.false_eq_true,if_false,ka,List.map_nil,List.append_nil])
 have:=key n 0 [] (by omega) (by omega) (by simp);rw[Nat.add_zero,List.nil_append]at this;unfold jH;rw[this];rfl
abbrev Wy:=Int×Int×Int×Int×Int×QJ
def qh(c:Wy)(op e n g:Int)(last:Bool):Int×Bool:=(fJ [] [op] 0 e n g last c.1 c.2.1 c.2.2.1 c.2.2.2.1 c.2.2.2.2.1 c.2.2.2.2.2).getD (0,false)
def gR(d:Dt)(n:Nat)(c:Wy)(all:Nat→Int×Int)(a:Nat):Nat→Nat→Int→Int→Int→Int→Int→Int×Int
 | 0,_,e,j,_,_,_=>(e,j)
 | m+1,k,e,j,full,sp,q =>
  let s:=if(d k).2.1=1 then i64.wrap (sp+1)else sp
  let f:=if j6 (d k)=true then(full,q)else(gX d c.2.1 a (k+1 - a),s)
  if f.1 > c.1 then(e,j)
  else if(d k).2.2=0∨(k+1<n∧(all (k+1)).2<0)then gR d n c all a m (k+1) e j f.1 s f.2
  else
   let p:=qh c (vD d a) (d k).2.2 (if(d k).2.2=3 then i64.wrap (f.1+1)else f.1) f.2 (k+1 == n)
   if p.2=true∧(j<0∨i64.wrap (p.1+(all (k+1)).1)<e)then gR d n c all a m (k+1) (i64.wrap (p.1+(all (k+1)).1)) ((k+1:Nat):Int) f.1 s f.2
   else gR d n c all a m (k+1) e j f.1 s f.2
def uo(d:Dt)(n:Nat)(c:Wy)(a:Nat)(l:Qq):Int×Int :=
 if a=0∨vD d a≠0 then gR d n c (fun k=>l.getD (k - a - 1) (0,0)) a (n - a) a 0 (-1) 0 0 0 else(0,-1)
def eH(d:Dt)(n:Nat)(c:Wy):Nat→Qq
 | 0=>[(0,0)]
 | j+1=>uo d n c (n - (j+1)) (eH d n c j)::eH d n c j
def lA(d:Dt)(n:Nat)(e:Int)(T:Qq):Nat→Nat→XZ
 | 0,_=>[]
 | m+1,a=>if a<n then Kh d e a (T.getD a (0,0)).2.toNat (vD d (T.getD a (0,0)).2.toNat)::lA d n e T m (T.getD a (0,0)).2.toNat else[]
def rA(d:Dt)(n:Nat)(c:Wy):Option XZ :=
 if n=0 then some []else if((eH d n c n).getD 0 (0,0)).2<0 then none else some (lA d n c.2.1 (eH d n c n) n 0)
def iK(d:Dt)(n:Nat)(c:Wy):XZ×Bool :=
 if c.2.2.1=1 then(match rA d n c with
  | some l=>(l,false)
  | none=>(gC d n c.1 c.2.1 n 0,true))else(gC d n c.1 c.2.1 n 0,false)
theorem rR(d:Dt)(n:Nat)(c:Wy)(all:Nat→Int×Int)(a:Nat):∀m k e j full sp q,a≤k→k+m=n→(j = -1∨((a:Int)<j∧j≤(n:Int)∧(j<(n:Int)→0≤(all j.toNat).2))) →
  (gR d n c all a m k e j full sp q).2 = -1∨((a:Int)<(gR d n c all a m k e j full sp q).2∧(gR d n c all a m k e j full sp q).2≤(n:Int)∧((gR d n c all a m k e j full sp q).2<(n:Int)→0≤(all (gR d n c all a m k e j full sp q).2.toNat).2))
 | 0,k,e,j,full,sp,q,_,_,h=>h
 | m+1,k,e,j,full,sp,q,x,z,h=>by
  simp only[gR];generalize (if j6 (d k)=true then(full,q)else(gX d c.2.1 a (k+1 - a),(if(d k).2.1=1 then i64.wrap (sp+1)else sp)))=f;generalize qh c (vD d a) (d k).2.2 (if(d k).2.2=3 then i64.wrap (f.1+1)else f.1) f.2 (k+1 == n)=p;split
  ·exact h
  ·split
   ·exact rR d n c all a m (k+1) _ _ _ _ _ (by omega) (by omega) h
   ·rename_i hn;split
    ·refine rR d n c all a m (k+1) _ _ _ _ _ (by omega) (by omega) (.inr ⟨by omega,by omega,fun u=>?_⟩);rw[Int.toNat_natCast];have:¬(all (k+1)).2<0:=fun v=>hn (.inr ⟨by omega,v⟩)
     omega
    ·exact rR d n c all a m (k+1) _ _ _ _ _ (by omega) (by omega) h
theorem oJ{d u:Dt}{n:Nat}(h:∀j,j<n→d j=u j)(c:Wy)(all e:Nat→Int×Int)(a:Nat)(ha:a≤n)(v:∀k,a<k→k≤n→all k=e k):∀m k q z full sp x,a≤k→k+m=n →
  gR d n c all a m k q z full sp x=gR u n c e a m k q z full sp x
 | 0,_,_,_,_,_,_,_,_=>rfl
 | m+1,k,q,z,full,sp,x,A,B=>by
  simp only[gR];rw[h k (by omega),nQ h c.2.1 a (k+1 - a) (by omega),v (k+1) (by omega) (by omega),kO h ha];generalize (if j6 (u k)=true then(full,x)else(gX u c.2.1 a (k+1 - a),(if(u k).2.1=1 then i64.wrap (sp+1)else sp)))=f;generalize qh c (vD u a) (u k).2.2 (if(u k).2.2=3 then i64.wrap (f.1+1)else f.1) f.2 (k+1 == n)=p;split
  ·rfl
  ·split
   ·exact oJ h c all e a ha v m (k+1) _ _ _ _ _ (by omega) (by omega)
   ·split <;> exact oJ h c all e a ha v m (k+1) _ _ _ _ _ (by omega) (by omega)
theorem uY{d e:Dt}{n:Nat}(h:∀j,j<n→d j=e j)(c:Wy):∀j,j≤n→eH d n c j=eH e n c j
 | 0,_=>rfl
 | j+1,f=>by
  simp only[eH,uY h c j (by omega)];unfold uo;rw[kO h (show n - (j+1)≤n by omega),oJ h c _ _ (n - (j+1)) (by omega) (fun _ _ _=>rfl) _ _ _ _ _ _ _ (Nat.le_refl _) (by omega)]
theorem C8(d:Dt)(n:Nat)(c:Wy):∀j i,j≤n→i<j→((eH d n c j).getD i (0,0)).2 = -1∨(((n - j+i:Nat):Int)<((eH d n c j).getD i (0,0)).2∧((eH d n c j).getD i (0,0)).2≤(n:Int) ∧
   (((eH d n c j).getD i (0,0)).2<(n:Int)→0≤((eH d n c j).getD (((eH d n c j).getD i (0,0)).2.toNat - (n - j)) (0,0)).2))
 | 0,i,_,hi=>by omega
 | j+1,0,A,_=>by
  simp only[eH,List.getD_cons_zero,Nat.add_zero];unfold uo;split
  ·have:=rR d n c (fun k=>(eH d n c j).getD (k - (n - (j+1)) - 1) (0,0)) (n - (j+1)) (n - (n - (j+1))) (n - (j+1)) 0 (-1) 0 0 0 (Nat.le_refl _) (by omega) (.inl rfl);generalize gR d n c (fun k=>(eH d n c j).getD (k - (n - (j+1)) - 1) (0,0)) (n - (j+1)) (n - (n - (j+1))) (n - (j+1)) 0 (-1) 0 0 0=r at this;rcases this with e | ⟨v,p,q⟩
   ·exact .inl e
   ·refine .inr ⟨v,p,fun f=>?_⟩;have:=q f;obtain⟨x,u⟩:∃x,r.2.toNat - (n - (j+1))=x+1:=⟨r.2.toNat - (n - (j+1)) - 1,by omega⟩;rw[u,List.getD_cons_succ];rw[show r.2.toNat - (n - (j+1)) - 1=x by omega]at this;exact this
  ·exact .inl rfl
 | j+1,i+1,A,hi=>by
  have z:=C8 d n c j i (by omega) (by omega);simp only[eH,List.getD_cons_succ];generalize (eH d n c j).getD i (0,0)=r at z;rcases z with e | ⟨v,p,q⟩
  ·exact .inl e
  ·refine .inr ⟨by omega,p,fun f=>?_⟩;have:=q f;obtain⟨x,u⟩:∃x,r.2.toNat - (n - (j+1))=x+1:=⟨r.2.toNat - (n - (j+1)) - 1,by omega⟩;rw[u,List.getD_cons_succ,show x=r.2.toNat - (n - j) by omega];exact this
theorem td{d p:Dt}{n:Nat}(h:∀j,j<n→d j=p j)(f:Int)(T:Qq)(hT:∀a,a<n→0≤(T.getD a (0,0)).2→(a:Int)<(T.getD a (0,0)).2∧(T.getD a (0,0)).2≤(n:Int)∧((T.getD a (0,0)).2<(n:Int)→0≤(T.getD (T.getD a (0,0)).2.toNat (0,0)).2)):∀m a,(a<n→0≤(T.getD a (0,0)).2)→lA d n f T m a=lA p n f T m a
 | 0,_,_=>rfl
 | m+1,a,ha=>by
  simp only[lA];by_cases e:a<n
  ·obtain⟨u,v,q⟩:=hT a e (ha e);rw[if_pos e,if_pos e,td h f T hT m _ (fun x=>q (by omega)),kO h (k:=(T.getD a (0,0)).2.toNat) (by omega)];unfold Kh;rw[rv h f (by omega) (by omega)]
  ·rw[if_neg e,if_neg e]
theorem vJ(d:Dt)(n:Nat)(c:Wy):∀a,a<n→0≤((eH d n c n).getD a (0,0)).2→(a:Int)<((eH d n c n).getD a (0,0)).2∧((eH d n c n).getD a (0,0)).2≤(n:Int)∧(((eH d n c n).getD a (0,0)).2<(n:Int)→0≤((eH d n c n).getD ((eH d n c n).getD a (0,0)).2.toNat (0,0)).2):=fun a ha h=>by
 rcases C8 d n c n a (Nat.le_refl _) ha with e | ⟨p,j,f⟩
 ·omega
 ·rw[Nat.sub_self,Nat.sub_zero]at f;exact⟨by omega,j,f⟩
theorem Ao{d e:Dt}{n:Nat}(h:∀j,j<n→d j=e j)(c:Wy):iK d n c=iK e n c:=by
 have hb:rA d n c=rA e n c:=by
  unfold rA;rw[uY h c n (Nat.le_refl _)];by_cases f:n=0
  ·rw[if_pos f,if_pos f]
  ·rw[if_neg f,if_neg f];by_cases p:((eH e n c n).getD 0 (0,0)).2<0
   ·rw[if_pos p,if_pos p]
   ·rw[if_neg p,if_neg p,td h c.2.1 _ (vJ e n c) n 0 (fun _=>by omega)]
 unfold iK;rw[hb,sb h]
end
end Go.Proofs.YtflahpmlcfhpcaaGreatDoor.T
