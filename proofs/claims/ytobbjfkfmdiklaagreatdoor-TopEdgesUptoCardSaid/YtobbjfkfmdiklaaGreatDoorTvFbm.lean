import Derived.Test.YtobbjfkfmdiklaaGreatDoorTvSdm
import Derived.Test.YtobbjfkfmdiklaaGreatDoorTv50im
namespace Go.Tv
open Go
open Go.IntKind (i64)
def FP(a:QJ):Prop:=∀n,a=some n→n<9223372036854775808
theorem FP.abs(a:QJ):FP (vg a):=fun n h=>by
 cases a with
 | none=>cases h
 | some b=>cases h;exact Nat.mod_lt _ (by decide)
theorem wI{n:Nat}(h:n<9223372036854775808):(∃m i,FloatKind.f64.format.read n = .number false m i)∨FloatKind.f64.format.read n = .infinity false∨∃t,FloatKind.f64.format.read n = .nan false t:=by
 have j:FloatKind.f64.format.signWeight=9223372036854775808:=rfl;have e:(n / FloatKind.f64.format.signWeight % 2 == 1)=false:=by rw[j,Nat.div_eq_of_lt h];rfl
 unfold Ieee.Format.read;simp only[e];split
 ·exact .inl ⟨_,_,rfl⟩
 ·split
  ·exact .inl ⟨_,_,rfl⟩
  ·split
   ·exact .inr (.inl rfl)
   ·exact .inr (.inr ⟨_,rfl⟩)
theorem FI(m:Nat)(i:Int):FloatKind.f64.format.write (.number false m i)<9223372036854775808:=by
 have hi:FloatKind.f64.format.infRung=9218868437227405312:=by decide
 have j:∀r,r≤FloatKind.f64.format.infRung→FloatKind.f64.format.word false r<9223372036854775808:=fun r p=>by
  rw[hi]at p;unfold Ieee.Format.word;simp
  omega
 show FloatKind.f64.format.nearest false m i<_;unfold Ieee.Format.nearest;split
 ·exact j 0 (Nat.zero_le _)
 ·exact j _ (Nat.min_le_right _ _)
theorem yV:FloatKind.f64.format.write (.infinity false)<9223372036854775808:=by decide
theorem FP.mul{a b:QJ}(ha:FP a)(hb:FP b):FP (bN .mul a b):=fun n h=>by
 cases a with
 | none=>cases h
 | some x =>
  cases b with
  | none=>cases h
  | some y =>
   have h1:=wI (ha x rfl);have h2:=wI (hb y rfl);simp only[bN,Jg,Ieee.Format.mul]at h;have key:∀d,(FloatKind.f64.format.read x).product (FloatKind.f64.format.read y)=some d→FloatKind.f64.format.write d<9223372036854775808:=fun d hd=>by
    rcases h1 with⟨j,p,h1⟩ | h1 | ⟨q,h1⟩ <;> rcases h2 with⟨u,v,h2⟩ | h2 | ⟨z,h2⟩ <;> rw[h1,h2]at hd <;> simp only[Ieee.Datum.product]at hd
    all_goals first
     | (cases hd;first | exact FI _ _ | exact yV)
     | (split at hd <;> cases hd;exact yV)
     | cases hd
   cases hp:(FloatKind.f64.format.read x).product (FloatKind.f64.format.read y)with
   | none=>rw[hp]at h;cases h
   | some d =>
    rw[hp]at h;simp only[Option.map_some,Option.bind_some]at h;rw[hJ h];exact key d hp
theorem Hu(n d B:Nat)(h:n<B*2 ^ d):Ieee.Toward.cut .zero false n d≤B:=by
 unfold Ieee.Toward.cut;simp only[Bool.toNat_false,Nat.add_zero,Nat.one_shiftLeft];rcases Nat.le_total d (n.log2+2)with hd | hd
 ·rw[Nat.min_eq_left hd];exact Nat.le_of_lt (Nat.div_lt_of_lt_mul (by rw[Nat.mul_comm];exact h))
 ·rw[Nat.min_eq_right hd];have h1:n<2 ^ (n.log2+2):=by
   by_cases j:n=0
   ·subst j;exact Nat.two_pow_pos _
   ·have:=(Nat.log2_lt j (k:=n.log2+2)).1 (by omega);exact this
  rw[Nat.div_eq_of_lt h1];exact Nat.zero_le _
theorem FP.int{a:QJ}(ha:FP a){c B k:Nat}(hc:FloatKind.f64.format.read c = .number false (B*2 ^ k) (-(k:Int)))(h:Lf a (some c)=true):
  ∃n:Nat,ov a=some (n:Int)∧n≤B:=by
 cases a with
 | none=>simp[Lf,qH]at h
 | some x =>
  simp only[Lf,qH,Ieee.Format.order,hc]at h;rcases wI (ha x rfl)with⟨m,i,h1⟩ | h1 | ⟨t,h1⟩
  ·rw[h1]at h;refine⟨Ieee.Toward.cut .zero false (m <<< i.toNat) (-i).toNat,?_,Hu _ _ _ ?_⟩
   ·unfold ov;simp only[Option.bind_some,FloatKind.decode,h1];rfl
   ·simp only[Ieee.Datum.order,Ieee.signed,Bool.false_eq_true,if_false,beq_iff_eq,Option.some.injEq]at h;have h':(m <<< (i - min i (-(k:Int))).toNat)<((B*2 ^ k) <<< (-(k:Int) - min i (-(k:Int))).toNat):=by
     rw[Int.compare_eq_lt]at h
     exact_mod_cast h
    simp only[Nat.shiftLeft_eq]at h' ⊢;rcases Int.le_total 0 i with hi | hi
    ·obtain⟨j,rfl⟩:∃j:Nat,i=(j:Int):=⟨i.toNat,by omega⟩;rw[show((j:Int) - min (j:Int) (-(k:Int))).toNat=j+k by omega,show(-(k:Int) - min (j:Int) (-(k:Int))).toNat=0 by omega,Nat.pow_add,←Nat.mul_assoc,Nat.pow_zero,Nat.mul_one]at h';rw[show((j:Int)).toNat=j by omega,show(-(j:Int)).toNat=0 by omega,Nat.pow_zero,Nat.mul_one];exact Nat.lt_of_mul_lt_mul_right h'
    ·obtain⟨j,rfl⟩:∃j:Nat,i = -(j:Int):=⟨(-i).toNat,by omega⟩;rw[show(-(j:Int)).toNat=0 by omega,show(-(-(j:Int))).toNat=j by omega,Nat.pow_zero,Nat.mul_one];rcases Nat.le_total j k with z | z
     ·rw[show(-(j:Int) - min (-(j:Int)) (-(k:Int))).toNat=k - j by omega,show(-(k:Int) - min (-(j:Int)) (-(k:Int))).toNat=0 by omega,Nat.pow_zero,Nat.mul_one,show(2:Nat) ^ k=2 ^ j*2 ^ (k - j) by rw[←Nat.pow_add];congr 1;omega,←Nat.mul_assoc]at h';exact Nat.lt_of_mul_lt_mul_right h'
     ·rw[show(-(j:Int) - min (-(j:Int)) (-(k:Int))).toNat=0 by omega,show(-(k:Int) - min (-(j:Int)) (-(k:Int))).toNat=j - k by omega,Nat.pow_zero,Nat.mul_one,Nat.mul_assoc,←Nat.pow_add,show k+(j - k)=j by omega]at h';exact h'
  ·rw[h1]at h;simp[Ieee.Datum.order]at h
  ·rw[h1]at h;simp[Ieee.Datum.order]at h
end Go.Tv
namespace Go.Proofs.YtobbjfkfmdiklaaGreatDoor.T
open Go Go.Tv Go.Proofs
open Go.IntKind (i64)
noncomputable section
theorem qo(r:QJ):∃b:Int,ie r=some b∧0≤b∧b≤10000:=by
 have p:cj 4666723172467343360=some 4666723172467343360:=by decide
 have j:FloatKind.f64.format.read 4666723172467343360 = .number false (10000*2 ^ 39) (-((39:Nat):Int)):=by decide
 have q:FP (bN .mul (bN .mul (bN .mul (cj 4636737291354636288) (vg r)) (vg r)) (vg r)) :=
  FP.mul (FP.mul (FP.mul (fun n h=>by rw[hJ h];decide) (FP.abs r)) (FP.abs r)) (FP.abs r)
 unfold ie nA vb;simp only[Option.bind_some];generalize (bN .mul (bN .mul (bN .mul (cj 4636737291354636288) (vg r)) (vg r)) (vg r))=x at q;by_cases h1:(!(Lv r r))=true
 ·rw[if_pos h1];exact⟨0,rfl,by omega,by omega⟩
 ·rw[if_neg h1,p];by_cases h2:Lf x (some 4666723172467343360)=true
  ·obtain⟨n,e,hn⟩:=q.int j h2;rw[if_neg (by simp[h2]),e];simp only[Option.isSome,Option.getD];rw[if_pos ⟨by first | rfl | trivial,by simp[IntKind.min,IntKind.bits,IntKind.signed];try omega,by simp[IntKind.max,IntKind.bits,IntKind.signed];omega⟩];exact⟨n,rfl,by omega,by omega⟩
  ·rw[if_pos (by simp[h2])];exact⟨10000,rfl,by omega,by omega⟩
theorem HD{o:QK}{fr:Nat}(hf:fr<o.length)(cl:XZ)(e n g:Int)(last:Bool)(u D E x z:Int)(A:QJ):∃v b,cR cl o (fr:Int) e n g last u D E x z A=some (v,b):=by
 unfold cR;split
 ·exact⟨_,_,rfl⟩
 ·have q:0≤(fr:Int)∧(fr:Int)<(o.length:Int):=by omega
  have tail:∀j:Int,∃v b,(((if(e == (3:Int))=true then(if 0≤(fr:Int)∧(fr:Int)<(o.length:Int)then(if((o.getD (fr:Int).toNat (0:Int)) == (3:Int))=true then some ((i64.wrap ((i64.wrap ((i64.wrap ((i64.wrap ((10:Int)+j))*(i64.wrap ((10:Int)+j))))+x))+z)))
    else some ((i64.wrap ((i64.wrap ((i64.wrap ((10:Int)+j))*(i64.wrap ((10:Int)+j))))+x))))else none)
    else some ((i64.wrap ((i64.wrap ((10:Int)+j))*(i64.wrap ((10:Int)+j))))))).bind fun p=>some (p,true))=some (v,b):=fun j=>by
   by_cases B:(e == 3)=true
   ·rw[if_pos B,if_pos q];split <;> exact⟨_,_,rfl⟩
   ·rw[if_neg B];exact⟨_,_,rfl⟩
  cases last with
  | true=>exact tail 0
  | false =>
   obtain⟨b,hb,-⟩:=qo (bN .quo (ofInt (i64.wrap (u - n))) (ofInt g));simp only[Bool.not_false,if_true,lQ,gB,Option.bind_some];by_cases C:(!(!(xP (bN .quo (ofInt (i64.wrap (u - n))) (ofInt g)) A)))=true
   ·rw[if_pos C];exact⟨_,_,rfl⟩
   ·rw[if_neg C,hb];simp only[Option.bind_some];exact tail b
abbrev Dt:=Nat→Int×Int×Int
def aQ(cl:XZ)(o:QK)(fr:Nat):Dt:=fun j=>((cl.getD (fr+j) c0).2.2.1,(cl.getD (fr+j) c0).2.2.2,o.getD (fr+j+1) 0)
def iy(x:Int×Int×Int):Bool:=x.2.1 == 1 || (x.2.1 == 0 && x.1 == 0)
def dE(d:Dt)(p:Int)(a:Nat):Nat→Int
 | 0=>0
 | k+1=>if(d (a+k)).2.1=2 then dE d p a k+p - dE d p a k % p else dE d p a k+(d (a+k)).1
def gu(d:Dt)(a:Nat):Nat→Nat
 | 0=>0
 | n+1=>if a<n+1∧iy (d n)=true then gu d a n else n+1
def jJ(d:Dt)(j:Int)(a b:Nat)(e:Int):Int:=dE d j a (gu d a b - a)+(if e=3 then 1 else 0)
theorem n6(cl:XZ)(o:QK)(fr:Nat)(j:Int)(a:Nat):∀k,pR cl j (fr+a) k=dE (aQ cl o fr) j a k
 | 0=>rfl
 | k+1=>by
  have e:fr+a+k=fr+(a+k):=by omega
  simp only[pR,dE,uf,n6 cl o fr j a k,aQ,e];rfl
theorem A2(cl:XZ)(o:QK)(j a:Nat):∀b,a≤b→dV cl (j+a) (j+b)=j+gu (aQ cl o j) a b
 | 0,h=>by
  obtain rfl:a=0:=by omega
  cases j with
  | zero=>rfl
  | succ f=>simp[dV,gu]
 | b+1,h=>by
  have u:j+(b+1)=(j+b)+1:=by omega
  rw[u];simp only[dV,gu];by_cases hb:a<b+1
  ·have q:qz (cl.getD (j+b) c0)=iy (aQ cl o j b):=rfl;by_cases p:iy (aQ cl o j b)=true
   ·rw[if_pos ⟨by omega,by rw[q];exact p⟩,if_pos ⟨hb,p⟩];exact A2 cl o j a b (by omega)
   ·rw[if_neg (fun x=>p (by rw[←q];exact x.2)),if_neg (fun x=>p x.2)];omega
  ·rw[if_neg (fun x=>hb (by omega)),if_neg (fun x=>hb x.1)];omega
theorem ka(d:Dt)(a:Nat):∀b,a≤b→a≤gu d a b∧gu d a b≤b
 | 0,h=>by simp only[gu];omega
 | b+1,h=>by
  simp only[gu];split
  ·rename_i p;have:=ka d a b (by omega);omega
  ·omega
theorem mY(cl:XZ)(o:QK)(j:Nat)(p:Int){a b:Nat}(h:a≤b)(e:Int):wR cl p (j+a) (j+b) e=jJ (aQ cl o j) p a b e:=by
 unfold wR jJ;have:=ka (aQ cl o j) a b h;rw[A2 cl o j a b h,show j+gu (aQ cl o j) a b - (j+a)=gu (aQ cl o j) a b - a by omega,n6 cl o j]
theorem nB{d q:Dt}{n:Nat}(h:∀j,j<n→d j=q j)(p:Int)(a:Nat):∀k,a+k≤n→dE d p a k=dE q p a k
 | 0,_=>rfl
 | k+1,hk=>by
  simp only[dE,nB h p a k (by omega),h (a+k) (by omega)]
theorem uv{d p:Dt}{n:Nat}(h:∀j,j<n→d j=p j)(a:Nat):∀b,b≤n→gu d a b=gu p a b
 | 0,_=>rfl
 | b+1,hb=>by simp only[gu,uv h a b (by omega),h b (by omega)]
theorem ri{d q:Dt}{n:Nat}(h:∀j,j<n→d j=q j)(p:Int){a b:Nat}(u:a≤b)(hb:b≤n)(e:Int):jJ d p a b e=jJ q p a b e:=by
 unfold jJ;have:=ka q a b u;rw[uv h a b hb,nB h p a _ (by omega)]
def lU(d:Dt):Nat→Int
 | 0=>0
 | k+1=>(d k).2.2
def ox(d:Dt)(q p:Int)(a:Nat):Nat→Nat→Int→Nat→Int→Int×Nat
 | 0,_,j,cut,_=>(j,cut)
 | m+1,k,j,cut,full =>
  let fl:=if iy (d k)=true then full else dE d p a (k+1 - a)
  if fl > q then(j,cut)
  else ox d q p a m (k+1) (if(d k).2.2≠0∧((d k).2.2≠3∨fl<q)then((k+1:Nat):Int)else j) (k+1) fl
def lH(d:Dt)(n:Nat)(q j:Int)(a:Nat):Nat×Int :=
 let p:=ox d q j a (n - a) a (-1) (a+1) 0
 if 0≤p.1 then(p.1.toNat,lU d p.1.toNat)
 else(p.2,if p.2<n∧lU d p.2=1 then 1 else if p.2=n then lU d n else 4)
def I4(d:Dt)(j:Int)(a b:Nat)(e:Int):cO:=((a:Int),((b:Int),(jJ d j a b e,e)))
def gD(d:Dt)(n:Nat)(p j:Int):Nat→Nat→XZ
 | 0,_=>[]
 | m+1,a=>if a<n then I4 d j a (lH d n p j a).1 (lH d n p j a).2::gD d n p j m (lH d n p j a).1 else[]
def ku(l:XZ)(Mq:Int):XZ:=l.map fun x=>(x.1+Mq,(x.2.1+Mq,x.2.2))
theorem uW(d:Dt)(q p:Int)(a:Nat):∀m k j cut full,a≤k→(j = -1∨((a:Int)<j∧j≤((k+m:Nat):Int)))→a<cut→cut≤max (a+1) (k+m) →
  ((ox d q p a m k j cut full).1 = -1∨((a:Int)<(ox d q p a m k j cut full).1∧(ox d q p a m k j cut full).1≤((k+m:Nat):Int)))∧a<(ox d q p a m k j cut full).2∧(ox d q p a m k j cut full).2≤max (a+1) (k+m)
 | 0,k,j,cut,full,_,h1,h2,u=>⟨h1,h2,u⟩
 | m+1,k,j,cut,full,x,h1,h2,u=>by
  simp only[ox];generalize (if iy (d k)=true then full else dE d p a (k+1 - a))=fl;by_cases v:fl > q
  ·rw[if_pos v];exact⟨h1,h2,u⟩
  ·rw[if_neg v];have:=uW d q p a m (k+1) (if(d k).2.2≠0∧((d k).2.2≠3∨fl<q)then((k+1:Nat):Int)else j) (k+1) fl (by omega) (by split <;> omega) (by omega) (by omega);rw[show k+1+m=k+(m+1) by omega]at this;exact this
theorem vN(d:Dt){n:Nat}(p j:Int){a:Nat}(h:a<n):a<(lH d n p j a).1∧(lH d n p j a).1≤n:=by
 have:=uW d p j a (n - a) a (-1) (a+1) 0 (Nat.le_refl _) (.inl rfl) (by omega) (by omega);unfold lH;simp only;split <;> simp only <;> omega
theorem xb{d u:Dt}{n:Nat}(h:∀j,j<n→d j=u j)(v p:Int)(a:Nat):∀m k q cut full,a≤k→k+m≤n→ox d v p a m k q cut full=ox u v p a m k q cut full
 | 0,_,_,_,_,_,_=>rfl
 | m+1,k,q,cut,full,h1,h2=>by
  simp only[ox];rw[h k (by omega),nB h p a (k+1 - a) (by omega)];generalize (if iy (u k)=true then full else dE u p a (k+1 - a))=fl;split
  ·rfl
  ·exact xb h v p a m (k+1) _ _ _ (by omega) (by omega)
theorem kU{d p:Dt}{n:Nat}(h:∀j,j<n→d j=p j):∀ {k:Nat},k≤n→lU d k=lU p k
 | 0,_=>rfl
 | k+1,hk=>by simp only[lU,h k (by omega)]
theorem AJ{d v:Dt}{n:Nat}(h:∀j,j<n→d j=v j)(u q:Int){a:Nat}(ha:a<n):lH d n u q a=lH v n u q a:=by
 have hin:=uW v u q a (n - a) a (-1) (a+1) 0 (Nat.le_refl _) (.inl rfl) (by omega) (by omega);unfold lH;rw[xb h u q a (n - a) a (-1) (a+1) 0 (Nat.le_refl _) (by omega)];generalize ox v u q a (n - a) a (-1) (a+1) 0=p at hin;simp only;by_cases hp:0≤p.1
 ·rw[if_pos hp,if_pos hp,kU h (k:=p.1.toNat) (by omega)]
 ·rw[if_neg hp,if_neg hp,kU h (k:=p.2) (by omega),kU h (Nat.le_refl n)]
theorem qZ{d u:Dt}{n:Nat}(h:∀j,j<n→d j=u j)(q p:Int):∀m a,gD d n q p m a=gD u n q p m a
 | 0,_=>rfl
 | m+1,a=>by
  simp only[gD];by_cases ha:a<n
  ·have:=vN u q p ha;rw[if_pos ha,if_pos ha,AJ h q p ha,qZ h q p m];unfold I4;rw[ri h p (Nat.le_of_lt this.1) this.2]
  ·rw[if_neg ha,if_neg ha]
def uM(fr:Nat)(b:Int):Int:=if b<0 then -1 else b+(fr:Int)
theorem E4(cl:XZ)(o:QK)(fr j:Nat):o.getD (fr+j+1) 0=(aQ cl o fr j).2.2:=rfl
theorem Es{cl:XZ}(hc:CG cl){o:QK}(Z:o.length=cl.length+1){j n:Nat}(hn:j+n≤cl.length)(u:Int){p:Int}(E:1≤p)(I:p≤64)(a:Nat):∀m k q cut full,k+m=n→a≤k →
  iter (gM cl o ((j+n:Nat):Int) u p) (uM j q,((j+cut:Nat):Int),dE (aQ cl o j) p a (k - a),full,((j+k+1:Nat):Int)) =
   some (uM j (ox (aQ cl o j) u p a m k q cut full).1,((j+(ox (aQ cl o j) u p a m k q cut full).2:Nat):Int))
 | 0,k,q,cut,full,hk,ha=>by
  have C:¬(((j+k+1:Nat):Int)≤((j+n:Nat):Int)):=by omega
  exact dH (by simp only[gM,C,decide_false,Bool.false_eq_true,if_false,ox])
 | m+1,k,q,cut,full,hk,ha=>by
  have hl:=hc.1;have z:=n6 cl o j p a;obtain⟨b0,b1⟩:=nQ hc E I (j+a) (k - a) (by omega);obtain⟨J,-,-⟩:=qP (c:=cl.getD (j+k) c0) b0 (by omega) E I (hc.2 _).1 (hc.2 _).2;have L:uf (cl.getD (j+k) c0) (pR cl p (j+a) (k - a)) p=dE (aQ cl o j) p a (k+1 - a):=by rw[←z,show k+1 - a=(k - a)+1 by omega];simp only[pR];rw[show j+a+(k - a)=j+k by omega]
  rw[L,z]at J;obtain⟨O,-,-⟩:=rU (cl:=cl) o (show j+k≤j+k+1 by omega) (by omega) (by omega);have e3:=Eh cl (o:=o) (i:=j+k+1) (by omega);have C:((j+k+1:Nat):Int)≤((j+n:Nat):Int):=by omega
  have V:i64.wrap (((j+k+1:Nat):Int) - 1)=((j+k:Nat):Int):=lL (by omega);have X:0≤((j+k:Nat):Int):=by omega
  have Y:((j+k:Nat):Int)<(cl.length:Int):=by omega
  have q5:i64.wrap (((j+k+1:Nat):Int)+1)=((j+(k+1)+1:Nat):Int):=bM (by omega);have ht:(((dV cl (j+k) (j+k+1):Nat):Int) == ((j+k+1:Nat):Int)) = !(iy (aQ cl o j k)):=by
   have hh:qz (cl.getD (j+k) c0)=iy (aQ cl o j k):=rfl;have:=(rU (cl:=cl) o (show j+k≤j+k by omega) (by omega) (by omega)).2.2;simp only[dV];rw[hh];cases he:iy (aQ cl o j k)with
   | true =>
    rw[if_pos ⟨by omega,rfl⟩,Bool.not_true,beq_eq_false_iff_ne];omega
   | false =>rw[if_neg (fun x=>by cases x.2)];simp
  have v:(if(((dV cl (j+k) (j+k+1):Nat):Int) == ((j+k+1:Nat):Int))=true then some (dE (aQ cl o j) p a (k+1 - a))else some full)=some (if iy (aQ cl o j k)=true then full else dE (aQ cl o j) p a (k+1 - a)):=by rw[ht];cases iy (aQ cl o j k) <;> rfl
  have M:ox (aQ cl o j) u p a (m+1) k q cut full=(if(if iy (aQ cl o j k)=true then full else dE (aQ cl o j) p a (k+1 - a)) > u then(q,cut)
    else ox (aQ cl o j) u p a m (k+1) (if(aQ cl o j k).2.2≠0∧((aQ cl o j k).2.2≠3∨(if iy (aQ cl o j k)=true then full else dE (aQ cl o j) p a (k+1 - a))<u)then((k+1:Nat):Int)else q) (k+1) (if iy (aQ cl o j k)=true then full else dE (aQ cl o j) p a (k+1 - a))):=rfl
  rw[M];generalize (if iy (aQ cl o j k)=true then full else dE (aQ cl o j) p a (k+1 - a))=fl at v;by_cases D:fl > u
  ·rw[if_pos D];refine dH ?_;simp only[gM,C,V,X,Y,J,O,and_self,decide_true,if_true,Option.bind,Int.toNat_natCast];rw[v];simp only[D,decide_true,if_true]
  ·rw[if_neg D,←Es hc Z hn u E I a m (k+1) _ (k+1) fl (by omega) (by omega)];refine fX ?_;have hb:((if(o.getD (j+k+1) 0 != 0)=true then(if(o.getD (j+k+1) 0 != 3)=true then some true else some (decide (fl<u)))else some false).bind fun N=>(if N=true then some ((j+k+1:Nat):Int)else some (uM j q))) =
     some (uM j (if(aQ cl o j k).2.2≠0∧((aQ cl o j k).2.2≠3∨fl<u)then((k+1:Nat):Int)else q)):=by
    rw[E4 cl o j k];have A:uM j ((k+1:Nat):Int)=((j+k+1:Nat):Int):=by unfold uM;rw[if_neg (by omega)];omega
    by_cases B:(aQ cl o j k).2.2=0
    ·rw[if_neg (c:=(aQ cl o j k).2.2≠0∧_) (fun x=>x.1 B),if_neg (by simp[B])];rfl
    ·rw[if_pos (c:=((aQ cl o j k).2.2 != 0)=true) (by simpa using B)];by_cases g2:(aQ cl o j k).2.2=3
     ·rw[if_neg (c:=((aQ cl o j k).2.2 != 3)=true) (by simp[g2])];by_cases g3:fl<u
      ·rw[if_pos (c:=(aQ cl o j k).2.2≠0∧_) ⟨B,.inr g3⟩,decide_eq_true g3,A];rfl
      ·rw[if_neg (c:=(aQ cl o j k).2.2≠0∧_) (fun x=>x.2.elim (fun y=>y g2) g3),decide_eq_false g3];rfl
     ·rw[if_pos (c:=((aQ cl o j k).2.2 != 3)=true) (by simpa using g2),if_pos (c:=(aQ cl o j k).2.2≠0∧_) ⟨B,.inl g2⟩,A];rfl
   simp only[gM,C,V,X,Y,J,O,and_self,decide_true,if_true,Option.bind_some,Int.toNat_natCast];rw[v];simp only[D,decide_false,Bool.false_eq_true,if_false,e3,Option.bind_some,q5];rw[←Option.bind_assoc,hb];rfl
theorem lE(cl:XZ)(o:QK)(fr:Nat){k:Nat}(h:0<k):o.getD (fr+k) 0=lU (aQ cl o fr) k:=by
 cases k with
 | zero=>omega
 | succ k=>rfl
theorem BW{cl:XZ}(hc:CG cl){o:QK}(E:o.length=cl.length+1){j n:Nat}(hn:j+n≤cl.length)(x:Int){q:Int}(z:1≤q)(A:q≤64)(I J L:Int)(M:QJ){a:Nat}(ha:a<n):
  mK cl o ((j+a:Nat):Int) ((j+n:Nat):Int) x q I J L M =
   some (((j+a:Nat):Int),(((j+(lH (aQ cl o j) n x q a).1:Nat):Int),(jJ (aQ cl o j) q a (lH (aQ cl o j) n x q a).1 (lH (aQ cl o j) n x q a).2,(lH (aQ cl o j) n x q a).2))):=by
 have hl:=hc.1;have N:i64.wrap (((j+a:Nat):Int)+1)=((j+a+1:Nat):Int):=bM (by omega);have B:=Es hc E hn x z A a (n - a) a (-1) (a+1) 0 (by omega) (Nat.le_refl _);have hin:=uW (aQ cl o j) x q a (n - a) a (-1) (a+1) 0 (Nat.le_refl _) (.inl rfl) (by omega) (by omega);rw[Nat.sub_self]at B;simp only[dE]at B;unfold mK;have v:uM j (-1) = -1:=rfl;rw[v,show j+(a+1)=j+a+1 by omega]at B;rw[N,B,Option.bind_some];unfold lH;generalize ox (aQ cl o j) x q a (n - a) a (-1) (a+1) 0=p at hin;obtain⟨u,cut⟩:=p;simp only at hin ⊢;obtain⟨hb,O,V⟩:=hin;by_cases hp:0≤u
 ·obtain⟨b,rfl⟩:∃b:Nat,u=(b:Int):=⟨u.toNat,by omega⟩;have v:uM j (b:Int)=((j+b:Nat):Int):=by unfold uM;rw[if_neg (by omega)];omega
  rw[if_pos (c:=(0:Int)≤_) hp,v,Int.toNat_natCast];rw[if_pos (by rw[decide_eq_true_eq];omega),if_pos (by omega),Int.toNat_natCast,rJ hc o z A (by omega) (by omega),mY cl o j q (by omega),lE cl o j (by omega)];rfl
 ·have C:u = -1:=by omega
  subst C;rw[if_neg (c:=(0:Int)≤_) hp,v,if_neg (by decide)];have X:cut≤n:=by omega
  by_cases h1:cut=n
  ·subst h1;rw[if_pos (by simp),if_pos (by omega),Int.toNat_natCast];simp only[Option.bind_some,Int.lt_irrefl,decide_false,Bool.false_eq_true,if_false,Nat.lt_irrefl,false_and,if_true];rw[rJ hc o z A (by omega) (by omega),mY cl o j q (by omega),lE cl o j (by omega)];rfl
  ·have h2:((((j+cut:Nat):Int)) == ((j+n:Nat):Int))=false:=by rw[beq_eq_false_iff_ne];omega
   have Y:((j+cut:Nat):Int)<((j+n:Nat):Int):=by omega
   have Z:cut<n:=by omega
   simp only[h2,Bool.false_eq_true,if_false,Option.bind_some,Y,decide_true,if_true,Z,true_and,h1];rw[if_pos (c:=0≤((j+cut:Nat):Int)∧_) (by omega),Int.toNat_natCast,lE cl o j (by omega)];by_cases D:lU (aQ cl o j) cut=1
   ·simp only[D,Option.bind_some,if_true,BEq.rfl];rw[rJ hc o z A (by omega) (by omega),mY cl o j q (by omega)];rfl
   ·have h6:(lU (aQ cl o j) cut == 1)=false:=by rw[beq_eq_false_iff_ne];exact D
    simp only[D,h6,Option.bind_some,if_false,Bool.false_eq_true];rw[rJ hc o z A (by omega) (by omega),mY cl o j q (by omega)];rfl
theorem Ep(d:Dt)(p:Int)(a b j:Nat)(e:Int):ku [I4 d p a b e] (j:Int)=[(((j+a:Nat):Int),(((j+b:Nat):Int),(jJ d p a b e,e)))]:=by
 simp only[ku,I4,List.map_cons,List.map_nil];rw[show(a:Int)+(j:Int)=((j+a:Nat):Int) by omega,show(b:Int)+(j:Int)=((j+b:Nat):Int) by omega]
theorem xv{cl:XZ}(hc:CG cl){o:QK}(C:o.length=cl.length+1){j n:Nat}(hn:j+n≤cl.length)(q:Int){p:Int}(D:1≤p)(E:p≤64)(v z A:Int)(B:QJ):
  j8 cl o (j:Int) ((j+n:Nat):Int) q p v z A B=some (ku (gD (aQ cl o j) n q p n 0) (j:Int)):=by
 have hl:=hc.1;have key:∀m a out,a≤n→n≤a+m→out.length≤a→iter (fD cl o ((j+n:Nat):Int) q p v z A B) (((j+a:Nat):Int),out)=some (out++ku (gD (aQ cl o j) n q p m a) (j:Int)):=fun m=>by
  induction m with
  | zero =>
   intro a out h1 h2 I;obtain rfl:a=n:=by omega
   have u:¬(((j+a:Nat):Int)<((j+a:Nat):Int)):=by omega
   exact dH (by simp only[fD,u,decide_false,Bool.false_eq_true,if_false,gD,ku,List.map_nil,List.append_nil])
  | succ m J =>
   intro a out h1 h2 I;by_cases ha:a<n
   ·have hin:=vN (aQ cl o j) q p ha;have u:((j+a:Nat):Int)<((j+n:Nat):Int):=by omega
    simp only[gD];rw[if_pos ha,show ∀(x:cO) l,ku (x::l) (j:Int)=ku [x] (j:Int)++ku l (j:Int)from fun _ _=>rfl,Ep,←List.append_assoc];rw[←J _ _ hin.2 (by omega) (by simp;omega)];refine fX ?_;simp only[fD,u,decide_true,if_true,BW hc C hn q D E v z A B ha,Option.bind_some,List.length_singleton];rw[if_pos (by omega)]
   ·obtain rfl:a=n:=by omega
    have u:¬(((j+a:Nat):Int)<((j+a:Nat):Int)):=by omega
    simp only[gD];rw[if_neg ha];exact dH (by simp only[fD,u,decide_false,Bool.false_eq_true,if_false,ku,List.map_nil,List.append_nil])
 have:=key n 0 [] (by omega) (by omega) (by simp);rw[Nat.add_zero,List.nil_append]at this;unfold j8;rw[this];rfl
abbrev Wy:=Int×Int×Int×Int×Int×QJ
def dq(c:Wy)(op e n g:Int)(last:Bool):Int×Bool:=(cR [] [op] 0 e n g last c.1 c.2.1 c.2.2.1 c.2.2.2.1 c.2.2.2.2.1 c.2.2.2.2.2).getD (0,false)
def dI(d:Dt)(n:Nat)(c:Wy)(all:Nat→Int×Int)(a:Nat):Nat→Nat→Int→Int→Int→Int→Int→Int×Int
 | 0,_,q,u,_,_,_=>(q,u)
 | m+1,k,q,u,full,sp,v =>
  let s:=if(d k).2.1=1 then i64.wrap (sp+1)else sp
  let f:=if iy (d k)=true then(full,v)else(dE d c.2.1 a (k+1 - a),s)
  if f.1 > c.1 then(q,u)
  else if(d k).2.2=0∨(k+1<n∧(all (k+1)).2<0)then dI d n c all a m (k+1) q u f.1 s f.2
  else
   let p:=dq c (lU d a) (d k).2.2 (if(d k).2.2=3 then i64.wrap (f.1+1)else f.1) f.2 (k+1 == n)
   if p.2=true∧(u<0∨i64.wrap (p.1+(all (k+1)).1)<q)then dI d n c all a m (k+1) (i64.wrap (p.1+(all (k+1)).1)) ((k+1:Nat):Int) f.1 s f.2
   else dI d n c all a m (k+1) q u f.1 s f.2
def sC(d:Dt)(n:Nat)(c:Wy)(a:Nat)(l:Qq):Int×Int :=
 if a=0∨lU d a≠0 then dI d n c (fun k=>l.getD (k - a - 1) (0,0)) a (n - a) a 0 (-1) 0 0 0 else(0,-1)
def cK(d:Dt)(n:Nat)(c:Wy):Nat→Qq
 | 0=>[(0,0)]
 | j+1=>sC d n c (n - (j+1)) (cK d n c j)::cK d n c j
def hH(d:Dt)(n:Nat)(j:Int)(T:Qq):Nat→Nat→XZ
 | 0,_=>[]
 | m+1,a=>if a<n then I4 d j a (T.getD a (0,0)).2.toNat (lU d (T.getD a (0,0)).2.toNat)::hH d n j T m (T.getD a (0,0)).2.toNat else[]
def iE(d:Dt)(n:Nat)(c:Wy):Option XZ :=
 if n=0 then some []else if((cK d n c n).getD 0 (0,0)).2<0 then none else some (hH d n c.2.1 (cK d n c n) n 0)
def eH(d:Dt)(n:Nat)(c:Wy):XZ×Bool :=
 if c.2.2.1=1 then(match iE d n c with
  | some l=>(l,false)
  | none=>(gD d n c.1 c.2.1 n 0,true))else(gD d n c.1 c.2.1 n 0,false)
theorem oG(d:Dt)(n:Nat)(c:Wy)(all:Nat→Int×Int)(a:Nat):∀m k j q full sp u,a≤k→k+m=n→(q = -1∨((a:Int)<q∧q≤(n:Int)∧(q<(n:Int)→0≤(all q.toNat).2))) →
  (dI d n c all a m k j q full sp u).2 = -1∨((a:Int)<(dI d n c all a m k j q full sp u).2∧(dI d n c all a m k j q full sp u).2≤(n:Int)∧((dI d n c all a m k j q full sp u).2<(n:Int)→0≤(all (dI d n c all a m k j q full sp u).2.toNat).2))
 | 0,k,j,q,full,sp,u,_,_,h=>h
 | m+1,k,j,q,full,sp,u,z,h1,h=>by
  simp only[dI];generalize (if iy (d k)=true then(full,u)else(dE d c.2.1 a (k+1 - a),(if(d k).2.1=1 then i64.wrap (sp+1)else sp)))=f;generalize dq c (lU d a) (d k).2.2 (if(d k).2.2=3 then i64.wrap (f.1+1)else f.1) f.2 (k+1 == n)=p;split
  ·exact h
  ·split
   ·exact oG d n c all a m (k+1) _ _ _ _ _ (by omega) (by omega) h
   ·rename_i hn;split
    ·refine oG d n c all a m (k+1) _ _ _ _ _ (by omega) (by omega) (.inr ⟨by omega,by omega,fun v=>?_⟩);rw[Int.toNat_natCast];have:¬(all (k+1)).2<0:=fun x=>hn (.inr ⟨by omega,x⟩)
     omega
    ·exact oG d n c all a m (k+1) _ _ _ _ _ (by omega) (by omega) h
theorem mf{d v:Dt}{n:Nat}(h:∀j,j<n→d j=v j)(c:Wy)(all q:Nat→Int×Int)(a:Nat)(ha:a≤n)(x:∀k,a<k→k≤n→all k=q k):∀m k u A full sp z,a≤k→k+m=n →
  dI d n c all a m k u A full sp z=dI v n c q a m k u A full sp z
 | 0,_,_,_,_,_,_,_,_=>rfl
 | m+1,k,u,A,full,sp,z,B,h1=>by
  simp only[dI];rw[h k (by omega),nB h c.2.1 a (k+1 - a) (by omega),x (k+1) (by omega) (by omega),kU h ha];generalize (if iy (v k)=true then(full,z)else(dE v c.2.1 a (k+1 - a),(if(v k).2.1=1 then i64.wrap (sp+1)else sp)))=f;generalize dq c (lU v a) (v k).2.2 (if(v k).2.2=3 then i64.wrap (f.1+1)else f.1) f.2 (k+1 == n)=p;split
  ·rfl
  ·split
   ·exact mf h c all q a ha x m (k+1) _ _ _ _ _ (by omega) (by omega)
   ·split <;> exact mf h c all q a ha x m (k+1) _ _ _ _ _ (by omega) (by omega)
theorem vT{d p:Dt}{n:Nat}(h:∀j,j<n→d j=p j)(c:Wy):∀j,j≤n→cK d n c j=cK p n c j
 | 0,_=>rfl
 | j+1,q=>by
  simp only[cK,vT h c j (by omega)];unfold sC;rw[kU h (show n - (j+1)≤n by omega),mf h c _ _ (n - (j+1)) (by omega) (fun _ _ _=>rfl) _ _ _ _ _ _ _ (Nat.le_refl _) (by omega)]
theorem El(d:Dt)(n:Nat)(c:Wy):∀j i,j≤n→i<j→((cK d n c j).getD i (0,0)).2 = -1∨(((n - j+i:Nat):Int)<((cK d n c j).getD i (0,0)).2∧((cK d n c j).getD i (0,0)).2≤(n:Int) ∧
   (((cK d n c j).getD i (0,0)).2<(n:Int)→0≤((cK d n c j).getD (((cK d n c j).getD i (0,0)).2.toNat - (n - j)) (0,0)).2))
 | 0,i,_,hi=>by omega
 | j+1,0,B,_=>by
  simp only[cK,List.getD_cons_zero,Nat.add_zero];unfold sC;split
  ·have:=oG d n c (fun k=>(cK d n c j).getD (k - (n - (j+1)) - 1) (0,0)) (n - (j+1)) (n - (n - (j+1))) (n - (j+1)) 0 (-1) 0 0 0 (Nat.le_refl _) (by omega) (.inl rfl);generalize dI d n c (fun k=>(cK d n c j).getD (k - (n - (j+1)) - 1) (0,0)) (n - (j+1)) (n - (n - (j+1))) (n - (j+1)) 0 (-1) 0 0 0=r at this;rcases this with e | ⟨z,q,u⟩
   ·exact .inl e
   ·refine .inr ⟨z,q,fun p=>?_⟩;have:=u p;obtain⟨x,v⟩:∃x,r.2.toNat - (n - (j+1))=x+1:=⟨r.2.toNat - (n - (j+1)) - 1,by omega⟩;rw[v,List.getD_cons_succ];rw[show r.2.toNat - (n - (j+1)) - 1=x by omega]at this;exact this
  ·exact .inl rfl
 | j+1,i+1,B,hi=>by
  have A:=El d n c j i (by omega) (by omega);simp only[cK,List.getD_cons_succ];generalize (cK d n c j).getD i (0,0)=r at A;rcases A with e | ⟨z,q,u⟩
  ·exact .inl e
  ·refine .inr ⟨by omega,q,fun p=>?_⟩;have:=u p;obtain⟨x,v⟩:∃x,r.2.toNat - (n - (j+1))=x+1:=⟨r.2.toNat - (n - (j+1)) - 1,by omega⟩;rw[v,List.getD_cons_succ,show x=r.2.toNat - (n - j) by omega];exact this
theorem tW{d u:Dt}{n:Nat}(h:∀j,j<n→d j=u j)(q:Int)(T:Qq)(hT:∀a,a<n→0≤(T.getD a (0,0)).2→(a:Int)<(T.getD a (0,0)).2∧(T.getD a (0,0)).2≤(n:Int)∧((T.getD a (0,0)).2<(n:Int)→0≤(T.getD (T.getD a (0,0)).2.toNat (0,0)).2)):∀m a,(a<n→0≤(T.getD a (0,0)).2)→hH d n q T m a=hH u n q T m a
 | 0,_,_=>rfl
 | m+1,a,ha=>by
  simp only[hH];by_cases p:a<n
  ·obtain⟨h1,h2,v⟩:=hT a p (ha p);rw[if_pos p,if_pos p,tW h q T hT m _ (fun x=>v (by omega)),kU h (k:=(T.getD a (0,0)).2.toNat) (by omega)];unfold I4;rw[ri h q (by omega) (by omega)]
  ·rw[if_neg p,if_neg p]
theorem wG(d:Dt)(n:Nat)(c:Wy):∀a,a<n→0≤((cK d n c n).getD a (0,0)).2→(a:Int)<((cK d n c n).getD a (0,0)).2∧((cK d n c n).getD a (0,0)).2≤(n:Int)∧(((cK d n c n).getD a (0,0)).2<(n:Int)→0≤((cK d n c n).getD ((cK d n c n).getD a (0,0)).2.toNat (0,0)).2):=fun a ha h=>by
 rcases El d n c n a (Nat.le_refl _) ha with e | ⟨q,p,j⟩
 ·omega
 ·rw[Nat.sub_self,Nat.sub_zero]at j;exact⟨by omega,p,j⟩
theorem Ay{d p:Dt}{n:Nat}(h:∀j,j<n→d j=p j)(c:Wy):eH d n c=eH p n c:=by
 have hb:iE d n c=iE p n c:=by
  unfold iE;rw[vT h c n (Nat.le_refl _)];by_cases q:n=0
  ·rw[if_pos q,if_pos q]
  ·rw[if_neg q,if_neg q];by_cases h1:((cK p n c n).getD 0 (0,0)).2<0
   ·rw[if_pos h1,if_pos h1]
   ·rw[if_neg h1,if_neg h1,tW h c.2.1 _ (wG p n c) n 0 (fun _=>by omega)]
 unfold eH;rw[hb,qZ h]
end
end Go.Proofs.YtobbjfkfmdiklaaGreatDoor.T
