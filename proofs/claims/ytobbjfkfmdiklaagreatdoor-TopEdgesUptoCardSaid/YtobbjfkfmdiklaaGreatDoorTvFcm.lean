import Derived.Test.YtobbjfkfmdiklaaGreatDoorTvFbm
import Derived.Test.YtobbjfkfmdiklaaGreatDoorTv50hbm
import Derived.Test.YtobbjfkfmdiklaaGreatDoorTv50bm
import Derived.Test.YtobbjfkfmdiklaaGreatDoorTv50gim
import Derived.Test.YtobbjfkfmdiklaaGreatDoorTvT50eTopEdges
import Derived.Test.YtobbjfkfmdiklaaGreatDoorTvUm
namespace Go.Tv
open Go
open Go.IntKind (i64)
theorem zU:FloatKind.f64.format.signWeight=9223372036854775808:=by decide
theorem Ap:FloatKind.f64.format.binade=4503599627370496:=by decide
theorem zA:FloatKind.f64.format.infRung=9218868437227405312:=by decide
theorem Dz:FloatKind.f64.format.leastPlace = -1074:=by decide
theorem yY{r:Nat}(j:0<r)(h:r≤9218868437227405312):(∃m i,0<m∧FloatKind.f64.format.read r = .number false m i)∨FloatKind.f64.format.read r = .infinity false:=by
 have e:(r / FloatKind.f64.format.signWeight % 2 == 1)=false:=by rw[zU,Nat.div_eq_of_lt (by omega)];rfl
 have p:r % FloatKind.f64.format.signWeight=r:=Nat.mod_eq_of_lt (by rw[zU];omega);unfold Ieee.Format.read;simp only[e,p];rw[Ap,zA];by_cases h1:r<4503599627370496
 ·rw[if_pos h1];exact .inl ⟨_,_,j,rfl⟩
 ·rw[if_neg h1];by_cases h2:r<9218868437227405312
  ·rw[if_pos h2];exact .inl ⟨_,_,by omega,rfl⟩
  ·rw[if_neg h2,if_pos (by omega)];exact .inr rfl
theorem tC:FloatKind.f64.format.read 0 = .number false 0 (-1074):=by decide
theorem IN{r:Nat}(j:0<r)(h:r≤9218868437227405312):xP (some r) (some 0)=true:=by
 unfold xP qH Ieee.Format.order;simp only;rw[tC];rcases yY j h with⟨m,i,hm,e⟩ | e
 ·rw[e];simp only[Ieee.Datum.order,Ieee.signed,Bool.false_eq_true,if_false,Nat.shiftLeft_eq,Nat.zero_mul];have:0<m*2 ^ (i - min i (-1074)).toNat:=Nat.mul_pos hm (Nat.two_pow_pos _);rw[beq_iff_eq];congr 1;rw[Int.compare_eq_gt];exact Int.ofNat_lt.2 this
 ·rw[e];rfl
theorem B0{r:Nat}(j:0<r)(h:r≤9218868437227405312):cj r=some r:=by
 unfold cj FloatKind.decode;rcases yY j h with⟨m,i,-,e⟩ | e <;> rw[e] <;> rfl
theorem G7{m:Nat}(hm:0<m){p:Int}(hp : -1022<p+(m.log2:Int)):0<FloatKind.f64.format.nearest false m p∧FloatKind.f64.format.nearest false m p≤9218868437227405312:=by
 unfold Ieee.Format.nearest Ieee.Format.word;have hf:((FloatKind.f64.format.fractionBits:Nat):Int)=52:=by decide
 rw[if_neg (by omega)];simp only[Bool.false_eq_true,if_false];rw[Dz,Ap,zA,hf];have h1:1≤(max (p+(m.log2:Int) - 52) (-1074) - -1074).toNat:=by omega
 generalize (max (p+(m.log2:Int) - 52) (-1074) - -1074).toNat=t at h1;generalize Ieee.Toward.cut .even false _ _=k;have:4503599627370496≤t*4503599627370496:=Nat.le_mul_of_pos_left _ h1;omega
theorem Jq{n:Nat}(h:0<n):2 ^ n.log2≤n∧n<2 ^ (n.log2+1):=⟨Nat.log2_self_le (by omega),Nat.lt_log2_self⟩
theorem vw{n:Nat}(h:0<n)(hn:n<2 ^ 53):∃w m,ofInt (n:Int)=some w∧FloatKind.f64.format.read w = .number false m ((n.log2:Int) - 52)∧2 ^ 52≤m∧m<2 ^ 53:=by
 obtain⟨x,z⟩:=Jq h;have A:n.log2≤52:=by have:=(Nat.log2_lt (n:=n) (k:=53) (by omega)).2 hn;omega
 have hf:((FloatKind.f64.format.fractionBits:Nat):Int)=52:=by decide
 have j:2 ^ 52≤n*2 ^ (52 - n.log2):=by have:=Nat.mul_le_mul_right (2 ^ (52 - n.log2)) x;rw[←Nat.pow_add,show n.log2+(52 - n.log2)=52 by omega]at this;exact this
 have q:n*2 ^ (52 - n.log2)<2 ^ 53:=by have:=Nat.mul_lt_mul_of_pos_right z (Nat.two_pow_pos (52 - n.log2));rw[←Nat.pow_add,show n.log2+1+(52 - n.log2)=53 by omega]at this;exact this
 have v:FloatKind.f64.nearest (n:Int)=(n.log2+1022)*4503599627370496+n*2 ^ (52 - n.log2):=by
  unfold FloatKind.nearest FloatKind.encode;rw[show decide ((n:Int)<0)=false from decide_eq_false (by omega),show((n:Int)).natAbs=n from Int.natAbs_natCast n];show FloatKind.f64.format.nearest false n 0=_;unfold Ieee.Format.nearest Ieee.Format.word;rw[if_neg (by omega)];simp only[Bool.false_eq_true,if_false];rw[Dz,Ap,zA,hf];have B:max (0+(n.log2:Int) - 52) (-1074)=(n.log2:Int) - 52:=by omega
  rw[B,show((n.log2:Int) - 52 - -1074).toNat=n.log2+1022 by omega,show(0 - ((n.log2:Int) - 52)).toNat=52 - n.log2 by omega,show((n.log2:Int) - 52 - 0).toNat=0 by omega,Nat.shiftLeft_eq];generalize n*2 ^ (52 - n.log2)=k at j q;have u:Ieee.Toward.cut .even false k 0=k:=by unfold Ieee.Toward.cut;simp[Nat.mod_one]
  rw[u,Nat.min_eq_left (by omega)]
 generalize hk:n*2 ^ (52 - n.log2)=k at j q v;have C:FloatKind.f64.format.read ((n.log2+1022)*4503599627370496+k) = .number false k ((n.log2:Int) - 52):=by
  generalize n.log2=L at A;unfold Ieee.Format.read;have e:(((L+1022)*4503599627370496+k) / FloatKind.f64.format.signWeight % 2 == 1)=false:=by rw[zU,Nat.div_eq_of_lt (by omega)];rfl
  have u:((L+1022)*4503599627370496+k) % FloatKind.f64.format.signWeight=(L+1022)*4503599627370496+k:=Nat.mod_eq_of_lt (by rw[zU];omega);simp only[e,u];rw[Ap,zA,Dz,if_neg (by omega),if_pos (by omega)];have D:((L+1022)*4503599627370496+k) % 4503599627370496=k - 4503599627370496:=by omega
  have E:((L+1022)*4503599627370496+k) / 4503599627370496=L+1023:=by omega
  rw[D,E,show 4503599627370496+(k - 4503599627370496)=k by omega,show(-1074:Int)+((L+1023 - 1:Nat):Int)=(L:Int) - 52 by omega]
 refine⟨_,k,?_,C,j,q⟩;unfold ofInt;rw[v];exact B0 (by omega) (by omega)
theorem CV:ofInt 0=some 0:=by decide
theorem JB{a g:Nat}(L:0<a)(h1:a<2 ^ 53)(h2:g<2 ^ 53):xP (bN .quo (ofInt (a:Int)) (ofInt (g:Int))) (some 0)=true:=by
 obtain⟨x,m,ex,D,j,u⟩:=vw L h1;rw[ex];rcases Nat.eq_zero_or_pos g with e | e
 ·subst e;have M:ofInt ((0:Nat):Int)=some 0:=CV;rw[M];have hd:Jg .quo x 0=some (FloatKind.f64.format.write (.infinity false)):=by show FloatKind.f64.format.div x 0=_;unfold Ieee.Format.div;rw[D,tC];simp only[Ieee.Datum.quotient,if_true];rw[if_neg (by omega)];rfl
  show xP ((Jg .quo x 0).bind cj) (some 0)=true;rw[hd];decide
 ·obtain⟨y,k,N,O,v,z⟩:=vw e h2;rw[N];have A:m.log2=52:=by have V:=(Nat.log2_lt (n:=m) (k:=53) (by omega)).2 u;have X:=(Nat.le_log2 (n:=m) (k:=52) (by omega)).2 j;omega
  have B:k.log2=52:=by have V:=(Nat.log2_lt (n:=k) (k:=53) (by omega)).2 z;have X:=(Nat.le_log2 (n:=k) (k:=52) (by omega)).2 v;omega
  have Y:a.log2≤52:=by have:=(Nat.log2_lt (n:=a) (k:=53) (by omega)).2 h1;omega
  have Z:g.log2≤52:=by have:=(Nat.log2_lt (n:=g) (k:=53) (by omega)).2 h2;omega
  have C:FloatKind.f64.format.fractionBits=52:=rfl;have E:0<(m <<< 54) / k:=by rw[Nat.shiftLeft_eq];exact Nat.div_pos (by omega) (by omega)
  have hd:∃q:Nat,0<q∧Jg .quo x y=some (FloatKind.f64.format.nearest false q ((a.log2:Int) - 52 - ((g.log2:Int) - 52) - 54 - 1)):=by refine⟨2*((m <<< 54) / k)+((m <<< 54) % k != 0).toNat,by omega,?_⟩;show FloatKind.f64.format.div x y=_;unfold Ieee.Format.div;rw[D,O];simp only[Ieee.Datum.quotient];rw[if_neg (by omega),A,B,C];rfl
  obtain⟨q,E,hd⟩:=hd;obtain⟨I,J⟩:=G7 E (p:=(a.log2:Int) - 52 - ((g.log2:Int) - 52) - 54 - 1) (by omega);show xP ((Jg .quo x y).bind cj) (some 0)=true;rw[hd,Option.bind_some,B0 I J];exact IN I J
end Go.Tv
namespace Go.Proofs.YtobbjfkfmdiklaaGreatDoor.T
open Go Go.Tv Go.Proofs
open Go.IntKind (i64)
noncomputable section
section
variable{d:Dt}{n:Nat}{c c':Wy}(h1:c'.1=c.1)(h2:c'.2.1=c.2.1)(hp:∀op e k g last,dq c' op e k g last=dq c op e k g last)
include h1 h2 hp
theorem tU(all:Nat→Int×Int)(a:Nat):∀m k j p full sp q,dI d n c' all a m k j p full sp q=dI d n c all a m k j p full sp q
 | 0,_,_,_,_,_,_=>rfl
 | m+1,k,j,p,full,sp,q=>by
  simp only[dI];rw[h1,h2];simp only[hp,tU all a m]
theorem u5:∀j,cK d n c' j=cK d n c j
 | 0=>rfl
 | j+1=>by
  simp only[cK,u5 j];unfold sC;rw[tU h1 h2 hp]
theorem AS:iE d n c'=iE d n c:=by
 unfold iE;rw[u5 h1 h2 hp,h2]
theorem BM(j:c'.2.2.1=c.2.2.1):eH d n c'=eH d n c:=by
 unfold eH;rw[AS h1 h2 hp,h1,h2,j]
omit h1 hp in
theorem Gh{a b:Nat}(hp:∀op e k g last,(dq c op e k g last).2=true→(dq c' op e k g last).2=true)(h:(uR d n c a b).2=true):(uR d n c' a b).2=true:=by
 unfold uR at h ⊢;by_cases e:lU d b=0
 ·rw[if_pos e]at h;cases h
 ·rw[if_neg e]at h ⊢;rw[h2];exact hp _ _ _ _ _ h
end
theorem sd{cl:XZ}{o:QK}{c c':Wy}(h:∀d n,eH d n c'=eH d n c):∀(l:QK) (j:Nat),eJ cl o c' j l=eJ cl o c j l
 | [],_=>rfl
 | t::r,j=>by
  simp only[eJ,h,sd h r]
theorem zP{cl:XZ}(hcl:CG cl)(o:QK){c:Wy}(w:Az c){fr n:Nat}(h:fr+n≤cl.length)(a k:Nat)(hk:a+k≤n):0≤dE (aQ cl o fr) c.2.1 a k∧dE (aQ cl o fr) c.2.1 a k≤1000000:=by
 rw[←n6];have:=hcl.1;have:=nQ hcl w.1 w.2 (fr+a) k (by omega);omega
theorem zL{cl:XZ}(hcl:CG cl)(o:QK){c:Wy}(w:Az c){fr n:Nat}(h:fr+n≤cl.length)(a k:Nat)(hk:a+k<n):dE (aQ cl o fr) c.2.1 a k≤dE (aQ cl o fr) c.2.1 a (k+1):=by
 rw[←n6,←n6];have:=hcl.1;have:=nQ hcl w.1 w.2 (fr+a) k (by omega);simp only[pR];exact(qP this.1 (by omega) w.1 w.2 (hcl.2 _).1 (hcl.2 _).2).2.1
section
variable{d:Dt}{n:Nat}{c:Wy}(hn:n≤4096)(w:Cb c)(hc:∀a k,a+k≤n→0≤dE d c.2.1 a k∧dE d c.2.1 a k≤1000000)(hm:∀a k,a+k<n→dE d c.2.1 a k≤dE d c.2.1 a (k+1))
include hn w hc hm
theorem tP:(eH d n c).2=true↔c.2.2.1=1∧0<n∧∀r,¬CR d n c 0 r:=by
 unfold eH;by_cases j:c.2.2.1=1
 ·rw[if_pos j];by_cases p:n=0
  ·have:iE d n c=some []:=by unfold iE;rw[if_pos p]
   rw[this];exact⟨fun h=>absurd (show false=true from h) (by decide),fun h=>by omega⟩
  ·obtain⟨q,u⟩:=DN hn w hc hm (by omega);cases hb:iE d n c with
   | none =>
    refine⟨fun _=>⟨j,by omega,fun r v=>?_⟩,fun _=>rfl⟩;obtain⟨l,e,-⟩:=q v;rw[hb]at e;cases e
   | some l=>exact⟨fun h=>absurd (show false=true from h) (by decide),fun h=>absurd (u hb) (h.2.2 _)⟩
 ·rw[if_neg j];exact⟨fun h=>absurd (show false=true from h) (by decide),fun h=>absurd h.1 j⟩
theorem Ee:∀m a,a≤n→n≤a+m→(a<n→0≤(TT d n c a).2∧(a=0∨lU d a≠0)) →
  ∀x∈hH d n c.2.1 (cK d n c n) m a,∃i j,x=I4 d c.2.1 i j (lU d j)∧i<j∧j≤n∧(uR d n c i j).2=true
 | 0,_,_,_,_,x,h=>by cases h
 | m+1,a,h,h1,h2,x,p=>by
  simp only[hH]at p;by_cases ha:a<n
  ·obtain⟨D,B⟩:=h2 ha;rw[if_pos ha]at p;rcases(qV hn w hc hm (n - a) a (Nat.le_refl _) ha).2 B with⟨v,z⟩ | ⟨t,v,z,A,q,E,I⟩
   ·omega
   ·have C:((cK d n c n).getD a (0,0)).2=(t:Int):=v;rw[C,Int.toNat_natCast]at p;rcases List.mem_cons.1 p with e | e
    ·exact⟨a,t,e,z,A,q.1⟩
    ·exact Ee m t A (by omega) (fun u=>⟨q.2 u,.inr (sO q.1).1⟩) x e
  ·rw[if_neg ha]at p;cases p
theorem Jn(q:c.2.2.1=1)(h:(eH d n c).2=false):∀x∈(eH d n c).1,∃i j,x=I4 d c.2.1 i j (lU d j)∧i<j∧j≤n∧(uR d n c i j).2=true:=by
 unfold eH iE at h ⊢;rw[if_pos q]at h ⊢;by_cases u:n=0
 ·rw[if_pos u];intro x v;cases v
 ·rw[if_neg u]at h ⊢;by_cases p:((cK d n c n).getD 0 (0,0)).2<0
  ·rw[if_pos p]at h;cases h
  ·rw[if_neg p];exact Ee hn w hc hm n 0 (by omega) (by omega) (fun _=>⟨by show 0≤((cK d n c n).getD 0 (0,0)).2;omega,.inl rfl⟩)
end
theorem Dd{c:Wy}(hl:c.2.2.2.2.2=some 0){op e k:Int}{g:Nat}(j:g<2 ^ 53)(h1:0≤k)(h2:c.1<2 ^ 53)(h:(dq c op e k (g:Int) false).2=true):k=c.1:=by
 have p:=qs h;rcases Int.lt_or_le k c.1 with hk | hk
 ·exfalso
  obtain⟨a,ha⟩:∃a:Nat,c.1 - k=(a:Int):=⟨(c.1 - k).toNat,by omega⟩;have q:=JB (a:=a) (g:=g) (by omega) (by omega) j;unfold dq cR at h;rw[if_neg (by simpa using p)]at h;simp only[Bool.not_false,if_true,lQ,gB,Option.bind_some]at h;rw[wrap_i64 (by omega) (by omega),ha,hl,q]at h;simp at h
 ·omega
theorem Fj{d:Dt}{n:Nat}(hn:n≤4096){c:Wy}(hl:c.2.2.2.2.2=some 0)(x:c.1≤1048576)(hc:∀a k,a+k≤n→0≤dE d c.2.1 a k∧dE d c.2.1 a k≤1000000){i j:Nat}(q:i<j)(z:j≤n)(h:(uR d n c i j).2=true)(p:j≠n):jJ d c.2.1 i j (lU d j)=c.1:=by
 have u:=(sO h).1;unfold uR at h;rw[if_neg u,beq_eq_false_iff_ne.2 p]at h;have ht:=ka d i j (by omega);have v:=hc i (gu d i j - i) (by omega);refine Dd hl (g:=Gq d i (gu d i j - i)) ?_ ?_ (by omega) h
 ·have:=C4 d i (gu d i j - i);omega
 ·unfold jJ;split <;> omega
theorem yP{r:QJ}:xP r none=false:=by
 cases r <;> rfl
theorem HH(r:QJ):xP r (some 9218868437227405312)=false:=by
 cases r with
 | none=>rfl
 | some x =>
  have hi:FloatKind.f64.format.read 9218868437227405312 = .infinity false:=by decide
  unfold xP qH Ieee.Format.order;simp only;rw[hi];cases FloatKind.f64.format.read x with
  | nan=>rfl
  | infinity s=>cases s <;> rfl
  | number s m i=>rfl
theorem IF(r:QJ):xP r (some 9223372036854775808)=xP r (some 0):=by
 cases r with
 | none=>rfl
 | some x =>
  have hi:FloatKind.f64.format.read 9223372036854775808 = .number true 0 (-1074):=by decide
  unfold xP qH Ieee.Format.order;simp only;rw[hi,tC];cases FloatKind.f64.format.read x with
  | nan=>rfl
  | infinity s=>cases s <;> rfl
  | number s m i=>simp[Ieee.Datum.order,Ieee.signed]
theorem DU{c c':Wy}(h1:c'.1=c.1)(j:c'.2.2.2.1=c.2.2.2.1)(p:c'.2.2.2.2.1=c.2.2.2.2.1)(hf:∀r,xP r c'.2.2.2.2.2=xP r c.2.2.2.2.2)(op e k g:Int)(last:Bool):dq c' op e k g last=dq c op e k g last:=by
 unfold dq cR gB;simp only[h1,j,p,hf]
theorem CE{c c':Wy}(h1:c'.1=c.1)(hf:∀r,xP r c'.2.2.2.2.2=false)(op e k g:Int)(last:Bool)(h:(dq c op e k g last).2=true):(dq c' op e k g last).2=true:=by
 have hk:=qs h;have tail:∀j:Int,((((if(e == (3:Int))=true then(if 0≤(0:Int)∧(0:Int)<(([op]:QK).length:Int)then(if((([op]:QK).getD (0:Int).toNat (0:Int)) == (3:Int))=true then some ((i64.wrap ((i64.wrap ((i64.wrap ((i64.wrap ((10:Int)+j))*(i64.wrap ((10:Int)+j))))+c'.2.2.2.1))+c'.2.2.2.2.1)))
    else some ((i64.wrap ((i64.wrap ((i64.wrap ((10:Int)+j))*(i64.wrap ((10:Int)+j))))+c'.2.2.2.1))))else none)
    else some ((i64.wrap ((i64.wrap ((10:Int)+j))*(i64.wrap ((10:Int)+j))))))).bind fun p=>some (p,true)).getD (0,false)).2=true:=fun j=>by
  by_cases q:(e == 3)=true
  ·rw[if_pos q,if_pos (by simp)];split <;> rfl
  ·rw[if_neg q];rfl
 unfold dq cR;rw[h1,if_neg (by simpa using hk)];cases last with
 | true=>exact tail 0
 | false =>
  obtain⟨b,hb,-⟩:=qo (bN .quo (ofInt (i64.wrap (c.1 - k))) (ofInt g));simp only[Bool.not_false,if_true,lQ,gB,Option.bind_some,hf];rw[if_neg (by decide),hb];simp only[Option.bind_some];exact tail b
theorem Dr:fm=some ([],jW,mj,[],GK,GG,[],2,2):=rfl
theorem Gf{b j:Option Z1}(h:∀x,ba b x=ba j x)(x:QK)(p q u v z:Int)(A:QJ):cf b x p q u v z A=cf j x p q u v z A:=by
 unfold cf;rw[h]
theorem I7:eU=some true:=by
 obtain⟨b,e,hb⟩:=KK;unfold eU;rw[Dr];simp only[Option.bind,e,Gf hb];kernel_rfl
theorem KW{N O V:Int}{X:QK}{Y:List sJ}{Z d7 d8:Int}{d9:QK}{j:List sJ}{p q u v:QK}{x z B C D E I:Int}(J:QJ)(hd:Ho (cW N O V X Y Z d7 d8 d9 j p q u v x z) (fun _=>True))
  (h1:0≤B∧B≤255) (h2:0≤C∧C≤255) (h3:0≤D∧D≤255) (h4:0≤E∧E≤65535) (h5:0≤I∧I≤65535) {A:QK} (hx:∀i,0≤A.getD i 0∧A.getD i 0≤255) (L:A.length≤10000000) :
  ∃b t f,ij N O V X Y Z d7 d8 d9 j p q u v x z B C D E I J A=some (b,(1+B,1+C % 64,D % 2,E,I,J),t,f)∧(f=true→RB b∧Bytes t∧t.length≤4096):=by
 obtain⟨d,e,_⟩:=hd;obtain⟨⟨b,k⟩,eb,M⟩:=D2 d.1 d.2.1 d.2.2.1 d.2.2.2.1 d.2.2.2.2.1 d.2.2.2.2.2.1 d.2.2.2.2.2.2.1 d.2.2.2.2.2.2.2.1 d.2.2.2.2.2.2.2.2;obtain⟨t,et,tb,tl⟩:=Hk L hx;have ec:=(yA J h1 h2 h3 h4 h5).1;unfold ij;rw[e];simp only[Option.bind_some];rw[eb];simp only[Option.bind_some];rw[ec,et];simp only[Option.bind_some,Lb];by_cases hk:(k.1 == 0)=true
 ·refine⟨b,t,decide ((A.length:Int)≤60),by rw[if_pos hk];rfl,fun hf=>?_⟩;have rb:RB b:=(M.resolve_right fun h=>h.1 (by simpa using hk)).2;have:=of_decide_eq_true hf;exact⟨rb,tb,by omega⟩
 ·exact⟨b,t,false,by rw[if_neg hk];rfl,fun hf=>by cases hf⟩
section
variable{cl:XZ}(hcl:CG cl){o:QK}
include hcl
theorem uB{c c':Wy}(w:Az c)(v:Az c')(x:Cb c)(p:Cb c')(u:c'.2.2.1=1)(h:∀d n a b,(uR d n c' a b).2=true→(uR d n c a b).2=true):∀ {l:QK} {j:Nat},Gn o cl.length j l→(eJ cl o c j l).2=true→(eJ cl o c' j l).2=true
 | [],_,_,q=>q
 | t::r,j,⟨E,I,p3,p4,p5⟩,q=>by
  have hl:=hcl.1;simp only[eJ,Bool.or_eq_true]at q ⊢;rcases q with q | q
  ·left
   have z:=tP (d:=aQ cl o j) (n:=t.toNat - j) (by omega) x (zP hcl o w (by omega)) (zL hcl o w (by omega));have A:=tP (d:=aQ cl o j) (n:=t.toNat - j) (by omega) p (zP hcl o v (by omega)) (zL hcl o v (by omega));obtain⟨-,B,C⟩:=z.1 q;exact A.2 ⟨u,B,fun r D=>C r (D.mono (h _ _))⟩
  ·exact .inr (uB w v x p u h p5 q)
theorem uk{c:Wy}(w:Az c)(A:Cb c)(hm:c.2.2.1=1)(v:c.2.2.2.2.2=some 0)(B:c.1≤1048576):∀ {l:QK} {fr:Nat},Gn o cl.length fr l→(eJ cl o c fr l).2=false→∀x∈(eJ cl o c fr l).1,x.2.2.2≠2→x.2.2.1=c.1
 | [],_,_,_,x,p,_=>by cases p
 | t::r,fr,⟨J,L,p3,p4,p5⟩,q,x,p,u=>by
  have hl:=hcl.1;simp only[eJ,Bool.or_eq_false_iff]at q p;rcases List.mem_append.1 p with p | p
  ·obtain⟨y,C,rfl⟩:=List.mem_map.1 p;have z:=zP hcl o w (fr:=fr) (n:=t.toNat - fr) (by omega);obtain⟨i,j,e,h1,h2,D⟩:=Jn (d:=aQ cl o fr) (n:=t.toNat - fr) (by omega) A z (zL hcl o w (by omega)) hm q.1 y C;have hn:lU (aQ cl o fr) (t.toNat - fr)=2:=by rw[←lE cl o fr (by omega),show fr+(t.toNat - fr)=t.toNat by omega];exact p4
   rw[e]at u ⊢;have E:j≠t.toNat - fr:=fun I=>u (by rw[I];exact hn)
   exact Fj (by omega) v B z h1 h2 D E
  ·exact uk w A hm v B p5 q.2 x p u
end
theorem Gy{n:Int}{p:XZ×QK}(h:PM n p):Gn p.2 p.1.length 0 (fN p.2 p.2.length):=by
 have hl:=h.Mz.len;rw[sA];exact nz _ _ _ (by omega)
theorem yt{l:XZ}(h:l.length≤100000)(b:Bool):bW l b l b=some true:=by
 have q:iter (bJ l l) ((0:Nat):Int)=some (.inl ()):=by
  refine iz (fun k=>((k:Nat):Int)) l.length (fun k hk=>?_) ?_
  ·have j:(k:Int)<(l.length:Int):=by omega
   have u:0≤(k:Int):=by omega
   simp only[bJ,j,u,and_self,decide_true,if_true,BEq.rfl,Bool.and_self,Bool.not_true,Bool.false_eq_true,if_false,bM (show k≤9000000000000000000 by omega)]
  ·have j:¬((l.length:Int)<(l.length:Int)):=Int.lt_irrefl _;simp only[bJ,j,decide_false,Bool.false_eq_true,if_false]
 have p:iter (bJ l l) (0:Int)=some (.inl ()):=q;unfold bW;rw[p];simp
theorem Jl{c:Wy}{l:XZ}(hl:l.length≤100000)(h:∀x∈l,x.2.2.2≠2→x.2.2.1=c.1):iter (cw c l) (0:Int)=some (.inl ()):=by
 have p:iter (cw c l) ((0:Nat):Int)=some (.inl ()):=by
  refine iz (fun k=>((k:Nat):Int)) l.length (fun k hk=>?_) ?_
  ·have j:(k:Int)<(l.length:Int):=by omega
   have q:0≤(k:Int):=by omega
   have u:=h (l.getD k c0) (sN hk);have v:(if((l.getD k c0).2.2.2 != 2)=true then some ((l.getD k c0).2.2.1 != c.1)else some false)=some false:=by
    by_cases e:(l.getD k c0).2.2.2=2
    ·rw[if_neg (by rw[e];decide)]
    ·rw[if_pos (by simpa using e),u e,bne_self_eq_false]
   simp only[cw,j,q,and_self,decide_true,if_true,Int.toNat_natCast];rw[v];simp only[Option.bind_some,Bool.false_eq_true,if_false,bM (show k≤9000000000000000000 by omega)]
  ·have j:¬((l.length:Int)<(l.length:Int)):=Int.lt_irrefl _;simp only[cw,j,decide_false,Bool.false_eq_true,if_false]
 exact p
theorem BZ:cj 0=some 0:=by decide
theorem JV:cj 13830554455654793216=some 13830554455654793216:=by decide
theorem Bb{d1 d2 d3:Int}{d4:QK}{d5:List sJ}{d6 d7 d8:Int}{d9:QK}{N:List sJ}{O V X Y:QK}{Z a1 j x i3 z A:Int}(i6:QJ)(hd:Ho (cW d1 d2 d3 d4 d5 d6 d7 d8 d9 N O V X Y Z a1) (fun _=>True))
  (h1:0≤j∧j≤255) (h2:0≤x∧x≤255) (h3:0≤i3∧i3≤255) (h4:0≤z∧z≤65535) (h5:0≤A∧A≤65535) {x1:QK} (hx:∀i,0≤x1.getD i 0∧x1.getD i 0≤255) (a3:x1.length≤10000000) :
  ez d1 d2 d3 d4 d5 d6 d7 d8 d9 N O V X Y Z a1 j x i3 z A i6 x1=some true:=by
 unfold ez;rw[I7];simp only[Option.bind_some,Bool.not_true,Bool.false_eq_true,if_false];obtain⟨b,t,f,es,hf⟩:=KW i6 hd h1 h2 h3 h4 h5 hx a3;rw[es];simp only[Option.bind_some];cases f with
 | false=>rfl
 | true =>
  obtain⟨rb,tb,tl⟩:=hf rfl;obtain⟨p,ep,D,B⟩:=M3 rb tb tl;have C:=(yA i6 h1 h2 h3 h4 h5).2 1 (by decide) (by decide);have E:=D.NT (by omega);have hl:=E.1;have a6:=D.len;have l0:=(B _ (C none)).2;have l1:=(B _ (C (some 9218868437227405312))).2;have l2:=(B _ (C (some 9223372036854775808))).2;have l3:=(B _ (C (some 0))).2;have lb:=(B _ (C (some 0))).1;simp only at l0 l1 l2 l3 lb;have a2:∀u v:QJ,(∀r,xP r u=xP r v)→LF p.1 p.2 (1+j,1+x % 64,1,z,A,u)=LF p.1 p.2 (1+j,1+x % 64,1,z,A,v):=fun u v a4 =>
   sd (c:=(1+j,1+x % 64,1,z,A,v)) (c':=(1+j,1+x % 64,1,z,A,u)) (fun d n=>BM (c:=(1+j,1+x % 64,1,z,A,v)) (c':=(1+j,1+x % 64,1,z,A,u)) rfl rfl (DU (c:=(1+j,1+x % 64,1,z,A,v)) (c':=(1+j,1+x % 64,1,z,A,u)) rfl rfl rfl a4) rfl) _ _
  have e1:=a2 (some 9218868437227405312) none (fun r=>by rw[HH,yP]);have e2:=a2 (some 9223372036854775808) (some 0) IF;rw[e1]at l1;rw[e2]at l2;have J:∀v,Cb (1+j,1+x % 64,1,z,A,v):=fun v=>⟨h4.1,by simp only;omega,h5.1,by simp only;omega⟩
  have L:=uB E (so (C none)) (so (C (some 0))) (J none) (J (some 0)) rfl (fun d n a b=>Gh (c:=(1+j,1+x % 64,1,z,A,some 0)) (c':=(1+j,1+x % 64,1,z,A,none)) rfl (fun op e k g last=>CE (c:=(1+j,1+x % 64,1,z,A,some 0)) (c':=(1+j,1+x % 64,1,z,A,none)) rfl (fun r=>yP) op e k g last)) (Gy D);have I:(LF p.1 p.2 (1+j,1+x % 64,1,z,A,none)).2=true→(LF p.1 p.2 (1+j,1+x % 64,1,z,A,some 0)).2=true:=L;have M:=uk E (so (C (some 0))) (J (some 0)) rfl rfl (by simp only;omega) (Gy D);have a5:=(Ez D (1+j,1+x % 64,1,z,A,some 0)).2;have hR:∀c,(HB p.1 (t.length:Int) (LF p.1 p.2 c).1).length≤100000:=fun c=>by
   have:=(Ez D c).2;unfold HB;split
   ·simp
   ·rw[List.length_map];omega
  have n1:vu=some none:=rfl;have n2:rf 1=some (some 9218868437227405312):=rfl;have n3:hD (cj 0) (cj 13830554455654793216)=some (some 9223372036854775808):=by rw[BZ,JV];unfold hD;rw[if_pos ⟨rfl,rfl⟩]
  have g0:(0≤(0:Int)∧(0:Int)<((4:Nat):Int))=True:=eq_true (by decide);have g1:(0≤(1:Int)∧(1:Int)<((4:Nat):Int))=True:=eq_true (by decide);have g2:(0≤(2:Int)∧(2:Int)<((4:Nat):Int))=True:=eq_true (by decide);have g3:(0≤(3:Int)∧(3:Int)<((4:Nat):Int))=True:=eq_true (by decide);rw[n1,n2,n3];simp only[Option.bind_some,Bool.not_true,Bool.false_eq_true,if_false,g0,g1,g2,g3,if_true,BZ];rw[l0];simp only[Option.bind_some,bne_self_eq_false,Bool.false_eq_true,if_false];rw[l1];simp only[Option.bind_some,bne_self_eq_false,Bool.false_eq_true,if_false];rw[l2];simp only[Option.bind_some,bne_self_eq_false,Bool.false_eq_true,if_false];rw[l3];simp only[Option.bind_some,bne_self_eq_false,Bool.false_eq_true,if_false];rw[yt (hR _),yt (hR _),ep];simp only[Option.bind_some,Bool.not_true,Bool.false_eq_true,if_false];rw[lb];cases hz:(LF p.1 p.2 (1+j,1+x % 64,1,z,A,some 0)).2 with
  | true=>simp
  | false =>
   have hn:(LF p.1 p.2 (1+j,1+x % 64,1,z,A,none)).2=false:=by
    cases q:(LF p.1 p.2 (1+j,1+x % 64,1,z,A,none)).2 with
    | false=>rfl
    | true=>rw[I q]at hz;cases hz
   have hL:=Jl (c:=(1+j,1+x % 64,i3 % 2,z,A,i6)) (l:=(LF p.1 p.2 (1+j,1+x % 64,1,z,A,some 0)).1) (by omega) (M hz);rw[hn];simp[hL]
abbrev iH:List Ty:=[Nz,(.prod (.int .u8) (.prod (.int .u8) (.prod (.int .u8) (.prod (.int .u16) (.prod (.int .u16) .flt))))),(.slice (.int .u8))]
theorem Ai(x:LM iH)(j:MK iH x)(hl:List.length (α:=Int) x.2.2.1≤10000000):ez x.1.1.1 x.1.1.2.1 x.1.1.2.2.1 x.1.1.2.2.2.1 x.1.1.2.2.2.2 x.1.2.1.1 x.1.2.1.2.1 x.1.2.1.2.2.1 x.1.2.1.2.2.2.1 x.1.2.1.2.2.2.2 x.1.2.2.1 x.1.2.2.2.1 x.1.2.2.2.2.1 x.1.2.2.2.2.2.1 x.1.2.2.2.2.2.2.1 x.1.2.2.2.2.2.2.2 x.2.1.1 x.2.1.2.1 x.2.1.2.2.1 x.2.1.2.2.2.1 x.2.1.2.2.2.2.1 x.2.1.2.2.2.2.2 x.2.2.1=some true :=
 Bb _ (Ja j.1) j.2.1.1 j.2.1.2.1 j.2.1.2.2.1 j.2.1.2.2.2.1 j.2.1.2.2.2.2.1 (Cg j.2.2.1) hl
end
end Go.Proofs.YtobbjfkfmdiklaaGreatDoor.T
namespace Go.Tv
open Go
open Go.IntKind (i64)
section
variable{H:Type}{en:TypeId×Value→H}{P:Program}{w:World}{sp:Nat→Bool}{held:Bool}
def Gk:DataW H→Nat
 | .slice j _=>j.length
 | _=>0
theorem Dn{t e:TypeId}(hu:P.underlying t=some (.slice e)){v:Value}{d:DataW H}{p:List MemPlace}(h:DataW.Trod en P w 0 sp held t v d p){F:Bool→Addr→Value→Prop}{R}{β:Bool}{A:Ty}{xs:List A.den}(x:V F R (.p β (.slice A) xs) v):xs.length=Gk d:=by
 simp only[V,ai]at x;obtain⟨-,E,len,cap,rfl,⟨I,-⟩,-⟩:=x;obtain⟨j,hf⟩:=h;cases j with
 | zero=>simp[DataW.trod]at hf
 | succ j =>
  unfold DataW.trod at hf;rw[hu]at hf;simp only[Value.cells]at hf;split at hf <;> first | (exfalso;simp_all;done) | skip
  ·simp_all [Gk];obtain⟨rfl,-⟩:=hf;rfl
  ·rename_i a l c q;simp at q;obtain⟨J,L,M⟩:=q;split at hf
   ·simp only[Option.bind_eq_some_iff,Option.map_eq_some_iff]at hf;obtain⟨u,z,rest,N,B⟩:=hf;cases B;obtain⟨D,-⟩:=lC z;simp only[Gk,List.length_map];rw[List.length_range]at D;omega
   ·cases hf
end
end Go.Tv
