import Derived.Test.YtobbjfkfmdiklaaGreatDoorTv50s
import Derived.Test.YtobbjfkfmdiklaaGreatDoorTvT50eTopEdges
import Derived.Test.YtobbjfkfmdiklaaGreatDoorTvSj
import Derived.Test.YtobbjfkfmdiklaaGreatDoorTvYm
namespace Go.Proofs.YtobbjfkfmdiklaaGreatDoor.T
open Go Go.Tv Go.Proofs
noncomputable section
theorem GJ{α:Type}(p:List α)(x:α)(l:List α)(d:α):(p++x::l).getD p.length d=x:=by simp[List.getD_eq_getElem?_getD]
theorem yW(d:Dt)(n:Nat)(p j:Int):∀m a,(gD d n p j m a).length≤m
 | 0,_=>by simp[gD]
 | m+1,a=>by
  have:=yW d n p j m (lH d n p j a).1;simp only[gD];split
  ·simp only[List.length_cons];omega
  ·simp
theorem Br(d:Dt)(n:Nat)(j:Int)(T:Qq):∀m a,(hH d n j T m a).length≤m
 | 0,_=>by simp[hH]
 | m+1,a=>by
  have:=Br d n j T m (T.getD a (0,0)).2.toNat;simp only[hH];split
  ·simp only[List.length_cons];omega
  ·simp
theorem CO(d:Dt)(n:Nat)(c:Wy):(eH d n c).1.length≤n:=by
 have h1:=yW d n c.1 c.2.1 n 0;have h2:=Br d n c.2.1 (cK d n c n) n 0;unfold eH iE;by_cases hm:c.2.2.1=1
 ·rw[if_pos hm];by_cases j:n=0
  ·rw[if_pos j];simp
  ·rw[if_neg j];by_cases p:((cK d n c n).getD 0 (0,0)).2<0
   ·rw[if_pos p];exact h1
   ·rw[if_neg p];exact h2
 ·rw[if_neg hm];exact h1
theorem wT(l:XZ)(b:Int):(ku l b).length=l.length:=by simp[ku]
def Rg(n:Nat)(x:cO):Prop:=∃a b:Nat,x.1=(a:Int)∧x.2.1=(b:Int)∧a<b∧b≤n
theorem yE(d:Dt)(n:Nat)(q p:Int):∀m a,∀x∈gD d n q p m a,Rg n x
 | 0,_,x,j=>by simp[gD]at j
 | m+1,a,x,j=>by
  simp only[gD]at j;split at j
  ·rename_i ha;have h:=vN d q p ha;rcases List.mem_cons.1 j with rfl | j
   ·exact⟨a,_,rfl,rfl,h.1,h.2⟩
   ·exact yE d n q p m _ x j
  ·cases j
theorem AZ(d:Dt){n:Nat}(p:Int){T:Qq}(hT:∀a,a<n→0≤(T.getD a (0,0)).2→(a:Int)<(T.getD a (0,0)).2∧(T.getD a (0,0)).2≤(n:Int)∧((T.getD a (0,0)).2<(n:Int)→0≤(T.getD (T.getD a (0,0)).2.toNat (0,0)).2)):∀m a,(a<n→0≤(T.getD a (0,0)).2)→∀x∈hH d n p T m a,Rg n x
 | 0,_,_,x,j=>by simp[hH]at j
 | m+1,a,q,x,j=>by
  simp only[hH]at j;split at j
  ·rename_i ha;obtain⟨h1,h2,u⟩:=hT a ha (q ha);rcases List.mem_cons.1 j with rfl | j
   ·exact⟨a,_,rfl,rfl,by omega,by omega⟩
   ·exact AZ d p hT m _ (fun _=>u (by omega)) x j
  ·cases j
theorem IH(d:Dt)(n:Nat)(c:Wy):∀x∈(eH d n c).1,Rg n x:=by
 have h1:=yE d n c.1 c.2.1 n 0;unfold eH iE;by_cases hm:c.2.2.1=1
 ·rw[if_pos hm];by_cases j:n=0
  ·rw[if_pos j];intro x q;cases q
  ·rw[if_neg j];by_cases p:((cK d n c n).getD 0 (0,0)).2<0
   ·rw[if_pos p];exact h1
   ·rw[if_neg p];exact AZ d c.2.1 (wG d n c) n 0 (fun _=>by omega)
 ·rw[if_neg hm];exact h1
def y8(d:Dt):Nat→QK
 | 0=>[]
 | n+1=>y8 d n++[(d n).1*16+(d n).2.1,(d n).2.2]
def I0(d:Dt)(n:Nat):QX:=bytesOf (y8 d n)
def Sm(d:Dt)(n:Nat):Prop:=∀j,j<n→0≤(d j).1∧(d j).1≤2∧0≤(d j).2.1∧(d j).2.1≤2∧0≤(d j).2.2∧(d j).2.2≤3
theorem pv(d:Dt):∀n,(y8 d n).length=2*n
 | 0=>rfl
 | n+1=>by simp[y8,pv d n];omega
theorem Aj{d:Dt}:∀ {n:Nat},Sm d n→∀x∈y8 d n,0≤x∧x≤255
 | 0,_,x,p=>by cases p
 | n+1,h,x,p=>by
  obtain⟨q,u,v,z,A,B⟩:=h n (by omega);simp only[y8,List.mem_append,List.mem_cons,List.not_mem_nil,or_false]at p;rcases p with p | rfl | rfl
  ·exact Aj (fun j C=>h j (by omega)) x p
  ·omega
  ·omega
theorem tK:∀ {l k:QK},(∀x∈l,0≤x∧x≤255)→(∀x∈k,0≤x∧x≤255)→bytesOf l=bytesOf k→l=k
 | [],[],_,_,_=>rfl
 | [],y::k,_,_,h=>by simp[bytesOf]at h
 | x::l,[],_,_,h=>by simp[bytesOf]at h
 | x::l,y::k,h1,h2,h=>by
  simp only[bytesOf,List.map_cons,List.cons.injEq]at h;have j:=h1 x (by simp);have p:=h2 y (by simp);have e:x=y:=by have:=congrArg UInt8.toNat h.1;simp only[UInt8.toNat_ofNat']at this;omega
  rw[e,tK (fun z hz=>h1 z (by simp[hz])) (fun z hz=>h2 z (by simp[hz])) h.2]
theorem AL{d p:Dt}:∀ {n:Nat},Sm d n→Sm p n→y8 d n=y8 p n→∀j,j<n→d j=p j
 | 0,_,_,_,j,q=>by omega
 | n+1,h1,h2,h,j,q=>by
  simp only[y8]at h;obtain⟨u,g2⟩:=List.append_inj h (by rw[pv,pv]);by_cases e:j=n
  ·subst e;obtain⟨v,x,z,A,B,C⟩:=h1 j (by omega);obtain⟨D,E,I,J,L,M⟩:=h2 j (by omega);simp only[List.cons.injEq,and_true]at g2;refine Prod.ext (by omega) (Prod.ext (by omega) g2.2)
  ·exact AL (fun j q=>h1 j (by omega)) (fun j q=>h2 j (by omega)) u j (by omega)
theorem HQ{d q:Dt}{n p:Nat}(h1:Sm d n)(h2:Sm q p)(h:I0 d n=I0 q p):n=p∧∀j,j<n→d j=q j:=by
 have h':=tK (Aj h1) (Aj h2) h;have hl:=congrArg List.length h';rw[pv,pv]at hl;obtain rfl:n=p:=by omega
 exact⟨rfl,AL h1 h2 h'⟩
def L7(cl:XZ)(j:Int)(l:XZ):QZ:=l.map fun x=>oF cl j x.1.toNat (x.2.1.toNat - x.1.toNat)
def Ke(l:XZ):XZ:=if l=[]then[c0]else l
def n4(o:QK):Nat→Nat→QK
 | 0,_=>[]
 | m+1,k=>if o.getD k 0=2 then(k:Int)::n4 o m (k+1)else n4 o m (k+1)
theorem uC(o:QK):∀m k,n4 o (m+1) k=n4 o m k++(if o.getD (k+m) 0=2 then[((k+m:Nat):Int)]else[])
 | 0,k=>by simp only[n4];split <;> simp_all
 | m+1,k=>by
  have:=uC o m (k+1);rw[show k+1+m=k+(m+1) by omega]at this;simp only[n4]at this ⊢;rw[this];split <;> simp
theorem sA(o:QK):∀m,fN o m=n4 o m 0
 | 0=>rfl
 | m+1=>by
  rw[uC,←sA o m];simp only[fN,Nat.zero_add];split <;> simp
def Gn(o:QK)(m:Nat):Nat→QK→Prop
 | _,[]=>True
 | fr,t::r=>fr≤t.toNat∧t=(t.toNat:Int)∧t.toNat≤m∧o.getD t.toNat 0=2∧Gn o m t.toNat r
theorem Gn.from{o:QK}{m:Nat}:∀ {fr j:Nat} {l:QK},j≤fr→Gn o m fr l→Gn o m j l
 | _,_,[],_,_=>trivial
 | _,_,t::r,h,hp=>⟨by have:=hp.1;omega,hp.2⟩
theorem nz(o:QK){M:Nat}:∀m k,k+m≤M+1→Gn o M k (n4 o m k)
 | 0,_,_=>trivial
 | m+1,k,h=>by
  have:=nz o (M:=M) m (k+1) (by omega);simp only[n4];split
  ·rename_i j;exact⟨by simp,by simp,by simp;omega,by simpa using j,this.from (by simp)⟩
  ·exact this.from (by omega)
def eJ(cl:XZ)(o:QK)(c:Wy):Nat→QK→XZ×Bool
 | _,[]=>([],false)
 | fr,t::r=>(ku (eH (aQ cl o fr) (t.toNat - fr) c).1 (fr:Int)++(eJ cl o c t.toNat r).1,(eH (aQ cl o fr) (t.toNat - fr) c).2 || (eJ cl o c t.toNat r).2)
def Az(c:Wy):Prop:=1≤c.2.1∧c.2.1≤64
theorem FC{cl:XZ}(hc:CG cl){o:QK}(q:o.length=cl.length+1){c:Wy}(w:Az c){j p:Nat}(h1:j≤p)(h2:p≤cl.length)(u:o.getD j 0≠3):
  jB cl o (j:Int) (p:Int) c.1 c.2.1 c.2.2.1 c.2.2.2.1 c.2.2.2.2.1 c.2.2.2.2.2=some (ku (eH (aQ cl o j) (p - j) c).1 (j:Int),(eH (aQ cl o j) (p - j) c).2):=by
 obtain⟨n,rfl⟩:∃n,p=j+n:=⟨p - j,by omega⟩;rw[Nat.add_sub_cancel_left];exact Je hc q h2 c w.1 w.2 u
theorem xH{cl:XZ}(hc:CG cl){o:QK}(I:OM cl.length o)(J:o.getD 0 0≠3){c:Wy}(w:Az c):
  fH cl o c.1 c.2.1 c.2.2.1 c.2.2.2.1 c.2.2.2.2.1 c.2.2.2.2.2=some (eJ cl o c 0 (fN o o.length)):=by
 have hl:=hc.1;have z:=I.len;have key:∀(l pre:QK) (j:Nat) (out:XZ) (b:Bool),(pre++l).length≤5000→Gn o cl.length j l→j≤cl.length→o.getD j 0≠3→out.length≤j →
   iter (gx cl o c.1 c.2.1 c.2.2.1 c.2.2.2.1 c.2.2.2.2.1 c.2.2.2.2.2 (pre++l)) (out,b,(j:Int),(pre.length:Int))=some (out++(eJ cl o c j l).1,b || (eJ cl o c j l).2):=fun l=>by
  induction l with
  | nil =>
   intro pre j out b p _ _ _ _;have A:¬((pre.length:Int)<(pre.length:Int)):=Int.lt_irrefl _;rw[List.append_nil];exact dH (by simp only[gx,A,decide_false,Bool.false_eq_true,if_false,eJ,List.append_nil,Bool.or_false])
  | cons t r L =>
   intro pre j out b p hp M N hout;obtain⟨O,C,p3,p4,p5⟩:=hp;have D:=CO (aQ cl o j) (t.toNat - j) c;have E:=FC hc z w O p3 N;rw[←C]at E;have u:=L (pre++[t]) t.toNat (out++ku (eH (aQ cl o j) (t.toNat - j) c).1 (j:Int)) (b || (eH (aQ cl o j) (t.toNat - j) c).2) (by simpa using p) p5 p3 (by rw[p4];decide) (by rw[List.length_append,wT];omega);rw[List.append_assoc,←C]at u;simp only[List.singleton_append,List.length_append,List.length_singleton]at u;simp only[eJ];rw[←List.append_assoc,←Bool.or_assoc,←u];refine fX ?_;have B:pre.length+(r.length+1)≤5000:=by simpa using p
   have A:(pre.length:Int)<((pre++t::r).length:Int):=by simp;omega
   have V:0≤(pre.length:Int):=by omega
   have g:(out.length+(ku (eH (aQ cl o j) (t.toNat - j) c).1 (j:Int)).length)*32≤140737488355328∧out.length+(ku (eH (aQ cl o j) (t.toNat - j) c).1 (j:Int)).length≤9223372036854775807:=by rw[wT];omega
   simp only[gx,A,V,and_self,decide_true,if_true,Int.toNat_natCast,GJ,E,Option.bind_some,g];rw[show IntKind.i64.wrap ((pre.length:Int)+1)=((pre.length+1:Nat):Int)from bM (by omega)];cases b <;> simp
 have hp:Gn o cl.length 0 (fN o o.length):=by rw[sA];exact nz o _ _ (by omega)
 have X:=qK o o.length;have:=key (fN o o.length) [] 0 [] false (by simp;omega) hp (by omega) J (by simp);simp only[List.nil_append,List.length_nil,Bool.false_or]at this;unfold fH;rw[parts_eq cl (by omega),Option.bind_some];exact congrArg (fun x=>Option.bind x fun(v,q)=>some (v,q)) this
theorem sW.get:∀ {a n:Int} {s:XZ},sW a s n→∀i,0≤(s.getD i c0).2.2.1∧(s.getD i c0).2.2.1≤2∧0≤(s.getD i c0).2.2.2∧(s.getD i c0).2.2.2≤2
 | a,n,[],_,i=>by simp
 | a,n,x::s,h,0=>⟨h.2.2.1,h.2.2.2.1,h.2.2.2.2.1,h.2.2.2.2.2.1⟩
 | a,n,x::s,h,i+1=>by simpa using sW.get h.2.2.2.2.2.2 i
theorem PM.NT{n:Int}{p:XZ×QK}(h:PM n p)(hn:n≤4096):CG p.1:=⟨by have:=h.len;omega,fun i=>⟨(h.Lj.get i).1,(h.Lj.get i).2.1⟩⟩
abbrev Kn:=List (QX×(XZ×Bool))
def LL(c:Wy)(j:Kn):Prop:=∀k v,bh .str j k=some v→∀d n,Sm d n→I0 d n=k→v=eH d n c
theorem LL.nil(c:Wy):LL c []:=fun k v h=>by cases h
theorem wk{α:Type}(k j:QX)(x:α):∀q:List (QX×α),bh .str (cN .str q k x) j=if j=k then some x else bh .str q j
 | []=>by
  show(if eI .str k j=true then some x else none)=_;by_cases h:j=k
  ·subst h;rw[if_pos (by simp[eI]),if_pos rfl]
  ·rw[if_neg (show ¬eI .str k j=true by simpa [eI]using Ne.symm h),if_neg h];rfl
 | p::r=>by
  simp only[cN,bh];by_cases hp:p.1=k
  ·rw[if_pos (show eI .str p.1 k=true by simpa [eI]using hp)];simp only[bh];by_cases h:j=k
   ·subst h;rw[if_pos rfl,if_pos (by simp[eI])]
   ·have h1:¬eI .str k j=true:=by simpa [eI]using Ne.symm h
    have h2:¬eI .str p.1 j=true:=by rw[hp];exact h1
    rw[if_neg h,if_neg h1,if_neg h2]
  ·rw[if_neg (show ¬eI .str p.1 k=true by simpa [eI]using hp)];simp only[bh];by_cases h:p.1=j
   ·have h1:eI .str p.1 j=true:=by simpa [eI]using h
    have h2:¬j=k:=fun e=>hp (h.trans e)
    rw[if_pos h1,if_neg h2,if_pos h1]
   ·have h1:¬eI .str p.1 j=true:=by simpa [eI]using h
    rw[if_neg h1,if_neg h1];exact wk k j x r
theorem LL.set{c:Wy}{u:Kn}(h:LL c u){d:Dt}{n:Nat}(z:Sm d n):LL c (cN .str u (I0 d n) (eH d n c)):=fun k v q A B j hk=>by
 rw[wk]at q;split at q
 ·rename_i e;cases q;obtain⟨rfl,hd⟩:=HQ j z (hk.trans e);exact(Ay hd c).symm
 ·exact h k v q A B j hk
theorem yw{cl:XZ}{o:QK}(c:Wy):∀ {l:QK} {j:Nat},Gn o cl.length j l→(∀x∈(eJ cl o c j l).1,Rg cl.length x)∧(eJ cl o c j l).1.length+j≤max j cl.length
 | [],j,_=>⟨fun x p=>(by cases p),by simp only[eJ,List.length_nil];omega⟩
 | t::r,j,⟨v,z,p3,p4,p5⟩=>by
  obtain⟨h1,h2⟩:=yw c p5;have q:=CO (aQ cl o j) (t.toNat - j) c;refine⟨fun x p=>?_,by simp only[eJ,List.length_append,wT];omega⟩;simp only[eJ,List.mem_append]at p;rcases p with p | p
  ·unfold ku at p;obtain⟨y,u,rfl⟩:=List.mem_map.1 p;obtain⟨a,b,A,B,C,D⟩:=IH _ _ c y u;exact⟨j+a,j+b,by simp only;omega,by simp only;omega,by omega,by omega⟩
  ·exact h1 x p
def LF(cl:XZ)(o:QK)(c:Wy):XZ×Bool:=eJ cl o c 0 (fN o o.length)
def Lu(cl:XZ)(o:QK)(c:Wy):(XZ×QK)×(XZ×QZ):=((cl,o),(Ke (LF cl o c).1,L7 cl c.2.1 (Ke (LF cl o c).1)))
theorem PM.zero{n:Int}{p:XZ×QK}(h:PM n p):p.2.getD 0 0≠3:=by
 by_cases q:0<p.1.length
 ·rw[h.Mz.zero q];decide
 ·have:=h.Mz.last;rw[show p.1.length=0 by omega]at this;rw[this];decide
end
end Go.Proofs.YtobbjfkfmdiklaaGreatDoor.T
namespace Go.Proofs.YtobbjfkfmdiklaaGreatDoor.T
open Go Go.Tv Go.Proofs
def Ho{γ:Type}(o:Option γ)(P:γ→Prop):Prop:=∃r,o=some r∧P r
def Nm{α ε:Type}(Q:α→Prop):α⊕ε→Prop
 | .inl x=>Q x
 | .inr _=>True
def Lp{α β:Type}(J:α→Prop)(Q:β→Prop):α⊕β→Prop
 | .inl x=>J x
 | .inr x=>Q x
section
variable{α β γ ε:Type}{P:α→Prop}{R:β→Prop}
theorem ao{f:Option α}{K:α→Option β}(h:Ho f P)(k:∀r,P r→Ho (K r) R):Ho (f.bind K) R:=by
 obtain⟨r,e,hp⟩:=h;rw[e];exact k r hp
theorem aq{x:α}(h:P x):Ho (some x) P:=⟨x,rfl,h⟩
theorem aH{c:Prop}[Decidable c]{a b:Option α}(h1:c→Ho a P)(h2:¬c→Ho b P):Ho (if c then a else b) P:=by
 by_cases h:c
 ·rw[if_pos h];exact h1 h
 ·rw[if_neg h];exact h2 h
theorem aV{c:Prop}[Decidable c]{a b:Option α}(h:c)(h1:Ho a P):Ho (if c then a else b) P:=by rw[if_pos h];exact h1
theorem Fa{f:Option α}{j:α→Prop}(h:Ho f P)(k:∀r,P r→j r):Ho f j:=let ⟨r,e,hp⟩:=h;⟨r,e,k r hp⟩
theorem bG{S T:Type}{body:S→Option (S⊕T)}(I:S→Prop)(j:S→Nat){Q:T→Prop}{s:S}(h:I s)(step:∀s,I s→Ho (body s) (Lp (fun y=>I y∧j y<j s) Q)):Ho (iter body s) Q:=by
 refine dG I j Q (fun s q=>?_) h;obtain⟨r,e,p⟩:=step s q;cases r with
 | inl y=>exact .inl ⟨y,e,p⟩
 | inr t=>exact .inr ⟨t,e,p⟩
theorem NQ{c:Prop}[Decidable c]{a b:Option α}{K:α→Option β}(h1:c→Ho (a.bind K) R)(h2:¬c→Ho (b.bind K) R):Ho ((if c then a else b).bind K) R:=by
 by_cases h:c
 ·rw[if_pos h];exact h1 h
 ·rw[if_neg h];exact h2 h
end
theorem dec_lt{a b:Int}:(decide (a<b)=true)↔a<b:=decide_eq_true_iff
theorem EL(c:Int):∀(l:QX) (k:Int),0≤k→xf l c k = -1∨(k≤xf l c k∧xf l c k<k+l.length∧(∀x r,l=x::r→(x == c.toNat.toUInt8)=false→k<xf l c k))
 | [],k,_=> .inl rfl
 | x::r,k,hk=>by
  simp only[xf];by_cases e:(x == c.toNat.toUInt8)=true
  ·rw[if_pos e];exact .inr ⟨Int.le_refl _,by simp only[List.length_cons];omega,fun y s h j=>by cases h;rw[e]at j;cases j⟩
  ·rw[if_neg e];rcases EL c r (k+1) (by omega)with h | ⟨h1,h2,_⟩
   ·exact .inl h
   ·exact .inr ⟨by omega,by simp only[List.length_cons];omega,fun _ _ _ _=>by omega⟩
theorem pF(c:Int):Ho (dA c) (fun _=>True):=by
 have:∃b,dA c=some b:=by
  unfold dA
  repeat' split
  all_goals exact⟨_,rfl⟩
 obtain⟨b,e⟩:=this;exact⟨b,e,trivial⟩
theorem II(c:Int):Ho (iK c) (fun _=>True):=by
 have:∃b,iK c=some b:=by
  unfold iK
  repeat' split
  all_goals exact⟨_,rfl⟩
 obtain⟨b,e⟩:=this;exact⟨b,e,trivial⟩
def At(t:QX)(a:Int):Prop:=0≤a∧a≤(t.length:Int)
def ML(t:QX)(a:Int):Int:=((t.getD a.toNat 0).toNat:Int)
section
variable{t:QX}(ht:t.length≤4096){a p3 p4 p5 p6:Int}{o1:QQ}{o2:QK}{o3:XJ}{o4:XQ}
include ht
theorem np(ha:At t a):Ho (bg t a p3 p4 p5 p6 o1 o2 o3 o4) (Nm fun(c,p)=>a≤p∧At t p∧(c≠0→p<(t.length:Int)∧c=ML t p)):=by
 have key:Ho (iter (dK t p3 p4 p5 p6 o1 o2 o3 o4) a) (fun r=>match r with
   | .inl v=>a≤v∧At t v
   | .inr (.inl _)=>True
   | .inr (.inr (c,p))=>a≤p∧At t p∧p<(t.length:Int)∧c=ML t p):=by
  refine bG (fun p=>a≤p∧At t p) (fun p=>(t.length - p).toNat) ⟨Int.le_refl _,ha⟩ (fun p ⟨h1,h2,A⟩=>?_);unfold dK;refine aH (fun hl=>?_) (fun _=>aq ⟨h1,h2,A⟩);rw[dec_lt]at hl;refine aV ⟨h2,hl⟩ (aH (fun q=>?_) fun _=>?_)
  ·refine aV ⟨h2,by omega,Int.le_refl _⟩ ?_;simp only[eY,gm,Option.bind_some];have B:(t.take ((t.length:Int)).toNat).drop p.toNat=t.getD p.toNat 0::t.drop (p.toNat+1):=by rw[Int.toNat_natCast,List.take_length,List.drop_eq_getElem_cons (by omega)];rw[List.getD_eq_getElem?_getD,List.getElem?_eq_getElem (by omega)];rfl
   have z:(t.getD p.toNat 0 == (10:Int).toNat.toUInt8)=false:=by rw[beq_eq_false_iff_ne];intro e;rw[e]at q;revert q;decide
   have hi:=EL 10 ((t.take ((t.length:Int)).toNat).drop p.toNat) 0 (by omega);have u:(((t.take ((t.length:Int)).toNat).drop p.toNat).length:Int)=t.length - p:=by rw[Int.toNat_natCast,List.take_length,List.length_drop];omega
   rw[u]at hi;refine NQ (fun hd=>?_) (fun hd=>?_)
   ·rw[dec_lt]at hd;simp only[Option.bind_some];rw[wrap_i64 (x:=(t.length:Int) - p) (by omega) (by omega),wrap_i64 (by omega) (by omega)];exact aq ⟨⟨by omega,by omega,by omega⟩,by omega⟩
   ·rw[dec_lt]at hd;rcases hi with hi | ⟨D,E,C⟩
    ·omega
    have:=C _ _ B z;simp only[Option.bind_some];rw[wrap_i64 (by omega) (by omega)];exact aq ⟨⟨by omega,by omega,by omega⟩,by omega⟩
  ·refine ao (II _) (fun b _=>aH (fun _=>?_) fun _=>?_)
   ·rw[wrap_i64 (by omega) (by omega)];exact aq ⟨⟨by omega,by omega,by omega⟩,by omega⟩
   ·refine ao (P:=fun _=>True) (ao (pF _) fun b _=>aH (fun _=>?_) fun _=>aq trivial) (fun v _=>aH (fun _=>?_) fun _=>?_)
    ·exact⟨_,rfl,trivial⟩
    ·exact⟨_,rfl,trivial⟩
    ·exact aq ⟨h1,⟨h2,A⟩,hl,rfl⟩
 unfold bg;refine ao key (fun r j=>?_);match r,j with
 | .inl v,j=>exact aq ⟨j.1,j.2,fun h=>absurd rfl h⟩
 | .inr (.inl (B,I)),_=>exact⟨_,rfl,trivial⟩
 | .inr (.inr (c,p)),j=>exact aq ⟨j.1,j.2.1,fun _=>j.2.2⟩
theorem mg(ha:At t a){c:Int}(hc:c≠0):Ho (bj c t a p3 p4 p5 p6 o1 o2 o3 o4) (Nm fun(b,p)=>a≤p∧At t p∧(b=true→a<p)):=by
 refine ao (np ht ha) ?_;rintro(⟨k,p⟩ | e) h
 ·obtain⟨h1,h2,q⟩:=h;refine aH (fun _=>aq ⟨h1,h2,fun h=>by cases h⟩) fun hk=>?_
  have j:k=c:=by simpa using hk
  have u:=(q (by rw[j];exact hc)).1;obtain⟨v,x⟩:=h2;rw[wrap_i64 (by omega) (by omega)];exact aq ⟨by omega,⟨by omega,by omega⟩,fun _=>by omega⟩
 ·exact⟨_,rfl,trivial⟩
theorem pA(ha:At t a){c:Int}(hc:c≠0):Ho (bE c t a p3 p4 p5 p6 o1 o2 o3 o4) (Nm fun p=>a<p∧At t p):=by
 refine ao (mg ht ha hc) ?_;rintro(⟨b,p⟩ | e) h
 ·refine aH (fun _=>⟨_,rfl,trivial⟩) fun hb=>aq ⟨h.2.2 (by simpa using hb),h.2.1⟩
 ·exact⟨_,rfl,trivial⟩
theorem uV(ha:At t a):Ho (cb t a p3 p4 p5 p6 o1 o2 o3 o4) (Nm fun(_,_,p)=>a<p∧At t p):=by
 refine ao (np ht ha) ?_;rintro(⟨k,p⟩ | e) h
 rotate_left
 ·exact⟨_,rfl,trivial⟩
 obtain⟨h1,h2,B⟩:=h;obtain⟨b,hb,_⟩:=pF k;dsimp only;rw[hb];refine aH (fun _=>⟨_,rfl,trivial⟩) fun v=>?_
 have u:b=true:=by simpa using v
 subst u;have x:k≠0:=fun e=>by rw[e]at hb;revert hb;decide
 obtain⟨I,C⟩:=B x;have key:Ho (iter (dJ t) p) (fun q=>p<q∧At t q):=by
  refine bG (fun q=>p≤q∧At t q) (fun q=>(t.length - q).toNat) ⟨Int.le_refl _,h2⟩ (fun q ⟨D,g2,g3⟩=>?_);unfold dJ;refine NQ (fun hl=>?_) fun hl=>?_
  ·rw[dec_lt]at hl;rw[if_pos ⟨g2,hl⟩];obtain⟨b,j,_⟩:=pF (ML t q);show Ho (((dA (ML t q)).bind fun z=>some z).bind _) _;rw[j];refine aH (fun _=>?_) fun A=>?_
   ·rw[wrap_i64 (by omega) (by omega)];exact aq ⟨⟨by omega,by omega,by omega⟩,by omega⟩
   ·refine aq ⟨?_,g2,g3⟩;have:p≠q:=fun e=>by subst e;rw[←C,hb]at j;cases j;exact A rfl
    omega
  ·rw[dec_lt]at hl;exact aq ⟨by omega,g2,g3⟩
 refine ao key fun q E=>?_
 obtain⟨D,g2,g3⟩:=E;have:=h2.1;exact aV ⟨by omega,by omega,g3⟩ (aq ⟨by simp only;omega,g2,g3⟩)
theorem BU(ha:At t a):Ho (dh t a p3 p4 p5 p6 o1 o2 o3 o4) (Nm fun(_,p)=>a<p∧At t p):=by
 refine ao (uV ht ha) ?_;rintro(⟨w,q,p⟩ | e) h
 ·exact aH (fun _=>⟨_,rfl,trivial⟩) fun _=>aq h
 ·exact⟨_,rfl,trivial⟩
theorem Bp(ha:At t a):Ho (db t a p3 p4 p5 p6 o1 o2 o3 o4) (Nm fun(_,p)=>a<p∧At t p):=by
 refine ao (uV ht ha) ?_;rintro(⟨w,q,p⟩ | e) h
 ·exact aH (fun _=>aq h) fun _=>⟨_,rfl,trivial⟩
 ·exact⟨_,rfl,trivial⟩
theorem nI(ha:At t a){c:Int}(hc:c≠0):Ho (bI c t a p3 p4 p5 p6 o1 o2 o3 o4) (Nm fun(_,p)=>a<p∧At t p):=by
 have key:Ho (iter (dY c t p3 p4 p5 p6 o1 o2 o3 o4) (a,0)) (Nm fun(p,_)=>a≤p∧At t p∧p<(t.length:Int)):=by
  refine bG (fun(p,_)=>a≤p∧At t p) (fun(p,_)=>(t.length - p).toNat) ⟨Int.le_refl _,ha⟩ (fun(p,b) ⟨h1,h2⟩=>?_);refine ao (np ht h2) ?_;rintro(⟨k,q⟩ | e) h
  ·obtain⟨z,g2,g3⟩:=h;refine aH (fun _=>?_) fun hk=>?_
   ·refine ao (Bp ht g2) ?_;rintro(⟨x,r⟩ | e) h
    ·obtain⟨A,u,v⟩:=h;have:=h2.2;exact aq ⟨⟨by omega,u,v⟩,by simp only;omega⟩
    ·exact⟨_,rfl,trivial⟩
   ·have j:k=c:=by simpa using hk
    exact aq ⟨by omega,g2,(g3 (by rw[j];exact hc)).1⟩
  ·exact⟨_,rfl,trivial⟩
 refine ao key ?_;rintro(⟨p,b⟩ | e) h
 ·obtain⟨h1,⟨h2,_⟩,B⟩:=h;dsimp only;rw[wrap_i64 (by omega) (by omega)];exact aq ⟨by omega,by omega,by omega⟩
 ·exact⟨_,rfl,trivial⟩
omit ht in
theorem H5(w:QX)(j:o1.length≤24):Ho (cU o1 w) (fun i=>i<(o1.length:Int)):=by
 have key:Ho (iter (cu o1 w) 0) (Lp (fun _=>True) fun i=>i<(o1.length:Int)):=by
  refine bG (fun i=>0≤i∧i≤(o1.length:Int)) (fun i=>(o1.length - i).toNat) ⟨by omega,by omega⟩ (fun i ⟨h1,h2⟩=>?_);unfold cu;refine aH (fun hl=>?_) fun _=>aq trivial
  rw[dec_lt]at hl;refine aV ⟨h1,hl⟩ (aH (fun _=>aq hl) fun _=>?_);rw[wrap_i64 (by omega) (by omega)];exact aq ⟨⟨by omega,by omega⟩,by omega⟩
 refine ao key ?_;rintro(_ | i) h
 ·exact aq (by omega)
 ·exact aq h
theorem G5(ha:At t a)(j:o1.length≤24):Ho (dM t a p3 p4 p5 p6 o1 o2 o3 o4) (Nm fun(i,p)=>a<p∧At t p∧0≤i∧i<(o1.length:Int)):=by
 refine ao (uV ht ha) ?_;rintro(⟨w,q,p⟩ | e) h
 ·refine ao (H5 w j) fun i hi=>aH (fun _=>⟨_,rfl,trivial⟩) fun hl=>?_
  rw[dec_lt]at hl;exact aq ⟨h.1,h.2,by omega,hi⟩
 ·exact⟨_,rfl,trivial⟩
end
end Go.Proofs.YtobbjfkfmdiklaaGreatDoor.T
