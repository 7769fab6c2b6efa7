import Derived.Test.YtflahpmlcfhpcaaGreatDoorTv40s
import Derived.Test.YtflahpmlcfhpcaaGreatDoorTvT20eBookAgain
import Derived.Test.YtflahpmlcfhpcaaGreatDoorTvSj
import Derived.Test.YtflahpmlcfhpcaaGreatDoorTvYm
namespace Go.Proofs.YtflahpmlcfhpcaaGreatDoor.T
open Go Go.Tv Go.Proofs
noncomputable section
theorem GA{α:Type}(p:List α)(x:α)(l:List α)(d:α):(p++x::l).getD p.length d=x:=by simp[List.getD_eq_getElem?_getD]
theorem yf(d:Dt)(n:Nat)(f e:Int):∀m a,(gC d n f e m a).length≤m
 | 0,_=>by simp[gC]
 | m+1,a=>by
  have:=yf d n f e m (kW d n f e a).1;simp only[gC];split
  ·simp only[List.length_cons];omega
  ·simp
theorem zK(d:Dt)(n:Nat)(e:Int)(T:Qq):∀m a,(lA d n e T m a).length≤m
 | 0,_=>by simp[lA]
 | m+1,a=>by
  have:=zK d n e T m (T.getD a (0,0)).2.toNat;simp only[lA];split
  ·simp only[List.length_cons];omega
  ·simp
theorem AN(d:Dt)(n:Nat)(c:Wy):(iK d n c).1.length≤n:=by
 have e:=yf d n c.1 c.2.1 n 0;have q:=zK d n c.2.1 (eH d n c n) n 0;unfold iK rA;by_cases f:c.2.2.1=1
 ·rw[if_pos f];by_cases j:n=0
  ·rw[if_pos j];simp
  ·rw[if_neg j];by_cases p:((eH d n c n).getD 0 (0,0)).2<0
   ·rw[if_pos p];exact e
   ·rw[if_neg p];exact q
 ·rw[if_neg f];exact e
theorem wh(l:XZ)(b:Int):(ka l b).length=l.length:=by simp[ka]
def Rg(n:Nat)(x:cR):Prop:=∃a b:Nat,x.1=(a:Int)∧x.2.1=(b:Int)∧a<b∧b≤n
theorem xX(d:Dt)(n:Nat)(j f:Int):∀m a,∀x∈gC d n j f m a,Rg n x
 | 0,_,x,e=>by simp[gC]at e
 | m+1,a,x,e=>by
  simp only[gC]at e;split at e
  ·rename_i ha;have h:=wc d j f ha;rcases List.mem_cons.1 e with rfl | e
   ·exact⟨a,_,rfl,rfl,h.1,h.2⟩
   ·exact xX d n j f m _ x e
  ·cases e
theorem zH(d:Dt){n:Nat}(f:Int){T:Qq}(hT:∀a,a<n→0≤(T.getD a (0,0)).2→(a:Int)<(T.getD a (0,0)).2∧(T.getD a (0,0)).2≤(n:Int)∧((T.getD a (0,0)).2<(n:Int)→0≤(T.getD (T.getD a (0,0)).2.toNat (0,0)).2)):∀m a,(a<n→0≤(T.getD a (0,0)).2)→∀x∈lA d n f T m a,Rg n x
 | 0,_,_,x,e=>by simp[lA]at e
 | m+1,a,j,x,e=>by
  simp only[lA]at e;split at e
  ·rename_i ha;obtain⟨q,u,p⟩:=hT a ha (j ha);rcases List.mem_cons.1 e with rfl | e
   ·exact⟨a,_,rfl,rfl,by omega,by omega⟩
   ·exact zH d f hT m _ (fun _=>p (by omega)) x e
  ·cases e
theorem He(d:Dt)(n:Nat)(c:Wy):∀x∈(iK d n c).1,Rg n x:=by
 have e:=xX d n c.1 c.2.1 n 0;unfold iK rA;by_cases f:c.2.2.1=1
 ·rw[if_pos f];by_cases j:n=0
  ·rw[if_pos j];intro x q;cases q
  ·rw[if_neg j];by_cases p:((eH d n c n).getD 0 (0,0)).2<0
   ·rw[if_pos p];exact e
   ·rw[if_neg p];exact zH d c.2.1 (vJ d n c) n 0 (fun _=>by omega)
 ·rw[if_neg f];exact e
def y9(d:Dt):Nat→QK
 | 0=>[]
 | n+1=>y9 d n++[(d n).1*16+(d n).2.1,(d n).2.2]
def Ip(d:Dt)(n:Nat):QX:=bytesOf (y9 d n)
def Sm(d:Dt)(n:Nat):Prop:=∀j,j<n→0≤(d j).1∧(d j).1≤2∧0≤(d j).2.1∧(d j).2.1≤2∧0≤(d j).2.2∧(d j).2.2≤3
theorem o6(d:Dt):∀n,(y9 d n).length=2*n
 | 0=>rfl
 | n+1=>by simp[y9,o6 d n];omega
theorem yy{d:Dt}:∀ {n:Nat},Sm d n→∀x∈y9 d n,0≤x∧x≤255
 | 0,_,x,e=>by cases e
 | n+1,h,x,e=>by
  obtain⟨f,p,q,u,v,z⟩:=h n (by omega);simp only[y9,List.mem_append,List.mem_cons,List.not_mem_nil,or_false]at e;rcases e with e | rfl | rfl
  ·exact yy (fun j A=>h j (by omega)) x e
  ·omega
  ·omega
theorem th:∀ {l k:QK},(∀x∈l,0≤x∧x≤255)→(∀x∈k,0≤x∧x≤255)→bytesOf l=bytesOf k→l=k
 | [],[],_,_,_=>rfl
 | [],y::k,_,_,h=>by simp[bytesOf]at h
 | x::l,[],_,_,h=>by simp[bytesOf]at h
 | x::l,y::k,f,j,h=>by
  simp only[bytesOf,List.map_cons,List.cons.injEq]at h;have p:=f x (by simp);have q:=j y (by simp);have e:x=y:=by have:=congrArg UInt8.toNat h.1;simp only[UInt8.toNat_ofNat']at this;omega
  rw[e,th (fun z hz=>f z (by simp[hz])) (fun z hz=>j z (by simp[hz])) h.2]
theorem Ar{d f:Dt}:∀ {n:Nat},Sm d n→Sm f n→y9 d n=y9 f n→∀j,j<n→d j=f j
 | 0,_,_,_,j,p=>by omega
 | n+1,q,u,h,j,p=>by
  simp only[y9]at h;obtain⟨v,g2⟩:=List.append_inj h (by rw[o6,o6]);by_cases e:j=n
  ·subst e;obtain⟨x,z,A,B,C,D⟩:=q j (by omega);obtain⟨E,I,J,L,M,N⟩:=u j (by omega);simp only[List.cons.injEq,and_true]at g2;refine Prod.ext (by omega) (Prod.ext (by omega) g2.2)
  ·exact Ar (fun j p=>q j (by omega)) (fun j p=>u j (by omega)) v j (by omega)
theorem FK{d f:Dt}{n e:Nat}(p:Sm d n)(q:Sm f e)(h:Ip d n=Ip f e):n=e∧∀j,j<n→d j=f j:=by
 have h':=th (yy p) (yy q) h;have hl:=congrArg List.length h';rw[o6,o6]at hl;obtain rfl:n=e:=by omega
 exact⟨rfl,Ar p q h'⟩
def KT(f:XZ)(e:Int)(l:XZ):QZ:=l.map fun x=>oG f e x.1.toNat (x.2.1.toNat - x.1.toNat)
def IK(l:XZ):XZ:=if l=[]then[c0]else l
def nm(o:QK):Nat→Nat→QK
 | 0,_=>[]
 | m+1,k=>if o.getD k 0=2 then(k:Int)::nm o m (k+1)else nm o m (k+1)
theorem tH(o:QK):∀m k,nm o (m+1) k=nm o m k++(if o.getD (k+m) 0=2 then[((k+m:Nat):Int)]else[])
 | 0,k=>by simp only[nm];split <;> simp_all
 | m+1,k=>by
  have:=tH o m (k+1);rw[show k+1+m=k+(m+1) by omega]at this;simp only[nm]at this ⊢;rw[this];split <;> simp
theorem vo(o:QK):∀m,gh o m=nm o m 0
 | 0=>rfl
 | m+1=>by
  rw[tH,←vo o m];simp only[gh,Nat.zero_add];split <;> simp
def HF(o:QK)(m:Nat):Nat→QK→Prop
 | _,[]=>True
 | e,t::r=>e≤t.toNat∧t=(t.toNat:Int)∧t.toNat≤m∧o.getD t.toNat 0=2∧HF o m t.toNat r
theorem HF.from{o:QK}{m:Nat}:∀ {f e:Nat} {l:QK},e≤f→HF o m f l→HF o m e l
 | _,_,[],_,_=>trivial
 | _,_,t::r,h,j=>⟨by have:=j.1;omega,j.2⟩
theorem qm(o:QK){M:Nat}:∀m k,k+m≤M+1→HF o M k (nm o m k)
 | 0,_,_=>trivial
 | m+1,k,h=>by
  have:=qm o (M:=M) m (k+1) (by omega);simp only[nm];split
  ·rename_i e;exact⟨by simp,by simp,by simp;omega,by simpa using e,this.from (by simp)⟩
  ·exact this.from (by omega)
def jm(f:XZ)(o:QK)(c:Wy):Nat→QK→XZ×Bool
 | _,[]=>([],false)
 | e,t::r=>(ka (iK (aR f o e) (t.toNat - e) c).1 (e:Int)++(jm f o c t.toNat r).1,(iK (aR f o e) (t.toNat - e) c).2 || (jm f o c t.toNat r).2)
def Lb(c:Wy):Prop:=1≤c.2.1∧c.2.1≤64
theorem E4{j:XZ}(hc:C5 j){o:QK}(p:o.length=j.length+1){c:Wy}(w:Lb c){e f:Nat}(v:e≤f)(q:f≤j.length)(u:o.getD e 0≠3):
  jr j o (e:Int) (f:Int) c.1 c.2.1 c.2.2.1 c.2.2.2.1 c.2.2.2.2.1 c.2.2.2.2.2=some (ka (iK (aR j o e) (f - e) c).1 (e:Int),(iK (aR j o e) (f - e) c).2):=by
 obtain⟨n,rfl⟩:∃n,f=e+n:=⟨f - e,by omega⟩;rw[Nat.add_sub_cancel_left];exact HP hc p q c w.1 w.2 u
theorem wO{f:XZ}(hc:C5 f){o:QK}(I:OM f.length o)(J:o.getD 0 0≠3){c:Wy}(w:Lb c):
  gu f o c.1 c.2.1 c.2.2.1 c.2.2.2.1 c.2.2.2.2.1 c.2.2.2.2.2=some (jm f o c 0 (gh o o.length)):=by
 have hl:=hc.1;have v:=I.len;have key:∀(l pre:QK) (e:Nat) (out:XZ) (b:Bool),(pre++l).length≤5000→HF o f.length e l→e≤f.length→o.getD e 0≠3→out.length≤e →
   iter (gA f o c.1 c.2.1 c.2.2.1 c.2.2.2.1 c.2.2.2.2.1 c.2.2.2.2.2 (pre++l)) (out,b,(e:Int),(pre.length:Int))=some (out++(jm f o c e l).1,b || (jm f o c e l).2):=fun l=>by
  induction l with
  | nil =>
   intro pre e out b j _ _ _ _;have z:¬((pre.length:Int)<(pre.length:Int)):=Int.lt_irrefl _;rw[List.append_nil];exact dN (by simp only[gA,z,decide_false,Bool.false_eq_true,if_false,jm,List.append_nil,Bool.or_false])
  | cons t r L =>
   intro pre e out b j A M N hout;obtain⟨O,C,p3,p4,p5⟩:=A;have D:=AN (aR f o e) (t.toNat - e) c;have E:=E4 hc v w O p3 N;rw[←C]at E;have q:=L (pre++[t]) t.toNat (out++ka (iK (aR f o e) (t.toNat - e) c).1 (e:Int)) (b || (iK (aR f o e) (t.toNat - e) c).2) (by simpa using j) p5 p3 (by rw[p4];decide) (by rw[List.length_append,wh];omega);rw[List.append_assoc,←C]at q;simp only[List.singleton_append,List.length_append,List.length_singleton]at q;simp only[jm];rw[←List.append_assoc,←Bool.or_assoc,←q];refine fR ?_;have B:pre.length+(r.length+1)≤5000:=by simpa using j
   have z:(pre.length:Int)<((pre++t::r).length:Int):=by simp;omega
   have V:0≤(pre.length:Int):=by omega
   have g:(out.length+(ka (iK (aR f o e) (t.toNat - e) c).1 (e:Int)).length)*32≤140737488355328∧out.length+(ka (iK (aR f o e) (t.toNat - e) c).1 (e:Int)).length≤9223372036854775807:=by rw[wh];omega
   simp only[gA,z,V,and_self,decide_true,if_true,Int.toNat_natCast,GA,E,Option.bind_some,g];rw[show IntKind.i64.wrap ((pre.length:Int)+1)=((pre.length+1:Nat):Int)from bE (by omega)];cases b <;> simp
 have A:HF o f.length 0 (gh o o.length):=by rw[vo];exact qm o _ _ (by omega)
 have X:=qq o o.length;have:=key (gh o o.length) [] 0 [] false (by simp;omega) A (by omega) J (by simp);simp only[List.nil_append,List.length_nil,Bool.false_or]at this;unfold gu;rw[parts_eq f (by omega),Option.bind_some];exact congrArg (fun x=>Option.bind x fun(u,p)=>some (u,p)) this
theorem sO.get:∀ {a n:Int} {s:XZ},sO a s n→∀i,0≤(s.getD i c0).2.2.1∧(s.getD i c0).2.2.1≤2∧0≤(s.getD i c0).2.2.2∧(s.getD i c0).2.2.2≤2
 | a,n,[],_,i=>by simp
 | a,n,x::s,h,0=>⟨h.2.2.1,h.2.2.2.1,h.2.2.2.2.1,h.2.2.2.2.2.1⟩
 | a,n,x::s,h,i+1=>by simpa using sO.get h.2.2.2.2.2.2 i
theorem PM.MO{n:Int}{p:XZ×QK}(h:PM n p)(hn:n≤4096):C5 p.1:=⟨by have:=h.len;omega,fun i=>⟨(h.Jk.get i).1,(h.Jk.get i).2.1⟩⟩
abbrev Kn:=List (QX×(XZ×Bool))
def Ko(c:Wy)(e:Kn):Prop:=∀k v,bg .str e k=some v→∀d n,Sm d n→Ip d n=k→v=iK d n c
theorem Ko.nil(c:Wy):Ko c []:=fun k v h=>by cases h
theorem wg{α:Type}(k f:QX)(x:α):∀v:List (QX×α),bg .str (cO .str v k x) f=if f=k then some x else bg .str v f
 | []=>by
  show(if eI .str k f=true then some x else none)=_;by_cases h:f=k
  ·subst h;rw[if_pos (by simp[eI]),if_pos rfl]
  ·rw[if_neg (show ¬eI .str k f=true by simpa [eI]using Ne.symm h),if_neg h];rfl
 | p::r=>by
  simp only[cO,bg];by_cases q:p.1=k
  ·rw[if_pos (show eI .str p.1 k=true by simpa [eI]using q)];simp only[bg];by_cases h:f=k
   ·subst h;rw[if_pos rfl,if_pos (by simp[eI])]
   ·have j:¬eI .str k f=true:=by simpa [eI]using Ne.symm h
    have u:¬eI .str p.1 f=true:=by rw[q];exact j
    rw[if_neg h,if_neg j,if_neg u]
  ·rw[if_neg (show ¬eI .str p.1 k=true by simpa [eI]using q)];simp only[bg];by_cases h:p.1=f
   ·have j:eI .str p.1 f=true:=by simpa [eI]using h
    have u:¬f=k:=fun e=>q (h.trans e)
    rw[if_pos j,if_neg u,if_pos j]
   ·have j:¬eI .str p.1 f=true:=by simpa [eI]using h
    rw[if_neg j,if_neg j];exact wg k f x r
theorem Ko.set{c:Wy}{q:Kn}(h:Ko c q){d:Dt}{n:Nat}(u:Sm d n):Ko c (cO .str q (Ip d n) (iK d n c)):=fun k v j z A f hk=>by
 rw[wg]at j;split at j
 ·rename_i e;cases j;obtain⟨rfl,hd⟩:=FK f u (hk.trans e);exact(Ao hd c).symm
 ·exact h k v j z A f hk
theorem xF{j:XZ}{o:QK}(c:Wy):∀ {l:QK} {e:Nat},HF o j.length e l→(∀x∈(jm j o c e l).1,Rg j.length x)∧(jm j o c e l).1.length+e≤max e j.length
 | [],e,_=>⟨fun x f=>(by cases f),by simp only[jm,List.length_nil];omega⟩
 | t::r,e,⟨v,z,p3,p4,p5⟩=>by
  obtain⟨p,A⟩:=xF c p5;have q:=AN (aR j o e) (t.toNat - e) c;refine⟨fun x f=>?_,by simp only[jm,List.length_append,wh];omega⟩;simp only[jm,List.mem_append]at f;rcases f with f | f
  ·unfold ka at f;obtain⟨y,u,rfl⟩:=List.mem_map.1 f;obtain⟨a,b,B,C,D,E⟩:=He _ _ c y u;exact⟨e+a,e+b,by simp only;omega,by simp only;omega,by omega,by omega⟩
  ·exact p x f
def LF(e:XZ)(o:QK)(c:Wy):XZ×Bool:=jm e o c 0 (gh o o.length)
def Jq(e:XZ)(o:QK)(c:Wy):(XZ×QK)×(XZ×QZ):=((e,o),(IK (LF e o c).1,KT e c.2.1 (IK (LF e o c).1)))
theorem PM.zero{n:Int}{p:XZ×QK}(h:PM n p):p.2.getD 0 0≠3:=by
 by_cases e:0<p.1.length
 ·rw[h.KW.zero e];decide
 ·have:=h.KW.last;rw[show p.1.length=0 by omega]at this;rw[this];decide
end
end Go.Proofs.YtflahpmlcfhpcaaGreatDoor.T
namespace Go.Proofs.YtflahpmlcfhpcaaGreatDoor.T
open Go Go.Tv Go.Proofs
def Ho{γ:Type}(o:Option γ)(P:γ→Prop):Prop:=∃r,o=some r∧P r
def Nm{α ε:Type}(Q:α→Prop):α⊕ε→Prop
 | .inl x=>Q x
 | .inr _=>True
def Lp{α β:Type}(J:α→Prop)(Q:β→Prop):α⊕β→Prop
 | .inl x=>J x
 | .inr x=>Q x
section
variable{α β γ ε:Type}{P:α→Prop}{R:β→Prop}
theorem ao{f:Option α}{K:α→Option β}(h:Ho f P)(k:∀r,P r→Ho (K r) R):Ho (f.bind K) R:=by
 obtain⟨r,e,j⟩:=h;rw[e];exact k r j
theorem aq{x:α}(h:P x):Ho (some x) P:=⟨x,rfl,h⟩
theorem aH{c:Prop}[Decidable c]{a b:Option α}(e:c→Ho a P)(j:¬c→Ho b P):Ho (if c then a else b) P:=by
 by_cases h:c
 ·rw[if_pos h];exact e h
 ·rw[if_neg h];exact j h
theorem aU{c:Prop}[Decidable c]{a b:Option α}(h:c)(e:Ho a P):Ho (if c then a else b) P:=by rw[if_pos h];exact e
theorem DK{f:Option α}{j:α→Prop}(h:Ho f P)(k:∀r,P r→j r):Ho f j:=let ⟨r,e,p⟩:=h;⟨r,e,k r p⟩
theorem bI{S T:Type}{j:S→Option (S⊕T)}(I:S→Prop)(p:S→Nat){Q:T→Prop}{s:S}(h:I s)(step:∀s,I s→Ho (j s) (Lp (fun y=>I y∧p y<p s) Q)):Ho (iter j s) Q:=by
 refine cW I p Q (fun s u=>?_) h;obtain⟨r,e,q⟩:=step s u;cases r with
 | inl y=>exact .inl ⟨y,e,q⟩
 | inr t=>exact .inr ⟨t,e,q⟩
theorem Me{c:Prop}[Decidable c]{a b:Option α}{K:α→Option β}(e:c→Ho (a.bind K) R)(f:¬c→Ho (b.bind K) R):Ho ((if c then a else b).bind K) R:=by
 by_cases h:c
 ·rw[if_pos h];exact e h
 ·rw[if_neg h];exact f h
end
theorem dec_lt{a b:Int}:(decide (a<b)=true)↔a<b:=decide_eq_true_iff
theorem DZ(c:Int):∀(l:QX) (k:Int),0≤k→vl l c k = -1∨(k≤vl l c k∧vl l c k<k+l.length∧(∀x r,l=x::r→(x == c.toNat.toUInt8)=false→k<vl l c k))
 | [],k,_=> .inl rfl
 | x::r,k,hk=>by
  simp only[vl];by_cases e:(x == c.toNat.toUInt8)=true
  ·rw[if_pos e];exact .inr ⟨Int.le_refl _,by simp only[List.length_cons];omega,fun y s h f=>by cases h;rw[e]at f;cases f⟩
  ·rw[if_neg e];rcases DZ c r (k+1) (by omega)with h | ⟨j,p,_⟩
   ·exact .inl h
   ·exact .inr ⟨by omega,by simp only[List.length_cons];omega,fun _ _ _ _=>by omega⟩
theorem pt(c:Int):Ho (dD c) (fun _=>True):=by
 have:∃b,dD c=some b:=by
  unfold dD
  repeat' split
  all_goals exact⟨_,rfl⟩
 obtain⟨b,e⟩:=this;exact⟨b,e,trivial⟩
theorem FB(c:Int):Ho (iC c) (fun _=>True):=by
 have:∃b,iC c=some b:=by
  unfold iC
  repeat' split
  all_goals exact⟨_,rfl⟩
 obtain⟨b,e⟩:=this;exact⟨b,e,trivial⟩
def At(t:QX)(a:Int):Prop:=0≤a∧a≤(t.length:Int)
def Lr(t:QX)(a:Int):Int:=((t.getD a.toNat 0).toNat:Int)
section
variable{t:QX}(ht:t.length≤4096){a p3 p4 p5 p6:Int}{o1:QQ}{o2:QK}{o3:XJ}{o4:XQ}
include ht
theorem nz(ha:At t a):Ho (bj t a p3 p4 p5 p6 o1 o2 o3 o4) (Nm fun(c,p)=>a≤p∧At t p∧(c≠0→p<(t.length:Int)∧c=Lr t p)):=by
 have key:Ho (iter (dK t p3 p4 p5 p6 o1 o2 o3 o4) a) (fun r=>match r with
   | .inl v=>a≤v∧At t v
   | .inr (.inl _)=>True
   | .inr (.inr (c,p))=>a≤p∧At t p∧p<(t.length:Int)∧c=Lr t p):=by
  refine bI (fun p=>a≤p∧At t p) (fun p=>(t.length - p).toNat) ⟨Int.le_refl _,ha⟩ (fun p ⟨A,u,B⟩=>?_);unfold dK;refine aH (fun hl=>?_) (fun _=>aq ⟨A,u,B⟩);rw[dec_lt]at hl;refine aU ⟨u,hl⟩ (aH (fun j=>?_) fun _=>?_)
  ·refine aU ⟨u,by omega,Int.le_refl _⟩ ?_;simp only[eV,ga,Option.bind_some];have C:(t.take ((t.length:Int)).toNat).drop p.toNat=t.getD p.toNat 0::t.drop (p.toNat+1):=by rw[Int.toNat_natCast,List.take_length,List.drop_eq_getElem_cons (by omega)];rw[List.getD_eq_getElem?_getD,List.getElem?_eq_getElem (by omega)];rfl
   have z:(t.getD p.toNat 0 == (10:Int).toNat.toUInt8)=false:=by rw[beq_eq_false_iff_ne];intro e;rw[e]at j;revert j;decide
   have hi:=DZ 10 ((t.take ((t.length:Int)).toNat).drop p.toNat) 0 (by omega);have q:(((t.take ((t.length:Int)).toNat).drop p.toNat).length:Int)=t.length - p:=by rw[Int.toNat_natCast,List.take_length,List.length_drop];omega
   rw[q]at hi;refine Me (fun hd=>?_) (fun hd=>?_)
   ·rw[dec_lt]at hd;simp only[Option.bind_some];rw[wrap_i64 (x:=(t.length:Int) - p) (by omega) (by omega),wrap_i64 (by omega) (by omega)];exact aq ⟨⟨by omega,by omega,by omega⟩,by omega⟩
   ·rw[dec_lt]at hd;rcases hi with hi | ⟨E,I,D⟩
    ·omega
    have:=D _ _ C z;simp only[Option.bind_some];rw[wrap_i64 (by omega) (by omega)];exact aq ⟨⟨by omega,by omega,by omega⟩,by omega⟩
  ·refine ao (FB _) (fun b _=>aH (fun _=>?_) fun _=>?_)
   ·rw[wrap_i64 (by omega) (by omega)];exact aq ⟨⟨by omega,by omega,by omega⟩,by omega⟩
   ·refine ao (P:=fun _=>True) (ao (pt _) fun b _=>aH (fun _=>?_) fun _=>aq trivial) (fun v _=>aH (fun _=>?_) fun _=>?_)
    ·exact⟨_,rfl,trivial⟩
    ·exact⟨_,rfl,trivial⟩
    ·exact aq ⟨A,⟨u,B⟩,hl,rfl⟩
 unfold bj;refine ao key (fun r f=>?_);match r,f with
 | .inl v,f=>exact aq ⟨f.1,f.2,fun h=>absurd rfl h⟩
 | .inr (.inl (C,J)),_=>exact⟨_,rfl,trivial⟩
 | .inr (.inr (c,p)),f=>exact aq ⟨f.1,f.2.1,fun _=>f.2.2⟩
theorem lV(ha:At t a){c:Int}(hc:c≠0):Ho (bh c t a p3 p4 p5 p6 o1 o2 o3 o4) (Nm fun(b,p)=>a≤p∧At t p∧(b=true→a<p)):=by
 refine ao (nz ht ha) ?_;rintro(⟨k,p⟩ | e) h
 ·obtain⟨q,j,u⟩:=h;refine aH (fun _=>aq ⟨q,j,fun h=>by cases h⟩) fun hk=>?_
  have f:k=c:=by simpa using hk
  have v:=(u (by rw[f];exact hc)).1;obtain⟨x,z⟩:=j;rw[wrap_i64 (by omega) (by omega)];exact aq ⟨by omega,⟨by omega,by omega⟩,fun _=>by omega⟩
 ·exact⟨_,rfl,trivial⟩
theorem pq(ha:At t a){c:Int}(hc:c≠0):Ho (bC c t a p3 p4 p5 p6 o1 o2 o3 o4) (Nm fun p=>a<p∧At t p):=by
 refine ao (lV ht ha hc) ?_;rintro(⟨b,p⟩ | e) h
 ·refine aH (fun _=>⟨_,rfl,trivial⟩) fun hb=>aq ⟨h.2.2 (by simpa using hb),h.2.1⟩
 ·exact⟨_,rfl,trivial⟩
theorem uF(ha:At t a):Ho (cf t a p3 p4 p5 p6 o1 o2 o3 o4) (Nm fun(_,_,p)=>a<p∧At t p):=by
 refine ao (nz ht ha) ?_;rintro(⟨k,p⟩ | e) h
 rotate_left
 ·exact⟨_,rfl,trivial⟩
 obtain⟨I,A,B⟩:=h;obtain⟨b,hb,_⟩:=pt k;dsimp only;rw[hb];refine aH (fun _=>⟨_,rfl,trivial⟩) fun u=>?_
 have j:b=true:=by simpa using u
 subst j;have v:k≠0:=fun e=>by rw[e]at hb;revert hb;decide
 obtain⟨J,C⟩:=B v;have key:Ho (iter (dJ t) p) (fun q=>p<q∧At t q):=by
  refine bI (fun q=>p≤q∧At t q) (fun q=>(t.length - q).toNat) ⟨Int.le_refl _,A⟩ (fun q ⟨D,g2,g3⟩=>?_);unfold dJ;refine Me (fun hl=>?_) fun hl=>?_
  ·rw[dec_lt]at hl;rw[if_pos ⟨g2,hl⟩];obtain⟨b,f,_⟩:=pt (Lr t q);show Ho (((dD (Lr t q)).bind fun x=>some x).bind _) _;rw[f];refine aH (fun _=>?_) fun z=>?_
   ·rw[wrap_i64 (by omega) (by omega)];exact aq ⟨⟨by omega,by omega,by omega⟩,by omega⟩
   ·refine aq ⟨?_,g2,g3⟩;have:p≠q:=fun e=>by subst e;rw[←C,hb]at f;cases f;exact z rfl
    omega
  ·rw[dec_lt]at hl;exact aq ⟨by omega,g2,g3⟩
 refine ao key fun q E=>?_
 obtain⟨D,g2,g3⟩:=E;have:=A.1;exact aU ⟨by omega,by omega,g3⟩ (aq ⟨by simp only;omega,g2,g3⟩)
theorem AK(ha:At t a):Ho (dn t a p3 p4 p5 p6 o1 o2 o3 o4) (Nm fun(_,p)=>a<p∧At t p):=by
 refine ao (uF ht ha) ?_;rintro(⟨w,q,p⟩ | e) h
 ·exact aH (fun _=>⟨_,rfl,trivial⟩) fun _=>aq h
 ·exact⟨_,rfl,trivial⟩
theorem AS(ha:At t a):Ho (dh t a p3 p4 p5 p6 o1 o2 o3 o4) (Nm fun(_,p)=>a<p∧At t p):=by
 refine ao (uF ht ha) ?_;rintro(⟨w,q,p⟩ | e) h
 ·exact aH (fun _=>aq h) fun _=>⟨_,rfl,trivial⟩
 ·exact⟨_,rfl,trivial⟩
theorem nD(ha:At t a){c:Int}(hc:c≠0):Ho (bJ c t a p3 p4 p5 p6 o1 o2 o3 o4) (Nm fun(_,p)=>a<p∧At t p):=by
 have key:Ho (iter (eo c t p3 p4 p5 p6 o1 o2 o3 o4) (a,0)) (Nm fun(p,_)=>a≤p∧At t p∧p<(t.length:Int)):=by
  refine bI (fun(p,_)=>a≤p∧At t p) (fun(p,_)=>(t.length - p).toNat) ⟨Int.le_refl _,ha⟩ (fun(p,b) ⟨u,f⟩=>?_);refine ao (nz ht f) ?_;rintro(⟨k,q⟩ | e) h
  ·obtain⟨A,g2,g3⟩:=h;refine aH (fun _=>?_) fun hk=>?_
   ·refine ao (AS ht g2) ?_;rintro(⟨x,r⟩ | e) h
    ·obtain⟨B,v,z⟩:=h;have:=f.2;exact aq ⟨⟨by omega,v,z⟩,by simp only;omega⟩
    ·exact⟨_,rfl,trivial⟩
   ·have j:k=c:=by simpa using hk
    exact aq ⟨by omega,g2,(g3 (by rw[j];exact hc)).1⟩
  ·exact⟨_,rfl,trivial⟩
 refine ao key ?_;rintro(⟨p,b⟩ | e) h
 ·obtain⟨u,⟨f,_⟩,C⟩:=h;dsimp only;rw[wrap_i64 (by omega) (by omega)];exact aq ⟨by omega,by omega,by omega⟩
 ·exact⟨_,rfl,trivial⟩
omit ht in
theorem FV(w:QX)(e:o1.length≤24):Ho (cS o1 w) (fun i=>i<(o1.length:Int)):=by
 have key:Ho (iter (cv o1 w) 0) (Lp (fun _=>True) fun i=>i<(o1.length:Int)):=by
  refine bI (fun i=>0≤i∧i≤(o1.length:Int)) (fun i=>(o1.length - i).toNat) ⟨by omega,by omega⟩ (fun i ⟨f,j⟩=>?_);unfold cv;refine aH (fun hl=>?_) fun _=>aq trivial
  rw[dec_lt]at hl;refine aU ⟨f,hl⟩ (aH (fun _=>aq hl) fun _=>?_);rw[wrap_i64 (by omega) (by omega)];exact aq ⟨⟨by omega,by omega⟩,by omega⟩
 refine ao key ?_;rintro(_ | i) h
 ·exact aq (by omega)
 ·exact aq h
theorem FO(ha:At t a)(f:o1.length≤24):Ho (dO t a p3 p4 p5 p6 o1 o2 o3 o4) (Nm fun(i,p)=>a<p∧At t p∧0≤i∧i<(o1.length:Int)):=by
 refine ao (uF ht ha) ?_;rintro(⟨w,q,p⟩ | e) h
 ·refine ao (FV w f) fun i hi=>aH (fun _=>⟨_,rfl,trivial⟩) fun hl=>?_
  rw[dec_lt]at hl;exact aq ⟨h.1,h.2,by omega,hi⟩
 ·exact⟨_,rfl,trivial⟩
end
end Go.Proofs.YtflahpmlcfhpcaaGreatDoor.T
