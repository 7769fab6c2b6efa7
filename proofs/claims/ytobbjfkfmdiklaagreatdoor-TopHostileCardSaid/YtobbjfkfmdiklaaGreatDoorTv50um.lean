import Derived.Test.YtobbjfkfmdiklaaGreatDoorTv50s
import Derived.Test.YtobbjfkfmdiklaaGreatDoorTvT50aa
import Derived.Test.YtobbjfkfmdiklaaGreatDoorTvSj
import Derived.Test.YtobbjfkfmdiklaaGreatDoorTvYm
namespace Go.Proofs.YtobbjfkfmdiklaaGreatDoor.T
open Go Go.Tv Go.Proofs
noncomputable section
theorem qQ{α:Type}(p:List α)(x:α)(l:List α)(d:α):(p++x::l).getD p.length d=x:=by simp[List.getD_eq_getElem?_getD]
theorem yd(d:Dt)(n:Nat)(j f:Int):∀m a,(fm d n j f m a).length≤m
 | 0,_=>by simp[fm]
 | m+1,a=>by
  have:=yd d n j f m (la d n j f a).1;simp only[fm];split
  ·simp only[List.length_cons];omega
  ·simp
theorem BU(d:Dt)(n:Nat)(f:Int)(T:Qq):∀m a,(je d n f T m a).length≤m
 | 0,_=>by simp[je]
 | m+1,a=>by
  have:=BU d n f T m (T.getD a (0,0)).2.toNat;simp only[je];split
  ·simp only[List.length_cons];omega
  ·simp
theorem AN(d:Dt)(n:Nat)(c:Wy):(gI d n c).1.length≤n:=by
 have h1:=yd d n c.1 c.2.1 n 0;have h2:=BU d n c.2.1 (dV d n c n) n 0;unfold gI pV;by_cases hm:c.2.2.1=1
 ·rw[if_pos hm];by_cases f:n=0
  ·rw[if_pos f];simp
  ·rw[if_neg f];by_cases j:((dV d n c n).getD 0 (0,0)).2<0
   ·rw[if_pos j];exact h1
   ·rw[if_neg j];exact h2
 ·rw[if_neg hm];exact h1
theorem vu(l:Qk)(b:Int):(ja l b).length=l.length:=by simp[ja]
def Rg(n:Nat)(x:bV):Prop:=∃a b:Nat,x.1=(a:Int)∧x.2.1=(b:Int)∧a<b∧b≤n
theorem xR(d:Dt)(n:Nat)(p j:Int):∀m a,∀x∈fm d n p j m a,Rg n x
 | 0,_,x,f=>by simp[fm]at f
 | m+1,a,x,f=>by
  simp only[fm]at f;split at f
  ·rename_i ha;have h:=rm d p j ha;rcases List.mem_cons.1 f with rfl | f
   ·exact⟨a,_,rfl,rfl,h.1,h.2⟩
   ·exact xR d n p j m _ x f
  ·cases f
theorem AW(d:Dt){n:Nat}(j:Int){T:Qq}(hT:∀a,a<n→0≤(T.getD a (0,0)).2→(a:Int)<(T.getD a (0,0)).2∧(T.getD a (0,0)).2≤(n:Int)∧((T.getD a (0,0)).2<(n:Int)→0≤(T.getD (T.getD a (0,0)).2.toNat (0,0)).2)):∀m a,(a<n→0≤(T.getD a (0,0)).2)→∀x∈je d n j T m a,Rg n x
 | 0,_,_,x,f=>by simp[je]at f
 | m+1,a,p,x,f=>by
  simp only[je]at f;split at f
  ·rename_i ha;obtain⟨h1,h2,q⟩:=hT a ha (p ha);rcases List.mem_cons.1 f with rfl | f
   ·exact⟨a,_,rfl,rfl,by omega,by omega⟩
   ·exact AW d j hT m _ (fun _=>q (by omega)) x f
  ·cases f
theorem Hl(d:Dt)(n:Nat)(c:Wy):∀x∈(gI d n c).1,Rg n x:=by
 have h1:=xR d n c.1 c.2.1 n 0;unfold gI pV;by_cases hm:c.2.2.1=1
 ·rw[if_pos hm];by_cases f:n=0
  ·rw[if_pos f];intro x p;cases p
  ·rw[if_neg f];by_cases j:((dV d n c n).getD 0 (0,0)).2<0
   ·rw[if_pos j];exact h1
   ·rw[if_neg j];exact AW d c.2.1 (rK d n c) n 0 (fun _=>by omega)
 ·rw[if_neg hm];exact h1
def zo(d:Dt):Nat→QK
 | 0=>[]
 | n+1=>zo d n++[(d n).1*16+(d n).2.1,(d n).2.2]
def Iu(d:Dt)(n:Nat):QX:=bytesOf (zo d n)
def Sm(d:Dt)(n:Nat):Prop:=∀j,j<n→0≤(d j).1∧(d j).1≤2∧0≤(d j).2.1∧(d j).2.1≤2∧0≤(d j).2.2∧(d j).2.2≤3
theorem ox(d:Dt):∀n,(zo d n).length=2*n
 | 0=>rfl
 | n+1=>by simp[zo,ox d n];omega
theorem zq{d:Dt}:∀ {n:Nat},Sm d n→∀x∈zo d n,0≤x∧x≤255
 | 0,_,x,f=>by cases f
 | n+1,h,x,f=>by
  obtain⟨p,q,u,v,z,A⟩:=h n (by omega);simp only[zo,List.mem_append,List.mem_cons,List.not_mem_nil,or_false]at f;rcases f with f | rfl | rfl
  ·exact zq (fun j B=>h j (by omega)) x f
  ·omega
  ·omega
theorem tK:∀ {l k:QK},(∀x∈l,0≤x∧x≤255)→(∀x∈k,0≤x∧x≤255)→bytesOf l=bytesOf k→l=k
 | [],[],_,_,_=>rfl
 | [],y::k,_,_,h=>by simp[bytesOf]at h
 | x::l,[],_,_,h=>by simp[bytesOf]at h
 | x::l,y::k,h1,h2,h=>by
  simp only[bytesOf,List.map_cons,List.cons.injEq]at h;have f:=h1 x (by simp);have j:=h2 y (by simp);have e:x=y:=by have:=congrArg UInt8.toNat h.1;simp only[UInt8.toNat_ofNat']at this;omega
  rw[e,tK (fun z hz=>h1 z (by simp[hz])) (fun z hz=>h2 z (by simp[hz])) h.2]
theorem AI{d f:Dt}:∀ {n:Nat},Sm d n→Sm f n→zo d n=zo f n→∀j,j<n→d j=f j
 | 0,_,_,_,j,p=>by omega
 | n+1,h1,h2,h,j,p=>by
  simp only[zo]at h;obtain⟨q,g2⟩:=List.append_inj h (by rw[ox,ox]);by_cases e:j=n
  ·subst e;obtain⟨u,v,x,z,A,B⟩:=h1 j (by omega);obtain⟨C,D,E,I,J,L⟩:=h2 j (by omega);simp only[List.cons.injEq,and_true]at g2;refine Prod.ext (by omega) (Prod.ext (by omega) g2.2)
  ·exact AI (fun j p=>h1 j (by omega)) (fun j p=>h2 j (by omega)) q j (by omega)
theorem Hu{d p:Dt}{n f:Nat}(h1:Sm d n)(h2:Sm p f)(h:Iu d n=Iu p f):n=f∧∀j,j<n→d j=p j:=by
 have h':=tK (zq h1) (zq h2) h;have hl:=congrArg List.length h';rw[ox,ox]at hl;obtain rfl:n=f:=by omega
 exact⟨rfl,AI h1 h2 h'⟩
def K0(j:Qk)(f:Int)(l:Qk):QZ:=l.map fun x=>oo j f x.1.toNat (x.2.1.toNat - x.1.toNat)
def I3(l:Qk):Qk:=if l=[]then[c0]else l
def nm(o:QK):Nat→Nat→QK
 | 0,_=>[]
 | m+1,k=>if o.getD k 0=2 then(k:Int)::nm o m (k+1)else nm o m (k+1)
theorem tC(o:QK):∀m k,nm o (m+1) k=nm o m k++(if o.getD (k+m) 0=2 then[((k+m:Nat):Int)]else[])
 | 0,k=>by simp only[nm];split <;> simp_all
 | m+1,k=>by
  have:=tC o m (k+1);rw[show k+1+m=k+(m+1) by omega]at this;simp only[nm]at this ⊢;rw[this];split <;> simp
theorem sa(o:QK):∀m,eT o m=nm o m 0
 | 0=>rfl
 | m+1=>by
  rw[tC,←sa o m];simp only[eT,Nat.zero_add];split <;> simp
def F7(o:QK)(m:Nat):Nat→QK→Prop
 | _,[]=>True
 | f,t::r=>f≤t.toNat∧t=(t.toNat:Int)∧t.toNat≤m∧o.getD t.toNat 0=2∧F7 o m t.toNat r
theorem F7.from{o:QK}{m:Nat}:∀ {fr f:Nat} {l:QK},f≤fr→F7 o m fr l→F7 o m f l
 | _,_,[],_,_=>trivial
 | _,_,t::r,h,hp=>⟨by have:=hp.1;omega,hp.2⟩
theorem nc(o:QK){M:Nat}:∀m k,k+m≤M+1→F7 o M k (nm o m k)
 | 0,_,_=>trivial
 | m+1,k,h=>by
  have:=nc o (M:=M) m (k+1) (by omega);simp only[nm];split
  ·rename_i f;exact⟨by simp,by simp,by simp;omega,by simpa using f,this.from (by simp)⟩
  ·exact this.from (by omega)
def iQ(j:Qk)(o:QK)(c:Wy):Nat→QK→Qk×Bool
 | _,[]=>([],false)
 | f,t::r=>(ja (gI (aN j o f) (t.toNat - f) c).1 (f:Int)++(iQ j o c t.toNat r).1,(gI (aN j o f) (t.toNat - f) c).2 || (iQ j o c t.toNat r).2)
def Cg(c:Wy):Prop:=1≤c.2.1∧c.2.1≤64
theorem Ez{p:Qk}(hc:zF p){o:QK}(q:o.length=p.length+1){c:Wy}(w:Cg c){f j:Nat}(h1:f≤j)(h2:j≤p.length)(u:o.getD f 0≠3):
  jm p o (f:Int) (j:Int) c.1 c.2.1 c.2.2.1 c.2.2.2.1 c.2.2.2.2.1 c.2.2.2.2.2=some (ja (gI (aN p o f) (j - f) c).1 (f:Int),(gI (aN p o f) (j - f) c).2):=by
 obtain⟨n,rfl⟩:∃n,j=f+n:=⟨j - f,by omega⟩;rw[Nat.add_sub_cancel_left];exact Ik hc q h2 c w.1 w.2 u
theorem w7{j:Qk}(hc:zF j){o:QK}(I:OM j.length o)(J:o.getD 0 0≠3){c:Wy}(w:Cg c):
  fB j o c.1 c.2.1 c.2.2.1 c.2.2.2.1 c.2.2.2.2.1 c.2.2.2.2.2=some (iQ j o c 0 (eT o o.length)):=by
 have hl:=hc.1;have z:=I.len;have key:∀(l pre:QK) (f:Nat) (out:Qk) (b:Bool),(pre++l).length≤5000→F7 o j.length f l→f≤j.length→o.getD f 0≠3→out.length≤f →
   iter (gf j o c.1 c.2.1 c.2.2.1 c.2.2.2.1 c.2.2.2.2.1 c.2.2.2.2.2 (pre++l)) (out,b,(f:Int),(pre.length:Int))=some (out++(iQ j o c f l).1,b || (iQ j o c f l).2):=fun l=>by
  induction l with
  | nil =>
   intro pre f out b p _ _ _ _;have A:¬((pre.length:Int)<(pre.length:Int)):=Int.lt_irrefl _;rw[List.append_nil];exact cr (by simp only[gf,A,decide_false,Bool.false_eq_true,if_false,iQ,List.append_nil,Bool.or_false])
  | cons t r L =>
   intro pre f out b p hp M N hout;obtain⟨O,C,p3,p4,p5⟩:=hp;have D:=AN (aN j o f) (t.toNat - f) c;have E:=Ez hc z w O p3 N;rw[←C]at E;have u:=L (pre++[t]) t.toNat (out++ja (gI (aN j o f) (t.toNat - f) c).1 (f:Int)) (b || (gI (aN j o f) (t.toNat - f) c).2) (by simpa using p) p5 p3 (by rw[p4];decide) (by rw[List.length_append,vu];omega);rw[List.append_assoc,←C]at u;simp only[List.singleton_append,List.length_append,List.length_singleton]at u;simp only[iQ];rw[←List.append_assoc,←Bool.or_assoc,←u];refine dO ?_;have B:pre.length+(r.length+1)≤5000:=by simpa using p
   have A:(pre.length:Int)<((pre++t::r).length:Int):=by simp;omega
   have V:0≤(pre.length:Int):=by omega
   have g:(out.length+(ja (gI (aN j o f) (t.toNat - f) c).1 (f:Int)).length)*32≤140737488355328∧out.length+(ja (gI (aN j o f) (t.toNat - f) c).1 (f:Int)).length≤9223372036854775807:=by rw[vu];omega
   simp only[gf,A,V,and_self,decide_true,if_true,Int.toNat_natCast,qQ,E,Option.bind_some,g];rw[show IntKind.i64.wrap ((pre.length:Int)+1)=((pre.length+1:Nat):Int)from bF (by omega)];cases b <;> simp
 have hp:F7 o j.length 0 (eT o o.length):=by rw[sa];exact nc o _ _ (by omega)
 have X:=qp o o.length;have:=key (eT o o.length) [] 0 [] false (by simp;omega) hp (by omega) J (by simp);simp only[List.nil_append,List.length_nil,Bool.false_or]at this;unfold fB;rw[parts_eq j (by omega),Option.bind_some];exact congrArg (fun x=>Option.bind x fun(v,q)=>some (v,q)) this
theorem pK.get:∀ {a n:Int} {s:Qk},pK a s n→∀i,0≤(s.getD i c0).2.2.1∧(s.getD i c0).2.2.1≤2∧0≤(s.getD i c0).2.2.2∧(s.getD i c0).2.2.2≤2
 | a,n,[],_,i=>by simp
 | a,n,x::s,h,0=>⟨h.2.2.1,h.2.2.2.1,h.2.2.2.2.1,h.2.2.2.2.2.1⟩
 | a,n,x::s,h,i+1=>by simpa using pK.get h.2.2.2.2.2.2 i
theorem PM.MA{n:Int}{p:Qk×QK}(h:PM n p)(hn:n≤4096):zF p.1:=⟨by have:=h.len;omega,fun i=>⟨(h.Jj.get i).1,(h.Jj.get i).2.1⟩⟩
abbrev Kn:=List (QX×(Qk×Bool))
def Kx(c:Wy)(f:Kn):Prop:=∀k v,bj .str f k=some v→∀d n,Sm d n→Iu d n=k→v=gI d n c
theorem Kx.nil(c:Wy):Kx c []:=fun k v h=>by cases h
theorem uN{α:Type}(k f:QX)(x:α):∀j:List (QX×α),bj .str (cI .str j k x) f=if f=k then some x else bj .str j f
 | []=>by
  show(if ez .str k f=true then some x else none)=_;by_cases h:f=k
  ·subst h;rw[if_pos (by simp[ez]),if_pos rfl]
  ·rw[if_neg (show ¬ez .str k f=true by simpa [ez]using Ne.symm h),if_neg h];rfl
 | p::r=>by
  simp only[cI,bj];by_cases hp:p.1=k
  ·rw[if_pos (show ez .str p.1 k=true by simpa [ez]using hp)];simp only[bj];by_cases h:f=k
   ·subst h;rw[if_pos rfl,if_pos (by simp[ez])]
   ·have h1:¬ez .str k f=true:=by simpa [ez]using Ne.symm h
    have h2:¬ez .str p.1 f=true:=by rw[hp];exact h1
    rw[if_neg h,if_neg h1,if_neg h2]
  ·rw[if_neg (show ¬ez .str p.1 k=true by simpa [ez]using hp)];simp only[bj];by_cases h:p.1=f
   ·have h1:ez .str p.1 f=true:=by simpa [ez]using h
    have h2:¬f=k:=fun e=>hp (h.trans e)
    rw[if_pos h1,if_neg h2,if_pos h1]
   ·have h1:¬ez .str p.1 f=true:=by simpa [ez]using h
    rw[if_neg h1,if_neg h1];exact uN k f x r
theorem Kx.set{c:Wy}{q:Kn}(h:Kx c q){d:Dt}{n:Nat}(u:Sm d n):Kx c (cI .str q (Iu d n) (gI d n c)):=fun k v j z A f hk=>by
 rw[uN]at j;split at j
 ·rename_i e;cases j;obtain⟨rfl,hd⟩:=Hu f u (hk.trans e);exact(BP hd c).symm
 ·exact h k v j z A f hk
theorem yi{p:Qk}{o:QK}(c:Wy):∀ {l:QK} {f:Nat},F7 o p.length f l→(∀x∈(iQ p o c f l).1,Rg p.length x)∧(iQ p o c f l).1.length+f≤max f p.length
 | [],f,_=>⟨fun x j=>(by cases j),by simp only[iQ,List.length_nil];omega⟩
 | t::r,f,⟨v,z,p3,p4,p5⟩=>by
  obtain⟨h1,h2⟩:=yi c p5;have q:=AN (aN p o f) (t.toNat - f) c;refine⟨fun x j=>?_,by simp only[iQ,List.length_append,vu];omega⟩;simp only[iQ,List.mem_append]at j;rcases j with j | j
  ·unfold ja at j;obtain⟨y,u,rfl⟩:=List.mem_map.1 j;obtain⟨a,b,A,B,C,D⟩:=Hl _ _ c y u;exact⟨f+a,f+b,by simp only;omega,by simp only;omega,by omega,by omega⟩
  ·exact h1 x j
def LF(cl:Qk)(o:QK)(c:Wy):Qk×Bool:=iQ cl o c 0 (eT o o.length)
def JK(f:Qk)(o:QK)(c:Wy):(Qk×QK)×(Qk×QZ):=((f,o),(I3 (LF f o c).1,K0 f c.2.1 (I3 (LF f o c).1)))
theorem PM.zero{n:Int}{p:Qk×QK}(h:PM n p):p.2.getD 0 0≠3:=by
 by_cases f:0<p.1.length
 ·rw[h.Ji.zero f];decide
 ·have:=h.Ji.last;rw[show p.1.length=0 by omega]at this;rw[this];decide
end
end Go.Proofs.YtobbjfkfmdiklaaGreatDoor.T
namespace Go.Proofs.YtobbjfkfmdiklaaGreatDoor.T
open Go Go.Tv Go.Proofs
def Ho{γ:Type}(o:Option γ)(P:γ→Prop):Prop:=∃r,o=some r∧P r
def Nm{α ε:Type}(Q:α→Prop):α⊕ε→Prop
 | .inl x=>Q x
 | .inr _=>True
def Lp{α β:Type}(J:α→Prop)(Q:β→Prop):α⊕β→Prop
 | .inl x=>J x
 | .inr x=>Q x
section
variable{α β γ ε:Type}{P:α→Prop}{R:β→Prop}
theorem ao{f:Option α}{K:α→Option β}(h:Ho f P)(k:∀r,P r→Ho (K r) R):Ho (f.bind K) R:=by
 obtain⟨r,e,hp⟩:=h;rw[e];exact k r hp
theorem aq{x:α}(h:P x):Ho (some x) P:=⟨x,rfl,h⟩
theorem aH{c:Prop}[Decidable c]{a b:Option α}(h1:c→Ho a P)(h2:¬c→Ho b P):Ho (if c then a else b) P:=by
 by_cases h:c
 ·rw[if_pos h];exact h1 h
 ·rw[if_neg h];exact h2 h
theorem aU{c:Prop}[Decidable c]{a b:Option α}(h:c)(h1:Ho a P):Ho (if c then a else b) P:=by rw[if_pos h];exact h1
theorem Ea{f:Option α}{j:α→Prop}(h:Ho f P)(k:∀r,P r→j r):Ho f j:=let ⟨r,e,hp⟩:=h;⟨r,e,k r hp⟩
theorem bH{S T:Type}{j:S→Option (S⊕T)}(I:S→Prop)(p:S→Nat){Q:T→Prop}{s:S}(h:I s)(step:∀s,I s→Ho (j s) (Lp (fun y=>I y∧p y<p s) Q)):Ho (iter j s) Q:=by
 refine dP I p Q (fun s u=>?_) h;obtain⟨r,e,q⟩:=step s u;cases r with
 | inl y=>exact .inl ⟨y,e,q⟩
 | inr t=>exact .inr ⟨t,e,q⟩
theorem MD{c:Prop}[Decidable c]{a b:Option α}{K:α→Option β}(h1:c→Ho (a.bind K) R)(h2:¬c→Ho (b.bind K) R):Ho ((if c then a else b).bind K) R:=by
 by_cases h:c
 ·rw[if_pos h];exact h1 h
 ·rw[if_neg h];exact h2 h
end
theorem dec_lt{a b:Int}:(decide (a<b)=true)↔a<b:=decide_eq_true_iff
theorem D6(c:Int):∀(l:QX) (k:Int),0≤k→wF l c k = -1∨(k≤wF l c k∧wF l c k<k+l.length∧(∀x r,l=x::r→(x == c.toNat.toUInt8)=false→k<wF l c k))
 | [],k,_=> .inl rfl
 | x::r,k,hk=>by
  simp only[wF];by_cases e:(x == c.toNat.toUInt8)=true
  ·rw[if_pos e];exact .inr ⟨Int.le_refl _,by simp only[List.length_cons];omega,fun y s h f=>by cases h;rw[e]at f;cases f⟩
  ·rw[if_neg e];rcases D6 c r (k+1) (by omega)with h | ⟨h1,h2,_⟩
   ·exact .inl h
   ·exact .inr ⟨by omega,by simp only[List.length_cons];omega,fun _ _ _ _=>by omega⟩
theorem py(c:Int):Ho (dn c) (fun _=>True):=by
 have:∃b,dn c=some b:=by
  unfold dn
  repeat' split
  all_goals exact⟨_,rfl⟩
 obtain⟨b,e⟩:=this;exact⟨b,e,trivial⟩
theorem Fv(c:Int):Ho (ir c) (fun _=>True):=by
 have:∃b,ir c=some b:=by
  unfold ir
  repeat' split
  all_goals exact⟨_,rfl⟩
 obtain⟨b,e⟩:=this;exact⟨b,e,trivial⟩
def At(t:QX)(a:Int):Prop:=0≤a∧a≤(t.length:Int)
def LG(t:QX)(a:Int):Int:=((t.getD a.toNat 0).toNat:Int)
section
variable{t:QX}(ht:t.length≤4096){a p3 p4 p5 p6:Int}{o1:QQ}{o2:QK}{o3:XJ}{o4:XX}
include ht
theorem nz(ha:At t a):Ho (bh t a p3 p4 p5 p6 o1 o2 o3 o4) (Nm fun(c,p)=>a≤p∧At t p∧(c≠0→p<(t.length:Int)∧c=LG t p)):=by
 have key:Ho (iter (dA t p3 p4 p5 p6 o1 o2 o3 o4) a) (fun r=>match r with
   | .inl v=>a≤v∧At t v
   | .inr (.inl _)=>True
   | .inr (.inr (c,p))=>a≤p∧At t p∧p<(t.length:Int)∧c=LG t p):=by
  refine bH (fun p=>a≤p∧At t p) (fun p=>(t.length - p).toNat) ⟨Int.le_refl _,ha⟩ (fun p ⟨h1,h2,z⟩=>?_);unfold dA;refine aH (fun hl=>?_) (fun _=>aq ⟨h1,h2,z⟩);rw[dec_lt]at hl;refine aU ⟨h2,hl⟩ (aH (fun j=>?_) fun _=>?_)
  ·refine aU ⟨h2,by omega,Int.le_refl _⟩ ?_;simp only[eS,fT,Option.bind_some];have A:(t.take ((t.length:Int)).toNat).drop p.toNat=t.getD p.toNat 0::t.drop (p.toNat+1):=by rw[Int.toNat_natCast,List.take_length,List.drop_eq_getElem_cons (by omega)];rw[List.getD_eq_getElem?_getD,List.getElem?_eq_getElem (by omega)];rfl
   have u:(t.getD p.toNat 0 == (10:Int).toNat.toUInt8)=false:=by rw[beq_eq_false_iff_ne];intro e;rw[e]at j;revert j;decide
   have hi:=D6 10 ((t.take ((t.length:Int)).toNat).drop p.toNat) 0 (by omega);have q:(((t.take ((t.length:Int)).toNat).drop p.toNat).length:Int)=t.length - p:=by rw[Int.toNat_natCast,List.take_length,List.length_drop];omega
   rw[q]at hi;refine MD (fun hd=>?_) (fun hd=>?_)
   ·rw[dec_lt]at hd;simp only[Option.bind_some];rw[wrap_i64 (x:=(t.length:Int) - p) (by omega) (by omega),wrap_i64 (by omega) (by omega)];exact aq ⟨⟨by omega,by omega,by omega⟩,by omega⟩
   ·rw[dec_lt]at hd;rcases hi with hi | ⟨C,D,B⟩
    ·omega
    have:=B _ _ A u;simp only[Option.bind_some];rw[wrap_i64 (by omega) (by omega)];exact aq ⟨⟨by omega,by omega,by omega⟩,by omega⟩
  ·refine ao (Fv _) (fun b _=>aH (fun _=>?_) fun _=>?_)
   ·rw[wrap_i64 (by omega) (by omega)];exact aq ⟨⟨by omega,by omega,by omega⟩,by omega⟩
   ·refine ao (P:=fun _=>True) (ao (py _) fun b _=>aH (fun _=>?_) fun _=>aq trivial) (fun v _=>aH (fun _=>?_) fun _=>?_)
    ·exact⟨_,rfl,trivial⟩
    ·exact⟨_,rfl,trivial⟩
    ·exact aq ⟨h1,⟨h2,z⟩,hl,rfl⟩
 unfold bh;refine ao key (fun r f=>?_);match r,f with
 | .inl v,f=>exact aq ⟨f.1,f.2,fun h=>absurd rfl h⟩
 | .inr (.inl (A,E)),_=>exact⟨_,rfl,trivial⟩
 | .inr (.inr (c,p)),f=>exact aq ⟨f.1,f.2.1,fun _=>f.2.2⟩
theorem lL(ha:At t a){c:Int}(hc:c≠0):Ho (bg c t a p3 p4 p5 p6 o1 o2 o3 o4) (Nm fun(b,p)=>a≤p∧At t p∧(b=true→a<p)):=by
 refine ao (nz ht ha) ?_;rintro(⟨k,p⟩ | e) h
 ·obtain⟨h1,h2,j⟩:=h;refine aH (fun _=>aq ⟨h1,h2,fun h=>by cases h⟩) fun hk=>?_
  have f:k=c:=by simpa using hk
  have q:=(j (by rw[f];exact hc)).1;obtain⟨u,v⟩:=h2;rw[wrap_i64 (by omega) (by omega)];exact aq ⟨by omega,⟨by omega,by omega⟩,fun _=>by omega⟩
 ·exact⟨_,rfl,trivial⟩
theorem pE(ha:At t a){c:Int}(hc:c≠0):Ho (bE c t a p3 p4 p5 p6 o1 o2 o3 o4) (Nm fun p=>a<p∧At t p):=by
 refine ao (lL ht ha hc) ?_;rintro(⟨b,p⟩ | e) h
 ·refine aH (fun _=>⟨_,rfl,trivial⟩) fun hb=>aq ⟨h.2.2 (by simpa using hb),h.2.1⟩
 ·exact⟨_,rfl,trivial⟩
theorem uG(ha:At t a):Ho (bZ t a p3 p4 p5 p6 o1 o2 o3 o4) (Nm fun(_,_,p)=>a<p∧At t p):=by
 refine ao (nz ht ha) ?_;rintro(⟨k,p⟩ | e) h
 rotate_left
 ·exact⟨_,rfl,trivial⟩
 obtain⟨h1,h2,A⟩:=h;obtain⟨b,hb,_⟩:=py k;dsimp only;rw[hb];refine aH (fun _=>⟨_,rfl,trivial⟩) fun u=>?_
 have j:b=true:=by simpa using u
 subst j;have v:k≠0:=fun e=>by rw[e]at hb;revert hb;decide
 obtain⟨E,B⟩:=A v;have key:Ho (iter (dz t) p) (fun q=>p<q∧At t q):=by
  refine bH (fun q=>p≤q∧At t q) (fun q=>(t.length - q).toNat) ⟨Int.le_refl _,h2⟩ (fun q ⟨C,g2,g3⟩=>?_);unfold dz;refine MD (fun hl=>?_) fun hl=>?_
  ·rw[dec_lt]at hl;rw[if_pos ⟨g2,hl⟩];obtain⟨b,f,_⟩:=py (LG t q);show Ho (((dn (LG t q)).bind fun x=>some x).bind _) _;rw[f];refine aH (fun _=>?_) fun z=>?_
   ·rw[wrap_i64 (by omega) (by omega)];exact aq ⟨⟨by omega,by omega,by omega⟩,by omega⟩
   ·refine aq ⟨?_,g2,g3⟩;have:p≠q:=fun e=>by subst e;rw[←B,hb]at f;cases f;exact z rfl
    omega
  ·rw[dec_lt]at hl;exact aq ⟨by omega,g2,g3⟩
 refine ao key fun q D=>?_
 obtain⟨C,g2,g3⟩:=D;have:=h2.1;exact aU ⟨by omega,by omega,g3⟩ (aq ⟨by simp only;omega,g2,g3⟩)
theorem A2(ha:At t a):Ho (cX t a p3 p4 p5 p6 o1 o2 o3 o4) (Nm fun(_,p)=>a<p∧At t p):=by
 refine ao (uG ht ha) ?_;rintro(⟨w,q,p⟩ | e) h
 ·exact aH (fun _=>⟨_,rfl,trivial⟩) fun _=>aq h
 ·exact⟨_,rfl,trivial⟩
theorem Ay(ha:At t a):Ho (cW t a p3 p4 p5 p6 o1 o2 o3 o4) (Nm fun(_,p)=>a<p∧At t p):=by
 refine ao (uG ht ha) ?_;rintro(⟨w,q,p⟩ | e) h
 ·exact aH (fun _=>aq h) fun _=>⟨_,rfl,trivial⟩
 ·exact⟨_,rfl,trivial⟩
theorem nJ(ha:At t a){c:Int}(hc:c≠0):Ho (bI c t a p3 p4 p5 p6 o1 o2 o3 o4) (Nm fun(_,p)=>a<p∧At t p):=by
 have key:Ho (iter (dU c t p3 p4 p5 p6 o1 o2 o3 o4) (a,0)) (Nm fun(p,_)=>a≤p∧At t p∧p<(t.length:Int)):=by
  refine bH (fun(p,_)=>a≤p∧At t p) (fun(p,_)=>(t.length - p).toNat) ⟨Int.le_refl _,ha⟩ (fun(p,b) ⟨h1,h2⟩=>?_);refine ao (nz ht h2) ?_;rintro(⟨k,q⟩ | e) h
  ·obtain⟨v,g2,g3⟩:=h;refine aH (fun _=>?_) fun hk=>?_
   ·refine ao (Ay ht g2) ?_;rintro(⟨x,r⟩ | e) h
    ·obtain⟨z,j,u⟩:=h;have:=h2.2;exact aq ⟨⟨by omega,j,u⟩,by simp only;omega⟩
    ·exact⟨_,rfl,trivial⟩
   ·have f:k=c:=by simpa using hk
    exact aq ⟨by omega,g2,(g3 (by rw[f];exact hc)).1⟩
  ·exact⟨_,rfl,trivial⟩
 refine ao key ?_;rintro(⟨p,b⟩ | e) h
 ·obtain⟨h1,⟨h2,_⟩,A⟩:=h;dsimp only;rw[wrap_i64 (by omega) (by omega)];exact aq ⟨by omega,by omega,by omega⟩
 ·exact⟨_,rfl,trivial⟩
omit ht in
theorem Hp(w:QX)(f:o1.length≤24):Ho (cN o1 w) (fun i=>i<(o1.length:Int)):=by
 have key:Ho (iter (cq o1 w) 0) (Lp (fun _=>True) fun i=>i<(o1.length:Int)):=by
  refine bH (fun i=>0≤i∧i≤(o1.length:Int)) (fun i=>(o1.length - i).toNat) ⟨by omega,by omega⟩ (fun i ⟨h1,h2⟩=>?_);unfold cq;refine aH (fun hl=>?_) fun _=>aq trivial
  rw[dec_lt]at hl;refine aU ⟨h1,hl⟩ (aH (fun _=>aq hl) fun _=>?_);rw[wrap_i64 (by omega) (by omega)];exact aq ⟨⟨by omega,by omega⟩,by omega⟩
 refine ao key ?_;rintro(_ | i) h
 ·exact aq (by omega)
 ·exact aq h
theorem Hf(ha:At t a)(f:o1.length≤24):Ho (dE t a p3 p4 p5 p6 o1 o2 o3 o4) (Nm fun(i,p)=>a<p∧At t p∧0≤i∧i<(o1.length:Int)):=by
 refine ao (uG ht ha) ?_;rintro(⟨w,q,p⟩ | e) h
 ·refine ao (Hp w f) fun i hi=>aH (fun _=>⟨_,rfl,trivial⟩) fun hl=>?_
  rw[dec_lt]at hl;exact aq ⟨h.1,h.2,by omega,hi⟩
 ·exact⟨_,rfl,trivial⟩
end
end Go.Proofs.YtobbjfkfmdiklaaGreatDoor.T
