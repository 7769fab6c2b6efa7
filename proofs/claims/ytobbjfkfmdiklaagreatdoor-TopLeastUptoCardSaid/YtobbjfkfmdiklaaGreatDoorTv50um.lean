import Derived.Test.YtobbjfkfmdiklaaGreatDoorTv50s
import Derived.Test.YtobbjfkfmdiklaaGreatDoorTvT50aa
import Derived.Test.YtobbjfkfmdiklaaGreatDoorTvSj
import Derived.Test.YtobbjfkfmdiklaaGreatDoorTvYm
namespace Go.Proofs.YtobbjfkfmdiklaaGreatDoor.T
open Go Go.Tv Go.Proofs
noncomputable section
theorem wh{α:Type}(p:List α)(x:α)(l:List α)(d:α):(p++x::l).getD p.length d=x:=by simp[List.getD_eq_getElem?_getD]
theorem yQ(d:Dt)(n:Nat)(j f:Int):∀m a,(fx d n j f m a).length≤m
 | 0,_=>by simp[fx]
 | m+1,a=>by
  have:=yQ d n j f m (lJ d n j f a).1;simp only[fx];split
  ·simp only[List.length_cons];omega
  ·simp
theorem Cf(d:Dt)(n:Nat)(f:Int)(T:Qq):∀m a,(gT d n f T m a).length≤m
 | 0,_=>by simp[gT]
 | m+1,a=>by
  have:=Cf d n f T m (T.getD a (0,0)).2.toNat;simp only[gT];split
  ·simp only[List.length_cons];omega
  ·simp
theorem A0(d:Dt)(n:Nat)(c:Wy):(cV d n c).1.length≤n:=by
 have h1:=yQ d n c.1 c.2.1 n 0;have h2:=Cf d n c.2.1 (cZ d n c n) n 0;unfold cV iP;by_cases hm:c.2.2.1=1
 ·rw[if_pos hm];by_cases f:n=0
  ·rw[if_pos f];simp
  ·rw[if_neg f];by_cases j:((cZ d n c n).getD 0 (0,0)).2<0
   ·rw[if_pos j];exact h1
   ·rw[if_neg j];exact h2
 ·rw[if_neg hm];exact h1
theorem wB(l:Qw)(b:Int):(gI l b).length=l.length:=by simp[gI]
def Rg(n:Nat)(x:bK):Prop:=∃a b:Nat,x.1=(a:Int)∧x.2.1=(b:Int)∧a<b∧b≤n
theorem yS(d:Dt)(n:Nat)(p j:Int):∀m a,∀x∈fx d n p j m a,Rg n x
 | 0,_,x,f=>by simp[fx]at f
 | m+1,a,x,f=>by
  simp only[fx]at f;split at f
  ·rename_i ha;have h:=sn d p j ha;rcases List.mem_cons.1 f with rfl | f
   ·exact⟨a,_,rfl,rfl,h.1,h.2⟩
   ·exact yS d n p j m _ x f
  ·cases f
theorem A7(d:Dt){n:Nat}(j:Int){T:Qq}(hT:∀a,a<n→0≤(T.getD a (0,0)).2→(a:Int)<(T.getD a (0,0)).2∧(T.getD a (0,0)).2≤(n:Int)∧((T.getD a (0,0)).2<(n:Int)→0≤(T.getD (T.getD a (0,0)).2.toNat (0,0)).2)):∀m a,(a<n→0≤(T.getD a (0,0)).2)→∀x∈gT d n j T m a,Rg n x
 | 0,_,_,x,f=>by simp[gT]at f
 | m+1,a,p,x,f=>by
  simp only[gT]at f;split at f
  ·rename_i ha;obtain⟨h1,h2,q⟩:=hT a ha (p ha);rcases List.mem_cons.1 f with rfl | f
   ·exact⟨a,_,rfl,rfl,by omega,by omega⟩
   ·exact A7 d j hT m _ (fun _=>q (by omega)) x f
  ·cases f
theorem CA(d:Dt)(n:Nat)(c:Wy):∀x∈(cV d n c).1,Rg n x:=by
 have h1:=yS d n c.1 c.2.1 n 0;unfold cV iP;by_cases hm:c.2.2.1=1
 ·rw[if_pos hm];by_cases f:n=0
  ·rw[if_pos f];intro x p;cases p
  ·rw[if_neg f];by_cases j:((cZ d n c n).getD 0 (0,0)).2<0
   ·rw[if_pos j];exact h1
   ·rw[if_neg j];exact A7 d c.2.1 (rK d n c) n 0 (fun _=>by omega)
 ·rw[if_neg hm];exact h1
def zv(d:Dt):Nat→QK
 | 0=>[]
 | n+1=>zv d n++[(d n).1*16+(d n).2.1,(d n).2.2]
def IX(d:Dt)(n:Nat):QX:=bytesOf (zv d n)
def Sm(d:Dt)(n:Nat):Prop:=∀j,j<n→0≤(d j).1∧(d j).1≤2∧0≤(d j).2.1∧(d j).2.1≤2∧0≤(d j).2.2∧(d j).2.2≤3
theorem oZ(d:Dt):∀n,(zv d n).length=2*n
 | 0=>rfl
 | n+1=>by simp[zv,oZ d n];omega
theorem zw{d:Dt}:∀ {n:Nat},Sm d n→∀x∈zv d n,0≤x∧x≤255
 | 0,_,x,f=>by cases f
 | n+1,h,x,f=>by
  obtain⟨p,q,u,v,z,A⟩:=h n (by omega);simp only[zv,List.mem_append,List.mem_cons,List.not_mem_nil,or_false]at f;rcases f with f | rfl | rfl
  ·exact zw (fun j B=>h j (by omega)) x f
  ·omega
  ·omega
theorem ub:∀ {l k:QK},(∀x∈l,0≤x∧x≤255)→(∀x∈k,0≤x∧x≤255)→bytesOf l=bytesOf k→l=k
 | [],[],_,_,_=>rfl
 | [],y::k,_,_,h=>by simp[bytesOf]at h
 | x::l,[],_,_,h=>by simp[bytesOf]at h
 | x::l,y::k,h1,h2,h=>by
  simp only[bytesOf,List.map_cons,List.cons.injEq]at h;have f:=h1 x (by simp);have j:=h2 y (by simp);have e:x=y:=by have:=congrArg UInt8.toNat h.1;simp only[UInt8.toNat_ofNat']at this;omega
  rw[e,ub (fun z hz=>h1 z (by simp[hz])) (fun z hz=>h2 z (by simp[hz])) h.2]
theorem BJ{d f:Dt}:∀ {n:Nat},Sm d n→Sm f n→zv d n=zv f n→∀j,j<n→d j=f j
 | 0,_,_,_,j,p=>by omega
 | n+1,h1,h2,h,j,p=>by
  simp only[zv]at h;obtain⟨q,g2⟩:=List.append_inj h (by rw[oZ,oZ]);by_cases e:j=n
  ·subst e;obtain⟨u,v,x,z,A,B⟩:=h1 j (by omega);obtain⟨C,D,E,I,J,L⟩:=h2 j (by omega);simp only[List.cons.injEq,and_true]at g2;refine Prod.ext (by omega) (Prod.ext (by omega) g2.2)
  ·exact BJ (fun j p=>h1 j (by omega)) (fun j p=>h2 j (by omega)) q j (by omega)
theorem He{d p:Dt}{n f:Nat}(h1:Sm d n)(h2:Sm p f)(h:IX d n=IX p f):n=f∧∀j,j<n→d j=p j:=by
 have h':=ub (zw h1) (zw h2) h;have hl:=congrArg List.length h';rw[oZ,oZ]at hl;obtain rfl:n=f:=by omega
 exact⟨rfl,BJ h1 h2 h'⟩
def Ly(cl:Qw)(f:Int)(l:Qw):QZ:=l.map fun x=>pe cl f x.1.toNat (x.2.1.toNat - x.1.toNat)
def JX(l:Qw):Qw:=if l=[]then[c0]else l
def ga(o:QK):Nat→Nat→QK
 | 0,_=>[]
 | m+1,k=>if o.getD k 0=2 then(k:Int)::ga o m (k+1)else ga o m (k+1)
theorem uk(o:QK):∀m k,ga o (m+1) k=ga o m k++(if o.getD (k+m) 0=2 then[((k+m:Nat):Int)]else[])
 | 0,k=>by simp only[ga];split <;> simp_all
 | m+1,k=>by
  have:=uk o m (k+1);rw[show k+1+m=k+(m+1) by omega]at this;simp only[ga]at this ⊢;rw[this];split <;> simp
theorem rF(o:QK):∀m,gh o m=ga o m 0
 | 0=>rfl
 | m+1=>by
  rw[uk,←rF o m];simp only[gh,Nat.zero_add];split <;> simp
def I4(o:QK)(m:Nat):Nat→QK→Prop
 | _,[]=>True
 | f,t::r=>f≤t.toNat∧t=(t.toNat:Int)∧t.toNat≤m∧o.getD t.toNat 0=2∧I4 o m t.toNat r
theorem I4.from{o:QK}{m:Nat}:∀ {fr f:Nat} {l:QK},f≤fr→I4 o m fr l→I4 o m f l
 | _,_,[],_,_=>trivial
 | _,_,t::r,h,hp=>⟨by have:=hp.1;omega,hp.2⟩
theorem qv(o:QK){M:Nat}:∀m k,k+m≤M+1→I4 o M k (ga o m k)
 | 0,_,_=>trivial
 | m+1,k,h=>by
  have:=qv o (M:=M) m (k+1) (by omega);simp only[ga];split
  ·rename_i f;exact⟨by simp,by simp,by simp;omega,by simpa using f,this.from (by simp)⟩
  ·exact this.from (by omega)
def eZ(cl:Qw)(o:QK)(c:Wy):Nat→QK→Qw×Bool
 | _,[]=>([],false)
 | fr,t::r=>(gI (cV (aH cl o fr) (t.toNat - fr) c).1 (fr:Int)++(eZ cl o c t.toNat r).1,(cV (aH cl o fr) (t.toNat - fr) c).2 || (eZ cl o c t.toNat r).2)
def vP(c:Wy):Prop:=1≤c.2.1∧c.2.1≤64
theorem EV{cl:Qw}(hc:uT cl){o:QK}(ho:o.length=cl.length+1){c:Wy}(w:vP c){f j:Nat}(h1:f≤j)(h2:j≤cl.length)(p:o.getD f 0≠3):
  jL cl o (f:Int) (j:Int) c.1 c.2.1 c.2.2.1 c.2.2.2.1 c.2.2.2.2.1 c.2.2.2.2.2=some (gI (cV (aH cl o f) (j - f) c).1 (f:Int),(cV (aH cl o f) (j - f) c).2):=by
 obtain⟨n,rfl⟩:∃n,j=f+n:=⟨j - f,by omega⟩;rw[Nat.add_sub_cancel_left];exact II hc ho h2 c w.1 w.2 p
theorem xj{cl:Qw}(hc:uT cl){o:QK}(ho:OM cl.length o)(E:o.getD 0 0≠3){c:Wy}(w:vP c):
  fG cl o c.1 c.2.1 c.2.2.1 c.2.2.2.1 c.2.2.2.2.1 c.2.2.2.2.2=some (eZ cl o c 0 (gh o o.length)):=by
 have hl:=hc.1;have v:=ho.len;have key:∀(l pre:QK) (f:Nat) (out:Qw) (b:Bool),(pre++l).length≤5000→I4 o cl.length f l→f≤cl.length→o.getD f 0≠3→out.length≤f →
   iter (gv cl o c.1 c.2.1 c.2.2.1 c.2.2.2.1 c.2.2.2.2.1 c.2.2.2.2.2 (pre++l)) (out,b,(f:Int),(pre.length:Int))=some (out++(eZ cl o c f l).1,b || (eZ cl o c f l).2):=fun l=>by
  induction l with
  | nil =>
   intro pre f out b j _ _ _ _;have z:¬((pre.length:Int)<(pre.length:Int)):=Int.lt_irrefl _;rw[List.append_nil];exact cR (by simp only[gv,z,decide_false,Bool.false_eq_true,if_false,eZ,List.append_nil,Bool.or_false])
  | cons t r I =>
   intro pre f out b j hp J L hout;obtain⟨M,B,p3,p4,p5⟩:=hp;have C:=A0 (aH cl o f) (t.toNat - f) c;have D:=EV hc v w M p3 L;rw[←B]at D;have q:=I (pre++[t]) t.toNat (out++gI (cV (aH cl o f) (t.toNat - f) c).1 (f:Int)) (b || (cV (aH cl o f) (t.toNat - f) c).2) (by simpa using j) p5 p3 (by rw[p4];decide) (by rw[List.length_append,wB];omega);rw[List.append_assoc,←B]at q;simp only[List.singleton_append,List.length_append,List.length_singleton]at q;simp only[eZ];rw[←List.append_assoc,←Bool.or_assoc,←q];refine fm ?_;have A:pre.length+(r.length+1)≤5000:=by simpa using j
   have z:(pre.length:Int)<((pre++t::r).length:Int):=by simp;omega
   have N:0≤(pre.length:Int):=by omega
   have g:(out.length+(gI (cV (aH cl o f) (t.toNat - f) c).1 (f:Int)).length)*32≤140737488355328∧out.length+(gI (cV (aH cl o f) (t.toNat - f) c).1 (f:Int)).length≤9223372036854775807:=by rw[wB];omega
   simp only[gv,z,N,and_self,decide_true,if_true,Int.toNat_natCast,wh,D,Option.bind_some,g];rw[show IntKind.i64.wrap ((pre.length:Int)+1)=((pre.length+1:Nat):Int)from bD (by omega)];cases b <;> simp
 have hp:I4 o cl.length 0 (gh o o.length):=by rw[rF];exact qv o _ _ (by omega)
 have O:=qK o o.length;have:=key (gh o o.length) [] 0 [] false (by simp;omega) hp (by omega) E (by simp);simp only[List.nil_append,List.length_nil,Bool.false_or]at this;unfold fG;rw[parts_eq cl (by omega),Option.bind_some];exact congrArg (fun x=>Option.bind x fun(u,p)=>some (u,p)) this
theorem sQ.get:∀ {a n:Int} {s:Qw},sQ a s n→∀i,0≤(s.getD i c0).2.2.1∧(s.getD i c0).2.2.1≤2∧0≤(s.getD i c0).2.2.2∧(s.getD i c0).2.2.2≤2
 | a,n,[],_,i=>by simp
 | a,n,x::s,h,0=>⟨h.2.2.1,h.2.2.2.1,h.2.2.2.2.1,h.2.2.2.2.2.1⟩
 | a,n,x::s,h,i+1=>by simpa using sQ.get h.2.2.2.2.2.2 i
theorem PM.Ns{n:Int}{p:Qw×QK}(h:PM n p)(hn:n≤4096):uT p.1:=⟨by have:=h.len;omega,fun i=>⟨(h.KD.get i).1,(h.KD.get i).2.1⟩⟩
abbrev Kn:=List (QX×(Qw×Bool))
def Lo(c:Wy)(f:Kn):Prop:=∀k v,bg .str f k=some v→∀d n,Sm d n→IX d n=k→v=cV d n c
theorem Lo.nil(c:Wy):Lo c []:=fun k v h=>by cases h
theorem vt{α:Type}(k f:QX)(x:α):∀j:List (QX×α),bg .str (cF .str j k x) f=if f=k then some x else bg .str j f
 | []=>by
  show(if eE .str k f=true then some x else none)=_;by_cases h:f=k
  ·subst h;rw[if_pos (by simp[eE]),if_pos rfl]
  ·rw[if_neg (show ¬eE .str k f=true by simpa [eE]using Ne.symm h),if_neg h];rfl
 | p::r=>by
  simp only[cF,bg];by_cases hp:p.1=k
  ·rw[if_pos (show eE .str p.1 k=true by simpa [eE]using hp)];simp only[bg];by_cases h:f=k
   ·subst h;rw[if_pos rfl,if_pos (by simp[eE])]
   ·have h1:¬eE .str k f=true:=by simpa [eE]using Ne.symm h
    have h2:¬eE .str p.1 f=true:=by rw[hp];exact h1
    rw[if_neg h,if_neg h1,if_neg h2]
  ·rw[if_neg (show ¬eE .str p.1 k=true by simpa [eE]using hp)];simp only[bg];by_cases h:p.1=f
   ·have h1:eE .str p.1 f=true:=by simpa [eE]using h
    have h2:¬f=k:=fun e=>hp (h.trans e)
    rw[if_pos h1,if_neg h2,if_pos h1]
   ·have h1:¬eE .str p.1 f=true:=by simpa [eE]using h
    rw[if_neg h1,if_neg h1];exact vt k f x r
theorem Lo.set{c:Wy}{q:Kn}(h:Lo c q){d:Dt}{n:Nat}(u:Sm d n):Lo c (cF .str q (IX d n) (cV d n c)):=fun k v j z A f hk=>by
 rw[vt]at j;split at j
 ·rename_i e;cases j;obtain⟨rfl,hd⟩:=He f u (hk.trans e);exact(AZ hd c).symm
 ·exact h k v j z A f hk
theorem yE{cl:Qw}{o:QK}(c:Wy):∀ {l:QK} {f:Nat},I4 o cl.length f l→(∀x∈(eZ cl o c f l).1,Rg cl.length x)∧(eZ cl o c f l).1.length+f≤max f cl.length
 | [],f,_=>⟨fun x j=>(by cases j),by simp only[eZ,List.length_nil];omega⟩
 | t::r,f,⟨u,v,p3,p4,p5⟩=>by
  obtain⟨h1,h2⟩:=yE c p5;have p:=A0 (aH cl o f) (t.toNat - f) c;refine⟨fun x j=>?_,by simp only[eZ,List.length_append,wB];omega⟩;simp only[eZ,List.mem_append]at j;rcases j with j | j
  ·unfold gI at j;obtain⟨y,q,rfl⟩:=List.mem_map.1 j;obtain⟨a,b,z,A,B,C⟩:=CA _ _ c y q;exact⟨f+a,f+b,by simp only;omega,by simp only;omega,by omega,by omega⟩
  ·exact h1 x j
def LF(cl:Qw)(o:QK)(c:Wy):Qw×Bool:=eZ cl o c 0 (gh o o.length)
def J9(cl:Qw)(o:QK)(c:Wy):(Qw×QK)×(Qw×QZ):=((cl,o),(JX (LF cl o c).1,Ly cl c.2.1 (JX (LF cl o c).1)))
theorem PM.zero{n:Int}{p:Qw×QK}(h:PM n p):p.2.getD 0 0≠3:=by
 by_cases f:0<p.1.length
 ·rw[h.Hp.zero f];decide
 ·have:=h.Hp.last;rw[show p.1.length=0 by omega]at this;rw[this];decide
end
end Go.Proofs.YtobbjfkfmdiklaaGreatDoor.T
namespace Go.Proofs.YtobbjfkfmdiklaaGreatDoor.T
open Go Go.Tv Go.Proofs
def Ho{γ:Type}(o:Option γ)(P:γ→Prop):Prop:=∃r,o=some r∧P r
def Nm{α ε:Type}(Q:α→Prop):α⊕ε→Prop
 | .inl x=>Q x
 | .inr _=>True
def Lp{α β:Type}(J:α→Prop)(Q:β→Prop):α⊕β→Prop
 | .inl x=>J x
 | .inr x=>Q x
section
variable{α β γ ε:Type}{P:α→Prop}{R:β→Prop}
theorem ao{f:Option α}{K:α→Option β}(h:Ho f P)(k:∀r,P r→Ho (K r) R):Ho (f.bind K) R:=by
 obtain⟨r,e,hp⟩:=h;rw[e];exact k r hp
theorem aq{x:α}(h:P x):Ho (some x) P:=⟨x,rfl,h⟩
theorem aI{c:Prop}[Decidable c]{a b:Option α}(h1:c→Ho a P)(h2:¬c→Ho b P):Ho (if c then a else b) P:=by
 by_cases h:c
 ·rw[if_pos h];exact h1 h
 ·rw[if_neg h];exact h2 h
theorem aU{c:Prop}[Decidable c]{a b:Option α}(h:c)(h1:Ho a P):Ho (if c then a else b) P:=by rw[if_pos h];exact h1
theorem EB{f:Option α}{j:α→Prop}(h:Ho f P)(k:∀r,P r→j r):Ho f j:=let ⟨r,e,hp⟩:=h;⟨r,e,k r hp⟩
theorem bH{S T:Type}{j:S→Option (S⊕T)}(I:S→Prop)(p:S→Nat){Q:T→Prop}{s:S}(h:I s)(step:∀s,I s→Ho (j s) (Lp (fun y=>I y∧p y<p s) Q)):Ho (iter j s) Q:=by
 refine dh I p Q (fun s u=>?_) h;obtain⟨r,e,q⟩:=step s u;cases r with
 | inl y=>exact .inl ⟨y,e,q⟩
 | inr t=>exact .inr ⟨t,e,q⟩
theorem Nu{c:Prop}[Decidable c]{a b:Option α}{K:α→Option β}(h1:c→Ho (a.bind K) R)(h2:¬c→Ho (b.bind K) R):Ho ((if c then a else b).bind K) R:=by
 by_cases h:c
 ·rw[if_pos h];exact h1 h
 ·rw[if_neg h];exact h2 h
end
theorem dec_lt{a b:Int}:(decide (a<b)=true)↔a<b:=decide_eq_true_iff
theorem EJ(c:Int):∀(l:QX) (k:Int),0≤k→wZ l c k = -1∨(k≤wZ l c k∧wZ l c k<k+l.length∧(∀x r,l=x::r→(x == c.toNat.toUInt8)=false→k<wZ l c k))
 | [],k,_=> .inl rfl
 | x::r,k,hk=>by
  simp only[wZ];by_cases e:(x == c.toNat.toUInt8)=true
  ·rw[if_pos e];exact .inr ⟨Int.le_refl _,by simp only[List.length_cons];omega,fun y s h f=>by cases h;rw[e]at f;cases f⟩
  ·rw[if_neg e];rcases EJ c r (k+1) (by omega)with h | ⟨h1,h2,_⟩
   ·exact .inl h
   ·exact .inr ⟨by omega,by simp only[List.length_cons];omega,fun _ _ _ _=>by omega⟩
theorem pP(c:Int):Ho (dw c) (fun _=>True):=by
 have:∃b,dw c=some b:=by
  unfold dw
  repeat' split
  all_goals exact⟨_,rfl⟩
 obtain⟨b,e⟩:=this;exact⟨b,e,trivial⟩
theorem G5(c:Int):Ho (iM c) (fun _=>True):=by
 have:∃b,iM c=some b:=by
  unfold iM
  repeat' split
  all_goals exact⟨_,rfl⟩
 obtain⟨b,e⟩:=this;exact⟨b,e,trivial⟩
def At(t:QX)(a:Int):Prop:=0≤a∧a≤(t.length:Int)
def Ms(t:QX)(a:Int):Int:=((t.getD a.toNat 0).toNat:Int)
section
variable{t:QX}(ht:t.length≤4096){a p3 p4 p5 p6:Int}{o1:QQ}{o2:QK}{o3:XJ}{o4:XX}
include ht
theorem nJ(ha:At t a):Ho (bh t a p3 p4 p5 p6 o1 o2 o3 o4) (Nm fun(c,p)=>a≤p∧At t p∧(c≠0→p<(t.length:Int)∧c=Ms t p)):=by
 have key:Ho (iter (dC t p3 p4 p5 p6 o1 o2 o3 o4) a) (fun r=>match r with
   | .inl v=>a≤v∧At t v
   | .inr (.inl _)=>True
   | .inr (.inr (c,p))=>a≤p∧At t p∧p<(t.length:Int)∧c=Ms t p):=by
  refine bH (fun p=>a≤p∧At t p) (fun p=>(t.length - p).toNat) ⟨Int.le_refl _,ha⟩ (fun p ⟨h1,h2,z⟩=>?_);unfold dC;refine aI (fun hl=>?_) (fun _=>aq ⟨h1,h2,z⟩);rw[dec_lt]at hl;refine aU ⟨h2,hl⟩ (aI (fun j=>?_) fun _=>?_)
  ·refine aU ⟨h2,by omega,Int.le_refl _⟩ ?_;simp only[eH,gm,Option.bind_some];have A:(t.take ((t.length:Int)).toNat).drop p.toNat=t.getD p.toNat 0::t.drop (p.toNat+1):=by rw[Int.toNat_natCast,List.take_length,List.drop_eq_getElem_cons (by omega)];rw[List.getD_eq_getElem?_getD,List.getElem?_eq_getElem (by omega)];rfl
   have u:(t.getD p.toNat 0 == (10:Int).toNat.toUInt8)=false:=by rw[beq_eq_false_iff_ne];intro e;rw[e]at j;revert j;decide
   have hi:=EJ 10 ((t.take ((t.length:Int)).toNat).drop p.toNat) 0 (by omega);have q:(((t.take ((t.length:Int)).toNat).drop p.toNat).length:Int)=t.length - p:=by rw[Int.toNat_natCast,List.take_length,List.length_drop];omega
   rw[q]at hi;refine Nu (fun hd=>?_) (fun hd=>?_)
   ·rw[dec_lt]at hd;simp only[Option.bind_some];rw[wrap_i64 (x:=(t.length:Int) - p) (by omega) (by omega),wrap_i64 (by omega) (by omega)];exact aq ⟨⟨by omega,by omega,by omega⟩,by omega⟩
   ·rw[dec_lt]at hd;rcases hi with hi | ⟨C,D,B⟩
    ·omega
    have:=B _ _ A u;simp only[Option.bind_some];rw[wrap_i64 (by omega) (by omega)];exact aq ⟨⟨by omega,by omega,by omega⟩,by omega⟩
  ·refine ao (G5 _) (fun b _=>aI (fun _=>?_) fun _=>?_)
   ·rw[wrap_i64 (by omega) (by omega)];exact aq ⟨⟨by omega,by omega,by omega⟩,by omega⟩
   ·refine ao (P:=fun _=>True) (ao (pP _) fun b _=>aI (fun _=>?_) fun _=>aq trivial) (fun v _=>aI (fun _=>?_) fun _=>?_)
    ·exact⟨_,rfl,trivial⟩
    ·exact⟨_,rfl,trivial⟩
    ·exact aq ⟨h1,⟨h2,z⟩,hl,rfl⟩
 unfold bh;refine ao key (fun r f=>?_);match r,f with
 | .inl v,f=>exact aq ⟨f.1,f.2,fun h=>absurd rfl h⟩
 | .inr (.inl (A,E)),_=>exact⟨_,rfl,trivial⟩
 | .inr (.inr (c,p)),f=>exact aq ⟨f.1,f.2.1,fun _=>f.2.2⟩
theorem mA(ha:At t a){c:Int}(hc:c≠0):Ho (bj c t a p3 p4 p5 p6 o1 o2 o3 o4) (Nm fun(b,p)=>a≤p∧At t p∧(b=true→a<p)):=by
 refine ao (nJ ht ha) ?_;rintro(⟨k,p⟩ | e) h
 ·obtain⟨h1,h2,j⟩:=h;refine aI (fun _=>aq ⟨h1,h2,fun h=>by cases h⟩) fun hk=>?_
  have f:k=c:=by simpa using hk
  have q:=(j (by rw[f];exact hc)).1;obtain⟨u,v⟩:=h2;rw[wrap_i64 (by omega) (by omega)];exact aq ⟨by omega,⟨by omega,by omega⟩,fun _=>by omega⟩
 ·exact⟨_,rfl,trivial⟩
theorem pQ(ha:At t a){c:Int}(hc:c≠0):Ho (bF c t a p3 p4 p5 p6 o1 o2 o3 o4) (Nm fun p=>a<p∧At t p):=by
 refine ao (mA ht ha hc) ?_;rintro(⟨b,p⟩ | e) h
 ·refine aI (fun _=>⟨_,rfl,trivial⟩) fun hb=>aq ⟨h.2.2 (by simpa using hb),h.2.1⟩
 ·exact⟨_,rfl,trivial⟩
theorem uR(ha:At t a):Ho (bY t a p3 p4 p5 p6 o1 o2 o3 o4) (Nm fun(_,_,p)=>a<p∧At t p):=by
 refine ao (nJ ht ha) ?_;rintro(⟨k,p⟩ | e) h
 rotate_left
 ·exact⟨_,rfl,trivial⟩
 obtain⟨h1,h2,A⟩:=h;obtain⟨b,hb,_⟩:=pP k;dsimp only;rw[hb];refine aI (fun _=>⟨_,rfl,trivial⟩) fun u=>?_
 have j:b=true:=by simpa using u
 subst j;have v:k≠0:=fun e=>by rw[e]at hb;revert hb;decide
 obtain⟨E,B⟩:=A v;have key:Ho (iter (dB t) p) (fun q=>p<q∧At t q):=by
  refine bH (fun q=>p≤q∧At t q) (fun q=>(t.length - q).toNat) ⟨Int.le_refl _,h2⟩ (fun q ⟨C,g2,g3⟩=>?_);unfold dB;refine Nu (fun hl=>?_) fun hl=>?_
  ·rw[dec_lt]at hl;rw[if_pos ⟨g2,hl⟩];obtain⟨b,f,_⟩:=pP (Ms t q);show Ho (((dw (Ms t q)).bind fun x=>some x).bind _) _;rw[f];refine aI (fun _=>?_) fun z=>?_
   ·rw[wrap_i64 (by omega) (by omega)];exact aq ⟨⟨by omega,by omega,by omega⟩,by omega⟩
   ·refine aq ⟨?_,g2,g3⟩;have:p≠q:=fun e=>by subst e;rw[←B,hb]at f;cases f;exact z rfl
    omega
  ·rw[dec_lt]at hl;exact aq ⟨by omega,g2,g3⟩
 refine ao key fun q D=>?_
 obtain⟨C,g2,g3⟩:=D;have:=h2.1;exact aU ⟨by omega,by omega,g3⟩ (aq ⟨by simp only;omega,g2,g3⟩)
theorem BI(ha:At t a):Ho (cY t a p3 p4 p5 p6 o1 o2 o3 o4) (Nm fun(_,p)=>a<p∧At t p):=by
 refine ao (uR ht ha) ?_;rintro(⟨w,q,p⟩ | e) h
 ·exact aI (fun _=>⟨_,rfl,trivial⟩) fun _=>aq h
 ·exact⟨_,rfl,trivial⟩
theorem AI(ha:At t a):Ho (cW t a p3 p4 p5 p6 o1 o2 o3 o4) (Nm fun(_,p)=>a<p∧At t p):=by
 refine ao (uR ht ha) ?_;rintro(⟨w,q,p⟩ | e) h
 ·exact aI (fun _=>aq h) fun _=>⟨_,rfl,trivial⟩
 ·exact⟨_,rfl,trivial⟩
theorem nt(ha:At t a){c:Int}(hc:c≠0):Ho (bI c t a p3 p4 p5 p6 o1 o2 o3 o4) (Nm fun(_,p)=>a<p∧At t p):=by
 have key:Ho (iter (dX c t p3 p4 p5 p6 o1 o2 o3 o4) (a,0)) (Nm fun(p,_)=>a≤p∧At t p∧p<(t.length:Int)):=by
  refine bH (fun(p,_)=>a≤p∧At t p) (fun(p,_)=>(t.length - p).toNat) ⟨Int.le_refl _,ha⟩ (fun(p,b) ⟨h1,h2⟩=>?_);refine ao (nJ ht h2) ?_;rintro(⟨k,q⟩ | e) h
  ·obtain⟨v,g2,g3⟩:=h;refine aI (fun _=>?_) fun hk=>?_
   ·refine ao (AI ht g2) ?_;rintro(⟨x,r⟩ | e) h
    ·obtain⟨z,j,u⟩:=h;have:=h2.2;exact aq ⟨⟨by omega,j,u⟩,by simp only;omega⟩
    ·exact⟨_,rfl,trivial⟩
   ·have f:k=c:=by simpa using hk
    exact aq ⟨by omega,g2,(g3 (by rw[f];exact hc)).1⟩
  ·exact⟨_,rfl,trivial⟩
 refine ao key ?_;rintro(⟨p,b⟩ | e) h
 ·obtain⟨h1,⟨h2,_⟩,A⟩:=h;dsimp only;rw[wrap_i64 (by omega) (by omega)];exact aq ⟨by omega,by omega,by omega⟩
 ·exact⟨_,rfl,trivial⟩
omit ht in
theorem GQ(w:QX)(f:o1.length≤24):Ho (cM o1 w) (fun i=>i<(o1.length:Int)):=by
 have key:Ho (iter (cq o1 w) 0) (Lp (fun _=>True) fun i=>i<(o1.length:Int)):=by
  refine bH (fun i=>0≤i∧i≤(o1.length:Int)) (fun i=>(o1.length - i).toNat) ⟨by omega,by omega⟩ (fun i ⟨h1,h2⟩=>?_);unfold cq;refine aI (fun hl=>?_) fun _=>aq trivial
  rw[dec_lt]at hl;refine aU ⟨h1,hl⟩ (aI (fun _=>aq hl) fun _=>?_);rw[wrap_i64 (by omega) (by omega)];exact aq ⟨⟨by omega,by omega⟩,by omega⟩
 refine ao key ?_;rintro(_ | i) h
 ·exact aq (by omega)
 ·exact aq h
theorem HN(ha:At t a)(f:o1.length≤24):Ho (dJ t a p3 p4 p5 p6 o1 o2 o3 o4) (Nm fun(i,p)=>a<p∧At t p∧0≤i∧i<(o1.length:Int)):=by
 refine ao (uR ht ha) ?_;rintro(⟨w,q,p⟩ | e) h
 ·refine ao (GQ w f) fun i hi=>aI (fun _=>⟨_,rfl,trivial⟩) fun hl=>?_
  rw[dec_lt]at hl;exact aq ⟨h.1,h.2,by omega,hi⟩
 ·exact⟨_,rfl,trivial⟩
end
end Go.Proofs.YtobbjfkfmdiklaaGreatDoor.T
