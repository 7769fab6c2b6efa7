import Derived.Test.YtmcemnfjddoejaaGreatDoorTv23sm
import Derived.Test.YtmcemnfjddoejaaGreatDoorTvSj
import Derived.Test.YtmcemnfjddoejaaGreatDoorTvT23cDeskFaults
import Derived.Test.YtmcemnfjddoejaaGreatDoorTvYm
namespace Go.Proofs.YtmcemnfjddoejaaGreatDoor.T
open Go Go.Tv Go.Proofs
noncomputable section
def oL(o:QK):Nat→Nat→QK
 | 0,_=>[]
 | m+1,k=>if o.getD k 0=2 then(k:Int)::oL o m (k+1)else oL o m (k+1)
theorem vf(o:QK):∀m k,oL o (m+1) k=oL o m k++(if o.getD (k+m) 0=2 then[((k+m:Nat):Int)]else[])
 | 0,k=>by simp only[oL];split <;> simp_all
 | m+1,k=>by
  have:=vf o m (k+1);rw[show k+1+m=k+(m+1) by omega]at this;simp only[oL]at this ⊢;rw[this];split <;> simp
theorem Ca(o:QK):∀m,gF o m=oL o m 0
 | 0=>rfl
 | m+1=>by
  rw[vf,←Ca o m];simp only[gF,Nat.zero_add];split <;> simp
def KQ(o:QK)(m:Nat):Nat→QK→Prop
 | _,[]=>True
 | fr,t::r=>fr≤t.toNat∧t=(t.toNat:Int)∧t.toNat≤m∧o.getD t.toNat 0=2∧KQ o m t.toNat r
theorem KQ.from{o:QK}{m:Nat}:∀ {fr c:Nat} {l:QK},c≤fr→KQ o m fr l→KQ o m c l
 | _,_,[],_,_=>trivial
 | _,_,t::r,h,e=>⟨by have:=e.1;omega,e.2⟩
theorem wO(o:QK){M:Nat}:∀m k,k+m≤M+1→KQ o M k (oL o m k)
 | 0,_,_=>trivial
 | m+1,k,h=>by
  have:=wO o (M:=M) m (k+1) (by omega);simp only[oL];split
  ·rename_i c;exact⟨by simp,by simp,by simp;omega,by simpa using c,this.from (by simp)⟩
  ·exact this.from (by omega)
def ku(cl:XK)(o:QK)(c:Wy):Nat→QK→XK×Bool
 | _,[]=>([],false)
 | fr,t::r=>(dI (iE (aR cl o fr) (t.toNat - fr) c).1 (fr:Int)++(ku cl o c t.toNat r).1,(iE (aR cl o fr) (t.toNat - fr) c).2 || (ku cl o c t.toNat r).2)
def JH(c:Wy):Prop:=1≤c.2.1∧c.2.1≤64
theorem GR{cl:XK}(f:EP cl){o:QK}(j:o.length=cl.length+1){c:Wy}(w:JH c){fr e:Nat}(u:fr≤e)(p:e≤cl.length)(q:o.getD fr 0≠3):
  iy cl o (fr:Int) (e:Int) c.1 c.2.1 c.2.2.1 c.2.2.2.1 c.2.2.2.2.1 c.2.2.2.2.2=some (dI (iE (aR cl o fr) (e - fr) c).1 (fr:Int),(iE (aR cl o fr) (e - fr) c).2):=by
 obtain⟨n,rfl⟩:∃n,e=fr+n:=⟨e - fr,by omega⟩;rw[Nat.add_sub_cancel_left];exact KN f j p c w.1 w.2 q
theorem A9.get:∀ {a n:Int} {s:XK},A9 a s n→∀i,0≤(s.getD i c0).2.2.1∧(s.getD i c0).2.2.1≤2∧0≤(s.getD i c0).2.2.2∧(s.getD i c0).2.2.2≤2
 | a,n,[],_,i=>by simp
 | a,n,x::s,h,0=>⟨h.2.2.1,h.2.2.2.1,h.2.2.2.2.1,h.2.2.2.2.2.1⟩
 | a,n,x::s,h,i+1=>by simpa using A9.get h.2.2.2.2.2.2 i
theorem PM.Pn{n:Int}{p:XK×QK}(h:PM n p)(hn:n≤4096):EP p.1:=⟨by have:=h.len;omega,fun i=>⟨(h.LV.get i).1,(h.LV.get i).2.1⟩⟩
theorem PM.sm{n:Int}{p:XK×QK}(h:PM n p)(c m:Nat):Sm (aR p.1 p.2 c) m:=fun j _=>by
 obtain⟨e,f,q,u⟩:=h.LV.get (c+j);exact⟨e,f,q,u,(h.Nx.val _).1,(h.Nx.val _).2⟩
abbrev Kn:=List (QX×(XK×Bool))
def DX(c:Wy)(e:Kn):Prop:=∀k v,aU .str e k=some v→∀d n,Sm d n→Fp d n=k→v=iE d n c
theorem DX.nil(c:Wy):DX c []:=fun k v h=>by cases h
theorem wH{α:Type}(k c:QX)(x:α):∀u:List (QX×α),aU .str (cj .str u k x) c=if c=k then some x else aU .str u c
 | []=>by
  show(if cJ .str k c=true then some x else none)=_;by_cases h:c=k
  ·subst h;rw[if_pos (by simp[cJ]),if_pos rfl]
  ·rw[if_neg (show ¬cJ .str k c=true by simpa [cJ]using Ne.symm h),if_neg h];rfl
 | p::r=>by
  simp only[cj,aU];by_cases j:p.1=k
  ·rw[if_pos (show cJ .str p.1 k=true by simpa [cJ]using j)];simp only[aU];by_cases h:c=k
   ·subst h;rw[if_pos rfl,if_pos (by simp[cJ])]
   ·have f:¬cJ .str k c=true:=by simpa [cJ]using Ne.symm h
    have q:¬cJ .str p.1 c=true:=by rw[j];exact f
    rw[if_neg h,if_neg f,if_neg q]
  ·rw[if_neg (show ¬cJ .str p.1 k=true by simpa [cJ]using j)];simp only[aU];by_cases h:p.1=c
   ·have f:cJ .str p.1 c=true:=by simpa [cJ]using h
    have q:¬c=k:=fun e=>j (h.trans e)
    rw[if_pos f,if_neg q,if_pos f]
   ·have f:¬cJ .str p.1 c=true:=by simpa [cJ]using h
    rw[if_neg f,if_neg f];exact wH k c x r
theorem oG{α:Type}{q:QX→Bool}(k:QX){v:α}:∀ {x:List (QX×α)},aU .str (x.filter fun p=>q p.1) k=some v→aU .str x k=some v
 | [],h=>h
 | p::r,h=>by
  simp only[aU];by_cases f:cJ .str p.1 k=true
  ·rw[if_pos f];have e:p.1=k:=by simpa [cJ]using f
   simp only[List.filter_cons]at h;cases j:q p.1 with
   | true =>
    rw[j,if_pos rfl]at h;simp only[aU]at h;rw[if_pos f]at h;exact h
   | false =>
    rw[j,if_neg (by decide)]at h;exfalso
    have c:aU .str (r.filter fun p=>q p.1) k=none:=jB (K:= .str) rfl fun A u z=>by have:=(List.mem_filter.1 u).2;rw[z,←e,j]at this;cases this
    rw[c]at h;cases h
  ·rw[if_neg f];simp only[List.filter_cons]at h;split at h
   ·simp only[aU]at h;rw[if_neg f]at h;exact oG k h
   ·exact oG k h
theorem DX.set{c:Wy}{u:Kn}(h:DX c u){d:Dt}{n:Nat}(z:Sm d n):DX c (cj .str u (Fp d n) (iE d n c)):=fun k v j A B f hk=>by
 rw[wH]at j;split at j
 ·rename_i e;cases j;obtain⟨rfl,hd⟩:=I9 f z (hk.trans e);exact(CU hd c).symm
 ·exact h k v j A B f hk
theorem DX.Nf{c:Wy}{e:Kn}(h:DX c e)(f:List (QX×Bool)):DX c (rv .str e f):=fun k v j=>h k v (oG (q:=fun x=>(aU .str f x).getD false) k j)
theorem zQ{j:XK}{o:QK}(c:Wy):∀ {l:QK} {e:Nat},KQ o j.length e l→(∀x∈(ku j o c e l).1,Rg j.length x)∧(ku j o c e l).1.length+e≤max e j.length
 | [],e,_=>⟨fun x f=>(by cases f),by simp only[ku,List.length_nil];omega⟩
 | t::r,e,⟨v,z,p3,p4,p5⟩=>by
  obtain⟨p,A⟩:=zQ c p5;have q:=yr (aR j o e) (t.toNat - e) c;refine⟨fun x f=>?_,by simp only[ku,List.length_append,nh];omega⟩;simp only[ku,List.mem_append]at f;rcases f with f | f
  ·unfold dI at f;obtain⟨y,u,rfl⟩:=List.mem_map.1 f;obtain⟨a,b,B,C,D,E⟩:=xc _ _ c y u;exact⟨e+a,e+b,by simp only;omega,by simp only;omega,by omega,by omega⟩
  ·exact p x f
theorem FJ{cl:XK}(N:EP cl){o:QK}(O:o.length=cl.length+1)(q:∀fr m,Sm (aR cl o fr) m){c:Wy}(w:JH c):∀(l pre:QK) (fr:Nat) (out:XK) (b:Bool) (e:Kn) (E:List (QX×Bool)),(pre++l).length≤5000→KQ o cl.length fr l→fr≤cl.length→o.getD fr 0≠3→out.length≤fr→DX c e →
  ∃u C,iter (dV c.1 c.2.1 c.2.2.1 c.2.2.2.1 c.2.2.2.2.1 c.2.2.2.2.2 (cl,o) (pre++l)) (out,b,e,E,(fr:Int),(pre.length:Int))=some (out++(ku cl o c fr l).1,b || (ku cl o c fr l).2,u,C)∧DX c u
 | [],pre,fr,out,b,e,E,_,_,_,_,_,hk=>by
  have V:¬((pre.length:Int)<(pre.length:Int)):=Int.lt_irrefl _;rw[List.append_nil];exact⟨e,E,dq (by simp only[dV,V,decide_false,Bool.false_eq_true,if_false,ku,List.append_nil,Bool.or_false]),hk⟩
 | t::r,pre,fr,out,b,e,E,z,hp,a4,h3,hout,hk=>by
  have hl:=N.1;obtain⟨p1,X,p3,p4,p5⟩:=hp;have I:=yr (aR cl o fr) (t.toNat - fr) c;have Y:=GR N O w p1 p3 h3;rw[←X]at Y;have f:=Mi (cl:=cl) (o:=o) (fr:=fr) (n:=t.toNat - fr) (by omega) O (by omega) (q _ _);rw[show fr+(t.toNat - fr)=t.toNat by omega,←X]at f;have j:=hk.set (q fr (t.toNat - fr));have p:∀v,aU .str e (Fp (aR cl o fr) (t.toNat - fr))=some v→v=iE (aR cl o fr) (t.toNat - fr) c:=fun v hv=>hk _ v hv _ _ (q _ _) rfl
  have Z:=HN (aR cl o fr) (n:=t.toNat - fr) (by omega) c;have J:Nr (dI (iE (aR cl o fr) (t.toNat - fr) c).1 (fr:Int)):=Kl (by omega) (xc _ _ c) (by omega) (by omega);have D:=Cc J (b:= -(fr:Int)) (by omega) (by omega);rw[Jr,show(fr:Int) + -(fr:Int)=0 by omega,GS]at D;have L:=Cc Z (b:=(fr:Int)) (by omega) (by omega);have hw:IntKind.i64.wrap (0 - (fr:Int)) = -(fr:Int):=by rw[wrap_i64 (by omega) (by omega)];omega
  generalize Fp (aR cl o fr) (t.toNat - fr)=key at f j p;simp only[ku];generalize iE (aR cl o fr) (t.toNat - fr) c=P at Y j p L D I;have a1:pre.length+(r.length+1)≤5000:=by simpa using z
  have V:(pre.length:Int)<((pre++t::r).length:Int):=by simp;omega
  have q2:0≤(pre.length:Int):=by omega
  have g:(out.length+(dI P.1 (fr:Int)).length)*32≤140737488355328∧out.length+(dI P.1 (fr:Int)).length≤9223372036854775807:=by rw[nh];omega
  obtain⟨x,hin,a2⟩:∃x,(if(!((aU .str e key).isSome))=true then((iy cl o (fr:Int) t c.1 c.2.1 c.2.2.1 c.2.2.2.1 c.2.2.2.2.1 c.2.2.2.2.2).bind fun(M,A)=>((iD M (IntKind.i64.wrap (0 - (fr:Int)))).bind fun B=>some (((cj .str e key (B,A)),B,A))))
    else some ((e,((aU .str e key).getD (([]:XK),false)).1,((aU .str e key).getD (([]:XK),false)).2)))=some (x,P.1,P.2)∧DX c x:=by
   cases hf:aU .str e key with
   | none =>
    refine⟨cj .str e key P,?_,j⟩;rw[if_pos (by rfl),Y,Option.bind_some];simp only[hw,D,Option.bind_some]
   | some v =>refine⟨e,?_,hk⟩;rw[if_neg (by simp)];simp only[Option.getD_some];rw[p v hf]
  obtain⟨u,C,ih,a3⟩:=FJ N O q w r (pre++[t]) t.toNat (out++dI P.1 (fr:Int)) (b || P.2) x (cj .str E key true) (by simpa using z) p5 p3 (by rw[p4];decide) (by rw[List.length_append,nh];omega) a2;rw[List.append_assoc,←X]at ih;simp only[List.singleton_append,List.length_append,List.length_singleton]at ih;refine⟨u,C,?_,a3⟩;rw[←List.append_assoc,←Bool.or_assoc,←ih];refine ga ?_;simp only[dV,V,q2,and_self,decide_true,if_true,Int.toNat_natCast,wB,f,Option.bind_some];rw[hin];simp only[Option.bind_some,L,g,and_self,if_true];rw[show IntKind.i64.wrap ((pre.length:Int)+1)=((pre.length+1:Nat):Int)from bO (by omega)];cases b <;> simp
def LF(e:XK)(o:QK)(c:Wy):XK×Bool:=ku e o c 0 (gF o o.length)
def AJ(e:XK)(o:QK)(c:Wy):(XK×QK)×(XK×QZ):=((e,o),(BW (LF e o c).1,tx e c.2.1 (BW (LF e o c).1)))
theorem PM.zero{n:Int}{p:XK×QK}(h:PM n p):p.2.getD 0 0≠3:=by
 by_cases c:0<p.1.length
 ·rw[h.Nx.zero c];decide
 ·have:=h.Nx.last;rw[show p.1.length=0 by omega]at this;rw[this];decide
theorem Ln{b:Option Z1}{x:QK}{p:XK×QK}(J:aT b x=some (p,0))(f:PM (x.length:Int) p)(Y:x.length≤4096){c:Wy}(w:JH c){v:Kn}(hk:DX c v)(L:XK)(M:Bool)(z:QK)(A:XK)(B:QK)(C):
  ∃j,cv x L M b c.1 c.2.1 c.2.2.1 c.2.2.2.1 c.2.2.2.2.1 c.2.2.2.2.2 z A B C v=some (0,(LF p.1 p.2 c).1,(LF p.1 p.2 c).2,x,p.1,p.2,some (AJ p.1 p.2 c),j)∧DX c j:=by
 have D:=f.Pn (by omega);have hl:=D.1;have N:=f.Nx.len;have q:KQ p.2 p.1.length 0 (gF p.2 p.2.length):=by rw[Ca];exact wO _ _ _ (by omega)
 have O:=rf p.2 p.2.length;obtain⟨j,u,e,E⟩:=FJ D N f.sm w (gF p.2 p.2.length) [] 0 [] false v [] (by simp;omega) q (by omega) f.zero (by simp) hk;simp only[List.nil_append,List.length_nil,Bool.false_or]at e;obtain⟨V,Z⟩:=zQ c q;have I:=HR D p.2 w.1 w.2 (l:=(LF p.1 p.2 c).1) (by unfold LF;omega) V;refine⟨_,?_,E.Nf u⟩;unfold cv;rw[J,Option.bind_some];simp only[bne_self_eq_false,Bool.false_eq_true,if_false];rw[parts_eq p.1 (by omega),Option.bind_some];have X:iter (dV c.1 c.2.1 c.2.2.1 c.2.2.2.1 c.2.2.2.2.1 c.2.2.2.2.2 p (gF p.2 p.2.length)) (([]:XK),false,v,([]:List (QX×Bool)),(0:Int),(0:Int))=some ((LF p.1 p.2 c).1,(LF p.1 p.2 c).2,j,u):=e;rw[X,Option.bind_some];simp only[I,Option.bind_some];rfl
end
end Go.Proofs.YtmcemnfjddoejaaGreatDoor.T
namespace Go.Proofs.YtmcemnfjddoejaaGreatDoor.T
open Go Go.Tv Go.Proofs
def Ho{γ:Type}(o:Option γ)(P:γ→Prop):Prop:=∃r,o=some r∧P r
def Nm{α ε:Type}(Q:α→Prop):α⊕ε→Prop
 | .inl x=>Q x
 | .inr _=>True
def Lp{α β:Type}(J:α→Prop)(Q:β→Prop):α⊕β→Prop
 | .inl x=>J x
 | .inr x=>Q x
section
variable{α β γ ε:Type}{P:α→Prop}{R:β→Prop}
theorem aq{f:Option α}{K:α→Option β}(h:Ho f P)(k:∀r,P r→Ho (K r) R):Ho (f.bind K) R:=by
 obtain⟨r,e,c⟩:=h;rw[e];exact k r c
theorem av{x:α}(h:P x):Ho (some x) P:=⟨x,rfl,h⟩
theorem aK{c:Prop}[Decidable c]{a b:Option α}(e:c→Ho a P)(j:¬c→Ho b P):Ho (if c then a else b) P:=by
 by_cases h:c
 ·rw[if_pos h];exact e h
 ·rw[if_neg h];exact j h
theorem aW{c:Prop}[Decidable c]{a b:Option α}(h:c)(e:Ho a P):Ho (if c then a else b) P:=by rw[if_pos h];exact e
theorem Fy{f:Option α}{c:α→Prop}(h:Ho f P)(k:∀r,P r→c r):Ho f c:=let ⟨r,e,j⟩:=h;⟨r,e,k r j⟩
theorem bF{S T:Type}{c:S→Option (S⊕T)}(I:S→Prop)(j:S→Nat){Q:T→Prop}{s:S}(h:I s)(step:∀s,I s→Ho (c s) (Lp (fun y=>I y∧j y<j s) Q)):Ho (iter c s) Q:=by
 refine dT I j Q (fun s q=>?_) h;obtain⟨r,e,p⟩:=step s q;cases r with
 | inl y=>exact .inl ⟨y,e,p⟩
 | inr t=>exact .inr ⟨t,e,p⟩
theorem OP{c:Prop}[Decidable c]{a b:Option α}{K:α→Option β}(e:c→Ho (a.bind K) R)(f:¬c→Ho (b.bind K) R):Ho ((if c then a else b).bind K) R:=by
 by_cases h:c
 ·rw[if_pos h];exact e h
 ·rw[if_neg h];exact f h
end
theorem dec_lt{a b:Int}:(decide (a<b)=true)↔a<b:=decide_eq_true_iff
theorem FC(c:Int):∀(l:QX) (k:Int),0≤k→yf l c k = -1∨(k≤yf l c k∧yf l c k<k+l.length∧(∀x r,l=x::r→(x == c.toNat.toUInt8)=false→k<yf l c k))
 | [],k,_=> .inl rfl
 | x::r,k,hk=>by
  simp only[yf];by_cases e:(x == c.toNat.toUInt8)=true
  ·rw[if_pos e];exact .inr ⟨Int.le_refl _,by simp only[List.length_cons];omega,fun y s h f=>by cases h;rw[e]at f;cases f⟩
  ·rw[if_neg e];rcases FC c r (k+1) (by omega)with h | ⟨j,p,_⟩
   ·exact .inl h
   ·exact .inr ⟨by omega,by simp only[List.length_cons];omega,fun _ _ _ _=>by omega⟩
theorem qp(c:Int):Ho (dB c) (fun _=>True):=by
 have:∃b,dB c=some b:=by
  unfold dB
  repeat' split
  all_goals exact⟨_,rfl⟩
 obtain⟨b,e⟩:=this;exact⟨b,e,trivial⟩
theorem IK(c:Int):Ho (iK c) (fun _=>True):=by
 have:∃b,iK c=some b:=by
  unfold iK
  repeat' split
  all_goals exact⟨_,rfl⟩
 obtain⟨b,e⟩:=this;exact⟨b,e,trivial⟩
def At(t:QX)(a:Int):Prop:=0≤a∧a≤(t.length:Int)
def NQ(t:QX)(a:Int):Int:=((t.getD a.toNat 0).toNat:Int)
section
variable{t:QX}(ht:t.length≤4096){a p3 p4 p5 p6:Int}{o1:QQ}{o2:QK}{o3:XJ}{o4:XQ}
include ht
theorem oH(ha:At t a):Ho (bj t a p3 p4 p5 p6 o1 o2 o3 o4) (Nm fun(c,p)=>a≤p∧At t p∧(c≠0→p<(t.length:Int)∧c=NQ t p)):=by
 have key:Ho (iter (dF t p3 p4 p5 p6 o1 o2 o3 o4) a) (fun r=>match r with
   | .inl v=>a≤v∧At t v
   | .inr (.inl _)=>True
   | .inr (.inr (c,p))=>a≤p∧At t p∧p<(t.length:Int)∧c=NQ t p):=by
  refine bF (fun p=>a≤p∧At t p) (fun p=>(t.length - p).toNat) ⟨Int.le_refl _,ha⟩ (fun p ⟨A,u,B⟩=>?_);unfold dF;refine aK (fun hl=>?_) (fun _=>av ⟨A,u,B⟩);rw[dec_lt]at hl;refine aW ⟨u,hl⟩ (aK (fun j=>?_) fun _=>?_)
  ·refine aW ⟨u,by omega,Int.le_refl _⟩ ?_;simp only[eU,gh,Option.bind_some];have C:(t.take ((t.length:Int)).toNat).drop p.toNat=t.getD p.toNat 0::t.drop (p.toNat+1):=by rw[Int.toNat_natCast,List.take_length,List.drop_eq_getElem_cons (by omega)];rw[List.getD_eq_getElem?_getD,List.getElem?_eq_getElem (by omega)];rfl
   have z:(t.getD p.toNat 0 == (10:Int).toNat.toUInt8)=false:=by rw[beq_eq_false_iff_ne];intro e;rw[e]at j;revert j;decide
   have hi:=FC 10 ((t.take ((t.length:Int)).toNat).drop p.toNat) 0 (by omega);have q:(((t.take ((t.length:Int)).toNat).drop p.toNat).length:Int)=t.length - p:=by rw[Int.toNat_natCast,List.take_length,List.length_drop];omega
   rw[q]at hi;refine OP (fun hd=>?_) (fun hd=>?_)
   ·rw[dec_lt]at hd;simp only[Option.bind_some];rw[wrap_i64 (x:=(t.length:Int) - p) (by omega) (by omega),wrap_i64 (by omega) (by omega)];exact av ⟨⟨by omega,by omega,by omega⟩,by omega⟩
   ·rw[dec_lt]at hd;rcases hi with hi | ⟨E,I,D⟩
    ·omega
    have:=D _ _ C z;simp only[Option.bind_some];rw[wrap_i64 (by omega) (by omega)];exact av ⟨⟨by omega,by omega,by omega⟩,by omega⟩
  ·refine aq (IK _) (fun b _=>aK (fun _=>?_) fun _=>?_)
   ·rw[wrap_i64 (by omega) (by omega)];exact av ⟨⟨by omega,by omega,by omega⟩,by omega⟩
   ·refine aq (P:=fun _=>True) (aq (qp _) fun b _=>aK (fun _=>?_) fun _=>av trivial) (fun v _=>aK (fun _=>?_) fun _=>?_)
    ·exact⟨_,rfl,trivial⟩
    ·exact⟨_,rfl,trivial⟩
    ·exact av ⟨A,⟨u,B⟩,hl,rfl⟩
 unfold bj;refine aq key (fun r f=>?_);match r,f with
 | .inl v,f=>exact av ⟨f.1,f.2,fun h=>absurd rfl h⟩
 | .inr (.inl (C,J)),_=>exact⟨_,rfl,trivial⟩
 | .inr (.inr (c,p)),f=>exact av ⟨f.1,f.2.1,fun _=>f.2.2⟩
theorem mI(ha:At t a){c:Int}(q:c≠0):Ho (bk c t a p3 p4 p5 p6 o1 o2 o3 o4) (Nm fun(b,p)=>a≤p∧At t p∧(b=true→a<p)):=by
 refine aq (oH ht ha) ?_;rintro(⟨k,p⟩ | e) h
 ·obtain⟨u,j,v⟩:=h;refine aK (fun _=>av ⟨u,j,fun h=>by cases h⟩) fun hk=>?_
  have f:k=c:=by simpa using hk
  have x:=(v (by rw[f];exact q)).1;obtain⟨z,A⟩:=j;rw[wrap_i64 (by omega) (by omega)];exact av ⟨by omega,⟨by omega,by omega⟩,fun _=>by omega⟩
 ·exact⟨_,rfl,trivial⟩
theorem qi(ha:At t a){c:Int}(f:c≠0):Ho (bD c t a p3 p4 p5 p6 o1 o2 o3 o4) (Nm fun p=>a<p∧At t p):=by
 refine aq (mI ht ha f) ?_;rintro(⟨b,p⟩ | e) h
 ·refine aK (fun _=>⟨_,rfl,trivial⟩) fun hb=>av ⟨h.2.2 (by simpa using hb),h.2.1⟩
 ·exact⟨_,rfl,trivial⟩
theorem wk(ha:At t a):Ho (bZ t a p3 p4 p5 p6 o1 o2 o3 o4) (Nm fun(_,_,p)=>a<p∧At t p):=by
 refine aq (oH ht ha) ?_;rintro(⟨k,p⟩ | e) h
 rotate_left
 ·exact⟨_,rfl,trivial⟩
 obtain⟨E,z,A⟩:=h;obtain⟨b,hb,_⟩:=qp k;dsimp only;rw[hb];refine aK (fun _=>⟨_,rfl,trivial⟩) fun j=>?_
 have f:b=true:=by simpa using j
 subst f;have u:k≠0:=fun e=>by rw[e]at hb;revert hb;decide
 obtain⟨I,B⟩:=A u;have key:Ho (iter (dG t) p) (fun q=>p<q∧At t q):=by
  refine bF (fun q=>p≤q∧At t q) (fun q=>(t.length - q).toNat) ⟨Int.le_refl _,z⟩ (fun q ⟨C,g2,g3⟩=>?_);unfold dG;refine OP (fun hl=>?_) fun hl=>?_
  ·rw[dec_lt]at hl;rw[if_pos ⟨g2,hl⟩];obtain⟨b,c,_⟩:=qp (NQ t q);show Ho (((dB (NQ t q)).bind fun v=>some v).bind _) _;rw[c];refine aK (fun _=>?_) fun x=>?_
   ·rw[wrap_i64 (by omega) (by omega)];exact av ⟨⟨by omega,by omega,by omega⟩,by omega⟩
   ·refine av ⟨?_,g2,g3⟩;have:p≠q:=fun e=>by subst e;rw[←B,hb]at c;cases c;exact x rfl
    omega
  ·rw[dec_lt]at hl;exact av ⟨by omega,g2,g3⟩
 refine aq key fun q D=>?_
 obtain⟨C,g2,g3⟩:=D;have:=z.1;exact aW ⟨by omega,by omega,g3⟩ (av ⟨by simp only;omega,g2,g3⟩)
theorem DA(ha:At t a):Ho (db t a p3 p4 p5 p6 o1 o2 o3 o4) (Nm fun(_,p)=>a<p∧At t p):=by
 refine aq (wk ht ha) ?_;rintro(⟨w,q,p⟩ | e) h
 ·exact aK (fun _=>⟨_,rfl,trivial⟩) fun _=>av h
 ·exact⟨_,rfl,trivial⟩
theorem Cm(ha:At t a):Ho (da t a p3 p4 p5 p6 o1 o2 o3 o4) (Nm fun(_,p)=>a<p∧At t p):=by
 refine aq (wk ht ha) ?_;rintro(⟨w,q,p⟩ | e) h
 ·exact aK (fun _=>av h) fun _=>⟨_,rfl,trivial⟩
 ·exact⟨_,rfl,trivial⟩
theorem nU(ha:At t a){c:Int}(u:c≠0):Ho (bI c t a p3 p4 p5 p6 o1 o2 o3 o4) (Nm fun(_,p)=>a<p∧At t p):=by
 have key:Ho (iter (dX c t p3 p4 p5 p6 o1 o2 o3 o4) (a,0)) (Nm fun(p,_)=>a≤p∧At t p∧p<(t.length:Int)):=by
  refine bF (fun(p,_)=>a≤p∧At t p) (fun(p,_)=>(t.length - p).toNat) ⟨Int.le_refl _,ha⟩ (fun(p,b) ⟨v,f⟩=>?_);refine aq (oH ht f) ?_;rintro(⟨k,q⟩ | e) h
  ·obtain⟨B,g2,g3⟩:=h;refine aK (fun _=>?_) fun hk=>?_
   ·refine aq (Cm ht g2) ?_;rintro(⟨x,r⟩ | e) h
    ·obtain⟨C,z,A⟩:=h;have:=f.2;exact av ⟨⟨by omega,z,A⟩,by simp only;omega⟩
    ·exact⟨_,rfl,trivial⟩
   ·have j:k=c:=by simpa using hk
    exact av ⟨by omega,g2,(g3 (by rw[j];exact u)).1⟩
  ·exact⟨_,rfl,trivial⟩
 refine aq key ?_;rintro(⟨p,b⟩ | e) h
 ·obtain⟨v,⟨f,_⟩,D⟩:=h;dsimp only;rw[wrap_i64 (by omega) (by omega)];exact av ⟨by omega,by omega,by omega⟩
 ·exact⟨_,rfl,trivial⟩
omit ht in
theorem Jw(w:QX)(c:o1.length≤24):Ho (cO o1 w) (fun i=>i<(o1.length:Int)):=by
 have key:Ho (iter (ck o1 w) 0) (Lp (fun _=>True) fun i=>i<(o1.length:Int)):=by
  refine bF (fun i=>0≤i∧i≤(o1.length:Int)) (fun i=>(o1.length - i).toNat) ⟨by omega,by omega⟩ (fun i ⟨e,f⟩=>?_);unfold ck;refine aK (fun hl=>?_) fun _=>av trivial
  rw[dec_lt]at hl;refine aW ⟨e,hl⟩ (aK (fun _=>av hl) fun _=>?_);rw[wrap_i64 (by omega) (by omega)];exact av ⟨⟨by omega,by omega⟩,by omega⟩
 refine aq key ?_;rintro(_ | i) h
 ·exact av (by omega)
 ·exact av h
theorem IM(ha:At t a)(c:o1.length≤24):Ho (dK t a p3 p4 p5 p6 o1 o2 o3 o4) (Nm fun(i,p)=>a<p∧At t p∧0≤i∧i<(o1.length:Int)):=by
 refine aq (wk ht ha) ?_;rintro(⟨w,q,p⟩ | e) h
 ·refine aq (Jw w c) fun i hi=>aK (fun _=>⟨_,rfl,trivial⟩) fun hl=>?_
  rw[dec_lt]at hl;exact av ⟨h.1,h.2,by omega,hi⟩
 ·exact⟨_,rfl,trivial⟩
end
end Go.Proofs.YtmcemnfjddoejaaGreatDoor.T
