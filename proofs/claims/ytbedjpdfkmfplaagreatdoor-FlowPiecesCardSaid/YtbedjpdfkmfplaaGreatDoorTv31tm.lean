import Derived.Test.YtbedjpdfkmfplaaGreatDoorTv31sm
import Derived.Test.YtbedjpdfkmfplaaGreatDoorTvSj
import Derived.Test.YtbedjpdfkmfplaaGreatDoorTvT21da
import Derived.Test.YtbedjpdfkmfplaaGreatDoorTvYm
namespace Go.Proofs.YtbedjpdfkmfplaaGreatDoor.T
open Go Go.Tv Go.Proofs
noncomputable section
def oW(o:QK):Nat→Nat→QK
 | 0,_=>[]
 | m+1,k=>if o.getD k 0=2 then(k:Int)::oW o m (k+1)else oW o m (k+1)
theorem uQ(o:QK):∀m k,oW o (m+1) k=oW o m k++(if o.getD (k+m) 0=2 then[((k+m:Nat):Int)]else[])
 | 0,k=>by simp only[oW];split <;> simp_all
 | m+1,k=>by
  have:=uQ o m (k+1);rw[show k+1+m=k+(m+1) by omega]at this;simp only[oW]at this ⊢;rw[this];split <;> simp
theorem sk(o:QK):∀m,gq o m=oW o m 0
 | 0=>rfl
 | m+1=>by
  rw[uQ,←sk o m];simp only[gq,Nat.zero_add];split <;> simp
def JO(o:QK)(m:Nat):Nat→QK→Prop
 | _,[]=>True
 | fr,t::r=>fr≤t.toNat∧t=(t.toNat:Int)∧t.toNat≤m∧o.getD t.toNat 0=2∧JO o m t.toNat r
theorem JO.from{o:QK}{m:Nat}:∀ {fr e:Nat} {l:QK},e≤fr→JO o m fr l→JO o m e l
 | _,_,[],_,_=>trivial
 | _,_,t::r,h,f=>⟨by have:=f.1;omega,f.2⟩
theorem oe(o:QK){M:Nat}:∀m k,k+m≤M+1→JO o M k (oW o m k)
 | 0,_,_=>trivial
 | m+1,k,h=>by
  have:=oe o (M:=M) m (k+1) (by omega);simp only[oW];split
  ·rename_i e;exact⟨by simp,by simp,by simp;omega,by simpa using e,this.from (by simp)⟩
  ·exact this.from (by omega)
def kI(cl:Qk)(o:QK)(c:Wy):Nat→QK→Qk×Bool
 | _,[]=>([],false)
 | fr,t::r=>(dU (iZ (aQ cl o fr) (t.toNat - fr) c).1 (fr:Int)++(kI cl o c t.toNat r).1,(iZ (aQ cl o fr) (t.toNat - fr) c).2 || (kI cl o c t.toNat r).2)
def I0(c:Wy):Prop:=1≤c.2.1∧c.2.1≤64
theorem G9{cl:Qk}(f:Fb cl){o:QK}(j:o.length=cl.length+1){c:Wy}(w:I0 c){fr e:Nat}(v:fr≤e)(q:e≤cl.length)(u:o.getD fr 0≠3):
  iT cl o (fr:Int) (e:Int) c.1 c.2.1 c.2.2.1 c.2.2.2.1 c.2.2.2.2.1 c.2.2.2.2.2=some (dU (iZ (aQ cl o fr) (e - fr) c).1 (fr:Int),(iZ (aQ cl o fr) (e - fr) c).2):=by
 obtain⟨n,rfl⟩:∃n,e=fr+n:=⟨e - fr,by omega⟩;rw[Nat.add_sub_cancel_left];exact KJ f j q c w.1 w.2 u
theorem A5.get:∀ {a n:Int} {s:Qk},A5 a s n→∀i,0≤(s.getD i c0).2.2.1∧(s.getD i c0).2.2.1≤2∧0≤(s.getD i c0).2.2.2∧(s.getD i c0).2.2.2≤2
 | a,n,[],_,i=>by simp
 | a,n,x::s,h,0=>⟨h.2.2.1,h.2.2.2.1,h.2.2.2.2.1,h.2.2.2.2.2.1⟩
 | a,n,x::s,h,i+1=>by simpa using A5.get h.2.2.2.2.2.2 i
theorem PM.Oy{n:Int}{p:Qk×QK}(h:PM n p)(hn:n≤4096):Fb p.1:=⟨by have:=h.len;omega,fun i=>⟨(h.LX.get i).1,(h.LX.get i).2.1⟩⟩
theorem PM.sm{n:Int}{p:Qk×QK}(h:PM n p)(e m:Nat):Sm (aQ p.1 p.2 e) m:=fun j _=>by
 obtain⟨f,q,u,v⟩:=h.LX.get (e+j);exact⟨f,q,u,v,(h.LW.val _).1,(h.LW.val _).2⟩
abbrev Kn:=List (QX×(Qk×Bool))
def DV(c:Wy)(kn:Kn):Prop:=∀k v,aT .str kn k=some v→∀d n,Sm d n→Eb d n=k→v=iZ d n c
theorem DV.nil(c:Wy):DV c []:=fun k v h=>by cases h
theorem yv{α:Type}(k f:QX)(x:α):∀v:List (QX×α),aT .str (cq .str v k x) f=if f=k then some x else aT .str v f
 | []=>by
  show(if eD .str k f=true then some x else none)=_;by_cases h:f=k
  ·subst h;rw[if_pos (by simp[eD]),if_pos rfl]
  ·rw[if_neg (show ¬eD .str k f=true by simpa [eD]using Ne.symm h),if_neg h];rfl
 | p::r=>by
  simp only[cq,aT];by_cases q:p.1=k
  ·rw[if_pos (show eD .str p.1 k=true by simpa [eD]using q)];simp only[aT];by_cases h:f=k
   ·subst h;rw[if_pos rfl,if_pos (by simp[eD])]
   ·have j:¬eD .str k f=true:=by simpa [eD]using Ne.symm h
    have u:¬eD .str p.1 f=true:=by rw[q];exact j
    rw[if_neg h,if_neg j,if_neg u]
  ·rw[if_neg (show ¬eD .str p.1 k=true by simpa [eD]using q)];simp only[aT];by_cases h:p.1=f
   ·have j:eD .str p.1 f=true:=by simpa [eD]using h
    have u:¬f=k:=fun e=>q (h.trans e)
    rw[if_pos j,if_neg u,if_pos j]
   ·have j:¬eD .str p.1 f=true:=by simpa [eD]using h
    rw[if_neg j,if_neg j];exact yv k f x r
theorem ov{α:Type}{q:QX→Bool}(k:QX){v:α}:∀ {A:List (QX×α)},aT .str (A.filter fun p=>q p.1) k=some v→aT .str A k=some v
 | [],h=>h
 | p::r,h=>by
  simp only[aT];by_cases j:eD .str p.1 k=true
  ·rw[if_pos j];have e:p.1=k:=by simpa [eD]using j
   simp only[List.filter_cons]at h;cases u:q p.1 with
   | true =>
    rw[u,if_pos rfl]at h;simp only[aT]at h;rw[if_pos j]at h;exact h
   | false =>
    rw[u,if_neg (by decide)]at h;exfalso
    have f:aT .str (r.filter fun p=>q p.1) k=none:=jU (K:= .str) rfl fun C z B=>by have:=(List.mem_filter.1 z).2;rw[B,←e,u]at this;cases this
    rw[f]at h;cases h
  ·rw[if_neg j];simp only[List.filter_cons]at h;split at h
   ·simp only[aT]at h;rw[if_neg j]at h;exact ov k h
   ·exact ov k h
theorem DV.set{c:Wy}{kn:Kn}(h:DV c kn){d:Dt}{n:Nat}(u:Sm d n):DV c (cq .str kn (Eb d n) (iZ d n c)):=fun k v j z A f hk=>by
 rw[yv]at j;split at j
 ·rename_i e;cases j;obtain⟨rfl,hd⟩:=HW f u (hk.trans e);exact(CU hd c).symm
 ·exact h k v j z A f hk
theorem DV.Ng{c:Wy}{kn:Kn}(h:DV c kn)(e:List (QX×Bool)):DV c (rK .str kn e):=fun k v f=>h k v (ov (q:=fun x=>(aT .str e x).getD false) k f)
theorem qy{cl:Qk}{o:QK}(c:Wy):∀ {l:QK} {e:Nat},JO o cl.length e l→(∀x∈(kI cl o c e l).1,Rg cl.length x)∧(kI cl o c e l).1.length+e≤max e cl.length
 | [],e,_=>⟨fun x f=>(by cases f),by simp only[kI,List.length_nil];omega⟩
 | t::r,e,⟨v,z,p3,p4,p5⟩=>by
  obtain⟨j,A⟩:=qy c p5;have q:=yc (aQ cl o e) (t.toNat - e) c;refine⟨fun x f=>?_,by simp only[kI,List.length_append,nu];omega⟩;simp only[kI,List.mem_append]at f;rcases f with f | f
  ·unfold dU at f;obtain⟨y,u,rfl⟩:=List.mem_map.1 f;obtain⟨a,b,B,C,D,E⟩:=wH _ _ c y u;exact⟨e+a,e+b,by simp only;omega,by simp only;omega,by omega,by omega⟩
  ·exact j x f
theorem Fv{cl:Qk}(O:Fb cl){o:QK}(V:o.length=cl.length+1)(q:∀fr m,Sm (aQ cl o fr) m){c:Wy}(w:I0 c):∀(l pre:QK) (fr:Nat) (out:Qk) (b:Bool) (kn:Kn) (I:List (QX×Bool)),(pre++l).length≤5000→JO o cl.length fr l→fr≤cl.length→o.getD fr 0≠3→out.length≤fr→DV c kn →
  ∃u D,iter (eF c.1 c.2.1 c.2.2.1 c.2.2.2.1 c.2.2.2.2.1 c.2.2.2.2.2 (cl,o) (pre++l)) (out,b,kn,I,(fr:Int),(pre.length:Int))=some (out++(kI cl o c fr l).1,b || (kI cl o c fr l).2,u,D)∧DV c u
 | [],pre,fr,out,b,kn,I,_,_,_,_,_,hk=>by
  have X:¬((pre.length:Int)<(pre.length:Int)):=Int.lt_irrefl _;rw[List.append_nil];exact⟨kn,I,dP (by simp only[eF,X,decide_false,Bool.false_eq_true,if_false,kI,List.append_nil,Bool.or_false]),hk⟩
 | t::r,pre,fr,out,b,kn,I,A,hp,a5,h3,hout,hk=>by
  have hl:=O.1;obtain⟨p1,Y,p3,p4,p5⟩:=hp;have J:=yc (aQ cl o fr) (t.toNat - fr) c;have Z:=G9 O V w p1 p3 h3;rw[←Y]at Z;have e:=Lz (cl:=cl) (o:=o) (fr:=fr) (n:=t.toNat - fr) (by omega) V (by omega) (q _ _);rw[show fr+(t.toNat - fr)=t.toNat by omega,←Y]at e;have f:=hk.set (q fr (t.toNat - fr));have j:∀v,aT .str kn (Eb (aQ cl o fr) (t.toNat - fr))=some v→v=iZ (aQ cl o fr) (t.toNat - fr) c:=fun v hv=>hk _ v hv _ _ (q _ _) rfl
  have a1:=Iw (aQ cl o fr) (n:=t.toNat - fr) (by omega) c;have L:Nr (dU (iZ (aQ cl o fr) (t.toNat - fr) c).1 (fr:Int)):=Kz (by omega) (wH _ _ c) (by omega) (by omega);have E:=BX L (b:= -(fr:Int)) (by omega) (by omega);rw[Ij,show(fr:Int) + -(fr:Int)=0 by omega,Hc]at E;have M:=BX a1 (b:=(fr:Int)) (by omega) (by omega);have hw:IntKind.i64.wrap (0 - (fr:Int)) = -(fr:Int):=by rw[wrap_i64 (by omega) (by omega)];omega
  generalize Eb (aQ cl o fr) (t.toNat - fr)=key at e f j;simp only[kI];generalize iZ (aQ cl o fr) (t.toNat - fr) c=P at Z f j M E J;have a2:pre.length+(r.length+1)≤5000:=by simpa using A
  have X:(pre.length:Int)<((pre++t::r).length:Int):=by simp;omega
  have q2:0≤(pre.length:Int):=by omega
  have g:(out.length+(dU P.1 (fr:Int)).length)*32≤140737488355328∧out.length+(dU P.1 (fr:Int)).length≤9223372036854775807:=by rw[nu];omega
  obtain⟨z,hin,a3⟩:∃z,(if(!((aT .str kn key).isSome))=true then((iT cl o (fr:Int) t c.1 c.2.1 c.2.2.1 c.2.2.2.1 c.2.2.2.2.1 c.2.2.2.2.2).bind fun(N,B)=>((iQ N (IntKind.i64.wrap (0 - (fr:Int)))).bind fun C=>some (((cq .str kn key (C,B)),C,B))))
    else some ((kn,((aT .str kn key).getD (([]:Qk),false)).1,((aT .str kn key).getD (([]:Qk),false)).2)))=some (z,P.1,P.2)∧DV c z:=by
   cases hf:aT .str kn key with
   | none =>
    refine⟨cq .str kn key P,?_,f⟩;rw[if_pos (by rfl),Z,Option.bind_some];simp only[hw,E,Option.bind_some]
   | some v =>refine⟨kn,?_,hk⟩;rw[if_neg (by simp)];simp only[Option.getD_some];rw[j v hf]
  obtain⟨u,D,ih,a4⟩:=Fv O V q w r (pre++[t]) t.toNat (out++dU P.1 (fr:Int)) (b || P.2) z (cq .str I key true) (by simpa using A) p5 p3 (by rw[p4];decide) (by rw[List.length_append,nu];omega) a3;rw[List.append_assoc,←Y]at ih;simp only[List.singleton_append,List.length_append,List.length_singleton]at ih;refine⟨u,D,?_,a4⟩;rw[←List.append_assoc,←Bool.or_assoc,←ih];refine gA ?_;simp only[eF,X,q2,and_self,decide_true,if_true,Int.toNat_natCast,yq,e,Option.bind_some];rw[hin];simp only[Option.bind_some,M,g,and_self,if_true];rw[show IntKind.i64.wrap ((pre.length:Int)+1)=((pre.length+1:Nat):Int)from bF (by omega)];cases b <;> simp
def LF(cl:Qk)(o:QK)(c:Wy):Qk×Bool:=kI cl o c 0 (gq o o.length)
def me(cl:Qk)(o:QK)(c:Wy):(Qk×QK)×(Qk×QZ):=((cl,o),(CQ (LF cl o c).1,tv cl c.2.1 (CQ (LF cl o c).1)))
theorem PM.zero{n:Int}{p:Qk×QK}(h:PM n p):p.2.getD 0 0≠3:=by
 by_cases e:0<p.1.length
 ·rw[h.LW.zero e];decide
 ·have:=h.LW.last;rw[show p.1.length=0 by omega]at this;rw[this];decide
theorem LC{b:Option Z1}{x:QK}{p:Qk×QK}(I:aU b x=some (p,0))(f:PM (x.length:Int) p)(X:x.length≤4096){c:Wy}(w:I0 c){kn:Kn}(hk:DV c kn)(J:Qk)(L:Bool)(v:QK)(z:Qk)(A:QK)(B):
  ∃j,cH x J L b c.1 c.2.1 c.2.2.1 c.2.2.2.1 c.2.2.2.2.1 c.2.2.2.2.2 v z A B kn=some (0,(LF p.1 p.2 c).1,(LF p.1 p.2 c).2,x,p.1,p.2,some (me p.1 p.2 c),j)∧DV c j:=by
 have C:=f.Oy (by omega);have hl:=C.1;have M:=f.LW.len;have q:JO p.2 p.1.length 0 (gq p.2 p.2.length):=by rw[sk];exact oe _ _ _ (by omega)
 have N:=rI p.2 p.2.length;obtain⟨j,u,e,D⟩:=Fv C M f.sm w (gq p.2 p.2.length) [] 0 [] false kn [] (by simp;omega) q (by omega) f.zero (by simp) hk;simp only[List.nil_append,List.length_nil,Bool.false_or]at e;obtain⟨O,Y⟩:=qy c q;have E:=JA C p.2 w.1 w.2 (l:=(LF p.1 p.2 c).1) (by unfold LF;omega) O;refine⟨_,?_,D.Ng u⟩;unfold cH;rw[I,Option.bind_some];simp only[bne_self_eq_false,Bool.false_eq_true,if_false];rw[parts_eq p.1 (by omega),Option.bind_some];have V:iter (eF c.1 c.2.1 c.2.2.1 c.2.2.2.1 c.2.2.2.2.1 c.2.2.2.2.2 p (gq p.2 p.2.length)) (([]:Qk),false,kn,([]:List (QX×Bool)),(0:Int),(0:Int))=some ((LF p.1 p.2 c).1,(LF p.1 p.2 c).2,j,u):=e;rw[V,Option.bind_some];simp only[E,Option.bind_some];rfl
end
end Go.Proofs.YtbedjpdfkmfplaaGreatDoor.T
namespace Go.Proofs.YtbedjpdfkmfplaaGreatDoor.T
open Go Go.Tv Go.Proofs
def Ho{γ:Type}(o:Option γ)(P:γ→Prop):Prop:=∃r,o=some r∧P r
def Nm{α ε:Type}(Q:α→Prop):α⊕ε→Prop
 | .inl x=>Q x
 | .inr _=>True
def Lp{α β:Type}(J:α→Prop)(Q:β→Prop):α⊕β→Prop
 | .inl x=>J x
 | .inr x=>Q x
section
variable{α β γ ε:Type}{P:α→Prop}{R:β→Prop}
theorem ao{f:Option α}{K:α→Option β}(h:Ho f P)(k:∀r,P r→Ho (K r) R):Ho (f.bind K) R:=by
 obtain⟨r,e,j⟩:=h;rw[e];exact k r j
theorem aq{x:α}(h:P x):Ho (some x) P:=⟨x,rfl,h⟩
theorem aJ{c:Prop}[Decidable c]{a b:Option α}(e:c→Ho a P)(j:¬c→Ho b P):Ho (if c then a else b) P:=by
 by_cases h:c
 ·rw[if_pos h];exact e h
 ·rw[if_neg h];exact j h
theorem aW{c:Prop}[Decidable c]{a b:Option α}(h:c)(e:Ho a P):Ho (if c then a else b) P:=by rw[if_pos h];exact e
theorem Gb{f:Option α}{j:α→Prop}(h:Ho f P)(k:∀r,P r→j r):Ho f j:=let ⟨r,e,q⟩:=h;⟨r,e,k r q⟩
theorem bG{S T:Type}{j:S→Option (S⊕T)}(I:S→Prop)(q:S→Nat){Q:T→Prop}{s:S}(h:I s)(step:∀s,I s→Ho (j s) (Lp (fun y=>I y∧q y<q s) Q)):Ho (iter j s) Q:=by
 refine dB I q Q (fun s v=>?_) h;obtain⟨r,e,u⟩:=step s v;cases r with
 | inl y=>exact .inl ⟨y,e,u⟩
 | inr t=>exact .inr ⟨t,e,u⟩
theorem OS{c:Prop}[Decidable c]{a b:Option α}{K:α→Option β}(e:c→Ho (a.bind K) R)(f:¬c→Ho (b.bind K) R):Ho ((if c then a else b).bind K) R:=by
 by_cases h:c
 ·rw[if_pos h];exact e h
 ·rw[if_neg h];exact f h
end
theorem dec_lt{a b:Int}:(decide (a<b)=true)↔a<b:=decide_eq_true_iff
theorem Ga(c:Int):∀(l:QX) (k:Int),0≤k→wB l c k = -1∨(k≤wB l c k∧wB l c k<k+l.length∧(∀x r,l=x::r→(x == c.toNat.toUInt8)=false→k<wB l c k))
 | [],k,_=> .inl rfl
 | x::r,k,hk=>by
  simp only[wB];by_cases e:(x == c.toNat.toUInt8)=true
  ·rw[if_pos e];exact .inr ⟨Int.le_refl _,by simp only[List.length_cons];omega,fun y s h f=>by cases h;rw[e]at f;cases f⟩
  ·rw[if_neg e];rcases Ga c r (k+1) (by omega)with h | ⟨j,q,_⟩
   ·exact .inl h
   ·exact .inr ⟨by omega,by simp only[List.length_cons];omega,fun _ _ _ _=>by omega⟩
theorem qs(c:Int):Ho (dJ c) (fun _=>True):=by
 have:∃b,dJ c=some b:=by
  unfold dJ
  repeat' split
  all_goals exact⟨_,rfl⟩
 obtain⟨b,e⟩:=this;exact⟨b,e,trivial⟩
theorem Jc(c:Int):Ho (jb c) (fun _=>True):=by
 have:∃b,jb c=some b:=by
  unfold jb
  repeat' split
  all_goals exact⟨_,rfl⟩
 obtain⟨b,e⟩:=this;exact⟨b,e,trivial⟩
def At(t:QX)(a:Int):Prop:=0≤a∧a≤(t.length:Int)
def NN(t:QX)(a:Int):Int:=((t.getD a.toNat 0).toNat:Int)
section
variable{t:QX}(ht:t.length≤4096){a p3 p4 p5 p6:Int}{o1:QQ}{o2:QK}{o3:XJ}{o4:XX}
include ht
theorem nU(ha:At t a):Ho (bj t a p3 p4 p5 p6 o1 o2 o3 o4) (Nm fun(c,p)=>a≤p∧At t p∧(c≠0→p<(t.length:Int)∧c=NN t p)):=by
 have key:Ho (iter (dR t p3 p4 p5 p6 o1 o2 o3 o4) a) (fun r=>match r with
   | .inl v=>a≤v∧At t v
   | .inr (.inl _)=>True
   | .inr (.inr (c,p))=>a≤p∧At t p∧p<(t.length:Int)∧c=NN t p):=by
  refine bG (fun p=>a≤p∧At t p) (fun p=>(t.length - p).toNat) ⟨Int.le_refl _,ha⟩ (fun p ⟨A,u,B⟩=>?_);unfold dR;refine aJ (fun hl=>?_) (fun _=>aq ⟨A,u,B⟩);rw[dec_lt]at hl;refine aW ⟨u,hl⟩ (aJ (fun j=>?_) fun _=>?_)
  ·refine aW ⟨u,by omega,Int.le_refl _⟩ ?_;simp only[eY,gF,Option.bind_some];have C:(t.take ((t.length:Int)).toNat).drop p.toNat=t.getD p.toNat 0::t.drop (p.toNat+1):=by rw[Int.toNat_natCast,List.take_length,List.drop_eq_getElem_cons (by omega)];rw[List.getD_eq_getElem?_getD,List.getElem?_eq_getElem (by omega)];rfl
   have z:(t.getD p.toNat 0 == (10:Int).toNat.toUInt8)=false:=by rw[beq_eq_false_iff_ne];intro e;rw[e]at j;revert j;decide
   have hi:=Ga 10 ((t.take ((t.length:Int)).toNat).drop p.toNat) 0 (by omega);have q:(((t.take ((t.length:Int)).toNat).drop p.toNat).length:Int)=t.length - p:=by rw[Int.toNat_natCast,List.take_length,List.length_drop];omega
   rw[q]at hi;refine OS (fun hd=>?_) (fun hd=>?_)
   ·rw[dec_lt]at hd;simp only[Option.bind_some];rw[wrap_i64 (x:=(t.length:Int) - p) (by omega) (by omega),wrap_i64 (by omega) (by omega)];exact aq ⟨⟨by omega,by omega,by omega⟩,by omega⟩
   ·rw[dec_lt]at hd;rcases hi with hi | ⟨E,I,D⟩
    ·omega
    have:=D _ _ C z;simp only[Option.bind_some];rw[wrap_i64 (by omega) (by omega)];exact aq ⟨⟨by omega,by omega,by omega⟩,by omega⟩
  ·refine ao (Jc _) (fun b _=>aJ (fun _=>?_) fun _=>?_)
   ·rw[wrap_i64 (by omega) (by omega)];exact aq ⟨⟨by omega,by omega,by omega⟩,by omega⟩
   ·refine ao (P:=fun _=>True) (ao (qs _) fun b _=>aJ (fun _=>?_) fun _=>aq trivial) (fun v _=>aJ (fun _=>?_) fun _=>?_)
    ·exact⟨_,rfl,trivial⟩
    ·exact⟨_,rfl,trivial⟩
    ·exact aq ⟨A,⟨u,B⟩,hl,rfl⟩
 unfold bj;refine ao key (fun r f=>?_);match r,f with
 | .inl v,f=>exact aq ⟨f.1,f.2,fun h=>absurd rfl h⟩
 | .inr (.inl (C,J)),_=>exact⟨_,rfl,trivial⟩
 | .inr (.inr (c,p)),f=>exact aq ⟨f.1,f.2.1,fun _=>f.2.2⟩
theorem mw(ha:At t a){c:Int}(q:c≠0):Ho (bk c t a p3 p4 p5 p6 o1 o2 o3 o4) (Nm fun(b,p)=>a≤p∧At t p∧(b=true→a<p)):=by
 refine ao (nU ht ha) ?_;rintro(⟨k,p⟩ | e) h
 ·obtain⟨u,j,v⟩:=h;refine aJ (fun _=>aq ⟨u,j,fun h=>by cases h⟩) fun hk=>?_
  have f:k=c:=by simpa using hk
  have z:=(v (by rw[f];exact q)).1;obtain⟨A,B⟩:=j;rw[wrap_i64 (by omega) (by omega)];exact aq ⟨by omega,⟨by omega,by omega⟩,fun _=>by omega⟩
 ·exact⟨_,rfl,trivial⟩
theorem qz(ha:At t a){c:Int}(f:c≠0):Ho (bD c t a p3 p4 p5 p6 o1 o2 o3 o4) (Nm fun p=>a<p∧At t p):=by
 refine ao (mw ht ha f) ?_;rintro(⟨b,p⟩ | e) h
 ·refine aJ (fun _=>⟨_,rfl,trivial⟩) fun hb=>aq ⟨h.2.2 (by simpa using hb),h.2.1⟩
 ·exact⟨_,rfl,trivial⟩
theorem wg(ha:At t a):Ho (cb t a p3 p4 p5 p6 o1 o2 o3 o4) (Nm fun(_,_,p)=>a<p∧At t p):=by
 refine ao (nU ht ha) ?_;rintro(⟨k,p⟩ | e) h
 rotate_left
 ·exact⟨_,rfl,trivial⟩
 obtain⟨J,B,C⟩:=h;obtain⟨b,hb,_⟩:=qs k;dsimp only;rw[hb];refine aJ (fun _=>⟨_,rfl,trivial⟩) fun u=>?_
 have j:b=true:=by simpa using u
 subst j;have v:k≠0:=fun e=>by rw[e]at hb;revert hb;decide
 obtain⟨L,D⟩:=C v;have key:Ho (iter (dS t) p) (fun q=>p<q∧At t q):=by
  refine bG (fun q=>p≤q∧At t q) (fun q=>(t.length - q).toNat) ⟨Int.le_refl _,B⟩ (fun q ⟨E,g2,g3⟩=>?_);unfold dS;refine OS (fun hl=>?_) fun hl=>?_
  ·rw[dec_lt]at hl;rw[if_pos ⟨g2,hl⟩];obtain⟨b,f,_⟩:=qs (NN t q);show Ho (((dJ (NN t q)).bind fun z=>some z).bind _) _;rw[f];refine aJ (fun _=>?_) fun A=>?_
   ·rw[wrap_i64 (by omega) (by omega)];exact aq ⟨⟨by omega,by omega,by omega⟩,by omega⟩
   ·refine aq ⟨?_,g2,g3⟩;have:p≠q:=fun e=>by subst e;rw[←D,hb]at f;cases f;exact A rfl
    omega
  ·rw[dec_lt]at hl;exact aq ⟨by omega,g2,g3⟩
 refine ao key fun q I=>?_
 obtain⟨E,g2,g3⟩:=I;have:=B.1;exact aW ⟨by omega,by omega,g3⟩ (aq ⟨by simp only;omega,g2,g3⟩)
theorem Dz(ha:At t a):Ho (dq t a p3 p4 p5 p6 o1 o2 o3 o4) (Nm fun(_,p)=>a<p∧At t p):=by
 refine ao (wg ht ha) ?_;rintro(⟨w,q,p⟩ | e) h
 ·exact aJ (fun _=>⟨_,rfl,trivial⟩) fun _=>aq h
 ·exact⟨_,rfl,trivial⟩
theorem C2(ha:At t a):Ho (dv t a p3 p4 p5 p6 o1 o2 o3 o4) (Nm fun(_,p)=>a<p∧At t p):=by
 refine ao (wg ht ha) ?_;rintro(⟨w,q,p⟩ | e) h
 ·exact aJ (fun _=>aq h) fun _=>⟨_,rfl,trivial⟩
 ·exact⟨_,rfl,trivial⟩
theorem n6(ha:At t a){c:Int}(u:c≠0):Ho (bI c t a p3 p4 p5 p6 o1 o2 o3 o4) (Nm fun(_,p)=>a<p∧At t p):=by
 have key:Ho (iter (eL c t p3 p4 p5 p6 o1 o2 o3 o4) (a,0)) (Nm fun(p,_)=>a≤p∧At t p∧p<(t.length:Int)):=by
  refine bG (fun(p,_)=>a≤p∧At t p) (fun(p,_)=>(t.length - p).toNat) ⟨Int.le_refl _,ha⟩ (fun(p,b) ⟨v,f⟩=>?_);refine ao (nU ht f) ?_;rintro(⟨k,q⟩ | e) h
  ·obtain⟨B,g2,g3⟩:=h;refine aJ (fun _=>?_) fun hk=>?_
   ·refine ao (C2 ht g2) ?_;rintro(⟨x,r⟩ | e) h
    ·obtain⟨C,z,A⟩:=h;have:=f.2;exact aq ⟨⟨by omega,z,A⟩,by simp only;omega⟩
    ·exact⟨_,rfl,trivial⟩
   ·have j:k=c:=by simpa using hk
    exact aq ⟨by omega,g2,(g3 (by rw[j];exact u)).1⟩
  ·exact⟨_,rfl,trivial⟩
 refine ao key ?_;rintro(⟨p,b⟩ | e) h
 ·obtain⟨v,⟨f,_⟩,D⟩:=h;dsimp only;rw[wrap_i64 (by omega) (by omega)];exact aq ⟨by omega,by omega,by omega⟩
 ·exact⟨_,rfl,trivial⟩
omit ht in
theorem Jv(w:QX)(e:o1.length≤24):Ho (cX o1 w) (fun i=>i<(o1.length:Int)):=by
 have key:Ho (iter (cy o1 w) 0) (Lp (fun _=>True) fun i=>i<(o1.length:Int)):=by
  refine bG (fun i=>0≤i∧i≤(o1.length:Int)) (fun i=>(o1.length - i).toNat) ⟨by omega,by omega⟩ (fun i ⟨f,j⟩=>?_);unfold cy;refine aJ (fun hl=>?_) fun _=>aq trivial
  rw[dec_lt]at hl;refine aW ⟨f,hl⟩ (aJ (fun _=>aq hl) fun _=>?_);rw[wrap_i64 (by omega) (by omega)];exact aq ⟨⟨by omega,by omega⟩,by omega⟩
 refine ao key ?_;rintro(_ | i) h
 ·exact aq (by omega)
 ·exact aq h
theorem Jk(ha:At t a)(f:o1.length≤24):Ho (ee t a p3 p4 p5 p6 o1 o2 o3 o4) (Nm fun(i,p)=>a<p∧At t p∧0≤i∧i<(o1.length:Int)):=by
 refine ao (wg ht ha) ?_;rintro(⟨w,q,p⟩ | e) h
 ·refine ao (Jv w f) fun i hi=>aJ (fun _=>⟨_,rfl,trivial⟩) fun hl=>?_
  rw[dec_lt]at hl;exact aq ⟨h.1,h.2,by omega,hi⟩
 ·exact⟨_,rfl,trivial⟩
end
end Go.Proofs.YtbedjpdfkmfplaaGreatDoor.T
