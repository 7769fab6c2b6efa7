/- All parts: the lines of a text. -/
import Derived.Test.YtbedjpdfkmfplaaGreatDoorTv21u
import Derived.Test.YtbedjpdfkmfplaaGreatDoorTvSj
namespace Go.Proofs.YtbedjpdfkmfplaaGreatDoor.T
open Go Go.Tv Go.Proofs
noncomputable section
def p8(o:List Int):Nat→Nat→List Int
 | 0,_=>[]
 | m+1,k=>if o.getD k 0=2 then(k:Int)::p8 o m (k+1)else p8 o m (k+1)
theorem I2(o:List Int):∀m k,p8 o (m+1) k=p8 o m k++(if o.getD (k+m) 0=2 then[((k+m:Nat):Int)]else[])
 | 0,k=>by simp only[p8];split <;> simp_all
 | m+1,k=>by
  have:=I2 o m (k+1)
  rw[show k+1+m=k+(m+1) by omega]at this
  simp only[p8]at this ⊢
  rw[this]
  split <;> simp
theorem aCh(o:List Int):∀m,hH o m=p8 o m 0
 | 0=>rfl
 | m+1=>by
  rw[I2,←aCh o m]
  simp only[hH,Nat.zero_add]
  split <;> simp
def Pts(o:List Int)(m:Nat):Nat→List Int→Prop
 | _,[]=>True
 | fr,t::r=>fr≤t.toNat∧t=(t.toNat:Int)∧t.toNat≤m∧o.getD t.toNat 0=2∧Pts o m t.toNat r
theorem Pts.from{o:List Int}{m:Nat}:∀ {fr fr':Nat} {l:List Int},fr'≤fr→Pts o m fr l→Pts o m fr' l
 | _,_,[],_,_=>trivial
 | _,_,t::r,h,hp=>⟨by have:=hp.1;omega,hp.2⟩
theorem R1(o:List Int){M:Nat}:∀m k,k+m≤M+1→Pts o M k (p8 o m k)
 | 0,_,_=>trivial
 | m+1,k,h=>by
  have:=R1 o (M:=M) m (k+1) (by omega)
  simp only[p8]
  split
  ·rename_i he
   exact⟨by simp,by simp,by simp;omega,by simpa using he,this.from (by simp)⟩
  ·exact this.from (by omega)
def lN(cl:List dL)(o:List Int)(c:Wy):Nat→List Int→List dL×Bool
 | _,[]=>([],false)
 | fr,t::r=>(eC (jF (aX cl o fr) (t.toNat - fr) c).1 (fr:Int)++(lN cl o c t.toNat r).1,(jF (aX cl o fr) (t.toNat - fr) c).2 || (lN cl o c t.toNat r).2)
def aGy(c:Wy):Prop:=1≤c.2.1∧c.2.1≤64
theorem aFr{cl:List dL}(hc:Cel cl){o:List Int}(ho:o.length=cl.length+1){c:Wy}(w:aGy c){fr to:Nat}(h1:fr≤to)(h2:to≤cl.length)(h3:o.getD fr 0≠3):
  i7 cl o (fr:Int) (to:Int) c.1 c.2.1 c.2.2.1 c.2.2.2.1 c.2.2.2.2.1 c.2.2.2.2.2=some (eC (jF (aX cl o fr) (to - fr) c).1 (fr:Int),(jF (aX cl o fr) (to - fr) c).2):=by
 obtain⟨n,rfl⟩:∃n,to=fr+n:=⟨to - fr,by omega⟩
 rw[Nat.add_sub_cancel_left]
 exact aIi hc ho h2 c w.1 w.2 h3
end
end Go.Proofs.YtbedjpdfkmfplaaGreatDoor.T
namespace Go.Proofs.YtbedjpdfkmfplaaGreatDoor.T
open Go Go.Tv Go.Proofs
noncomputable section
theorem CvC.get:∀ {a n:Int} {s:List dL},CvC a s n→∀i,0≤(s.getD i c0).2.2.1∧(s.getD i c0).2.2.1≤2∧0≤(s.getD i c0).2.2.2∧(s.getD i c0).2.2.2≤2
 | a,n,[],_,i=>by simp
 | a,n,x::s,h,0=>⟨h.2.2.1,h.2.2.2.1,h.2.2.2.2.1,h.2.2.2.2.2.1⟩
 | a,n,x::s,h,i+1=>by simpa using CvC.get h.2.2.2.2.2.2 i
theorem PM.cel{n:Int}{p:List dL×List Int}(h:PM n p)(hn:n≤4096):Cel p.1:=⟨by have:=h.len;omega,fun i=>⟨(h.cov.get i).1,(h.cov.get i).2.1⟩⟩
theorem PM.sm{n:Int}{p:List dL×List Int}(h:PM n p)(fr m:Nat):Sm (aX p.1 p.2 fr) m:=fun j _=>by
 obtain⟨a1,a2,a3,a4⟩:=h.cov.get (fr+j)
 exact⟨a1,a2,a3,a4,(h.opp.val _).1,(h.opp.val _).2⟩
abbrev Kn:=List ((List UInt8)×((List dL)×Bool))
def KOk(c:Wy)(kn:Kn):Prop:=∀k v,bI .str kn k=some v→∀d n,Sm d n→aD3 d n=k→v=jF d n c
theorem KOk.nil(c:Wy):KOk c []:=fun k v h=>by cases h
theorem O1{α:Type}(k k':List UInt8)(x:α):∀kv:List (List UInt8×α),bI .str (eS .str kv k x) k'=if k'=k then some x else bI .str kv k'
 | []=>by
  show(if eQ .str k k'=true then some x else none)=_
  by_cases h:k'=k
  ·subst h
   rw[if_pos (by simp[eQ]),if_pos rfl]
  ·rw[if_neg (show ¬eQ .str k k'=true by simpa [eQ]using Ne.symm h),if_neg h]
   rfl
 | p::r=>by
  simp only[eS,bI]
  by_cases hp:p.1=k
  ·rw[if_pos (show eQ .str p.1 k=true by simpa [eQ]using hp)]
   simp only[bI]
   by_cases h:k'=k
   ·subst h;rw[if_pos rfl,if_pos (by simp[eQ])]
   ·have h1:¬eQ .str k k'=true:=by simpa [eQ]using Ne.symm h
    have h2:¬eQ .str p.1 k'=true:=by rw[hp];exact h1
    rw[if_neg h,if_neg h1,if_neg h2]
  ·rw[if_neg (show ¬eQ .str p.1 k=true by simpa [eQ]using hp)]
   simp only[bI]
   by_cases h:p.1=k'
   ·have h1:eQ .str p.1 k'=true:=by simpa [eQ]using h
    have h2:¬k'=k:=fun e=>hp (h.trans e)
    rw[if_pos h1,if_neg h2,if_pos h1]
   ·have h1:¬eQ .str p.1 k'=true:=by simpa [eQ]using h
    rw[if_neg h1,if_neg h1]
    exact O1 k k' x r
theorem qR{α:Type}{q:List UInt8→Bool}(k:List UInt8){v:α}:∀ {kv:List (List UInt8×α)},bI .str (kv.filter fun p=>q p.1) k=some v→bI .str kv k=some v
 | [],h=>h
 | p::r,h=>by
  simp only[bI]
  by_cases hp:eQ .str p.1 k=true
  ·rw[if_pos hp]
   have e:p.1=k:=by simpa [eQ]using hp
   simp only[List.filter_cons]at h
   cases hq:q p.1 with
   | true =>
    rw[hq,if_pos rfl]at h
    simp only[bI]at h
    rw[if_pos hp]at h
    exact h
   | false =>
    rw[hq,if_neg (by decide)]at h
    exfalso
    have hnone:bI .str (r.filter fun p=>q p.1) k=none:=kI (K:= .str) rfl fun p' hp' e'=>by
     have:=(List.mem_filter.1 hp').2
     rw[e',←e,hq]at this
     cases this
    rw[hnone]at h
    cases h
  ·rw[if_neg hp]
   simp only[List.filter_cons]at h
   split at h
   ·simp only[bI]at h
    rw[if_neg hp]at h
    exact qR k h
   ·exact qR k h
theorem KOk.set{c:Wy}{kn:Kn}(h:KOk c kn){d:Dt}{n:Nat}(hs:Sm d n):KOk c (eS .str kn (aD3 d n) (jF d n c)):=fun k v hv d' n' hs' hk=>by
 rw[O1]at hv
 split at hv
 ·rename_i e
  cases hv
  obtain⟨rfl,hd⟩:=aG7 hs' hs (hk.trans e)
  exact(aCs hd c).symm
 ·exact h k v hv d' n' hs' hk
theorem KOk.prune{c:Wy}{kn:Kn}(h:KOk c kn)(us:List (List UInt8×Bool)):KOk c (xW .str kn us):=fun k v hv=>h k v (qR (q:=fun x=>(bI .str us x).getD false) k hv)
theorem aAJ{cl:List dL}{o:List Int}(c:Wy):∀ {l:List Int} {fr:Nat},Pts o cl.length fr l→(∀x∈(lN cl o c fr l).1,Rg cl.length x)∧(lN cl o c fr l).1.length+fr≤max fr cl.length
 | [],fr,_=>⟨fun x hx=>(by cases hx),by simp only[lN,List.length_nil];omega⟩
 | t::r,fr,⟨p1,p2,p3,p4,p5⟩=>by
  obtain⟨h1,h2⟩:=aAJ c p5
  have hle:=Q3 (aX cl o fr) (t.toNat - fr) c
  refine⟨fun x hx=> ?_,by simp only[lN,List.length_append,pS];omega⟩
  simp only[lN,List.mem_append]at hx
  rcases hx with hx | hx
  ·unfold eC at hx
   obtain⟨y,hy,rfl⟩:=List.mem_map.1 hx
   obtain⟨a,b,q1,q2,q3,q4⟩:=N0 _ _ c y hy
   exact⟨fr+a,fr+b,by simp only;omega,by simp only;omega,by omega,by omega⟩
  ·exact h1 x hx
theorem aFg{cl:List dL}(hc:Cel cl){o:List Int}(ho:o.length=cl.length+1)(hsm:∀fr m,Sm (aX cl o fr) m){c:Wy}(w:aGy c):∀(l pre:List Int) (fr:Nat) (out:List dL) (b:Bool) (kn:Kn) (us:List (List UInt8×Bool)),(pre++l).length≤5000→Pts o cl.length fr l→fr≤cl.length→o.getD fr 0≠3→out.length≤fr→KOk c kn →
  ∃kn' us',iter (eK c.1 c.2.1 c.2.2.1 c.2.2.2.1 c.2.2.2.2.1 c.2.2.2.2.2 (cl,o) (pre++l)) (out,b,kn,us,(fr:Int),(pre.length:Int))=some (out++(lN cl o c fr l).1,b || (lN cl o c fr l).2,kn',us')∧KOk c kn'
 | [],pre,fr,out,b,kn,us,_,_,_,_,_,hk=>by
  have q1:¬((pre.length:Int)<(pre.length:Int)):=Int.lt_irrefl _
  rw[List.append_nil]
  exact⟨kn,us,dQ (by simp only[eK,q1,decide_false,Bool.false_eq_true,if_false,lN,List.append_nil,Bool.or_false]),hk⟩
 | t::r,pre,fr,out,b,kn,us,hlen,hp,hfr,h3,hout,hk=>by
  have hl:=hc.1
  obtain⟨p1,p2,p3,p4,p5⟩:=hp
  have hple:=Q3 (aX cl o fr) (t.toNat - fr) c
  have he:=aFr hc ho w p1 p3 h3
  rw[←p2]at he
  have hkey:=aJq (cl:=cl) (o:=o) (fr:=fr) (n:=t.toNat - fr) (by omega) ho (by omega) (hsm _ _)
  rw[show fr+(t.toNat - fr)=t.toNat by omega,←p2]at hkey
  have hset:=hk.set (hsm fr (t.toNat - fr))
  have hgot:∀v,bI .str kn (aD3 (aX cl o fr) (t.toNat - fr))=some v→v=jF (aX cl o fr) (t.toNat - fr) c:=fun v hv=>hk _ v hv _ _ (hsm _ _) rfl
  have hnr:=aGD (aX cl o fr) (n:=t.toNat - fr) (by omega) c
  have hnr2:Nr (eC (jF (aX cl o fr) (t.toNat - fr) c).1 (fr:Int)):=aHY (by omega) (N0 _ _ c) (by omega) (by omega)
  have hm2:=aDe hnr2 (b:= -(fr:Int)) (by omega) (by omega)
  rw[aHM,show(fr:Int) + -(fr:Int)=0 by omega,aFS]at hm2
  have hm1:=aDe hnr (b:=(fr:Int)) (by omega) (by omega)
  have hw:IntKind.i64.wrap (0 - (fr:Int)) = -(fr:Int):=by rw[wrap_i64 (by omega) (by omega)];omega
  generalize aD3 (aX cl o fr) (t.toNat - fr)=key at hkey hset hgot
  simp only[lN]
  generalize jF (aX cl o fr) (t.toNat - fr) c=P at he hset hgot hm1 hm2 hple
  have hlen':pre.length+(r.length+1)≤5000:=by simpa using hlen
  have q1:(pre.length:Int)<((pre++t::r).length:Int):=by simp;omega
  have q2:0≤(pre.length:Int):=by omega
  have g:(out.length+(eC P.1 (fr:Int)).length)*32≤140737488355328∧out.length+(eC P.1 (fr:Int)).length≤9223372036854775807:=by
   rw[pS];omega
  obtain⟨kn1,hin,hk1⟩:∃kn1,(if(!((bI .str kn key).isSome))=true then((i7 cl o (fr:Int) t c.1 c.2.1 c.2.2.1 c.2.2.2.1 c.2.2.2.2.1 c.2.2.2.2.2).bind fun(r118,r119)=>((i9 r118 (IntKind.i64.wrap (0 - (fr:Int)))).bind fun r121=>some (((eS .str kn key (r121,r119)),r121,r119))))
    else some ((kn,((bI .str kn key).getD (([]:List dL),false)).1,((bI .str kn key).getD (([]:List dL),false)).2)))=some (kn1,P.1,P.2)∧KOk c kn1:=by
   cases hf:bI .str kn key with
   | none =>
    refine⟨eS .str kn key P,?_,hset⟩
    rw[if_pos (by rfl),he,Option.bind_some]
    simp only[hw,hm2,Option.bind_some]
   | some v =>
    refine⟨kn,?_,hk⟩
    rw[if_neg (by simp)]
    simp only[Option.getD_some]
    rw[hgot v hf]
  obtain⟨kn',us',ih,hk'⟩:=aFg hc ho hsm w r (pre++[t]) t.toNat (out++eC P.1 (fr:Int)) (b || P.2) kn1 (eS .str us key true) (by simpa using hlen) p5 p3 (by rw[p4];decide) (by rw[List.length_append,pS];omega) hk1
  rw[List.append_assoc,←p2]at ih
  simp only[List.singleton_append,List.length_append,List.length_singleton]at ih
  refine⟨kn',us',?_,hk'⟩
  rw[←List.append_assoc,←Bool.or_assoc,←ih]
  refine iI ?_
  simp only[eK,q1,q2,and_self,decide_true,if_true,Int.toNat_natCast,N2,hkey,Option.bind_some]
  rw[hin]
  simp only[Option.bind_some,hm1,g,and_self,if_true]
  rw[show IntKind.i64.wrap ((pre.length:Int)+1)=((pre.length+1:Nat):Int)from bZ (by omega)]
  cases b <;> simp
def LF(cl:List dL)(o:List Int)(c:Wy):List dL×Bool:=lN cl o c 0 (hH o o.length)
def aDT(cl:List dL)(o:List Int)(c:Wy):(List dL×List Int)×(List dL×List (List Int)):=((cl,o),(aCR (LF cl o c).1,yD cl c.2.1 (aCR (LF cl o c).1)))
theorem PM.zero{n:Int}{p:List dL×List Int}(h:PM n p):p.2.getD 0 0≠3:=by
 by_cases h0:0<p.1.length
 ·rw[h.opp.zero h0];decide
 ·have:=h.opp.last
  rw[show p.1.length=0 by omega]at this
  rw[this]
  decide
theorem aJE{b:Option Z1}{x:List Int}{p:List dL×List Int}(hP:bB b x=some (p,0))(hpm:PM (x.length:Int) p)(hx:x.length≤4096){c:Wy}(w:aGy c){kn:Kn}(hk:KOk c kn)(f1:List dL)(f2:Bool)(f10:List Int)(f11:List dL)(f12:List Int)(f13):
  ∃kn',cT x f1 f2 b c.1 c.2.1 c.2.2.1 c.2.2.2.1 c.2.2.2.2.1 c.2.2.2.2.2 f10 f11 f12 f13 kn=some (0,(LF p.1 p.2 c).1,(LF p.1 p.2 c).2,x,p.1,p.2,some (aDT p.1 p.2 c),kn')∧KOk c kn':=by
 have hc:=hpm.cel (by omega)
 have hl:=hc.1
 have ho:=hpm.opp.len
 have hpts:Pts p.2 p.1.length 0 (hH p.2 p.2.length):=by rw[aCh];exact R1 _ _ _ (by omega)
 have hpl:=xQ p.2 p.2.length
 obtain⟨kn',us',e,hk'⟩:=aFg hc ho hpm.sm w (hH p.2 p.2.length) [] 0 [] false kn [] (by simp;omega) hpts (by omega) hpm.zero (by simp) hk
 simp only[List.nil_append,List.length_nil,Bool.false_or]at e
 obtain⟨r1,r2⟩:=aAJ c hpts
 have hpe:=aHf hc p.2 w.1 w.2 (l:=(LF p.1 p.2 c).1) (by unfold LF;omega) r1
 refine⟨_,?_,hk'.prune us'⟩
 unfold cT
 rw[hP,Option.bind_some]
 simp only[bne_self_eq_false,Bool.false_eq_true,if_false]
 rw[aG4 p.1 (by omega),Option.bind_some]
 have e':iter (eK c.1 c.2.1 c.2.2.1 c.2.2.2.1 c.2.2.2.2.1 c.2.2.2.2.2 p (hH p.2 p.2.length)) (([]:List dL),false,kn,([]:List ((List UInt8)×Bool)),(0:Int),(0:Int))=some ((LF p.1 p.2 c).1,(LF p.1 p.2 c).2,kn',us'):=e
 rw[e',Option.bind_some]
 simp only[hpe,Option.bind_some]
 rfl
end
end Go.Proofs.YtbedjpdfkmfplaaGreatDoor.T
namespace Go.Proofs.YtbedjpdfkmfplaaGreatDoor.T
open Go Go.Tv Go.Proofs
noncomputable section
def Exb(b:Option Z1):Prop:=∀x,bB b x=bB exB x
theorem aF5{x:List Int}(h:4096<x.length):bB exB x=some (([],[]),3):=by
 have hlen:(x.length:Int) > 4096:=by omega
 unfold bB exB
 simp only[Option.isNone,Bool.false_eq_true,if_false,hlen,decide_true,if_true]
theorem aAU{b b':Option Z1}(h:∀x,bB b x=bB b' x)(x:List Int)(f1 f2 c1 c2 c3 c4 c5 c6 f10 f11 f12 f13 kn):cT x f1 f2 b c1 c2 c3 c4 c5 c6 f10 f11 f12 f13 kn=cT x f1 f2 b' c1 c2 c3 c4 c5 c6 f10 f11 f12 f13 kn:=by
 unfold cT
 rw[h]
theorem aFD{b b':Option Z1}(h:∀x,bB b x=bB b' x)(c1 c2 c3 c4 c5 c6 x):eO b c1 c2 c3 c4 c5 c6 x=eO b' c1 c2 c3 c4 c5 c6 x:=by
 unfold eO
 simp only[aAU h]
theorem aEI{b b':Option Z1}(h:∀x,bB b x=bB b' x)(e1 e2 e3 f1 f2 c1 c2 c3 c4 c5 c6 f10 f11 f12 f13 kn):fN e1 e2 e3 f1 f2 b c1 c2 c3 c4 c5 c6 f10 f11 f12 f13 kn=fN e1 e2 e3 f1 f2 b' c1 c2 c3 c4 c5 c6 f10 f11 f12 f13 kn:=by
 unfold fN
 simp only[aAU h]
theorem aHO:fR=some ([],jR,l8,[],aGO,aHp,[],2,2):=rfl
theorem aHB:∃b,nM [] jR l8 [] aGO aHp [] 2 2=some (b,0,0)∧Exb b:=by
 obtain⟨t1,t2,t3,e,f1,f2,f3⟩:=aJ0
 exact⟨_,e,aJt f1 f2 f3⟩
theorem aId:eW=some true:=by
 obtain⟨b,e,hb⟩:=aHB
 unfold eW
 rw[aHO]
 simp only[Option.bind_some,e,aFD hb,aEI hb]
 unfold iC jP
 kernel_rfl
theorem aHo{c1 c2 c3 c4 c5:Int}{c6:Option Nat}(h:dZ c1 c2 c3 c4 c5 c6=some true):1≤c2∧c2≤64:=by
 unfold dZ at h
 by_cases h1:c1≥1
 case neg=>simp[h1]at h
 by_cases h2:c1≤1048576
 case neg=>simp[h1,h2]at h
 by_cases h3:c2≥1
 case neg=>simp[h1,h2,h3]at h
 by_cases h4:c2≤64
 case neg=>simp[h1,h2,h3,h4]at h
 exact⟨h3,h4⟩
theorem U8(c1 c2 c3 c4 c5:Int)(c6:Option Nat):∃b,dZ c1 c2 c3 c4 c5 c6=some b:=by
 unfold dZ
 repeat' split
 all_goals exact⟨_,rfl⟩
theorem aB0{x:List Int}(h:x.length≤100000):cM x=some x:=by
 unfold cM
 cases x with
 | nil=>rfl
 | cons a r =>
  rw[if_neg (by simp),if_pos (by simp only[List.length_nil];omega)]
  rfl
structure FOk(c:Wy)(x:List Int)(p:List dL×List Int)(kn:Kn):Prop where
 by_:Bytes x
 len:x.length≤4096
 para:bB exB x=some (p,0)
 pm:PM (x.length:Int) p
 wy:aGy c
 kok:KOk c kn
theorem aMv{b:Option Z1}(hb:Exb b){x:List Int}(h1:Bytes x)(h2:x.length≤4096){c:Wy}(w:aGy c){kn:Kn}(hk:KOk c kn)(f1:List dL)(f2:Bool)(f10:List Int)(f11:List dL)(f12:List Int)(f13):
  ∃p kn',cT x f1 f2 b c.1 c.2.1 c.2.2.1 c.2.2.2.1 c.2.2.2.2.1 c.2.2.2.2.2 f10 f11 f12 f13 kn=some (0,(LF p.1 p.2 c).1,(LF p.1 p.2 c).2,x,p.1,p.2,some (aDT p.1 p.2 c),kn')∧FOk c x p kn':=by
 obtain⟨p,hp,hpm⟩:=aFL h1 h2
 obtain⟨kn',e,hk'⟩:=aJE ((hb x).trans hp) hpm h2 w hk f1 f2 f10 f11 f12 f13
 exact⟨p,kn',e,⟨h1,h2,hp,hpm,w,hk'⟩⟩
theorem aLY{b:Option Z1}(hb:Exb b){c:Wy}{x:List Int}(h1:Bytes x)(h2:x.length≤100000):
  (dZ c.1 c.2.1 c.2.2.1 c.2.2.2.1 c.2.2.2.2.1 c.2.2.2.2.2=some false∧eO b c.1 c.2.1 c.2.2.1 c.2.2.2.1 c.2.2.2.2.1 c.2.2.2.2.2 x=some (.inl 40)) ∨
  (dZ c.1 c.2.1 c.2.2.1 c.2.2.2.1 c.2.2.2.2.1 c.2.2.2.2.2=some true∧((4096<x.length∧eO b c.1 c.2.1 c.2.2.1 c.2.2.2.1 c.2.2.2.2.1 c.2.2.2.2.2 x=some (.inl 3)) ∨
   (x.length≤4096∧∃p kn,eO b c.1 c.2.1 c.2.2.1 c.2.2.2.1 c.2.2.2.2.1 c.2.2.2.2.2 x=some (.inr (0,(LF p.1 p.2 c).1,(LF p.1 p.2 c).2,x,p.1,p.2,some (aDT p.1 p.2 c),kn))∧FOk c x p kn))):=by
 obtain⟨ok,hok⟩:=U8 c.1 c.2.1 c.2.2.1 c.2.2.2.1 c.2.2.2.2.1 c.2.2.2.2.2
 unfold eO
 rw[hok]
 cases ok with
 | false=>exact .inl ⟨rfl,rfl⟩
 | true =>
  refine .inr ⟨rfl,?_⟩
  rw[Option.bind_some,if_neg (by decide),aB0 h2,Option.bind_some]
  by_cases h3:x.length≤4096
  ·obtain⟨p,kn,e,hf⟩:=aMv hb h1 h3 (c:=c) (aHo hok) (KOk.nil c) [] false [] [] [] none
   refine .inr ⟨h3,p,kn,?_,hf⟩
   rw[e]
   rfl
  ·refine .inl ⟨by omega,?_⟩
   unfold cT
   rw[hb x,aF5 (by omega)]
   rfl
theorem aJh{c:Wy}{x:List Int}(h2:x.length≤100000):eO none c.1 c.2.1 c.2.2.1 c.2.2.2.1 c.2.2.2.2.1 c.2.2.2.2.2 x=some (.inl (if dZ c.1 c.2.1 c.2.2.1 c.2.2.2.1 c.2.2.2.2.1 c.2.2.2.2.2=some true then 1 else 40)):=by
 obtain⟨ok,hok⟩:=U8 c.1 c.2.1 c.2.2.1 c.2.2.2.1 c.2.2.2.2.1 c.2.2.2.2.2
 unfold eO
 rw[hok]
 cases ok with
 | false=>rfl
 | true =>
  rw[Option.bind_some,if_neg (by decide),aB0 h2]
  rfl
theorem aGq:∃S,zE=some S∧S.length=14∧∀i,(S.getD i []).length≤4:=by
 refine⟨_,rfl,rfl,fun i=> ?_⟩
 rcases(show i=0∨i=1∨i=2∨i=3∨i=4∨i=5∨i=6∨i=7∨i=8∨i=9∨i=10∨i=11∨i=12∨i=13∨14≤i by omega)with rfl | rfl | rfl | rfl | rfl | rfl | rfl | rfl | rfl | rfl | rfl | rfl | rfl | rfl | h
 case inr.inr.inr.inr.inr.inr.inr.inr.inr.inr.inr.inr.inr.inr=>rw[List.getD_eq_getElem?_getD,List.getElem?_eq_none (by simpa using h)];simp
 all_goals decide
theorem aBb(l:List UInt8):Bytes (cV l):=fun x hx=>by
 unfold cV at hx
 obtain⟨b,_,rfl⟩:=List.mem_map.1 hx
 have:=b.toNat_lt
 omega
theorem aHC{l:List Int}(hl:l.length≤1000)(hb:∀i,0≤l.getD i 0∧l.getD i 0≤255):∃t,uP l=some t∧Bytes t∧t.length≤4*l.length:=by
 obtain⟨S,hS,hS1,hS2⟩:=aGq
 obtain⟨t,e,h1,h2⟩:=eL (body:=kZ l) (fun z:List Int×Int=>∃k:Nat,z.2=(k:Int)∧k≤l.length∧z.1.length≤4*k∧Bytes z.1) (fun z=>l.length - z.2.toNat) (fun t=>Bytes t∧t.length≤4*l.length) (by
  rintro⟨out,v⟩ ⟨k,rfl,hk,h1,h2⟩
  simp only at h1 h2
  by_cases hlt:k<l.length
  ·left
   obtain⟨b0,b1⟩:=hb k
   have hw:IntKind.i64.wrap (l.getD k 0)=l.getD k 0:=wrap_i64 (by omega) (by omega)
   have hm:Int.tmod (l.getD k 0) 14=l.getD k 0 % 14:=Int.tmod_eq_emod_of_nonneg b0
   have q1:(k:Int)<(l.length:Int):=by omega
   have q2:0≤(k:Int):=by omega
   have q3:0≤l.getD k 0 % 14∧l.getD k 0 % 14<(S.length:Int):=by rw[hS1];omega
   have hs:=hS2 (l.getD k 0 % 14).toNat
   have g:out.length+(S.getD (l.getD k 0 % 14).toNat []).length≤140737488355328:=by omega
   have q4:¬(14:Int)=0:=by decide
   refine⟨(out++cV (S.getD (l.getD k 0 % 14).toNat []),((k+1:Nat):Int)),?_,⟨k+1,rfl,by omega,?_,?_⟩,by simp only[Int.toNat_natCast];omega⟩
   ·simp only[kZ,hS,Option.bind_some,q1,q2,and_self,decide_true,if_true,Int.toNat_natCast,hw,hm,q3,q4,not_false_eq_true,g,bZ (show k≤9000000000000000000 by omega)]
   ·simp only[List.length_append]
    have:(cV (S.getD (l.getD k 0 % 14).toNat [])).length=(S.getD (l.getD k 0 % 14).toNat []).length:=by simp[cV]
    omega
   ·intro x hx
    rcases List.mem_append.1 hx with hx | hx
    ·exact h2 x hx
    ·exact aBb _ x hx
  ·right
   obtain rfl:k=l.length:=by omega
   refine⟨out,?_,h2,h1⟩
   have q1:¬((l.length:Int)<(l.length:Int)):=Int.lt_irrefl _
   simp only[kZ,q1,decide_false,Bool.false_eq_true,if_false]) (s:=([],0)) ⟨0,rfl,by omega,by simp,fun x hx=>by cases hx⟩
 refine⟨t,?_,h1,h2⟩
 unfold uP
 rw[e]
 rfl
end
end Go.Proofs.YtbedjpdfkmfplaaGreatDoor.T
