/- All parts: the lines of a text. -/
import Derived.Test.YtbedjpdfkmfplaaGreatDoorTv21u
import Derived.Test.YtbedjpdfkmfplaaGreatDoorTvSj
namespace Go.Proofs.YtbedjpdfkmfplaaGreatDoor.T
open Go Go.Tv Go.Proofs
noncomputable section
def rI(o:List Int):Nat→Nat→List Int
 | 0,_=>[]
 | m+1,k=>if o.getD k 0=2 then(k:Int)::rI o m (k+1)else rI o m (k+1)
theorem I9(o:List Int):∀m k,rI o (m+1) k=rI o m k++(if o.getD (k+m) 0=2 then[((k+m:Nat):Int)]else[])
 | 0,k=>by simp only[rI];split <;> simp_all
 | m+1,k=>by
  have:=I9 o m (k+1)
  rw[show k+1+m=k+(m+1) by omega]at this
  simp only[rI]at this ⊢
  rw[this]
  split <;> simp
theorem tP(o:List Int):∀m,fB o m=rI o m 0
 | 0=>rfl
 | m+1=>by
  rw[I9,←tP o m]
  simp only[fB,Nat.zero_add]
  split <;> simp
def Pts(o:List Int)(m:Nat):Nat→List Int→Prop
 | _,[]=>True
 | fr,t::r=>fr≤t.toNat∧t=(t.toNat:Int)∧t.toNat≤m∧o.getD t.toNat 0=2∧Pts o m t.toNat r
theorem Pts.from{o:List Int}{m:Nat}:∀ {fr fr':Nat} {l:List Int},fr'≤fr→Pts o m fr l→Pts o m fr' l
 | _,_,[],_,_=>trivial
 | _,_,t::r,h,hp=>⟨by have:=hp.1;omega,hp.2⟩
theorem oB(o:List Int){M:Nat}:∀m k,k+m≤M+1→Pts o M k (rI o m k)
 | 0,_,_=>trivial
 | m+1,k,h=>by
  have:=oB o (M:=M) m (k+1) (by omega)
  simp only[rI]
  split
  ·rename_i he
   exact⟨by simp,by simp,by simp;omega,by simpa using he,this.from (by simp)⟩
  ·exact this.from (by omega)
def g6(cl:List cV)(o:List Int)(c:Wy):Nat→List Int→List cV×Bool
 | _,[]=>([],false)
 | fr,t::r=>(eE (hU (aV cl o fr) (t.toNat - fr) c).1 (fr:Int)++(g6 cl o c t.toNat r).1,(hU (aV cl o fr) (t.toNat - fr) c).2 || (g6 cl o c t.toNat r).2)
def aGd(c:Wy):Prop:=1≤c.2.1∧c.2.1≤64
theorem aAS{cl:List cV}(hc:Cel cl){o:List Int}(ho:o.length=cl.length+1){c:Wy}(w:aGd c){fr to:Nat}(h1:fr≤to)(h2:to≤cl.length)(h3:o.getD fr 0≠3):
  iD cl o (fr:Int) (to:Int) c.1 c.2.1 c.2.2.1 c.2.2.2.1 c.2.2.2.2.1 c.2.2.2.2.2=some (eE (hU (aV cl o fr) (to - fr) c).1 (fr:Int),(hU (aV cl o fr) (to - fr) c).2):=by
 obtain⟨n,rfl⟩:∃n,to=fr+n:=⟨to - fr,by omega⟩
 rw[Nat.add_sub_cancel_left]
 exact aIQ hc ho h2 c w.1 w.2 h3
end
end Go.Proofs.YtbedjpdfkmfplaaGreatDoor.T
namespace Go.Proofs.YtbedjpdfkmfplaaGreatDoor.T
open Go Go.Tv Go.Proofs
noncomputable section
theorem CvC.get:∀ {a n:Int} {s:List cV},CvC a s n→∀i,0≤(s.getD i c0).2.2.1∧(s.getD i c0).2.2.1≤2∧0≤(s.getD i c0).2.2.2∧(s.getD i c0).2.2.2≤2
 | a,n,[],_,i=>by simp
 | a,n,x::s,h,0=>⟨h.2.2.1,h.2.2.2.1,h.2.2.2.2.1,h.2.2.2.2.2.1⟩
 | a,n,x::s,h,i+1=>by simpa using CvC.get h.2.2.2.2.2.2 i
theorem PM.cel{n:Int}{p:List cV×List Int}(h:PM n p)(hn:n≤4096):Cel p.1:=⟨by have:=h.len;omega,fun i=>⟨(h.cov.get i).1,(h.cov.get i).2.1⟩⟩
theorem PM.sm{n:Int}{p:List cV×List Int}(h:PM n p)(fr m:Nat):Sm (aV p.1 p.2 fr) m:=fun j _=>by
 obtain⟨a1,a2,a3,a4⟩:=h.cov.get (fr+j)
 exact⟨a1,a2,a3,a4,(h.opp.val _).1,(h.opp.val _).2⟩
abbrev Kn:=List ((List UInt8)×((List cV)×Bool))
def KOk(c:Wy)(kn:Kn):Prop:=∀k v,bG .str kn k=some v→∀d n,Sm d n→aEU d n=k→v=hU d n c
theorem KOk.nil(c:Wy):KOk c []:=fun k v h=>by cases h
theorem V8{α:Type}(k k':List UInt8)(x:α):∀kv:List (List UInt8×α),bG .str (fF .str kv k x) k'=if k'=k then some x else bG .str kv k'
 | []=>by
  show(if eY .str k k'=true then some x else none)=_
  by_cases h:k'=k
  ·subst h
   rw[if_pos (by simp[eY]),if_pos rfl]
  ·rw[if_neg (show ¬eY .str k k'=true by simpa [eY]using Ne.symm h),if_neg h]
   rfl
 | p::r=>by
  simp only[fF,bG]
  by_cases hp:p.1=k
  ·rw[if_pos (show eY .str p.1 k=true by simpa [eY]using hp)]
   simp only[bG]
   by_cases h:k'=k
   ·subst h;rw[if_pos rfl,if_pos (by simp[eY])]
   ·have h1:¬eY .str k k'=true:=by simpa [eY]using Ne.symm h
    have h2:¬eY .str p.1 k'=true:=by rw[hp];exact h1
    rw[if_neg h,if_neg h1,if_neg h2]
  ·rw[if_neg (show ¬eY .str p.1 k=true by simpa [eY]using hp)]
   simp only[bG]
   by_cases h:p.1=k'
   ·have h1:eY .str p.1 k'=true:=by simpa [eY]using h
    have h2:¬k'=k:=fun e=>hp (h.trans e)
    rw[if_pos h1,if_neg h2,if_pos h1]
   ·have h1:¬eY .str p.1 k'=true:=by simpa [eY]using h
    rw[if_neg h1,if_neg h1]
    exact V8 k k' x r
theorem qP{α:Type}{q:List UInt8→Bool}(k:List UInt8){v:α}:∀ {kv:List (List UInt8×α)},bG .str (kv.filter fun p=>q p.1) k=some v→bG .str kv k=some v
 | [],h=>h
 | p::r,h=>by
  simp only[bG]
  by_cases hp:eY .str p.1 k=true
  ·rw[if_pos hp]
   have e:p.1=k:=by simpa [eY]using hp
   simp only[List.filter_cons]at h
   cases hq:q p.1 with
   | true =>
    rw[hq,if_pos rfl]at h
    simp only[bG]at h
    rw[if_pos hp]at h
    exact h
   | false =>
    rw[hq,if_neg (by decide)]at h
    exfalso
    have hnone:bG .str (r.filter fun p=>q p.1) k=none:=kM (K:= .str) rfl fun p' hp' e'=>by
     have:=(List.mem_filter.1 hp').2
     rw[e',←e,hq]at this
     cases this
    rw[hnone]at h
    cases h
  ·rw[if_neg hp]
   simp only[List.filter_cons]at h
   split at h
   ·simp only[bG]at h
    rw[if_neg hp]at h
    exact qP k h
   ·exact qP k h
theorem KOk.set{c:Wy}{kn:Kn}(h:KOk c kn){d:Dt}{n:Nat}(hs:Sm d n):KOk c (fF .str kn (aEU d n) (hU d n c)):=fun k v hv d' n' hs' hk=>by
 rw[V8]at hv
 split at hv
 ·rename_i e
  cases hv
  obtain⟨rfl,hd⟩:=aHw hs' hs (hk.trans e)
  exact(aDs hd c).symm
 ·exact h k v hv d' n' hs' hk
theorem KOk.prune{c:Wy}{kn:Kn}(h:KOk c kn)(us:List (List UInt8×Bool)):KOk c (xT .str kn us):=fun k v hv=>h k v (qP (q:=fun x=>(bG .str us x).getD false) k hv)
theorem wA{cl:List cV}{o:List Int}(c:Wy):∀ {l:List Int} {fr:Nat},Pts o cl.length fr l→(∀x∈(g6 cl o c fr l).1,Rg cl.length x)∧(g6 cl o c fr l).1.length+fr≤max fr cl.length
 | [],fr,_=>⟨fun x hx=>(by cases hx),by simp only[g6,List.length_nil];omega⟩
 | t::r,fr,⟨p1,p2,p3,p4,p5⟩=>by
  obtain⟨h1,h2⟩:=wA c p5
  have hle:=B6 (aV cl o fr) (t.toNat - fr) c
  refine⟨fun x hx=> ?_,by simp only[g6,List.length_append,lN];omega⟩
  simp only[g6,List.mem_append]at hx
  rcases hx with hx | hx
  ·unfold eE at hx
   obtain⟨y,hy,rfl⟩:=List.mem_map.1 hx
   obtain⟨a,b,q1,q2,q3,q4⟩:=W0 _ _ c y hy
   exact⟨fr+a,fr+b,by simp only;omega,by simp only;omega,by omega,by omega⟩
  ·exact h1 x hx
theorem aFm{cl:List cV}(hc:Cel cl){o:List Int}(ho:o.length=cl.length+1)(hsm:∀fr m,Sm (aV cl o fr) m){c:Wy}(w:aGd c):∀(l pre:List Int) (fr:Nat) (out:List cV) (b:Bool) (kn:Kn) (us:List (List UInt8×Bool)),(pre++l).length≤5000→Pts o cl.length fr l→fr≤cl.length→o.getD fr 0≠3→out.length≤fr→KOk c kn →
  ∃kn' us',iter (eW c.1 c.2.1 c.2.2.1 c.2.2.2.1 c.2.2.2.2.1 c.2.2.2.2.2 (cl,o) (pre++l)) (out,b,kn,us,(fr:Int),(pre.length:Int))=some (out++(g6 cl o c fr l).1,b || (g6 cl o c fr l).2,kn',us')∧KOk c kn'
 | [],pre,fr,out,b,kn,us,_,_,_,_,_,hk=>by
  have q1:¬((pre.length:Int)<(pre.length:Int)):=Int.lt_irrefl _
  rw[List.append_nil]
  exact⟨kn,us,dO (by simp only[eW,q1,decide_false,Bool.false_eq_true,if_false,g6,List.append_nil,Bool.or_false]),hk⟩
 | t::r,pre,fr,out,b,kn,us,hlen,hp,hfr,h3,hout,hk=>by
  have hl:=hc.1
  obtain⟨p1,p2,p3,p4,p5⟩:=hp
  have hple:=B6 (aV cl o fr) (t.toNat - fr) c
  have he:=aAS hc ho w p1 p3 h3
  rw[←p2]at he
  have hkey:=aJM (cl:=cl) (o:=o) (fr:=fr) (n:=t.toNat - fr) (by omega) ho (by omega) (hsm _ _)
  rw[show fr+(t.toNat - fr)=t.toNat by omega,←p2]at hkey
  have hset:=hk.set (hsm fr (t.toNat - fr))
  have hgot:∀v,bG .str kn (aEU (aV cl o fr) (t.toNat - fr))=some v→v=hU (aV cl o fr) (t.toNat - fr) c:=fun v hv=>hk _ v hv _ _ (hsm _ _) rfl
  have hnr:=aGV (aV cl o fr) (n:=t.toNat - fr) (by omega) c
  have hnr2:Nr (eE (hU (aV cl o fr) (t.toNat - fr) c).1 (fr:Int)):=aIF (by omega) (W0 _ _ c) (by omega) (by omega)
  have hm2:=aDB hnr2 (b:= -(fr:Int)) (by omega) (by omega)
  rw[aHX,show(fr:Int) + -(fr:Int)=0 by omega,aFU]at hm2
  have hm1:=aDB hnr (b:=(fr:Int)) (by omega) (by omega)
  have hw:IntKind.i64.wrap (0 - (fr:Int)) = -(fr:Int):=by rw[wrap_i64 (by omega) (by omega)];omega
  generalize aEU (aV cl o fr) (t.toNat - fr)=key at hkey hset hgot
  simp only[g6]
  generalize hU (aV cl o fr) (t.toNat - fr) c=P at he hset hgot hm1 hm2 hple
  have hlen':pre.length+(r.length+1)≤5000:=by simpa using hlen
  have q1:(pre.length:Int)<((pre++t::r).length:Int):=by simp;omega
  have q2:0≤(pre.length:Int):=by omega
  have g:(out.length+(eE P.1 (fr:Int)).length)*32≤140737488355328∧out.length+(eE P.1 (fr:Int)).length≤9223372036854775807:=by
   rw[lN];omega
  obtain⟨kn1,hin,hk1⟩:∃kn1,(if(!((bG .str kn key).isSome))=true then((iD cl o (fr:Int) t c.1 c.2.1 c.2.2.1 c.2.2.2.1 c.2.2.2.2.1 c.2.2.2.2.2).bind fun(r118,r119)=>((jI r118 (IntKind.i64.wrap (0 - (fr:Int)))).bind fun r121=>some (((fF .str kn key (r121,r119)),r121,r119))))
    else some ((kn,((bG .str kn key).getD (([]:List cV),false)).1,((bG .str kn key).getD (([]:List cV),false)).2)))=some (kn1,P.1,P.2)∧KOk c kn1:=by
   cases hf:bG .str kn key with
   | none =>
    refine⟨fF .str kn key P,?_,hset⟩
    rw[if_pos (by rfl),he,Option.bind_some]
    simp only[hw,hm2,Option.bind_some]
   | some v =>
    refine⟨kn,?_,hk⟩
    rw[if_neg (by simp)]
    simp only[Option.getD_some]
    rw[hgot v hf]
  obtain⟨kn',us',ih,hk'⟩:=aFm hc ho hsm w r (pre++[t]) t.toNat (out++eE P.1 (fr:Int)) (b || P.2) kn1 (fF .str us key true) (by simpa using hlen) p5 p3 (by rw[p4];decide) (by rw[List.length_append,lN];omega) hk1
  rw[List.append_assoc,←p2]at ih
  simp only[List.singleton_append,List.length_append,List.length_singleton]at ih
  refine⟨kn',us',?_,hk'⟩
  rw[←List.append_assoc,←Bool.or_assoc,←ih]
  refine gV ?_
  simp only[eW,q1,q2,and_self,decide_true,if_true,Int.toNat_natCast,B5,hkey,Option.bind_some]
  rw[hin]
  simp only[Option.bind_some,hm1,g,and_self,if_true]
  rw[show IntKind.i64.wrap ((pre.length:Int)+1)=((pre.length+1:Nat):Int)from bM (by omega)]
  cases b <;> simp
def LF(cl:List cV)(o:List Int)(c:Wy):List cV×Bool:=g6 cl o c 0 (fB o o.length)
def C6(cl:List cV)(o:List Int)(c:Wy):(List cV×List Int)×(List cV×List (List Int)):=((cl,o),(aCK (LF cl o c).1,zR cl c.2.1 (aCK (LF cl o c).1)))
theorem PM.zero{n:Int}{p:List cV×List Int}(h:PM n p):p.2.getD 0 0≠3:=by
 by_cases h0:0<p.1.length
 ·rw[h.opp.zero h0];decide
 ·have:=h.opp.last
  rw[show p.1.length=0 by omega]at this
  rw[this]
  decide
theorem aJ3{b:Option Z1}{x:List Int}{p:List cV×List Int}(hP:bA b x=some (p,0))(hpm:PM (x.length:Int) p)(hx:x.length≤4096){c:Wy}(w:aGd c){kn:Kn}(hk:KOk c kn)(f1:List cV)(f2:Bool)(f10:List Int)(f11:List cV)(f12:List Int)(f13):
  ∃kn',cX x f1 f2 b c.1 c.2.1 c.2.2.1 c.2.2.2.1 c.2.2.2.2.1 c.2.2.2.2.2 f10 f11 f12 f13 kn=some (0,(LF p.1 p.2 c).1,(LF p.1 p.2 c).2,x,p.1,p.2,some (C6 p.1 p.2 c),kn')∧KOk c kn':=by
 have hc:=hpm.cel (by omega)
 have hl:=hc.1
 have ho:=hpm.opp.len
 have hpts:Pts p.2 p.1.length 0 (fB p.2 p.2.length):=by rw[tP];exact oB _ _ _ (by omega)
 have hpl:=rP p.2 p.2.length
 obtain⟨kn',us',e,hk'⟩:=aFm hc ho hpm.sm w (fB p.2 p.2.length) [] 0 [] false kn [] (by simp;omega) hpts (by omega) hpm.zero (by simp) hk
 simp only[List.nil_append,List.length_nil,Bool.false_or]at e
 obtain⟨r1,r2⟩:=wA c hpts
 have hpe:=aGZ hc p.2 w.1 w.2 (l:=(LF p.1 p.2 c).1) (by unfold LF;omega) r1
 refine⟨_,?_,hk'.prune us'⟩
 unfold cX
 rw[hP,Option.bind_some]
 simp only[bne_self_eq_false,Bool.false_eq_true,if_false]
 rw[aCl p.1 (by omega),Option.bind_some]
 have e':iter (eW c.1 c.2.1 c.2.2.1 c.2.2.2.1 c.2.2.2.2.1 c.2.2.2.2.2 p (fB p.2 p.2.length)) (([]:List cV),false,kn,([]:List ((List UInt8)×Bool)),(0:Int),(0:Int))=some ((LF p.1 p.2 c).1,(LF p.1 p.2 c).2,kn',us'):=e
 rw[e',Option.bind_some]
 simp only[hpe,Option.bind_some]
 rfl
end
end Go.Proofs.YtbedjpdfkmfplaaGreatDoor.T
namespace Go.Proofs.YtbedjpdfkmfplaaGreatDoor.T
open Go Go.Tv Go.Proofs
noncomputable section
def Exb(b:Option Z1):Prop:=∀x,bA b x=bA exB x
theorem aGb{x:List Int}(h:4096<x.length):bA exB x=some (([],[]),3):=by
 have hlen:(x.length:Int) > 4096:=by omega
 unfold bA exB
 simp only[Option.isNone,Bool.false_eq_true,if_false,hlen,decide_true,if_true]
theorem aA3{b b':Option Z1}(h:∀x,bA b x=bA b' x)(x:List Int)(f1 f2 c1 c2 c3 c4 c5 c6 f10 f11 f12 f13 kn):cX x f1 f2 b c1 c2 c3 c4 c5 c6 f10 f11 f12 f13 kn=cX x f1 f2 b' c1 c2 c3 c4 c5 c6 f10 f11 f12 f13 kn:=by
 unfold cX
 rw[h]
theorem aFL{b b':Option Z1}(h:∀x,bA b x=bA b' x)(c1 c2 c3 c4 c5 c6 x):iH b c1 c2 c3 c4 c5 c6 x=iH b' c1 c2 c3 c4 c5 c6 x:=by
 unfold iH
 simp only[aA3 h]
theorem aEY{b b':Option Z1}(h:∀x,bA b x=bA b' x)(e1 e2 e3 f1 f2 c1 c2 c3 c4 c5 c6 f10 f11 f12 f13 kn):dM e1 e2 e3 f1 f2 b c1 c2 c3 c4 c5 c6 f10 f11 f12 f13 kn=dM e1 e2 e3 f1 f2 b' c1 c2 c3 c4 c5 c6 f10 f11 f12 f13 kn:=by
 unfold dM
 simp only[aA3 h]
theorem aGT:fZ=some ([],j6,mP,[],aH0,aH9,[],2,2):=rfl
theorem aH7:∃b,n4 [] j6 mP [] aH0 aH9 [] 2 2=some (b,0,0)∧Exb b:=by
 obtain⟨t1,t2,t3,e,f1,f2,f3⟩:=aKO
 exact⟨_,e,aJy f1 f2 f3⟩
theorem aIy:fH=some true:=by
 obtain⟨b,e,hb⟩:=aH7
 unfold fH
 rw[aGT]
 simp only[Option.bind_some,e,aFL hb,aEY hb]
 unfold dW eZ
 kernel_rfl
theorem aHT{c1 c2 c3 c4 c5:Int}{c6:Option Nat}(h:dZ c1 c2 c3 c4 c5 c6=some true):1≤c2∧c2≤64:=by
 unfold dZ at h
 by_cases h1:c1≥1
 case neg=>simp[h1]at h
 by_cases h2:c1≤1048576
 case neg=>simp[h1,h2]at h
 by_cases h3:c2≥1
 case neg=>simp[h1,h2,h3]at h
 by_cases h4:c2≤64
 case neg=>simp[h1,h2,h3,h4]at h
 exact⟨h3,h4⟩
theorem aEA(c1 c2 c3 c4 c5:Int)(c6:Option Nat):∃b,dZ c1 c2 c3 c4 c5 c6=some b:=by
 unfold dZ
 repeat' split
 all_goals exact⟨_,rfl⟩
theorem aCT{x:List Int}(h:x.length≤100000):cM x=some x:=by
 unfold cM
 cases x with
 | nil=>rfl
 | cons a r =>
  rw[if_neg (by simp),if_pos (by simp only[List.length_nil];omega)]
  rfl
structure FOk(c:Wy)(x:List Int)(p:List cV×List Int)(kn:Kn):Prop where
 by_:Bytes x
 len:x.length≤4096
 para:bA exB x=some (p,0)
 pm:PM (x.length:Int) p
 wy:aGd c
 kok:KOk c kn
theorem aKN{b:Option Z1}(hb:Exb b){x:List Int}(h1:Bytes x)(h2:x.length≤4096){c:Wy}(w:aGd c){kn:Kn}(hk:KOk c kn)(f1:List cV)(f2:Bool)(f10:List Int)(f11:List cV)(f12:List Int)(f13):
  ∃p kn',cX x f1 f2 b c.1 c.2.1 c.2.2.1 c.2.2.2.1 c.2.2.2.2.1 c.2.2.2.2.2 f10 f11 f12 f13 kn=some (0,(LF p.1 p.2 c).1,(LF p.1 p.2 c).2,x,p.1,p.2,some (C6 p.1 p.2 c),kn')∧FOk c x p kn':=by
 obtain⟨p,hp,hpm⟩:=aFV h1 h2
 obtain⟨kn',e,hk'⟩:=aJ3 ((hb x).trans hp) hpm h2 w hk f1 f2 f10 f11 f12 f13
 exact⟨p,kn',e,⟨h1,h2,hp,hpm,w,hk'⟩⟩
theorem aLP{b:Option Z1}(hb:Exb b){c:Wy}{x:List Int}(h1:Bytes x)(h2:x.length≤100000):
  (dZ c.1 c.2.1 c.2.2.1 c.2.2.2.1 c.2.2.2.2.1 c.2.2.2.2.2=some false∧iH b c.1 c.2.1 c.2.2.1 c.2.2.2.1 c.2.2.2.2.1 c.2.2.2.2.2 x=some (.inl 40)) ∨
  (dZ c.1 c.2.1 c.2.2.1 c.2.2.2.1 c.2.2.2.2.1 c.2.2.2.2.2=some true∧((4096<x.length∧iH b c.1 c.2.1 c.2.2.1 c.2.2.2.1 c.2.2.2.2.1 c.2.2.2.2.2 x=some (.inl 3)) ∨
   (x.length≤4096∧∃p kn,iH b c.1 c.2.1 c.2.2.1 c.2.2.2.1 c.2.2.2.2.1 c.2.2.2.2.2 x=some (.inr (0,(LF p.1 p.2 c).1,(LF p.1 p.2 c).2,x,p.1,p.2,some (C6 p.1 p.2 c),kn))∧FOk c x p kn))):=by
 obtain⟨ok,hok⟩:=aEA c.1 c.2.1 c.2.2.1 c.2.2.2.1 c.2.2.2.2.1 c.2.2.2.2.2
 unfold iH
 rw[hok]
 cases ok with
 | false=>exact .inl ⟨rfl,rfl⟩
 | true =>
  refine .inr ⟨rfl,?_⟩
  rw[Option.bind_some,if_neg (by decide),aCT h2,Option.bind_some]
  by_cases h3:x.length≤4096
  ·obtain⟨p,kn,e,hf⟩:=aKN hb h1 h3 (c:=c) (aHT hok) (KOk.nil c) [] false [] [] [] none
   refine .inr ⟨h3,p,kn,?_,hf⟩
   rw[e]
   rfl
  ·refine .inl ⟨by omega,?_⟩
   unfold cX
   rw[hb x,aGb (by omega)]
   rfl
theorem aGI:∃S,A3=some S∧S.length=14∧∀i,(S.getD i []).length≤4:=by
 refine⟨_,rfl,rfl,fun i=> ?_⟩
 rcases(show i=0∨i=1∨i=2∨i=3∨i=4∨i=5∨i=6∨i=7∨i=8∨i=9∨i=10∨i=11∨i=12∨i=13∨14≤i by omega)with rfl | rfl | rfl | rfl | rfl | rfl | rfl | rfl | rfl | rfl | rfl | rfl | rfl | rfl | h
 case inr.inr.inr.inr.inr.inr.inr.inr.inr.inr.inr.inr.inr.inr=>rw[List.getD_eq_getElem?_getD,List.getElem?_eq_none (by simpa using h)];simp
 all_goals decide
theorem aCb(l:List UInt8):Bytes (dB l):=fun x hx=>by
 unfold dB at hx
 obtain⟨b,_,rfl⟩:=List.mem_map.1 hx
 have:=b.toNat_lt
 omega
theorem aCA{l:List Int}(hl:l.length≤1000)(hb:∀i,0≤l.getD i 0∧l.getD i 0≤255):∃t,oE l=some t∧Bytes t∧t.length≤4*l.length:=by
 obtain⟨S,hS,hS1,hS2⟩:=aGI
 obtain⟨t,e,h1,h2⟩:=dQ (body:=lF l) (fun z:List Int×Int=>∃k:Nat,z.2=(k:Int)∧k≤l.length∧z.1.length≤4*k∧Bytes z.1) (fun z=>l.length - z.2.toNat) (fun t=>Bytes t∧t.length≤4*l.length) (by
  rintro⟨out,v⟩ ⟨k,rfl,hk,h1,h2⟩
  simp only at h1 h2
  by_cases hlt:k<l.length
  ·left
   obtain⟨b0,b1⟩:=hb k
   have hw:IntKind.i64.wrap (l.getD k 0)=l.getD k 0:=wrap_i64 (by omega) (by omega)
   have hm:Int.tmod (l.getD k 0) 14=l.getD k 0 % 14:=Int.tmod_eq_emod_of_nonneg b0
   have q1:(k:Int)<(l.length:Int):=by omega
   have q2:0≤(k:Int):=by omega
   have q3:0≤l.getD k 0 % 14∧l.getD k 0 % 14<(S.length:Int):=by rw[hS1];omega
   have hs:=hS2 (l.getD k 0 % 14).toNat
   have g:out.length+(S.getD (l.getD k 0 % 14).toNat []).length≤140737488355328:=by omega
   have q4:¬(14:Int)=0:=by decide
   refine⟨(out++dB (S.getD (l.getD k 0 % 14).toNat []),((k+1:Nat):Int)),?_,⟨k+1,rfl,by omega,?_,?_⟩,by simp only[Int.toNat_natCast];omega⟩
   ·simp only[lF,hS,Option.bind_some,q1,q2,and_self,decide_true,if_true,Int.toNat_natCast,hw,hm,q3,q4,not_false_eq_true,g,bM (show k≤9000000000000000000 by omega)]
   ·simp only[List.length_append]
    have:(dB (S.getD (l.getD k 0 % 14).toNat [])).length=(S.getD (l.getD k 0 % 14).toNat []).length:=by simp[dB]
    omega
   ·intro x hx
    rcases List.mem_append.1 hx with hx | hx
    ·exact h2 x hx
    ·exact aCb _ x hx
  ·right
   obtain rfl:k=l.length:=by omega
   refine⟨out,?_,h2,h1⟩
   have q1:¬((l.length:Int)<(l.length:Int)):=Int.lt_irrefl _
   simp only[lF,q1,decide_false,Bool.false_eq_true,if_false]) (s:=([],0)) ⟨0,rfl,by omega,by simp,fun x hx=>by cases hx⟩
 refine⟨t,?_,h1,h2⟩
 unfold oE
 rw[e]
 rfl
end
end Go.Proofs.YtbedjpdfkmfplaaGreatDoor.T
namespace Go.Proofs.YtbedjpdfkmfplaaGreatDoor.T
open Go Go.Tv Go.Proofs
noncomputable section
theorem aIY{n:Nat}(h:n≤100000):cY (n:Int)=some []:=by
 have w1:IntKind.i64.wrap ((0:Int) - 0)=0:=rfl
 have w2:IntKind.i64.wrap ((n:Int) - 0)=(n:Int):=by rw[wrap_i64 (by omega) (by omega)];omega
 unfold cY
 rw[w1,w2,if_neg (by rw[decide_eq_true_eq];omega),Option.bind_some]
 by_cases h0:n=0
 ·subst h0
  rfl
 ·rw[if_pos (c:=decide ((n:Int) > 0)=true) (by rw[decide_eq_true_eq];omega),if_pos (by decide),if_pos (by rw[Int.toNat_natCast];simp;omega),if_pos (by rw[Int.toNat_natCast,List.length_replicate];omega)]
  rfl
theorem aF9{a b c:List Int}(h:a.length+b.length+c.length≤100000):dE a b c=some (a++b++c):=by
 have c0:0≤(0:Int)∧(0:Int)<((3:Nat):Int):=by decide
 have c1:0≤(1:Int)∧(1:Int)<((3:Nat):Int):=by decide
 have c2:0≤(2:Int)∧(2:Int)<((3:Nat):Int):=by decide
 have w1:IntKind.i64.wrap ((0:Int)+(a.length:Int))=(a.length:Int):=by rw[wrap_i64 (by omega) (by omega)];omega
 have w2:IntKind.i64.wrap ((a.length:Int)+(b.length:Int))=((a.length+b.length:Nat):Int):=by rw[wrap_i64 (by omega) (by omega)];omega
 have w3:IntKind.i64.wrap (((a.length+b.length:Nat):Int)+(c.length:Int))=((a.length+b.length+c.length:Nat):Int):=by rw[wrap_i64 (by omega) (by omega)];omega
 unfold dE
 rw[w1,w2,w3,aIY h]
 have g1:¬((a.length:Int)<0):=by omega
 have g2:¬(((a.length+b.length:Nat):Int)<0):=by omega
 have g3:¬(((a.length+b.length+c.length:Nat):Int)<0):=by omega
 simp only[c0,c1,c2,g1,g2,g3,and_self,decide_false,Bool.false_eq_true,if_true,if_false,Option.bind_some,List.nil_append,List.length_append,List.length_nil]
 rw[if_pos (by omega),if_pos (by omega),if_pos (by omega)]
theorem aBX{n:Nat}(hn:n≤4096)(e1 e2:Int)(e3:List Int):kW (n:Int) e1 e2 e3=some (if e1<0∨e2<0∨e1 > (n:Int)∨e2 > (n:Int) - e1 then 50 else if e3.length > 4096∨(n:Int) - e2+(e3.length:Int) > 4096 then 3 else 0):=by
 unfold kW
 by_cases h1:e1<0
 ·simp[h1]
 by_cases h2:e2<0
 ·simp[h1,h2]
 by_cases h3:e1 > (n:Int)
 ·simp[h1,h2,h3]
 have w1:IntKind.i64.wrap ((n:Int) - e1)=(n:Int) - e1:=wrap_i64 (by omega) (by omega)
 rw[w1]
 by_cases h4:e2 > (n:Int) - e1
 ·simp[h1,h2,h3,h4]
 have w2:IntKind.i64.wrap ((n:Int) - e2)=(n:Int) - e2:=wrap_i64 (by omega) (by omega)
 rw[w2]
 by_cases h5:(e3.length:Int) > 4096
 ·have h5':e3.length > 4096:=by omega
  simp[h1,h2,h3,h4,h5,h5']
 have h5':¬e3.length > 4096:=by omega
 have w3:IntKind.i64.wrap ((n:Int) - e2+(e3.length:Int))=(n:Int) - e2+(e3.length:Int):=wrap_i64 (by omega) (by omega)
 rw[w3]
 by_cases h6:(n:Int) - e2+(e3.length:Int) > 4096
 ·simp[h1,h2,h3,h4,h5,h5',h6]
 ·simp[h1,h2,h3,h4,h5,h5',h6]
theorem aFS{x e:List Int}(hx:x.length≤4096)(he:e.length≤4096){i d:Nat}(h:i+d≤x.length)(hl:x.length - d+e.length≤4096):jP x (i:Int) (d:Int) e=some (x.take i++e++x.drop (i+d),0):=by
 have hck:kW (x.length:Int) (i:Int) (d:Int) e=some 0:=by rw[aBX hx,if_neg (by omega),if_neg (by omega)]
 unfold jP
 rw[hck,Option.bind_some]
 have w1:IntKind.i64.wrap ((i:Int)+(d:Int))=((i+d:Nat):Int):=by rw[wrap_i64 (by omega) (by omega)];omega
 rw[if_neg (by decide),if_pos (by omega),w1,if_pos (by omega)]
 have ht:(x.take (i:Int).toNat).drop (0:Int).toNat=x.take i:=rfl
 have hd:(x.take (x.length:Int).toNat).drop ((i+d:Nat):Int).toNat=x.drop (i+d):=by rw[Int.toNat_natCast,Int.toNat_natCast,List.take_length]
 rw[ht,hd,aF9 (by simp only[List.length_take,List.length_drop];omega)]
 rfl
theorem aBq{x e:List Int}(h1:Bytes x)(h2:Bytes e)(i d:Nat):Bytes (x.take i++e++x.drop (i+d)):=fun y hy=>by
 simp only[List.mem_append]at hy
 rcases hy with(hy | hy) | hy
 ·exact h1 y (List.mem_of_mem_take hy)
 ·exact h2 y hy
 ·exact h1 y (List.mem_of_mem_drop hy)
theorem aGn{c:Wy}{x:List Int}{p:List cV×List Int}{kn:Kn}(h:FOk c x p kn):∃r,fA p.1 p.2 (LF p.1 p.2 c).1=some r:=by
 have hc:=h.pm.cel (by have:=h.len;omega)
 have hl:=hc.1
 have ho:=h.pm.opp.len
 have hpts:Pts p.2 p.1.length 0 (fB p.2 p.2.length):=by rw[tP];exact oB _ _ _ (by omega)
 obtain⟨r1,r2⟩:=wA c hpts
 refine aHc hl (by unfold LF;omega) (fun k hk=> ?_) p.2
 obtain⟨a,b,q1,q2,q3,q4⟩:=r1 ((LF p.1 p.2 c).1.getD k c0) (wG hk)
 omega
end
end Go.Proofs.YtbedjpdfkmfplaaGreatDoor.T
