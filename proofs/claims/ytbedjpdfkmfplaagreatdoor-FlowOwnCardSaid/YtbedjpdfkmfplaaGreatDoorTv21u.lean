/- Flows: lines moved, keys, places. -/
import Derived.Test.YtbedjpdfkmfplaaGreatDoorTv21s
import Derived.Test.YtbedjpdfkmfplaaGreatDoorTvT21ba
namespace Go.Proofs.YtbedjpdfkmfplaaGreatDoor.T
open Go Go.Tv Go.Proofs
noncomputable section
theorem B5{α:Type}(p:List α)(x:α)(l:List α)(d:α):(p++x::l).getD p.length d=x:=by simp[List.getD_eq_getElem?_getD]
theorem aBb(d:Dt)(n:Nat)(wd tab:Int):∀m a,(iI d n wd tab m a).length≤m
 | 0,_=>by simp[iI]
 | m+1,a=>by
  have:=aBb d n wd tab m (nJ d n wd tab a).1
  simp only[iI]
  split
  ·simp only[List.length_cons];omega
  ·simp
theorem aCR(d:Dt)(n:Nat)(tab:Int)(T:List (Int×Int)):∀m a,(nU d n tab T m a).length≤m
 | 0,_=>by simp[nU]
 | m+1,a=>by
  have:=aCR d n tab T m (T.getD a (0,0)).2.toNat
  simp only[nU]
  split
  ·simp only[List.length_cons];omega
  ·simp
theorem B6(d:Dt)(n:Nat)(c:Wy):(hU d n c).1.length≤n:=by
 have h1:=aBb d n c.1 c.2.1 n 0
 have h2:=aCR d n c.2.1 (fE d n c n) n 0
 unfold hU A2
 by_cases hm:c.2.2.1=1
 ·rw[if_pos hm]
  by_cases h0:n=0
  ·rw[if_pos h0];simp
  ·rw[if_neg h0]
   by_cases h3:((fE d n c n).getD 0 (0,0)).2<0
   ·rw[if_pos h3];exact h1
   ·rw[if_neg h3];exact h2
 ·rw[if_neg hm];exact h1
theorem lN(l:List cV)(b:Int):(eE l b).length=l.length:=by simp[eE]
def Rg(n:Nat)(x:cV):Prop:=∃a b:Nat,x.1=(a:Int)∧x.2.1=(b:Int)∧a<b∧b≤n
theorem aBm(d:Dt)(n:Nat)(wd tab:Int):∀m a,∀x∈iI d n wd tab m a,Rg n x
 | 0,_,x,hx=>by simp[iI]at hx
 | m+1,a,x,hx=>by
  simp only[iI]at hx
  split at hx
  ·rename_i ha
   have h:=V1 d wd tab ha
   rcases List.mem_cons.1 hx with rfl | hx
   ·exact⟨a,_,rfl,rfl,h.1,h.2⟩
   ·exact aBm d n wd tab m _ x hx
  ·cases hx
theorem aDG(d:Dt){n:Nat}(tab:Int){T:List (Int×Int)}(hT:∀a,a<n→0≤(T.getD a (0,0)).2→(a:Int)<(T.getD a (0,0)).2∧(T.getD a (0,0)).2≤(n:Int)∧((T.getD a (0,0)).2<(n:Int)→0≤(T.getD (T.getD a (0,0)).2.toNat (0,0)).2)):∀m a,(a<n→0≤(T.getD a (0,0)).2)→∀x∈nU d n tab T m a,Rg n x
 | 0,_,_,x,hx=>by simp[nU]at hx
 | m+1,a,h0,x,hx=>by
  simp only[nU]at hx
  split at hx
  ·rename_i ha
   obtain⟨h1,h2,h3⟩:=hT a ha (h0 ha)
   rcases List.mem_cons.1 hx with rfl | hx
   ·exact⟨a,_,rfl,rfl,by omega,by omega⟩
   ·exact aDG d tab hT m _ (fun _=>h3 (by omega)) x hx
  ·cases hx
theorem W0(d:Dt)(n:Nat)(c:Wy):∀x∈(hU d n c).1,Rg n x:=by
 have h1:=aBm d n c.1 c.2.1 n 0
 unfold hU A2
 by_cases hm:c.2.2.1=1
 ·rw[if_pos hm]
  by_cases h0:n=0
  ·rw[if_pos h0]
   intro x hx
   cases hx
  ·rw[if_neg h0]
   by_cases h3:((fE d n c n).getD 0 (0,0)).2<0
   ·rw[if_pos h3];exact h1
   ·rw[if_neg h3]
    exact aDG d c.2.1 (X4 d n c) n 0 (fun _=>by omega)
 ·rw[if_neg hm];exact h1
theorem aHX(l:List cV)(a b:Int):eE (eE l a) b=eE l (a+b):=by
 unfold eE
 rw[List.map_map]
 refine List.map_congr_left fun x _=> ?_
 simp only[Function.comp]
 rw[Int.add_assoc,Int.add_assoc]
theorem aFU(l:List cV):eE l 0=l:=by
 unfold eE
 conv=>rhs;rw[←List.map_id l]
 refine List.map_congr_left fun x _=> ?_
 simp only[Int.add_zero,id]
def Nr(l:List cV):Prop:=l.length≤4096∧∀x∈l,-10000≤x.1∧x.1≤10000 ∧ -10000≤x.2.1∧x.2.1≤10000
theorem aDS{l:List cV}(h:l.length≤4096):tL l=some l:=by
 unfold tL
 cases l with
 | nil=>rfl
 | cons x r =>
  rw[if_neg (by simp),if_pos (by simp only[List.length_nil];omega)]
  rfl
theorem aDB{l:List cV}(h:Nr l){b:Int}(b0 : -10000≤b)(b1:b≤10000):jI l b=some (eE l b):=by
 have hL:iter (gS b l) ((eE (l.take 0) b++l.drop 0),((0:Nat):Int))=some (eE l b):=by
  refine fD (fun k=>(eE (l.take k) b++l.drop k,(k:Int))) l.length (fun k hk=> ?_) ?_
  ·have hx:=h.2 (l.getD k c0) (wG hk)
   have hlen:(eE (l.take k) b++l.drop k).length=l.length:=by rw[List.length_append,lN,List.length_take,List.length_drop];omega
   have hlk:(eE (l.take k) b).length=k:=by rw[lN,List.length_take];omega
   have hget:(eE (l.take k) b++l.drop k).getD k c0=l.getD k c0:=by
    have:=B5 (eE (l.take k) b) (l.getD k c0) (l.drop (k+1)) c0
    rw[hlk]at this
    rw[Q2 (d:=c0) hk]
    exact this
   have hset:∀y:cV,(eE (l.take k) b++l.drop k).set k y=eE (l.take k) b++y::l.drop (k+1):=fun y=>by
    rw[Q2 (d:=c0) hk,List.set_append_right _ _ (by omega),hlk,Nat.sub_self]
    rfl
   have hget2:∀y:cV,(eE (l.take k) b++y::l.drop (k+1)).getD k c0=y:=fun y=>by
    have:=B5 (eE (l.take k) b) y (l.drop (k+1)) c0
    rw[hlk]at this
    exact this
   have hset2:∀y z:cV,(eE (l.take k) b++y::l.drop (k+1)).set k z=eE (l.take k) b++z::l.drop (k+1):=fun y z=>by
    rw[List.set_append_right _ _ (by omega),hlk,Nat.sub_self]
    rfl
   have hlen2:∀y:cV,(eE (l.take k) b++y::l.drop (k+1)).length=l.length:=fun y=>by
    rw[List.length_append,hlk,List.length_cons,List.length_drop];omega
   have hl:=h.1
   have q1:(k:Int)<(l.length:Int):=by omega
   have q2:0≤(k:Int):=by omega
   have q3:IntKind.i64.wrap ((k:Int)+1)=((k+1:Nat):Int):=bM (by omega)
   have w1:IntKind.i64.wrap ((l.getD k c0).1+b)=(l.getD k c0).1+b:=wrap_i64 (by omega) (by omega)
   have w2:IntKind.i64.wrap ((l.getD k c0).2.1+b)=(l.getD k c0).2.1+b:=wrap_i64 (by omega) (by omega)
   simp only[gS,q1,decide_true,if_true,hlen,q2,and_self,Int.toNat_natCast,hk,hget,hset,hlen2,hget2,hset2,w1,w2,q3]
   rw[kU (d:=c0) hk]
   simp[eE]
  ·have q1:¬((l.length:Int)<(l.length:Int)):=Int.lt_irrefl _
   simp only[gS,q1,decide_false,Bool.false_eq_true,if_false,List.take_length,List.drop_length,List.append_nil]
 unfold jI
 rw[aDS h.1,Option.bind_some]
 have:iter (gS b l) (l,(0:Int))=some (eE l b):=hL
 rw[this]
 rfl
theorem aGV(d:Dt){n:Nat}(hn:n≤4096)(c:Wy):Nr (hU d n c).1:=⟨Nat.le_trans (B6 d n c) hn,fun x hx=>by
 obtain⟨a,b,h1,h2,h3,h4⟩:=W0 d n c x hx
 omega⟩
theorem aIF{l:List cV}{n:Nat}(hl:l.length≤4096)(h:∀x∈l,Rg n x)(hn:n≤4096){f:Nat}(hf:f≤4096):Nr (eE l (f:Int)):=⟨by rw[lN];exact hl,fun x hx=>by
 unfold eE at hx
 obtain⟨y,hy,rfl⟩:=List.mem_map.1 hx
 obtain⟨a,b,h1,h2,h3,h4⟩:=h y hy
 simp only
 omega⟩
def wL(d:Dt):Nat→List Int
 | 0=>[]
 | n+1=>wL d n++[(d n).1*16+(d n).2.1,(d n).2.2]
def aEU(d:Dt)(n:Nat):List UInt8:=dG (wL d n)
def Sm(d:Dt)(n:Nat):Prop:=∀j,j<n→0≤(d j).1∧(d j).1≤2∧0≤(d j).2.1∧(d j).2.1≤2∧0≤(d j).2.2∧(d j).2.2≤3
theorem qK(d:Dt):∀n,(wL d n).length=2*n
 | 0=>rfl
 | n+1=>by simp[wL,qK d n];omega
theorem aCa{d:Dt}:∀ {n:Nat},Sm d n→∀x∈wL d n,0≤x∧x≤255
 | 0,_,x,hx=>by cases hx
 | n+1,h,x,hx=>by
  obtain⟨a1,a2,a3,a4,a5,a6⟩:=h n (by omega)
  simp only[wL,List.mem_append,List.mem_cons,List.not_mem_nil,or_false]at hx
  rcases hx with hx | rfl | rfl
  ·exact aCa (fun j hj=>h j (by omega)) x hx
  ·omega
  ·omega
theorem K0:∀ {l k:List Int},(∀x∈l,0≤x∧x≤255)→(∀x∈k,0≤x∧x≤255)→dG l=dG k→l=k
 | [],[],_,_,_=>rfl
 | [],y::k,_,_,h=>by simp[dG]at h
 | x::l,[],_,_,h=>by simp[dG]at h
 | x::l,y::k,h1,h2,h=>by
  simp only[dG,List.map_cons,List.cons.injEq]at h
  have a1:=h1 x (by simp)
  have a2:=h2 y (by simp)
  have e:x=y:=by
   have:=congrArg UInt8.toNat h.1
   simp only[UInt8.toNat_ofNat']at this
   omega
  rw[e,K0 (fun z hz=>h1 z (by simp[hz])) (fun z hz=>h2 z (by simp[hz])) h.2]
theorem aDe{d d':Dt}:∀ {n:Nat},Sm d n→Sm d' n→wL d n=wL d' n→∀j,j<n→d j=d' j
 | 0,_,_,_,j,hj=>by omega
 | n+1,h1,h2,h,j,hj=>by
  simp only[wL]at h
  obtain⟨g1,g2⟩:=List.append_inj h (by rw[qK,qK])
  by_cases e:j=n
  ·subst e
   obtain⟨a1,a2,a3,a4,a5,a6⟩:=h1 j (by omega)
   obtain⟨b1,b2,b3,b4,b5,b6⟩:=h2 j (by omega)
   simp only[List.cons.injEq,and_true]at g2
   refine Prod.ext (by omega) (Prod.ext (by omega) g2.2)
  ·exact aDe (fun j hj=>h1 j (by omega)) (fun j hj=>h2 j (by omega)) g1 j (by omega)
theorem aHw{d d':Dt}{n n':Nat}(h1:Sm d n)(h2:Sm d' n')(h:aEU d n=aEU d' n'):n=n'∧∀j,j<n→d j=d' j:=by
 have h':=K0 (aCa h1) (aCa h2) h
 have hl:=congrArg List.length h'
 rw[qK,qK]at hl
 obtain rfl:n=n':=by omega
 exact⟨rfl,aDe h1 h2 h'⟩
theorem aKI{a b:Int}(h1:0≤a)(h2:a≤2)(h3:0≤b)(h4:b≤2):aT .or .u8 (IntKind.u8.wrap ((IntKind.u8.wrap a)*2 ^ (min (4:Int).toNat IntKind.u8.bits))) b=a*16+b:=by
 rcases(show a=0∨a=1∨a=2 by omega)with rfl | rfl | rfl <;> rcases(show b=0∨b=1∨b=2 by omega)with rfl | rfl | rfl <;> decide
theorem aJM{cl:List cV}{o:List Int}(hcl:cl.length≤4096)(ho:o.length=cl.length+1){fr n:Nat}(hn:fr+n≤cl.length)(hs:Sm (aV cl o fr) n):tY cl o (fr:Int) ((fr+n:Nat):Int)=some (aEU (aV cl o fr) n):=by
 have hL:iter (jN cl o ((fr+n:Nat):Int)) (wL (aV cl o fr) 0,((fr+0:Nat):Int))=some (wL (aV cl o fr) n):=by
  refine fD (fun k=>(wL (aV cl o fr) k,((fr+k:Nat):Int))) n (fun k hk=> ?_) ?_
  ·obtain⟨a1,a2,a3,a4,a5,a6⟩:=hs k hk
   have q1:((fr+k:Nat):Int)<((fr+n:Nat):Int):=by omega
   have q2:0≤((fr+k:Nat):Int)∧((fr+k:Nat):Int)<(cl.length:Int):=by omega
   have q3:IntKind.i64.wrap (((fr+k:Nat):Int)+1)=((fr+k+1:Nat):Int):=bM (by omega)
   have q4:0≤((fr+k+1:Nat):Int)∧((fr+k+1:Nat):Int)<(o.length:Int):=by omega
   have q5:0≤(4:Int):=by omega
   have hkb:aT .or .u8 (IntKind.u8.wrap ((IntKind.u8.wrap (cl.getD (fr+k) c0).2.2.1)*2 ^ (min (4:Int).toNat IntKind.u8.bits))) (cl.getD (fr+k) c0).2.2.2=(aV cl o fr k).1*16+(aV cl o fr k).2.1:=aKI a1 a2 a3 a4
   have hop:o.getD (fr+k+1) 0=(aV cl o fr k).2.2:=rfl
   have hkl:=qK (aV cl o fr) k
   have g:∀x y:Int,((wL (aV cl o fr) k).length+([x,y]:List Int).length)*1≤140737488355328∧(wL (aV cl o fr) k).length+([x,y]:List Int).length≤9223372036854775807:=fun x y=>by simp;omega
   simp only[jN,q1,q2,q3,q4,q5,and_self,decide_true,if_true,Int.toNat_natCast,hkb,hop,g,wL]
   rfl
  ·have q1:¬(((fr+n:Nat):Int)<((fr+n:Nat):Int)):=Int.lt_irrefl _
   simp only[jN,q1,decide_false,Bool.false_eq_true,if_false]
 have w1:IntKind.i64.wrap (((fr+n:Nat):Int) - (fr:Int))=(n:Int):=by rw[wrap_i64 (by omega) (by omega)];omega
 have w2:IntKind.i64.wrap (2*(n:Int))=2*(n:Int):=wrap_i64 (by omega) (by omega)
 unfold tY
 rw[w1,w2,if_pos (by omega)]
 have:iter (jN cl o ((fr+n:Nat):Int)) (List.replicate (0:Int).toNat (0:Int),(fr:Int))=some (wL (aV cl o fr) n):=hL
 rw[this]
 rfl
def zR(cl:List cV)(tab:Int)(l:List cV):List (List Int):=l.map fun x=>uP cl tab x.1.toNat (x.2.1.toNat - x.1.toNat)
def aCK(l:List cV):List cV:=if l=[]then[c0]else l
theorem aGZ{cl:List cV}(hc:Cel cl)(o:List Int){tab:Int}(t0:1≤tab)(t1:tab≤64){l:List cV}(hl:l.length≤4096)(hr:∀x∈l,Rg cl.length x):m9 cl o l tab=some (some ((cl,o),(aCK l,zR cl tab (aCK l)))):=by
 have hl1:=hc.1
 have key:∀m:List cV,m.length≤4096→(∀x∈m,∃a b:Nat,x.1=(a:Int)∧x.2.1=(b:Int)∧a≤b∧b≤cl.length)→iter (gR cl o tab m) (([]:List (List Int)),(0:Int))=some (zR cl tab m):=fun m hm hx=>by
  have:iter (gR cl o tab m) (zR cl tab (m.take 0),((0:Nat):Int))=some (zR cl tab m):=by
   refine fD (fun k=>(zR cl tab (m.take k),(k:Int))) m.length (fun k hk=> ?_) ?_
   ·obtain⟨a,b,h1,h2,h3,h4⟩:=hx (m.getD k c0) (wG hk)
    have q1:(k:Int)<(m.length:Int):=by omega
    have q2:0≤(k:Int):=by omega
    have hce:=O5 hc o t0 t1 h3 h4
    have hlen:(zR cl tab (m.take k)).length=k:=by unfold zR;rw[List.length_map,List.length_take];omega
    have g:∀x:List Int,(k+([x]:List (List Int)).length)*24≤140737488355328∧k+([x]:List (List Int)).length≤9223372036854775807:=fun x=>by simp;omega
    simp only[gR,q1,q2,and_self,decide_true,if_true,Int.toNat_natCast,h1,h2,hce,Option.bind_some,hlen,g,bM (show k≤9000000000000000000 by omega)]
    rw[kU (d:=c0) hk]
    unfold zR
    rw[List.map_append,List.map_cons,List.map_nil,h1,h2,Int.toNat_natCast,Int.toNat_natCast]
   ·have q1:¬((m.length:Int)<(m.length:Int)):=Int.lt_irrefl _
    simp only[gR,q1,decide_false,Bool.false_eq_true,if_false,List.take_length]
  exact this
 unfold m9 aCK
 cases l with
 | nil =>
  rw[if_pos (by simp),Option.bind_some,key [c0] (by simp) (fun x hx=>by
   obtain rfl:x=c0:=by simpa using hx
   exact⟨0,0,rfl,rfl,Nat.le_refl _,Nat.zero_le _⟩)]
  rfl
 | cons x r =>
  rw[if_neg (by simp;omega),Option.bind_some,key (x::r) hl (fun y hy=>by
   obtain⟨a,b,h1,h2,h3,h4⟩:=hr y hy
   exact⟨a,b,h1,h2,by omega,h4⟩),if_neg (by simp)]
  rfl
end
end Go.Proofs.YtbedjpdfkmfplaaGreatDoor.T
