/- A machine's run, of any classes: it answers, and what it answers is of its kind. -/
import Derived.Test.YtbedjpdfkmfplaaGreatDoorTv21bm
namespace Go.Proofs.YtbedjpdfkmfplaaGreatDoor.T
open Go Go.Tv Go.Proofs
noncomputable section
theorem bM{i:Nat}(h:i≤9000000000000000000):IntKind.i64.wrap ((i:Int)+1)=((i+1:Nat):Int):=by rw[wrap_i64 (by omega) (by omega)];rfl
theorem mZ{l:List Int}{k:Nat}(hk:k<l.length)(v:Int)(j:Nat):(l.set k v).getD j 0=if k=j then v else l.getD j 0:=by
 simp only[List.getD_eq_getElem?_getD,List.getElem?_set]
 by_cases e:k=j
 ·rw[if_pos e,if_pos e,if_pos (by omega)];rfl
 ·rw[if_neg e,if_neg e]
theorem aHy{l m:List Int}(h:l.length=m.length)(e:∀i,i<l.length→l.getD i 0=m.getD i 0):l=m :=
 List.ext_getElem h fun i h1 h2=>by
  have:=e i h1
  rwa [mM h1,mM h2]at this
theorem aDn{w:List Int}{i:Nat}(h:i<w.length):w.reverse.getD i 0=w.getD (w.length - 1 - i) 0:=by
 rw[mM (by simpa using h),mM (by omega),List.getElem_reverse]
theorem aEg{w:List Int}(hl:w.length≤1000000):cO w=some w.reverse:=by
 have key:∃s,iter bZ (w,0,IntKind.i64.wrap ((w.length:Int) - 1))=some s∧s=w.reverse:=by
  rw[wrap_i64 (by omega) (by omega)]
  refine dQ (I:=fun q=>∃i:Nat,q.2.1=(i:Int)∧q.2.2=(w.length:Int) - 1 - i∧i≤w.length∧2*i≤w.length+1∧q.1.length=w.length∧∀p,p<w.length→q.1.getD p 0=if p<i∨w.length≤p+i then w.getD (w.length - 1 - p) 0 else w.getD p 0)
   (μ:=fun q=>w.length - q.2.1.toNat) _ ?_ ⟨0,rfl,by simp,Nat.zero_le _,by omega,rfl,fun p hp=>by rw[if_neg (by omega)]⟩
  rintro⟨s,i',j'⟩ ⟨i,hi',hj',hi,h2,hs,hp⟩
  dsimp only at hi' hj' hs hp
  subst hi' hj'
  by_cases hlt:(i:Int)<(w.length:Int) - 1 - i
  ·obtain⟨j,hj⟩:∃j:Nat,(w.length:Int) - 1 - i=(j:Int):=⟨w.length - 1 - i,by omega⟩
   have hjl:j<w.length:=by omega
   have vi:s.getD i 0=w.getD i 0:=by rw[hp i (by omega),if_neg (by omega)]
   have vj:s.getD j 0=w.getD j 0:=by rw[hp j (by omega),if_neg (by omega)]
   refine .inl ⟨((s.set i (s.getD j 0)).set j (s.getD i 0),((i+1:Nat):Int),((w.length:Int) - 1 - ((i+1:Nat):Int))),?_,⟨i+1,rfl,rfl,by omega,by omega,by simp[hs],fun p hpl=> ?_⟩,by simp only[Int.toNat_natCast];omega⟩
   ·unfold bZ
    dsimp only
    rw[hj,if_pos (by simp;omega),if_pos (by omega),Int.toNat_natCast,Int.toNat_natCast,if_pos (by omega),if_pos (by omega),if_pos (by omega),if_pos (by omega),if_pos (by omega),if_pos (by rw[List.length_set];omega),if_pos (by rw[List.length_set];omega),bM (by omega),
     wrap_i64 (by omega) (by omega)]
    have:(j:Int) - 1=(w.length:Int) - 1 - ((i+1:Nat):Int):=by omega
    rw[this]
   ·dsimp only
    rw[mZ (by rw[List.length_set];omega),mZ (by omega),vi,vj]
    by_cases e1:j=p
    ·subst e1
     rw[if_pos rfl,if_pos (by omega)]
     congr 1;omega
    ·rw[if_neg e1]
     by_cases e2:i=p
     ·subst e2
      rw[if_pos rfl,if_pos (by omega)]
      congr 1;omega
     ·rw[if_neg e2,hp p hpl]
      by_cases e3:p<i∨w.length≤p+i
      ·rw[if_pos e3,if_pos (by omega)]
      ·rw[if_neg e3,if_neg (by omega)]
  ·refine .inr ⟨s,?_,aHy (by simp[hs]) fun p hpl=> ?_⟩
   ·unfold bZ
    dsimp only
    rw[if_neg (by simp;omega)]
   ·rw[hp p (by omega),aDn (by omega)]
    by_cases e3:p<i∨w.length≤p+i
    ·rw[if_pos e3]
    ·rw[if_neg e3]
     congr 1;omega
 obtain⟨s,h1,rfl⟩:=key
 unfold cO
 rw[h1]
 rfl
structure WA(a:List (List Int))(k:Nat):Prop where
 pos:0<a.length
 len:∀i,i<a.length→k≤(a.getD i []).length
 val:∀i c,i<a.length→c<k→0≤(a.getD i []).getD c 0∧(a.getD i []).getD c 0<(a.length:Int)
theorem W3{a:List (List Int)}{k:Nat}(h:WA a k)(b:List Int){w:List Int}(hw:w.length≤4096)(hc:∀i,i<w.length→0≤w.getD i 0∧w.getD i 0<(k:Int)):
  ∃r,pU a b w=some r∧r.length=w.length+1∧∀i,0≤r.getD i 0∧r.getD i 0<(a.length:Int):=by
 have hp:=h.pos
 obtain⟨r,h1,h2⟩:=dQ (body:=lE a w) (fun s=>∃j st:Nat,s.2.2=(j:Int)∧s.2.1=(st:Int)∧j≤w.length∧st<a.length∧s.1.length=j+1∧∀i,0≤s.1.getD i 0∧s.1.getD i 0<(a.length:Int)) (fun s=>w.length - s.2.2.toNat)
  (fun r=>r.length=w.length+1∧∀i,0≤r.getD i 0∧r.getD i 0<(a.length:Int)) (by
  rintro⟨out,s2,v⟩ ⟨j,st,rfl,rfl,hj,hst,hlen,hv⟩
  simp only at hlen hv
  by_cases hlt:j<w.length
  ·left
   obtain⟨c1,c2⟩:=hc j hlt
   have hrow:=h.len st hst
   obtain⟨v1,v2⟩:=h.val st (w.getD j 0).toNat hst (by omega)
   have q1:(j:Int)<(w.length:Int):=by omega
   have q2:0≤(j:Int):=by omega
   have q3:¬(w.getD j 0<0):=by omega
   have q4:0≤(st:Int):=by omega
   have q5:(st:Int)<(a.length:Int):=by omega
   have q6:¬(w.getD j 0≥((a.getD st []).length:Int)):=by omega
   have q7:w.getD j 0<((a.getD st []).length:Int):=by omega
   refine⟨(out++[(a.getD st []).getD (w.getD j 0).toNat 0],(a.getD st []).getD (w.getD j 0).toNat 0,((j+1:Nat):Int)),?_,⟨j+1,((a.getD st []).getD (w.getD j 0).toNat 0).toNat,rfl,by simp only;omega,by omega,by omega,by simp[hlen],fun i=> ?_⟩,by simp only[Int.toNat_natCast];omega⟩
   ·simp only[lE,q1,q2,q3,q4,q5,q6,q7,c1,and_self,decide_true,decide_false,if_true,if_false,Bool.false_eq_true,Int.toNat_natCast,Option.bind,List.length_singleton,hlen]
    rw[if_pos (by omega),bM (by omega)]
   ·simp only
    rcases Nat.lt_or_ge i out.length with hi | hi
    ·rw[List.getD_eq_getElem?_getD,List.getElem?_append_left hi,←List.getD_eq_getElem?_getD]
     exact hv i
    ·rw[List.getD_eq_getElem?_getD,List.getElem?_append_right hi]
     cases hq:i - out.length with
     | zero=>simpa using⟨v1,v2⟩
     | succ n=>simp;omega
  ·right
   obtain rfl:j=w.length:=by omega
   refine⟨out,?_,hlen,hv⟩
   have q1:¬((w.length:Int)<(w.length:Int)):=by omega
   simp only[lE,q1,decide_false,Bool.false_eq_true,if_false]) (s:=([0],0,0)) ⟨0,0,rfl,rfl,by omega,hp,rfl,fun i=>by
    cases i with
    | zero=>simp;omega
    | succ n=>simp;omega⟩
 refine⟨r,?_,h2⟩
 unfold pU
 have hne:((a.length:Int) == 0)=false:=by rw[beq_eq_false_iff_ne];omega
 rw[hne,if_neg (by decide),h1]
 rfl
structure Mo(m:Z5)(k:Nat):Prop where
 cls:0<m.1.1.length
 trl:m.1.1.length≤m.1.2.2.2.1.length
 tr:∀i,i<m.1.2.2.2.1.length→0≤m.1.2.2.2.1.getD i 0∧m.1.2.2.2.1.getD i 0<(k:Int)
 a:WA m.2.1.1 k
 al:m.2.1.1.length≤m.2.1.2.length
 b:WA m.2.2.1 k
 bl:m.2.2.1.length≤m.2.2.2.length
 tz:∀s t:Nat,s<m.2.1.1.length→t<m.2.2.1.length→(aT .and .u32 (m.2.1.2.getD s 0) (m.2.2.2.getD t 0) != 0)=true →
  0≤wN (aT .and .u32 (m.2.1.2.getD s 0) (m.2.2.2.getD t 0))∧wN (aT .and .u32 (m.2.1.2.getD s 0) (m.2.2.2.getD t 0))<(m.1.2.2.2.2.length:Int)
 does:∀i,0≤(m.1.2.2.2.2.getD i (0,((Tree.node 0 0 []),(Tree.node 0 0 [])))).1∧(m.1.2.2.2.2.getD i (0,((Tree.node 0 0 []),(Tree.node 0 0 [])))).1≤2
def xA(m:Z5)(x:Int):Int:=if x<0∨(m.1.1.length:Int)≤x then 0 else x
def aJK(x c:Int):Bool:=aT .and .u32 (Int.fdiv x (2 ^ (min c.toNat IntKind.u32.bits))) 1 == 1
theorem aDz{m:Z5}(h:0<m.1.1.length)(x:Int):0≤xA m x∧xA m x<(m.1.1.length:Int):=by
 unfold xA
 split
 ·omega
 ·omega
theorem aER{m:Z5}{k:Nat}(h:Mo m k){w:List Int}(hw:w.length≤4096){j:Nat}(hj:j<w.length){at_ sq:List Int}(base:Bool)(h1:at_.length=sq.length)(h2:at_.length≤j):
  dV (some m) w (at_,sq,base,(j:Int))=some (.inl (if(base && aJK m.1.2.1 (xA m (w.getD j 0)))=true then(at_,sq,base,((j+1:Nat):Int))else
   (at_++[(j:Int)],sq++[m.1.2.2.2.1.getD (xA m (w.getD j 0)).toNat 0],aJK m.1.2.2.1 (xA m (w.getD j 0)),((j+1:Nat):Int)))):=by
 have q1:(j:Int)<(w.length:Int):=by omega
 have q2:0≤(j:Int):=by omega
 obtain⟨c0,c1⟩:=aDz h.cls (w.getD j 0)
 have htl:=h.trl
 have q3:xA m (w.getD j 0)<(m.1.2.2.2.1.length:Int):=by omega
 have g1:(at_.length+([(j:Int)]:List Int).length)*8≤140737488355328∧at_.length+([(j:Int)]:List Int).length≤9223372036854775807:=by simp;omega
 have g2:∀x:Int,(sq.length+([x]:List Int).length)*8≤140737488355328∧sq.length+([x]:List Int).length≤9223372036854775807:=fun x=>by simp;omega
 have hc:∀ {β:Type} (K:Int→Option β),(((if decide (w.getD j 0<0)=true then some true else some (decide (w.getD j 0≥(m.1.1.length:Int)))):Option Bool).bind fun v16=>((if v16=true then some (0:Int)else some (w.getD j 0))).bind K)=K (xA m (w.getD j 0)):=fun K=>by
  generalize w.getD j 0=x
  unfold xA
  by_cases e1:x<0
  ·simp[e1]
  ·by_cases e2:(m.1.1.length:Int)≤x
   ·simp[e1,e2]
   ·simp[e1,e2]
 simp only[dV,q1,q2,and_self,decide_true,if_true,Int.toNat_natCast,Option.isSome,Option.getD]
 rw[hc]
 unfold aJK
 cases base with
 | false=>simp only[Bool.false_and,Bool.false_eq_true,if_false,if_true,Option.bind,c0,q3,g1,g2,and_self,bM (show j≤9000000000000000000 by omega)]
 | true =>
  simp only[Bool.true_and,if_true,Option.bind,c0]
  split
  ·rw[bM (by omega)]
  ·simp only[q3,g1,g2,and_self,if_true,bM (show j≤9000000000000000000 by omega)]
theorem aHx{m:Z5}{k:Nat}(h:Mo m k){w:List Int}(hw:w.length≤4096):∃r,iter (dV (some m) w) (([]:List Int),([]:List Int),false,(0:Int))=some r ∧
  r.1.length=r.2.length∧r.1.length≤w.length∧(∀i,i<r.1.length→0≤r.1.getD i 0∧r.1.getD i 0<(w.length:Int))∧∀i,i<r.2.length→0≤r.2.getD i 0∧r.2.getD i 0<(k:Int):=by
 have snoc:∀ {l:List Int} {x hi:Int},(∀i,i<l.length→0≤l.getD i 0∧l.getD i 0<hi)→0≤x→x<hi→∀i,i<(l++[x]).length→0≤(l++[x]).getD i 0∧(l++[x]).getD i 0<hi:=fun {l x hi} hl h0 h1 i hi'=>by
  rcases Nat.lt_or_ge i l.length with hq | hq
  ·rw[List.getD_eq_getElem?_getD,List.getElem?_append_left hq,←List.getD_eq_getElem?_getD]
   exact hl i hq
  ·have:i=l.length:=by simp at hi';omega
   subst this
   simp[h0,h1]
 refine dQ (fun s:List Int×List Int×Bool×Int=>∃j:Nat,s.2.2.2=(j:Int)∧j≤w.length∧s.1.length=s.2.1.length∧s.1.length≤j∧(∀i,i<s.1.length→0≤s.1.getD i 0∧s.1.getD i 0<(w.length:Int))∧∀i,i<s.2.1.length→0≤s.2.1.getD i 0∧s.2.1.getD i 0<(k:Int)) (fun s=>w.length - s.2.2.2.toNat) _ ?_
  ⟨0,rfl,by omega,rfl,by simp,fun i hi=>by simp at hi,fun i hi=>by simp at hi⟩
 rintro⟨at_,sq,base,v⟩ ⟨j,rfl,hj,h1,h2,h3,h4⟩
 simp only at h1 h2 h3 h4
 by_cases hlt:j<w.length
 ·left
  refine⟨_,aER h hw hlt base h1 h2,?_,?_⟩
  ·split
   ·exact⟨j+1,rfl,by omega,h1,by simp only;omega,h3,h4⟩
   ·obtain⟨c0,c1⟩:=aDz h.cls (w.getD j 0)
    have htl:=h.trl
    obtain⟨t1,t2⟩:=h.tr (xA m (w.getD j 0)).toNat (by omega)
    exact⟨j+1,rfl,by omega,by simp[h1],by simp;omega,snoc h3 (by omega) (by omega),snoc h4 t1 t2⟩
  ·split <;> simp only[Int.toNat_natCast] <;> omega
 ·right
  obtain rfl:j=w.length:=by omega
  refine⟨(at_,sq),?_,h1,by simp only;omega,h3,h4⟩
  have q1:¬((w.length:Int)<(w.length:Int)):=by omega
  simp only[dV,q1,decide_false,Bool.false_eq_true,if_false]
def Ops(n:Nat)(out:List Int):Prop:=out.length=n+1∧out.getD n 0=2∧∀i,0≤out.getD i 0∧out.getD i 0≤2
theorem Ops.set{n:Nat}{out:List Int}(h:Ops n out){i:Nat}(hi:i<n){v:Int}(h0:0≤v)(h2:v≤2):Ops n (out.set i v):=by
 obtain⟨a,b,c⟩:=h
 refine⟨by simp[a],by rw[mZ (by omega),if_neg (by omega)];exact b,fun j=> ?_⟩
 rw[mZ (by omega)]
 split
 ·exact⟨h0,h2⟩
 ·exact c j
theorem aHE{m:Z5}{k:Nat}(h:Mo m k){n:Nat}(hn:n≤4096){at_ r3 r7:List Int}(h1:at_.length≤n)(ha:∀i,i<at_.length→0≤at_.getD i 0∧at_.getD i 0<(n:Int))
  (l3:r3.length=at_.length+1) (v3:∀i,0≤r3.getD i 0∧r3.getD i 0<(m.2.1.1.length:Int)) (l7:r7.length=at_.length+1) (v7:∀i,0≤r7.getD i 0∧r7.getD i 0<(m.2.2.1.length:Int)) {out:List Int} (ho:Ops n out) :
  ∃r,iter (dX (some m) at_ r3 r7) (out,(1:Int))=some r∧Ops n r:=by
 refine dQ (fun s:List Int×Int=>∃j:Nat,s.2=(j:Int)∧1≤j∧Ops n s.1) (fun s=>at_.length - s.2.toNat) _ ?_ ⟨1,rfl,by omega,ho⟩
 rintro⟨o,v⟩ ⟨j,rfl,hj,hO⟩
 simp only at hO
 by_cases hlt:j<at_.length
 ·left
  obtain⟨a0,a1⟩:=ha j hlt
  obtain⟨b0,b1⟩:=v3 j
  obtain⟨c0,c1⟩:=v7 (at_.length - j)
  have hal:=h.al
  have hbl:=h.bl
  have q1:(j:Int)<(at_.length:Int):=by omega
  have q2:0≤(j:Int):=by omega
  have q3:(j:Int)<(r3.length:Int):=by omega
  have q4:IntKind.i64.wrap ((at_.length:Int) - (j:Int))=((at_.length - j:Nat):Int):=by rw[wrap_i64 (by omega) (by omega)];omega
  have q5:0≤((at_.length - j:Nat):Int):=by omega
  have q6:((at_.length - j:Nat):Int)<(r7.length:Int):=by omega
  have q7:r3.getD j 0<(m.2.1.2.length:Int):=by omega
  have q8:r7.getD (at_.length - j) 0<(m.2.2.2.length:Int):=by omega
  have q9:at_.getD j 0<(o.length:Int):=by rw[hO.1];omega
  have q10:(at_.getD j 0).toNat<o.length:=by rw[hO.1];omega
  have hset1:=hO.set (i:=(at_.getD j 0).toNat) (by omega) (v:=1) (by omega) (by omega)
  by_cases hb:(aT .and .u32 (m.2.1.2.getD (r3.getD j 0).toNat 0) (m.2.2.2.getD (r7.getD (at_.length - j) 0).toNat 0) != 0)=true
  ·obtain⟨z0,z1⟩:=h.tz _ _ (by omega) (by omega) hb
   obtain⟨d0,d1⟩:=h.does (wN (aT .and .u32 (m.2.1.2.getD (r3.getD j 0).toNat 0) (m.2.2.2.getD (r7.getD (at_.length - j) 0).toNat 0))).toNat
   refine⟨((o.set (at_.getD j 0).toNat 1).set (at_.getD j 0).toNat (m.1.2.2.2.2.getD (wN (aT .and .u32 (m.2.1.2.getD (r3.getD j 0).toNat 0) (m.2.2.2.getD (r7.getD (at_.length - j) 0).toNat 0))).toNat (0,((Tree.node 0 0 []),(Tree.node 0 0 [])))).1,((j+1:Nat):Int)),?_,⟨j+1,rfl,by omega,hset1.set (i:=(at_.getD j 0).toNat) (by omega) d0 d1⟩,by simp only[Int.toNat_natCast];omega⟩
   simp only[dX,q1,q2,q3,q4,q5,q6,q7,q8,q9,q10,a0,b0,c0,hb,z0,z1,hY,List.length_set,hlt,and_self,decide_true,if_true,Option.bind,Option.isSome,Option.getD,Int.toNat_natCast,bM (show j≤9000000000000000000 by omega)]
  ·refine⟨(o.set (at_.getD j 0).toNat 1,((j+1:Nat):Int)),?_,⟨j+1,rfl,by omega,hset1⟩,by simp only[Int.toNat_natCast];omega⟩
   simp only[dX,q1,q2,q3,q4,q5,q6,q7,q8,q9,q10,a0,b0,c0,hb,hlt,and_self,decide_true,if_true,if_false,Bool.false_eq_true,Option.bind,Option.isSome,Option.getD,Int.toNat_natCast,bM (show j≤9000000000000000000 by omega)]
 ·right
  refine⟨o,?_,hO⟩
  have q1:¬((j:Int)<(at_.length:Int)):=by omega
  simp only[dX,q1,decide_false,Bool.false_eq_true,if_false]
theorem aAL{m:Z5}{k:Nat}(h:Mo m k){w:List Int}(hw:w.length≤4096):∃out,fG (some m) w=some out∧Ops w.length out:=by
 obtain⟨⟨at_,sq⟩,e1,l1,l2,va,vs⟩:=aHx h hw
 simp only at l1 l2 va vs
 obtain⟨r3,e3,l3,v3⟩:=W3 h.a m.2.1.2 (w:=sq) (by omega) vs
 obtain⟨r7,e7,l7,v7⟩:=W3 h.b m.2.2.2 (w:=sq.reverse) (by simp;omega) (fun i hi=>by
  rw[List.length_reverse]at hi
  rw[aDn hi]
  exact vs _ (by omega))
 have hO:Ops w.length ((List.replicate (w.length+1) (0:Int)).set w.length 2):=by
  refine⟨by simp,by rw[mZ (by simp),if_pos rfl],fun i=> ?_⟩
  rw[mZ (by simp)]
  split
  ·omega
  ·rcases Nat.lt_or_ge i (w.length+1)with hi | hi
   ·rw[show(List.replicate (w.length+1) (0:Int)).getD i 0=0 by simp[List.getD_eq_getElem?_getD,hi]]
    omega
   ·rw[List.getD_eq_getElem?_getD,List.getElem?_eq_none (by simpa using hi)]
    simp
 obtain⟨r,e9,hr⟩:=aHE h hw l2 va (by omega) v3 (by simpa [l1]using l7) v7 hO
 refine⟨r,?_,hr⟩
 have hwr:IntKind.i64.wrap ((w.length:Int)+1)=((w.length+1:Nat):Int):=bM (by omega)
 unfold fG
 simp only[hwr,Int.toNat_natCast,e1,e3,aEg (show sq.length≤1000000 by omega),e7,Option.bind,Option.isNone,Option.isSome,Option.getD,Bool.false_eq_true,if_false,if_true,e9]
 rw[if_pos (by omega),if_pos (by simp;omega),if_pos (by simp)]
end
end Go.Proofs.YtbedjpdfkmfplaaGreatDoor.T
