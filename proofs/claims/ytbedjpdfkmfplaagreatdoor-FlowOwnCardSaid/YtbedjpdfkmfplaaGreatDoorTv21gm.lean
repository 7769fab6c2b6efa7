/- The example's machines and points, of any text. -/
import Derived.Test.YtbedjpdfkmfplaaGreatDoorTv21bm
import Derived.Test.YtbedjpdfkmfplaaGreatDoorTv21f
namespace Go.Proofs.YtbedjpdfkmfplaaGreatDoor.T
open Go Go.Tv Go.Proofs
noncomputable section
def m1L:Z5:=(([[79]],0,0,[0],[(1,Tree.node 1 1 [],Tree.node 1 1 [])]),([[1],[1]],[0,1]),[[1],[1]],[0,1])
def m2L:Z5:=(([[79],[83],[78]],0,0,[0,1,2],[(0,Tree.node 1 2 [],Tree.node 1 2 []),(1,Tree.node 1 2 [],Tree.node 1 7 []),(2,Tree.node 1 4 [],Tree.node 1 7 []),(0,Tree.node 1 7 [],Tree.node 1 7 [])]),
 ([[1,2,3],[1,2,3],[1,2,3],[1,2,3]],[0,8,11,12]),[[1,2,1],[1,2,1],[1,2,1]],[0,14,15])
theorem aIp:aGf=some m1L:=by kernel_rfl
theorem aIH:aF0=some m2L:=by kernel_rfl
theorem aFK{l:List (Int×Tree×Tree)}(h:∀x∈l,0≤x.1∧x.1≤2)(i:Nat):0≤(l.getD i (0,((Tree.node 0 0 []),(Tree.node 0 0 [])))).1∧(l.getD i (0,((Tree.node 0 0 []),(Tree.node 0 0 [])))).1≤2:=by
 rcases Nat.lt_or_ge i l.length with hi | hi
 ·rw[mM hi]
  exact h _ (List.getElem_mem hi)
 ·rw[List.getD_eq_getElem?_getD,List.getElem?_eq_none hi]
  simp
theorem mo1:Mo m1L 1 where
 cls:=by decide
 trl:=by decide
 tr:=fun i hi=>(by decide:∀i:Fin 1,0≤[(0:Int)].getD i.1 0∧[(0:Int)].getD i.1 0<(1:Int)) ⟨i,hi⟩
 a:=⟨by decide,fun i hi=>(by decide:∀i:Fin 2,1≤([[(1:Int)],[1]].getD i.1 []).length) ⟨i,hi⟩,fun i c hi hc=>(by decide:∀(i:Fin 2) (c:Fin 1),0≤([[(1:Int)],[1]].getD i.1 []).getD c.1 0∧([[(1:Int)],[1]].getD i.1 []).getD c.1 0<(2:Int)) ⟨i,hi⟩ ⟨c,hc⟩⟩
 al:=by decide
 b:=⟨by decide,fun i hi=>(by decide:∀i:Fin 2,1≤([[(1:Int)],[1]].getD i.1 []).length) ⟨i,hi⟩,fun i c hi hc=>(by decide:∀(i:Fin 2) (c:Fin 1),0≤([[(1:Int)],[1]].getD i.1 []).getD c.1 0∧([[(1:Int)],[1]].getD i.1 []).getD c.1 0<(2:Int)) ⟨i,hi⟩ ⟨c,hc⟩⟩
 bl:=by decide
 tz:=fun s t hs ht=>(by decide:∀(s t:Fin 2),(aT .and .u32 ([(0:Int),1].getD s.1 0) ([(0:Int),1].getD t.1 0) != 0)=true →
  0≤wN (aT .and .u32 ([(0:Int),1].getD s.1 0) ([(0:Int),1].getD t.1 0))∧wN (aT .and .u32 ([(0:Int),1].getD s.1 0) ([(0:Int),1].getD t.1 0))<(1:Int)) ⟨s,hs⟩ ⟨t,ht⟩
 does:=aFK (by simp[m1L])
theorem mo2:Mo m2L 3 where
 cls:=by decide
 trl:=by decide
 tr:=fun i hi=>(by decide:∀i:Fin 3,0≤[(0:Int),1,2].getD i.1 0∧[(0:Int),1,2].getD i.1 0<(3:Int)) ⟨i,hi⟩
 a:=⟨by decide,fun i hi=>(by decide:∀i:Fin 4,3≤([[(1:Int),2,3],[1,2,3],[1,2,3],[1,2,3]].getD i.1 []).length) ⟨i,hi⟩,fun i c hi hc=>(by decide:∀(i:Fin 4) (c:Fin 3),0≤([[(1:Int),2,3],[1,2,3],[1,2,3],[1,2,3]].getD i.1 []).getD c.1 0∧([[(1:Int),2,3],[1,2,3],[1,2,3],[1,2,3]].getD i.1 []).getD c.1 0<(4:Int)) ⟨i,hi⟩ ⟨c,hc⟩⟩
 al:=by decide
 b:=⟨by decide,fun i hi=>(by decide:∀i:Fin 3,3≤([[(1:Int),2,1],[1,2,1],[1,2,1]].getD i.1 []).length) ⟨i,hi⟩,fun i c hi hc=>(by decide:∀(i:Fin 3) (c:Fin 3),0≤([[(1:Int),2,1],[1,2,1],[1,2,1]].getD i.1 []).getD c.1 0∧([[(1:Int),2,1],[1,2,1],[1,2,1]].getD i.1 []).getD c.1 0<(3:Int)) ⟨i,hi⟩ ⟨c,hc⟩⟩
 bl:=by decide
 tz:=fun s t hs ht=>(by decide:∀(s:Fin 4) (t:Fin 3),(aT .and .u32 ([(0:Int),8,11,12].getD s.1 0) ([(0:Int),14,15].getD t.1 0) != 0)=true →
  0≤wN (aT .and .u32 ([(0:Int),8,11,12].getD s.1 0) ([(0:Int),14,15].getD t.1 0))∧wN (aT .and .u32 ([(0:Int),8,11,12].getD s.1 0) ([(0:Int),14,15].getD t.1 0))<(4:Int)) ⟨s,hs⟩ ⟨t,ht⟩
 does:=aFK (by simp[m2L])
theorem aJB:exH=some ([],some ([([],[])],()),[],2,2):=by kernel_rfl
theorem aGP(r:Int):fQ exH r=some (0,false):=by rw[aJB];kernel_rfl
theorem aJ2:g9 exH []=some [false]:=by kernel_rfl
theorem aH4{s:List (Int×Int×Int)}(hn:s.length≤4096):eM exH s=some (List.replicate (s.length+1) false):=by
 have hw:IntKind.i64.wrap ((s.length:Int)+1)=((s.length+1:Nat):Int):=bM (by omega)
 have hL:iter (dJ exH s) (List.replicate (s.length+1) false,((0:Nat):Int))=some (List.replicate (s.length+1) false):=by
  refine fD (fun k=>(List.replicate (s.length+1) false,(k:Int))) s.length (fun k hk=> ?_) ?_
  ·have q1:(k:Int)<(s.length:Int):=by omega
   have q2:0≤(k:Int):=by omega
   have hin:iter (eP exH s) ((k:Int),([]:List Int))=some ((k:Int),[]):=by
    refine dO ?_
    simp only[eP,q1,q2,and_self,decide_true,if_true,aGP,Option.bind,Bool.not_false]
   have q4:0≤(k:Int)∧(k:Int)≤((List.replicate (s.length+1) false).length:Int):=by simp;omega
   simp only[dJ,q1,decide_true,if_true,hin,Option.bind,q4,and_self,aJ2,bM (show k≤9000000000000000000 by omega)]
   simp
   omega
  ·have q1:¬((s.length:Int)<(s.length:Int)):=by omega
   simp only[dJ,q1,decide_false,Bool.false_eq_true,if_false]
 unfold eM
 rw[hw,if_pos (by omega),Int.toNat_natCast]
 exact congrArg (fun x=>Option.bind x fun o=>some o) hL
end
end Go.Proofs.YtbedjpdfkmfplaaGreatDoor.T
namespace Go.Proofs.YtbedjpdfkmfplaaGreatDoor.T
open Go Go.Tv Go.Proofs
noncomputable section
abbrev cV:=Int×Int×Int×Int
def CvC:Int→List cV→Int→Prop
 | a,[],n=>a=n
 | a,x::r,n=>x.1=a∧1≤x.2.1∧0≤x.2.2.1∧x.2.2.1≤2∧0≤x.2.2.2∧x.2.2.2≤2∧CvC (a+x.2.1) r n
theorem CvC.snoc{x:cV}:∀ {a m:Int} {s:List cV},CvC a s m→x.1=m→1≤x.2.1→0≤x.2.2.1→x.2.2.1≤2→0≤x.2.2.2→x.2.2.2≤2→CvC a (s++[x]) (m+x.2.1)
 | a,m,[],h,h1,h2,h3,h4,h5,h6=>by
  simp only[CvC]at h
  subst h
  exact⟨h1,h2,h3,h4,h5,h6,rfl⟩
 | a,m,y::s,h,h1,h2,h3,h4,h5,h6=>⟨h.1,h.2.1,h.2.2.1,h.2.2.2.1,h.2.2.2.2.1,h.2.2.2.2.2.1,h.2.2.2.2.2.2.snoc h1 h2 h3 h4 h5 h6⟩
theorem CvC.cut{x:cV}:∀ {a m:Int} {s:List cV},CvC a (s++[x]) m→CvC a s x.1∧1≤x.2.1∧0≤x.2.2.1∧x.2.2.1≤2∧0≤x.2.2.2∧x.2.2.2≤2∧m=x.1+x.2.1
 | a,m,[],h=>by
  obtain⟨h1,h2,h3,h4,h5,h6,h7⟩:=h
  simp only[CvC]at h7 ⊢
  exact⟨h1.symm,h2,h3,h4,h5,h6,by omega⟩
 | a,m,y::s,h=>by
  obtain⟨h1,h2,h3,h4,h5,h6,h7⟩:=h
  obtain⟨q1,q2⟩:=CvC.cut h7
  exact⟨⟨h1,h2,h3,h4,h5,h6,q1⟩,q2⟩
theorem CvC.le:∀ {a n:Int} {s:List cV},CvC a s n→a≤n
 | a,n,[],h=>by simp only[CvC]at h;omega
 | a,n,x::s,h=>by
  have:=CvC.le h.2.2.2.2.2.2
  have:=h.2.1
  omega
theorem oC{α:Type}(p:List α)(x d:α):(p++[x]).getD p.length d=x:=by simp[List.getD_eq_getElem?_getD]
theorem aCI{α:Type}(p:List α)(x y:α):(p++[x]).set p.length y=p++[y]:=by
 rw[List.set_append_right _ _ (Nat.le_refl _),Nat.sub_self]
 rfl
theorem nY{i:Nat}(h:i≤9000000000000000000):IntKind.i64.wrap (((i+1:Nat):Int) - 1)=(i:Int):=by rw[wrap_i64 (by omega) (by omega)];omega
def T4(r:Int):Int:=if r=32 then 1 else if r=9 then 2 else 0
theorem aIk(r:Int):nW r=some (T4 r):=by
 unfold nW T4
 by_cases h1:r=32
 ·simp[h1]
 ·by_cases h2:r=9
  ·simp[h2]
  ·simp[h1,h2]
def aGv(marks:List Int)(k:Nat):Bool:=k == 0 || (decide (k<marks.length) && marks.getD k 0 != 0)
theorem aEn{t:Option ((Arr 4352)×List (Arr 256))}{f:Int→Int}(ht:yZ t f){s:List (Int×Int×Int)}(hs:s.length≤4096)(marks:List Int){k:Nat}(hk:k<s.length){cl:List cV}{st:List Int}(hcl:cl.length≤k)(hst:st.length=cl.length):
  (aGv marks k=true→eF s marks t (cl,st,(k:Int))=some (.inl (cl++[((s.getD k (0,(0,0))).2.1,(IntKind.i64.wrap (0+(s.getD k (0,(0,0))).2.2),(max 0 (min (f (s.getD k (0,(0,0))).1) 2),T4 (s.getD k (0,(0,0))).1)))],st++[(k:Int)],((k+1:Nat):Int)))):=by
 intro hb
 have ht':bF t=fun r=>some (f r):=ht
 have q1:(k:Int)<(s.length:Int):=by omega
 have q2:0≤(k:Int):=by omega
 have q3:(if((k:Int) == (0:Int))=true then some true
   else if decide ((k:Int)<(marks.length:Int))=true then(if True∧(k:Int)<(marks.length:Int)then some (marks.getD k (0:Int) != (0:Int))else none)else some false)=some true:=by
  unfold aGv at hb
  by_cases h0:k=0
  ·subst h0;rfl
  ·have e1:((k:Int) == 0)=false:=by rw[beq_eq_false_iff_ne];omega
   have e2:(k == 0)=false:=by rw[beq_eq_false_iff_ne];exact h0
   rw[e2,Bool.false_or,Bool.and_eq_true]at hb
   have e3:(k:Int)<(marks.length:Int):=by have:=of_decide_eq_true hb.1;omega
   simp only[e1,e3,Bool.false_eq_true,if_false,decide_true,and_self,if_true,hb.2]
 have q4:IntKind.i64.wrap ((k:Int)+1)=((k+1:Nat):Int):=bM (by omega)
 have q5:∀x:cV,(cl++[x]).length=cl.length+1:=fun x=>by simp
 have q6:∀x:Int,(st++[x]).length=cl.length+1:=fun x=>by simp[hst]
 have q7:IntKind.i64.wrap (((cl.length+1:Nat):Int) - 1)=(cl.length:Int):=nY (by omega)
 have q8:(cl.length:Int)<((cl.length+1:Nat):Int):=by omega
 have q9:cl.length<cl.length+1:=by omega
 have q10:0≤(cl.length:Int):=by omega
 have q11:(st++[(k:Int)]).getD cl.length 0=(k:Int):=by rw[←hst];exact oC _ _ _
 have q12:((k:Int) != (k:Int))=false:=by simp
 have g1:∀x:cV,(cl.length+([x]:List cV).length)*32≤140737488355328∧cl.length+([x]:List cV).length≤9223372036854775807:=fun x=>by simp;omega
 have g2:(st.length+([(k:Int)]:List Int).length)*8≤140737488355328∧st.length+([(k:Int)]:List Int).length≤9223372036854775807:=by simp;omega
 simp only[eF,q1,q2,and_self,decide_true,if_true,Int.toNat_natCast]
 rw[q3]
 simp only[q2,and_self,decide_true,if_true,Option.bind,Int.toNat_natCast,aIk,g1,g2,q4,q5,q6,q7,q8,q9,q10,q11,q12,oC,aCI,Bool.false_eq_true,if_false,ht']
theorem aGk{t:Option ((Arr 4352)×List (Arr 256))}{f:Int→Int}(ht:yZ t f){s:List (Int×Int×Int)}(hs:s.length≤4096)(marks:List Int){k:Nat}(hk:k<s.length){p:List cV}{c:cV}{q:List Int}{y:Int}(hp:p.length≤k)(hq:q.length=p.length)(hy:y≠(k:Int))(hb:aGv marks k=false):
  eF s marks t (p++[c],q++[y],(k:Int))=some (.inl (p++[(c.1,(IntKind.i64.wrap (c.2.1+(s.getD k (0,(0,0))).2.2),(max c.2.2.1 (min (f (s.getD k (0,(0,0))).1) 2),0)))],q++[y],((k+1:Nat):Int))):=by
 have ht':bF t=fun r=>some (f r):=ht
 have q1:(k:Int)<(s.length:Int):=by omega
 have q2:0≤(k:Int):=by omega
 have q3:(if((k:Int) == (0:Int))=true then some true
   else if decide ((k:Int)<(marks.length:Int))=true then(if True∧(k:Int)<(marks.length:Int)then some (marks.getD k (0:Int) != (0:Int))else none)else some false)=some false:=by
  unfold aGv at hb
  rw[Bool.or_eq_false_iff]at hb
  have h0:k≠0:=by have:=hb.1;rw[beq_eq_false_iff_ne]at this;exact this
  have e1:((k:Int) == 0)=false:=by rw[beq_eq_false_iff_ne];omega
  by_cases e3:k<marks.length
  ·have e4:(k:Int)<(marks.length:Int):=by omega
   have e5:(marks.getD k 0 != 0)=false:=by have:=hb.2;rw[decide_eq_true e3,Bool.true_and]at this;exact this
   simp only[e1,e4,Bool.false_eq_true,if_false,decide_true,and_self,if_true,e5]
  ·have e4:¬((k:Int)<(marks.length:Int)):=by omega
   simp only[e1,e4,Bool.false_eq_true,if_false,decide_false]
 have q4:IntKind.i64.wrap ((k:Int)+1)=((k+1:Nat):Int):=bM (by omega)
 have q5:∀x:cV,(p++[x]).length=p.length+1:=fun x=>by simp
 have q6:∀x:Int,(q++[x]).length=p.length+1:=fun x=>by simp[hq]
 have q7:IntKind.i64.wrap (((p.length+1:Nat):Int) - 1)=(p.length:Int):=nY (by omega)
 have q8:(p.length:Int)<((p.length+1:Nat):Int):=by omega
 have q9:p.length<p.length+1:=by omega
 have q10:0≤(p.length:Int):=by omega
 have q11:(q++[y]).getD p.length 0=y:=by rw[←hq];exact oC _ _ _
 have q12:(y != (k:Int))=true:=by rw[bne_iff_ne];exact hy
 simp only[eF,q1,q2,and_self,decide_true,if_true,Int.toNat_natCast]
 rw[q3]
 simp only[q2,and_self,decide_true,if_true,Option.bind,Int.toNat_natCast,q4,q5,q6,q7,q8,q9,q10,q11,q12,oC,aCI,Bool.false_eq_true,if_false,ht']
theorem Cv.split{a n:Int}:∀ {s:List (Int×Int×Int)} {k:Nat},Cv a s n→k<s.length→Cv a (s.take k) (s.getD k (0,(0,0))).2.1∧1≤(s.getD k (0,(0,0))).2.2∧(s.getD k (0,(0,0))).2.2≤4
 | x::s,0,h,_=>⟨by simp only[List.take_zero,Cv,List.getD_cons_zero];exact h.1.symm,h.2.1,h.2.2.1⟩
 | x::s,k+1,h,hk=>by
  obtain⟨q1,q2,q3⟩:=Cv.split h.2.2.2 (show k<s.length by simpa using hk)
  simp only[List.take_succ_cons,List.getD_cons_succ]
  exact⟨⟨h.1,h.2.1,h.2.2.1,q1⟩,q2,q3⟩
theorem Cv.range{a n:Int}:∀ {s:List (Int×Int×Int)},Cv a s n→a+(s.length:Int)≤n∧n≤a+4*(s.length:Int)
 | [],h=>by simp only[Cv]at h;simp;omega
 | x::s,h=>by
  have:=h.2.2.2.range
  have:=h.2.1
  have:=h.2.2.1
  simp only[List.length_cons]
  omega
theorem Cv.uniq{a n m:Int}:∀ {s:List (Int×Int×Int)},Cv a s n→Cv a s m→n=m
 | [],h,h'=>by simp only[Cv]at h h';omega
 | x::s,h,h'=>Cv.uniq h.2.2.2 h'.2.2.2
theorem O6{α:Type}{l:List α}(h:0<l.length):∃p x,l=p++[x]:=by
 have hne:l≠[]:=fun e=>by simp[e]at h
 exact⟨l.dropLast,l.getLast hne,(List.dropLast_concat_getLast hne).symm⟩
theorem nT{l:List Int}{x d:Int}{i:Nat}:(l++[x]).getD i d=if i<l.length then l.getD i d else if i=l.length then x else d:=by
 by_cases h:i<l.length
 ·rw[if_pos h,List.getD_eq_getElem?_getD,List.getElem?_append_left h,←List.getD_eq_getElem?_getD]
 ·rw[if_neg h]
  by_cases e:i=l.length
  ·rw[if_pos e,e];exact oC _ _ _
  ·rw[if_neg e,List.getD_eq_getElem?_getD,List.getElem?_eq_none (by simp;omega)]
   rfl
structure CM(s:List (Int×Int×Int))(k:Nat)(a:Int)(cl:List cV)(st:List Int):Prop where
 cov:CvC 0 cl a
 sgn:Cv 0 (s.take k) a
 len:st.length=cl.length
 le:cl.length≤k
 at_:∀i,i<st.length→0≤st.getD i 0∧st.getD i 0<(k:Int)
 some_:0<k→0<cl.length
 zero:0<cl.length→st.getD 0 0=0
theorem aFN{t:Option ((Arr 4352)×List (Arr 256))}{f:Int→Int}(ht:yZ t f){s:List (Int×Int×Int)}{n:Int}(hc:Cv 0 s n)(hn:n≤4096)(marks:List Int):
  ∃r,iter (eF s marks t) (([]:List cV),([]:List Int),(0:Int))=some r∧CM s s.length n r.1 r.2:=by
 have hr:=hc.range
 have hsl:s.length≤4096:=by omega
 refine dQ (fun z:List cV×List Int×Int=>∃(k:Nat) (a:Int),z.2.2=(k:Int)∧k≤s.length∧0≤a∧a≤4*(k:Int)∧CM s k a z.1 z.2.1) (fun z=>s.length - z.2.2.toNat) _ ?_
  ⟨0,0,rfl,by omega,by omega,by omega,⟨rfl,rfl,rfl,by simp,fun i hi=>by simp at hi,fun h=>by omega,fun h=>by simp at h⟩⟩
 rintro⟨cl,st,v⟩ ⟨k,a,rfl,hk,ha0,ha,hM⟩
 simp only at hM
 by_cases hlt:k<s.length
 ·left
  obtain⟨c1,c2,c3⟩:=hc.split hlt
  have hat:(s.getD k (0,(0,0))).2.1=a:=c1.uniq hM.sgn
  have htk:Cv 0 (s.take (k+1)) (a+(s.getD k (0,(0,0))).2.2):=by
   rw[kU (d:=(0,(0,0))) hlt]
   exact hM.sgn.snoc hat c2 c3
  have hmx:∀x:Int,0≤x→x≤2→0≤max x (min (f (s.getD k (0,(0,0))).1) 2)∧max x (min (f (s.getD k (0,(0,0))).1) 2)≤2:=fun x h0 h1=>by omega
  have hkd:0≤T4 (s.getD k (0,(0,0))).1∧T4 (s.getD k (0,(0,0))).1≤2:=by unfold T4;split;omega;split <;> omega
  cases hb:aGv marks k with
  | true =>
   refine⟨_,aEn ht hsl marks hlt hM.le hM.len hb,⟨k+1,a+(s.getD k (0,(0,0))).2.2,rfl,by omega,by omega,by omega,⟨?_,htk,by simp[hM.len],by have:=hM.le;simp;omega,fun i hi=> ?_,fun _=>by simp,fun _=> ?_⟩⟩,by simp only[Int.toNat_natCast];omega⟩
   ·have:=hM.cov.snoc (x:=((s.getD k (0,(0,0))).2.1,(IntKind.i64.wrap (0+(s.getD k (0,(0,0))).2.2),(max 0 (min (f (s.getD k (0,(0,0))).1) 2),T4 (s.getD k (0,(0,0))).1)))) hat (by simp only;rw[wrap_i64 (by omega) (by omega)];omega) (by simp only;omega) (by simp only;omega) hkd.1 hkd.2
    simp only at this
    rw[wrap_i64 (by omega) (by omega),Int.zero_add]at this
    simp only
    rw[wrap_i64 (by omega) (by omega),Int.zero_add]
    exact this
   ·simp only at hi ⊢
    rw[nT]
    split
    ·rename_i h
     have:=hM.at_ i h
     omega
    ·split <;> omega
   ·simp only
    rw[nT]
    split
    ·rename_i h
     exact hM.zero (by have:=hM.len;omega)
    ·rename_i h
     have hl:=hM.len
     have hc0:cl.length=0:=by omega
     have hk0:k=0:=by
      rcases Nat.eq_zero_or_pos k with e | e
      ·exact e
      ·have:=hM.some_ e;omega
     subst hk0
     split <;> rfl
  | false =>
   have hk0:0<k:=by
    rcases Nat.eq_zero_or_pos k with e | e
    ·subst e;simp[aGv]at hb
    ·exact e
   have hcl:=hM.some_ hk0
   have hl:=hM.len
   obtain⟨p,c,rfl⟩:=O6 hcl
   obtain⟨q,y,rfl⟩:=O6 (show 0<st.length by omega)
   have hpq:q.length=p.length:=by simpa using hl
   have hy:=hM.at_ q.length (by simp)
   rw[oC]at hy
   have hple:p.length≤k:=by have:=hM.le;simp at this;omega
   obtain⟨d1,d2,d3,d4,d5,d6,d7⟩:=hM.cov.cut
   refine⟨_,aGk ht hsl marks hlt hple hpq (by omega) hb,⟨k+1,a+(s.getD k (0,(0,0))).2.2,rfl,by omega,by omega,by omega,⟨?_,htk,by simp[hpq],by have:=hM.le;simp at this ⊢;omega,fun i hi=> ?_,fun _=>by simp,fun _=>hM.zero (by simp)⟩⟩,by simp only[Int.toNat_natCast];omega⟩
   ·have hc1:=d1.le
    have hw:IntKind.i64.wrap (c.2.1+(s.getD k (0,(0,0))).2.2)=c.2.1+(s.getD k (0,(0,0))).2.2:=wrap_i64 (by omega) (by omega)
    obtain⟨m1,m2⟩:=hmx c.2.2.1 d3 d4
    have:=d1.snoc (x:=(c.1,(c.2.1+(s.getD k (0,(0,0))).2.2,(max c.2.2.1 (min (f (s.getD k (0,(0,0))).1) 2),0)))) rfl (by simp only;omega) m1 m2 (by simp only;omega) (by simp only;omega)
    simp only at this
    simp only
    rw[hw,d7,show c.1+c.2.1+(s.getD k (0,(0,0))).2.2=c.1+(c.2.1+(s.getD k (0,(0,0))).2.2) by omega]
    exact this
   ·have:=hM.at_ i hi
    exact⟨this.1,by have:=this.2;simp only;omega⟩
 ·right
  obtain rfl:k=s.length:=by omega
  refine⟨(cl,st),?_,?_⟩
  ·have q1:¬((s.length:Int)<(s.length:Int)):=by omega
   simp only[eF,q1,decide_false,Bool.false_eq_true,if_false]
  ·have:=hM.sgn
   rw[List.take_length]at this
   have e:n=a:=hc.uniq this
   subst e
   exact hM
end
end Go.Proofs.YtbedjpdfkmfplaaGreatDoor.T
