/- A plan's rules, and what is made of them. -/
import Derived.Test.YtacpjjgochokcaaDoorTv06bbm
import Derived.Test.YtacpjjgochokcaaDoorTv06pvm
import Derived.Test.YtacpjjgochokcaaDoorTv06pm
import Derived.Test.YtacpjjgochokcaaDoorTvT06xb
import Derived.Test.YtacpjjgochokcaaDoorTvT06x0
import Derived.Test.YtacpjjgochokcaaDoorTvT06xa
import Derived.Test.YtacpjjgochokcaaDoorTv06lpm
namespace Go.Proofs.YtacpjjgochokcaaDoor.T
open Go Go.Tv Go.Proofs
set_option maxRecDepth 1000000 in
theorem aHs:iU=some true:=by kernel_rfl
theorem aCQ{n:Nat}(h1:1≤n)(tr:List Int):∀k,∀c∈trV n tr k,0≤c∧c<(n:Int)
 | 0,c,hc=>by
  obtain⟨i,hi,rfl⟩:=List.getElem_of_mem hc
  have hi':i<n:=by simpa [trV,t0P]using hi
  have:=aGO hi'
  rw[eG (by simpa [trV]using hi)]at this
  have e:(trV n tr 0)[i]=(t0P n)[i]'(by simpa [trV]using hi):=rfl
  rw[e,this]
  omega
 | k+1,c,hc=>by
  simp only[trV]at hc
  rcases List.mem_or_eq_of_mem_set hc with h | rfl
  ·exact aCQ h1 tr k c h
  ·have:=Nat.mod_lt (tr.getD k 0).toNat (show 0<n by omega)
   omega
theorem aDy{l:RL}{x}(hx:x∈l):x.2.1∈pD l∧x.2.2∈pD l:=by
 unfold pD
 exact⟨List.mem_flatMap.2 ⟨x,hx,by simp⟩,List.mem_flatMap.2 ⟨x,hx,by simp⟩⟩
theorem V5:∀l:RL,dQ (l.map fun x=>x.2.1)+dQ (l.map fun x=>x.2.2)=dQ (pD l)
 | []=>rfl
 | x::l=>by
  have ih:=V5 l
  have e:pD (x::l)=[x.2.1,x.2.2]++pD l:=rfl
  rw[e,jF]
  simp only[List.map_cons,dQ]
  omega
theorem yV(c j a:Int)(tr:List Int)(l:List PR):(qI c j a tr l).1.length=bQ c:=(wX (tD c) (rQ c) 0).2.2
theorem S7(c j a:Int)(tr:List Int)(l:List PR):Good (qI c j a tr l):=by
 have h1:=tD c
 have h6:=rQ c
 have hlen:=yV c j a tr l
 have hn:=Nat.min_le_right l.length 10
 obtain⟨e1,e2,e3⟩:=aCA (bQ c) l (min l.length 10)
 have e4:=V5 (ruV (bQ c) l (min l.length 10))
 have hrl:=W5 (bQ c) l (min l.length 10)
 refine⟨by omega,by omega,?_,?_,?_,fun x hx=> ?_,?_,fun x hx=> ?_,?_,?_⟩
 ·simp only[qI];split
  ·exact U32.zero
  ·exact U32.bits _ _ _
 ·simp only[qI];split
  ·exact U32.zero
  ·exact U32.bits _ _ _
 ·rw[hlen];exact aCG _ _ _
 ·rw[hlen];exact aCQ h1 tr _ x hx
 ·show(ruV (bQ c) l (min l.length 10)).length≤24
  omega
 ·have hx':x∈ruV (bQ c) l (min l.length 10):=hx
  have:=aDy hx'
  exact⟨(e2 _ this.1).mono (by omega),(e2 _ this.2).mono (by omega)⟩
 ·show dQ ((ruV (bQ c) l (min l.length 10)).map fun x=>x.2.1)≤200
  omega
 ·show dQ ((ruV (bQ c) l (min l.length 10)).map fun x=>x.2.2)≤200
  omega
theorem aGV{t:List UInt8}{r:RR}(hr:Good r)(hp:i9 t=some (r,0,0)):(mT t=some ((none:MA),27,0)∧aJT r)∨∃A B,mT t=some ((some (r,A,B):MA),0,0)∧aHn r A B:=by
 unfold mT
 rw[hp]
 simp only[Option.bind_some]
 rw[if_neg (by decide)]
 rcases aCd hr with⟨q,hm⟩ | ⟨A,B,q,hM⟩
 ·rw[q];exact .inl ⟨rfl,hm⟩
 ·rw[q];exact .inr ⟨A,B,rfl,hM⟩
theorem aE1{c j a:Int}{tr:List Int}{l:List PR}(h:Pl c j a tr l):fI c j a tr l=some ((none:MA),qI c j a tr l,false) ∨
  ∃A B,fI c j a tr l=some ((some (qI c j a tr l,A,B):MA),qI c j a tr l,true)∧aHn (qI c j a tr l) A B:=by
 have hP:pY (C2 c j a tr l)=some (qI c j a tr l,0,0):=by
  rw[aIa,E8 h (Nat.le_trans (O1 c j a tr l) (by decide)) (aEK h)]
  rfl
 unfold fI
 rw[aGE h]
 simp only[Option.bind_some]
 rcases aGV (S7 c j a tr l) (aB1 h)with⟨q,_⟩ | ⟨A,B,q,hM⟩
 ·rw[q]
  simp only[Option.bind_some]
  rw[hP]
  exact .inl rfl
 ·rw[q]
  simp only[Option.bind_some]
  rw[hP]
  exact .inr ⟨A,B,rfl,hM⟩
end Go.Proofs.YtacpjjgochokcaaDoor.T
namespace Go.Proofs.YtacpjjgochokcaaDoor.T
open Go Go.Tv Go.Proofs
noncomputable section
set_option maxRecDepth 100000
set_option maxHeartbeats 4000000
def cD(x1:List Int)(v31:Int):((List Int)×Int)→Option (((List Int)×Int)⊕(List Int)):=fun(v43,v44) =>
 (if(decide (v44<(IntKind.i64.wrap (Int.tmod (x1.getD v31.toNat (0:Int)) (3:Int)))))=true then(if(v43.length+([(0:Int)]:List Int).length)*8≤140737488355328∧v43.length+([(0:Int)]:List Int).length≤9223372036854775807 then some (Sum.inl ((v43++([(0:Int)]:List Int)),(IntKind.i64.wrap (v44+(1:Int)))))else none)
 else some (Sum.inr v43))
def cZ(i1 x1:List Int)(r4:Int):((List Int)×(List Int)×(List Int)×Int)→Option (((List Int)×(List Int)×(List Int)×Int)⊕((List Int)×(List Int)×List Int)):=fun(v28,v29,v30,v31) =>
 (if(decide (v31<(i1.length:Int)))=true then(if 0≤v31∧v31<(i1.length:Int)then(if ¬(IntKind.u64.wrap (IntKind.i64.wrap (r4 - (1:Int))))=0 then(if(v28.length+([(IntKind.i64.wrap ((1:Int)+(IntKind.i64.wrap (Int.tmod (IntKind.u64.wrap (i1.getD v31.toNat (0:Int))) (IntKind.u64.wrap (IntKind.i64.wrap (r4 - (1:Int))))))))]:List Int).length)*8≤140737488355328∧v28.length+([(IntKind.i64.wrap ((1:Int)+(IntKind.i64.wrap (Int.tmod (IntKind.u64.wrap (i1.getD v31.toNat (0:Int))) (IntKind.u64.wrap (IntKind.i64.wrap (r4 - (1:Int))))))))]:List Int).length≤9223372036854775807 then(if(v30.length+([(v29.length:Int)]:List Int).length)*8≤140737488355328∧v30.length+([(v29.length:Int)]:List Int).length≤9223372036854775807 then(if(v29.length+([(IntKind.i64.wrap ((1:Int)+(IntKind.i64.wrap (Int.tmod (IntKind.u64.wrap (i1.getD v31.toNat (0:Int))) (IntKind.u64.wrap (IntKind.i64.wrap (r4 - (1:Int))))))))]:List Int).length)*8≤140737488355328∧v29.length+([(IntKind.i64.wrap ((1:Int)+(IntKind.i64.wrap (Int.tmod (IntKind.u64.wrap (i1.getD v31.toNat (0:Int))) (IntKind.u64.wrap (IntKind.i64.wrap (r4 - (1:Int))))))))]:List Int).length≤9223372036854775807 then(((if(decide (v31<(x1.length:Int)))=true then(if 0≤v31∧v31<(x1.length:Int)then(if ¬(3:Int)=0 then((iter (cD x1 v31) ((v29++([(IntKind.i64.wrap ((1:Int)+(IntKind.i64.wrap (Int.tmod (IntKind.u64.wrap (i1.getD v31.toNat (0:Int))) (IntKind.u64.wrap (IntKind.i64.wrap (r4 - (1:Int))))))))]:List Int)),(0:Int))).bind fun v45=>some (v45))else none)else none)
 else some ((v29++([(IntKind.i64.wrap ((1:Int)+(IntKind.i64.wrap (Int.tmod (IntKind.u64.wrap (i1.getD v31.toNat (0:Int))) (IntKind.u64.wrap (IntKind.i64.wrap (r4 - (1:Int))))))))]:List Int))))).bind fun v40=>some (Sum.inl ((v28++([(IntKind.i64.wrap ((1:Int)+(IntKind.i64.wrap (Int.tmod (IntKind.u64.wrap (i1.getD v31.toNat (0:Int))) (IntKind.u64.wrap (IntKind.i64.wrap (r4 - (1:Int))))))))]:List Int)),v40,(v30++([(v29.length:Int)]:List Int)),(IntKind.i64.wrap (v31+(1:Int))))))else none)else none)else none)else none)else none)
 else some (Sum.inr (v28,v29,v30)))
def b9(v34 r14 r15:List Int):((List Bool)×Int)→Option (((List Bool)×Int)⊕((List Bool)⊕(Bool))):=fun(v48,v49) =>
 (if(decide (v49<(v34.length:Int)))=true then(if 0≤v49∧v49<(v34.length:Int)then(if v49.toNat<v34.length then(if 0≤(v34.getD v49.toNat (0:Int))∧(v34.getD v49.toNat (0:Int))<(v48.length:Int)then(if(v34.getD v49.toNat (0:Int)).toNat<v48.length then(if 0≤v49∧v49<(r14.length:Int)then(if 0≤(v34.getD v49.toNat (0:Int))∧(v34.getD v49.toNat (0:Int))<(r15.length:Int)then(if((r14.getD v49.toNat (0:Int)) != (r15.getD ((v34.getD v49.toNat (0:Int)).toNat) (0:Int)))=true then some (Sum.inr (Sum.inr false))
 else some (Sum.inl ((v48.set ((v34.getD v49.toNat (0:Int)).toNat) true),(IntKind.i64.wrap (v49+(1:Int))))))else none)else none)else none)else none)else none)else none)
 else some (Sum.inr (Sum.inl v48)))
def cE(v33 r15:List Int)(v50:List Bool):(Int)→Option ((Int)⊕((Unit)⊕(Bool))):=fun v54 =>
 (if(decide (v54<(v33.length:Int)))=true then(((if 0≤v54∧v54<(v50.length:Int)then(if v54.toNat<v50.length then(if(!(v50.getD v54.toNat false))=true then(if 0≤v54∧v54<(r15.length:Int)then some (((r15.getD v54.toNat (0:Int)) != (0:Int)))else none)
 else some (false))else none)else none)).bind fun v55=>(if v55=true then some (Sum.inr (Sum.inr false))
 else some (Sum.inl (IntKind.i64.wrap (v54+(1:Int))))))
 else some (Sum.inr (Sum.inl ())))
def eJ(d1 d2 d3:Int)(d4:List Int)(d5:List (Int×(List Int)×List Int))(i1 x1:List Int):Option (Bool) :=
 ((iU).bind fun r2 =>
 (if(!r2)=true then some false
 else((iN d1 d2 d3 d4 d5).bind fun r4 =>
 (((if(decide (r4<(2:Int)))=true then some (true)
 else some ((decide ((i1.length:Int) > (60:Int)))))).bind fun v1=>(if v1=true then some true
 else((fI d1 (1:Int) (254:Int) d4 d5).bind fun(r8,r9,r10) =>
 (if(!r10)=true then some true
 else((iter (cZ i1 x1 r4) (([]:List Int),([]:List Int),([]:List Int),(0:Int))).bind fun(v32,v33,v34)=>((dT r8 v32).bind fun r14 =>
 ((dT r8 v33).bind fun r15 =>
 (if 0≤(r15.length:Int)∧(r15.length:Int)≤(r15.length:Int)∧(1:Int)*(r15.length:Int)≤281474976710656∧(r15.length:Int)≤9223372036854775807 then((iter (b9 v34 r14 r15) ((List.replicate (r15.length:Int).toNat false),(0:Int))).bind fun(r17:((List Bool)⊕(Bool)))=>match r17 with
 | .inl v50=>((iter (cE v33 r15 v50) (0:Int)).bind fun(r19:((Unit)⊕(Bool)))=>match r19 with
 | .inl _=>(((if((r15.length:Int) == (IntKind.i64.wrap ((v33.length:Int)+(1:Int))))=true then(if 0≤(v33.length:Int)∧(v33.length:Int)<(r15.length:Int)then some (((r15.getD ((v33.length:Int).toNat) (0:Int)) == (2:Int)))else none)
 else some (false))).bind fun v56=>some v56)
 | .inr (r18)=>some r18)
 | .inr (r16)=>some r16)else none)))))))))))
theorem stanzalaw06_SegJoins_ok(β3 β5 β6:Bool){d1:Int}{d2:Int}{d3:Int}{d4:List Int}{d5:List (Int×(List Int)×List Int)}{i1:List Int}{x1:List Int}{res:Bool}(h:eJ d1 d2 d3 d4 d5 i1 x1=some res):
  Pure Tryd.prog 5 [.agg [.u8 d1,.u8 d2,.u8 d3,.p β3 (.slice (.int .u8)) d4,.p false (.slice (.prod (.int .u8) Y11)) d5],.p β5 (.slice (.int .i64)) i1,.p β6 (.slice (.int .u8)) x1] (bY (fR false [⟨.bool,res⟩])):=by
 refine Pure.of_body bI Tryd.func5 (by kernel_rfl) rfl (nl rfl) (fun Bw w0=> ?_) rfl
 unfold eJ at h
 refine G (aC ?_)
 obtain⟨r2,q2,h⟩:=aD h
 refine GP 0 (sN q2) (aS h (fun hb1 h=> ?_) (fun hb1 h=> ?_))
 ·refine G (aR (aG ?_))
  obtain rfl:=sI h
  exact aM [.bool] (by kernel_rfl)
 refine aB (aA ?_)
 obtain⟨r4,q4,h⟩:=aD h
 refine GP 1 (qQ β3 false q4) (aC (aC (cQ h (fun v1=>aJ [(1,.p β5 (.slice (.int .i64)) i1),(2,.p β6 (.slice (.int .u8)) x1),(3,.adr 0 0 5 0),(7,.i64 r4),(32,.bo v1)] (aFI d1 d2 d3 β3 d4 d5) 1) (fun v1 h=> ?_) (fun v1 h=> ?_))))
 ·rcases bC h with⟨hb4,h⟩ | ⟨hb4,h⟩
  ·refine dX ⟨[(2,true),(6,true)],[]⟩ [(3,6,oc hb4)] ?_
   exact eN h (gg [] [0])
  refine dX ⟨[(2,false),(6,false)],[]⟩ [(3,5,an hb4),(6,6,oc hb4)] ?_
  exact eN h (gg [] [0])
 refine aA (aS h (fun hb5 h=> ?_) (fun hb5 h=> ?_))
 ·refine G (aR (aG ?_))
  obtain rfl:=sI h
  exact aM [.bool] (by kernel_rfl)
 refine aB (aA (G ?_))
 obtain⟨⟨r8,r9,r10⟩,q6,h⟩:=aD h
 refine GP 1 (uO β3 q6) (aC (G (aS h (fun hb6 h=> ?_) (fun hb6 h=> ?_))))
 ·refine G (aR (aG ?_))
  obtain rfl:=sI h
  exact aM [.bool] (by kernel_rfl)
 refine aB (aA (G (G (aC (G (aF (iF h (fun(v28,v29,v30,v31)=>aJ [(2,.p β6 (.slice (.int .u8)) x1),(7,.i64 r4),(8,.p false (.ptr Y7) r8),(11,.sl 0),(12,.sl 1),(13,.sl 2),(43,.p β5 (.slice (.int .i64)) i1),(44,.i64 (i1.length:Int)),(45,.i64 v31)] (aAD v28 v29 v30) 3) 0 (fun(v32,v33,v34)=>aJ [(8,.p false (.ptr Y7) r8),(11,.sl 0),(12,.sl 1),(13,.sl 2)] (aAD v32 v33 v34) 3) (gg [.nilS 11 177 3 (.int .i64),.nilS 12 178 3 (.int .i64),.nilS 13 179 3 (.int .i64)] [177,178,179]) (fun y o h=> ?_) (fun r11 h=> ?_))))))))
 ·obtain⟨v28,v29,v30,v31⟩:=y
  unfold cZ at h
  refine G (aC (aS h (fun hb25 h=> ?_) (fun hb25 h=> ?_)))
  ·refine aB (aA (aC (aF (GC 1 h (fun h=>GC 5 h (fun h=>GC 3 h (fun h=>GC 4 h (fun h=>GC 3 h (fun h=>G (cQ h (fun v40=>aJ [(2,.p β6 (.slice (.int .u8)) x1),(7,.i64 r4),(8,.p false (.ptr Y7) r8),(11,.sl 0),(12,.sl 1),(13,.sl 2),(43,.p β5 (.slice (.int .i64)) i1),(44,.i64 (i1.length:Int)),(45,.i64 v31)] (aAD (v28++([(IntKind.i64.wrap ((1:Int)+(IntKind.i64.wrap (Int.tmod (IntKind.u64.wrap (i1.getD v31.toNat (0:Int))) (IntKind.u64.wrap (IntKind.i64.wrap (r4 - (1:Int))))))))]:List Int)) v40 (v30++([(v29.length:Int)]:List Int))) 3) (fun v40 h=> ?_) (fun v40 h=> ?_)))))))))))
   ·refine aS h (fun hb30 h=> ?_) (fun hb30 h=> ?_)
    ·obtain⟨c83,c84,h⟩:=g2 h
     refine GN a0 [(2,2,oc c83),(4,4,oc c84)] (aF ?_)
     refine iF h (fun(v43,v44)=>aJ [(2,.p β6 (.slice (.int .u8)) x1),(7,.i64 r4),(8,.p false (.ptr Y7) r8),(11,.sl 0),(12,.sl 1),(13,.sl 2),(43,.p β5 (.slice (.int .i64)) i1),(44,.i64 (i1.length:Int)),(45,.i64 v31),(80,.i64 (IntKind.i64.wrap (Int.tmod (x1.getD v31.toNat (0:Int)) (3:Int)))),(81,.i64 v44)] (aAD (v28++([(IntKind.i64.wrap ((1:Int)+(IntKind.i64.wrap (Int.tmod (IntKind.u64.wrap (i1.getD v31.toNat (0:Int))) (IntKind.u64.wrap (IntKind.i64.wrap (r4 - (1:Int))))))))]:List Int)) v43 (v30++([(v29.length:Int)]:List Int))) 3) 2 (fun v45=>aJ [(2,.p β6 (.slice (.int .u8)) x1),(7,.i64 r4),(8,.p false (.ptr Y7) r8),(11,.sl 0),(12,.sl 1),(13,.sl 2),(43,.p β5 (.slice (.int .i64)) i1),(44,.i64 (i1.length:Int)),(45,.i64 v31)] (aAD (v28++([(IntKind.i64.wrap ((1:Int)+(IntKind.i64.wrap (Int.tmod (IntKind.u64.wrap (i1.getD v31.toNat (0:Int))) (IntKind.u64.wrap (IntKind.i64.wrap (r4 - (1:Int))))))))]:List Int)) v45 (v30++([(v29.length:Int)]:List Int))) 3) (gg [] [147,235,195]) (fun y o h=> ?_) (fun v45 h=> ?_)
     ·obtain⟨v43,v44⟩:=y
      unfold cD at h
      refine G (aC (aS h (fun hb33 h=> ?_) (fun hb33 h=> ?_)))
      ·refine aB (aA (aC (aF (GCe 2 h (fun h=>aI (aA (Ge ?_)))))))
       exact eB h (gg [] [0,27,2])
      refine aL (bK ?_)
      exact eX h (gg [] [0,1,2])
     refine aN ?_
     exact eN h (gg [] [0,1,2])
    refine aB ?_
    exact eN h (gg [] [147,235,195])
   refine aI (aA (Ge ?_))
   exact eB h (gg [] [0,1,2])
  refine aL (bK ?_)
  exact eX h (gg [] [0,1,2])
 obtain⟨v32,v33,v34⟩:=r11
 refine aN (aA ?_)
 obtain⟨r14,q9,h⟩:=aD h
 obtain⟨r15,q10,h⟩:=aD h
 have u_1:=(fL false true q9)
 have u_2:=(fL false true q10)
 refine GN ⟨[],[(2,(oP u_1)),(5,(oP u_2))]⟩ [(2,2,oc u_1),(5,5,oc u_2)] (GC 2 h (fun h=>aC (G (aF (pS h (fun(v48,v49)=>aJ [(12,.sl 0),(16,.p false (.slice (.int .u8)) r14),(17,.p false (.slice (.int .u8)) r15),(18,.sl 1),(97,.sl 2),(98,.i64 (v34.length:Int)),(99,.i64 v49)] (aJ1 v33 v48 v34) 3) (gG (iS Tryd.f5.ntmps 4 (fun v50=>aJ [(12,.sl 0),(17,.p false (.slice (.int .u8)) r15),(18,.sl 1)] [(0,.arr 3 (.int .i64) v33),(1,.arr 4 .bool v50)] 2)) (qK tb Tryd.f5.results.toList (fun r16=>[⟨.bool,r16⟩]))) (gg [] [1,83,2]) (fun y o h=> ?_) (fun r17 h e σ' hq=> ?_))))))
 ·obtain⟨v48,v49⟩:=y
  unfold b9 at h
  refine G (aC (aS h (fun hb38 h=> ?_) (fun hb38 h=> ?_)))
  ·refine aB (aA (aC (aF ?_)))
   obtain⟨c119,c120,h⟩:=g2 h
   refine GN a0 [(1,1,oc c119),(2,2,oc c120)] ?_
   obtain⟨c123,c124,h⟩:=g2 h
   refine GN a0 [(2,2,oc c123),(3,3,oc c124)] ?_
   obtain⟨c127,c128,h⟩:=g2 h
   refine GD a0 [(2,2,oc c127),(6,6,oc c128)] (aS h (fun hb39 h=> ?_) (fun hb39 h=> ?_))
   ·refine G (aR ?_)
    obtain rfl:=sI h
    refine aP (aG (c9 (aX ?_)))
    exact iI (aM [.bool] (by kernel_rfl))
   refine aB (aI (aA (Ge ?_)))
   exact eB h (gg [] [0,1,2])
  refine aL (bK ?_)
  obtain rfl:=sI h
  refine gE (cF ?_)
  exact cT (gg [] [0,1])
 rcases r17 with v50 | r16
 ·obtain⟨rfl,hle⟩:=hq
  refine fM ?_ hle
  refine aN (aA (aC (G (aF (pS h (fun v54=>aJ [(12,.sl 0),(17,.p false (.slice (.int .u8)) r15),(18,.sl 1),(118,.i64 (v33.length:Int)),(119,.i64 v54)] [(0,.arr 3 (.int .i64) v33),(1,.arr 4 .bool v50)] 2) (gG (iS Tryd.f5.ntmps 6 (fun _=>aJ [(12,.sl 0),(17,.p false (.slice (.int .u8)) r15)] [(0,.arr 3 (.int .i64) v33)] 1)) (qK tb Tryd.f5.results.toList (fun r18=>[⟨.bool,r18⟩]))) (gg [] [0,1]) (fun v54 o h=> ?_) (fun r19 h e σ' hq=> ?_))))))
  ·unfold cE at h
   refine G (aC (aS h (fun hb50 h=> ?_) (fun hb50 h=> ?_)))
   ·refine aB (aA (aC (aF (G (aC (cQ h (fun v55=>aJ [(12,.sl 0),(17,.p false (.slice (.int .u8)) r15),(18,.sl 1),(118,.i64 (v33.length:Int)),(119,.i64 v54),(133,.bo v55)] [(0,.arr 3 (.int .i64) v33),(1,.arr 4 .bool v50)] 2) (fun v55 h=> ?_) (fun v55 h=> ?_)))))))
    ·obtain⟨c153,c154,h⟩:=g2 h
     rcases bC h with⟨hb53,h⟩ | ⟨hb53,h⟩
     ·obtain⟨c155,h⟩:=aZ h
      refine dX ⟨[(5,true),(11,true)],[]⟩ [(2,2,oc c153),(3,3,oc c154),(6,7,an hb53),(8,8,oc (And.intro hb53 c155)),(9,10,an hb53),(11,11,oc hb53)] ?_
      exact eN h (gg [] [0,1])
     refine dX ⟨[(5,false),(11,false)],[]⟩ [(2,2,oc c153),(3,3,oc c154),(6,11,oc hb53)] ?_
     exact eN h (gg [] [0,1])
    refine aA (aS h (fun hb54 h=> ?_) (fun hb54 h=> ?_))
    ·refine G (aR ?_)
     obtain rfl:=sI h
     refine aP (aG (c9 (aX ?_)))
     exact iI (aM [.bool] (by kernel_rfl))
    refine aB (aI (aA (Ge ?_)))
    exact eB h (gg [] [0,1])
   refine aL (bK ?_)
   obtain rfl:=sI h
   refine gE (cF ?_)
   exact cT (gg [] [0])
  rcases r19 with _ | r18
  ·obtain⟨rfl,hle⟩:=hq
   refine fM ?_ hle
   refine aN (aA (aC (cQ h (fun v56=>aJ [(6,.bo v56)] [] 0) (fun v56 h=> ?_) (fun v56 h=> ?_))))
   ·rcases bC h with⟨hb57,h⟩ | ⟨hb57,h⟩
    ·obtain⟨c158,h⟩:=aZ h
     refine dX ⟨[(6,true),(13,true)],[]⟩ [(7,9,an hb57),(10,10,oc (And.intro hb57 c158)),(11,12,an hb57),(13,13,oc hb57)] ?_
     exact eN h (gg [] [])
    refine dX ⟨[(6,false),(13,false)],[]⟩ [(7,13,oc hb57)] ?_
    exact eN h (gg [] [])
   refine aA (aR ?_)
   obtain rfl:=sI h
   exact aM [.bool] (by kernel_rfl)
  obtain⟨rfl,hr⟩:=hq
  refine aP (aG ?_)
  obtain rfl:=sI h
  exact hr
 obtain⟨rfl,hr⟩:=hq
 refine aP (aG ?_)
 obtain rfl:=sI h
 exact hr
end
end Go.Proofs.YtacpjjgochokcaaDoor.T
namespace Go.Proofs.YtacpjjgochokcaaDoor.T
open Go Go.Tv Go.Proofs
theorem aFs{r:RR}{l l':List Int}:∀k,k≤l.length→sg r (l++l') k=sg r l k
 | 0,_=>rfl
 | k+1,h=>by
  simp only[sg]
  rw[aFs k (by omega),b8 (by omega)]
theorem aAf(r:RR)(l:List Int)(c:Int):sg r (l++[c]) (l.length+1)=if(sg r l l.length).2.2 && bt r.2.1 (clp r.1.length c).toNat then sg r l l.length
  else((sg r l l.length).1++[l.length],(sg r l l.length).2.1++[r.2.2.2.1.getD (clp r.1.length c).toNat 0],bt r.2.2.1 (clp r.1.length c).toNat):=by
 simp only[sg]
 rw[aFs _ (Nat.le_refl _),qZ]
def JA(r:RR):Prop:=∀k,k<r.1.length→bt r.2.1 k=decide (k=0)∧bt r.2.2.1 k=decide (1≤k)
structure Jn(r:RR)(plain more:List Int)(ats:List Nat)(S:List Int):Prop where
 p1:sg r plain plain.length=(List.range plain.length,S,decide (0<plain.length))
 m1:sg r more more.length=(ats,S,decide (0<plain.length))
 ln:ats.length=plain.length
theorem Jn.nil(r:RR):Jn r [] [] [] []:=⟨rfl,rfl,rfl⟩
theorem Jn.base{r:RR}(hj:JA r){plain more S:List Int}{ats:List Nat}(h:Jn r plain more ats S){c:Int}(h1:1≤c)(h2:c<(r.1.length:Int)):Jn r (plain++[c]) (more++[c]) (ats++[more.length]) (S++[r.2.2.2.1.getD c.toNat 0]):=by
 have hc:clp r.1.length c=c:=by unfold clp;rw[if_neg (by omega)]
 obtain⟨b1,b2⟩:=hj c.toNat (by omega)
 have b1':bt r.2.1 c.toNat=false:=by rw[b1];simp;omega
 have b2':bt r.2.2.1 c.toNat=true:=by rw[b2];simp;omega
 have e:(plain++[c]).length=plain.length+1:=by simp
 have e':(more++[c]).length=more.length+1:=by simp
 have q:decide (0<(plain++[c]).length)=true:=by simp
 refine⟨?_,?_,by simp[h.ln]⟩
 ·rw[e,aAf,h.p1,hc,b1',b2',Bool.and_false,List.range_succ]
  simp
 ·rw[e',aAf,h.m1,hc,b1',b2',Bool.and_false,q]
  simp
theorem Jn.zero{r:RR}(hj:JA r)(hn:1≤r.1.length){plain more S:List Int}{ats:List Nat}(h:Jn r plain more ats S)(h0:0<plain.length):Jn r plain (more++[0]) ats S:=by
 have hc:clp r.1.length 0=0:=by unfold clp;split <;> rfl
 obtain⟨b1,_⟩:=hj 0 (by omega)
 have e':(more++[(0:Int)]).length=more.length+1:=by simp
 refine⟨h.p1,?_,h.ln⟩
 rw[e',aAf,h.m1,hc]
 have q:decide (0<plain.length)=true:=by simpa using h0
 rw[q]
 have:bt r.2.1 (0:Int).toNat=true:=b1
 rw[this]
 rfl
theorem aGc{r:RR}(hj:JA r)(hn:1≤r.1.length){x1:List Int}{k:Nat}{plain more S:List Int}{ats:List Nat}(h:Jn r plain more ats S)(h0:0<plain.length)(hm:more.length≤1000):
  ∃m',iter (cD x1 (k:Int)) (more,0)=some m'∧Jn r plain m' ats S∧m'.length≤more.length+2:=by
 obtain⟨z,hz,hz2⟩:∃z:Int,IntKind.i64.wrap (Int.tmod (x1.getD k 0) 3)=z∧z≤2:=by
  have h1:=Int.tmod_lt_of_pos (x1.getD k 0) (show(0:Int)<3 by decide)
  have h2 : -3<Int.tmod (x1.getD k 0) 3:=by
   have:=Int.lt_tmod_of_pos (x1.getD k 0) (show(0:Int)<3 by decide)
   exact this
  exact⟨_,rfl,by rw[aO (by omega) (by omega)];omega⟩
 refine cN (I:=fun q=>∃m:Nat,q.2=(m:Int)∧m≤2∧Jn r plain q.1 ats S∧q.1.length=more.length+m) (μ:=fun q=>3 - q.2.toNat) _ ?_ ⟨0,rfl,by omega,h,rfl⟩
 rintro⟨q,m'⟩ ⟨m,rfl,hm2,hq,hl⟩
 dsimp only at hq hl
 by_cases hlt:(m:Int)<z
 ·refine .inl ⟨(q++[0],((m+1:Nat):Int)),?_,⟨m+1,rfl,by omega,hq.zero hj hn h0,by simp;omega⟩,by simp only[Int.toNat_natCast];omega⟩
  unfold cD
  dsimp only
  rw[Int.toNat_natCast,hz,if_pos (by simpa using hlt),if_pos (by simp only[List.length_cons,List.length_nil];omega),iB (by omega)]
 ·refine .inr ⟨q,?_,hq,by omega⟩
  unfold cD
  dsimp only
  rw[Int.toNat_natCast,hz,if_neg (by simpa using hlt)]
theorem aFw{r:RR}(hr:Good r)(hj:JA r)(h2:2≤r.1.length){i1 x1:List Int}(hl:i1.length≤60):
  ∃q,iter (cZ i1 x1 (r.1.length:Int)) ([],[],[],0)=some q∧∃ats S,q.2.2=iA ats∧Jn r q.1 q.2.1 ats S∧q.1.length=i1.length∧q.2.1.length≤3*i1.length:=by
 refine cN (I:=fun q=>∃(k:Nat) (ats:List Nat) (S:List Int),q.2.2.2=(k:Int)∧k≤i1.length∧q.1.length=k∧q.2.2.1=iA ats∧Jn r q.1 q.2.1 ats S∧q.2.1.length≤3*k) (μ:=fun q=>i1.length - q.2.2.2.toNat) _ ?_
  ⟨0,[],[],rfl,Nat.zero_le _,rfl,rfl,Jn.nil r,Nat.zero_le _⟩
 rintro⟨p,m,a,k'⟩ ⟨k,ats,S,hk',hk,hp,ha,hJ,hm⟩
 dsimp only at hk' hp ha hJ hm
 subst hk' ha
 have hn:=hr.n24
 have hln:=hJ.ln
 by_cases hlt:k<i1.length
 ·have e1:IntKind.i64.wrap ((r.1.length:Int) - 1)=((r.1.length - 1:Nat):Int):=by rw[aO (by omega) (by omega)];omega
  obtain⟨m0,m1,m2⟩:=aHu (i1.getD k 0) (n:=r.1.length - 1) (by omega) (by omega)
  obtain⟨y,hy⟩:∃y,IntKind.i64.wrap (Int.tmod (IntKind.u64.wrap (i1.getD k 0)) (IntKind.u64.wrap ((r.1.length - 1:Nat):Int)))=y:=⟨_,rfl⟩
  rw[hy]at m1 m2
  have e2:IntKind.i64.wrap (1+y)=1+y:=aO (by omega) (by omega)
  have hB:=hJ.base hj (c:=1+y) (by omega) (by omega)
  have hstep:∃m',(if decide ((k:Int)<(x1.length:Int))=true then(if 0≤(k:Int)∧(k:Int)<(x1.length:Int)then(if ¬(3:Int)=0 then((iter (cD x1 (k:Int)) (m++[1+y],0)).bind fun v45=>some v45)else none)else none)else some (m++[1+y]))=some m'∧Jn r (p++[1+y]) m' (ats++[m.length]) (S++[r.2.2.2.1.getD (1+y).toNat 0])∧m'.length≤3*(k+1):=by
   by_cases hx:(k:Int)<(x1.length:Int)
   ·obtain⟨m',q1,q2,q3⟩:=aGc hj (by omega) (x1:=x1) (k:=k) hB (by simp) (by simp;omega)
    refine⟨m',?_,q2,by simp only[List.length_append,List.length_singleton]at q3;omega⟩
    rw[if_pos (by simpa using hx),if_pos (by omega),if_pos (by decide),q1]
    rfl
   ·exact⟨_,by rw[if_neg (by simpa using hx)],hB,by simp only[List.length_append,List.length_singleton];omega⟩
  obtain⟨m',s1,s2,s3⟩:=hstep
  refine .inl ⟨(p++[1+y],m',iA ats++[(m.length:Int)],((k+1:Nat):Int)),?_,⟨k+1,ats++[m.length],S++[r.2.2.2.1.getD (1+y).toNat 0],rfl,hlt,by simp[hp],by rw[L8],s2,s3⟩,by simp only[Int.toNat_natCast];omega⟩
  unfold cZ
  dsimp only
  simp only[e1,Int.toNat_natCast,hy,e2]
  rw[if_pos (by simp;omega),if_pos (by omega),if_pos m0,if_pos (by simp only[List.length_cons,List.length_nil];omega),if_pos (by rw[dN];simp only[List.length_cons,List.length_nil];omega),if_pos (by simp only[List.length_cons,List.length_nil];omega),s1]
  simp only[Option.bind_some]
  rw[iB (by omega)]
 ·have ek:k=i1.length:=by omega
  subst ek
  refine .inr ⟨(p,m,iA ats),?_,ats,S,rfl,hJ,hp,hm⟩
  unfold cZ
  dsimp only
  rw[if_neg (by simp)]
theorem aJv:((List.range 7).all fun n=>(List.range n).all fun k=>(bt (aK .or .u32 0 (jnV n 1)) k == decide (k=0)) && (bt (aK .or .u32 0 (jnV n 254)) k == decide (1≤k)))=true:=by kernel_rfl
theorem aHk(c:Int)(tr:List Int)(l:List PR):JA (qI c 1 254 tr l):=fun k hk=>by
 have h6:=rQ c
 rw[yV]at hk
 have a:=List.all_eq_true.mp aJv (bQ c) (List.mem_range.mpr (by omega))
 have b:=List.all_eq_true.mp a k (List.mem_range.mpr hk)
 simp only[Bool.and_eq_true,beq_iff_eq]at b
 exact b
theorem aCt{r:RR}(hr:Good r){p m S:List Int}{ats:List Nat}(h:Jn r p m ats S){o o':List Int}(ho:Spec r p o)(ho':Spec r m o'):∀k,k<p.length→ats.getD k 0<m.length∧o.getD k 0=o'.getD (ats.getD k 0) 0:=fun k hk=>by
 have e1:qY r p=List.range p.length:=by unfold qY;rw[h.p1]
 have e2:nT r p=S:=by unfold nT;rw[h.p1]
 have e3:qY r m=ats:=by unfold qY;rw[h.m1]
 have e4:nT r m=S:=by unfold nT;rw[h.m1]
 have hln:=h.ln
 obtain⟨_,_,q3,q4,_⟩:=aHJ hr m
 rw[e3]at q3 q4
 have hrg:∀j,j<p.length→(List.range p.length).getD j 0=j:=fun j hj=>by simp[hj]
 refine⟨q3 k (by omega),?_⟩
 by_cases h0:k=0
 ·subst h0
  rw[ho.oth 0 hk fun j j1 j2=>by rw[e1]at j2 ⊢;rw[List.length_range]at j2;rw[hrg j j2];omega,
   ho'.oth _ (q3 0 (by omega)) fun j j1 j2=>by rw[e3]at j2 ⊢;have:=q4 0 j (by omega) j2;omega]
 ·have d1:=ho.dec k (by omega) (by rw[e1,List.length_range];exact hk)
  have d2:=ho'.dec k (by omega) (by rw[e3];omega)
  rw[e1,e2,hrg k hk]at d1
  rw[e3,e4]at d2
  exact d1.uniq d2
theorem aD2{x:List Bool}{k:Nat}(hk:k<x.length)(v:Bool)(j:Nat):(x.set k v).getD j false=if k=j then v else x.getD j false:=by
 simp only[List.getD_eq_getElem?_getD,List.getElem?_set]
 by_cases e:k=j
 ·rw[if_pos e,if_pos e,if_pos (by omega)];rfl
 ·rw[if_neg e,if_neg e]
theorem aEr{ats:List Nat}{o o':List Int}{L M:Nat}(hL:ats.length=L)(ho:o.length=L+1)(ho':o'.length=M+1)(hs:L≤1000)(h:∀k,k<L→ats.getD k 0<M∧o.getD k 0=o'.getD (ats.getD k 0) 0):
  ∃v,iter (b9 (iA ats) o o') (List.replicate (M+1) false,0)=some (.inl v)∧v.length=M+1∧∀p,v.getD p false=true↔∃k,k<L∧ats.getD k 0=p:=by
 have key:∃q,iter (b9 (iA ats) o o') (List.replicate (M+1) false,0)=some q∧∃v,q = .inl v∧v.length=M+1∧∀p,v.getD p false=true↔∃k,k<L∧ats.getD k 0=p:=by
  refine cN (I:=fun q=>∃k:Nat,q.2=(k:Int)∧k≤L∧q.1.length=M+1∧∀p,q.1.getD p false=true↔∃i,i<k∧ats.getD i 0=p) (μ:=fun q=>L - q.2.toNat) _ ?_ ⟨0,rfl,Nat.zero_le _,by simp,fun p=>⟨fun hh=> ?_,fun⟨i,hi,_⟩=>absurd hi (by omega)⟩⟩
  ·rintro⟨v,k'⟩ ⟨k,rfl,hk,hv,hp⟩
   dsimp only at hv hp
   by_cases hlt:k<L
   ·obtain⟨a1,a2⟩:=h k hlt
    have hg:(iA ats).getD k 0=((ats.getD k 0:Nat):Int):=qB (by omega)
    have hil:=dN ats
    refine .inl ⟨(v.set (ats.getD k 0) true,((k+1:Nat):Int)),?_,⟨k+1,rfl,hlt,by simp[hv],fun p=> ?_⟩,by simp only[Int.toNat_natCast];omega⟩
    ·unfold b9
     dsimp only
     simp only[Int.toNat_natCast,hg]
     rw[if_pos (by simp;omega),if_pos (by omega),if_pos (by omega),if_pos (by omega),if_pos (by omega),if_pos (by omega),if_pos (by omega),if_neg (by rw[a2];simp),iB (by omega)]
    ·dsimp only
     rw[aD2 (by omega)]
     by_cases e:ats.getD k 0=p
     ·rw[if_pos e]
      exact⟨fun _=>⟨k,by omega,e⟩,fun _=>rfl⟩
     ·rw[if_neg e,hp]
      constructor
      ·rintro⟨i,i1,i2⟩;exact⟨i,by omega,i2⟩
      ·rintro⟨i,i1,i2⟩
       by_cases e2:i=k
       ·subst e2;exact absurd i2 e
       ·exact⟨i,by omega,i2⟩
   ·have ek:k=L:=by omega
    subst ek
    refine .inr ⟨_,?_,v,rfl,hv,hp⟩
    unfold b9
    dsimp only
    rw[if_neg (by rw[dN];simp;omega)]
  ·dsimp only at hh
   rw[List.getD_eq_getElem?_getD,List.getElem?_replicate]at hh
   split at hh <;> cases hh
 obtain⟨q,h1,v,rfl,h2⟩:=key
 exact⟨v,h1,h2⟩
theorem aEZ{m o':List Int}{v:List Bool}(hm:m.length≤1000)(ho:o'.length=m.length+1)(hv:v.length=m.length+1)(h:∀p,p<m.length→v.getD p false=false→o'.getD p 0=0):iter (cE m o' v) 0=some (.inl ()) :=
 bH (body:=cE m o' v) (fun k=>(k:Int)) m.length (fun k hk=>by
  unfold cE
  rw[if_pos (by simp;omega),if_pos (by omega),Int.toNat_natCast,if_pos (by omega),iB (by omega)]
  cases hb:v.getD k false with
  | true=>rfl
  | false =>
   rw[if_pos (show(!false)=true from rfl),if_pos (by omega),h k hk hb]
   rfl) (by
  unfold cE
  rw[if_neg (by simp)])
theorem aAN{c j a:Int}{tr:List Int}{l:List PR}(h:Pl c j a tr l)(i1 x1:List Int):eJ c j a tr l i1 x1=some true:=by
 have hP:Pl c 1 254 tr l:=⟨h.hc,⟨by decide,by decide⟩,⟨by decide,by decide⟩,h.ht,h.hl⟩
 have hG:=S7 c 1 254 tr l
 have hJA:=aHk c tr l
 have hpl:=yV c 1 254 tr l
 unfold eJ
 rw[aHs]
 simp only[Option.bind_some,Bool.not_true,Bool.false_eq_true,if_false]
 rw[aBj h]
 simp only[Option.bind_some]
 by_cases h2:2≤bQ c
 ·by_cases h60:i1.length≤60
  ·have e1:decide (((bQ c:Nat):Int)<2)=false:=by simp;omega
   have e2:decide ((i1.length:Int) > 60)=false:=by simp;omega
   simp only[e1,e2,Bool.false_eq_true,if_false,Option.bind_some]
   rcases aE1 hP with q | ⟨A,B,q,hM⟩
   ·rw[q];rfl
   rw[q]
   simp only[Option.bind_some,Bool.not_true,Bool.false_eq_true,if_false]
   obtain⟨⟨p,m,a'⟩,w1,ats,S,w2,w3,w4,w5⟩:=aFw hG hJA (by omega) (i1:=i1) (x1:=x1) h60
   dsimp only at w2 w3 w4 w5
   subst w2
   rw[hpl]at w1
   rw[w1]
   simp only[Option.bind_some]
   obtain⟨o,o1,o2⟩:=aC4 hG hM (i1:=p) (by omega)
   obtain⟨o',p1,p2⟩:=aC4 hG hM (i1:=m) (by omega)
   have hol:=o2.len
   have hol':=p2.len
   rw[o1]
   simp only[Option.bind_some]
   rw[p1]
   simp only[Option.bind_some]
   have hsame:=aCt hG w3 o2 p2
   obtain⟨v,v1,v2,v3⟩:=aEr (ats:=ats) (o:=o) (o':=o') (L:=p.length) (M:=m.length) w3.ln hol hol' (by omega) hsame
   have e3:qY (qI c 1 254 tr l) m=ats:=by unfold qY;rw[w3.m1]
   have hln:=w3.ln
   rw[if_pos (by omega),Int.toNat_natCast,hol',v1]
   simp only[Option.bind_some]
   rw[aEZ (by omega) hol' v2 fun p' hp' hv'=>p2.oth p' hp' fun k k1 k2 e=>by
    rw[e3]at k2 e
    have:=(v3 p').2 ⟨k,by omega,e⟩
    rw[hv']at this
    cases this]
   simp only[Option.bind_some]
   rw[iB (by omega),if_pos (by simp),if_pos (by omega),Int.toNat_natCast,p2.last]
   rfl
  ·have e1:decide (((bQ c:Nat):Int)<2)=false:=by simp;omega
   have e2:decide ((i1.length:Int) > 60)=true:=by simp;omega
   simp only[e1,e2,Bool.false_eq_true,if_false,Option.bind_some,if_true]
 ·have e1:decide (((bQ c:Nat):Int)<2)=true:=by simp;omega
  simp only[e1,if_true,Option.bind_some]
end Go.Proofs.YtacpjjgochokcaaDoor.T
namespace Go.Proofs.YtacpjjgochokcaaDoor.T
open Go Go.Tv Go.Proofs
abbrev segJoins_Ts:List Ty:=[(.prod (.int .u8) (.prod (.int .u8) (.prod (.int .u8) (.prod (.slice (.int .u8)) (.slice (.prod (.int .u8) (.prod (.slice (.int .u8)) (.slice (.int .u8))))))))),(.slice (.int .i64)),(.slice (.int .u8))]
theorem segJoins_all(x:Tup segJoins_Ts)(hx:WfT segJoins_Ts x):eJ x.1.1 x.1.2.1 x.1.2.2.1 x.1.2.2.2.1 x.1.2.2.2.2 x.2.1 x.2.2.1=some true:=by
 obtain⟨⟨c,j,a,tr,l⟩,i1,x1,u⟩:=x
 exact aAN (aJS hx.1) i1 x1
end Go.Proofs.YtacpjjgochokcaaDoor.T
