/- A plan's rules, and what is made of them. -/
import Derived.Test.YtacpjjgochokcaaDoorTv06bbm
import Derived.Test.YtacpjjgochokcaaDoorTv06pvm
import Derived.Test.YtacpjjgochokcaaDoorTv06pm
import Derived.Test.YtacpjjgochokcaaDoorTvT06xb
import Derived.Test.YtacpjjgochokcaaDoorTvT06x0
import Derived.Test.YtacpjjgochokcaaDoorTvT06xa
import Derived.Test.YtacpjjgochokcaaDoorTv06lpm
namespace Go.Proofs.YtacpjjgochokcaaDoor.T
open Go Go.Tv Go.Proofs
set_option maxRecDepth 1000000 in
theorem aHw:iN=some true:=by kernel_rfl
theorem R3(l:List Int)(h:l.length≤1000000):bT l l=some true:=by
 have L1:iter (cC l l) 0=some (.inl ()) :=
  bI (body:=cC l l) (fun k=>(k:Int)) l.length (fun k hk=>by
   unfold cC
   rw[if_pos (by simp;omega),if_pos (by omega),if_pos (by omega),if_neg (by simp),aP (by omega) (by omega)]
   simp only[Int.natCast_add,Int.natCast_one]) (by
   unfold cC
   rw[if_neg (by simp)])
 unfold bT
 rw[if_neg (by simp),L1]
 rfl
theorem aCJ{n:Nat}(h1:1≤n)(tr:List Int):∀k,∀c∈trV n tr k,0≤c∧c<(n:Int)
 | 0,c,hc=>by
  obtain⟨i,hi,rfl⟩:=List.getElem_of_mem hc
  have hi':i<n:=by simpa [trV,t0P]using hi
  have:=aHo hi'
  rw[eJ (by simpa [trV]using hi)]at this
  have e:(trV n tr 0)[i]=(t0P n)[i]'(by simpa [trV]using hi):=rfl
  rw[e,this]
  omega
 | k+1,c,hc=>by
  simp only[trV]at hc
  rcases List.mem_or_eq_of_mem_set hc with h | rfl
  ·exact aCJ h1 tr k c h
  ·have:=Nat.mod_lt (tr.getD k 0).toNat (show 0<n by omega)
   omega
theorem aD2{l:RL}{x}(hx:x∈l):x.2.1∈pE l∧x.2.2∈pE l:=by
 unfold pE
 exact⟨List.mem_flatMap.2 ⟨x,hx,by simp⟩,List.mem_flatMap.2 ⟨x,hx,by simp⟩⟩
theorem T6:∀l:RL,dR (l.map fun x=>x.2.1)+dR (l.map fun x=>x.2.2)=dR (pE l)
 | []=>rfl
 | x::l=>by
  have ih:=T6 l
  have e:pE (x::l)=[x.2.1,x.2.2]++pE l:=rfl
  rw[e,iU]
  simp only[List.map_cons,dR]
  omega
theorem aEd(c j a:Int)(tr:List Int)(l:List PR):(mM c j a tr l).1.length=bN c:=(xN (tE c) (tY c) 0).2.2
theorem t8(c j a:Int)(tr:List Int)(l:List PR):Good (mM c j a tr l):=by
 have h1:=tE c
 have h6:=tY c
 have hlen:=aEd c j a tr l
 have hn:=Nat.min_le_right l.length 10
 obtain⟨e1,e2,e3⟩:=aCA (bN c) l (min l.length 10)
 have e4:=T6 (S0 (bN c) l (min l.length 10))
 have hrl:=Z3 (bN c) l (min l.length 10)
 refine⟨by omega,by omega,?_,?_,?_,fun x hx=> ?_,?_,fun x hx=> ?_,?_,?_⟩
 ·simp only[mM];split
  ·exact U32.zero
  ·exact U32.bits _ _ _
 ·simp only[mM];split
  ·exact U32.zero
  ·exact U32.bits _ _ _
 ·rw[hlen];exact aC7 _ _ _
 ·rw[hlen];exact aCJ h1 tr _ x hx
 ·show(S0 (bN c) l (min l.length 10)).length≤24
  omega
 ·have hx':x∈S0 (bN c) l (min l.length 10):=hx
  have:=aD2 hx'
  exact⟨(e2 _ this.1).mono (by omega),(e2 _ this.2).mono (by omega)⟩
 ·show dR ((S0 (bN c) l (min l.length 10)).map fun x=>x.2.1)≤200
  omega
 ·show dR ((S0 (bN c) l (min l.length 10)).map fun x=>x.2.2)≤200
  omega
theorem aGQ{t:List UInt8}{r:RR}(hr:Good r)(hp:i6 t=some (r,0,0)):(mG t=some ((none:MA),27,0)∧aJW r)∨∃A B,mG t=some ((some (r,A,B):MA),0,0)∧aDy r A B:=by
 unfold mG
 rw[hp]
 simp only[Option.bind_some]
 rw[if_neg (by decide)]
 rcases aB3 hr with⟨q,hm⟩ | ⟨A,B,q,hM⟩
 ·rw[q];exact .inl ⟨rfl,hm⟩
 ·rw[q];exact .inr ⟨A,B,rfl,hM⟩
theorem qB{c j a:Int}{tr:List Int}{l:List PR}(h:Pl c j a tr l):cM c j a tr l=some ((none:MA),mM c j a tr l,false) ∨
  ∃A B,cM c j a tr l=some ((some (mM c j a tr l,A,B):MA),mM c j a tr l,true)∧aDy (mM c j a tr l) A B:=by
 have hP:pW (B7 c j a tr l)=some (mM c j a tr l,0,0):=by
  rw[aIN,J1 h (Nat.le_trans (I5 c j a tr l) (by decide)) (aFK h)]
  rfl
 unfold cM
 rw[aGN h]
 simp only[Option.bind_some]
 rcases aGQ (t8 c j a tr l) (aBU h)with⟨q,_⟩ | ⟨A,B,q,hM⟩
 ·rw[q]
  simp only[Option.bind_some]
  rw[hP]
  exact .inl rfl
 ·rw[q]
  simp only[Option.bind_some]
  rw[hP]
  exact .inr ⟨A,B,rfl,hM⟩
end Go.Proofs.YtacpjjgochokcaaDoor.T
namespace Go.Proofs.YtacpjjgochokcaaDoor.T
open Go Go.Tv Go.Proofs
noncomputable section
set_option maxRecDepth 100000
set_option maxHeartbeats 4000000
def dA(x1:List Int)(r7:(List (List UInt8))×Int×Int×(List Int)×List (Int×Tree×Tree)):((List Int)×Int)→Option (((List Int)×Int)⊕(List Int)):=fun(v5,v6) =>
 (if(decide (v6<(x1.length:Int)))=true then(if 0≤(0:Int)∧(0:Int)≤v6∧v6≤(v5.length:Int)then(if(([]:List Int).length+((v5.take v6.toNat).drop (0:Int).toNat).length)*8≤140737488355328∧([]:List Int).length+((v5.take v6.toNat).drop (0:Int).toNat).length≤9223372036854775807 then(if 0≤v6∧v6<(v5.length:Int)then(if ¬(IntKind.u64.wrap (r7.1.length:Int))=0 then(if 0≤(IntKind.i64.wrap (v6+(1:Int)))∧(IntKind.i64.wrap (v6+(1:Int)))≤(v5.length:Int)∧(v5.length:Int)≤(v5.length:Int)then(if(([(IntKind.i64.wrap (Int.tmod (IntKind.u64.wrap (v5.getD v6.toNat (0:Int))) (IntKind.u64.wrap (r7.1.length:Int))))]:List Int).length+((v5.take (v5.length:Int).toNat).drop (IntKind.i64.wrap (v6+(1:Int))).toNat).length)*8≤140737488355328∧([(IntKind.i64.wrap (Int.tmod (IntKind.u64.wrap (v5.getD v6.toNat (0:Int))) (IntKind.u64.wrap (r7.1.length:Int))))]:List Int).length+((v5.take (v5.length:Int).toNat).drop (IntKind.i64.wrap (v6+(1:Int))).toNat).length≤9223372036854775807 then(if((([]:List Int)++((v5.take v6.toNat).drop (0:Int).toNat)).length+(([(IntKind.i64.wrap (Int.tmod (IntKind.u64.wrap (v5.getD v6.toNat (0:Int))) (IntKind.u64.wrap (r7.1.length:Int))))]:List Int)++((v5.take (v5.length:Int).toNat).drop (IntKind.i64.wrap (v6+(1:Int))).toNat)).length)*8≤140737488355328∧(([]:List Int)++((v5.take v6.toNat).drop (0:Int).toNat)).length+(([(IntKind.i64.wrap (Int.tmod (IntKind.u64.wrap (v5.getD v6.toNat (0:Int))) (IntKind.u64.wrap (r7.1.length:Int))))]:List Int)++((v5.take (v5.length:Int).toNat).drop (IntKind.i64.wrap (v6+(1:Int))).toNat)).length≤9223372036854775807 then some (Sum.inl (((([]:List Int)++((v5.take v6.toNat).drop (0:Int).toNat))++(([(IntKind.i64.wrap (Int.tmod (IntKind.u64.wrap (v5.getD v6.toNat (0:Int))) (IntKind.u64.wrap (r7.1.length:Int))))]:List Int)++((v5.take (v5.length:Int).toNat).drop (IntKind.i64.wrap (v6+(1:Int))).toNat))),(IntKind.i64.wrap (v6+(1:Int)))))else none)else none)else none)else none)else none)else none)else none)
 else some (Sum.inr v5))
def eQ(d1 d2 d3:Int)(d4:List Int)(d5:List (Int×(List Int)×List Int))(i1:Int)(i2 i3 x1:List Int):Option (Bool) :=
 ((iN).bind fun r2 =>
 (if(!r2)=true then some false
 else(((if(decide ((x1.length:Int) > (100:Int)))=true then some (true)
 else some ((decide ((d5.length:Int) > (7:Int)))))).bind fun v1=>(if v1=true then some true
 else(if(([]:List (Int×(List Int)×List Int)).length+d5.length)*56≤140737488355328∧([]:List (Int×(List Int)×List Int)).length+d5.length≤9223372036854775807 then(if((([]:List (Int×(List Int)×List Int))++d5).length+d5.length)*56≤140737488355328∧(([]:List (Int×(List Int)×List Int))++d5).length+d5.length≤9223372036854775807 then(if 0≤(min (((([]:List (Int×(List Int)×List Int))++d5)++d5).length:Int) (9:Int))∧(min (((([]:List (Int×(List Int)×List Int))++d5)++d5).length:Int) (9:Int))≤(((([]:List (Int×(List Int)×List Int))++d5)++d5).length:Int)then((cM d1 d2 d3 d4 d5).bind fun(r6,r7,r8) =>
 ((cM d1 d2 d3 d4 (((([]:List (Int×(List Int)×List Int))++d5)++d5).take (min (((([]:List (Int×(List Int)×List Int))++d5)++d5).length:Int) (9:Int)).toNat)).bind fun(r12,r13,r14) =>
 (((if(!r8)=true then some (true)
 else some ((!r14)))).bind fun v2=>(if v2=true then some true
 else((iter (dA x1 r7) (x1,(0:Int))).bind fun v7=>((bO r6 v7).bind fun r18 =>
 ((bO r12 v7).bind fun r19 =>
 ((bT r18 r19).bind fun r20 =>
 (if(!r20)=true then some false
 else(if(([]:List (Int×(List Int)×List Int)).length+d5.length)*56≤140737488355328∧([]:List (Int×(List Int)×List Int)).length+d5.length≤9223372036854775807 then(if((([]:List (Int×(List Int)×List Int))++d5).length+([((0:Int),(([]:List Int),([]:List Int)))]:List (Int×(List Int)×List Int)).length)*56≤140737488355328∧(([]:List (Int×(List Int)×List Int))++d5).length+([((0:Int),(([]:List Int),([]:List Int)))]:List (Int×(List Int)×List Int)).length≤9223372036854775807 then((cM d1 d2 d3 d4 ((([]:List (Int×(List Int)×List Int))++d5)++([((0:Int),(([]:List Int),([]:List Int)))]:List (Int×(List Int)×List Int)))).bind fun(r24,r25,r26) =>
 (if(([]:List (Int×(List Int)×List Int)).length+((([]:List (Int×(List Int)×List Int))++d5)++([((0:Int),(([]:List Int),([]:List Int)))]:List (Int×(List Int)×List Int))).length)*56≤140737488355328∧([]:List (Int×(List Int)×List Int)).length+((([]:List (Int×(List Int)×List Int))++d5)++([((0:Int),(([]:List Int),([]:List Int)))]:List (Int×(List Int)×List Int))).length≤9223372036854775807 then(if((([]:List (Int×(List Int)×List Int))++((([]:List (Int×(List Int)×List Int))++d5)++([((0:Int),(([]:List Int),([]:List Int)))]:List (Int×(List Int)×List Int)))).length+([(i1,(i2,i3))]:List (Int×(List Int)×List Int)).length)*56≤140737488355328∧(([]:List (Int×(List Int)×List Int))++((([]:List (Int×(List Int)×List Int))++d5)++([((0:Int),(([]:List Int),([]:List Int)))]:List (Int×(List Int)×List Int)))).length+([(i1,(i2,i3))]:List (Int×(List Int)×List Int)).length≤9223372036854775807 then((cM d1 d2 d3 d4 ((([]:List (Int×(List Int)×List Int))++((([]:List (Int×(List Int)×List Int))++d5)++([((0:Int),(([]:List Int),([]:List Int)))]:List (Int×(List Int)×List Int))))++([(i1,(i2,i3))]:List (Int×(List Int)×List Int)))).bind fun(r30,r31,r32) =>
 (((if(!r26)=true then some (true)
 else(if(!r32)=true then some (true)
 else((bO r24 v7).bind fun r39 =>
 ((bO r30 v7).bind fun r40 =>
 ((bT r39 r40).bind fun r41 =>
 some (r41))))))).bind fun v8=>some v8))else none)else none))else none)else none))))))))))else none)else none)else none)))))
theorem stanzalaw06_SegOrder_ok(β3:Bool){d1:Int}{d2:Int}{d3:Int}{d4:List Int}{d5:List (Int×(List Int)×List Int)}{i1:Int}{i2:List Int}{i3:List Int}{x1:List Int}{res:Bool}(h:eQ d1 d2 d3 d4 d5 i1 i2 i3 x1=some res):
  Pure Tryd.prog 4 [.agg [.u8 d1,.u8 d2,.u8 d3,.p β3 (.slice (.int .u8)) d4,.p false (.slice (.prod (.int .u8) Y11)) d5],.agg [.u8 i1,.p false (.slice (.int .u8)) i2,.p false (.slice (.int .u8)) i3],.p false (.slice (.int .i64)) x1] (b8 (fR false [⟨.bool,res⟩])):=by
 refine Pure.of_body bH Tryd.func4 (by kernel_rfl) rfl (nl rfl) (fun Bw w0=> ?_) rfl
 unfold eQ at h
 refine G (aD ?_)
 obtain⟨r2,q2,h⟩:=aC h
 refine GP 0 (sB q2) (aS h (fun hb1 h=> ?_) (fun hb1 h=> ?_))
 ·refine G (aQ (aG ?_))
  obtain rfl:=sI h
  exact aK [.bool] (by kernel_rfl)
 refine aB (aA (aD (aD (cQ h (fun v1=>aL [(2,.p false (.slice (.int .i64)) x1),(3,.adr 0 0 5 0),(4,.adr 1 0 3 0),(32,.bo v1)] (aJH d1 d2 d3 β3 d4 d5 i1 i2 i3) 2) (fun v1 h=> ?_) (fun v1 h=> ?_)))))
 ·rcases bC h with⟨hb4,h⟩ | ⟨hb4,h⟩
  ·refine dX ⟨[(3,true),(8,true)],[]⟩ [(4,8,oc hb4)] ?_
   exact eN h (gg [] [0,8])
  refine dX ⟨[(3,false),(8,false)],[]⟩ [(4,7,an hb4),(8,8,oc hb4)] ?_
  exact eN h (gg [] [0,8])
 refine aA (aS h (fun hb5 h=> ?_) (fun hb5 h=> ?_))
 ·refine G (aQ (aG ?_))
  obtain rfl:=sI h
  exact aK [.bool] (by kernel_rfl)
 refine aB (aA (G ?_))
 obtain⟨c3,c4,h⟩:=g2 h
 refine GD a0 [(3,3,oc c3),(6,6,oc c4)] (GC 6 h (fun h=> ?_))
 obtain⟨⟨r6,r7,r8⟩,q4,h⟩:=aC h
 refine GP 1 (gE β3 q4) ?_
 obtain⟨⟨r12,r13,r14⟩,q6,h⟩:=aC h
 have u_1:=(gE β3 q6)
 refine GN ⟨[],[(1,(oP u_1 [true]))]⟩ [(1,1,oc u_1)] (aD (aD (cQ h (fun v2=>aL [(2,.p false (.slice (.int .i64)) x1),(3,.adr 0 0 5 0),(4,.adr 1 0 3 0),(7,.adr 2 0 5 0),(8,.p false (.ptr Y7) r6),(9,.adr 3 0 5 0),(11,.p false (.ptr Y7) r12),(67,.bo v2)] (aHR d1 d2 d3 β3 d4 d5 i1 i2 i3 d1 d2 d3 β3 d4 (((([]:List (Int×(List Int)×List Int))++d5)++d5).take (min (((([]:List (Int×(List Int)×List Int))++d5)++d5).length:Int) (9:Int)).toNat) r7.1 r7.2.1 r7.2.2.1 r7.2.2.2.1 r7.2.2.2.2) 4) (fun v2 h=> ?_) (fun v2 h=> ?_))))
 ·rcases bC h with⟨hb8,h⟩ | ⟨hb8,h⟩
  ·refine dX ⟨[(2,true),(5,true)],[]⟩ [(3,5,oc hb8)] ?_
   exact eN h (gg [.frzC 10 4] [0,1,10,218])
  refine dX ⟨[(2,false),(5,false)],[]⟩ [(3,4,an hb8),(5,5,oc hb8)] ?_
  exact eN h (gg [.frzC 10 4] [0,1,10,218])
 refine aA (aS h (fun hb9 h=> ?_) (fun hb9 h=> ?_))
 ·refine G (aQ (aG ?_))
  obtain rfl:=sI h
  exact aK [.bool] (by kernel_rfl)
 refine aB (aA (aD (G (aF ?_))))
 refine iK h (fun(v5,v6)=>aL [(2,.p false (.slice (.int .i64)) v5),(3,.adr 0 0 5 0),(4,.adr 1 0 3 0),(7,.adr 2 0 5 0),(8,.p false (.ptr Y7) r6),(9,.adr 3 0 5 0),(11,.p false (.ptr Y7) r12),(69,.i64 (x1.length:Int)),(70,.i64 v6)] (aHR d1 d2 d3 β3 d4 d5 i1 i2 i3 d1 d2 d3 β3 d4 (((([]:List (Int×(List Int)×List Int))++d5)++d5).take (min (((([]:List (Int×(List Int)×List Int))++d5)++d5).length:Int) (9:Int)).toNat) r7.1 r7.2.1 r7.2.2.1 r7.2.2.2.1 r7.2.2.2.2) 4) 0 (fun v7=>aL [(2,.p false (.slice (.int .i64)) v7),(3,.adr 0 0 5 0),(4,.adr 1 0 3 0),(7,.adr 2 0 5 0),(8,.p false (.ptr Y7) r6),(11,.p false (.ptr Y7) r12)] (aJU d1 d2 d3 β3 d4 d5 i1 i2 i3 d1 d2 d3 β3 d4 (((([]:List (Int×(List Int)×List Int))++d5)++d5).take (min (((([]:List (Int×(List Int)×List Int))++d5)++d5).length:Int) (9:Int)).toNat)) 3) (gg [] [0,1,2,3]) (fun y o h=> ?_) (fun v7 h=> ?_)
 ·obtain⟨v5,v6⟩:=y
  unfold dA at h
  refine G (aD (aS h (fun hb12 h=> ?_) (fun hb12 h=> ?_)))
  ·refine aB (aA (aD (aF (G ?_))))
   obtain⟨c42,c43,c44,c45,h⟩:=g4 h
   obtain⟨c46,c47,c48,h⟩:=g3 h
   refine vA a0 [(3,3,oc c42),(4,4,oc c43),(7,7,oc c44),(14,14,oc c45),(20,20,oc c46),(21,21,oc c47),(22,22,oc c48)] (aI (aA (Ge ?_)))
   exact eB h (gg [.frzS 2] [0,1,2,3])
  refine aM (bM ?_)
  exact eX h (gg [] [0,1,2])
 refine aO (aA (aD ?_))
 obtain⟨r18,q10,h⟩:=aC h
 obtain⟨r19,q11,h⟩:=aC h
 obtain⟨r20,q12,h⟩:=aC h
 have u_1:=(cX false false q10)
 have u_2:=(cX false false q11)
 have u_3:=(cY false false q12)
 refine GN ⟨[],[(2,(oP u_1)),(5,(oP u_2)),(6,(oP u_3))]⟩ [(2,2,oc u_1),(5,5,oc u_2),(6,6,oc u_3)] (aS h (fun hb13 h=> ?_) (fun hb13 h=> ?_))
 ·refine G (aQ (aG ?_))
  obtain rfl:=sI h
  exact aK [.bool] (by kernel_rfl)
 refine aB (aA (G ?_))
 obtain⟨c51,c52,h⟩:=g2 h
 refine GD a0 [(3,3,oc c51),(6,6,oc c52)] ?_
 obtain⟨⟨r24,r25,r26⟩,q14,h⟩:=aC h
 have u_1:=(gE β3 q14)
 refine GN ⟨[],[(1,(oP u_1 [true]))]⟩ [(1,1,oc u_1)] ?_
 obtain⟨c55,c56,h⟩:=g2 h
 refine GD a0 [(3,3,oc c55),(6,6,oc c56)] ?_
 obtain⟨⟨r30,r31,r32⟩,q16,h⟩:=aC h
 have u_1:=(gE β3 q16)
 refine GN ⟨[],[(1,(oP u_1 [true]))]⟩ [(1,1,oc u_1)] (aD (cQ h (fun v8=>aL [(6,.bo v8)] [] 0) (fun v8 h=> ?_) (fun v8 h=> ?_)))
 ·rcases bC h with⟨hb18,h⟩ | ⟨hb18,h⟩
  ·refine dX ⟨[(2,true),(5,true)],[]⟩ [(3,5,oc hb18)] ?_
   exact eN h (gg [] [])
  rcases bC h with⟨hb19,h⟩ | ⟨hb19,h⟩
  ·refine dX ⟨[(2,false),(5,false),(6,true),(14,true)],[]⟩ [(3,4,an hb18),(5,5,oc hb18),(7,14,oc hb19)] ?_
   exact eN h (gg [] [])
  obtain⟨r39,q23,h⟩:=aC h
  obtain⟨r40,q24,h⟩:=aC h
  obtain⟨r41,q25,h⟩:=aC h
  have u_1:=(cX false false q23)
  have u_2:=(cX false false q24)
  have u_3:=(cY false false q25)
  refine dX ⟨[(2,false),(5,false),(6,false),(14,false)],[(9,(oP u_1)),(12,(oP u_2)),(13,(oP u_3))]⟩ [(3,4,an hb18),(5,5,oc hb18),(7,8,an hb19),(9,9,oc (And.intro hb19 u_1)),(10,11,an hb19),(12,12,oc (And.intro hb19 u_2)),(13,13,oc (And.intro hb19 u_3)),(14,14,oc hb19)] ?_
  exact eN h (gg [] [])
 refine aA (aQ ?_)
 obtain rfl:=sI h
 exact aK [.bool] (by kernel_rfl)
end
end Go.Proofs.YtacpjjgochokcaaDoor.T
namespace Go.Proofs.YtacpjjgochokcaaDoor.T
open Go Go.Tv Go.Proofs
theorem Dec.app:∀ {l l':List RU} {u v:Wd} {d:Int},(∀x∈l',Hit x u v→∃y∈l,Hit y u v)→Dec l u v d→Dec (l++l') u v d
 | [],l',u,v,d,h,hd=>by
  have:d=1:=hd
  subst this
  exact Dec.none fun x hx hh=>by
   obtain⟨y,hy,_⟩:=h x hx hh
   cases hy
 | x::l,l',u,v,d,h,hd=>by
  rcases hd with hd | ⟨h1,h2⟩
  ·exact .inl hd
  ·refine .inr ⟨h1,Dec.app (fun y hy hh=> ?_) h2⟩
   obtain⟨z,hz,hz2⟩:=h y hy hh
   rcases List.mem_cons.1 hz with rfl | hz
   ·exact absurd hz2 h1
   ·exact⟨z,hz,hz2⟩
theorem L4(a:List (List UInt8))(b c:Int)(d:List Int)(l l':List RU)(i1:List Int):∀k,sg (a,b,c,d,l) i1 k=sg (a,b,c,d,l') i1 k
 | 0=>rfl
 | k+1=>by simp only[sg,L4 a b c d l l' i1 k]
theorem Spec.rules{a:List (List UInt8)}{b c:Int}{d:List Int}{l l':List RU}{i1 o:List Int}(h:∀u v x,Dec l u v x→Dec l' u v x)(hs:Spec (a,b,c,d,l) i1 o):Spec (a,b,c,d,l') i1 o:=by
 have e1:rR (a,b,c,d,l') i1=rR (a,b,c,d,l) i1:=by unfold rR;rw[L4 a b c d l l']
 have e2:oK (a,b,c,d,l') i1=oK (a,b,c,d,l) i1:=by unfold oK;rw[L4 a b c d l l']
 exact⟨hs.len,hs.last,by rw[e1,e2];exact fun k k1 k2=>h _ _ _ (hs.dec k k1 k2),by rw[e1];exact hs.oth⟩
def ruF(n:Nat)(x:PR):RU:=(Int.tmod x.1 3,zB n (bR n) (fA n) (wI x.2.1),zB n (bR n) (fA n) (wI x.2.2))
theorem aDi(n:Nat)(l:List PR):∀k,k≤l.length→S0 n l k=(l.take k).map (ruF n)
 | 0,_=>rfl
 | k+1,h=>by
  simp only[S0]
  rw[aDi n l k (by omega),iT (d:=qS) (by omega),List.map_append]
  rfl
theorem aG6(n:Nat){l:List PR}(h:l.length≤10):S0 n l (min l.length 10)=l.map (ruF n):=by
 rw[Nat.min_eq_left h,aDi n l _ (Nat.le_refl _),List.take_length]
theorem aCB(n:Nat):Lg (zB n (bR n) (fA n) (wI [])) []:=by
 show Lg (Tree.node 0 0 []) []
 simp[Lg]
theorem aD7(n:Nat)(u v:Wd):Hit (ruF n (0,[],[])) u v :=
 ⟨⟨u.length,Nat.le_refl _,by rw[List.drop_length];exact aCB n⟩,0,Nat.zero_le _,by rw[List.take_zero];exact aCB n⟩
theorem aAB{i1:List Int}(hl:i1.length≤100){r:RR}(hr:Good r):∃w,iter (dA i1 r) (i1,0)=some w∧w.length=i1.length:=by
 refine dB (I:=fun q=>∃k:Nat,q.2=(k:Int)∧k≤i1.length∧q.1.length=i1.length) (μ:=fun q=>i1.length - q.2.toNat) _ ?_ ⟨0,rfl,Nat.zero_le _,rfl⟩
 rintro⟨w,k'⟩ ⟨k,rfl,hk,hw⟩
 dsimp only at hw
 by_cases hlt:k<i1.length
 ·have m0:=(aGt 0 hr.n1 hr.n24).1
  have c5:IntKind.i64.wrap ((k:Int)+1)=((k+1:Nat):Int):=mP (by omega)
  refine .inl ⟨(([]++(w.take k).drop 0)++([IntKind.i64.wrap (Int.tmod (IntKind.u64.wrap (w.getD k 0)) (IntKind.u64.wrap (r.1.length:Int)))]++(w.take w.length).drop (k+1)),((k+1:Nat):Int)),?_,⟨k+1,rfl,hlt,by simp;omega⟩,by simp only[Int.toNat_natCast];omega⟩
  unfold dA
  dsimp only
  simp only[c5,Int.toNat_natCast,Int.toNat_zero]
  rw[if_pos (by simp;omega),if_pos (by omega),if_pos (by simp;omega),if_pos (by omega),if_pos m0,if_pos (by omega),if_pos (by simp;omega),if_pos (by simp;omega)]
 ·refine .inr ⟨w,?_,hw⟩
  unfold dA
  dsimp only
  rw[if_neg (by simp;omega)]
theorem A6{c j a:Int}{tr:List Int}{l:List PR}(h:l.length≤10):mM c j a tr l=(lK (bN c),(if j=0 then 0 else aJ .or .u32 0 (jnV (bN c) j)),(if j=0 then 0 else aJ .or .u32 0 (jnV (bN c) a)),trV (bN c) tr (min tr.length (bN c)),l.map (ruF (bN c))):=by
 unfold mM
 rw[aG6 _ h]
theorem R1{c j a:Int}{tr:List Int}{l l':List PR}(h1:l.length≤10)(h2:(l++l').length≤10)(hh:∀u v,∀x∈l',Hit (ruF (bN c) x) u v→∃y∈l,Hit (ruF (bN c) y) u v){A B A' B':AU}(hM:aDy (mM c j a tr l) A B)(hM':aDy (mM c j a tr (l++l')) A' B')
  {w:List Int} (hw:w.length≤1000):∃o,bO (some (mM c j a tr l,A,B)) w=some o∧bO (some (mM c j a tr (l++l'),A',B')) w=some o∧o.length≤1001:=by
 obtain⟨o,o1,o2⟩:=aCV (t8 c j a tr l) hM hw
 obtain⟨o',p1,p2⟩:=aCV (t8 c j a tr (l++l')) hM' hw
 have o3:=o2
 rw[A6 h1]at o3
 have p3:=p2
 rw[A6 h2,List.map_append]at p3
 have q:=o3.rules (l':=l.map (ruF (bN c))++l'.map (ruF (bN c))) fun u v x hd=>Dec.app (fun y hy hhit=>by
  obtain⟨z,hz,rfl⟩:=List.mem_map.1 hy
  obtain⟨t,t1,t2⟩:=hh u v z hz hhit
  exact⟨_,List.mem_map.2 ⟨t,t1,rfl⟩,t2⟩) hd
 obtain rfl:=q.uniq p3
 exact⟨o,o1,p1,by rw[o2.len];omega⟩
theorem Pl.app{c j a:Int}{tr:List Int}{l l':List PR}(h:Pl c j a tr l)(h':∀x∈l',(0≤x.1∧x.1<256)∧Sm x.2.1∧Sm x.2.2):Pl c j a tr (l++l') :=
 ⟨h.hc,h.hj,h.ha,h.ht,fun x hx=>(List.mem_append.1 hx).elim (h.hl x) (h' x)⟩
theorem aAr(l:List PR)(k:Nat)(h:l.length≤k):(l++l).take k=l++l.take (k - l.length):=by
 rw[List.take_append,List.take_of_length_le h]
theorem aBD{c j a:Int}{tr:List Int}{l:List PR}(h:Pl c j a tr l){m1:Int}{m2 m3:List Int}(hm:(0≤m1∧m1<256)∧Sm m2∧Sm m3)(i1:List Int):eQ c j a tr l m1 m2 m3 i1=some true:=by
 have hG:=t8 c j a tr l
 unfold eQ
 rw[aHw]
 simp only[Option.bind_some,Bool.not_true,Bool.false_eq_true,if_false]
 by_cases h100:i1.length≤100
 ·by_cases h7:l.length≤7
  ·have e1:decide ((i1.length:Int) > 100)=false:=by simp;omega
   have e2:decide ((l.length:Int) > 7)=false:=by simp;omega
   simp only[e1,e2,Bool.false_eq_true,if_false,Option.bind_some,List.nil_append,List.length_nil]
   have hmin:(min ((l++l).length:Int) 9).toNat=min (2*l.length) 9:=by rw[List.length_append];omega
   rw[if_pos (by omega),if_pos (by omega),if_pos (by rw[List.length_append];omega),hmin,aAr l _ (by omega)]
   generalize hj':min (2*l.length) 9 - l.length=k'
   have hkl:(l++l.take k').length≤10:=by rw[List.length_append,List.length_take];omega
   have hQ:Pl c j a tr (l++l.take k'):=h.app fun x hx=>h.hl x (List.mem_of_mem_take hx)
   rcases qB h with q | ⟨A,B,q,hM⟩
   ·rw[q]
    simp only[Option.bind_some]
    rcases qB hQ with q' | ⟨A',B',q',hM'⟩ <;> rw[q'] <;> rfl
   rw[q]
   simp only[Option.bind_some]
   rcases qB hQ with q' | ⟨A',B',q',hM'⟩
   ·rw[q'];rfl
   rw[q']
   simp only[Option.bind_some,Bool.not_true,Bool.false_eq_true,if_false]
   obtain⟨w,w1,w2⟩:=aAB h100 hG
   rw[w1]
   simp only[Option.bind_some]
   obtain⟨o,o1,o2,o3⟩:=R1 (by omega) hkl (fun u v x hx hh=>⟨x,List.mem_of_mem_take hx,hh⟩) hM hM' (w:=w) (by omega)
   rw[o1]
   simp only[Option.bind_some]
   rw[o2]
   simp only[Option.bind_some]
   rw[R3 _ (by omega)]
   simp only[Option.bind_some,Bool.not_true,Bool.false_eq_true,if_false]
   have hE:Pl c j a tr (l++[((0:Int),(([]:List Int),([]:List Int)))]):=h.app fun x hx=>by
    obtain rfl:=List.mem_singleton.1 hx
    exact⟨⟨by decide,by decide⟩,fun y hy=>(by cases hy),fun y hy=>(by cases hy)⟩
   have hF:Pl c j a tr ((l++[((0:Int),(([]:List Int),([]:List Int)))])++[(m1,m2,m3)]):=hE.app fun x hx=>by
    obtain rfl:=List.mem_singleton.1 hx
    exact hm
   rw[if_pos (by omega),if_pos (by simp only[List.length_cons,List.length_nil];omega)]
   rcases qB hE with q2 | ⟨A2,B2,q2,hM2⟩
   ·rw[q2]
    simp only[Option.bind_some]
    rw[if_pos (by simp only[List.length_append,List.length_cons,List.length_nil];omega),if_pos (by simp only[List.length_append,List.length_cons,List.length_nil];omega)]
    rcases qB hF with q3 | ⟨A3,B3,q3,hM3⟩ <;> rw[q3] <;> rfl
   rw[q2]
   simp only[Option.bind_some]
   rw[if_pos (by simp only[List.length_append,List.length_cons,List.length_nil];omega),if_pos (by simp only[List.length_append,List.length_cons,List.length_nil];omega)]
   rcases qB hF with q3 | ⟨A3,B3,q3,hM3⟩
   ·rw[q3];rfl
   rw[q3]
   simp only[Option.bind_some,Bool.not_true,Bool.false_eq_true,if_false]
   obtain⟨o',p1,p2,p3⟩:=R1 (by simp only[List.length_append,List.length_cons,List.length_nil];omega) (by simp only[List.length_append,List.length_cons,List.length_nil];omega)
    (fun u v x _ _=>⟨((0:Int),(([]:List Int),([]:List Int))),by simp,aD7 _ u v⟩) hM2 hM3 (w:=w) (by omega)
   rw[p1]
   simp only[Option.bind_some]
   rw[p2]
   simp only[Option.bind_some]
   rw[R3 _ (by omega)]
   rfl
  ·have e1:decide ((i1.length:Int) > 100)=false:=by simp;omega
   have e2:decide ((l.length:Int) > 7)=true:=by simp;omega
   simp only[e1,e2,Bool.false_eq_true,if_false,Option.bind_some,if_true]
 ·have e1:decide ((i1.length:Int) > 100)=true:=by simp;omega
  simp only[e1,if_true,Option.bind_some]
end Go.Proofs.YtacpjjgochokcaaDoor.T
namespace Go.Proofs.YtacpjjgochokcaaDoor.T
open Go Go.Tv Go.Proofs
abbrev segOrder_Ts:List Ty:=[(.prod (.int .u8) (.prod (.int .u8) (.prod (.int .u8) (.prod (.slice (.int .u8)) (.slice (.prod (.int .u8) (.prod (.slice (.int .u8)) (.slice (.int .u8))))))))),(.prod (.int .u8) (.prod (.slice (.int .u8)) (.slice (.int .u8)))),(.slice (.int .i64))]
theorem segOrder_all(x:Tup segOrder_Ts)(hx:WfT segOrder_Ts x):eQ x.1.1 x.1.2.1 x.1.2.2.1 x.1.2.2.2.1 x.1.2.2.2.2 x.2.1.1 x.2.1.2.1 x.2.1.2.2 x.2.2.1=some true:=by
 obtain⟨⟨c,j,a,tr,l⟩,⟨m1,m2,m3⟩,i1,u⟩:=x
 have sm:∀ {y:List Int},Wf (.slice (.int .u8)) y→Sm y:=fun {y} hy z hz=>by
  obtain⟨i,hi,rfl⟩:=List.getElem_of_mem hz
  have:=hy.2 i hi
  exact⟨this.1,Int.lt_add_one_iff.mpr this.2⟩
 obtain⟨k1,k2,k3⟩:=hx.2.1
 exact aBD (aI4 hx.1) ⟨⟨k1.1,Int.lt_add_one_iff.mpr k1.2⟩,sm k2,sm k3⟩ i1
end Go.Proofs.YtacpjjgochokcaaDoor.T
