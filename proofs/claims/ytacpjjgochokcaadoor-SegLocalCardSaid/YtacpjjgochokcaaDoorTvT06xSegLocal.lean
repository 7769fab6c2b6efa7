/- Functions of the program as functions on data, and that the program's own come to them. -/
import Derived.Test.YtacpjjgochokcaaDoorTvT06x0
import Derived.Test.YtacpjjgochokcaaDoorTvT06xa
namespace Go.Proofs.YtacpjjgochokcaaDoor.T
open Go Go.Tv Go.Proofs
noncomputable section
set_option maxRecDepth 100000
set_option maxHeartbeats 4000000
def bQ(d1:List Int):((List UInt8)×Int×Int×Int×Int×Int×Int×Int×Int×Int×Int)→Option (((List UInt8)×Int×Int×Int×Int×Int×Int×Int×Int×Int×Int)⊕((List UInt8)×Int×Int×Int×Int×Int×Int×Int×Int×Int)):=fun(v32,v33,v34,v35,v36,v37,v38,v39,v40,v41,v42) =>
 (if(decide (v42<(9:Int)))=true then(if ¬(3:Int)=0 then(if ¬(3:Int)=0 then(if 0≤(IntKind.i64.wrap (Int.tdiv v42 (3:Int)))∧(IntKind.i64.wrap (Int.tdiv v42 (3:Int)))<((3:Nat):Int)then(if(0≤(Int.tmod v42 (3:Int))∧(Int.tmod v42 (3:Int))<((3:Nat):Int))∧(((IntKind.i64.wrap (Int.tdiv v42 (3:Int))).toNat*3)+(Int.tmod v42 (3:Int)).toNat)<9 then(((if(decide (v42<(d1.length:Int)))=true then(if 0≤v42∧v42<(d1.length:Int)then(if ¬(4:Int)=0 then(if((Int.tmod (d1.getD v42.toNat (0:Int)) (4:Int)) == (3:Int))=true then some ((Sum.inl ()))
 else(if ¬(3:Int)=0 then(if ¬(3:Int)=0 then(if 0≤(IntKind.i64.wrap (Int.tdiv v42 (3:Int)))∧(IntKind.i64.wrap (Int.tdiv v42 (3:Int)))<((3:Nat):Int)then(if(0≤(Int.tmod v42 (3:Int))∧(Int.tmod v42 (3:Int))<((3:Nat):Int))∧(((IntKind.i64.wrap (Int.tdiv v42 (3:Int))).toNat*3)+(Int.tmod v42 (3:Int)).toNat)<9 then(if 0≤(Int.tmod (d1.getD v42.toNat (0:Int)) (4:Int))∧(Int.tmod (d1.getD v42.toNat (0:Int)) (4:Int))<(([([107,101,101,112,32]:List UInt8),([109,97,121,32]:List UInt8),([109,117,115,116,32]:List UInt8)]:List (List UInt8)).length:Int)then(if(Int.tmod (d1.getD v42.toNat (0:Int)) (4:Int)).toNat<([([107,101,101,112,32]:List UInt8),([109,97,121,32]:List UInt8),([109,117,115,116,32]:List UInt8)]:List (List UInt8)).length then(if ¬(3:Int)=0 then(if(([([107,101,101,112,32]:List UInt8),([109,97,121,32]:List UInt8),([109,117,115,116,32]:List UInt8)]:List (List UInt8)).getD ((Int.tmod (d1.getD v42.toNat (0:Int)) (4:Int)).toNat) ([]:List UInt8)).length+(bD ([(IntKind.u8.wrap (IntKind.i64.wrap ((65:Int)+(IntKind.i64.wrap (Int.tdiv v42 (3:Int))))))]:List Int)).length≤9223372036854775807 then(if((([([107,101,101,112,32]:List UInt8),([109,97,121,32]:List UInt8),([109,117,115,116,32]:List UInt8)]:List (List UInt8)).getD ((Int.tmod (d1.getD v42.toNat (0:Int)) (4:Int)).toNat) ([]:List UInt8))++(bD ([(IntKind.u8.wrap (IntKind.i64.wrap ((65:Int)+(IntKind.i64.wrap (Int.tdiv v42 (3:Int))))))]:List Int))).length+([32,47,32]:List UInt8).length≤9223372036854775807 then(if ¬(3:Int)=0 then(if(((([([107,101,101,112,32]:List UInt8),([109,97,121,32]:List UInt8),([109,117,115,116,32]:List UInt8)]:List (List UInt8)).getD ((Int.tmod (d1.getD v42.toNat (0:Int)) (4:Int)).toNat) ([]:List UInt8))++(bD ([(IntKind.u8.wrap (IntKind.i64.wrap ((65:Int)+(IntKind.i64.wrap (Int.tdiv v42 (3:Int))))))]:List Int)))++([32,47,32]:List UInt8)).length+(bD ([(IntKind.u8.wrap (IntKind.i64.wrap ((65:Int)+(Int.tmod v42 (3:Int)))))]:List Int)).length≤9223372036854775807 then(if((((([([107,101,101,112,32]:List UInt8),([109,97,121,32]:List UInt8),([109,117,115,116,32]:List UInt8)]:List (List UInt8)).getD ((Int.tmod (d1.getD v42.toNat (0:Int)) (4:Int)).toNat) ([]:List UInt8))++(bD ([(IntKind.u8.wrap (IntKind.i64.wrap ((65:Int)+(IntKind.i64.wrap (Int.tdiv v42 (3:Int))))))]:List Int)))++([32,47,32]:List UInt8))++(bD ([(IntKind.u8.wrap (IntKind.i64.wrap ((65:Int)+(Int.tmod v42 (3:Int)))))]:List Int))).length+([59]:List UInt8).length≤9223372036854775807 then(if v32.length+(((((([([107,101,101,112,32]:List UInt8),([109,97,121,32]:List UInt8),([109,117,115,116,32]:List UInt8)]:List (List UInt8)).getD ((Int.tmod (d1.getD v42.toNat (0:Int)) (4:Int)).toNat) ([]:List UInt8))++(bD ([(IntKind.u8.wrap (IntKind.i64.wrap ((65:Int)+(IntKind.i64.wrap (Int.tdiv v42 (3:Int))))))]:List Int)))++([32,47,32]:List UInt8))++(bD ([(IntKind.u8.wrap (IntKind.i64.wrap ((65:Int)+(Int.tmod v42 (3:Int)))))]:List Int)))++([59]:List UInt8)).length≤9223372036854775807 then some ((Sum.inr ((v32++(((((([([107,101,101,112,32]:List UInt8),([109,97,121,32]:List UInt8),([109,117,115,116,32]:List UInt8)]:List (List UInt8)).getD ((Int.tmod (d1.getD v42.toNat (0:Int)) (4:Int)).toNat) ([]:List UInt8))++(bD ([(IntKind.u8.wrap (IntKind.i64.wrap ((65:Int)+(IntKind.i64.wrap (Int.tdiv v42 (3:Int))))))]:List Int)))++([32,47,32]:List UInt8))++(bD ([(IntKind.u8.wrap (IntKind.i64.wrap ((65:Int)+(Int.tmod v42 (3:Int)))))]:List Int)))++([59]:List UInt8))),(if(((IntKind.i64.wrap (Int.tdiv v42 (3:Int))).toNat*3)+(Int.tmod v42 (3:Int)).toNat)=0 then(Int.tmod (d1.getD v42.toNat (0:Int)) (4:Int))else(if(((IntKind.i64.wrap (Int.tdiv v42 (3:Int))).toNat*3)+(Int.tmod v42 (3:Int)).toNat)=0 then(1:Int)else v33)),(if(((IntKind.i64.wrap (Int.tdiv v42 (3:Int))).toNat*3)+(Int.tmod v42 (3:Int)).toNat)=1 then(Int.tmod (d1.getD v42.toNat (0:Int)) (4:Int))else(if(((IntKind.i64.wrap (Int.tdiv v42 (3:Int))).toNat*3)+(Int.tmod v42 (3:Int)).toNat)=1 then(1:Int)else v34)),(if(((IntKind.i64.wrap (Int.tdiv v42 (3:Int))).toNat*3)+(Int.tmod v42 (3:Int)).toNat)=2 then(Int.tmod (d1.getD v42.toNat (0:Int)) (4:Int))else(if(((IntKind.i64.wrap (Int.tdiv v42 (3:Int))).toNat*3)+(Int.tmod v42 (3:Int)).toNat)=2 then(1:Int)else v35)),(if(((IntKind.i64.wrap (Int.tdiv v42 (3:Int))).toNat*3)+(Int.tmod v42 (3:Int)).toNat)=3 then(Int.tmod (d1.getD v42.toNat (0:Int)) (4:Int))else(if(((IntKind.i64.wrap (Int.tdiv v42 (3:Int))).toNat*3)+(Int.tmod v42 (3:Int)).toNat)=3 then(1:Int)else v36)),(if(((IntKind.i64.wrap (Int.tdiv v42 (3:Int))).toNat*3)+(Int.tmod v42 (3:Int)).toNat)=4 then(Int.tmod (d1.getD v42.toNat (0:Int)) (4:Int))else(if(((IntKind.i64.wrap (Int.tdiv v42 (3:Int))).toNat*3)+(Int.tmod v42 (3:Int)).toNat)=4 then(1:Int)else v37)),(if(((IntKind.i64.wrap (Int.tdiv v42 (3:Int))).toNat*3)+(Int.tmod v42 (3:Int)).toNat)=5 then(Int.tmod (d1.getD v42.toNat (0:Int)) (4:Int))else(if(((IntKind.i64.wrap (Int.tdiv v42 (3:Int))).toNat*3)+(Int.tmod v42 (3:Int)).toNat)=5 then(1:Int)else v38)),(if(((IntKind.i64.wrap (Int.tdiv v42 (3:Int))).toNat*3)+(Int.tmod v42 (3:Int)).toNat)=6 then(Int.tmod (d1.getD v42.toNat (0:Int)) (4:Int))else(if(((IntKind.i64.wrap (Int.tdiv v42 (3:Int))).toNat*3)+(Int.tmod v42 (3:Int)).toNat)=6 then(1:Int)else v39)),(if(((IntKind.i64.wrap (Int.tdiv v42 (3:Int))).toNat*3)+(Int.tmod v42 (3:Int)).toNat)=7 then(Int.tmod (d1.getD v42.toNat (0:Int)) (4:Int))else(if(((IntKind.i64.wrap (Int.tdiv v42 (3:Int))).toNat*3)+(Int.tmod v42 (3:Int)).toNat)=7 then(1:Int)else v40)),(if(((IntKind.i64.wrap (Int.tdiv v42 (3:Int))).toNat*3)+(Int.tmod v42 (3:Int)).toNat)=8 then(Int.tmod (d1.getD v42.toNat (0:Int)) (4:Int))else(if(((IntKind.i64.wrap (Int.tdiv v42 (3:Int))).toNat*3)+(Int.tmod v42 (3:Int)).toNat)=8 then(1:Int)else v41)))))else none)else none)else none)else none)else none)else none)else none)else none)else none)else none)else none)else none)else none))else none)else none)
 else some ((Sum.inr (v32,(if(((IntKind.i64.wrap (Int.tdiv v42 (3:Int))).toNat*3)+(Int.tmod v42 (3:Int)).toNat)=0 then(1:Int)else v33),(if(((IntKind.i64.wrap (Int.tdiv v42 (3:Int))).toNat*3)+(Int.tmod v42 (3:Int)).toNat)=1 then(1:Int)else v34),(if(((IntKind.i64.wrap (Int.tdiv v42 (3:Int))).toNat*3)+(Int.tmod v42 (3:Int)).toNat)=2 then(1:Int)else v35),(if(((IntKind.i64.wrap (Int.tdiv v42 (3:Int))).toNat*3)+(Int.tmod v42 (3:Int)).toNat)=3 then(1:Int)else v36),(if(((IntKind.i64.wrap (Int.tdiv v42 (3:Int))).toNat*3)+(Int.tmod v42 (3:Int)).toNat)=4 then(1:Int)else v37),(if(((IntKind.i64.wrap (Int.tdiv v42 (3:Int))).toNat*3)+(Int.tmod v42 (3:Int)).toNat)=5 then(1:Int)else v38),(if(((IntKind.i64.wrap (Int.tdiv v42 (3:Int))).toNat*3)+(Int.tmod v42 (3:Int)).toNat)=6 then(1:Int)else v39),(if(((IntKind.i64.wrap (Int.tdiv v42 (3:Int))).toNat*3)+(Int.tmod v42 (3:Int)).toNat)=7 then(1:Int)else v40),(if(((IntKind.i64.wrap (Int.tdiv v42 (3:Int))).toNat*3)+(Int.tmod v42 (3:Int)).toNat)=8 then(1:Int)else v41)))))).bind fun(r5:((Unit)⊕((List UInt8)×Int×Int×Int×Int×Int×Int×Int×Int×Int)))=>match r5 with
 | .inl _=>some (Sum.inl (v32,(if(((IntKind.i64.wrap (Int.tdiv v42 (3:Int))).toNat*3)+(Int.tmod v42 (3:Int)).toNat)=0 then(1:Int)else v33),(if(((IntKind.i64.wrap (Int.tdiv v42 (3:Int))).toNat*3)+(Int.tmod v42 (3:Int)).toNat)=1 then(1:Int)else v34),(if(((IntKind.i64.wrap (Int.tdiv v42 (3:Int))).toNat*3)+(Int.tmod v42 (3:Int)).toNat)=2 then(1:Int)else v35),(if(((IntKind.i64.wrap (Int.tdiv v42 (3:Int))).toNat*3)+(Int.tmod v42 (3:Int)).toNat)=3 then(1:Int)else v36),(if(((IntKind.i64.wrap (Int.tdiv v42 (3:Int))).toNat*3)+(Int.tmod v42 (3:Int)).toNat)=4 then(1:Int)else v37),(if(((IntKind.i64.wrap (Int.tdiv v42 (3:Int))).toNat*3)+(Int.tmod v42 (3:Int)).toNat)=5 then(1:Int)else v38),(if(((IntKind.i64.wrap (Int.tdiv v42 (3:Int))).toNat*3)+(Int.tmod v42 (3:Int)).toNat)=6 then(1:Int)else v39),(if(((IntKind.i64.wrap (Int.tdiv v42 (3:Int))).toNat*3)+(Int.tmod v42 (3:Int)).toNat)=7 then(1:Int)else v40),(if(((IntKind.i64.wrap (Int.tdiv v42 (3:Int))).toNat*3)+(Int.tmod v42 (3:Int)).toNat)=8 then(1:Int)else v41),(IntKind.i64.wrap (v42+(1:Int)))))
 | .inr ((v53,v54,v55,v56,v57,v58,v59,v60,v61,v62))=>some (Sum.inl (v53,v54,v55,v56,v57,v58,v59,v60,v61,v62,(IntKind.i64.wrap (v42+(1:Int))))))else none)else none)else none)else none)
 else some (Sum.inr (v32,v33,v34,v35,v36,v37,v38,v39,v40,v41)))
def bP(i1:List Int):((List Int)×Int)→Option (((List Int)×Int)⊕(List Int)):=fun(v65,v66) =>
 (if(decide (v66<(i1.length:Int)))=true then(if 0≤v66∧v66<(i1.length:Int)then(if ¬(3:Int)=0 then(if(v65.length+([(IntKind.i64.wrap (Int.tmod (IntKind.u64.wrap (i1.getD v66.toNat (0:Int))) (3:Int)))]:List Int).length)*8≤140737488355328∧v65.length+([(IntKind.i64.wrap (Int.tmod (IntKind.u64.wrap (i1.getD v66.toNat (0:Int))) (3:Int)))]:List Int).length≤9223372036854775807 then some (Sum.inl ((v65++([(IntKind.i64.wrap (Int.tmod (IntKind.u64.wrap (i1.getD v66.toNat (0:Int))) (3:Int)))]:List Int)),(IntKind.i64.wrap (v66+(1:Int)))))else none)else none)else none)
 else some (Sum.inr v65))
def bO(v44 v45 v46 v47 v48 v49 v50 v51 v52:Int)(v67 r12:List Int):(Int)→Option ((Int)⊕((Unit)⊕(Bool))):=fun v70 =>
 (if(decide (v70<(v67.length:Int)))=true then(if 0≤v70∧v70<(r12.length:Int)then(if 0≤(IntKind.i64.wrap (v70 - (1:Int)))∧(IntKind.i64.wrap (v70 - (1:Int)))<(v67.length:Int)then(if(IntKind.i64.wrap (v70 - (1:Int))).toNat<v67.length then(if 0≤v70∧v70<(v67.length:Int)then(if v70.toNat<v67.length then(if 0≤(v67.getD ((IntKind.i64.wrap (v70 - (1:Int))).toNat) (0:Int))∧(v67.getD ((IntKind.i64.wrap (v70 - (1:Int))).toNat) (0:Int))<((3:Nat):Int)then(if(0≤(v67.getD v70.toNat (0:Int))∧(v67.getD v70.toNat (0:Int))<((3:Nat):Int))∧(((v67.getD ((IntKind.i64.wrap (v70 - (1:Int))).toNat) (0:Int)).toNat*3)+(v67.getD v70.toNat (0:Int)).toNat)<9 then(if((r12.getD v70.toNat (0:Int)) != (([v44,v45,v46,v47,v48,v49,v50,v51,v52]:List Int).getD (((v67.getD ((IntKind.i64.wrap (v70 - (1:Int))).toNat) (0:Int)).toNat*3)+(v67.getD v70.toNat (0:Int)).toNat) 0))=true then some (Sum.inr (Sum.inr false))
 else some (Sum.inl (IntKind.i64.wrap (v70+(1:Int)))))else none)else none)else none)else none)else none)else none)else none)
 else some (Sum.inr (Sum.inl ())))
def dK(d1 i1:List Int):Option (Bool) :=
 ((gC).bind fun r2 =>
 (if(!r2)=true then some false
 else(if(decide ((i1.length:Int) > (200:Int)))=true then some true
 else((iter (bQ d1) (([99,108,97,115,115,32,65,32,66,32,67,59]:List UInt8),(0:Int),(0:Int),(0:Int),(0:Int),(0:Int),(0:Int),(0:Int),(0:Int),(0:Int),(0:Int))).bind fun(v43,v44,v45,v46,v47,v48,v49,v50,v51,v52)=>((jJ v43).bind fun(r9,r10) =>
 (if(r10.1 != (0:Int))=true then some false
 else((iter (bP i1) (([]:List Int),(0:Int))).bind fun v67=>((dS r9 v67).bind fun r12 =>
 (((if((r12.length:Int) != (IntKind.i64.wrap ((v67.length:Int)+(1:Int))))=true then some (true)
 else(if 0≤(v67.length:Int)∧(v67.length:Int)<(r12.length:Int)then some (((r12.getD ((v67.length:Int).toNat) (0:Int)) != (2:Int)))else none))).bind fun v68=>(if v68=true then some false
 else((iter (bO v44 v45 v46 v47 v48 v49 v50 v51 v52 v67 r12) (1:Int)).bind fun(r14:((Unit)⊕(Bool)))=>match r14 with
 | .inl _=>(((if((v67.length:Int) == (0:Int))=true then some (true)
 else(if 0≤(0:Int)∧(0:Int)<(r12.length:Int)then some (((r12.getD ((0:Int).toNat) (0:Int)) == (0:Int)))else none))).bind fun v71=>some v71)
 | .inr (r13)=>some r13)))))))))))
theorem stanzalaw06_SegLocal_ok(β0 β1:Bool){d1:List Int}{i1:List Int}{res:Bool}(h:dK d1 i1=some res):
  Pure Tryd.prog 6 [.p β0 (.slice (.int .u8)) d1,.p β1 (.slice (.int .i64)) i1] (cE (gG false [⟨.bool,res⟩])):=by
 refine Pure.of_body bS Tryd.func6 (by kernel_rfl) rfl (nl rfl) (fun Bw w0=> ?_) rfl
 unfold dK at h
 refine G (aC ?_)
 obtain⟨r2,q2,h⟩:=aD h
 refine GP 0 (pK q2) (aW h (fun hb1 h=> ?_) (fun hb1 h=> ?_))
 ·refine G (aZ (aH ?_))
  obtain rfl:=sI h
  exact aJ [.bool] (by kernel_rfl)
 refine aB (aA (aC (G (aW h (fun hb2 h=> ?_) (fun hb2 h=> ?_)))))
 ·refine G (aZ (aH ?_))
  obtain rfl:=sI h
  exact aJ [.bool] (by kernel_rfl)
 refine aB (aA (G (G (aC (G (aF (jO h (fun(v32,v33,v34,v35,v36,v37,v38,v39,v40,v41,v42)=>aO [(0,.p β0 (.slice (.int .u8)) d1),(1,.p β1 (.slice (.int .i64)) i1),(5,.st v32),(6,.adr 0 0 9 0),(21,.i64 v42)] (aEm v33 v34 v35 v36 v37 v38 v39 v40 v41) 1) 0 (fun(v43,v44,v45,v46,v47,v48,v49,v50,v51,v52)=>aO [(1,.p β1 (.slice (.int .i64)) i1),(5,.st v43),(6,.adr 0 0 9 0)] (aEm v44 v45 v46 v47 v48 v49 v50 v51 v52) 1) (gg [] [56]) (fun y o h=> ?_) (fun r6 h=> ?_))))))))
 ·obtain⟨v32,v33,v34,v35,v36,v37,v38,v39,v40,v41,v42⟩:=y
  unfold bQ at h
  refine G (aC (aW h (fun hb13 h=> ?_) (fun hb13 h=> ?_)))
  ·refine aB (aA (aC (aF (G ?_))))
   obtain⟨c141,c142,c143,c144,h⟩:=g4 h
   refine GN a0 [(1,1,oc c141),(3,3,oc c142),(4,4,oc c143),(5,5,oc c144)] (G ?_)
   refine aEP h (fY (iU Tryd.f6.ntmps 1 (fun _=>aO [(0,.p β0 (.slice (.int .u8)) d1),(1,.p β1 (.slice (.int .i64)) i1),(5,.st v32),(6,.adr 0 0 9 0),(21,.i64 v42)] (aEm (if(((IntKind.i64.wrap (Int.tdiv v42 (3:Int))).toNat*3)+(Int.tmod v42 (3:Int)).toNat)=0 then(1:Int)else v33) (if(((IntKind.i64.wrap (Int.tdiv v42 (3:Int))).toNat*3)+(Int.tmod v42 (3:Int)).toNat)=1 then(1:Int)else v34) (if(((IntKind.i64.wrap (Int.tdiv v42 (3:Int))).toNat*3)+(Int.tmod v42 (3:Int)).toNat)=2 then(1:Int)else v35) (if(((IntKind.i64.wrap (Int.tdiv v42 (3:Int))).toNat*3)+(Int.tmod v42 (3:Int)).toNat)=3 then(1:Int)else v36) (if(((IntKind.i64.wrap (Int.tdiv v42 (3:Int))).toNat*3)+(Int.tmod v42 (3:Int)).toNat)=4 then(1:Int)else v37) (if(((IntKind.i64.wrap (Int.tdiv v42 (3:Int))).toNat*3)+(Int.tmod v42 (3:Int)).toNat)=5 then(1:Int)else v38) (if(((IntKind.i64.wrap (Int.tdiv v42 (3:Int))).toNat*3)+(Int.tmod v42 (3:Int)).toNat)=6 then(1:Int)else v39) (if(((IntKind.i64.wrap (Int.tdiv v42 (3:Int))).toNat*3)+(Int.tmod v42 (3:Int)).toNat)=7 then(1:Int)else v40) (if(((IntKind.i64.wrap (Int.tdiv v42 (3:Int))).toNat*3)+(Int.tmod v42 (3:Int)).toNat)=8 then(1:Int)else v41)) 1)) (sQ Tryd.f6.ntmps (fun(v53,v54,v55,v56,v57,v58,v59,v60,v61,v62)=>aO [(0,.p β0 (.slice (.int .u8)) d1),(1,.p β1 (.slice (.int .i64)) i1),(5,.st v53),(6,.adr 0 0 9 0),(21,.i64 v42)] (aEm v54 v55 v56 v57 v58 v59 v60 v61 v62) 1))) (fun r5 h=> ?_) (fun r5 h e σ' hq=> ?_)
   ·refine aW h (fun hb16 h=> ?_) (fun hb16 h=> ?_)
    ·obtain⟨c177,c178,h⟩:=g2 h
     refine GN a0 [(2,2,oc c177),(4,4,oc c178)] (aC (G (aW h (fun hb17 h=> ?_) (fun hb17 h=> ?_))))
     ·refine aI (bT ?_)
      obtain rfl:=sI h
      refine cD ?_
      exact dH (gg [] [0])
     refine aB (aA ?_)
     obtain⟨c183,c184,c185,c186,h⟩:=g4 h
     refine GN a0 [(1,1,oc c183),(3,3,oc c184),(5,5,oc c185),(6,6,oc c186)] ?_
     obtain⟨c196,c197,c198,c199,h⟩:=g4 h
     obtain⟨c200,c201,c202,c203,h⟩:=g4 h
     obtain⟨c204,h⟩:=bC h
     refine z7 a0 [(3,3,oc c196),(4,4,oc c197),(6,6,oc c198),(11,11,oc c199),(12,12,oc c200),(14,14,oc c201),(19,19,oc c202),(20,20,oc c203),(21,21,oc c204)] ?_
     obtain rfl:=sI h
     refine aAQ ?_
     exact gM (gg [] [0])
    refine aB ?_
    obtain rfl:=sI h
    refine aAQ ?_
    exact gM (gg [] [0])
   rcases r5 with _ | ⟨v53,v54,v55,v56,v57,v58,v59,v60,v61,v62⟩
   ·obtain⟨rfl,hle⟩:=hq
    refine fC ?_ hle
    refine aK (aA (Ge ?_))
    exact eB h (gg [] [0])
   obtain⟨rfl,hle⟩:=hq
   refine fC ?_ hle
   refine aN (aA (Ge ?_))
   exact eB h (gg [] [0])
  refine aI (bT ?_)
  exact eX h (gg [] [0])
 obtain⟨v43,v44,v45,v46,v47,v48,v49,v50,v51,v52⟩:=r6
 refine aK (aA ?_)
 obtain⟨⟨r9,r10⟩,q4,h⟩:=aD h
 refine GP 1 (oZ q4) (aC (G (aW h (fun hb18 h=> ?_) (fun hb18 h=> ?_))))
 ·refine G (aZ (aH ?_))
  obtain rfl:=sI h
  exact aJ [.bool] (by kernel_rfl)
 refine aB (aA (G (aC (G (aF (jO h (fun(v65,v66)=>aO [(6,.adr 0 0 9 0),(9,.p false (.ptr Y7) r9),(11,.sl 1),(79,.p β1 (.slice (.int .i64)) i1),(80,.i64 (i1.length:Int)),(81,.i64 v66)] (aD9 v44 v45 v46 v47 v48 v49 v50 v51 v52 v65) 2) 2 (fun v67=>aO [(6,.adr 0 0 9 0),(9,.p false (.ptr Y7) r9),(11,.sl 1)] (aD9 v44 v45 v46 v47 v48 v49 v50 v51 v52 v67) 2) (gg [.nilS 11 121 3 (.int .i64)] [0,121]) (fun y o h=> ?_) (fun v67 h=> ?_)))))))
 ·obtain⟨v65,v66⟩:=y
  unfold bP at h
  refine G (aC (aW h (fun hb21 h=> ?_) (fun hb21 h=> ?_)))
  ·refine aB (aA (aC (aF (GC 0 h (fun h=> ?_)))))
   obtain⟨c221,c222,h⟩:=g2 h
   refine gS a0 [(3,3,oc c221),(6,6,oc c222)] (aN (aA (Ge ?_)))
   exact eB h (gg [] [0,82])
  refine aI (bT ?_)
  exact eX h (gg [] [0,1])
 refine aK (aA ?_)
 obtain⟨r12,q6,h⟩:=aD h
 refine GP 2 (fM false true q6) (aC (aC (gE h (fun v68=>aO [(6,.adr 0 0 9 0),(11,.sl 1),(14,.p false (.slice (.int .u8)) r12),(109,.bo v68)] (aD9 v44 v45 v46 v47 v48 v49 v50 v51 v52 v67) 2) (fun v68 h=> ?_) (fun v68 h=> ?_))))
 ·rcases cF h with⟨hb24,h⟩ | ⟨hb24,h⟩
  ·refine gS ⟨[(6,true),(13,true)],[]⟩ [(7,13,oc hb24)] ?_
   exact eN h (gg [] [0,1])
  obtain⟨c225,h⟩:=bC h
  refine gS ⟨[(6,false),(13,false)],[]⟩ [(7,9,an hb24),(10,10,oc (And.intro hb24 c225)),(11,12,an hb24),(13,13,oc hb24)] ?_
  exact eN h (gg [] [0,1])
 refine aA (aW h (fun hb25 h=> ?_) (fun hb25 h=> ?_))
 ·refine G (aZ (aH ?_))
  obtain rfl:=sI h
  exact aJ [.bool] (by kernel_rfl)
 refine aB (aA (aC (G (aF (qV h (fun v70=>aO [(6,.adr 0 0 9 0),(11,.sl 1),(14,.p false (.slice (.int .u8)) r12),(15,.i64 v70)] (aD9 v44 v45 v46 v47 v48 v49 v50 v51 v52 v67) 2) (fY (iU Tryd.f6.ntmps 4 (fun _=>aO [(11,.sl 0),(14,.p false (.slice (.int .u8)) r12)] [(0,.arr 3 (.int .i64) v67)] 1)) (qA tb Tryd.f6.results.toList (fun r13=>[⟨.bool,r13⟩]))) (gg [] [0,1]) (fun v70 o h=> ?_) (fun r14 h e σ' hq=> ?_))))))
 ·unfold bO at h
  refine aC (G (aW h (fun hb30 h=> ?_) (fun hb30 h=> ?_)))
  ·refine aB (aA (aC (aF ?_)))
   obtain⟨c261,c262,c263,c264,h⟩:=g4 h
   obtain⟨c265,c266,c267,h⟩:=g3 h
   refine GD a0 [(2,2,oc c261),(7,7,oc c262),(8,8,oc c263),(11,11,oc c264),(12,12,oc c265),(13,13,oc c266),(14,14,oc c267)] (aW h (fun hb31 h=> ?_) (fun hb31 h=> ?_))
   ·refine G (aZ ?_)
    obtain rfl:=sI h
    refine aX (aH (fE (aV ?_)))
    exact iB (aJ [.bool] (by kernel_rfl))
   refine aB (aN (aA (Ge ?_)))
   exact eB h (gg [] [0,1])
  refine aI (bT ?_)
  obtain rfl:=sI h
  refine hY (cD ?_)
  exact dH (gg [] [1])
 rcases r14 with _ | r13
 ·obtain⟨rfl,hle⟩:=hq
  refine fC ?_ hle
  refine aK (aA (aC (gE h (fun v71=>aO [(4,.bo v71)] [] 0) (fun v71 h=> ?_) (fun v71 h=> ?_))))
  ·rcases cF h with⟨hb34,h⟩ | ⟨hb34,h⟩
   ·refine gS ⟨[(3,true),(8,true)],[]⟩ [(4,8,oc hb34)] ?_
    exact eN h (gg [] [])
   obtain⟨c270,h⟩:=bC h
   refine gS ⟨[(3,false),(8,false)],[]⟩ [(4,4,an hb34),(5,5,oc (And.intro hb34 c270)),(6,7,an hb34),(8,8,oc hb34)] ?_
   exact eN h (gg [] [])
  refine aA (aZ ?_)
  obtain rfl:=sI h
  exact aJ [.bool] (by kernel_rfl)
 obtain⟨rfl,hr⟩:=hq
 refine aX (aH ?_)
 obtain rfl:=sI h
 exact hr
end
end Go.Proofs.YtacpjjgochokcaaDoor.T
