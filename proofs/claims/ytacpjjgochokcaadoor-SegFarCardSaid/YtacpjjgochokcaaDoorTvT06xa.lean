/- Functions of the program as functions on data, and that the program's own come to them. -/
import Derived.Test.YtacpjjgochokcaaDoorTvT06x0
import Derived.Test.YtacpjjgochokcaaDoorTvT06xa1
namespace Go.Proofs.YtacpjjgochokcaaDoor.T
open Go Go.Tv Go.Proofs
noncomputable section
set_option maxRecDepth 100000
set_option maxHeartbeats 4000000
def fU(d1:List Tree):((List Int)×(List (Int×Int×Int×Int))×Bool×(List (Bool×(Int×Int×Int×Int)×Int×Int×Int×Int))×Int)→Option (((List Int)×(List (Int×Int×Int×Int))×Bool×(List (Bool×(Int×Int×Int×Int)×Int×Int×Int×Int))×Int)⊕((List Int)×(List (Int×Int×Int×Int))×Bool×List (Bool×(Int×Int×Int×Int)×Int×Int×Int×Int))):=fun(v7,v8,v9,v10,v11) =>
 (if(decide (v11<(d1.length:Int)))=true then(if 0≤v11∧v11<(d1.length:Int)then((cK 1000 ((d1.getD v11.toNat (Tree.node 0 0 [])).op) ((d1.getD v11.toNat (Tree.node 0 0 [])).set) ((d1.getD v11.toNat (Tree.node 0 0 [])).kids) v9 v7 v8).bind fun(r21,r22,r23,r24) =>
 (if(v10.length+([(r21.1,((r21.2.1.1,(r21.2.1.2.1,(r21.2.1.2.2.1,r21.2.1.2.2.2))),(r21.2.2.1,(r21.2.2.2.1,(r21.2.2.2.2.1,r21.2.2.2.2.2)))))]:List (Bool×(Int×Int×Int×Int)×Int×Int×Int×Int)).length)*72≤140737488355328∧v10.length+([(r21.1,((r21.2.1.1,(r21.2.1.2.1,(r21.2.1.2.2.1,r21.2.1.2.2.2))),(r21.2.2.1,(r21.2.2.2.1,(r21.2.2.2.2.1,r21.2.2.2.2.2)))))]:List (Bool×(Int×Int×Int×Int)×Int×Int×Int×Int)).length≤9223372036854775807 then some (Sum.inl (r22,r23,r24,(v10++([(r21.1,((r21.2.1.1,(r21.2.1.2.1,(r21.2.1.2.2.1,r21.2.1.2.2.2))),(r21.2.2.1,(r21.2.2.2.1,(r21.2.2.2.2.1,r21.2.2.2.2.2)))))]:List (Bool×(Int×Int×Int×Int)×Int×Int×Int×Int))),(IntKind.i64.wrap (v11+(1:Int)))))else none))else none)
 else some (Sum.inr (v7,v8,v9,v10)))
def fY(v15:List (Bool×(Int×Int×Int×Int)×Int×Int×Int×Int)):(Int×Int×Int×Int×Int)→Option ((Int×Int×Int×Int×Int)⊕(Int×Int×Int×Int)):=fun(v21,v22,v23,v24,v25) =>
 (if(decide (v25<(v15.length:Int)))=true then(if 0≤v25∧v25<(v15.length:Int)then(if v25.toNat<v15.length then((cF v21 v22 v23 v24 ((v15.getD v25.toNat (false,(((0:Int),((0:Int),((0:Int),(0:Int)))),((0:Int),((0:Int),((0:Int),(0:Int))))))).2.1.1) ((v15.getD v25.toNat (false,(((0:Int),((0:Int),((0:Int),(0:Int)))),((0:Int),((0:Int),((0:Int),(0:Int))))))).2.1.2.1) ((v15.getD v25.toNat (false,(((0:Int),((0:Int),((0:Int),(0:Int)))),((0:Int),((0:Int),((0:Int),(0:Int))))))).2.1.2.2.1) ((v15.getD v25.toNat (false,(((0:Int),((0:Int),((0:Int),(0:Int)))),((0:Int),((0:Int),((0:Int),(0:Int))))))).2.1.2.2.2)).bind fun r31 =>
 some (Sum.inl (r31.1,r31.2.1,r31.2.2.1,r31.2.2.2,(IntKind.i64.wrap (v25+(1:Int))))))else none)else none)
 else some (Sum.inr (v21,v22,v23,v24)))
def eR(v13 v325:List (Int×Int×Int×Int))(v327:Int):(Int×Int×Int×Int×Int)→Option ((Int×Int×Int×Int×Int)⊕(Int×Int×Int×Int)):=fun(v343,v344,v345,v346,v347) =>
 (if(decide (v347<(v13.length:Int)))=true then((eS ((v325.getD v327.toNat ((0:Int),((0:Int),((0:Int),(0:Int))))).1) ((v325.getD v327.toNat ((0:Int),((0:Int),((0:Int),(0:Int))))).2.1) ((v325.getD v327.toNat ((0:Int),((0:Int),((0:Int),(0:Int))))).2.2.1) ((v325.getD v327.toNat ((0:Int),((0:Int),((0:Int),(0:Int))))).2.2.2) v347).bind fun r502 =>
 (((if r502=true then(if 0≤v347∧v347<(v13.length:Int)then(if v347.toNat<v13.length then((cF v343 v344 v345 v346 ((v13.getD v347.toNat ((0:Int),((0:Int),((0:Int),(0:Int))))).1) ((v13.getD v347.toNat ((0:Int),((0:Int),((0:Int),(0:Int))))).2.1) ((v13.getD v347.toNat ((0:Int),((0:Int),((0:Int),(0:Int))))).2.2.1) ((v13.getD v347.toNat ((0:Int),((0:Int),((0:Int),(0:Int))))).2.2.2)).bind fun r506 =>
 some ((r506.1,r506.2.1,r506.2.2.1,r506.2.2.2)))else none)else none)
 else some ((v343,v344,v345,v346)))).bind fun(v352,v353,v354,v355)=>some (Sum.inl (v352,v353,v354,v355,(IntKind.i64.wrap (v347+(1:Int)))))))
 else some (Sum.inr (v343,v344,v345,v346)))
def gB(v15:List (Bool×(Int×Int×Int×Int)×Int×Int×Int×Int))(v325:List (Int×Int×Int×Int))(v327:Int):(Int×Int)→Option ((Int×Int)⊕(Int)):=fun(v362,v363) =>
 (if(decide (v363<(v15.length:Int)))=true then(if 0≤v363∧v363<(v15.length:Int)then(if v363.toNat<v15.length then(((if((v15.getD v363.toNat (false,(((0:Int),((0:Int),((0:Int),(0:Int)))),((0:Int),((0:Int),((0:Int),(0:Int))))))).1)=true then some (true)
 else((gK ((v325.getD v327.toNat ((0:Int),((0:Int),((0:Int),(0:Int))))).1) ((v325.getD v327.toNat ((0:Int),((0:Int),((0:Int),(0:Int))))).2.1) ((v325.getD v327.toNat ((0:Int),((0:Int),((0:Int),(0:Int))))).2.2.1) ((v325.getD v327.toNat ((0:Int),((0:Int),((0:Int),(0:Int))))).2.2.2) ((v15.getD v363.toNat (false,(((0:Int),((0:Int),((0:Int),(0:Int)))),((0:Int),((0:Int),((0:Int),(0:Int))))))).2.2.1) ((v15.getD v363.toNat (false,(((0:Int),((0:Int),((0:Int),(0:Int)))),((0:Int),((0:Int),((0:Int),(0:Int))))))).2.2.2.1) ((v15.getD v363.toNat (false,(((0:Int),((0:Int),((0:Int),(0:Int)))),((0:Int),((0:Int),((0:Int),(0:Int))))))).2.2.2.2.1) ((v15.getD v363.toNat (false,(((0:Int),((0:Int),((0:Int),(0:Int)))),((0:Int),((0:Int),((0:Int),(0:Int))))))).2.2.2.2.2)).bind fun r517 =>
 some (r517)))).bind fun v365=>(((if v365=true then(if 0≤v363 then some ((aI .or .u32 v362 (IntKind.u32.wrap ((1:Int)*2 ^ (min v363.toNat IntKind.u32.bits)))))else none)
 else some (v362))).bind fun v366=>some (Sum.inl (v366,(IntKind.i64.wrap (v363+(1:Int)))))))else none)else none)
 else some (Sum.inr v362))
def eK(v12:List Int)(v348 v349 v350 v351 v438:Int):(Int×Int×Int×Int×Int)→Option ((Int×Int×Int×Int×Int)⊕(Int×Int×Int×Int)):=fun(v457,v458,v459,v460,v461) =>
 (if(decide (v461<(v12.length:Int)))=true then(if 0≤v461∧v461<(v12.length:Int)then(if v461.toNat<v12.length then((((eS v348 v349 v350 v351 v461).bind fun r690 =>
 (if r690=true then(if 0≤v438 then some (((aI .and .u32 (Int.fdiv (v12.getD v461.toNat (0:Int)) (2 ^ (min v438.toNat IntKind.u32.bits))) (1:Int)) == (1:Int)))else none)
 else some (false)))).bind fun v466=>(((if v466=true then((dP v461 v457 v458 v459 v460).bind fun(r703,r704,r705,r706) =>
 some ((r703,r704,r705,r706)))
 else some ((v457,v458,v459,v460)))).bind fun(v467,v468,v469,v470)=>some (Sum.inl (v467,v468,v469,v470,(IntKind.i64.wrap (v461+(1:Int)))))))else none)else none)
 else some (Sum.inr (v457,v458,v459,v460)))
def eJ(i1:Int)(v12:List Int)(v348 v349 v350 v351:Int):((List (Int×Int×Int×Int))×(List ((Int×Int×Int×Int)×Int))×(List Int)×Int)→Option (((List (Int×Int×Int×Int))×(List ((Int×Int×Int×Int)×Int))×(List Int)×Int)⊕(((List (Int×Int×Int×Int))×(List ((Int×Int×Int×Int)×Int))×List Int)⊕(((List (List Int))×List Int)×Int))):=fun(v435,v436,v437,v438) =>
 (if(decide (v438<i1))=true then((iter (eK v12 v348 v349 v350 v351 v438) ((0:Int),(0:Int),(0:Int),(0:Int),(0:Int))).bind fun(v462,v463,v464,v465)=>(((if(!((bF Y9 v436 (v462,(v463,(v464,v465)))).isSome))=true then(if(decide ((v435.length:Int)≥(300:Int)))=true then some ((Sum.inr ((([]:List (List Int)),([]:List Int)),(27:Int))))
 else(if(v435.length+([(v462,(v463,(v464,v465)))]:List (Int×Int×Int×Int)).length)*32≤140737488355328∧v435.length+([(v462,(v463,(v464,v465)))]:List (Int×Int×Int×Int)).length≤9223372036854775807 then some ((Sum.inl ((v435++([(v462,(v463,(v464,v465)))]:List (Int×Int×Int×Int))),(eF Y9 v436 (v462,(v463,(v464,v465))) (v435.length:Int)),(v435.length:Int))))else none))
 else some ((Sum.inl (v435,v436,((bF Y9 v436 (v462,(v463,(v464,v465)))).getD (0:Int))))))).bind fun(r711:(((List (Int×Int×Int×Int))×(List ((Int×Int×Int×Int)×Int))×Int)⊕(((List (List Int))×List Int)×Int)))=>match r711 with
 | .inl (v471,v472,v473)=>(if 0≤v438∧v438<(v437.length:Int)then(if v438.toNat<v437.length then some (Sum.inl (v471,v472,(v437.set v438.toNat v473),(IntKind.i64.wrap (v438+(1:Int)))))else none)else none)
 | .inr ((r709,r710))=>some (Sum.inr (Sum.inr (r709,r710)))))
 else some (Sum.inr (Sum.inl (v435,v436,v437))))
def eI(i1:Int)(v12:List Int)(v13:List (Int×Int×Int×Int))(v15:List (Bool×(Int×Int×Int×Int)×Int×Int×Int×Int))(v26 v27 v28 v29:Int):((List (List Int))×(List Int)×(List (Int×Int×Int×Int))×(List ((Int×Int×Int×Int)×Int))×Int)→Option (((List (List Int))×(List Int)×(List (Int×Int×Int×Int))×(List ((Int×Int×Int×Int)×Int))×Int)⊕(((List (List Int))×List Int)⊕(((List (List Int))×List Int)×Int))):=fun(v323,v324,v325,v326,v327) =>
 (if(decide (v327<(v325.length:Int)))=true then(if 0≤v327∧v327<(v325.length:Int)then(if v327.toNat<v325.length then((iter (eR v13 v325 v327) (v26,v27,v28,v29,(0:Int))).bind fun(v348,v349,v350,v351)=>((iter (gB v15 v325 v327) ((0:Int),(0:Int))).bind fun v364=>(if 0≤i1∧i1≤i1∧(8:Int)*i1≤281474976710656∧i1≤9223372036854775807 then((iter (eJ i1 v12 v348 v349 v350 v351) (v325,v326,(List.replicate i1.toNat (0:Int)),(0:Int))).bind fun(r712:(((List (Int×Int×Int×Int))×(List ((Int×Int×Int×Int)×Int))×List Int)⊕(((List (List Int))×List Int)×Int)))=>match r712 with
 | .inl (v439,v440,v441)=>(if(v323.length+([v441]:List (List Int)).length)*24≤140737488355328∧v323.length+([v441]:List (List Int)).length≤9223372036854775807 then(if(v324.length+([v364]:List Int).length)*4≤140737488355328∧v324.length+([v364]:List Int).length≤9223372036854775807 then some (Sum.inl ((v323++([v441]:List (List Int))),(v324++([v364]:List Int)),v439,v440,(IntKind.i64.wrap (v327+(1:Int)))))else none)else none)
 | .inr ((r646,r647))=>some (Sum.inr (Sum.inr (r646,r647))))else none)))else none)else none)
 else some (Sum.inr (Sum.inl (v323,v324))))
def fD(d1:List Tree)(i1:Int):Option (((List (List Int))×List Int)×Int) :=
 (((if(decide (i1<(1:Int)))=true then some (true)
 else(if(decide (i1 > (24:Int)))=true then some (true)
 else some ((decide ((d1.length:Int) > (24:Int))))))).bind fun v1=>(if v1=true then some ((([]:List (List Int)),([]:List Int)),(2:Int))
 else((iter (fU d1) (([]:List Int),([]:List (Int×Int×Int×Int)),false,([]:List (Bool×(Int×Int×Int×Int)×Int×Int×Int×Int)),(0:Int))).bind fun(v12,v13,v14,v15)=>(if v14=true then some ((([]:List (List Int)),([]:List Int)),(26:Int))
 else((iter (fY v15) ((0:Int),(0:Int),(0:Int),(0:Int),(0:Int))).bind fun(v26,v27,v28,v29)=>((iter (eI i1 v12 v13 v15 v26 v27 v28 v29) (([]:List (List Int)),([]:List Int),([((0:Int),((0:Int),((0:Int),(0:Int))))]:List (Int×Int×Int×Int)),(eF Y9 ([]:List ((Int×Int×Int×Int)×Int)) ((0:Int),((0:Int),((0:Int),(0:Int)))) (0:Int)),(0:Int))).bind fun(r713:(((List (List Int))×List Int)⊕(((List (List Int))×List Int)×Int)))=>match r713 with
 | .inl (v328,v329)=>some ((v328,v329),(0:Int))
 | .inr ((r485,r486))=>some (r485,r486)))))))
theorem qD(β0:Bool){d1:List Tree}{i1:Int}{res:((List (List Int))×List Int)×Int}(h:fD d1 i1=some res):
  Pure Tryd.prog 34 [.p β0 (.slice (.tree .u8 .u32)) d1,.i64 i1] (bX (fL false [⟨Y6,res.1⟩,⟨(.int .i64),res.2⟩])):=by
 refine Pure.of_body bK Tryd.func34 (by kernel_rfl) rfl (nl rfl) (fun Bw w0=> ?_) rfl
 unfold fD at h
 refine G (aC (aC (fA h (fun v1=>aN [(0,.p β0 (.slice (.tree .u8 .u32)) d1),(1,.i64 i1),(4,.adr 0 0 2 0),(40,.bo v1)] [(0,.box [.nils,.nils])] 1) (fun v1 h=> ?_) (fun v1 h=> ?_))))
 ·rcases bY h with⟨hb5,h⟩ | ⟨hb5,h⟩
  ·refine gA ⟨[(2,true),(5,true)],[]⟩ [(3,5,oc hb5)] ?_
   exact eN h (gg [] [0])
  rcases bY h with⟨hb6,h⟩ | ⟨hb6,h⟩
  ·refine gA ⟨[(2,false),(5,false),(6,true),(10,true)],[]⟩ [(3,4,an hb5),(5,5,oc hb5),(7,10,oc hb6)] ?_
   exact eN h (gg [] [0])
  refine gA ⟨[(2,false),(5,false),(6,false),(10,false)],[]⟩ [(3,4,an hb5),(5,5,oc hb5),(7,9,an hb6),(10,10,oc hb6)] ?_
  exact eN h (gg [] [0])
 refine aA (aS h (fun hb7 h=> ?_) (fun hb7 h=> ?_))
 ·refine G (aV (aG ?_))
  obtain rfl:=sI h
  exact aK [Y6,(.int .i64)] (by kernel_rfl)
 refine aB (aA (G (G (aC (G (aF (hU h (fun(v7,v8,v9,v10,v11)=>aN [(1,.i64 i1),(4,.adr 0 0 2 0),(6,.adr 1 0 3 0),(7,.sl 4),(44,.p β0 (.slice (.tree .u8 .u32)) d1),(45,.i64 (d1.length:Int)),(46,.i64 v11)] (aDj v9 v7 v8 v10) 5) 0 (fun(v12,v13,v14,v15)=>aN [(1,.i64 i1),(4,.adr 0 0 2 0),(6,.adr 1 0 3 0),(7,.sl 4)] (aDj v14 v12 v13 v15) 5) (gg [.nilC 9 0 57 30 (.int .u32),.nilC 9 1 58 126 Y9,.nilS 7 59 128 yZ] [0,9,57,58,59]) (fun y o h=> ?_) (fun r25 h=> ?_))))))))
 ·obtain⟨v7,v8,v9,v10,v11⟩:=y
  unfold fU at h
  refine G (aC (aS h (fun hb10 h=> ?_) (fun hb10 h=> ?_)))
  ·refine aB (aA (aC (aF (GC 0 h (fun h=> ?_)))))
   obtain⟨⟨r21,r22,r23,r24⟩,q6,h⟩:=aD h
   obtain⟨c12,h⟩:=bB h
   have u_1:=(i5 1000 β0 q6)
   refine gA ⟨[],[(3,(oO u_1 [1,2,3]))]⟩ [(3,3,oc u_1),(5,5,oc c12)] (aM (aA (Ge ?_)))
   exact eB h (gg [] [0,1,69,70,85])
  refine aH (bM ?_)
  exact eX h (gg [] [0,1,2,3,4])
 obtain⟨v12,v13,v14,v15⟩:=r25
 refine aJ (aA (aC (G (aS h (fun hb11 h=> ?_) (fun hb11 h=> ?_)))))
 ·refine G (aV (aG ?_))
  obtain rfl:=sI h
  exact aK [Y6,(.int .i64)] (by kernel_rfl)
 refine aB (aA (G (aC (G (aF (hU h (fun(v21,v22,v23,v24,v25)=>aN [(1,.i64 i1),(4,.adr 0 0 2 0),(6,.adr 1 0 3 0),(7,.sl 4),(10,.adr 5 0 4 0),(62,.sl 4),(63,.i64 (v15.length:Int)),(64,.i64 v25)] (aDE v14 v12 v13 v15 v21 v22 v23 v24) 6) 2 (fun(v26,v27,v28,v29)=>aN [(1,.i64 i1),(4,.adr 0 0 2 0),(6,.adr 1 0 3 0),(7,.sl 4),(10,.adr 5 0 4 0)] (aDE v14 v12 v13 v15 v26 v27 v28 v29) 6) (gg [] [0,1,2,3,4,37]) (fun y o h=> ?_) (fun r32 h=> ?_)))))))
 ·obtain⟨v21,v22,v23,v24,v25⟩:=y
  unfold fY at h
  refine G (aC (aS h (fun hb14 h=> ?_) (fun hb14 h=> ?_)))
  ·refine aB (aA (aC (aF ?_)))
   obtain⟨c23,c24,h⟩:=g2 h
   refine GN a0 [(0,0,oc c23),(1,1,oc c24)] ?_
   obtain⟨r31,q12,h⟩:=aD h
   refine GPe 3 (b7 q12) (aM (aA (Ge ?_)))
   exact eB h (gg [] [0,1,2,3,4,5])
  refine aH (bM ?_)
  exact eX h (gg [] [0,1,2,3,4,5])
 obtain⟨v26,v27,v28,v29⟩:=r32
 refine aJ (aA (G (G (GN a0 [(0,0,oc yW),(2,2,oc yW)] (aC (G (aF (oH h (fun(v323,v324,v325,v326,v327)=>aN [(1,.i64 i1),(4,.adr 0 0 2 0),(6,.adr 1 0 3 0),(7,.sl 4),(10,.adr 5 0 4 0),(13,.adr 6 0 2 0),(14,.sl 9),(15,.mp 10),(16,.i64 v327)] (aDZ v14 v12 v13 v15 v26 v27 v28 v29 v323 v324 v325 v326) 11) (fS (gW Tryd.f34.ntmps 4 (fun(v328,v329)=>aN [(4,.adr 0 0 2 0),(13,.adr 1 0 2 0)] (aDm v328 v329) 4)) (nE tb Tryd.f34.results.toList (fun(r485,r486)=>[⟨Y6,r485⟩,⟨(.int .i64),r486⟩]))) (gg [.nilC 6 0 86 26 (.slice (.int .i64)),.nilC 6 1 87 30 (.int .u32)] [0,1,2,3,4,5,6,86,87,22,38]) (fun y o h=> ?_) (fun r713 h e σ' hq=> ?_)))))))))
 ·obtain⟨v323,v324,v325,v326,v327⟩:=y
  unfold eI at h
  refine aC (G (aS h (fun hb209 h=> ?_) (fun hb209 h=> ?_)))
  ·refine aB (aA (aC (aF ?_)))
   obtain⟨c317,c318,h⟩:=g2 h
   refine GN a0 [(2,2,oc c317),(3,3,oc c318)] (G (G (aC (G (aF ?_)))))
   refine hU h (fun(v343,v344,v345,v346,v347)=>aN [(1,.i64 i1),(4,.adr 0 0 2 0),(6,.adr 1 0 3 0),(7,.sl 4),(10,.adr 5 0 4 0),(13,.adr 6 0 2 0),(14,.sl 9),(15,.mp 10),(16,.i64 v327),(17,.adr 11 0 4 0),(18,.u32 (0:Int)),(19,.adr 12 0 4 0),(93,.i64 (v13.length:Int)),(94,.i64 v347)] (Q7 v14 v12 v13 v15 v26 v27 v28 v29 v323 v324 v325 v326 ((v325.getD v327.toNat ((0:Int),((0:Int),((0:Int),(0:Int))))).1) ((v325.getD v327.toNat ((0:Int),((0:Int),((0:Int),(0:Int))))).2.1) ((v325.getD v327.toNat ((0:Int),((0:Int),((0:Int),(0:Int))))).2.2.1) ((v325.getD v327.toNat ((0:Int),((0:Int),((0:Int),(0:Int))))).2.2.2) v343 v344 v345 v346) 13) 6 (fun(v348,v349,v350,v351)=>aN [(1,.i64 i1),(4,.adr 0 0 2 0),(6,.adr 1 0 3 0),(7,.sl 4),(10,.adr 5 0 4 0),(13,.adr 6 0 2 0),(14,.sl 9),(15,.mp 10),(16,.i64 v327),(17,.adr 11 0 4 0),(18,.u32 (0:Int)),(19,.adr 12 0 4 0)] (Q7 v14 v12 v13 v15 v26 v27 v28 v29 v323 v324 v325 v326 ((v325.getD v327.toNat ((0:Int),((0:Int),((0:Int),(0:Int))))).1) ((v325.getD v327.toNat ((0:Int),((0:Int),((0:Int),(0:Int))))).2.1) ((v325.getD v327.toNat ((0:Int),((0:Int),((0:Int),(0:Int))))).2.2.1) ((v325.getD v327.toNat ((0:Int),((0:Int),((0:Int),(0:Int))))).2.2.2) v348 v349 v350 v351) 13) (gg [] [0,1,2,3,4,5,6,7,8,9,10,75,107]) (fun y o h=> ?_) (fun r508 h=> ?_)
   ·obtain⟨v343,v344,v345,v346,v347⟩:=y
    unfold eR at h
    refine G (aC (aS h (fun hb216 h=> ?_) (fun hb216 h=> ?_)))
    ·refine aB (aA (aC (aF (G ?_))))
     obtain⟨r502,q206,h⟩:=aD h
     refine GP 2 (gI q206) (fA h (fun(v352,v353,v354,v355)=>aN [(1,.i64 i1),(4,.adr 0 0 2 0),(6,.adr 1 0 3 0),(7,.sl 4),(10,.adr 5 0 4 0),(13,.adr 6 0 2 0),(14,.sl 9),(15,.mp 10),(16,.i64 v327),(17,.adr 11 0 4 0),(18,.u32 (0:Int)),(19,.adr 12 0 4 0),(93,.i64 (v13.length:Int)),(94,.i64 v347)] (Q7 v14 v12 v13 v15 v26 v27 v28 v29 v323 v324 v325 v326 ((v325.getD v327.toNat ((0:Int),((0:Int),((0:Int),(0:Int))))).1) ((v325.getD v327.toNat ((0:Int),((0:Int),((0:Int),(0:Int))))).2.1) ((v325.getD v327.toNat ((0:Int),((0:Int),((0:Int),(0:Int))))).2.2.1) ((v325.getD v327.toNat ((0:Int),((0:Int),((0:Int),(0:Int))))).2.2.2) v352 v353 v354 v355) 13) (fun r507 h=> ?_) (fun r507 h=> ?_))
     ·refine aS h (fun hb218 h=> ?_) (fun hb218 h=> ?_)
      ·obtain⟨c341,c342,h⟩:=g2 h
       obtain⟨r506,q210,h⟩:=aD h
       have u_1:=(b7 q210)
       refine xB ⟨[],[(8,(oP u_1))]⟩ [(6,6,oc c341),(7,7,oc c342),(8,8,oc u_1)] ?_
       exact eN h (gg [] [0,1,2,3,4,5,6,7,8,9,10,11,12])
      refine aB ?_
      exact eN h (gg [] [0,1,2,3,4,5,6,7,8,9,10,11,12])
     obtain⟨v352,v353,v354,v355⟩:=r507
     refine aM (aA (Ge ?_))
     exact eB h (gg [] [0,1,2,3,4,5,6,7,8,9,10,11,12])
    refine aH (bM ?_)
    exact eX h (gg [] [0,1,2,3,4,5,6,7,8,9,10,11,12])
   obtain⟨v348,v349,v350,v351⟩:=r508
   refine aJ (aA (aC (G (aF ?_))))
   refine hU h (fun(v362,v363)=>aN [(1,.i64 i1),(4,.adr 0 0 2 0),(6,.adr 1 0 3 0),(7,.sl 4),(10,.adr 5 0 4 0),(13,.adr 6 0 2 0),(14,.sl 9),(15,.mp 10),(16,.i64 v327),(17,.adr 11 0 4 0),(18,.u32 v362),(19,.adr 12 0 4 0),(110,.sl 4),(111,.i64 (v15.length:Int)),(112,.i64 v363)] (Q7 v14 v12 v13 v15 v26 v27 v28 v29 v323 v324 v325 v326 ((v325.getD v327.toNat ((0:Int),((0:Int),((0:Int),(0:Int))))).1) ((v325.getD v327.toNat ((0:Int),((0:Int),((0:Int),(0:Int))))).2.1) ((v325.getD v327.toNat ((0:Int),((0:Int),((0:Int),(0:Int))))).2.2.1) ((v325.getD v327.toNat ((0:Int),((0:Int),((0:Int),(0:Int))))).2.2.2) v348 v349 v350 v351) 13) 8 (fun v364=>aN [(1,.i64 i1),(4,.adr 0 0 2 0),(6,.adr 1 0 3 0),(7,.sl 4),(10,.adr 5 0 4 0),(13,.adr 6 0 2 0),(14,.sl 9),(15,.mp 10),(16,.i64 v327),(18,.u32 v364),(19,.adr 11 0 4 0)] (aDX v14 v12 v13 v15 v26 v27 v28 v29 v323 v324 v325 v326 v348 v349 v350 v351) 12) (gg [] [0,1,2,3,4,5,6,7,8,9,10,11,12]) (fun y o h=> ?_) (fun v364 h=> ?_)
   ·obtain⟨v362,v363⟩:=y
    unfold gB at h
    refine G (aC (aS h (fun hb231 h=> ?_) (fun hb231 h=> ?_)))
    ·refine aB (aA (aC (aF ?_)))
     obtain⟨c361,c362,h⟩:=g2 h
     refine GN a0 [(1,1,oc c361),(2,2,oc c362)] (aC (fA h (fun v365=>aN [(1,.i64 i1),(4,.adr 0 0 2 0),(6,.adr 1 0 3 0),(7,.sl 4),(10,.adr 5 0 4 0),(13,.adr 6 0 2 0),(14,.sl 9),(15,.mp 10),(16,.i64 v327),(17,.adr 11 0 4 0),(18,.u32 v362),(19,.adr 12 0 4 0),(21,.i64 v363),(110,.sl 4),(111,.i64 (v15.length:Int)),(112,.i64 v363),(124,.bo v365)] (Q7 v14 v12 v13 v15 v26 v27 v28 v29 v323 v324 v325 v326 ((v325.getD v327.toNat ((0:Int),((0:Int),((0:Int),(0:Int))))).1) ((v325.getD v327.toNat ((0:Int),((0:Int),((0:Int),(0:Int))))).2.1) ((v325.getD v327.toNat ((0:Int),((0:Int),((0:Int),(0:Int))))).2.2.1) ((v325.getD v327.toNat ((0:Int),((0:Int),((0:Int),(0:Int))))).2.2.2) v348 v349 v350 v351) 13) (fun v365 h=> ?_) (fun v365 h=> ?_)))
     ·rcases bY h with⟨hb234,h⟩ | ⟨hb234,h⟩
      ·refine gA ⟨[(2,true),(7,true)],[]⟩ [(3,7,oc hb234)] ?_
       exact eN h (gg [] [0,1,2,3,4,5,6,7,8,9,10,11,12])
      obtain⟨r517,q219,h⟩:=aD h
      have u_1:=(xE q219)
      refine gA ⟨[(2,false),(7,false)],[(6,(oP u_1))]⟩ [(3,5,an hb234),(6,6,oc (And.intro hb234 u_1)),(7,7,oc hb234)] ?_
      exact eN h (gg [] [0,1,2,3,4,5,6,7,8,9,10,11,12])
     refine aA (fA h (fun v366=>aN [(1,.i64 i1),(4,.adr 0 0 2 0),(6,.adr 1 0 3 0),(7,.sl 4),(10,.adr 5 0 4 0),(13,.adr 6 0 2 0),(14,.sl 9),(15,.mp 10),(16,.i64 v327),(17,.adr 11 0 4 0),(18,.u32 v366),(19,.adr 12 0 4 0),(110,.sl 4),(111,.i64 (v15.length:Int)),(112,.i64 v363)] (Q7 v14 v12 v13 v15 v26 v27 v28 v29 v323 v324 v325 v326 ((v325.getD v327.toNat ((0:Int),((0:Int),((0:Int),(0:Int))))).1) ((v325.getD v327.toNat ((0:Int),((0:Int),((0:Int),(0:Int))))).2.1) ((v325.getD v327.toNat ((0:Int),((0:Int),((0:Int),(0:Int))))).2.2.1) ((v325.getD v327.toNat ((0:Int),((0:Int),((0:Int),(0:Int))))).2.2.2) v348 v349 v350 v351) 13) (fun v366 h=> ?_) (fun v366 h=> ?_))
     ·refine aS h (fun hb236 h=> ?_) (fun hb236 h=> ?_)
      ·refine GCe 2 h (fun h=> ?_)
       exact eN h (gg [] [0,1,2,3,4,5,6,7,8,9,10,11,12])
      refine aB ?_
      exact eN h (gg [] [0,1,2,3,4,5,6,7,8,9,10,11,12])
     refine aM (aA (Ge ?_))
     exact eB h (gg [] [0,1,2,3,4,5,6,7,8,9,10,11,12])
    refine aH (bM ?_)
    exact eX h (gg [] [0,1,2,3,4,5,6,7,8,9,10,12])
   refine aJ (aA (GC 1 h (fun h=>aC (G (aF ?_)))))
   refine oH h (fun(v435,v436,v437,v438)=>aN [(1,.i64 i1),(4,.adr 0 0 2 0),(6,.adr 1 0 3 0),(7,.sl 4),(10,.adr 5 0 4 0),(13,.adr 6 0 2 0),(14,.sl 9),(15,.mp 10),(16,.i64 v327),(18,.u32 v364),(19,.adr 11 0 4 0),(23,.sl 12),(132,.i64 i1),(133,.i64 v438)] (aDv v14 v12 v13 v15 v26 v27 v28 v29 v323 v324 v435 v436 v348 v349 v350 v351 v437) 13) (fS (gW Tryd.f34.ntmps 10 (fun(v439,v440,v441)=>aN [(1,.i64 i1),(4,.adr 0 0 2 0),(6,.adr 1 0 3 0),(7,.sl 4),(10,.adr 5 0 4 0),(13,.adr 6 0 2 0),(14,.sl 9),(15,.mp 10),(16,.i64 v327),(18,.u32 v364),(23,.sl 11)] (aD3 v14 v12 v13 v15 v26 v27 v28 v29 v323 v324 v439 v440 v441) 12)) (nE tb Tryd.f34.results.toList (fun(r646,r647)=>[⟨Y6,r646⟩,⟨(.int .i64),r647⟩]))) (gg [] [0,1,2,3,4,5,6,7,8,9,10,11,20]) (fun y o h=> ?_) (fun r712 h e σ' hq=> ?_)
   ·obtain⟨v435,v436,v437,v438⟩:=y
    unfold eJ at h
    refine G (aC (aS h (fun hb283 h=> ?_) (fun hb283 h=> ?_)))
    ·refine aB (aA (aC (aF (G (G (aC (G (aF ?_))))))))
     refine hU h (fun(v457,v458,v459,v460,v461)=>aN [(1,.i64 i1),(4,.adr 0 0 2 0),(6,.adr 1 0 3 0),(7,.sl 4),(10,.adr 5 0 4 0),(13,.adr 6 0 2 0),(14,.sl 9),(15,.mp 10),(16,.i64 v327),(18,.u32 v364),(19,.adr 11 0 4 0),(23,.sl 12),(24,.i64 v438),(25,.adr 13 0 4 0),(132,.i64 i1),(133,.i64 v438),(139,.sl 2),(140,.i64 (v12.length:Int)),(141,.i64 v461)] (aBn v14 v12 v13 v15 v26 v27 v28 v29 v323 v324 v435 v436 v348 v349 v350 v351 v437 v457 v458 v459 v460) 14) 12 (fun(v462,v463,v464,v465)=>aN [(1,.i64 i1),(4,.adr 0 0 2 0),(6,.adr 1 0 3 0),(7,.sl 4),(10,.adr 5 0 4 0),(13,.adr 6 0 2 0),(14,.sl 9),(15,.mp 10),(16,.i64 v327),(18,.u32 v364),(19,.adr 11 0 4 0),(23,.sl 12),(24,.i64 v438),(25,.adr 13 0 4 0),(132,.i64 i1),(133,.i64 v438)] (aBn v14 v12 v13 v15 v26 v27 v28 v29 v323 v324 v435 v436 v348 v349 v350 v351 v437 v462 v463 v464 v465) 14) (gg [] [0,1,2,3,4,5,6,7,8,9,10,11,12,37]) (fun y o h=> ?_) (fun r708 h=> ?_)
     ·obtain⟨v457,v458,v459,v460,v461⟩:=y
      unfold eK at h
      refine G (aC (aS h (fun hb296 h=> ?_) (fun hb296 h=> ?_)))
      ·refine aB (aA (aC (aF ?_)))
       obtain⟨c443,c444,h⟩:=g2 h
       refine GN a0 [(1,1,oc c443),(2,2,oc c444)] (aC (fA h (fun v466=>aN [(1,.i64 i1),(4,.adr 0 0 2 0),(6,.adr 1 0 3 0),(7,.sl 4),(10,.adr 5 0 4 0),(13,.adr 6 0 2 0),(14,.sl 9),(15,.mp 10),(16,.i64 v327),(18,.u32 v364),(19,.adr 11 0 4 0),(23,.sl 12),(24,.i64 v438),(25,.adr 13 0 4 0),(26,.i64 v461),(132,.i64 i1),(133,.i64 v438),(139,.sl 2),(140,.i64 (v12.length:Int)),(141,.i64 v461),(155,.bo v466)] (aBn v14 v12 v13 v15 v26 v27 v28 v29 v323 v324 v435 v436 v348 v349 v350 v351 v437 v457 v458 v459 v460) 14) (fun v466 h=> ?_) (fun v466 h=> ?_)))
       ·obtain⟨r690,q278,h⟩:=aD h
        rcases bY h with⟨hb299,h⟩ | ⟨hb299,h⟩
        ·obtain⟨c447,h⟩:=bB h
         have u_1:=(gI q278)
         refine gA ⟨[(3,true),(9,true)],[(2,(oP u_1))]⟩ [(2,2,oc u_1),(4,5,an hb299),(6,6,oc (And.intro hb299 c447)),(7,8,an hb299),(9,9,oc hb299)] ?_
         exact eN h (gg [] [0,1,2,3,4,5,6,7,8,9,10,11,12,13])
        have u_1:=(gI q278)
        refine gA ⟨[(3,false),(9,false)],[(2,(oP u_1))]⟩ [(2,2,oc u_1),(4,9,oc hb299)] ?_
        exact eN h (gg [] [0,1,2,3,4,5,6,7,8,9,10,11,12,13])
       refine aA (fA h (fun(v467,v468,v469,v470)=>aN [(1,.i64 i1),(4,.adr 0 0 2 0),(6,.adr 1 0 3 0),(7,.sl 4),(10,.adr 5 0 4 0),(13,.adr 6 0 2 0),(14,.sl 9),(15,.mp 10),(16,.i64 v327),(18,.u32 v364),(19,.adr 11 0 4 0),(23,.sl 12),(24,.i64 v438),(25,.adr 13 0 4 0),(132,.i64 i1),(133,.i64 v438),(139,.sl 2),(140,.i64 (v12.length:Int)),(141,.i64 v461)] (aBn v14 v12 v13 v15 v26 v27 v28 v29 v323 v324 v435 v436 v348 v349 v350 v351 v437 v467 v468 v469 v470) 14) (fun r707 h=> ?_) (fun r707 h=> ?_))
       ·refine aS h (fun hb301 h=> ?_) (fun hb301 h=> ?_)
        ·obtain⟨⟨r703,r704,r705,r706⟩,q282,h⟩:=aD h
         refine lA 1 [13] (pJ q282) ?_
         exact eN h (gg [] [0,1,2,3,4,5,6,7,8,9,10,11,12,13])
        refine aB ?_
        exact eN h (gg [] [0,1,2,3,4,5,6,7,8,9,10,11,12,13])
       obtain⟨v467,v468,v469,v470⟩:=r707
       refine aM (aA (Ge ?_))
       exact eB h (gg [] [0,1,2,3,4,5,6,7,8,9,10,11,12,13])
      refine aH (bM ?_)
      exact eX h (gg [] [0,1,2,3,4,5,6,7,8,9,10,11,12,13])
     obtain⟨v462,v463,v464,v465⟩:=r708
     refine aJ (aA (GN a0 [(2,2,oc yW)] (aC (G (aCj h (fS (tG Tryd.f34.ntmps (fun(v471,v472,v473)=>aN [(1,.i64 i1),(4,.adr 0 0 2 0),(6,.adr 1 0 3 0),(7,.sl 4),(10,.adr 5 0 4 0),(13,.adr 6 0 2 0),(14,.sl 9),(15,.mp 10),(16,.i64 v327),(18,.u32 v364),(19,.adr 11 0 4 0),(23,.sl 12),(24,.i64 v438),(28,.i64 v473),(132,.i64 i1),(133,.i64 v438)] (aDv v14 v12 v13 v15 v26 v27 v28 v29 v323 v324 v471 v472 v348 v349 v350 v351 v437) 13)) (nE tb Tryd.f34.results.toList (fun(r709,r710)=>[⟨Y6,r709⟩,⟨(.int .i64),r710⟩]))) (fun r711 h=> ?_) (fun r711 h e σ' hq=> ?_))))))
     ·refine aS h (fun hb304 h=> ?_) (fun hb304 h=> ?_)
      ·refine aC (G (G (aS h (fun hb305 h=> ?_) (fun hb305 h=> ?_))))
       ·refine G (aV ?_)
        obtain rfl:=sI h
        refine aG (aR ?_)
        exact gH (aK [Y6,(.int .i64)] (by kernel_rfl))
       refine aB (aA (GN a0 [(3,3,oc yW)] (GCe 3 h (fun h=> ?_))))
       obtain rfl:=sI h
       refine b5 ?_
       exact gZ (gg [] [0,1,2,3,4,5,6,7,8,190,10,11,12])
      refine aB ?_
      obtain rfl:=sI h
      refine b5 ?_
      exact gZ (gg [] [0,1,2,3,4,5,6,7,8,9,10,11,12])
     rcases r711 with⟨v471,v472,v473⟩ | ⟨r709,r710⟩
     ·obtain⟨rfl,hle⟩:=hq
      refine fG ?_ hle
      refine aA ?_
      obtain⟨c454,c455,h⟩:=g2 h
      refine gA a0 [(3,3,oc c454),(4,4,oc c455)] (aM (aA (Ge ?_)))
      exact eB h (gg [] [0,1,2,3,4,5,6,7,8,9,10,11,12])
     obtain⟨rfl,hr⟩:=hq
     obtain rfl:=sI h
     refine aG (aT (aG (d9 (aR ?_))))
     exact gH hr
    refine aH (bM ?_)
    obtain rfl:=sI h
    refine gE (b5 ?_)
    exact dB (gg [] [0,1,2,3,4,5,6,7,8,9,10,12])
   rcases r712 with⟨v439,v440,v441⟩ | ⟨r646,r647⟩
   ·obtain⟨rfl,hle⟩:=hq
    refine fG ?_ hle
    refine aJ (aA ?_)
    obtain⟨c458,c459,h⟩:=g2 h
    refine xB a0 [(4,4,oc c458),(9,9,oc c459)] (aM (aA (Ge ?_)))
    exact eB h (gg [] [0,1,2,3,4,5,6,44,84,9,10])
   obtain⟨rfl,hr⟩:=hq
   obtain rfl:=sI h
   refine aT (aG (aT (aG (d9 (aR ?_)))))
   exact gH hr
  refine aH (bM ?_)
  obtain rfl:=sI h
  refine gE (b5 ?_)
  exact dB (gg [] [0,6,7,8])
 rcases r713 with⟨v328,v329⟩ | ⟨r485,r486⟩
 ·obtain⟨rfl,hle⟩:=hq
  refine fG ?_ hle
  refine aJ (aA (G (aV ?_)))
  obtain rfl:=sI h
  exact aK [Y6,(.int .i64)] (by kernel_rfl)
 obtain⟨rfl,hr⟩:=hq
 refine aT (aG ?_)
 obtain rfl:=sI h
 exact hr
def eE(a1:List (List Int))(v13:Int):(Int)→Option ((Int)⊕((Unit)⊕(Bool))):=fun v17 =>
 (if(decide (v17<((a1.getD v13.toNat ([]:List Int)).length:Int)))=true then(if 0≤v17∧v17<((a1.getD v13.toNat ([]:List Int)).length:Int)then(((if(decide (((a1.getD v13.toNat ([]:List Int)).getD v17.toNat (0:Int))<(0:Int)))=true then some (true)
 else some ((decide (((a1.getD v13.toNat ([]:List Int)).getD v17.toNat (0:Int))≥(a1.length:Int)))))).bind fun v18=>(if v18=true then some (Sum.inr (Sum.inr false))
 else some (Sum.inl (IntKind.i64.wrap (v17+(1:Int))))))else none)
 else some (Sum.inr (Sum.inl ())))
def dZ(a1:List (List Int)):(Int)→Option ((Int)⊕((Unit)⊕(Bool))):=fun v13 =>
 (if(decide (v13<(a1.length:Int)))=true then(if 0≤v13∧v13<(a1.length:Int)then(if 0≤(0:Int)∧(0:Int)<(a1.length:Int)then(if(((a1.getD v13.toNat ([]:List Int)).length:Int) != ((a1.getD ((0:Int).toNat) ([]:List Int)).length:Int))=true then some (Sum.inr (Sum.inr false))
 else((iter (eE a1 v13) (0:Int)).bind fun(r7:((Unit)⊕(Bool)))=>match r7 with
 | .inl _=>some (Sum.inl (IntKind.i64.wrap (v13+(1:Int))))
 | .inr (r6)=>some (Sum.inr (Sum.inr r6))))else none)else none)
 else some (Sum.inr (Sum.inl ())))
def iO(a1:List (List Int))(a2:List Int):Option (Bool) :=
 (((if((a1.length:Int) == (0:Int))=true then some (true)
 else some (((a1.length:Int) != (a2.length:Int))))).bind fun v1=>(if v1=true then some false
 else((iter (dZ a1) (0:Int)).bind fun(r8:((Unit)⊕(Bool)))=>match r8 with
 | .inl _=>some true
 | .inr (r5)=>some r5)))
theorem vT(β0 β1:Bool){a1:List (List Int)}{a2:List Int}{res:Bool}(h:iO a1 a2=some res):
  Pure Tryd.prog 61 [.agg [.p β0 (.slice (.slice (.int .i64))) a1,.p β1 (.slice (.int .u32)) a2]] (bX (fL false [⟨.bool,res⟩])):=by
 refine Pure.of_body bK Tryd.func61 (by kernel_rfl) rfl (nl rfl) (fun Bw w0=> ?_) rfl
 unfold iO at h
 refine G (aC (aC (fA h (fun v1=>aN [(1,.adr 0 0 2 0),(19,.bo v1)] (U5 β0 a1 β1 a2) 1) (fun v1 h=> ?_) (fun v1 h=> ?_))))
 ·rcases bY h with⟨hb3,h⟩ | ⟨hb3,h⟩
  ·refine gA ⟨[(4,true),(12,true)],[]⟩ [(5,12,oc hb3)] ?_
   exact eN h (gg [] [0])
  refine gA ⟨[(4,false),(12,false)],[]⟩ [(5,11,an hb3),(12,12,oc hb3)] ?_
  exact eN h (gg [] [0])
 refine aA (aS h (fun hb4 h=> ?_) (fun hb4 h=> ?_))
 ·refine G (aV (aG ?_))
  obtain rfl:=sI h
  exact aK [.bool] (by kernel_rfl)
 refine aB (aA (aC (G (aF (oH h (fun v13=>aN [(1,.adr 0 0 2 0),(21,.p β0 (.slice (.slice (.int .i64))) a1),(22,.i64 (a1.length:Int)),(23,.i64 v13)] (U5 β0 a1 β1 a2) 1) (fS (gW Tryd.f61.ntmps 0 (fun _=>aN [] [] 0)) (nE tb Tryd.f61.results.toList (fun r5=>[⟨.bool,r5⟩]))) (gg [] [0]) (fun v13 o h=> ?_) (fun r8 h e σ' hq=> ?_))))))
 ·unfold dZ at h
  refine G (aC (aS h (fun hb39 h=> ?_) (fun hb39 h=> ?_)))
  ·refine aB (aA (aC (aF (GC 0 h (fun h=>aC (GC 4 h (fun h=>aS h (fun hb40 h=> ?_) (fun hb40 h=> ?_))))))))
   ·refine G (aV ?_)
    obtain rfl:=sI h
    refine aG (aT (aG (d9 (aR ?_))))
    exact gH (aK [.bool] (by kernel_rfl))
   refine aB (aA (G (aF (oH h (fun v17=>aN [(1,.adr 0 0 2 0),(21,.p β0 (.slice (.slice (.int .i64))) a1),(22,.i64 (a1.length:Int)),(23,.i64 v13),(35,.p β0 (.slice (.int .i64)) (a1.getD v13.toNat ([]:List Int))),(36,.i64 ((a1.getD v13.toNat ([]:List Int)).length:Int)),(37,.i64 v17)] (U5 β0 a1 β1 a2) 1) (fS (gW Tryd.f61.ntmps 2 (fun _=>aN [(1,.adr 0 0 2 0),(21,.p β0 (.slice (.slice (.int .i64))) a1),(22,.i64 (a1.length:Int)),(23,.i64 v13)] (U5 β0 a1 β1 a2) 1)) (nE tb Tryd.f61.results.toList (fun r6=>[⟨.bool,r6⟩]))) (gg [] [0]) (fun v17 o h=> ?_) (fun r7 h e σ' hq=> ?_)))))
   ·unfold eE at h
    refine G (aC (aS h (fun hb51 h=> ?_) (fun hb51 h=> ?_)))
    ·refine aB (aA (aC (aF (GC 0 h (fun h=>aC (fA h (fun v18=>aN [(1,.adr 0 0 2 0),(21,.p β0 (.slice (.slice (.int .i64))) a1),(22,.i64 (a1.length:Int)),(23,.i64 v13),(35,.p β0 (.slice (.int .i64)) (a1.getD v13.toNat ([]:List Int))),(36,.i64 ((a1.getD v13.toNat ([]:List Int)).length:Int)),(37,.i64 v17),(49,.bo v18)] (U5 β0 a1 β1 a2) 1) (fun v18 h=> ?_) (fun v18 h=> ?_)))))))
     ·rcases bY h with⟨hb54,h⟩ | ⟨hb54,h⟩
      ·refine gA ⟨[(2,true),(8,true)],[]⟩ [(3,8,oc hb54)] ?_
       exact eN h (gg [] [0])
      refine gA ⟨[(2,false),(8,false)],[]⟩ [(3,7,an hb54),(8,8,oc hb54)] ?_
      exact eN h (gg [] [0])
     refine aA (aS h (fun hb55 h=> ?_) (fun hb55 h=> ?_))
     ·refine G (aV ?_)
      obtain rfl:=sI h
      refine aT (aG (d9 (aR ?_)))
      exact gH (aK [.bool] (by kernel_rfl))
     refine aB (aM (aA (Ge ?_)))
     exact eB h (gg [] [0])
    refine aH (bM ?_)
    obtain rfl:=sI h
    refine gE (b5 ?_)
    exact dB (gg [] [0])
   rcases r7 with _ | r6
   ·obtain⟨rfl,hle⟩:=hq
    refine fG ?_ hle
    refine aJ (aM (aA (Ge ?_)))
    exact eB h (gg [] [0])
   obtain⟨rfl,hr⟩:=hq
   obtain rfl:=sI h
   refine aT (aT (aG (d9 (aR ?_))))
   exact gH hr
  refine aH (bM ?_)
  obtain rfl:=sI h
  refine gE (b5 ?_)
  exact dB (gg [] [])
 rcases r8 with _ | r5
 ·obtain⟨rfl,hle⟩:=hq
  refine fG ?_ hle
  refine aJ (aA (G (aV ?_)))
  obtain rfl:=sI h
  exact aK [.bool] (by kernel_rfl)
 obtain⟨rfl,hr⟩:=hq
 refine aT (aG ?_)
 obtain rfl:=sI h
 exact hr
def cV(s1:Int)(x1:List (List Int))(x2 oF:List Int):Option (List Int) :=
 (if 0≤s1∧s1<(x2.length:Int)then(if(oF.length+([(IntKind.i64.wrap (x2.getD s1.toNat (0:Int)))]:List Int).length)*8≤140737488355328∧oF.length+([(IntKind.i64.wrap (x2.getD s1.toNat (0:Int)))]:List Int).length≤9223372036854775807 then some (oF++([(IntKind.i64.wrap (x2.getD s1.toNat (0:Int)))]:List Int))else none)else none)
theorem o9(β1 β2:Bool){s1:Int}{x1:List (List Int)}{x2:List Int}{oF:List Int}{res:List Int}(h:cV s1 x1 x2 oF=some res):
  Owns Tryd.prog 63 [.i64 s1,.sl 0,.fad true [.p β1 (.slice (.slice (.int .i64))) x1,.p β2 (.slice (.int .u32)) x2] 0] [(0,.arr 3 (.int .i64) oF)] (.sl 1) [(1,.arr 3 (.int .i64) res)]:=by
 refine Owns.of_body bK Tryd.func63 (by kernel_rfl) rfl (nl rfl) (fun Bw w0=> ?_)
 unfold cV at h
 refine G ?_
 obtain⟨c7,c8,h⟩:=g2 h
 refine GN a0 [(4,4,oc c7),(8,8,oc c8)] (aV ?_)
 obtain rfl:=sI h
 exact aO [none] [] [0,73] [(5,.sl 1)] [(1,.arr 3 (.int .i64) (oF++([(IntKind.i64.wrap (x2.getD s1.toNat (0:Int)))]:List Int)))] 2 1 (by kernel_rfl) (by kernel_rfl) (by kernel_rfl)
def dM(r8:List Int):((List Int)×Int)→Option (((List Int)×Int)⊕(List Int)):=fun(v26,v27) =>
 (if(decide (v27<(r8.length:Int)))=true then(if 0≤v27∧v27<(r8.length:Int)then(if v27.toNat<r8.length then(if 0≤(8:Int)then(if 0≤(16:Int)then(if 0≤(24:Int)then(if(v26.length+([(IntKind.u8.wrap (r8.getD v27.toNat (0:Int))),(IntKind.u8.wrap (Int.fdiv (r8.getD v27.toNat (0:Int)) (2 ^ (min (8:Int).toNat IntKind.i64.bits)))),(IntKind.u8.wrap (Int.fdiv (r8.getD v27.toNat (0:Int)) (2 ^ (min (16:Int).toNat IntKind.i64.bits)))),(IntKind.u8.wrap (Int.fdiv (r8.getD v27.toNat (0:Int)) (2 ^ (min (24:Int).toNat IntKind.i64.bits))))]:List Int).length)*1≤140737488355328∧v26.length+([(IntKind.u8.wrap (r8.getD v27.toNat (0:Int))),(IntKind.u8.wrap (Int.fdiv (r8.getD v27.toNat (0:Int)) (2 ^ (min (8:Int).toNat IntKind.i64.bits)))),(IntKind.u8.wrap (Int.fdiv (r8.getD v27.toNat (0:Int)) (2 ^ (min (16:Int).toNat IntKind.i64.bits)))),(IntKind.u8.wrap (Int.fdiv (r8.getD v27.toNat (0:Int)) (2 ^ (min (24:Int).toNat IntKind.i64.bits))))]:List Int).length≤9223372036854775807 then some (Sum.inl ((v26++([(IntKind.u8.wrap (r8.getD v27.toNat (0:Int))),(IntKind.u8.wrap (Int.fdiv (r8.getD v27.toNat (0:Int)) (2 ^ (min (8:Int).toNat IntKind.i64.bits)))),(IntKind.u8.wrap (Int.fdiv (r8.getD v27.toNat (0:Int)) (2 ^ (min (16:Int).toNat IntKind.i64.bits)))),(IntKind.u8.wrap (Int.fdiv (r8.getD v27.toNat (0:Int)) (2 ^ (min (24:Int).toNat IntKind.i64.bits))))]:List Int)),(IntKind.i64.wrap (v27+(1:Int)))))else none)else none)else none)else none)else none)else none)
 else some (Sum.inr v26))
def jX(d1:Int)(i1:List (List Int))(i2:List Int):((List ((List UInt8)×Int))×(List Int)×(List Int)×Int)→Option (((List ((List UInt8)×Int))×(List Int)×(List Int)×Int)⊕(List Int)):=fun(v19,v20,v21,v22) =>
 (if(decide (v22<d1))=true then(if 0≤(0:Int)∧(0:Int)≤(v21.length:Int)then((cV v22 i1 i2 (v21.take (0:Int).toNat)).bind fun r8 =>
 ((iter (dM r8) (([]:List Int),(0:Int))).bind fun v28=>(((if(!((bF .str v19 (bQ v28)).isSome))=true then some (((eF .str v19 (bQ v28) (v19.length:Int)),(v19.length:Int)))
 else some ((v19,((bF .str v19 (bQ v28)).getD (0:Int)))))).bind fun(v29,v30)=>(if 0≤v22∧v22<(v20.length:Int)then(if v22.toNat<v20.length then some (Sum.inl (v29,(v20.set v22.toNat v30),r8,(IntKind.i64.wrap (v22+(1:Int)))))else none)else none))))else none)
 else some (Sum.inr v20))
def fM(d1:Int)(i1:List (List Int))(i2:List Int):Option (List Int) :=
 (if 0≤d1∧d1≤d1∧(8:Int)*d1≤281474976710656∧d1≤9223372036854775807 then((iter (jX d1 i1 i2) (([]:List ((List UInt8)×Int)),(List.replicate d1.toNat (0:Int)),([]:List Int),(0:Int))).bind fun v23=>some v23)else none)
theorem wY(β1 β2:Bool){d1:Int}{i1:List (List Int)}{i2:List Int}{res:List Int}(h:fM d1 i1 i2=some res):
  Pure Tryd.prog 62 [.i64 d1,.fn 63 [.fad true [.p β1 (.slice (.slice (.int .i64))) i1,.p β2 (.slice (.int .u32)) i2] 0]] (bX (fL false [⟨(.slice (.int .i64)),res⟩])):=by
 refine Pure.of_body bK Tryd.func62 (by kernel_rfl) rfl (nl rfl) (fun Bw w0=> ?_) rfl
 unfold fM at h
 refine G (G (GC 1 h (fun h=>G (aC (G (aF (hU h (fun(v19,v20,v21,v22)=>aN [(1,.fn 63 [.fad true [.p β1 (.slice (.slice (.int .i64))) i1,.p β2 (.slice (.int .u32)) i2] 0]),(5,.mp 0),(6,.sl 1),(7,.sl 2),(17,.i64 d1),(18,.i64 v22)] (aA5 v19 v20 v21) 3) 0 (fun v23=>aN [(6,.sl 0)] [(0,.arr 3 (.int .i64) v23)] 1) (gg [.nilS 7 72 3 (.int .i64)] [8,32,72]) (fun y o h=> ?_) (fun v23 h=> ?_))))))))
 ·obtain⟨v19,v20,v21,v22⟩:=y
  unfold jX at h
  refine G (aC (aS h (fun hb13 h=> ?_) (fun hb13 h=> ?_)))
  ·refine aB (aA (aC (aF (G ?_))))
   obtain⟨c88,h⟩:=bB h
   obtain⟨r8,q6,h⟩:=aD h
   have u_1:=(o9 β1 β2 q6)
   refine GN ⟨[],[(4,(oO u_1 [51]))]⟩ [(3,3,oc c88),(4,4,oc u_1)] (G (aC (G (aF (hU h (fun(v26,v27)=>aN [(1,.fn 63 [.fad true [.p β1 (.slice (.slice (.int .i64))) i1,.p β2 (.slice (.int .u32)) i2] 0]),(5,.mp 0),(6,.sl 1),(7,.sl 2),(8,.i64 v22),(9,.sl 3),(17,.i64 d1),(18,.i64 v22),(26,.sl 2),(27,.i64 (r8.length:Int)),(28,.i64 v27)] (aBb v19 v20 r8 v26) 4) 2 (fun v28=>aN [(1,.fn 63 [.fad true [.p β1 (.slice (.slice (.int .i64))) i1,.p β2 (.slice (.int .u32)) i2] 0]),(5,.mp 0),(6,.sl 1),(7,.sl 2),(8,.i64 v22),(9,.sl 3),(17,.i64 d1),(18,.i64 v22)] (aBb v19 v20 r8 v28) 4) (gg [.nilS 9 107 5 (.int .u8)] [0,1,59,107]) (fun y o h=> ?_) (fun v28 h=> ?_))))))
   ·obtain⟨v26,v27⟩:=y
    unfold dM at h
    refine G (aC (aS h (fun hb16 h=> ?_) (fun hb16 h=> ?_)))
    ·refine aB (aA (aC (aF ?_)))
     obtain⟨c115,c116,h⟩:=g2 h
     refine GN a0 [(0,0,oc c115),(1,1,oc c116)] ?_
     obtain⟨c121,c122,c123,c124,h⟩:=g4 h
     refine gA a0 [(4,4,oc c121),(7,7,oc c122),(10,10,oc c123),(13,13,oc c124)] (aM (aA (Ge ?_)))
     exact eB h (gg [] [0,1,2,140])
    refine aH (bM ?_)
    exact eX h (gg [] [0,1,2,3])
   refine aJ (aA (G (aC (G (fA h (fun(v29,v30)=>aN [(1,.fn 63 [.fad true [.p β1 (.slice (.slice (.int .i64))) i1,.p β2 (.slice (.int .u32)) i2] 0]),(5,.mp 0),(6,.sl 1),(7,.sl 2),(8,.i64 v22),(12,.i64 v30),(17,.i64 d1),(18,.i64 v22)] (aA5 v29 v20 r8) 3) (fun r9 h=> ?_) (fun r9 h=> ?_))))))
   ·refine aS h (fun hb18 h=> ?_) (fun hb18 h=> ?_)
    ·refine G (Ge ?_)
     exact eN h (gg [] [0,1,2])
    refine aB ?_
    exact eN h (gg [] [0,1,2])
   obtain⟨v29,v30⟩:=r9
   refine aA ?_
   obtain⟨c127,c128,h⟩:=g2 h
   refine gA a0 [(3,3,oc c127),(4,4,oc c128)] (aM (aA (Ge ?_)))
   exact eB h (gg [] [0,1,2])
  refine aH (bM ?_)
  exact eX h (gg [] [1])
 refine aJ (aA (G (aV ?_)))
 obtain rfl:=sI h
 exact aK [(.slice (.int .i64))] (by kernel_rfl)
def cM(s1:Int)(x1:List Int)(x2:List (List Int)):((List Int)×Int)→Option (((List Int)×Int)⊕(List Int)):=fun(key6,v4) =>
 (if(decide (v4<((x2.getD s1.toNat ([]:List Int)).length:Int)))=true then(if 0≤v4∧v4<((x2.getD s1.toNat ([]:List Int)).length:Int)then(if 0≤((x2.getD s1.toNat ([]:List Int)).getD v4.toNat (0:Int))∧((x2.getD s1.toNat ([]:List Int)).getD v4.toNat (0:Int))<(x1.length:Int)then(if(key6.length+([(x1.getD (((x2.getD s1.toNat ([]:List Int)).getD v4.toNat (0:Int)).toNat) (0:Int))]:List Int).length)*8≤140737488355328∧key6.length+([(x1.getD (((x2.getD s1.toNat ([]:List Int)).getD v4.toNat (0:Int)).toNat) (0:Int))]:List Int).length≤9223372036854775807 then some (Sum.inl ((key6++([(x1.getD (((x2.getD s1.toNat ([]:List Int)).getD v4.toNat (0:Int)).toNat) (0:Int))]:List Int)),(IntKind.i64.wrap (v4+(1:Int)))))else none)else none)else none)
 else some (Sum.inr key6))
def cX(s1:Int)(x1:List Int)(x2:List (List Int))(x3 oF:List Int):Option (List Int) :=
 (if 0≤s1∧s1<(x1.length:Int)then(if(oF.length+([(x1.getD s1.toNat (0:Int))]:List Int).length)*8≤140737488355328∧oF.length+([(x1.getD s1.toNat (0:Int))]:List Int).length≤9223372036854775807 then(if 0≤s1∧s1<(x2.length:Int)then((iter (cM s1 x1 x2) ((oF++([(x1.getD s1.toNat (0:Int))]:List Int)),(0:Int))).bind fun key7=>some key7)else none)else none)else none)
theorem pK(β1 β2 β3:Bool){s1:Int}{x1:List Int}{x2:List (List Int)}{x3:List Int}{oF:List Int}{res:List Int}(h:cX s1 x1 x2 x3 oF=some res):
  Owns Tryd.prog 64 [.i64 s1,.sl 0,.fad true [.p β1 (.slice (.int .i64)) x1] 0,.fad true [.p β2 (.slice (.slice (.int .i64))) x2,.p β3 (.slice (.int .u32)) x3] 0] [(0,.arr 3 (.int .i64) oF)] (.sl 1) [(1,.arr 3 (.int .i64) res)]:=by
 refine Owns.of_body bK Tryd.func64 (by kernel_rfl) rfl (nl rfl) (fun Bw w0=> ?_)
 unfold cX at h
 refine G ?_
 obtain⟨c27,c28,h⟩:=g2 h
 refine GN a0 [(3,3,oc c27),(6,6,oc c28)] (aC (GC 3 h (fun h=>aF (hU h (fun(key6,v4)=>aN [(1,.sl 1),(2,.fad true [.p β1 (.slice (.int .i64)) x1] 0),(20,.p β2 (.slice (.int .i64)) (x2.getD s1.toNat ([]:List Int))),(21,.i64 ((x2.getD s1.toNat ([]:List Int)).length:Int)),(22,.i64 v4)] [(1,.arr 3 (.int .i64) key6)] 2 1) 0 (fun key7=>aN [(1,.sl 1)] [(1,.arr 3 (.int .i64) key7)] 2 1) (gg [] [0,57]) (fun y o h=> ?_) (fun key7 h=> ?_)))))
 ·obtain⟨key6,v4⟩:=y
  unfold cM at h
  refine G (aC (aS h (fun hb6 h=> ?_) (fun hb6 h=> ?_)))
  ·refine aB (aA (aC (aF (GC 0 h (fun h=> ?_)))))
   obtain⟨c47,c48,h⟩:=g2 h
   refine gA a0 [(3,3,oc c47),(6,6,oc c48)] (aM (aA (Ge ?_)))
   exact eB h (gg [] [0,82])
  refine aH (bM ?_)
  exact eX h (gg [] [0,1])
 refine aJ (aA (G (aV ?_)))
 obtain rfl:=sI h
 exact aO [none] [] [0,1] [(6,.sl 1)] [(1,.arr 3 (.int .i64) key7)] 2 1 (by kernel_rfl) (by kernel_rfl) (by kernel_rfl)
def kI(r8:List Int):((List Int)×Int)→Option (((List Int)×Int)⊕(List Int)):=fun(v26,v27) =>
 (if(decide (v27<(r8.length:Int)))=true then(if 0≤v27∧v27<(r8.length:Int)then(if v27.toNat<r8.length then(if 0≤(8:Int)then(if 0≤(16:Int)then(if 0≤(24:Int)then(if(v26.length+([(IntKind.u8.wrap (r8.getD v27.toNat (0:Int))),(IntKind.u8.wrap (Int.fdiv (r8.getD v27.toNat (0:Int)) (2 ^ (min (8:Int).toNat IntKind.i64.bits)))),(IntKind.u8.wrap (Int.fdiv (r8.getD v27.toNat (0:Int)) (2 ^ (min (16:Int).toNat IntKind.i64.bits)))),(IntKind.u8.wrap (Int.fdiv (r8.getD v27.toNat (0:Int)) (2 ^ (min (24:Int).toNat IntKind.i64.bits))))]:List Int).length)*1≤140737488355328∧v26.length+([(IntKind.u8.wrap (r8.getD v27.toNat (0:Int))),(IntKind.u8.wrap (Int.fdiv (r8.getD v27.toNat (0:Int)) (2 ^ (min (8:Int).toNat IntKind.i64.bits)))),(IntKind.u8.wrap (Int.fdiv (r8.getD v27.toNat (0:Int)) (2 ^ (min (16:Int).toNat IntKind.i64.bits)))),(IntKind.u8.wrap (Int.fdiv (r8.getD v27.toNat (0:Int)) (2 ^ (min (24:Int).toNat IntKind.i64.bits))))]:List Int).length≤9223372036854775807 then some (Sum.inl ((v26++([(IntKind.u8.wrap (r8.getD v27.toNat (0:Int))),(IntKind.u8.wrap (Int.fdiv (r8.getD v27.toNat (0:Int)) (2 ^ (min (8:Int).toNat IntKind.i64.bits)))),(IntKind.u8.wrap (Int.fdiv (r8.getD v27.toNat (0:Int)) (2 ^ (min (16:Int).toNat IntKind.i64.bits)))),(IntKind.u8.wrap (Int.fdiv (r8.getD v27.toNat (0:Int)) (2 ^ (min (24:Int).toNat IntKind.i64.bits))))]:List Int)),(IntKind.i64.wrap (v27+(1:Int)))))else none)else none)else none)else none)else none)else none)
 else some (Sum.inr v26))
def hX(d1:Int)(i1:List Int)(i2:List (List Int))(i3:List Int):((List ((List UInt8)×Int))×(List Int)×(List Int)×Int)→Option (((List ((List UInt8)×Int))×(List Int)×(List Int)×Int)⊕(List Int)):=fun(v19,v20,v21,v22) =>
 (if(decide (v22<d1))=true then(if 0≤(0:Int)∧(0:Int)≤(v21.length:Int)then((cX v22 i1 i2 i3 (v21.take (0:Int).toNat)).bind fun r8 =>
 ((iter (kI r8) (([]:List Int),(0:Int))).bind fun v28=>(((if(!((bF .str v19 (bQ v28)).isSome))=true then some (((eF .str v19 (bQ v28) (v19.length:Int)),(v19.length:Int)))
 else some ((v19,((bF .str v19 (bQ v28)).getD (0:Int)))))).bind fun(v29,v30)=>(if 0≤v22∧v22<(v20.length:Int)then(if v22.toNat<v20.length then some (Sum.inl (v29,(v20.set v22.toNat v30),r8,(IntKind.i64.wrap (v22+(1:Int)))))else none)else none))))else none)
 else some (Sum.inr v20))
def fQ(d1:Int)(i1:List Int)(i2:List (List Int))(i3:List Int):Option (List Int) :=
 (if 0≤d1∧d1≤d1∧(8:Int)*d1≤281474976710656∧d1≤9223372036854775807 then((iter (hX d1 i1 i2 i3) (([]:List ((List UInt8)×Int)),(List.replicate d1.toNat (0:Int)),([]:List Int),(0:Int))).bind fun v23=>some v23)else none)
theorem q7(β1 β2 β3:Bool){d1:Int}{i1:List Int}{i2:List (List Int)}{i3:List Int}{res:List Int}(h:fQ d1 i1 i2 i3=some res):
  Pure Tryd.prog 62 [.i64 d1,.fn 64 [.fad true [.p β1 (.slice (.int .i64)) i1] 0,.fad true [.p β2 (.slice (.slice (.int .i64))) i2,.p β3 (.slice (.int .u32)) i3] 0]] (bX (fL false [⟨(.slice (.int .i64)),res⟩])):=by
 refine Pure.of_body bK Tryd.func62 (by kernel_rfl) rfl (nl rfl) (fun Bw w0=> ?_) rfl
 unfold fQ at h
 refine G (G (GC 1 h (fun h=>G (aC (G (aF (hU h (fun(v19,v20,v21,v22)=>aN [(1,.fn 64 [.fad true [.p β1 (.slice (.int .i64)) i1] 0,.fad true [.p β2 (.slice (.slice (.int .i64))) i2,.p β3 (.slice (.int .u32)) i3] 0]),(5,.mp 0),(6,.sl 1),(7,.sl 2),(17,.i64 d1),(18,.i64 v22)] (aA5 v19 v20 v21) 3) 0 (fun v23=>aN [(6,.sl 0)] [(0,.arr 3 (.int .i64) v23)] 1) (gg [.nilS 7 72 3 (.int .i64)] [8,32,72]) (fun y o h=> ?_) (fun v23 h=> ?_))))))))
 ·obtain⟨v19,v20,v21,v22⟩:=y
  unfold hX at h
  refine G (aC (aS h (fun hb13 h=> ?_) (fun hb13 h=> ?_)))
  ·refine aB (aA (aC (aF (G ?_))))
   obtain⟨c88,h⟩:=bB h
   obtain⟨r8,q6,h⟩:=aD h
   have u_1:=(pK β1 β2 β3 q6)
   refine GN ⟨[],[(4,(oO u_1 [51]))]⟩ [(3,3,oc c88),(4,4,oc u_1)] (G (aC (G (aF (hU h (fun(v26,v27)=>aN [(1,.fn 64 [.fad true [.p β1 (.slice (.int .i64)) i1] 0,.fad true [.p β2 (.slice (.slice (.int .i64))) i2,.p β3 (.slice (.int .u32)) i3] 0]),(5,.mp 0),(6,.sl 1),(7,.sl 2),(8,.i64 v22),(9,.sl 3),(17,.i64 d1),(18,.i64 v22),(26,.sl 2),(27,.i64 (r8.length:Int)),(28,.i64 v27)] (aBb v19 v20 r8 v26) 4) 2 (fun v28=>aN [(1,.fn 64 [.fad true [.p β1 (.slice (.int .i64)) i1] 0,.fad true [.p β2 (.slice (.slice (.int .i64))) i2,.p β3 (.slice (.int .u32)) i3] 0]),(5,.mp 0),(6,.sl 1),(7,.sl 2),(8,.i64 v22),(9,.sl 3),(17,.i64 d1),(18,.i64 v22)] (aBb v19 v20 r8 v28) 4) (gg [.nilS 9 107 5 (.int .u8)] [0,1,59,107]) (fun y o h=> ?_) (fun v28 h=> ?_))))))
   ·obtain⟨v26,v27⟩:=y
    unfold kI at h
    refine G (aC (aS h (fun hb16 h=> ?_) (fun hb16 h=> ?_)))
    ·refine aB (aA (aC (aF ?_)))
     obtain⟨c115,c116,h⟩:=g2 h
     refine GN a0 [(0,0,oc c115),(1,1,oc c116)] ?_
     obtain⟨c121,c122,c123,c124,h⟩:=g4 h
     refine gA a0 [(4,4,oc c121),(7,7,oc c122),(10,10,oc c123),(13,13,oc c124)] (aM (aA (Ge ?_)))
     exact eB h (gg [] [0,1,2,140])
    refine aH (bM ?_)
    exact eX h (gg [] [0,1,2,3])
   refine aJ (aA (G (aC (G (fA h (fun(v29,v30)=>aN [(1,.fn 64 [.fad true [.p β1 (.slice (.int .i64)) i1] 0,.fad true [.p β2 (.slice (.slice (.int .i64))) i2,.p β3 (.slice (.int .u32)) i3] 0]),(5,.mp 0),(6,.sl 1),(7,.sl 2),(8,.i64 v22),(12,.i64 v30),(17,.i64 d1),(18,.i64 v22)] (aA5 v29 v20 r8) 3) (fun r9 h=> ?_) (fun r9 h=> ?_))))))
   ·refine aS h (fun hb18 h=> ?_) (fun hb18 h=> ?_)
    ·refine G (Ge ?_)
     exact eN h (gg [] [0,1,2])
    refine aB ?_
    exact eN h (gg [] [0,1,2])
   obtain⟨v29,v30⟩:=r9
   refine aA ?_
   obtain⟨c127,c128,h⟩:=g2 h
   refine gA a0 [(3,3,oc c127),(4,4,oc c128)] (aM (aA (Ge ?_)))
   exact eB h (gg [] [0,1,2])
  refine aH (bM ?_)
  exact eX h (gg [] [1])
 refine aJ (aA (G (aV ?_)))
 obtain rfl:=sI h
 exact aK [(.slice (.int .i64))] (by kernel_rfl)
def fC(l1:List Int):(Int×Int)→Option ((Int×Int)⊕(Int)):=fun(n2,v2) =>
 (if(decide (v2<(l1.length:Int)))=true then(if 0≤v2∧v2<(l1.length:Int)then some (Sum.inl ((max n2 (l1.getD v2.toNat (0:Int))),(IntKind.i64.wrap (v2+(1:Int)))))else none)
 else some (Sum.inr n2))
def eM(l1:List Int):Option (Int) :=
 ((iter (fC l1) ((0:Int),(0:Int))).bind fun n3=>some n3)
theorem kU(β0:Bool){l1:List Int}{res:Int}(h:eM l1=some res):
  Pure Tryd.prog 65 [.p β0 (.slice (.int .i64)) l1] (bX (fL false [⟨(.int .i64),res⟩])):=by
 refine Pure.of_body bK Tryd.func65 (by kernel_rfl) rfl (nl rfl) (fun Bw w0=> ?_) rfl
 unfold eM at h
 refine G (G (aC (G (aF (hU h (fun(n2,v2)=>aN [(3,.i64 n2),(6,.p β0 (.slice (.int .i64)) l1),(7,.i64 (l1.length:Int)),(8,.i64 v2)] [] 0) 0 (fun n3=>aN [(3,.i64 n3)] [] 0) (gg [] []) (fun y o h=> ?_) (fun n3 h=> ?_))))))
 ·obtain⟨n2,v2⟩:=y
  unfold fC at h
  refine G (aC (aS h (fun hb3 h=> ?_) (fun hb3 h=> ?_)))
  ·refine aB (aA (aC (aF (GC 0 h (fun h=>Ge (aM (aA (Ge ?_))))))))
   exact eB h (gg [] [])
  refine aH (bM ?_)
  exact eX h (gg [] [])
 refine aJ (aA (G (aV ?_)))
 obtain rfl:=sI h
 exact aK [(.int .i64)] (by kernel_rfl)
def dQ(r2:Int):((List Int)×Int)→Option (((List Int)×Int)⊕(List Int)):=fun(v3,v4) =>
 (if(decide (v4<((List.replicate (IntKind.i64.wrap (r2+(1:Int))).toNat (0:Int)).length:Int)))=true then(if 0≤v4∧v4<(v3.length:Int)then(if v4.toNat<v3.length then some (Sum.inl ((v3.set v4.toNat (-1:Int)),(IntKind.i64.wrap (v4+(1:Int)))))else none)else none)
 else some (Sum.inr v3))
def dO(d1:List (List Int))(i1 v48:List Int)(v49:Int):((List Int)×(List Int)×(List Int)×Int)→Option (((List Int)×(List Int)×(List Int)×Int)⊕((List Int)×(List Int)×List Int)):=fun(v60,v61,v62,v63) =>
 (if(decide (v63<((d1.getD ((v48.getD v49.toNat (0:Int)).toNat) ([]:List Int)).length:Int)))=true then(if 0≤v63∧v63<((d1.getD ((v48.getD v49.toNat (0:Int)).toNat) ([]:List Int)).length:Int)then(if 0≤((d1.getD ((v48.getD v49.toNat (0:Int)).toNat) ([]:List Int)).getD v63.toNat (0:Int))∧((d1.getD ((v48.getD v49.toNat (0:Int)).toNat) ([]:List Int)).getD v63.toNat (0:Int))<(i1.length:Int)then(if 0≤(i1.getD (((d1.getD ((v48.getD v49.toNat (0:Int)).toNat) ([]:List Int)).getD v63.toNat (0:Int)).toNat) (0:Int))∧(i1.getD (((d1.getD ((v48.getD v49.toNat (0:Int)).toNat) ([]:List Int)).getD v63.toNat (0:Int)).toNat) (0:Int))<(v60.length:Int)then(if(i1.getD (((d1.getD ((v48.getD v49.toNat (0:Int)).toNat) ([]:List Int)).getD v63.toNat (0:Int)).toNat) (0:Int)).toNat<v60.length then(((if(decide ((v60.getD ((i1.getD (((d1.getD ((v48.getD v49.toNat (0:Int)).toNat) ([]:List Int)).getD v63.toNat (0:Int)).toNat) (0:Int)).toNat) (0:Int))<(0:Int)))=true then(if 0≤((d1.getD ((v48.getD v49.toNat (0:Int)).toNat) ([]:List Int)).getD v63.toNat (0:Int))∧((d1.getD ((v48.getD v49.toNat (0:Int)).toNat) ([]:List Int)).getD v63.toNat (0:Int))<(i1.length:Int)then(if 0≤(i1.getD (((d1.getD ((v48.getD v49.toNat (0:Int)).toNat) ([]:List Int)).getD v63.toNat (0:Int)).toNat) (0:Int))∧(i1.getD (((d1.getD ((v48.getD v49.toNat (0:Int)).toNat) ([]:List Int)).getD v63.toNat (0:Int)).toNat) (0:Int))<(v60.length:Int)then(if(i1.getD (((d1.getD ((v48.getD v49.toNat (0:Int)).toNat) ([]:List Int)).getD v63.toNat (0:Int)).toNat) (0:Int)).toNat<v60.length then(if(v61.length+([((d1.getD ((v48.getD v49.toNat (0:Int)).toNat) ([]:List Int)).getD v63.toNat (0:Int))]:List Int).length)*8≤140737488355328∧v61.length+([((d1.getD ((v48.getD v49.toNat (0:Int)).toNat) ([]:List Int)).getD v63.toNat (0:Int))]:List Int).length≤9223372036854775807 then some (((v60.set ((i1.getD (((d1.getD ((v48.getD v49.toNat (0:Int)).toNat) ([]:List Int)).getD v63.toNat (0:Int)).toNat) (0:Int)).toNat) (v61.length:Int)),(v61++([((d1.getD ((v48.getD v49.toNat (0:Int)).toNat) ([]:List Int)).getD v63.toNat (0:Int))]:List Int))))else none)else none)else none)else none)
 else some ((v60,v61)))).bind fun(v67,v68)=>(if 0≤((d1.getD ((v48.getD v49.toNat (0:Int)).toNat) ([]:List Int)).getD v63.toNat (0:Int))∧((d1.getD ((v48.getD v49.toNat (0:Int)).toNat) ([]:List Int)).getD v63.toNat (0:Int))<(i1.length:Int)then(if 0≤(i1.getD (((d1.getD ((v48.getD v49.toNat (0:Int)).toNat) ([]:List Int)).getD v63.toNat (0:Int)).toNat) (0:Int))∧(i1.getD (((d1.getD ((v48.getD v49.toNat (0:Int)).toNat) ([]:List Int)).getD v63.toNat (0:Int)).toNat) (0:Int))<(v67.length:Int)then(if(i1.getD (((d1.getD ((v48.getD v49.toNat (0:Int)).toNat) ([]:List Int)).getD v63.toNat (0:Int)).toNat) (0:Int)).toNat<v67.length then(if(v62.length+([(v67.getD ((i1.getD (((d1.getD ((v48.getD v49.toNat (0:Int)).toNat) ([]:List Int)).getD v63.toNat (0:Int)).toNat) (0:Int)).toNat) (0:Int))]:List Int).length)*8≤140737488355328∧v62.length+([(v67.getD ((i1.getD (((d1.getD ((v48.getD v49.toNat (0:Int)).toNat) ([]:List Int)).getD v63.toNat (0:Int)).toNat) (0:Int)).toNat) (0:Int))]:List Int).length≤9223372036854775807 then some (Sum.inl (v67,v68,(v62++([(v67.getD ((i1.getD (((d1.getD ((v48.getD v49.toNat (0:Int)).toNat) ([]:List Int)).getD v63.toNat (0:Int)).toNat) (0:Int)).toNat) (0:Int))]:List Int)),(IntKind.i64.wrap (v63+(1:Int)))))else none)else none)else none)else none))else none)else none)else none)else none)
 else some (Sum.inr (v60,v61,v62)))
def e9(d1:List (List Int))(d2 i1:List Int):((List (List Int))×(List Int)×(List Int)×(List Int)×Int)→Option (((List (List Int))×(List Int)×(List Int)×(List Int)×Int)⊕((List (List Int))×List Int)):=fun(v45,v46,v47,v48,v49) =>
 (if(decide (v49<(v48.length:Int)))=true then(if 0≤v49∧v49<(v48.length:Int)then(if v49.toNat<v48.length then(if 0≤(v48.getD v49.toNat (0:Int))∧(v48.getD v49.toNat (0:Int))<(d1.length:Int)then((iter (dO d1 i1 v48 v49) (v47,v48,([]:List Int),(0:Int))).bind fun(v64,v65,v66)=>(if(v45.length+([v66]:List (List Int)).length)*24≤140737488355328∧v45.length+([v66]:List (List Int)).length≤9223372036854775807 then(if 0≤v49∧v49<(v65.length:Int)then(if v49.toNat<v65.length then(if 0≤(v65.getD v49.toNat (0:Int))∧(v65.getD v49.toNat (0:Int))<(d2.length:Int)then(if(v46.length+([(d2.getD ((v65.getD v49.toNat (0:Int)).toNat) (0:Int))]:List Int).length)*4≤140737488355328∧v46.length+([(d2.getD ((v65.getD v49.toNat (0:Int)).toNat) (0:Int))]:List Int).length≤9223372036854775807 then some (Sum.inl ((v45++([v66]:List (List Int))),(v46++([(d2.getD ((v65.getD v49.toNat (0:Int)).toNat) (0:Int))]:List Int)),v64,v65,(IntKind.i64.wrap (v49+(1:Int)))))else none)else none)else none)else none)else none))else none)else none)else none)
 else some (Sum.inr (v45,v46)))
def gC(d1:List (List Int))(d2 i1:List Int):Option ((List (List Int))×List Int) :=
 ((eM i1).bind fun r2 =>
 (if 0≤(IntKind.i64.wrap (r2+(1:Int)))∧(IntKind.i64.wrap (r2+(1:Int)))≤(IntKind.i64.wrap (r2+(1:Int)))∧(8:Int)*(IntKind.i64.wrap (r2+(1:Int)))≤281474976710656∧(IntKind.i64.wrap (r2+(1:Int)))≤9223372036854775807 then((iter (dQ r2) ((List.replicate (IntKind.i64.wrap (r2+(1:Int))).toNat (0:Int)),(0:Int))).bind fun v5=>(if 0≤(0:Int)∧(0:Int)<(i1.length:Int)then(if 0≤(i1.getD ((0:Int).toNat) (0:Int))∧(i1.getD ((0:Int).toNat) (0:Int))<(v5.length:Int)then(if(i1.getD ((0:Int).toNat) (0:Int)).toNat<v5.length then((iter (e9 d1 d2 i1) (([]:List (List Int)),([]:List Int),(v5.set ((i1.getD ((0:Int).toNat) (0:Int)).toNat) (0:Int)),([(0:Int)]:List Int),(0:Int))).bind fun(v50,v51)=>some (v50,v51))else none)else none)else none))else none))
theorem tT(β0 β1 β2:Bool){d1:List (List Int)}{d2:List Int}{i1:List Int}{res:(List (List Int))×List Int}(h:gC d1 d2 i1=some res):
  Pure Tryd.prog 66 [.agg [.p β0 (.slice (.slice (.int .i64))) d1,.p β1 (.slice (.int .u32)) d2],.p β2 (.slice (.int .i64)) i1] (bX (fL false [⟨Y6,res⟩])):=by
 refine Pure.of_body bK Tryd.func66 (by kernel_rfl) rfl (nl rfl) (fun Bw w0=> ?_) rfl
 unfold gC at h
 refine G (G ?_)
 obtain⟨r2,q2,h⟩:=aD h
 obtain⟨c2,h⟩:=bB h
 have u_1:=(kU β2 q2)
 refine GN ⟨[],[(1,(oP u_1))]⟩ [(1,1,oc u_1),(3,3,oc c2)] (aC (G (aF (hU h (fun(v3,v4)=>aN [(1,.p β2 (.slice (.int .i64)) i1),(2,.adr 0 0 2 0),(4,.adr 1 0 2 0),(5,.adr 2 0 2 0),(6,.sl 3),(18,.i64 ((List.replicate (IntKind.i64.wrap (r2+(1:Int))).toNat (0:Int)).length:Int)),(19,.i64 v4)] (aDp β0 d1 β1 d2 v3) 4) 0 (fun v5=>aN [(1,.p β2 (.slice (.int .i64)) i1),(2,.adr 0 0 2 0),(4,.adr 1 0 2 0),(5,.adr 2 0 2 0),(6,.sl 3)] (aDp β0 d1 β1 d2 v5) 4) (gg [] [0,8,16,48]) (fun y o h=> ?_) (fun v5 h=> ?_)))))
 ·obtain⟨v3,v4⟩:=y
  unfold dQ at h
  refine G (aC (aS h (fun hb3 h=> ?_) (fun hb3 h=> ?_)))
  ·refine aB (aA (aC (aF (G ?_))))
   obtain⟨c13,c14,h⟩:=g2 h
   refine gA a0 [(2,2,oc c13),(3,3,oc c14)] (aM (aA (Ge ?_)))
   exact eB h (gg [] [0,1,2,3])
  refine aH (bM ?_)
  exact eX h (gg [] [0,1,2,3])
 refine aJ (aA (G ?_))
 obtain⟨c18,c19,c20,h⟩:=g3 h
 refine GN a0 [(2,2,oc c18),(4,4,oc c19),(5,5,oc c20)] (aC (G (aF (hU h (fun(v45,v46,v47,v48,v49)=>aN [(1,.p β2 (.slice (.int .i64)) i1),(2,.adr 0 0 2 0),(4,.adr 1 0 2 0),(5,.adr 2 0 2 0),(6,.sl 5),(8,.sl 6),(9,.i64 v49)] (aEf β0 d1 β1 d2 v45 v46 v47 v48) 7) 2 (fun(v50,v51)=>aN [(4,.adr 0 0 2 0),(5,.adr 1 0 2 0)] (aDm v50 v51) 4) (gg [.nilC 2 0 76 26 (.slice (.int .i64)),.nilC 2 1 77 30 (.int .u32)] [0,1,2,76,77,3,4]) (fun y o h=> ?_) (fun r15 h=> ?_)))))
 ·obtain⟨v45,v46,v47,v48,v49⟩:=y
  unfold e9 at h
  refine aC (G (aS h (fun hb24 h=> ?_) (fun hb24 h=> ?_)))
  ·refine aB (aA (aC (aF (G (aC ?_)))))
   obtain⟨c248,c249,c250,h⟩:=g3 h
   refine GD a0 [(4,4,oc c248),(5,5,oc c249),(6,6,oc c250)] (aF (hU h (fun(v60,v61,v62,v63)=>aN [(1,.p β2 (.slice (.int .i64)) i1),(2,.adr 0 0 2 0),(4,.adr 1 0 2 0),(5,.adr 2 0 2 0),(6,.sl 5),(8,.sl 6),(9,.i64 v49),(10,.sl 7),(45,.p β0 (.slice (.int .i64)) (d1.getD ((v48.getD v49.toNat (0:Int)).toNat) ([]:List Int))),(46,.i64 ((d1.getD ((v48.getD v49.toNat (0:Int)).toNat) ([]:List Int)).length:Int)),(47,.i64 v63)] (aB2 β0 d1 β1 d2 v45 v46 v60 v61 v62) 8) 4 (fun(v64,v65,v66)=>aN [(1,.p β2 (.slice (.int .i64)) i1),(2,.adr 0 0 2 0),(4,.adr 1 0 2 0),(5,.adr 2 0 2 0),(6,.sl 5),(8,.sl 6),(9,.i64 v49),(10,.sl 7)] (aB2 β0 d1 β1 d2 v45 v46 v64 v65 v66) 8) (gg [.nilS 10 127 3 (.int .i64)] [0,1,2,3,4,5,6,127]) (fun y o h=> ?_) (fun r14 h=> ?_)))
   ·obtain⟨v60,v61,v62,v63⟩:=y
    unfold dO at h
    refine G (aC (aS h (fun hb31 h=> ?_) (fun hb31 h=> ?_)))
    ·refine aB (aA (aC (aF (GC 0 h (fun h=>aC ?_)))))
     obtain⟨c320,c321,c322,h⟩:=g3 h
     refine GN a0 [(3,3,oc c320),(5,5,oc c321),(6,6,oc c322)] (fA h (fun(v67,v68)=>aN [(1,.p β2 (.slice (.int .i64)) i1),(2,.adr 0 0 2 0),(4,.adr 1 0 2 0),(5,.adr 2 0 2 0),(6,.sl 5),(8,.sl 6),(9,.i64 v49),(10,.sl 7),(12,.i64 ((d1.getD ((v48.getD v49.toNat (0:Int)).toNat) ([]:List Int)).getD v63.toNat (0:Int))),(45,.p β0 (.slice (.int .i64)) (d1.getD ((v48.getD v49.toNat (0:Int)).toNat) ([]:List Int))),(46,.i64 ((d1.getD ((v48.getD v49.toNat (0:Int)).toNat) ([]:List Int)).length:Int)),(47,.i64 v63)] (aB2 β0 d1 β1 d2 v45 v46 v67 v68 v62) 8) (fun r13 h=> ?_) (fun r13 h=> ?_))
     ·refine aS h (fun hb33 h=> ?_) (fun hb33 h=> ?_)
      ·obtain⟨c334,c335,c336,h⟩:=g3 h
       refine GN a0 [(3,3,oc c334),(7,7,oc c335),(8,8,oc c336)] (GCe 3 h (fun h=> ?_))
       exact eN h (gg [] [0,1,2,3,4,5,200,7])
      refine aB ?_
      exact eN h (gg [] [0,1,2,3,4,5,6,7])
     obtain⟨v67,v68⟩:=r13
     refine aA ?_
     obtain⟨c343,c344,c345,c346,h⟩:=g4 h
     refine gA a0 [(4,4,oc c343),(6,6,oc c344),(7,7,oc c345),(9,9,oc c346)] (aM (aA (Ge ?_)))
     exact eB h (gg [] [0,1,2,3,4,5,6,80])
    refine aH (bM ?_)
    exact eX h (gg [] [0,1,2,3,4,5,6,7])
   obtain⟨v64,v65,v66⟩:=r14
   refine aJ (aA ?_)
   obtain⟨c352,c353,c354,c355,h⟩:=g4 h
   obtain⟨c356,h⟩:=bB h
   refine xB a0 [(4,4,oc c352),(11,11,oc c353),(12,12,oc c354),(13,13,oc c355),(16,16,oc c356)] (aM (aA (Ge ?_)))
   exact eB h (gg [] [0,1,2,40,136,5,6])
  refine aH (bM ?_)
  exact eX h (gg [] [1,2,3,4])
 obtain⟨v50,v51⟩:=r15
 refine aJ (aA (G (aV ?_)))
 obtain rfl:=sI h
 exact aK [Y6] (by kernel_rfl)
def gF(a1:List (List Int))(a2:List Int):(List Int)→Option ((List Int)⊕(List Int)):=fun kind2 =>
 ((fQ (kind2.length:Int) kind2 a1 a2).bind fun r18 =>
 ((eM r18).bind fun r21 =>
 ((eM kind2).bind fun r22 =>
 (if(r21 == r22)=true then some (Sum.inr kind2)
 else some (Sum.inl r18)))))
def fN(a1:List (List Int))(a2:List Int):Option (((List (List Int))×List Int)×Int) :=
 ((iO a1 a2).bind fun r2 =>
 (if(!r2)=true then some ((([]:List (List Int)),([]:List Int)),(2:Int))
 else((fM (a2.length:Int) a1 a2).bind fun r4 =>
 ((iter (gF a1 a2) r4).bind fun kind3=>((gC a1 a2 kind3).bind fun r24 =>
 some ((r24.1,r24.2),(0:Int)))))))
theorem oN(β0 β1:Bool){a1:List (List Int)}{a2:List Int}{res:((List (List Int))×List Int)×Int}(h:fN a1 a2=some res):
  Pure Tryd.prog 35 [.agg [.p β0 (.slice (.slice (.int .i64))) a1,.p β1 (.slice (.int .u32)) a2]] (bX (fL false [⟨Y6,res.1⟩,⟨(.int .i64),res.2⟩])):=by
 refine Pure.of_body bK Tryd.func35 (by kernel_rfl) rfl (nl rfl) (fun Bw w0=> ?_) rfl
 unfold fN at h
 refine G (aC ?_)
 obtain⟨r2,q2,h⟩:=aD h
 refine GP 1 (vT β0 β1 q2) (aS h (fun hb1 h=> ?_) (fun hb1 h=> ?_))
 ·refine G (aV (aG ?_))
  obtain rfl:=sI h
  exact aK [Y6,(.int .i64)] (by kernel_rfl)
 refine aB (aA ?_)
 obtain⟨r4,q4,h⟩:=aD h
 refine GP 4 (wY β0 β1 q4) (aC (aF (hU h (fun kind2=>aN [(1,.adr 0 0 2 0),(2,.adr 1 0 2 0),(4,.adr 2 0 1 0)] (aC7 β0 a1 β1 a2 kind2) 3) 0 (fun kind3=>aN [(1,.adr 0 0 2 0),(2,.adr 1 0 2 0),(4,.adr 2 0 1 0)] (aC7 β0 a1 β1 a2 kind3) 3) (gg [] [0,8,88]) (fun kind2 o h=> ?_) (fun kind3 h=> ?_))))
 ·unfold gF at h
  refine aF ?_
  obtain⟨r18,q18,h⟩:=aD h
  refine GP 3 (q7 false β0 β1 q18) (aC ?_)
  obtain⟨r21,q21,h⟩:=aD h
  obtain⟨r22,q22,h⟩:=aD h
  have u_1:=(kU false q21)
  have u_2:=(kU false q22)
  refine GD ⟨[],[(1,(oP u_1)),(3,(oP u_2))]⟩ [(1,1,oc u_1),(3,3,oc u_2)] (aS h (fun hb4 h=> ?_) (fun hb4 h=> ?_))
  ·refine aH (bM (xV rfl ?_))
   exact eX h (gg [] [0,1,2])
  refine aB (aA (Ge (aM ?_)))
  exact eB h (gg [] [0,1,2])
 refine aJ (aA ?_)
 obtain⟨r24,q24,h⟩:=aD h
 refine GP 2 (tT β0 β1 false q24) (aV ?_)
 obtain rfl:=sI h
 exact aK [Y6,(.int .i64)] (by kernel_rfl)
def gO(d5:List (Int×Tree×Tree)):((List Tree)×(List Tree)×Int)→Option (((List Tree)×(List Tree)×Int)⊕((List Tree)×List Tree)):=fun(v4,v5,v6) =>
 (if(decide (v6<(d5.length:Int)))=true then(if 0≤v6∧v6<(d5.length:Int)then(if(v4.length+([(Tree.node (((d5.getD v6.toNat ((0:Int),((Tree.node 0 0 []),(Tree.node 0 0 [])))).2.1).op) (((d5.getD v6.toNat ((0:Int),((Tree.node 0 0 []),(Tree.node 0 0 [])))).2.1).set) (((d5.getD v6.toNat ((0:Int),((Tree.node 0 0 []),(Tree.node 0 0 [])))).2.1).kids))]:List Tree).length)*32≤140737488355328∧v4.length+([(Tree.node (((d5.getD v6.toNat ((0:Int),((Tree.node 0 0 []),(Tree.node 0 0 [])))).2.1).op) (((d5.getD v6.toNat ((0:Int),((Tree.node 0 0 []),(Tree.node 0 0 [])))).2.1).set) (((d5.getD v6.toNat ((0:Int),((Tree.node 0 0 []),(Tree.node 0 0 [])))).2.1).kids))]:List Tree).length≤9223372036854775807 then((jQ 1000 (((d5.getD v6.toNat ((0:Int),((Tree.node 0 0 []),(Tree.node 0 0 [])))).2.2).op) (((d5.getD v6.toNat ((0:Int),((Tree.node 0 0 []),(Tree.node 0 0 [])))).2.2).set) (((d5.getD v6.toNat ((0:Int),((Tree.node 0 0 []),(Tree.node 0 0 [])))).2.2).kids)).bind fun r6 =>
 (if(v5.length+([(Tree.node r6.op r6.set r6.kids)]:List Tree).length)*32≤140737488355328∧v5.length+([(Tree.node r6.op r6.set r6.kids)]:List Tree).length≤9223372036854775807 then some (Sum.inl ((v4++([(Tree.node (((d5.getD v6.toNat ((0:Int),((Tree.node 0 0 []),(Tree.node 0 0 [])))).2.1).op) (((d5.getD v6.toNat ((0:Int),((Tree.node 0 0 []),(Tree.node 0 0 [])))).2.1).set) (((d5.getD v6.toNat ((0:Int),((Tree.node 0 0 []),(Tree.node 0 0 [])))).2.1).kids))]:List Tree)),(v5++([(Tree.node r6.op r6.set r6.kids)]:List Tree)),(IntKind.i64.wrap (v6+(1:Int)))))else none))else none)else none)
 else some (Sum.inr (v4,v5)))
def lM(d1:List (List UInt8))(d2 d3:Int)(d4:List Int)(d5:List (Int×Tree×Tree)):Option ((Option (((List (List UInt8))×Int×Int×(List Int)×List (Int×Tree×Tree))×((List (List Int))×List Int)×(List (List Int))×List Int))×Int) :=
 (if((d1.length:Int) == (0:Int))=true then some ((none:Option (((List (List UInt8))×Int×Int×(List Int)×List (Int×Tree×Tree))×((List (List Int))×List Int)×(List (List Int))×List Int)),(22:Int))
 else((iter (gO d5) (([]:List Tree),([]:List Tree),(0:Int))).bind fun(v7,v8)=>((fD v7 (d1.length:Int)).bind fun(r10,r11) =>
 (if(r11 != (0:Int))=true then some ((none:Option (((List (List UInt8))×Int×Int×(List Int)×List (Int×Tree×Tree))×((List (List Int))×List Int)×(List (List Int))×List Int)),r11)
 else((fD v8 (d1.length:Int)).bind fun(r14,r15) =>
 (if(r15 != (0:Int))=true then some ((none:Option (((List (List UInt8))×Int×Int×(List Int)×List (Int×Tree×Tree))×((List (List Int))×List Int)×(List (List Int))×List Int)),r15)
 else((fN r10.1 r10.2).bind fun(r18,r19) =>
 ((fN r14.1 r14.2).bind fun(r22,r23) =>
 some ((some ((d1,(d2,(d3,(d4,d5)))),((r18.1,r18.2),(r22.1,r22.2))):Option (((List (List UInt8))×Int×Int×(List Int)×List (Int×Tree×Tree))×((List (List Int))×List Int)×(List (List Int))×List Int)),(0:Int))))))))))
theorem F7{d1:List (List UInt8)}{d2:Int}{d3:Int}{d4:List Int}{d5:List (Int×Tree×Tree)}{res:(Option (((List (List UInt8))×Int×Int×(List Int)×List (Int×Tree×Tree))×((List (List Int))×List Int)×(List (List Int))×List Int))×Int}(h:lM d1 d2 d3 d4 d5=some res):
  Pure Tryd.prog 23 [.agg [.p false (.slice .str) d1,.u32 d2,.u32 d3,.p false (.slice (.int .i64)) d4,.p false (.slice (.prod (.int .u8) Y1)) d5]] (bX (fL false [⟨(.ptr Y7),res.1⟩,⟨(.int .i64),res.2⟩])):=by
 refine Pure.of_body bK Tryd.func23 (by kernel_rfl) rfl (nl rfl) (fun Bw w0=> ?_) rfl
 unfold lM at h
 refine G (aC (G (aS h (fun hb1 h=> ?_) (fun hb1 h=> ?_))))
 ·refine G (aV (aG ?_))
  obtain rfl:=sI h
  exact aK [(.ptr Y7),(.int .i64)] (by kernel_rfl)
 refine aB (aA (G (aC (G (aF (hU h (fun(v4,v5,v6)=>aN [(1,.adr 0 0 5 0),(4,.sl 1),(5,.sl 2),(17,.p false (.slice (.prod (.int .u8) Y1)) d5),(18,.i64 (d5.length:Int)),(19,.i64 v6)] (aCW d1 d2 d3 d4 d5 v4 v5) 3) 0 (fun(v7,v8)=>aN [(1,.adr 0 0 5 0),(4,.sl 1),(5,.sl 2)] (aCW d1 d2 d3 d4 d5 v7 v8) 3) (gg [.nilS 4 104 72 (.tree .u8 .u32),.nilS 5 105 72 (.tree .u8 .u32)] [0,104,105]) (fun y o h=> ?_) (fun r7 h=> ?_)))))))
 ·obtain⟨v4,v5,v6⟩:=y
  unfold gO at h
  refine G (aC (aS h (fun hb4 h=> ?_) (fun hb4 h=> ?_)))
  ·refine aB (aA (aC (aF (GC 0 h (fun h=> ?_)))))
   obtain⟨c17,h⟩:=bB h
   obtain⟨r6,q6,h⟩:=aD h
   obtain⟨c18,h⟩:=bB h
   have u_1:=(pX 1000 false q6)
   refine xB ⟨[],[(8,(oP u_1))]⟩ [(4,4,oc c17),(8,8,oc u_1),(10,10,oc c18)] (aM (aA (Ge ?_)))
   exact eB h (gg [] [0,75,123])
  refine aH (bM ?_)
  exact eX h (gg [] [0,1,2])
 obtain⟨v7,v8⟩:=r7
 refine aJ (aA ?_)
 obtain⟨⟨r10,r11⟩,q8,h⟩:=aD h
 refine GP 4 (qD true q8) (aC (G (aS h (fun hb5 h=> ?_) (fun hb5 h=> ?_))))
 ·refine G (aV (aG ?_))
  obtain rfl:=sI h
  exact aK [(.ptr Y7),(.int .i64)] (by kernel_rfl)
 refine aB (aA ?_)
 obtain⟨⟨r14,r15⟩,q10,h⟩:=aD h
 refine GP 4 (qD true q10) (aC (G (aS h (fun hb6 h=> ?_) (fun hb6 h=> ?_))))
 ·refine G (aV (aG ?_))
  obtain rfl:=sI h
  exact aK [(.ptr Y7),(.int .i64)] (by kernel_rfl)
 refine aB (aA (G ?_))
 obtain⟨⟨r18,r19⟩,q12,h⟩:=aD h
 refine GP 2 (oN false false q12) ?_
 obtain⟨⟨r22,r23⟩,q14,h⟩:=aD h
 refine GP 2 (oN false false q14) (G (aV ?_))
 obtain rfl:=sI h
 exact aK [(.ptr Y7),(.int .i64)] (by kernel_rfl)
def fP(text1:List UInt8):Option ((Option (((List (List UInt8))×Int×Int×(List Int)×List (Int×Tree×Tree))×((List (List Int))×List Int)×(List (List Int))×List Int))×Int×Int) :=
 ((cS text1).bind fun(r3,r4) =>
 (if(r4.1 != (0:Int))=true then some ((none:Option (((List (List UInt8))×Int×Int×(List Int)×List (Int×Tree×Tree))×((List (List Int))×List Int)×(List (List Int))×List Int)),(r4.1,r4.2))
 else((lM r3.1 r3.2.1 r3.2.2.1 r3.2.2.2.1 r3.2.2.2.2).bind fun(r7,r8) =>
 some (r7,(r8,(0:Int))))))
theorem mX{text1:List UInt8}{res:(Option (((List (List UInt8))×Int×Int×(List Int)×List (Int×Tree×Tree))×((List (List Int))×List Int)×(List (List Int))×List Int))×Int×Int}(h:fP text1=some res):
  Pure Tryd.prog 14 [.st text1] (bX (fL false [⟨(.ptr Y7),res.1⟩,⟨Y5,res.2⟩])):=by
 refine Pure.of_body bK Tryd.func14 (by kernel_rfl) rfl (nl rfl) (fun Bw w0=> ?_) rfl
 unfold fP at h
 refine G ?_
 obtain⟨⟨r3,r4⟩,q2,h⟩:=aD h
 refine GP 1 (vK q2) (aC (G (aS h (fun hb1 h=> ?_) (fun hb1 h=> ?_))))
 ·refine GD a0 [] (aV (aG ?_))
  obtain rfl:=sI h
  exact aK [(.ptr Y7),Y5] (by kernel_rfl)
 refine aB (aA ?_)
 obtain⟨⟨r7,r8⟩,q4,h⟩:=aD h
 refine GP 1 (F7 q4) (G (aV ?_))
 obtain rfl:=sI h
 exact aK [(.ptr Y7),Y5] (by kernel_rfl)
def dT(a1:List (List Int))(classes1:List Int):((List Int)×Int×Int)→Option (((List Int)×Int×Int)⊕(List Int)):=fun(out2,s2,v4) =>
 (if(decide (v4<(classes1.length:Int)))=true then(if 0≤v4∧v4<(classes1.length:Int)then(((if(decide ((classes1.getD v4.toNat (0:Int))<(0:Int)))=true then some (true)
 else(if 0≤s2∧s2<(a1.length:Int)then some ((decide ((classes1.getD v4.toNat (0:Int))≥((a1.getD s2.toNat ([]:List Int)).length:Int))))else none))).bind fun v5=>(if v5=true then some (Sum.inr out2)
 else(if 0≤s2∧s2<(a1.length:Int)then(if 0≤(classes1.getD v4.toNat (0:Int))∧(classes1.getD v4.toNat (0:Int))<((a1.getD s2.toNat ([]:List Int)).length:Int)then(if(out2.length+([((a1.getD s2.toNat ([]:List Int)).getD ((classes1.getD v4.toNat (0:Int)).toNat) (0:Int))]:List Int).length)*8≤140737488355328∧out2.length+([((a1.getD s2.toNat ([]:List Int)).getD ((classes1.getD v4.toNat (0:Int)).toNat) (0:Int))]:List Int).length≤9223372036854775807 then some (Sum.inl ((out2++([((a1.getD s2.toNat ([]:List Int)).getD ((classes1.getD v4.toNat (0:Int)).toNat) (0:Int))]:List Int)),((a1.getD s2.toNat ([]:List Int)).getD ((classes1.getD v4.toNat (0:Int)).toNat) (0:Int)),(IntKind.i64.wrap (v4+(1:Int)))))else none)else none)else none)))else none)
 else some (Sum.inr out2))
def hY(a1:List (List Int))(a2 classes1:List Int):Option (List Int) :=
 (if((a1.length:Int) == (0:Int))=true then some ([]:List Int)
 else((iter (dT a1 classes1) (([(0:Int)]:List Int),(0:Int),(0:Int))).bind fun out3=>some out3))
theorem sR(β0 β1 β2:Bool){a1:List (List Int)}{a2:List Int}{classes1:List Int}{res:List Int}(h:hY a1 a2 classes1=some res):
  Pure Tryd.prog 17 [.agg [.p β0 (.slice (.slice (.int .i64))) a1,.p β1 (.slice (.int .u32)) a2],.p β2 (.slice (.int .i64)) classes1] (bX (fL false [⟨(.slice (.int .i64)),res⟩])):=by
 refine Pure.of_body bK Tryd.func17 (by kernel_rfl) rfl (nl rfl) (fun Bw w0=> ?_) rfl
 unfold hY at h
 refine G (aC (G (aS h (fun hb1 h=> ?_) (fun hb1 h=> ?_))))
 ·refine G (aV (aG ?_))
  obtain rfl:=sI h
  exact aK [(.slice (.int .i64))] (by kernel_rfl)
 refine aB (aA (G (G (aC (G (aF (hU h (fun(out2,s2,v4)=>aN [(2,.adr 0 0 2 0),(5,.sl 1),(6,.i64 s2),(14,.p β2 (.slice (.int .i64)) classes1),(15,.i64 (classes1.length:Int)),(16,.i64 v4)] (aDx β0 a1 β1 a2 out2) 2) 0 (fun out3=>aN [(5,.sl 0)] [(0,.arr 3 (.int .i64) out3)] 1) (gg [] [0,48]) (fun y o h=> ?_) (fun out3 h=> ?_))))))))
 ·obtain⟨out2,s2,v4⟩:=y
  unfold dT at h
  refine G (aC (aS h (fun hb12 h=> ?_) (fun hb12 h=> ?_)))
  ·refine aB (aA (aC (aF (GC 0 h (fun h=>aC (aC (fA h (fun v5=>aN [(2,.adr 0 0 2 0),(5,.sl 1),(6,.i64 s2),(8,.i64 (classes1.getD v4.toNat (0:Int))),(14,.p β2 (.slice (.int .i64)) classes1),(15,.i64 (classes1.length:Int)),(16,.i64 v4),(31,.bo v5)] (aDx β0 a1 β1 a2 out2) 2) (fun v5 h=> ?_) (fun v5 h=> ?_))))))))
   ·rcases bY h with⟨hb15,h⟩ | ⟨hb15,h⟩
    ·refine gA ⟨[(2,true),(11,true)],[]⟩ [(3,11,oc hb15)] ?_
     exact eN h (gg [] [0,1])
    obtain⟨c27,h⟩:=bB h
    refine gA ⟨[(2,false),(11,false)],[]⟩ [(3,6,an hb15),(7,7,oc (And.intro hb15 c27)),(8,10,an hb15),(11,11,oc hb15)] ?_
    exact eN h (gg [] [0,1])
   refine aA (aS h (fun hb16 h=> ?_) (fun hb16 h=> ?_))
   ·refine aH (bM (xV rfl (bM ?_)))
    exact eX h (gg [] [1])
   refine aB (aA ?_)
   obtain⟨c30,c31,h⟩:=g2 h
   refine GN a0 [(3,3,oc c30),(6,6,oc c31)] (GCe 3 h (fun h=>aM (aA (Ge ?_))))
   exact eB h (gg [] [0,98])
  refine aH (bM ?_)
  exact eX h (gg [] [1])
 refine aJ (aA (G (aV ?_)))
 obtain rfl:=sI h
 exact aK [(.slice (.int .i64))] (by kernel_rfl)
def bH  : ((List Int)×Int×Int)→Option (((List Int)×Int×Int)⊕(List Int)):=fun(s5,i4,j4) =>
 (if(decide (i4<j4))=true then(if 0≤j4∧j4<(s5.length:Int)then(if j4.toNat<s5.length then(if 0≤i4∧i4<(s5.length:Int)then(if i4.toNat<s5.length then(if 0≤i4∧i4<(s5.length:Int)then(if i4.toNat<s5.length then(if 0≤j4∧j4<((s5.set i4.toNat (s5.getD j4.toNat (0:Int))).length:Int)then(if j4.toNat<(s5.set i4.toNat (s5.getD j4.toNat (0:Int))).length then some (Sum.inl (((s5.set i4.toNat (s5.getD j4.toNat (0:Int))).set j4.toNat (s5.getD i4.toNat (0:Int))),(IntKind.i64.wrap (i4+(1:Int))),(IntKind.i64.wrap (j4 - (1:Int)))))else none)else none)else none)else none)else none)else none)else none)else none)
 else some (Sum.inr s5))
def bP(s1:List Int):Option (List Int) :=
 ((iter (bH) (s1,(0:Int),(IntKind.i64.wrap ((s1.length:Int) - (1:Int))))).bind fun v3=>some v3)
theorem iT{s1:List Int}{res:List Int}(h:bP s1=some res):
  Owns Tryd.prog 18 [.sl 0] [(0,.arr 3 (.int .i64) s1)] (.tup []) [(0,.arr 3 (.int .i64) res)]:=by
 refine Owns.of_body bK Tryd.func18 (by kernel_rfl) rfl (nl rfl) (fun Bw w0=> ?_)
 unfold bP at h
 refine G (aF (hU h (fun(s5,i4,j4)=>aN [(0,.sl 0),(2,.i64 i4),(3,.i64 j4)] [(0,.arr 3 (.int .i64) s5)] 1 1) 0 (fun v3=>aN [] [(0,.arr 3 (.int .i64) v3)] 1 1) (gg [] [0]) (fun y o h=> ?_) (fun v3 h=> ?_)))
 ·obtain⟨s5,i4,j4⟩:=y
  unfold bH at h
  refine aC (G (aS h (fun hb6 h=> ?_) (fun hb6 h=> ?_)))
  ·refine aB (aA (aC (aF ?_)))
   obtain⟨c89,c90,c91,c92,h⟩:=g4 h
   obtain⟨c93,c94,c95,c96,h⟩:=g4 h
   refine xB a0 [(6,6,oc c89),(7,7,oc c90),(10,10,oc c91),(11,11,oc c92),(12,12,oc c93),(13,13,oc c94),(14,14,oc c95),(15,15,oc c96)] (aM (aA (Ge ?_)))
   exact eB h (gg [] [0])
  refine aH (bM ?_)
  exact eX h (gg [] [0])
 refine aJ ?_
 obtain rfl:=sI h
 exact(aO [] [] [0] [] [(0,.arr 3 (.int .i64) v3)] 1 1 (by kernel_rfl) (by kernel_rfl) (by kernel_rfl)).normal
def fT(x1:Int):Option (Int):=some (vP x1)
theorem jT(x:Int)(w:World)(hl:tE Tryd.prog w):Calls Tryd.prog 19 #[.int .u32 x] w fun e w'=>e = .returned (.int .i64 (vP x))∧w'=w:=by
 have hc:w.cell? ⟨0,(bits BinOp.and IntKind.u32 x (-x % 4294967296)*125613361 % 4294967296 / 134217728).toNat,none⟩=some (.int .u8 (deB.getD (bits BinOp.and IntKind.u32 x (-x % 4294967296)*125613361 % 4294967296 / 134217728).toNat 0)):=hl 0 (by kernel_rfl) _ (aAw _)
 go_enter Tryd.func19,Tryd.ntmps19
 go_wp2
 ·rename_i h
  go_ret
  exact⟨by rw[R1 h];rfl,rfl⟩
 rename_i h
 go_ret
 exact⟨by rw[←X7 h,List.getD_eq_getElem?_getD];rfl,rfl⟩
theorem lE{x1:Int}{res:Int}(h:fT x1=some res):
  Pure Tryd.prog 19 [.u32 x1] (bX (fL false [⟨(.int .i64),res⟩])):=by
 obtain rfl:=sI h
 exact Pure.of_tz Tryd.func19 (by kernel_rfl) rfl (fun w=>jT _ w)
def dL(d1:Option (((List (List UInt8))×Int×Int×(List Int)×List (Int×Tree×Tree))×((List (List Int))×List Int)×(List (List Int))×List Int))(i1:List Int):((List Int)×(List Int)×Bool×Int)→Option (((List Int)×(List Int)×Bool×Int)⊕((List Int)×List Int)):=fun(v10,v11,v12,v13) =>
 (if(decide (v13<(i1.length:Int)))=true then(if 0≤v13∧v13<(i1.length:Int)then(((if(decide ((i1.getD v13.toNat (0:Int))<(0:Int)))=true then some (true)
 else(if d1.isSome=true then some ((decide ((i1.getD v13.toNat (0:Int))≥(((d1.getD (Ty.zero Y7)).1.1).length:Int))))else none))).bind fun v16=>(((if v16=true then some ((0:Int))
 else some ((i1.getD v13.toNat (0:Int))))).bind fun v17=>(((if v12=true then(if d1.isSome=true then(if 0≤v17 then some (((aI .and .u32 (Int.fdiv ((d1.getD (Ty.zero Y7)).1.2.1) (2 ^ (min v17.toNat IntKind.u32.bits))) (1:Int)) == (1:Int)))else none)else none)
 else some (false))).bind fun v18=>(if v18=true then some (Sum.inl (v10,v11,v12,(IntKind.i64.wrap (v13+(1:Int)))))
 else(if d1.isSome=true then(if 0≤v17 then(if(v10.length+([v13]:List Int).length)*8≤140737488355328∧v10.length+([v13]:List Int).length≤9223372036854775807 then(if d1.isSome=true then(if 0≤v17∧v17<(((d1.getD (Ty.zero Y7)).1.2.2.2.1).length:Int)then(if(v11.length+([(((d1.getD (Ty.zero Y7)).1.2.2.2.1).getD v17.toNat (0:Int))]:List Int).length)*8≤140737488355328∧v11.length+([(((d1.getD (Ty.zero Y7)).1.2.2.2.1).getD v17.toNat (0:Int))]:List Int).length≤9223372036854775807 then some (Sum.inl ((v10++([v13]:List Int)),(v11++([(((d1.getD (Ty.zero Y7)).1.2.2.2.1).getD v17.toNat (0:Int))]:List Int)),((aI .and .u32 (Int.fdiv ((d1.getD (Ty.zero Y7)).1.2.2.1) (2 ^ (min v17.toNat IntKind.u32.bits))) (1:Int)) == (1:Int)),(IntKind.i64.wrap (v13+(1:Int)))))else none)else none)else none)else none)else none)else none)))))else none)
 else some (Sum.inr (v10,v11)))
def cJ(d1:Option (((List (List UInt8))×Int×Int×(List Int)×List (Int×Tree×Tree))×((List (List Int))×List Int)×(List (List Int))×List Int))(v14 r3 r7:List Int):((List Int)×Int)→Option (((List Int)×Int)⊕(List Int)):=fun(v23,v24) =>
 (if(decide (v24<(v14.length:Int)))=true then(if d1.isSome=true then(if 0≤v24∧v24<(r3.length:Int)then(if 0≤(r3.getD v24.toNat (0:Int))∧(r3.getD v24.toNat (0:Int))<(((d1.getD (Ty.zero Y7)).2.1.2).length:Int)then(if d1.isSome=true then(if 0≤(IntKind.i64.wrap ((v14.length:Int) - v24))∧(IntKind.i64.wrap ((v14.length:Int) - v24))<(r7.length:Int)then(if 0≤(r7.getD ((IntKind.i64.wrap ((v14.length:Int) - v24)).toNat) (0:Int))∧(r7.getD ((IntKind.i64.wrap ((v14.length:Int) - v24)).toNat) (0:Int))<(((d1.getD (Ty.zero Y7)).2.2.2).length:Int)then(if 0≤v24∧v24<(v14.length:Int)then(if v24.toNat<v14.length then(if 0≤(v14.getD v24.toNat (0:Int))∧(v14.getD v24.toNat (0:Int))<(v23.length:Int)then(if(v14.getD v24.toNat (0:Int)).toNat<v23.length then(((if((aI .and .u32 (((d1.getD (Ty.zero Y7)).2.1.2).getD ((r3.getD v24.toNat (0:Int)).toNat) (0:Int)) (((d1.getD (Ty.zero Y7)).2.2.2).getD ((r7.getD ((IntKind.i64.wrap ((v14.length:Int) - v24)).toNat) (0:Int)).toNat) (0:Int))) != (0:Int))=true then(if 0≤v24∧v24<(v14.length:Int)then(if v24.toNat<v14.length then(if d1.isSome=true then((fT (aI .and .u32 (((d1.getD (Ty.zero Y7)).2.1.2).getD ((r3.getD v24.toNat (0:Int)).toNat) (0:Int)) (((d1.getD (Ty.zero Y7)).2.2.2).getD ((r7.getD ((IntKind.i64.wrap ((v14.length:Int) - v24)).toNat) (0:Int)).toNat) (0:Int)))).bind fun r19 =>
 (if 0≤r19∧r19<(((d1.getD (Ty.zero Y7)).1.2.2.2.2).length:Int)then(if 0≤(v14.getD v24.toNat (0:Int))∧(v14.getD v24.toNat (0:Int))<((v23.set ((v14.getD v24.toNat (0:Int)).toNat) (1:Int)).length:Int)then(if(v14.getD v24.toNat (0:Int)).toNat<(v23.set ((v14.getD v24.toNat (0:Int)).toNat) (1:Int)).length then some (((v23.set ((v14.getD v24.toNat (0:Int)).toNat) (1:Int)).set ((v14.getD v24.toNat (0:Int)).toNat) ((((d1.getD (Ty.zero Y7)).1.2.2.2.2).getD r19.toNat ((0:Int),((Tree.node 0 0 []),(Tree.node 0 0 [])))).1)))else none)else none)else none))else none)else none)else none)
 else some ((v23.set ((v14.getD v24.toNat (0:Int)).toNat) (1:Int))))).bind fun v26=>some (Sum.inl (v26,(IntKind.i64.wrap (v24+(1:Int))))))else none)else none)else none)else none)else none)else none)else none)else none)else none)else none)
 else some (Sum.inr v23))
def cY(d1:Option (((List (List UInt8))×Int×Int×(List Int)×List (Int×Tree×Tree))×((List (List Int))×List Int)×(List (List Int))×List Int))(i1:List Int):Option (List Int) :=
 (if 0≤(IntKind.i64.wrap ((i1.length:Int)+(1:Int)))∧(IntKind.i64.wrap ((i1.length:Int)+(1:Int)))≤(IntKind.i64.wrap ((i1.length:Int)+(1:Int)))∧(1:Int)*(IntKind.i64.wrap ((i1.length:Int)+(1:Int)))≤281474976710656∧(IntKind.i64.wrap ((i1.length:Int)+(1:Int)))≤9223372036854775807 then(if 0≤(i1.length:Int)∧(i1.length:Int)<((List.replicate (IntKind.i64.wrap ((i1.length:Int)+(1:Int))).toNat (0:Int)).length:Int)then(if(i1.length:Int).toNat<(List.replicate (IntKind.i64.wrap ((i1.length:Int)+(1:Int))).toNat (0:Int)).length then(if d1.isNone=true then some ((List.replicate (IntKind.i64.wrap ((i1.length:Int)+(1:Int))).toNat (0:Int)).set ((i1.length:Int).toNat) (2:Int))
 else((iter (dL d1 i1) (([]:List Int),([]:List Int),false,(0:Int))).bind fun(v14,v15)=>(if d1.isSome=true then((hY ((d1.getD (Ty.zero Y7)).2.1.1) ((d1.getD (Ty.zero Y7)).2.1.2) v15).bind fun r3 =>
 ((bP v15).bind fun r5 =>
 (if d1.isSome=true then((hY ((d1.getD (Ty.zero Y7)).2.2.1) ((d1.getD (Ty.zero Y7)).2.2.2) r5).bind fun r7 =>
 ((iter (cJ d1 v14 r3 r7) (((List.replicate (IntKind.i64.wrap ((i1.length:Int)+(1:Int))).toNat (0:Int)).set ((i1.length:Int).toNat) (2:Int)),(1:Int))).bind fun v25=>some v25))else none)))else none)))else none)else none)else none)
theorem eU(β0 β1:Bool){d1:Option (((List (List UInt8))×Int×Int×(List Int)×List (Int×Tree×Tree))×((List (List Int))×List Int)×(List (List Int))×List Int)}{i1:List Int}{res:List Int}(h:cY d1 i1=some res):
  Pure Tryd.prog 11 [.p β0 (.ptr Y7) d1,.p β1 (.slice (.int .i64)) i1] (bX (fL false [⟨(.slice (.int .u8)),res⟩])):=by
 refine Pure.of_body bK Tryd.func11 (by kernel_rfl) rfl (nl rfl) (fun Bw w0=> ?_) rfl
 unfold cY at h
 refine G (GC 3 h (fun h=> ?_))
 obtain⟨c5,c6,h⟩:=g2 h
 refine GN a0 [(3,3,oc c5),(4,4,oc c6)] (aC (GN a0 [(1,1,⟨∃e,Tryd.prog.underlying 28=some (.pointer e),⟨_,rfl⟩⟩)] (aS h (fun hb1 h=> ?_) (fun hb1 h=> ?_))))
 ·refine G (aV (aG ?_))
  obtain rfl:=sI h
  exact aK [(.slice (.int .u8))] (by kernel_rfl)
 refine aB (aA (G (G (aC (G (aF (hU h (fun(v10,v11,v12,v13)=>aN [(0,.p β0 (.ptr Y7) d1),(5,.sl 0),(6,.sl 1),(7,.sl 2),(8,.bo v12),(26,.p β1 (.slice (.int .i64)) i1),(27,.i64 (i1.length:Int)),(28,.i64 v13)] (aAf ((List.replicate (IntKind.i64.wrap ((i1.length:Int)+(1:Int))).toNat (0:Int)).set ((i1.length:Int).toNat) (2:Int)) v10 v11) 3) 0 (fun(v14,v15)=>aN [(0,.p β0 (.ptr Y7) d1),(5,.sl 0),(6,.sl 1),(7,.sl 2)] (aAf ((List.replicate (IntKind.i64.wrap ((i1.length:Int)+(1:Int))).toNat (0:Int)).set ((i1.length:Int).toNat) (2:Int)) v14 v15) 3) (gg [.nilS 6 152 3 (.int .i64),.nilS 7 153 3 (.int .i64)] [32,152,153]) (fun y o h=> ?_) (fun r1 h=> ?_))))))))
 ·obtain⟨v10,v11,v12,v13⟩:=y
  unfold dL at h
  refine G (aC (aS h (fun hb19 h=> ?_) (fun hb19 h=> ?_)))
  ·refine aB (aA (aC (aF (GC 1 h (fun h=>aC (aC (fA h (fun v16=>aN [(0,.p β0 (.ptr Y7) d1),(5,.sl 0),(6,.sl 1),(7,.sl 2),(8,.bo v12),(9,.i64 v13),(10,.i64 (i1.getD v13.toNat (0:Int))),(26,.p β1 (.slice (.int .i64)) i1),(27,.i64 (i1.length:Int)),(28,.i64 v13),(44,.bo v16)] (aAf ((List.replicate (IntKind.i64.wrap ((i1.length:Int)+(1:Int))).toNat (0:Int)).set ((i1.length:Int).toNat) (2:Int)) v10 v11) 3) (fun v16 h=> ?_) (fun v16 h=> ?_))))))))
   ·rcases bY h with⟨hb22,h⟩ | ⟨hb22,h⟩
    ·refine gA ⟨[(2,true),(11,true)],[]⟩ [(3,11,oc hb22)] ?_
     exact eN h (gg [] [0,1,2])
    obtain⟨c51,h⟩:=bB h
    refine gA ⟨[(2,false),(11,false)],[]⟩ [(3,4,an hb22),(5,5,oc (And.intro hb22 c51)),(6,10,an hb22),(11,11,oc hb22)] ?_
    exact eN h (gg [] [0,1,2])
   refine aA (fA h (fun v17=>aN [(0,.p β0 (.ptr Y7) d1),(5,.sl 0),(6,.sl 1),(7,.sl 2),(8,.bo v12),(9,.i64 v13),(10,.i64 v17),(26,.p β1 (.slice (.int .i64)) i1),(27,.i64 (i1.length:Int)),(28,.i64 v13)] (aAf ((List.replicate (IntKind.i64.wrap ((i1.length:Int)+(1:Int))).toNat (0:Int)).set ((i1.length:Int).toNat) (2:Int)) v10 v11) 3) (fun v17 h=> ?_) (fun v17 h=> ?_))
   ·refine aS h (fun hb24 h=> ?_) (fun hb24 h=> ?_)
    ·refine Ge ?_
     exact eN h (gg [] [0,1,2])
    refine aB ?_
    exact eN h (gg [] [0,1,2])
   refine aA (aC (aC (fA h (fun v18=>aN [(0,.p β0 (.ptr Y7) d1),(5,.sl 0),(6,.sl 1),(7,.sl 2),(8,.bo v12),(9,.i64 v13),(10,.i64 v17),(26,.p β1 (.slice (.int .i64)) i1),(27,.i64 (i1.length:Int)),(28,.i64 v13),(56,.bo v18)] (aAf ((List.replicate (IntKind.i64.wrap ((i1.length:Int)+(1:Int))).toNat (0:Int)).set ((i1.length:Int).toNat) (2:Int)) v10 v11) 3) (fun v18 h=> ?_) (fun v18 h=> ?_))))
   ·rcases bY h with⟨hb27,h⟩ | ⟨hb27,h⟩
    ·obtain⟨c56,c57,h⟩:=g2 h
     refine gA ⟨[(1,true),(11,true)],[]⟩ [(2,2,an hb27),(3,3,oc (And.intro hb27 c56)),(4,7,an hb27),(8,8,oc (And.intro hb27 c57)),(9,10,an hb27),(11,11,oc hb27)] ?_
     exact eN h (gg [] [0,1,2])
    refine gA ⟨[(1,false),(11,false)],[]⟩ [(2,11,oc hb27)] ?_
    exact eN h (gg [] [0,1,2])
   refine aA (aS h (fun hb28 h=> ?_) (fun hb28 h=> ?_))
   ·refine aH (bM (aJ (aA (Ge ?_))))
    exact eB h (gg [] [0,1,2])
   refine aB (aA ?_)
   obtain⟨c60,c61,h⟩:=g2 h
   refine GN a0 [(1,1,oc c60),(6,6,oc c61)] ?_
   obtain⟨c66,c67,c68,c69,h⟩:=g4 h
   refine xB a0 [(3,3,oc c66),(6,6,oc c67),(11,11,oc c68),(14,14,oc c69)] (aM (aA (Ge ?_)))
   exact eB h (gg [] [0,107,195])
  refine aH (bM ?_)
  exact eX h (gg [] [0,1,2])
 obtain⟨v14,v15⟩:=r1
 refine aJ (aA ?_)
 obtain⟨c71,h⟩:=bB h
 obtain⟨r3,q2,h⟩:=aD h
 have u_1:=(sR β0 β0 true q2)
 refine GN ⟨[],[(5,(oP u_1))]⟩ [(1,1,oc c71),(5,5,oc u_1)] ?_
 obtain⟨r5,q4,h⟩:=aD h
 refine GO 1 [2] (iT q4) ?_
 obtain⟨c73,h⟩:=bB h
 obtain⟨r7,q6,h⟩:=aD h
 have u_1:=(sR β0 β0 true q6)
 refine GN ⟨[],[(5,(oP u_1))]⟩ [(1,1,oc c73),(5,5,oc u_1)] (aC (G (aF (hU h (fun(v23,v24)=>aN [(0,.p β0 (.ptr Y7) d1),(5,.sl 0),(6,.sl 1),(11,.p false (.slice (.int .i64)) r3),(12,.p false (.slice (.int .i64)) r7),(13,.i64 v24)] [(0,.arr 47 (.int .u8) v23),(1,.arr 3 (.int .i64) v14)] 2) 2 (fun v25=>aN [(5,.sl 0)] [(0,.arr 47 (.int .u8) v25)] 1) (gg [] [0,1]) (fun y o h=> ?_) (fun v25 h=> ?_)))))
 ·obtain⟨v23,v24⟩:=y
  unfold cJ at h
  refine aC (G (aS h (fun hb35 h=> ?_) (fun hb35 h=> ?_)))
  ·refine aB (aA (aC (aF ?_)))
   obtain⟨c168,c169,c170,c171,h⟩:=g4 h
   obtain⟨c172,c173,h⟩:=g2 h
   refine GD a0 [(1,1,oc c168),(7,7,oc c169),(9,9,oc c170),(12,12,oc c171),(21,21,oc c172),(23,23,oc c173)] ?_
   obtain⟨c178,c179,c180,c181,h⟩:=g4 h
   refine GN a0 [(3,3,oc c178),(4,4,oc c179),(5,5,oc c180),(6,6,oc c181)] (G (fA h (fun v26=>aN [(0,.p β0 (.ptr Y7) d1),(5,.sl 0),(6,.sl 1),(11,.p false (.slice (.int .i64)) r3),(12,.p false (.slice (.int .i64)) r7),(13,.i64 v24)] [(0,.arr 47 (.int .u8) v26),(1,.arr 3 (.int .i64) v14)] 2) (fun v26 h=> ?_) (fun v26 h=> ?_)))
   ·refine aS h (fun hb37 h=> ?_) (fun hb37 h=> ?_)
    ·obtain⟨c200,c201,c202,h⟩:=g3 h
     obtain⟨r19,q18,h⟩:=aD h
     obtain⟨c203,c204,c205,h⟩:=g3 h
     have u_1:=(lE q18)
     refine xB ⟨[],[(11,(oP u_1))]⟩ [(3,3,oc c200),(4,4,oc c201),(6,6,oc c202),(11,11,oc u_1),(12,12,oc c203),(15,15,oc c204),(16,16,oc c205)] ?_
     exact eN h (gg [] [0,1])
    refine aB ?_
    exact eN h (gg [] [0,1])
   refine aM (aA (Ge ?_))
   exact eB h (gg [] [0,1])
  refine aH (bM ?_)
  exact eX h (gg [] [0])
 refine aJ (aA (G (aV ?_)))
 obtain rfl:=sI h
 exact aK [(.slice (.int .u8))] (by kernel_rfl)
def gR(a1 b1:List Int):(Int)→Option ((Int)⊕((Unit)⊕(Bool))):=fun i2 =>
 (if(decide (i2<(a1.length:Int)))=true then(if 0≤i2∧i2<(a1.length:Int)then(if 0≤i2∧i2<(b1.length:Int)then(if((a1.getD i2.toNat (0:Int)) != (b1.getD i2.toNat (0:Int)))=true then some (Sum.inr (Sum.inr false))
 else some (Sum.inl (IntKind.i64.wrap (i2+(1:Int)))))else none)else none)
 else some (Sum.inr (Sum.inl ())))
def dS(a1 b1:List Int):Option (Bool) :=
 (if((a1.length:Int) != (b1.length:Int))=true then some false
 else((iter (gR a1 b1) (0:Int)).bind fun(r2:((Unit)⊕(Bool)))=>match r2 with
 | .inl _=>some true
 | .inr (r1)=>some r1))
theorem eA(β0 β1:Bool){a1:List Int}{b1:List Int}{res:Bool}(h:dS a1 b1=some res):
  Pure Tryd.prog 10 [.p β0 (.slice (.int .u8)) a1,.p β1 (.slice (.int .u8)) b1] (bX (fL false [⟨.bool,res⟩])):=by
 refine Pure.of_body bK Tryd.func10 (by kernel_rfl) rfl (nl rfl) (fun Bw w0=> ?_) rfl
 unfold dS at h
 refine G (aC (G (aS h (fun hb1 h=> ?_) (fun hb1 h=> ?_))))
 ·refine G (aV (aG ?_))
  obtain rfl:=sI h
  exact aK [.bool] (by kernel_rfl)
 refine aB (aA (aC (G (aF (oH h (fun i2=>aN [(0,.p β0 (.slice (.int .u8)) a1),(1,.p β1 (.slice (.int .u8)) b1),(5,.i64 i2)] [] 0) (fS (gW Tryd.f10.ntmps 0 (fun _=>aN [] [] 0)) (nE tb Tryd.f10.results.toList (fun r1=>[⟨.bool,r1⟩]))) (gg [] []) (fun i2 o h=> ?_) (fun r2 h e σ' hq=> ?_))))))
 ·unfold gR at h
  refine aC (G (aS h (fun hb6 h=> ?_) (fun hb6 h=> ?_)))
  ·refine aB (aA (aC (aF ?_)))
   obtain⟨c11,c12,h⟩:=g2 h
   refine GD a0 [(2,2,oc c11),(6,6,oc c12)] (aS h (fun hb7 h=> ?_) (fun hb7 h=> ?_))
   ·refine G (aV ?_)
    obtain rfl:=sI h
    refine aT (aG (d9 (aR ?_)))
    exact gH (aK [.bool] (by kernel_rfl))
   refine aB (aM (aA (Ge ?_)))
   exact eB h (gg [] [])
  refine aH (bM ?_)
  obtain rfl:=sI h
  refine gE (b5 ?_)
  exact dB (gg [] [])
 rcases r2 with _ | r1
 ·obtain⟨rfl,hle⟩:=hq
  refine fG ?_ hle
  refine aJ (aA (G (aV ?_)))
  obtain rfl:=sI h
  exact aK [.bool] (by kernel_rfl)
 obtain⟨rfl,hr⟩:=hq
 refine aT (aG ?_)
 obtain rfl:=sI h
 exact hr
def fI  : Option (Bool) :=
 ((fP ([99,108,97,115,115,32,65,32,66,59,32,107,101,101,112,32,65,32,47,32,66,59]:List UInt8)).bind fun(r3,r4) =>
 ((fP ([99,108,97,115,115,32,88,32,74,59,32,106,111,105,110,32,74,32,47,32,88,59]:List UInt8)).bind fun(r7,r8) =>
 (((if(r4.1 != (0:Int))=true then some (true)
 else some ((r8.1 != (0:Int))))).bind fun v1=>(if v1=true then some false
 else((((cY r3 ([(0:Int),(1:Int),(0:Int)]:List Int)).bind fun r17 =>
 ((dS r17 ([(0:Int),(0:Int),(1:Int),(2:Int)]:List Int)).bind fun r18 =>
 (if r18=true then((cY r7 ([(1:Int),(0:Int),(1:Int),(1:Int),(0:Int)]:List Int)).bind fun r19 =>
 ((dS r19 ([(0:Int),(1:Int),(0:Int),(0:Int),(1:Int),(2:Int)]:List Int)).bind fun r20 =>
 some (r20)))
 else some (false))))).bind fun v2=>some v2)))))
theorem mQ{res:Bool}(h:fI=some res):
  Pure Tryd.prog 8 [] (bX (fL false [⟨.bool,res⟩])):=by
 refine Pure.of_body bK Tryd.func8 (by kernel_rfl) rfl (nl rfl) (fun Bw w0=> ?_) rfl
 unfold fI at h
 refine G ?_
 obtain⟨⟨r3,r4⟩,q2,h⟩:=aD h
 refine GP 0 (mX q2) ?_
 obtain⟨⟨r7,r8⟩,q4,h⟩:=aD h
 refine GP 0 (mX q4) (aC (aC (fA h (fun v1=>aN [(1,.p false (.ptr Y7) r3),(3,.p false (.ptr Y7) r7),(20,.bo v1)] [] 0) (fun v1 h=> ?_) (fun v1 h=> ?_))))
 ·rcases bY h with⟨hb3,h⟩ | ⟨hb3,h⟩
  ·refine gA ⟨[(3,true),(7,true)],[]⟩ [(4,7,oc hb3)] ?_
   exact eN h (gg [] [])
  refine gA ⟨[(3,false),(7,false)],[]⟩ [(4,6,an hb3),(7,7,oc hb3)] ?_
  exact eN h (gg [] [])
 refine aA (aS h (fun hb4 h=> ?_) (fun hb4 h=> ?_))
 ·refine G (aV (aG ?_))
  obtain rfl:=sI h
  exact aK [.bool] (by kernel_rfl)
 refine aB (aA (aC (fA h (fun v2=>aN [(0,.bo v2)] [] 0) (fun v2 h=> ?_) (fun v2 h=> ?_))))
 ·obtain⟨r17,q13,h⟩:=aD h
  obtain⟨r18,q14,h⟩:=aD h
  rcases bY h with⟨hb7,h⟩ | ⟨hb7,h⟩
  ·obtain⟨r19,q15,h⟩:=aD h
   obtain⟨r20,q16,h⟩:=aD h
   have u_1:=(eU false true q13)
   have u_2:=(eA false true q14)
   have u_3:=(eU false true q15)
   have u_4:=(eA false true q16)
   refine gA ⟨[(5,true),(11,true)],[(2,(oP u_1)),(4,(oP u_2)),(8,(oP u_3)),(10,(oP u_4))]⟩ [(2,2,oc u_1),(4,4,oc u_2),(6,7,an hb7),(8,8,oc (And.intro hb7 u_3)),(9,9,an hb7),(10,10,oc (And.intro hb7 u_4)),(11,11,oc hb7)] ?_
   exact eN h (gg [] [])
  have u_1:=(eU false true q13)
  have u_2:=(eA false true q14)
  refine gA ⟨[(5,false),(11,false)],[(2,(oP u_1)),(4,(oP u_2))]⟩ [(2,2,oc u_1),(4,4,oc u_2),(6,11,oc hb7)] ?_
  exact eN h (gg [] [])
 refine aA (aV ?_)
 obtain rfl:=sI h
 exact aK [.bool] (by kernel_rfl)
end
end Go.Proofs.YtacpjjgochokcaaDoor.T
