/- Functions of the program as functions on data, and that the program's own come to them. -/
import Derived.Test.YtbedjpdfkmfplaaGreatDoorTvT21b0
import Derived.Test.YtbedjpdfkmfplaaGreatDoorTvT21ba1
namespace Go.Proofs.YtbedjpdfkmfplaaGreatDoor.T
open Go Go.Tv Go.Proofs
noncomputable section
set_option maxRecDepth 100000
set_option maxHeartbeats 4000000
def B8(d1:List Tree):((List Int)×(List Z2)×Bool×(List G5)×Int)→Option (((List Int)×(List Z2)×Bool×(List G5)×Int)⊕((List Int)×(List Z2)×Bool×List G5)):=fun(v7,v8,v9,v10,v11) =>
 (if(decide (v11<(d1.length:Int)))=true then(if 0≤v11∧v11<(d1.length:Int)then((iM 1000 ((d1.getD v11.toNat (Tree.node 0 0 [])).op) ((d1.getD v11.toNat (Tree.node 0 0 [])).set) ((d1.getD v11.toNat (Tree.node 0 0 [])).kids) v9 v7 v8).bind fun(r21,r22,r23,r24) =>
 (if(v10.length+([(r21.1,((r21.2.1.1,(r21.2.1.2.1,(r21.2.1.2.2.1,r21.2.1.2.2.2))),(r21.2.2.1,(r21.2.2.2.1,(r21.2.2.2.2.1,r21.2.2.2.2.2)))))]:List G5).length)*72≤140737488355328∧v10.length+([(r21.1,((r21.2.1.1,(r21.2.1.2.1,(r21.2.1.2.2.1,r21.2.1.2.2.2))),(r21.2.2.1,(r21.2.2.2.1,(r21.2.2.2.2.1,r21.2.2.2.2.2)))))]:List G5).length≤9223372036854775807 then some (Sum.inl (r22,r23,r24,(v10++([(r21.1,((r21.2.1.1,(r21.2.1.2.1,(r21.2.1.2.2.1,r21.2.1.2.2.2))),(r21.2.2.1,(r21.2.2.2.1,(r21.2.2.2.2.1,r21.2.2.2.2.2)))))]:List G5)),(IntKind.i64.wrap (v11+1))))else none))else none)
 else some (Sum.inr (v7,v8,v9,v10)))
def zH(v15:List G5):(Int×Int×Int×Int×Int)→Option ((Int×Int×Int×Int×Int)⊕Z2):=fun(v21,v22,v23,v24,v25) =>
 (if(decide (v25<(v15.length:Int)))=true then(if 0≤v25∧v25<(v15.length:Int)then(if v25.toNat<v15.length then((eH v21 v22 v23 v24 ((v15.getD v25.toNat (false,((0,0,0,0),(0,0,0,0)))).2.1.1) ((v15.getD v25.toNat (false,((0,0,0,0),(0,0,0,0)))).2.1.2.1) ((v15.getD v25.toNat (false,((0,0,0,0),(0,0,0,0)))).2.1.2.2.1) ((v15.getD v25.toNat (false,((0,0,0,0),(0,0,0,0)))).2.1.2.2.2)).bind fun r31 =>
 some (Sum.inl (r31.1,r31.2.1,r31.2.2.1,r31.2.2.2,(IntKind.i64.wrap (v25+1)))))else none)else none)
 else some (Sum.inr (v21,v22,v23,v24)))
def C1(v13 v325:List Z2)(v327:Int):(Int×Int×Int×Int×Int)→Option ((Int×Int×Int×Int×Int)⊕Z2):=fun(v343,v344,v345,v346,v347) =>
 (if(decide (v347<(v13.length:Int)))=true then((j7 ((v325.getD v327.toNat (0,0,0,0)).1) ((v325.getD v327.toNat (0,0,0,0)).2.1) ((v325.getD v327.toNat (0,0,0,0)).2.2.1) ((v325.getD v327.toNat (0,0,0,0)).2.2.2) v347).bind fun r502 =>
 (((if r502=true then(if 0≤v347∧v347<(v13.length:Int)then(if v347.toNat<v13.length then((eH v343 v344 v345 v346 ((v13.getD v347.toNat (0,0,0,0)).1) ((v13.getD v347.toNat (0,0,0,0)).2.1) ((v13.getD v347.toNat (0,0,0,0)).2.2.1) ((v13.getD v347.toNat (0,0,0,0)).2.2.2)).bind fun r506 =>
 some ((r506.1,r506.2.1,r506.2.2.1,r506.2.2.2)))else none)else none)
 else some ((v343,v344,v345,v346)))).bind fun(v352,v353,v354,v355)=>some (Sum.inl (v352,v353,v354,v355,(IntKind.i64.wrap (v347+1))))))
 else some (Sum.inr (v343,v344,v345,v346)))
def zS(v15:List G5)(v325:List Z2)(v327:Int):(Int×Int)→Option ((Int×Int)⊕(Int)):=fun(v362,v363) =>
 (if(decide (v363<(v15.length:Int)))=true then(if 0≤v363∧v363<(v15.length:Int)then(if v363.toNat<v15.length then(((if((v15.getD v363.toNat (false,((0,0,0,0),(0,0,0,0)))).1)=true then some (true)
 else((yN ((v325.getD v327.toNat (0,0,0,0)).1) ((v325.getD v327.toNat (0,0,0,0)).2.1) ((v325.getD v327.toNat (0,0,0,0)).2.2.1) ((v325.getD v327.toNat (0,0,0,0)).2.2.2) ((v15.getD v363.toNat (false,((0,0,0,0),(0,0,0,0)))).2.2.1) ((v15.getD v363.toNat (false,((0,0,0,0),(0,0,0,0)))).2.2.2.1) ((v15.getD v363.toNat (false,((0,0,0,0),(0,0,0,0)))).2.2.2.2.1) ((v15.getD v363.toNat (false,((0,0,0,0),(0,0,0,0)))).2.2.2.2.2)).bind fun r517 =>
 some (r517)))).bind fun v365=>(((if v365=true then(if 0≤v363 then some ((aT .or .u32 v362 (IntKind.u32.wrap (1*2 ^ (min v363.toNat IntKind.u32.bits)))))else none)
 else some (v362))).bind fun v366=>some (Sum.inl (v366,(IntKind.i64.wrap (v363+1))))))else none)else none)
 else some (Sum.inr v362))
def zI(v12:List Int)(v348 v349 v350 v351 v438:Int):(Int×Int×Int×Int×Int)→Option ((Int×Int×Int×Int×Int)⊕Z2):=fun(v457,v458,v459,v460,v461) =>
 (if(decide (v461<(v12.length:Int)))=true then(if 0≤v461∧v461<(v12.length:Int)then(if v461.toNat<v12.length then((((j7 v348 v349 v350 v351 v461).bind fun r690 =>
 (if r690=true then(if 0≤v438 then some (((aT .and .u32 (Int.fdiv (v12.getD v461.toNat 0) (2 ^ (min v438.toNat IntKind.u32.bits))) (1:Int)) == 1))else none)
 else some (false)))).bind fun v466=>(((if v466=true then((lT v461 v457 v458 v459 v460).bind fun(r703,r704,r705,r706) =>
 some ((r703,r704,r705,r706)))
 else some ((v457,v458,v459,v460)))).bind fun(v467,v468,v469,v470)=>some (Sum.inl (v467,v468,v469,v470,(IntKind.i64.wrap (v461+1))))))else none)else none)
 else some (Sum.inr (v457,v458,v459,v460)))
def zU(i1:Int)(v12:List Int)(v348 v349 v350 v351:Int):((List Z2)×(List (Z2×Int))×(List Int)×Int)→Option (((List Z2)×(List (Z2×Int))×(List Int)×Int)⊕(((List Z2)×(List (Z2×Int))×List Int)⊕(Z17×Int))):=fun(v435,v436,v437,v438) =>
 (if(decide (v438<i1))=true then((iter (zI v12 v348 v349 v350 v351 v438) (0,0,0,0,0)).bind fun(v462,v463,v464,v465)=>(((if(!((bG pJ v436 (v462,(v463,(v464,v465)))).isSome))=true then(if(decide ((v435.length:Int)≥300))=true then some ((Sum.inr ((([]:List (List Int)),([]:List Int)),27)))
 else(if(v435.length+([(v462,(v463,(v464,v465)))]:List Z2).length)*32≤140737488355328∧v435.length+([(v462,(v463,(v464,v465)))]:List Z2).length≤9223372036854775807 then some ((Sum.inl ((v435++([(v462,(v463,(v464,v465)))]:List Z2)),(fF pJ v436 (v462,(v463,(v464,v465))) (v435.length:Int)),(v435.length:Int))))else none))
 else some ((Sum.inl (v435,v436,((bG pJ v436 (v462,(v463,(v464,v465)))).getD 0)))))).bind fun(r711:(((List Z2)×(List (Z2×Int))×Int)⊕(Z17×Int)))=>match r711 with
 | .inl (v471,v472,v473)=>(if 0≤v438∧v438<(v437.length:Int)then(if v438.toNat<v437.length then some (Sum.inl (v471,v472,(v437.set v438.toNat v473),(IntKind.i64.wrap (v438+1))))else none)else none)
 | .inr ((r709,r710))=>some (Sum.inr (Sum.inr (r709,r710)))))
 else some (Sum.inr (Sum.inl (v435,v436,v437))))
def B4(i1:Int)(v12:List Int)(v13:List Z2)(v15:List G5)(v26 v27 v28 v29:Int):((List (List Int))×(List Int)×(List Z2)×(List (Z2×Int))×Int)→Option (((List (List Int))×(List Int)×(List Z2)×(List (Z2×Int))×Int)⊕(Z17⊕(Z17×Int))):=fun(v323,v324,v325,v326,v327) =>
 (if(decide (v327<(v325.length:Int)))=true then(if 0≤v327∧v327<(v325.length:Int)then(if v327.toNat<v325.length then((iter (C1 v13 v325 v327) (v26,v27,v28,v29,0)).bind fun(v348,v349,v350,v351)=>((iter (zS v15 v325 v327) (0,0)).bind fun v364=>(if 0≤i1∧i1≤i1∧8*i1≤281474976710656∧i1≤9223372036854775807 then((iter (zU i1 v12 v348 v349 v350 v351) (v325,v326,(List.replicate i1.toNat (0:Int)),0)).bind fun(r712:(((List Z2)×(List (Z2×Int))×List Int)⊕(Z17×Int)))=>match r712 with
 | .inl (v439,v440,v441)=>(if(v323.length+([v441]:List (List Int)).length)*24≤140737488355328∧v323.length+([v441]:List (List Int)).length≤9223372036854775807 then(if(v324.length+([v364]:List Int).length)*4≤140737488355328∧v324.length+([v364]:List Int).length≤9223372036854775807 then some (Sum.inl ((v323++([v441]:List (List Int))),(v324++([v364]:List Int)),v439,v440,(IntKind.i64.wrap (v327+1))))else none)else none)
 | .inr ((r646,r647))=>some (Sum.inr (Sum.inr (r646,r647))))else none)))else none)else none)
 else some (Sum.inr (Sum.inl (v323,v324))))
def vX(d1:List Tree)(i1:Int):Option (Z17×Int) :=
 (((if(decide (i1<1))=true then some (true)
 else(if(decide (i1 > 24))=true then some (true)
 else some ((decide ((d1.length:Int) > 24)))))).bind fun v1=>(if v1=true then some ((([]:List (List Int)),([]:List Int)),2)
 else((iter (B8 d1) (([]:List Int),([]:List Z2),false,([]:List G5),0)).bind fun(v12,v13,v14,v15)=>(if v14=true then some ((([]:List (List Int)),([]:List Int)),26)
 else((iter (zH v15) (0,0,0,0,0)).bind fun(v26,v27,v28,v29)=>((iter (B4 i1 v12 v13 v15 v26 v27 v28 v29) (([]:List (List Int)),([]:List Int),([(0,0,0,0)]:List Z2),(fF pJ ([]:List (Z2×Int)) (0,0,0,0) (0:Int)),0)).bind fun(r713:(Z17⊕(Z17×Int)))=>match r713 with
 | .inl (v328,v329)=>some ((v328,v329),0)
 | .inr ((r485,r486))=>some (r485,r486)))))))
theorem B7(β0:Bool){d1:List Tree}{i1:Int}{res:Z17×Int}(h:vX d1 i1=some res):
  Pure Tryz.prog 84 [.p β0 (.slice (.tree .u8 .u32)) d1,.i64 i1] (aX (bJ false [⟨Y12,res.1⟩,⟨(.int .i64),res.2⟩])):=by
 refine Pure.of_body bB Tryz.func84 (by kernel_rfl) rfl (nl rfl) (fun Bw w0=> ?_) rfl
 unfold vX at h
 refine G (aC (aC (bO h (fun v1=>aM [(0,.p β0 (.slice (.tree .u8 .u32)) d1),(1,.i64 i1),(4,.adr 0 0 2 0),(40,.bo v1)] [(0,.box [.nils,.nils])] 1) (fun v1 h=> ?_) (fun v1 h=> ?_))))
 ·rcases aW h with⟨hb5,h⟩ | ⟨hb5,h⟩
  ·refine bS ⟨[(2,true),(5,true)],[]⟩ [(3,5,oc hb5)] ?_
   exact eN h (gg [] [0])
  rcases aW h with⟨hb6,h⟩ | ⟨hb6,h⟩
  ·refine bS ⟨[(2,false),(5,false),(6,true),(10,true)],[]⟩ [(3,4,an hb5),(5,5,oc hb5),(7,10,oc hb6)] ?_
   exact eN h (gg [] [0])
  refine bS ⟨[(2,false),(5,false),(6,false),(10,false)],[]⟩ [(3,4,an hb5),(5,5,oc hb5),(7,9,an hb6),(10,10,oc hb6)] ?_
  exact eN h (gg [] [0])
 refine aA (aO h (fun hb7 h=> ?_) (fun hb7 h=> ?_))
 ·refine G (aL (aE ?_))
  obtain rfl:=sI h
  exact aD [Y12,(.int .i64)] (by kernel_rfl)
 refine aB (aA (G (G (aC (G (aF (cW h (fun(v7,v8,v9,v10,v11)=>aM [(1,.i64 i1),(4,.adr 0 0 2 0),(6,.adr 1 0 3 0),(7,.sl 4),(44,.p β0 (.slice (.tree .u8 .u32)) d1),(45,.i64 (d1.length:Int)),(46,.i64 v11)] (aKB v9 v7 v8 v10) 5) 0 (fun(v12,v13,v14,v15)=>aM [(1,.i64 i1),(4,.adr 0 0 2 0),(6,.adr 1 0 3 0),(7,.sl 4)] (aKB v14 v12 v13 v15) 5) (gg [.nilC 9 0 57 133 (.int .u32),.nilC 9 1 58 271 pJ,.nilS 7 59 273 Y16] [0,9,57,58,59]) (fun y o h=> ?_) (fun r25 h=> ?_))))))))
 ·obtain⟨v7,v8,v9,v10,v11⟩:=y
  unfold B8 at h
  refine G (aC (aO h (fun hb10 h=> ?_) (fun hb10 h=> ?_)))
  ·refine aB (aA (aC (aF (GC 0 h (fun h=> ?_)))))
   obtain⟨⟨r21,r22,r23,r24⟩,q6,h⟩:=aG h
   obtain⟨c12,h⟩:=aS h
   have u_1:=(mF 1000 β0 q6)
   refine bS ⟨[],[(3,(oO u_1 [1,2,3]))]⟩ [(3,3,oc u_1),(5,5,oc c12)] (aK (aA (Ge ?_)))
   exact eB h (gg [] [0,1,69,70,85])
  refine aH (aY ?_)
  exact eX h (gg [] [0,1,2,3,4])
 obtain⟨v12,v13,v14,v15⟩:=r25
 refine aJ (aA (aC (G (aO h (fun hb11 h=> ?_) (fun hb11 h=> ?_)))))
 ·refine G (aL (aE ?_))
  obtain rfl:=sI h
  exact aD [Y12,(.int .i64)] (by kernel_rfl)
 refine aB (aA (G (aC (G (aF (cW h (fun(v21,v22,v23,v24,v25)=>aM [(1,.i64 i1),(4,.adr 0 0 2 0),(6,.adr 1 0 3 0),(7,.sl 4),(10,.adr 5 0 4 0),(62,.sl 4),(63,.i64 (v15.length:Int)),(64,.i64 v25)] (aKm v14 v12 v13 v15 v21 v22 v23 v24) 6) 2 (fun(v26,v27,v28,v29)=>aM [(1,.i64 i1),(4,.adr 0 0 2 0),(6,.adr 1 0 3 0),(7,.sl 4),(10,.adr 5 0 4 0)] (aKm v14 v12 v13 v15 v26 v27 v28 v29) 6) (gg [] [0,1,2,3,4,37]) (fun y o h=> ?_) (fun r32 h=> ?_)))))))
 ·obtain⟨v21,v22,v23,v24,v25⟩:=y
  unfold zH at h
  refine G (aC (aO h (fun hb14 h=> ?_) (fun hb14 h=> ?_)))
  ·refine aB (aA (aC (aF ?_)))
   obtain⟨c23,c24,h⟩:=g2 h
   refine GN a0 [(0,0,oc c23),(1,1,oc c24)] ?_
   obtain⟨r31,q12,h⟩:=aG h
   refine GPe 3 (dN q12) (aK (aA (Ge ?_)))
   exact eB h (gg [] [0,1,2,3,4,5])
  refine aH (aY ?_)
  exact eX h (gg [] [0,1,2,3,4,5])
 obtain⟨v26,v27,v28,v29⟩:=r32
 refine aJ (aA (G (G (GN a0 [(0,0,oc aB0),(2,2,oc aB0)] (aC (G (aF (mG h (fun(v323,v324,v325,v326,v327)=>aM [(1,.i64 i1),(4,.adr 0 0 2 0),(6,.adr 1 0 3 0),(7,.sl 4),(10,.adr 5 0 4 0),(13,.adr 6 0 2 0),(14,.sl 9),(15,.mp 10),(16,.i64 v327)] (aLN v14 v12 v13 v15 v26 v27 v28 v29 v323 v324 v325 v326) 11) (eI (fV Tryz.f84.ntmps 4 (fun(v328,v329)=>aM [(4,.adr 0 0 2 0),(13,.adr 1 0 2 0)] (aKk v328 v329) 4)) (iC tb Tryz.f84.results.toList (fun(r485,r486)=>[⟨Y12,r485⟩,⟨(.int .i64),r486⟩]))) (gg [.nilC 6 0 86 134 (.slice (.int .i64)),.nilC 6 1 87 133 (.int .u32)] [0,1,2,3,4,5,6,86,87,22,38]) (fun y o h=> ?_) (fun r713 h e σ' hq=> ?_)))))))))
 ·obtain⟨v323,v324,v325,v326,v327⟩:=y
  unfold B4 at h
  refine aC (G (aO h (fun hb209 h=> ?_) (fun hb209 h=> ?_)))
  ·refine aB (aA (aC (aF ?_)))
   obtain⟨c317,c318,h⟩:=g2 h
   refine GN a0 [(2,2,oc c317),(3,3,oc c318)] (G (G (aC (G (aF ?_)))))
   refine cW h (fun(v343,v344,v345,v346,v347)=>aM [(1,.i64 i1),(4,.adr 0 0 2 0),(6,.adr 1 0 3 0),(7,.sl 4),(10,.adr 5 0 4 0),(13,.adr 6 0 2 0),(14,.sl 9),(15,.mp 10),(16,.i64 v327),(17,.adr 11 0 4 0),(18,.u32 0),(19,.adr 12 0 4 0),(93,.i64 (v13.length:Int)),(94,.i64 v347)] (aF2 v14 v12 v13 v15 v26 v27 v28 v29 v323 v324 v325 v326 ((v325.getD v327.toNat (0,0,0,0)).1) ((v325.getD v327.toNat (0,0,0,0)).2.1) ((v325.getD v327.toNat (0,0,0,0)).2.2.1) ((v325.getD v327.toNat (0,0,0,0)).2.2.2) v343 v344 v345 v346) 13) 6 (fun(v348,v349,v350,v351)=>aM [(1,.i64 i1),(4,.adr 0 0 2 0),(6,.adr 1 0 3 0),(7,.sl 4),(10,.adr 5 0 4 0),(13,.adr 6 0 2 0),(14,.sl 9),(15,.mp 10),(16,.i64 v327),(17,.adr 11 0 4 0),(18,.u32 0),(19,.adr 12 0 4 0)] (aF2 v14 v12 v13 v15 v26 v27 v28 v29 v323 v324 v325 v326 ((v325.getD v327.toNat (0,0,0,0)).1) ((v325.getD v327.toNat (0,0,0,0)).2.1) ((v325.getD v327.toNat (0,0,0,0)).2.2.1) ((v325.getD v327.toNat (0,0,0,0)).2.2.2) v348 v349 v350 v351) 13) (gg [] [0,1,2,3,4,5,6,7,8,9,10,75,107]) (fun y o h=> ?_) (fun r508 h=> ?_)
   ·obtain⟨v343,v344,v345,v346,v347⟩:=y
    unfold C1 at h
    refine G (aC (aO h (fun hb216 h=> ?_) (fun hb216 h=> ?_)))
    ·refine aB (aA (aC (aF (G ?_))))
     obtain⟨r502,q206,h⟩:=aG h
     refine GP 2 (jF q206) (bO h (fun(v352,v353,v354,v355)=>aM [(1,.i64 i1),(4,.adr 0 0 2 0),(6,.adr 1 0 3 0),(7,.sl 4),(10,.adr 5 0 4 0),(13,.adr 6 0 2 0),(14,.sl 9),(15,.mp 10),(16,.i64 v327),(17,.adr 11 0 4 0),(18,.u32 0),(19,.adr 12 0 4 0),(93,.i64 (v13.length:Int)),(94,.i64 v347)] (aF2 v14 v12 v13 v15 v26 v27 v28 v29 v323 v324 v325 v326 ((v325.getD v327.toNat (0,0,0,0)).1) ((v325.getD v327.toNat (0,0,0,0)).2.1) ((v325.getD v327.toNat (0,0,0,0)).2.2.1) ((v325.getD v327.toNat (0,0,0,0)).2.2.2) v352 v353 v354 v355) 13) (fun r507 h=> ?_) (fun r507 h=> ?_))
     ·refine aO h (fun hb218 h=> ?_) (fun hb218 h=> ?_)
      ·obtain⟨c341,c342,h⟩:=g2 h
       obtain⟨r506,q210,h⟩:=aG h
       have u_1:=(dN q210)
       refine qA ⟨[],[(8,(oP u_1))]⟩ [(6,6,oc c341),(7,7,oc c342),(8,8,oc u_1)] ?_
       exact eN h (gg [] [0,1,2,3,4,5,6,7,8,9,10,11,12])
      refine aB ?_
      exact eN h (gg [] [0,1,2,3,4,5,6,7,8,9,10,11,12])
     obtain⟨v352,v353,v354,v355⟩:=r507
     refine aK (aA (Ge ?_))
     exact eB h (gg [] [0,1,2,3,4,5,6,7,8,9,10,11,12])
    refine aH (aY ?_)
    exact eX h (gg [] [0,1,2,3,4,5,6,7,8,9,10,11,12])
   obtain⟨v348,v349,v350,v351⟩:=r508
   refine aJ (aA (aC (G (aF ?_))))
   refine cW h (fun(v362,v363)=>aM [(1,.i64 i1),(4,.adr 0 0 2 0),(6,.adr 1 0 3 0),(7,.sl 4),(10,.adr 5 0 4 0),(13,.adr 6 0 2 0),(14,.sl 9),(15,.mp 10),(16,.i64 v327),(17,.adr 11 0 4 0),(18,.u32 v362),(19,.adr 12 0 4 0),(110,.sl 4),(111,.i64 (v15.length:Int)),(112,.i64 v363)] (aF2 v14 v12 v13 v15 v26 v27 v28 v29 v323 v324 v325 v326 ((v325.getD v327.toNat (0,0,0,0)).1) ((v325.getD v327.toNat (0,0,0,0)).2.1) ((v325.getD v327.toNat (0,0,0,0)).2.2.1) ((v325.getD v327.toNat (0,0,0,0)).2.2.2) v348 v349 v350 v351) 13) 8 (fun v364=>aM [(1,.i64 i1),(4,.adr 0 0 2 0),(6,.adr 1 0 3 0),(7,.sl 4),(10,.adr 5 0 4 0),(13,.adr 6 0 2 0),(14,.sl 9),(15,.mp 10),(16,.i64 v327),(18,.u32 v364),(19,.adr 11 0 4 0)] (aLG v14 v12 v13 v15 v26 v27 v28 v29 v323 v324 v325 v326 v348 v349 v350 v351) 12) (gg [] [0,1,2,3,4,5,6,7,8,9,10,11,12]) (fun y o h=> ?_) (fun v364 h=> ?_)
   ·obtain⟨v362,v363⟩:=y
    unfold zS at h
    refine G (aC (aO h (fun hb231 h=> ?_) (fun hb231 h=> ?_)))
    ·refine aB (aA (aC (aF ?_)))
     obtain⟨c361,c362,h⟩:=g2 h
     refine GN a0 [(1,1,oc c361),(2,2,oc c362)] (aC (bO h (fun v365=>aM [(1,.i64 i1),(4,.adr 0 0 2 0),(6,.adr 1 0 3 0),(7,.sl 4),(10,.adr 5 0 4 0),(13,.adr 6 0 2 0),(14,.sl 9),(15,.mp 10),(16,.i64 v327),(17,.adr 11 0 4 0),(18,.u32 v362),(19,.adr 12 0 4 0),(21,.i64 v363),(110,.sl 4),(111,.i64 (v15.length:Int)),(112,.i64 v363),(124,.bo v365)] (aF2 v14 v12 v13 v15 v26 v27 v28 v29 v323 v324 v325 v326 ((v325.getD v327.toNat (0,0,0,0)).1) ((v325.getD v327.toNat (0,0,0,0)).2.1) ((v325.getD v327.toNat (0,0,0,0)).2.2.1) ((v325.getD v327.toNat (0,0,0,0)).2.2.2) v348 v349 v350 v351) 13) (fun v365 h=> ?_) (fun v365 h=> ?_)))
     ·rcases aW h with⟨hb234,h⟩ | ⟨hb234,h⟩
      ·refine bS ⟨[(2,true),(7,true)],[]⟩ [(3,7,oc hb234)] ?_
       exact eN h (gg [] [0,1,2,3,4,5,6,7,8,9,10,11,12])
      obtain⟨r517,q219,h⟩:=aG h
      have u_1:=(aAh q219)
      refine bS ⟨[(2,false),(7,false)],[(6,(oP u_1))]⟩ [(3,5,an hb234),(6,6,oc (And.intro hb234 u_1)),(7,7,oc hb234)] ?_
      exact eN h (gg [] [0,1,2,3,4,5,6,7,8,9,10,11,12])
     refine aA (bO h (fun v366=>aM [(1,.i64 i1),(4,.adr 0 0 2 0),(6,.adr 1 0 3 0),(7,.sl 4),(10,.adr 5 0 4 0),(13,.adr 6 0 2 0),(14,.sl 9),(15,.mp 10),(16,.i64 v327),(17,.adr 11 0 4 0),(18,.u32 v366),(19,.adr 12 0 4 0),(110,.sl 4),(111,.i64 (v15.length:Int)),(112,.i64 v363)] (aF2 v14 v12 v13 v15 v26 v27 v28 v29 v323 v324 v325 v326 ((v325.getD v327.toNat (0,0,0,0)).1) ((v325.getD v327.toNat (0,0,0,0)).2.1) ((v325.getD v327.toNat (0,0,0,0)).2.2.1) ((v325.getD v327.toNat (0,0,0,0)).2.2.2) v348 v349 v350 v351) 13) (fun v366 h=> ?_) (fun v366 h=> ?_))
     ·refine aO h (fun hb236 h=> ?_) (fun hb236 h=> ?_)
      ·refine GCe 2 h (fun h=> ?_)
       exact eN h (gg [] [0,1,2,3,4,5,6,7,8,9,10,11,12])
      refine aB ?_
      exact eN h (gg [] [0,1,2,3,4,5,6,7,8,9,10,11,12])
     refine aK (aA (Ge ?_))
     exact eB h (gg [] [0,1,2,3,4,5,6,7,8,9,10,11,12])
    refine aH (aY ?_)
    exact eX h (gg [] [0,1,2,3,4,5,6,7,8,9,10,12])
   refine aJ (aA (GC 1 h (fun h=>aC (G (aF ?_)))))
   refine mG h (fun(v435,v436,v437,v438)=>aM [(1,.i64 i1),(4,.adr 0 0 2 0),(6,.adr 1 0 3 0),(7,.sl 4),(10,.adr 5 0 4 0),(13,.adr 6 0 2 0),(14,.sl 9),(15,.mp 10),(16,.i64 v327),(18,.u32 v364),(19,.adr 11 0 4 0),(23,.sl 12),(132,.i64 i1),(133,.i64 v438)] (aK0 v14 v12 v13 v15 v26 v27 v28 v29 v323 v324 v435 v436 v348 v349 v350 v351 v437) 13) (eI (fV Tryz.f84.ntmps 10 (fun(v439,v440,v441)=>aM [(1,.i64 i1),(4,.adr 0 0 2 0),(6,.adr 1 0 3 0),(7,.sl 4),(10,.adr 5 0 4 0),(13,.adr 6 0 2 0),(14,.sl 9),(15,.mp 10),(16,.i64 v327),(18,.u32 v364),(23,.sl 11)] (aLJ v14 v12 v13 v15 v26 v27 v28 v29 v323 v324 v439 v440 v441) 12)) (iC tb Tryz.f84.results.toList (fun(r646,r647)=>[⟨Y12,r646⟩,⟨(.int .i64),r647⟩]))) (gg [] [0,1,2,3,4,5,6,7,8,9,10,11,20]) (fun y o h=> ?_) (fun r712 h e σ' hq=> ?_)
   ·obtain⟨v435,v436,v437,v438⟩:=y
    unfold zU at h
    refine G (aC (aO h (fun hb283 h=> ?_) (fun hb283 h=> ?_)))
    ·refine aB (aA (aC (aF (G (G (aC (G (aF ?_))))))))
     refine cW h (fun(v457,v458,v459,v460,v461)=>aM [(1,.i64 i1),(4,.adr 0 0 2 0),(6,.adr 1 0 3 0),(7,.sl 4),(10,.adr 5 0 4 0),(13,.adr 6 0 2 0),(14,.sl 9),(15,.mp 10),(16,.i64 v327),(18,.u32 v364),(19,.adr 11 0 4 0),(23,.sl 12),(24,.i64 v438),(25,.adr 13 0 4 0),(132,.i64 i1),(133,.i64 v438),(139,.sl 2),(140,.i64 (v12.length:Int)),(141,.i64 v461)] (aIh v14 v12 v13 v15 v26 v27 v28 v29 v323 v324 v435 v436 v348 v349 v350 v351 v437 v457 v458 v459 v460) 14) 12 (fun(v462,v463,v464,v465)=>aM [(1,.i64 i1),(4,.adr 0 0 2 0),(6,.adr 1 0 3 0),(7,.sl 4),(10,.adr 5 0 4 0),(13,.adr 6 0 2 0),(14,.sl 9),(15,.mp 10),(16,.i64 v327),(18,.u32 v364),(19,.adr 11 0 4 0),(23,.sl 12),(24,.i64 v438),(25,.adr 13 0 4 0),(132,.i64 i1),(133,.i64 v438)] (aIh v14 v12 v13 v15 v26 v27 v28 v29 v323 v324 v435 v436 v348 v349 v350 v351 v437 v462 v463 v464 v465) 14) (gg [] [0,1,2,3,4,5,6,7,8,9,10,11,12,37]) (fun y o h=> ?_) (fun r708 h=> ?_)
     ·obtain⟨v457,v458,v459,v460,v461⟩:=y
      unfold zI at h
      refine G (aC (aO h (fun hb296 h=> ?_) (fun hb296 h=> ?_)))
      ·refine aB (aA (aC (aF ?_)))
       obtain⟨c443,c444,h⟩:=g2 h
       refine GN a0 [(1,1,oc c443),(2,2,oc c444)] (aC (bO h (fun v466=>aM [(1,.i64 i1),(4,.adr 0 0 2 0),(6,.adr 1 0 3 0),(7,.sl 4),(10,.adr 5 0 4 0),(13,.adr 6 0 2 0),(14,.sl 9),(15,.mp 10),(16,.i64 v327),(18,.u32 v364),(19,.adr 11 0 4 0),(23,.sl 12),(24,.i64 v438),(25,.adr 13 0 4 0),(26,.i64 v461),(132,.i64 i1),(133,.i64 v438),(139,.sl 2),(140,.i64 (v12.length:Int)),(141,.i64 v461),(155,.bo v466)] (aIh v14 v12 v13 v15 v26 v27 v28 v29 v323 v324 v435 v436 v348 v349 v350 v351 v437 v457 v458 v459 v460) 14) (fun v466 h=> ?_) (fun v466 h=> ?_)))
       ·obtain⟨r690,q278,h⟩:=aG h
        rcases aW h with⟨hb299,h⟩ | ⟨hb299,h⟩
        ·obtain⟨c447,h⟩:=aS h
         have u_1:=(jF q278)
         refine bS ⟨[(3,true),(9,true)],[(2,(oP u_1))]⟩ [(2,2,oc u_1),(4,5,an hb299),(6,6,oc (And.intro hb299 c447)),(7,8,an hb299),(9,9,oc hb299)] ?_
         exact eN h (gg [] [0,1,2,3,4,5,6,7,8,9,10,11,12,13])
        have u_1:=(jF q278)
        refine bS ⟨[(3,false),(9,false)],[(2,(oP u_1))]⟩ [(2,2,oc u_1),(4,9,oc hb299)] ?_
        exact eN h (gg [] [0,1,2,3,4,5,6,7,8,9,10,11,12,13])
       refine aA (bO h (fun(v467,v468,v469,v470)=>aM [(1,.i64 i1),(4,.adr 0 0 2 0),(6,.adr 1 0 3 0),(7,.sl 4),(10,.adr 5 0 4 0),(13,.adr 6 0 2 0),(14,.sl 9),(15,.mp 10),(16,.i64 v327),(18,.u32 v364),(19,.adr 11 0 4 0),(23,.sl 12),(24,.i64 v438),(25,.adr 13 0 4 0),(132,.i64 i1),(133,.i64 v438),(139,.sl 2),(140,.i64 (v12.length:Int)),(141,.i64 v461)] (aIh v14 v12 v13 v15 v26 v27 v28 v29 v323 v324 v435 v436 v348 v349 v350 v351 v437 v467 v468 v469 v470) 14) (fun r707 h=> ?_) (fun r707 h=> ?_))
       ·refine aO h (fun hb301 h=> ?_) (fun hb301 h=> ?_)
        ·obtain⟨⟨r703,r704,r705,r706⟩,q282,h⟩:=aG h
         refine pP 1 [13] (yM q282) ?_
         exact eN h (gg [] [0,1,2,3,4,5,6,7,8,9,10,11,12,13])
        refine aB ?_
        exact eN h (gg [] [0,1,2,3,4,5,6,7,8,9,10,11,12,13])
       obtain⟨v467,v468,v469,v470⟩:=r707
       refine aK (aA (Ge ?_))
       exact eB h (gg [] [0,1,2,3,4,5,6,7,8,9,10,11,12,13])
      refine aH (aY ?_)
      exact eX h (gg [] [0,1,2,3,4,5,6,7,8,9,10,11,12,13])
     obtain⟨v462,v463,v464,v465⟩:=r708
     refine aJ (aA (GN a0 [(2,2,oc aB0)] (aC (G (aEl h (eI (sT Tryz.f84.ntmps (fun(v471,v472,v473)=>aM [(1,.i64 i1),(4,.adr 0 0 2 0),(6,.adr 1 0 3 0),(7,.sl 4),(10,.adr 5 0 4 0),(13,.adr 6 0 2 0),(14,.sl 9),(15,.mp 10),(16,.i64 v327),(18,.u32 v364),(19,.adr 11 0 4 0),(23,.sl 12),(24,.i64 v438),(28,.i64 v473),(132,.i64 i1),(133,.i64 v438)] (aK0 v14 v12 v13 v15 v26 v27 v28 v29 v323 v324 v471 v472 v348 v349 v350 v351 v437) 13)) (iC tb Tryz.f84.results.toList (fun(r709,r710)=>[⟨Y12,r709⟩,⟨(.int .i64),r710⟩]))) (fun r711 h=> ?_) (fun r711 h e σ' hq=> ?_))))))
     ·refine aO h (fun hb304 h=> ?_) (fun hb304 h=> ?_)
      ·refine aC (G (G (aO h (fun hb305 h=> ?_) (fun hb305 h=> ?_))))
       ·refine G (aL ?_)
        obtain rfl:=sI h
        refine aE (aU ?_)
        exact bW (aD [Y12,(.int .i64)] (by kernel_rfl))
       refine aB (aA (GN a0 [(3,3,oc aB0)] (GCe 3 h (fun h=> ?_))))
       obtain rfl:=sI h
       refine bI ?_
       exact dI (gg [] [0,1,2,3,4,5,6,7,8,190,10,11,12])
      refine aB ?_
      obtain rfl:=sI h
      refine bI ?_
      exact dI (gg [] [0,1,2,3,4,5,6,7,8,9,10,11,12])
     rcases r711 with⟨v471,v472,v473⟩ | ⟨r709,r710⟩
     ·obtain⟨rfl,hle⟩:=hq
      refine dH ?_ hle
      refine aA ?_
      obtain⟨c454,c455,h⟩:=g2 h
      refine bS a0 [(3,3,oc c454),(4,4,oc c455)] (aK (aA (Ge ?_)))
      exact eB h (gg [] [0,1,2,3,4,5,6,7,8,9,10,11,12])
     obtain⟨rfl,hr⟩:=hq
     obtain rfl:=sI h
     refine aE (aN (aE (bX (aU ?_))))
     exact bW hr
    refine aH (aY ?_)
    obtain rfl:=sI h
    refine eR (bI ?_)
    exact b8 (gg [] [0,1,2,3,4,5,6,7,8,9,10,12])
   rcases r712 with⟨v439,v440,v441⟩ | ⟨r646,r647⟩
   ·obtain⟨rfl,hle⟩:=hq
    refine dH ?_ hle
    refine aJ (aA ?_)
    obtain⟨c458,c459,h⟩:=g2 h
    refine qA a0 [(4,4,oc c458),(9,9,oc c459)] (aK (aA (Ge ?_)))
    exact eB h (gg [] [0,1,2,3,4,5,6,44,84,9,10])
   obtain⟨rfl,hr⟩:=hq
   obtain rfl:=sI h
   refine aN (aE (aN (aE (bX (aU ?_)))))
   exact bW hr
  refine aH (aY ?_)
  obtain rfl:=sI h
  refine eR (bI ?_)
  exact b8 (gg [] [0,6,7,8])
 rcases r713 with⟨v328,v329⟩ | ⟨r485,r486⟩
 ·obtain⟨rfl,hle⟩:=hq
  refine dH ?_ hle
  refine aJ (aA (G (pV [.frzC 0 0,.frzC 0 1] (by kernel_rfl) (aL ?_))))
  obtain rfl:=sI h
  exact aD [Y12,(.int .i64)] (by kernel_rfl)
 obtain⟨rfl,hr⟩:=hq
 refine aN (aE ?_)
 obtain rfl:=sI h
 exact hr
def uN(a1:List (List Int))(v13:Int):(Int)→Option ((Int)⊕((Unit)⊕(Bool))):=fun v17 =>
 (if(decide (v17<((a1.getD v13.toNat ([]:List Int)).length:Int)))=true then(if 0≤v17∧v17<((a1.getD v13.toNat ([]:List Int)).length:Int)then(((if(decide (((a1.getD v13.toNat ([]:List Int)).getD v17.toNat 0)<0))=true then some (true)
 else some ((decide (((a1.getD v13.toNat ([]:List Int)).getD v17.toNat 0)≥(a1.length:Int)))))).bind fun v18=>(if v18=true then some (Sum.inr (Sum.inr false))
 else some (Sum.inl (IntKind.i64.wrap (v17+1)))))else none)
 else some (Sum.inr (Sum.inl ())))
def vD(a1:List (List Int)):(Int)→Option ((Int)⊕((Unit)⊕(Bool))):=fun v13 =>
 (if(decide (v13<(a1.length:Int)))=true then(if 0≤v13∧v13<(a1.length:Int)then(if 0≤(0:Int)∧0<(a1.length:Int)then(if(((a1.getD v13.toNat ([]:List Int)).length:Int) != ((a1.getD ((0:Int).toNat) ([]:List Int)).length:Int))=true then some (Sum.inr (Sum.inr false))
 else((iter (uN a1 v13) (0:Int)).bind fun(r7:((Unit)⊕(Bool)))=>match r7 with
 | .inl _=>some (Sum.inl (IntKind.i64.wrap (v13+1)))
 | .inr (r6)=>some (Sum.inr (Sum.inr r6))))else none)else none)
 else some (Sum.inr (Sum.inl ())))
def uT(a1:List (List Int))(a2:List Int):Option (Bool) :=
 (((if((a1.length:Int) == 0)=true then some (true)
 else some (((a1.length:Int) != (a2.length:Int))))).bind fun v1=>(if v1=true then some false
 else((iter (vD a1) (0:Int)).bind fun(r8:((Unit)⊕(Bool)))=>match r8 with
 | .inl _=>some true
 | .inr (r5)=>some r5)))
theorem Q6(β0 β1:Bool){a1:List (List Int)}{a2:List Int}{res:Bool}(h:uT a1 a2=some res):
  Pure Tryz.prog 122 [.agg [.p β0 (.slice (.slice (.int .i64))) a1,.p β1 (.slice (.int .u32)) a2]] (aX (bJ false [⟨.bool,res⟩])):=by
 refine Pure.of_body bB Tryz.func122 (by kernel_rfl) rfl (nl rfl) (fun Bw w0=> ?_) rfl
 unfold uT at h
 refine G (aC (aC (bO h (fun v1=>aM [(1,.adr 0 0 2 0),(19,.bo v1)] (aHD β0 a1 β1 a2) 1) (fun v1 h=> ?_) (fun v1 h=> ?_))))
 ·rcases aW h with⟨hb3,h⟩ | ⟨hb3,h⟩
  ·refine bS ⟨[(4,true),(12,true)],[]⟩ [(5,12,oc hb3)] ?_
   exact eN h (gg [] [0])
  refine bS ⟨[(4,false),(12,false)],[]⟩ [(5,11,an hb3),(12,12,oc hb3)] ?_
  exact eN h (gg [] [0])
 refine aA (aO h (fun hb4 h=> ?_) (fun hb4 h=> ?_))
 ·refine G (aL (aE ?_))
  obtain rfl:=sI h
  exact aD [.bool] (by kernel_rfl)
 refine aB (aA (aC (G (aF (mG h (fun v13=>aM [(1,.adr 0 0 2 0),(21,.p β0 (.slice (.slice (.int .i64))) a1),(22,.i64 (a1.length:Int)),(23,.i64 v13)] (aHD β0 a1 β1 a2) 1) (eI (fV Tryz.f122.ntmps 0 (fun _=>aM [] [] 0)) (iC tb Tryz.f122.results.toList (fun r5=>[⟨.bool,r5⟩]))) (gg [] [0]) (fun v13 o h=> ?_) (fun r8 h e σ' hq=> ?_))))))
 ·unfold vD at h
  refine G (aC (aO h (fun hb39 h=> ?_) (fun hb39 h=> ?_)))
  ·refine aB (aA (aC (aF (GC 0 h (fun h=>aC (GC 4 h (fun h=>aO h (fun hb40 h=> ?_) (fun hb40 h=> ?_))))))))
   ·refine G (aL ?_)
    obtain rfl:=sI h
    refine aE (aN (aE (bX (aU ?_))))
    exact bW (aD [.bool] (by kernel_rfl))
   refine aB (aA (G (aF (mG h (fun v17=>aM [(1,.adr 0 0 2 0),(21,.p β0 (.slice (.slice (.int .i64))) a1),(22,.i64 (a1.length:Int)),(23,.i64 v13),(35,.p β0 (.slice (.int .i64)) (a1.getD v13.toNat ([]:List Int))),(36,.i64 ((a1.getD v13.toNat ([]:List Int)).length:Int)),(37,.i64 v17)] (aHD β0 a1 β1 a2) 1) (eI (fV Tryz.f122.ntmps 2 (fun _=>aM [(1,.adr 0 0 2 0),(21,.p β0 (.slice (.slice (.int .i64))) a1),(22,.i64 (a1.length:Int)),(23,.i64 v13)] (aHD β0 a1 β1 a2) 1)) (iC tb Tryz.f122.results.toList (fun r6=>[⟨.bool,r6⟩]))) (gg [] [0]) (fun v17 o h=> ?_) (fun r7 h e σ' hq=> ?_)))))
   ·unfold uN at h
    refine G (aC (aO h (fun hb51 h=> ?_) (fun hb51 h=> ?_)))
    ·refine aB (aA (aC (aF (GC 0 h (fun h=>aC (bO h (fun v18=>aM [(1,.adr 0 0 2 0),(21,.p β0 (.slice (.slice (.int .i64))) a1),(22,.i64 (a1.length:Int)),(23,.i64 v13),(35,.p β0 (.slice (.int .i64)) (a1.getD v13.toNat ([]:List Int))),(36,.i64 ((a1.getD v13.toNat ([]:List Int)).length:Int)),(37,.i64 v17),(49,.bo v18)] (aHD β0 a1 β1 a2) 1) (fun v18 h=> ?_) (fun v18 h=> ?_)))))))
     ·rcases aW h with⟨hb54,h⟩ | ⟨hb54,h⟩
      ·refine bS ⟨[(2,true),(8,true)],[]⟩ [(3,8,oc hb54)] ?_
       exact eN h (gg [] [0])
      refine bS ⟨[(2,false),(8,false)],[]⟩ [(3,7,an hb54),(8,8,oc hb54)] ?_
      exact eN h (gg [] [0])
     refine aA (aO h (fun hb55 h=> ?_) (fun hb55 h=> ?_))
     ·refine G (aL ?_)
      obtain rfl:=sI h
      refine aN (aE (bX (aU ?_)))
      exact bW (aD [.bool] (by kernel_rfl))
     refine aB (aK (aA (Ge ?_)))
     exact eB h (gg [] [0])
    refine aH (aY ?_)
    obtain rfl:=sI h
    refine eR (bI ?_)
    exact b8 (gg [] [0])
   rcases r7 with _ | r6
   ·obtain⟨rfl,hle⟩:=hq
    refine dH ?_ hle
    refine aJ (aK (aA (Ge ?_)))
    exact eB h (gg [] [0])
   obtain⟨rfl,hr⟩:=hq
   obtain rfl:=sI h
   refine aN (aN (aE (bX (aU ?_))))
   exact bW hr
  refine aH (aY ?_)
  obtain rfl:=sI h
  refine eR (bI ?_)
  exact b8 (gg [] [])
 rcases r8 with _ | r5
 ·obtain⟨rfl,hle⟩:=hq
  refine dH ?_ hle
  refine aJ (aA (G (aL ?_)))
  obtain rfl:=sI h
  exact aD [.bool] (by kernel_rfl)
 obtain⟨rfl,hr⟩:=hq
 refine aN (aE ?_)
 obtain rfl:=sI h
 exact hr
def lW(s1:Int)(x1:List (List Int))(x2 key1:List Int):Option (List Int) :=
 (if 0≤s1∧s1<(x2.length:Int)then(if(key1.length+([(IntKind.i64.wrap (x2.getD s1.toNat 0))]:List Int).length)*8≤140737488355328∧key1.length+([(IntKind.i64.wrap (x2.getD s1.toNat 0))]:List Int).length≤9223372036854775807 then some (key1++([(IntKind.i64.wrap (x2.getD s1.toNat 0))]:List Int))else none)else none)
theorem xO(β1 β2:Bool){s1:Int}{x1:List (List Int)}{x2:List Int}{key1:List Int}{res:List Int}(h:lW s1 x1 x2 key1=some res):
  Owns Tryz.prog 124 [.i64 s1,.sl 0,.fad true [.p β1 (.slice (.slice (.int .i64))) x1,.p β2 (.slice (.int .u32)) x2] 0] [(0,.arr 3 (.int .i64) key1)] (.sl 1) [(1,.arr 3 (.int .i64) res)]:=by
 refine Owns.of_body bB Tryz.func124 (by kernel_rfl) rfl (nl rfl) (fun Bw w0=> ?_)
 unfold lW at h
 refine G ?_
 obtain⟨c7,c8,h⟩:=g2 h
 refine GN a0 [(4,4,oc c7),(8,8,oc c8)] (aL ?_)
 obtain rfl:=sI h
 exact aR [none] [] [0,73] [(5,.sl 1)] [(1,.arr 3 (.int .i64) (key1++([(IntKind.i64.wrap (x2.getD s1.toNat 0))]:List Int)))] 2 1 (by kernel_rfl) (by kernel_rfl) (by kernel_rfl)
def uG(r8:List Int):rY→Option (rY⊕(List Int)):=fun(v26,v27) =>
 (if(decide (v27<(r8.length:Int)))=true then(if 0≤v27∧v27<(r8.length:Int)then(if v27.toNat<r8.length then(if 0≤(8:Int)then(if 0≤(16:Int)then(if 0≤(24:Int)then(if(v26.length+([(IntKind.u8.wrap (r8.getD v27.toNat 0)),(IntKind.u8.wrap (Int.fdiv (r8.getD v27.toNat 0) (2 ^ (min (8:Int).toNat IntKind.i64.bits)))),(IntKind.u8.wrap (Int.fdiv (r8.getD v27.toNat 0) (2 ^ (min (16:Int).toNat IntKind.i64.bits)))),(IntKind.u8.wrap (Int.fdiv (r8.getD v27.toNat 0) (2 ^ (min (24:Int).toNat IntKind.i64.bits))))]:List Int).length)*1≤140737488355328∧v26.length+([(IntKind.u8.wrap (r8.getD v27.toNat 0)),(IntKind.u8.wrap (Int.fdiv (r8.getD v27.toNat 0) (2 ^ (min (8:Int).toNat IntKind.i64.bits)))),(IntKind.u8.wrap (Int.fdiv (r8.getD v27.toNat 0) (2 ^ (min (16:Int).toNat IntKind.i64.bits)))),(IntKind.u8.wrap (Int.fdiv (r8.getD v27.toNat 0) (2 ^ (min (24:Int).toNat IntKind.i64.bits))))]:List Int).length≤9223372036854775807 then some (Sum.inl ((v26++([(IntKind.u8.wrap (r8.getD v27.toNat 0)),(IntKind.u8.wrap (Int.fdiv (r8.getD v27.toNat 0) (2 ^ (min (8:Int).toNat IntKind.i64.bits)))),(IntKind.u8.wrap (Int.fdiv (r8.getD v27.toNat 0) (2 ^ (min (16:Int).toNat IntKind.i64.bits)))),(IntKind.u8.wrap (Int.fdiv (r8.getD v27.toNat 0) (2 ^ (min (24:Int).toNat IntKind.i64.bits))))]:List Int)),(IntKind.i64.wrap (v27+1))))else none)else none)else none)else none)else none)else none)
 else some (Sum.inr v26))
def vK(d1:Int)(i1:List (List Int))(i2:List Int):((List Z4)×(List Int)×(List Int)×Int)→Option (((List Z4)×(List Int)×(List Int)×Int)⊕(List Int)):=fun(v19,v20,v21,v22) =>
 (if(decide (v22<d1))=true then(if 0≤(0:Int)∧0≤(v21.length:Int)then((lW v22 i1 i2 (v21.take (0:Int).toNat)).bind fun r8 =>
 ((iter (uG r8) (([]:List Int),0)).bind fun v28=>(((if(!((bG .str v19 (dG v28)).isSome))=true then some (((fF .str v19 (dG v28) (v19.length:Int)),(v19.length:Int)))
 else some ((v19,((bG .str v19 (dG v28)).getD 0))))).bind fun(v29,v30)=>(if 0≤v22∧v22<(v20.length:Int)then(if v22.toNat<v20.length then some (Sum.inl (v29,(v20.set v22.toNat v30),r8,(IntKind.i64.wrap (v22+1))))else none)else none))))else none)
 else some (Sum.inr v20))
def u9(d1:Int)(i1:List (List Int))(i2:List Int):Option (List Int) :=
 (if 0≤d1∧d1≤d1∧8*d1≤281474976710656∧d1≤9223372036854775807 then((iter (vK d1 i1 i2) (([]:List Z4),(List.replicate d1.toNat (0:Int)),([]:List Int),0)).bind fun v23=>some v23)else none)
theorem S4(β1 β2:Bool){d1:Int}{i1:List (List Int)}{i2:List Int}{res:List Int}(h:u9 d1 i1 i2=some res):
  Pure Tryz.prog 123 [.i64 d1,.fn 124 [.fad true [.p β1 (.slice (.slice (.int .i64))) i1,.p β2 (.slice (.int .u32)) i2] 0]] (aX (bJ false [⟨(.slice (.int .i64)),res⟩])):=by
 refine Pure.of_body bB Tryz.func123 (by kernel_rfl) rfl (nl rfl) (fun Bw w0=> ?_) rfl
 unfold u9 at h
 refine G (G (GC 1 h (fun h=>G (aC (G (aF (cW h (fun(v19,v20,v21,v22)=>aM [(1,.fn 124 [.fad true [.p β1 (.slice (.slice (.int .i64))) i1,.p β2 (.slice (.int .u32)) i2] 0]),(5,.mp 0),(6,.sl 1),(7,.sl 2),(17,.i64 d1),(18,.i64 v22)] (aIZ v19 v20 v21) 3) 0 (fun v23=>aM [(6,.sl 0)] [(0,.arr 3 (.int .i64) v23)] 1) (gg [.nilS 7 72 3 (.int .i64)] [8,32,72]) (fun y o h=> ?_) (fun v23 h=> ?_))))))))
 ·obtain⟨v19,v20,v21,v22⟩:=y
  unfold vK at h
  refine G (aC (aO h (fun hb13 h=> ?_) (fun hb13 h=> ?_)))
  ·refine aB (aA (aC (aF (G ?_))))
   obtain⟨c88,h⟩:=aS h
   obtain⟨r8,q6,h⟩:=aG h
   have u_1:=(xO β1 β2 q6)
   refine GN ⟨[],[(4,(oO u_1 [51]))]⟩ [(3,3,oc c88),(4,4,oc u_1)] (G (aC (G (aF (cW h (fun(v26,v27)=>aM [(1,.fn 124 [.fad true [.p β1 (.slice (.slice (.int .i64))) i1,.p β2 (.slice (.int .u32)) i2] 0]),(5,.mp 0),(6,.sl 1),(7,.sl 2),(8,.i64 v22),(9,.sl 3),(17,.i64 d1),(18,.i64 v22),(26,.sl 2),(27,.i64 (r8.length:Int)),(28,.i64 v27)] (aID v19 v20 r8 v26) 4) 2 (fun v28=>aM [(1,.fn 124 [.fad true [.p β1 (.slice (.slice (.int .i64))) i1,.p β2 (.slice (.int .u32)) i2] 0]),(5,.mp 0),(6,.sl 1),(7,.sl 2),(8,.i64 v22),(9,.sl 3),(17,.i64 d1),(18,.i64 v22)] (aID v19 v20 r8 v28) 4) (gg [.nilS 9 107 5 (.int .u8)] [0,1,59,107]) (fun y o h=> ?_) (fun v28 h=> ?_))))))
   ·obtain⟨v26,v27⟩:=y
    unfold uG at h
    refine G (aC (aO h (fun hb16 h=> ?_) (fun hb16 h=> ?_)))
    ·refine aB (aA (aC (aF ?_)))
     obtain⟨c115,c116,h⟩:=g2 h
     refine GN a0 [(0,0,oc c115),(1,1,oc c116)] ?_
     obtain⟨c121,c122,c123,c124,h⟩:=g4 h
     refine bS a0 [(4,4,oc c121),(7,7,oc c122),(10,10,oc c123),(13,13,oc c124)] (aK (aA (Ge ?_)))
     exact eB h (gg [] [0,1,2,140])
    refine aH (aY ?_)
    exact eX h (gg [] [0,1,2,3])
   refine aJ (aA (G (aC (G (bO h (fun(v29,v30)=>aM [(1,.fn 124 [.fad true [.p β1 (.slice (.slice (.int .i64))) i1,.p β2 (.slice (.int .u32)) i2] 0]),(5,.mp 0),(6,.sl 1),(7,.sl 2),(8,.i64 v22),(12,.i64 v30),(17,.i64 d1),(18,.i64 v22)] (aIZ v29 v20 r8) 3) (fun r9 h=> ?_) (fun r9 h=> ?_))))))
   ·refine aO h (fun hb18 h=> ?_) (fun hb18 h=> ?_)
    ·refine G (Ge ?_)
     exact eN h (gg [] [0,1,2])
    refine aB ?_
    exact eN h (gg [] [0,1,2])
   obtain⟨v29,v30⟩:=r9
   refine aA ?_
   obtain⟨c127,c128,h⟩:=g2 h
   refine bS a0 [(3,3,oc c127),(4,4,oc c128)] (aK (aA (Ge ?_)))
   exact eB h (gg [] [0,1,2])
  refine aH (aY ?_)
  exact eX h (gg [] [1])
 refine aJ (aA (G (aL ?_)))
 obtain rfl:=sI h
 exact aD [(.slice (.int .i64))] (by kernel_rfl)
def nS(s1:Int)(x1:List Int)(x2:List (List Int)):rY→Option (rY⊕(List Int)):=fun(key6,v4) =>
 (if(decide (v4<((x2.getD s1.toNat ([]:List Int)).length:Int)))=true then(if 0≤v4∧v4<((x2.getD s1.toNat ([]:List Int)).length:Int)then(if 0≤((x2.getD s1.toNat ([]:List Int)).getD v4.toNat 0)∧((x2.getD s1.toNat ([]:List Int)).getD v4.toNat 0)<(x1.length:Int)then(if(key6.length+([(x1.getD (((x2.getD s1.toNat ([]:List Int)).getD v4.toNat 0).toNat) 0)]:List Int).length)*8≤140737488355328∧key6.length+([(x1.getD (((x2.getD s1.toNat ([]:List Int)).getD v4.toNat 0).toNat) 0)]:List Int).length≤9223372036854775807 then some (Sum.inl ((key6++([(x1.getD (((x2.getD s1.toNat ([]:List Int)).getD v4.toNat 0).toNat) 0)]:List Int)),(IntKind.i64.wrap (v4+1))))else none)else none)else none)
 else some (Sum.inr key6))
def lX(s1:Int)(x1:List Int)(x2:List (List Int))(x3 key1:List Int):Option (List Int) :=
 (if 0≤s1∧s1<(x1.length:Int)then(if(key1.length+([(x1.getD s1.toNat 0)]:List Int).length)*8≤140737488355328∧key1.length+([(x1.getD s1.toNat 0)]:List Int).length≤9223372036854775807 then(if 0≤s1∧s1<(x2.length:Int)then((iter (nS s1 x1 x2) ((key1++([(x1.getD s1.toNat 0)]:List Int)),0)).bind fun key7=>some key7)else none)else none)else none)
theorem xZ(β1 β2 β3:Bool){s1:Int}{x1:List Int}{x2:List (List Int)}{x3:List Int}{key1:List Int}{res:List Int}(h:lX s1 x1 x2 x3 key1=some res):
  Owns Tryz.prog 125 [.i64 s1,.sl 0,.fad true [.p β1 (.slice (.int .i64)) x1] 0,.fad true [.p β2 (.slice (.slice (.int .i64))) x2,.p β3 (.slice (.int .u32)) x3] 0] [(0,.arr 3 (.int .i64) key1)] (.sl 1) [(1,.arr 3 (.int .i64) res)]:=by
 refine Owns.of_body bB Tryz.func125 (by kernel_rfl) rfl (nl rfl) (fun Bw w0=> ?_)
 unfold lX at h
 refine G ?_
 obtain⟨c27,c28,h⟩:=g2 h
 refine GN a0 [(3,3,oc c27),(6,6,oc c28)] (aC (GC 3 h (fun h=>aF (cW h (fun(key6,v4)=>aM [(1,.sl 1),(2,.fad true [.p β1 (.slice (.int .i64)) x1] 0),(20,.p β2 (.slice (.int .i64)) (x2.getD s1.toNat ([]:List Int))),(21,.i64 ((x2.getD s1.toNat ([]:List Int)).length:Int)),(22,.i64 v4)] [(1,.arr 3 (.int .i64) key6)] 2 1) 0 (fun key7=>aM [(1,.sl 1)] [(1,.arr 3 (.int .i64) key7)] 2 1) (gg [] [0,57]) (fun y o h=> ?_) (fun key7 h=> ?_)))))
 ·obtain⟨key6,v4⟩:=y
  unfold nS at h
  refine G (aC (aO h (fun hb6 h=> ?_) (fun hb6 h=> ?_)))
  ·refine aB (aA (aC (aF (GC 0 h (fun h=> ?_)))))
   obtain⟨c47,c48,h⟩:=g2 h
   refine bS a0 [(3,3,oc c47),(6,6,oc c48)] (aK (aA (Ge ?_)))
   exact eB h (gg [] [0,82])
  refine aH (aY ?_)
  exact eX h (gg [] [0,1])
 refine aJ (aA (G (aL ?_)))
 obtain rfl:=sI h
 exact aR [none] [] [0,1] [(6,.sl 1)] [(1,.arr 3 (.int .i64) key7)] 2 1 (by kernel_rfl) (by kernel_rfl) (by kernel_rfl)
def o7(r8:List Int):rY→Option (rY⊕(List Int)):=fun(v26,v27) =>
 (if(decide (v27<(r8.length:Int)))=true then(if 0≤v27∧v27<(r8.length:Int)then(if v27.toNat<r8.length then(if 0≤(8:Int)then(if 0≤(16:Int)then(if 0≤(24:Int)then(if(v26.length+([(IntKind.u8.wrap (r8.getD v27.toNat 0)),(IntKind.u8.wrap (Int.fdiv (r8.getD v27.toNat 0) (2 ^ (min (8:Int).toNat IntKind.i64.bits)))),(IntKind.u8.wrap (Int.fdiv (r8.getD v27.toNat 0) (2 ^ (min (16:Int).toNat IntKind.i64.bits)))),(IntKind.u8.wrap (Int.fdiv (r8.getD v27.toNat 0) (2 ^ (min (24:Int).toNat IntKind.i64.bits))))]:List Int).length)*1≤140737488355328∧v26.length+([(IntKind.u8.wrap (r8.getD v27.toNat 0)),(IntKind.u8.wrap (Int.fdiv (r8.getD v27.toNat 0) (2 ^ (min (8:Int).toNat IntKind.i64.bits)))),(IntKind.u8.wrap (Int.fdiv (r8.getD v27.toNat 0) (2 ^ (min (16:Int).toNat IntKind.i64.bits)))),(IntKind.u8.wrap (Int.fdiv (r8.getD v27.toNat 0) (2 ^ (min (24:Int).toNat IntKind.i64.bits))))]:List Int).length≤9223372036854775807 then some (Sum.inl ((v26++([(IntKind.u8.wrap (r8.getD v27.toNat 0)),(IntKind.u8.wrap (Int.fdiv (r8.getD v27.toNat 0) (2 ^ (min (8:Int).toNat IntKind.i64.bits)))),(IntKind.u8.wrap (Int.fdiv (r8.getD v27.toNat 0) (2 ^ (min (16:Int).toNat IntKind.i64.bits)))),(IntKind.u8.wrap (Int.fdiv (r8.getD v27.toNat 0) (2 ^ (min (24:Int).toNat IntKind.i64.bits))))]:List Int)),(IntKind.i64.wrap (v27+1))))else none)else none)else none)else none)else none)else none)
 else some (Sum.inr v26))
def oU(d1:Int)(i1:List Int)(i2:List (List Int))(i3:List Int):((List Z4)×(List Int)×(List Int)×Int)→Option (((List Z4)×(List Int)×(List Int)×Int)⊕(List Int)):=fun(v19,v20,v21,v22) =>
 (if(decide (v22<d1))=true then(if 0≤(0:Int)∧0≤(v21.length:Int)then((lX v22 i1 i2 i3 (v21.take (0:Int).toNat)).bind fun r8 =>
 ((iter (o7 r8) (([]:List Int),0)).bind fun v28=>(((if(!((bG .str v19 (dG v28)).isSome))=true then some (((fF .str v19 (dG v28) (v19.length:Int)),(v19.length:Int)))
 else some ((v19,((bG .str v19 (dG v28)).getD 0))))).bind fun(v29,v30)=>(if 0≤v22∧v22<(v20.length:Int)then(if v22.toNat<v20.length then some (Sum.inl (v29,(v20.set v22.toNat v30),r8,(IntKind.i64.wrap (v22+1))))else none)else none))))else none)
 else some (Sum.inr v20))
def m7(d1:Int)(i1:List Int)(i2:List (List Int))(i3:List Int):Option (List Int) :=
 (if 0≤d1∧d1≤d1∧8*d1≤281474976710656∧d1≤9223372036854775807 then((iter (oU d1 i1 i2 i3) (([]:List Z4),(List.replicate d1.toNat (0:Int)),([]:List Int),0)).bind fun v23=>some v23)else none)
theorem zF(β1 β2 β3:Bool){d1:Int}{i1:List Int}{i2:List (List Int)}{i3:List Int}{res:List Int}(h:m7 d1 i1 i2 i3=some res):
  Pure Tryz.prog 123 [.i64 d1,.fn 125 [.fad true [.p β1 (.slice (.int .i64)) i1] 0,.fad true [.p β2 (.slice (.slice (.int .i64))) i2,.p β3 (.slice (.int .u32)) i3] 0]] (aX (bJ false [⟨(.slice (.int .i64)),res⟩])):=by
 refine Pure.of_body bB Tryz.func123 (by kernel_rfl) rfl (nl rfl) (fun Bw w0=> ?_) rfl
 unfold m7 at h
 refine G (G (GC 1 h (fun h=>G (aC (G (aF (cW h (fun(v19,v20,v21,v22)=>aM [(1,.fn 125 [.fad true [.p β1 (.slice (.int .i64)) i1] 0,.fad true [.p β2 (.slice (.slice (.int .i64))) i2,.p β3 (.slice (.int .u32)) i3] 0]),(5,.mp 0),(6,.sl 1),(7,.sl 2),(17,.i64 d1),(18,.i64 v22)] (aIZ v19 v20 v21) 3) 0 (fun v23=>aM [(6,.sl 0)] [(0,.arr 3 (.int .i64) v23)] 1) (gg [.nilS 7 72 3 (.int .i64)] [8,32,72]) (fun y o h=> ?_) (fun v23 h=> ?_))))))))
 ·obtain⟨v19,v20,v21,v22⟩:=y
  unfold oU at h
  refine G (aC (aO h (fun hb13 h=> ?_) (fun hb13 h=> ?_)))
  ·refine aB (aA (aC (aF (G ?_))))
   obtain⟨c88,h⟩:=aS h
   obtain⟨r8,q6,h⟩:=aG h
   have u_1:=(xZ β1 β2 β3 q6)
   refine GN ⟨[],[(4,(oO u_1 [51]))]⟩ [(3,3,oc c88),(4,4,oc u_1)] (G (aC (G (aF (cW h (fun(v26,v27)=>aM [(1,.fn 125 [.fad true [.p β1 (.slice (.int .i64)) i1] 0,.fad true [.p β2 (.slice (.slice (.int .i64))) i2,.p β3 (.slice (.int .u32)) i3] 0]),(5,.mp 0),(6,.sl 1),(7,.sl 2),(8,.i64 v22),(9,.sl 3),(17,.i64 d1),(18,.i64 v22),(26,.sl 2),(27,.i64 (r8.length:Int)),(28,.i64 v27)] (aID v19 v20 r8 v26) 4) 2 (fun v28=>aM [(1,.fn 125 [.fad true [.p β1 (.slice (.int .i64)) i1] 0,.fad true [.p β2 (.slice (.slice (.int .i64))) i2,.p β3 (.slice (.int .u32)) i3] 0]),(5,.mp 0),(6,.sl 1),(7,.sl 2),(8,.i64 v22),(9,.sl 3),(17,.i64 d1),(18,.i64 v22)] (aID v19 v20 r8 v28) 4) (gg [.nilS 9 107 5 (.int .u8)] [0,1,59,107]) (fun y o h=> ?_) (fun v28 h=> ?_))))))
   ·obtain⟨v26,v27⟩:=y
    unfold o7 at h
    refine G (aC (aO h (fun hb16 h=> ?_) (fun hb16 h=> ?_)))
    ·refine aB (aA (aC (aF ?_)))
     obtain⟨c115,c116,h⟩:=g2 h
     refine GN a0 [(0,0,oc c115),(1,1,oc c116)] ?_
     obtain⟨c121,c122,c123,c124,h⟩:=g4 h
     refine bS a0 [(4,4,oc c121),(7,7,oc c122),(10,10,oc c123),(13,13,oc c124)] (aK (aA (Ge ?_)))
     exact eB h (gg [] [0,1,2,140])
    refine aH (aY ?_)
    exact eX h (gg [] [0,1,2,3])
   refine aJ (aA (G (aC (G (bO h (fun(v29,v30)=>aM [(1,.fn 125 [.fad true [.p β1 (.slice (.int .i64)) i1] 0,.fad true [.p β2 (.slice (.slice (.int .i64))) i2,.p β3 (.slice (.int .u32)) i3] 0]),(5,.mp 0),(6,.sl 1),(7,.sl 2),(8,.i64 v22),(12,.i64 v30),(17,.i64 d1),(18,.i64 v22)] (aIZ v29 v20 r8) 3) (fun r9 h=> ?_) (fun r9 h=> ?_))))))
   ·refine aO h (fun hb18 h=> ?_) (fun hb18 h=> ?_)
    ·refine G (Ge ?_)
     exact eN h (gg [] [0,1,2])
    refine aB ?_
    exact eN h (gg [] [0,1,2])
   obtain⟨v29,v30⟩:=r9
   refine aA ?_
   obtain⟨c127,c128,h⟩:=g2 h
   refine bS a0 [(3,3,oc c127),(4,4,oc c128)] (aK (aA (Ge ?_)))
   exact eB h (gg [] [0,1,2])
  refine aH (aY ?_)
  exact eX h (gg [] [1])
 refine aJ (aA (G (aL ?_)))
 obtain rfl:=sI h
 exact aD [(.slice (.int .i64))] (by kernel_rfl)
def wU(l1:List Int):(Int×Int)→Option ((Int×Int)⊕(Int)):=fun(n2,v2) =>
 (if(decide (v2<(l1.length:Int)))=true then(if 0≤v2∧v2<(l1.length:Int)then some (Sum.inl ((max n2 (l1.getD v2.toNat 0)),(IntKind.i64.wrap (v2+1))))else none)
 else some (Sum.inr n2))
def nV(l1:List Int):Option (Int) :=
 ((iter (wU l1) (0,0)).bind fun n3=>some n3)
theorem pN(β0:Bool){l1:List Int}{res:Int}(h:nV l1=some res):
  Pure Tryz.prog 126 [.p β0 (.slice (.int .i64)) l1] (aX (bJ false [⟨(.int .i64),res⟩])):=by
 refine Pure.of_body bB Tryz.func126 (by kernel_rfl) rfl (nl rfl) (fun Bw w0=> ?_) rfl
 unfold nV at h
 refine G (G (aC (G (aF (cW h (fun(n2,v2)=>aM [(3,.i64 n2),(6,.p β0 (.slice (.int .i64)) l1),(7,.i64 (l1.length:Int)),(8,.i64 v2)] [] 0) 0 (fun n3=>aM [(3,.i64 n3)] [] 0) (gg [] []) (fun y o h=> ?_) (fun n3 h=> ?_))))))
 ·obtain⟨n2,v2⟩:=y
  unfold wU at h
  refine G (aC (aO h (fun hb3 h=> ?_) (fun hb3 h=> ?_)))
  ·refine aB (aA (aC (aF (GC 0 h (fun h=>Ge (aK (aA (Ge ?_))))))))
   exact eB h (gg [] [])
  refine aH (aY ?_)
  exact eX h (gg [] [])
 refine aJ (aA (G (aL ?_)))
 obtain rfl:=sI h
 exact aD [(.int .i64)] (by kernel_rfl)
def sU(r2:Int):rY→Option (rY⊕(List Int)):=fun(v3,v4) =>
 (if(decide (v4<((List.replicate (IntKind.i64.wrap (r2+1)).toNat (0:Int)).length:Int)))=true then(if 0≤v4∧v4<(v3.length:Int)then(if v4.toNat<v3.length then some (Sum.inl ((v3.set v4.toNat (-1:Int)),(IntKind.i64.wrap (v4+1))))else none)else none)
 else some (Sum.inr v3))
def sO(d1:List (List Int))(i1 v48:List Int)(v49:Int):((List Int)×(List Int)×(List Int)×Int)→Option (((List Int)×(List Int)×(List Int)×Int)⊕((List Int)×(List Int)×List Int)):=fun(v60,v61,v62,v63) =>
 (if(decide (v63<((d1.getD ((v48.getD v49.toNat 0).toNat) ([]:List Int)).length:Int)))=true then(if 0≤v63∧v63<((d1.getD ((v48.getD v49.toNat 0).toNat) ([]:List Int)).length:Int)then(if 0≤((d1.getD ((v48.getD v49.toNat 0).toNat) ([]:List Int)).getD v63.toNat 0)∧((d1.getD ((v48.getD v49.toNat 0).toNat) ([]:List Int)).getD v63.toNat 0)<(i1.length:Int)then(if 0≤(i1.getD (((d1.getD ((v48.getD v49.toNat 0).toNat) ([]:List Int)).getD v63.toNat 0).toNat) 0)∧(i1.getD (((d1.getD ((v48.getD v49.toNat 0).toNat) ([]:List Int)).getD v63.toNat 0).toNat) 0)<(v60.length:Int)then(if(i1.getD (((d1.getD ((v48.getD v49.toNat 0).toNat) ([]:List Int)).getD v63.toNat 0).toNat) 0).toNat<v60.length then(((if(decide ((v60.getD ((i1.getD (((d1.getD ((v48.getD v49.toNat 0).toNat) ([]:List Int)).getD v63.toNat 0).toNat) 0).toNat) 0)<0))=true then(if 0≤((d1.getD ((v48.getD v49.toNat 0).toNat) ([]:List Int)).getD v63.toNat 0)∧((d1.getD ((v48.getD v49.toNat 0).toNat) ([]:List Int)).getD v63.toNat 0)<(i1.length:Int)then(if 0≤(i1.getD (((d1.getD ((v48.getD v49.toNat 0).toNat) ([]:List Int)).getD v63.toNat 0).toNat) 0)∧(i1.getD (((d1.getD ((v48.getD v49.toNat 0).toNat) ([]:List Int)).getD v63.toNat 0).toNat) 0)<(v60.length:Int)then(if(i1.getD (((d1.getD ((v48.getD v49.toNat 0).toNat) ([]:List Int)).getD v63.toNat 0).toNat) 0).toNat<v60.length then(if(v61.length+([((d1.getD ((v48.getD v49.toNat 0).toNat) ([]:List Int)).getD v63.toNat 0)]:List Int).length)*8≤140737488355328∧v61.length+([((d1.getD ((v48.getD v49.toNat 0).toNat) ([]:List Int)).getD v63.toNat 0)]:List Int).length≤9223372036854775807 then some (((v60.set ((i1.getD (((d1.getD ((v48.getD v49.toNat 0).toNat) ([]:List Int)).getD v63.toNat 0).toNat) 0).toNat) (v61.length:Int)),(v61++([((d1.getD ((v48.getD v49.toNat 0).toNat) ([]:List Int)).getD v63.toNat 0)]:List Int))))else none)else none)else none)else none)
 else some ((v60,v61)))).bind fun(v67,v68)=>(if 0≤((d1.getD ((v48.getD v49.toNat 0).toNat) ([]:List Int)).getD v63.toNat 0)∧((d1.getD ((v48.getD v49.toNat 0).toNat) ([]:List Int)).getD v63.toNat 0)<(i1.length:Int)then(if 0≤(i1.getD (((d1.getD ((v48.getD v49.toNat 0).toNat) ([]:List Int)).getD v63.toNat 0).toNat) 0)∧(i1.getD (((d1.getD ((v48.getD v49.toNat 0).toNat) ([]:List Int)).getD v63.toNat 0).toNat) 0)<(v67.length:Int)then(if(i1.getD (((d1.getD ((v48.getD v49.toNat 0).toNat) ([]:List Int)).getD v63.toNat 0).toNat) 0).toNat<v67.length then(if(v62.length+([(v67.getD ((i1.getD (((d1.getD ((v48.getD v49.toNat 0).toNat) ([]:List Int)).getD v63.toNat 0).toNat) 0).toNat) 0)]:List Int).length)*8≤140737488355328∧v62.length+([(v67.getD ((i1.getD (((d1.getD ((v48.getD v49.toNat 0).toNat) ([]:List Int)).getD v63.toNat 0).toNat) 0).toNat) 0)]:List Int).length≤9223372036854775807 then some (Sum.inl (v67,v68,(v62++([(v67.getD ((i1.getD (((d1.getD ((v48.getD v49.toNat 0).toNat) ([]:List Int)).getD v63.toNat 0).toNat) 0).toNat) 0)]:List Int)),(IntKind.i64.wrap (v63+1))))else none)else none)else none)else none))else none)else none)else none)else none)
 else some (Sum.inr (v60,v61,v62)))
def sV(d1:List (List Int))(d2 i1:List Int):((List (List Int))×(List Int)×(List Int)×(List Int)×Int)→Option (((List (List Int))×(List Int)×(List Int)×(List Int)×Int)⊕Z17):=fun(v45,v46,v47,v48,v49) =>
 (if(decide (v49<(v48.length:Int)))=true then(if 0≤v49∧v49<(v48.length:Int)then(if v49.toNat<v48.length then(if 0≤(v48.getD v49.toNat 0)∧(v48.getD v49.toNat 0)<(d1.length:Int)then((iter (sO d1 i1 v48 v49) (v47,v48,([]:List Int),0)).bind fun(v64,v65,v66)=>(if(v45.length+([v66]:List (List Int)).length)*24≤140737488355328∧v45.length+([v66]:List (List Int)).length≤9223372036854775807 then(if 0≤v49∧v49<(v65.length:Int)then(if v49.toNat<v65.length then(if 0≤(v65.getD v49.toNat 0)∧(v65.getD v49.toNat 0)<(d2.length:Int)then(if(v46.length+([(d2.getD ((v65.getD v49.toNat 0).toNat) 0)]:List Int).length)*4≤140737488355328∧v46.length+([(d2.getD ((v65.getD v49.toNat 0).toNat) 0)]:List Int).length≤9223372036854775807 then some (Sum.inl ((v45++([v66]:List (List Int))),(v46++([(d2.getD ((v65.getD v49.toNat 0).toNat) 0)]:List Int)),v64,v65,(IntKind.i64.wrap (v49+1))))else none)else none)else none)else none)else none))else none)else none)else none)
 else some (Sum.inr (v45,v46)))
def rK(d1:List (List Int))(d2 i1:List Int):Option Z17 :=
 ((nV i1).bind fun r2 =>
 (if 0≤(IntKind.i64.wrap (r2+1))∧(IntKind.i64.wrap (r2+1))≤(IntKind.i64.wrap (r2+1))∧8*(IntKind.i64.wrap (r2+1))≤281474976710656∧(IntKind.i64.wrap (r2+1))≤9223372036854775807 then((iter (sU r2) ((List.replicate (IntKind.i64.wrap (r2+1)).toNat (0:Int)),0)).bind fun v5=>(if 0≤(0:Int)∧0<(i1.length:Int)then(if 0≤(i1.getD ((0:Int).toNat) 0)∧(i1.getD ((0:Int).toNat) 0)<(v5.length:Int)then(if(i1.getD ((0:Int).toNat) 0).toNat<v5.length then((iter (sV d1 d2 i1) (([]:List (List Int)),([]:List Int),(v5.set ((i1.getD ((0:Int).toNat) 0).toNat) 0),([0]:List Int),0)).bind fun(v50,v51)=>some (v50,v51))else none)else none)else none))else none))
theorem L2(β0 β1 β2:Bool){d1:List (List Int)}{d2:List Int}{i1:List Int}{res:(List (List Int))×List Int}(h:rK d1 d2 i1=some res):
  Pure Tryz.prog 127 [.agg [.p β0 (.slice (.slice (.int .i64))) d1,.p β1 (.slice (.int .u32)) d2],.p β2 (.slice (.int .i64)) i1] (aX (bJ false [⟨Y12,res⟩])):=by
 refine Pure.of_body bB Tryz.func127 (by kernel_rfl) rfl (nl rfl) (fun Bw w0=> ?_) rfl
 unfold rK at h
 refine G (G ?_)
 obtain⟨r2,q2,h⟩:=aG h
 obtain⟨c2,h⟩:=aS h
 have u_1:=(pN β2 q2)
 refine GN ⟨[],[(1,(oP u_1))]⟩ [(1,1,oc u_1),(3,3,oc c2)] (aC (G (aF (cW h (fun(v3,v4)=>aM [(1,.p β2 (.slice (.int .i64)) i1),(2,.adr 0 0 2 0),(4,.adr 1 0 2 0),(5,.adr 2 0 2 0),(6,.sl 3),(18,.i64 ((List.replicate (IntKind.i64.wrap (r2+1)).toNat (0:Int)).length:Int)),(19,.i64 v4)] (aKT β0 d1 β1 d2 v3) 4) 0 (fun v5=>aM [(1,.p β2 (.slice (.int .i64)) i1),(2,.adr 0 0 2 0),(4,.adr 1 0 2 0),(5,.adr 2 0 2 0),(6,.sl 3)] (aKT β0 d1 β1 d2 v5) 4) (gg [] [0,8,16,48]) (fun y o h=> ?_) (fun v5 h=> ?_)))))
 ·obtain⟨v3,v4⟩:=y
  unfold sU at h
  refine G (aC (aO h (fun hb3 h=> ?_) (fun hb3 h=> ?_)))
  ·refine aB (aA (aC (aF (G ?_))))
   obtain⟨c13,c14,h⟩:=g2 h
   refine bS a0 [(2,2,oc c13),(3,3,oc c14)] (aK (aA (Ge ?_)))
   exact eB h (gg [] [0,1,2,3])
  refine aH (aY ?_)
  exact eX h (gg [] [0,1,2,3])
 refine aJ (aA (G ?_))
 obtain⟨c18,c19,c20,h⟩:=g3 h
 refine GN a0 [(2,2,oc c18),(4,4,oc c19),(5,5,oc c20)] (aC (G (aF (cW h (fun(v45,v46,v47,v48,v49)=>aM [(1,.p β2 (.slice (.int .i64)) i1),(2,.adr 0 0 2 0),(4,.adr 1 0 2 0),(5,.adr 2 0 2 0),(6,.sl 5),(8,.sl 6),(9,.i64 v49)] (aLK β0 d1 β1 d2 v45 v46 v47 v48) 7) 2 (fun(v50,v51)=>aM [(4,.adr 0 0 2 0),(5,.adr 1 0 2 0)] (aKk v50 v51) 4) (gg [.nilC 2 0 76 134 (.slice (.int .i64)),.nilC 2 1 77 133 (.int .u32)] [0,1,2,76,77,3,4]) (fun y o h=> ?_) (fun r15 h=> ?_)))))
 ·obtain⟨v45,v46,v47,v48,v49⟩:=y
  unfold sV at h
  refine aC (G (aO h (fun hb24 h=> ?_) (fun hb24 h=> ?_)))
  ·refine aB (aA (aC (aF (G (aC ?_)))))
   obtain⟨c248,c249,c250,h⟩:=g3 h
   refine GD a0 [(4,4,oc c248),(5,5,oc c249),(6,6,oc c250)] (aF (cW h (fun(v60,v61,v62,v63)=>aM [(1,.p β2 (.slice (.int .i64)) i1),(2,.adr 0 0 2 0),(4,.adr 1 0 2 0),(5,.adr 2 0 2 0),(6,.sl 5),(8,.sl 6),(9,.i64 v49),(10,.sl 7),(45,.p β0 (.slice (.int .i64)) (d1.getD ((v48.getD v49.toNat 0).toNat) ([]:List Int))),(46,.i64 ((d1.getD ((v48.getD v49.toNat 0).toNat) ([]:List Int)).length:Int)),(47,.i64 v63)] (aJT β0 d1 β1 d2 v45 v46 v60 v61 v62) 8) 4 (fun(v64,v65,v66)=>aM [(1,.p β2 (.slice (.int .i64)) i1),(2,.adr 0 0 2 0),(4,.adr 1 0 2 0),(5,.adr 2 0 2 0),(6,.sl 5),(8,.sl 6),(9,.i64 v49),(10,.sl 7)] (aJT β0 d1 β1 d2 v45 v46 v64 v65 v66) 8) (gg [.nilS 10 127 3 (.int .i64)] [0,1,2,3,4,5,6,127]) (fun y o h=> ?_) (fun r14 h=> ?_)))
   ·obtain⟨v60,v61,v62,v63⟩:=y
    unfold sO at h
    refine G (aC (aO h (fun hb31 h=> ?_) (fun hb31 h=> ?_)))
    ·refine aB (aA (aC (aF (GC 0 h (fun h=>aC ?_)))))
     obtain⟨c320,c321,c322,h⟩:=g3 h
     refine GN a0 [(3,3,oc c320),(5,5,oc c321),(6,6,oc c322)] (bO h (fun(v67,v68)=>aM [(1,.p β2 (.slice (.int .i64)) i1),(2,.adr 0 0 2 0),(4,.adr 1 0 2 0),(5,.adr 2 0 2 0),(6,.sl 5),(8,.sl 6),(9,.i64 v49),(10,.sl 7),(12,.i64 ((d1.getD ((v48.getD v49.toNat 0).toNat) ([]:List Int)).getD v63.toNat 0)),(45,.p β0 (.slice (.int .i64)) (d1.getD ((v48.getD v49.toNat 0).toNat) ([]:List Int))),(46,.i64 ((d1.getD ((v48.getD v49.toNat 0).toNat) ([]:List Int)).length:Int)),(47,.i64 v63)] (aJT β0 d1 β1 d2 v45 v46 v67 v68 v62) 8) (fun r13 h=> ?_) (fun r13 h=> ?_))
     ·refine aO h (fun hb33 h=> ?_) (fun hb33 h=> ?_)
      ·obtain⟨c334,c335,c336,h⟩:=g3 h
       refine GN a0 [(3,3,oc c334),(7,7,oc c335),(8,8,oc c336)] (GCe 3 h (fun h=> ?_))
       exact eN h (gg [] [0,1,2,3,4,5,200,7])
      refine aB ?_
      exact eN h (gg [] [0,1,2,3,4,5,6,7])
     obtain⟨v67,v68⟩:=r13
     refine aA ?_
     obtain⟨c343,c344,c345,c346,h⟩:=g4 h
     refine bS a0 [(4,4,oc c343),(6,6,oc c344),(7,7,oc c345),(9,9,oc c346)] (aK (aA (Ge ?_)))
     exact eB h (gg [] [0,1,2,3,4,5,6,80])
    refine aH (aY ?_)
    exact eX h (gg [] [0,1,2,3,4,5,6,7])
   obtain⟨v64,v65,v66⟩:=r14
   refine aJ (aA ?_)
   obtain⟨c352,c353,c354,c355,h⟩:=g4 h
   obtain⟨c356,h⟩:=aS h
   refine qA a0 [(4,4,oc c352),(11,11,oc c353),(12,12,oc c354),(13,13,oc c355),(16,16,oc c356)] (aK (aA (Ge ?_)))
   exact eB h (gg [] [0,1,2,40,136,5,6])
  refine aH (aY ?_)
  exact eX h (gg [] [1,2,3,4])
 obtain⟨v50,v51⟩:=r15
 refine aJ (aA (G (pV [.frzC 0 0,.frzC 0 1] (by kernel_rfl) (aL ?_))))
 obtain rfl:=sI h
 exact aD [Y12] (by kernel_rfl)
def wV(a1:List (List Int))(a2:List Int):(List Int)→Option ((List Int)⊕(List Int)):=fun kind2 =>
 ((m7 (kind2.length:Int) kind2 a1 a2).bind fun r18 =>
 ((nV r18).bind fun r21 =>
 ((nV kind2).bind fun r22 =>
 (if(r21 == r22)=true then some (Sum.inr kind2)
 else some (Sum.inl r18)))))
def rN(a1:List (List Int))(a2:List Int):Option (Z17×Int) :=
 ((uT a1 a2).bind fun r2 =>
 (if(!r2)=true then some ((([]:List (List Int)),([]:List Int)),2)
 else((u9 (a2.length:Int) a1 a2).bind fun r4 =>
 ((iter (wV a1 a2) r4).bind fun kind3=>((rK a1 a2 kind3).bind fun r24 =>
 some ((r24.1,r24.2),0))))))
theorem xF(β0 β1:Bool){a1:List (List Int)}{a2:List Int}{res:Z17×Int}(h:rN a1 a2=some res):
  Pure Tryz.prog 85 [.agg [.p β0 (.slice (.slice (.int .i64))) a1,.p β1 (.slice (.int .u32)) a2]] (aX (bJ false [⟨Y12,res.1⟩,⟨(.int .i64),res.2⟩])):=by
 refine Pure.of_body bB Tryz.func85 (by kernel_rfl) rfl (nl rfl) (fun Bw w0=> ?_) rfl
 unfold rN at h
 refine G (aC ?_)
 obtain⟨r2,q2,h⟩:=aG h
 refine GP 1 (Q6 β0 β1 q2) (aO h (fun hb1 h=> ?_) (fun hb1 h=> ?_))
 ·refine G (aL (aE ?_))
  obtain rfl:=sI h
  exact aD [Y12,(.int .i64)] (by kernel_rfl)
 refine aB (aA ?_)
 obtain⟨r4,q4,h⟩:=aG h
 refine GP 4 (S4 β0 β1 q4) (aC (aF (cW h (fun kind2=>aM [(1,.adr 0 0 2 0),(2,.adr 1 0 2 0),(4,.adr 2 0 1 0)] (aKU β0 a1 β1 a2 kind2) 3) 0 (fun kind3=>aM [(1,.adr 0 0 2 0),(2,.adr 1 0 2 0),(4,.adr 2 0 1 0)] (aKU β0 a1 β1 a2 kind3) 3) (gg [] [0,8,88]) (fun kind2 o h=> ?_) (fun kind3 h=> ?_))))
 ·unfold wV at h
  refine aF ?_
  obtain⟨r18,q18,h⟩:=aG h
  refine GP 3 (zF false β0 β1 q18) (aC ?_)
  obtain⟨r21,q21,h⟩:=aG h
  obtain⟨r22,q22,h⟩:=aG h
  have u_1:=(pN false q21)
  have u_2:=(pN false q22)
  refine GD ⟨[],[(1,(oP u_1)),(3,(oP u_2))]⟩ [(1,1,oc u_1),(3,3,oc u_2)] (aO h (fun hb4 h=> ?_) (fun hb4 h=> ?_))
  ·refine aH (aY (kP rfl ?_))
   exact eX h (gg [] [0,1,2])
  refine aB (aA (Ge (aK ?_)))
  exact eB h (gg [] [0,1,2])
 refine aJ (aA ?_)
 obtain⟨r24,q24,h⟩:=aG h
 refine GP 2 (L2 β0 β1 false q24) (aL ?_)
 obtain rfl:=sI h
 exact aD [Y12,(.int .i64)] (by kernel_rfl)
def I0(d5:List Z7):((List Tree)×(List Tree)×Int)→Option (((List Tree)×(List Tree)×Int)⊕((List Tree)×List Tree)):=fun(v4,v5,v6) =>
 (if(decide (v6<(d5.length:Int)))=true then(if 0≤v6∧v6<(d5.length:Int)then(if(v4.length+([(Tree.node (((d5.getD v6.toNat (0,((Tree.node 0 0 []),(Tree.node 0 0 [])))).2.1).op) (((d5.getD v6.toNat (0,((Tree.node 0 0 []),(Tree.node 0 0 [])))).2.1).set) (((d5.getD v6.toNat (0,((Tree.node 0 0 []),(Tree.node 0 0 [])))).2.1).kids))]:List Tree).length)*32≤140737488355328∧v4.length+([(Tree.node (((d5.getD v6.toNat (0,((Tree.node 0 0 []),(Tree.node 0 0 [])))).2.1).op) (((d5.getD v6.toNat (0,((Tree.node 0 0 []),(Tree.node 0 0 [])))).2.1).set) (((d5.getD v6.toNat (0,((Tree.node 0 0 []),(Tree.node 0 0 [])))).2.1).kids))]:List Tree).length≤9223372036854775807 then((vW 1000 (((d5.getD v6.toNat (0,((Tree.node 0 0 []),(Tree.node 0 0 [])))).2.2).op) (((d5.getD v6.toNat (0,((Tree.node 0 0 []),(Tree.node 0 0 [])))).2.2).set) (((d5.getD v6.toNat (0,((Tree.node 0 0 []),(Tree.node 0 0 [])))).2.2).kids)).bind fun r6 =>
 (if(v5.length+([(Tree.node r6.op r6.set r6.kids)]:List Tree).length)*32≤140737488355328∧v5.length+([(Tree.node r6.op r6.set r6.kids)]:List Tree).length≤9223372036854775807 then some (Sum.inl ((v4++([(Tree.node (((d5.getD v6.toNat (0,((Tree.node 0 0 []),(Tree.node 0 0 [])))).2.1).op) (((d5.getD v6.toNat (0,((Tree.node 0 0 []),(Tree.node 0 0 [])))).2.1).set) (((d5.getD v6.toNat (0,((Tree.node 0 0 []),(Tree.node 0 0 [])))).2.1).kids))]:List Tree)),(v5++([(Tree.node r6.op r6.set r6.kids)]:List Tree)),(IntKind.i64.wrap (v6+1))))else none))else none)else none)
 else some (Sum.inr (v4,v5)))
def Q0(d1:List (List UInt8))(d2 d3:Int)(d4:List Int)(d5:List Z7):Option ((Option Z5)×Int) :=
 (if((d1.length:Int) == 0)=true then some ((none:Option Z5),22)
 else((iter (I0 d5) (([]:List Tree),([]:List Tree),0)).bind fun(v7,v8)=>((vX v7 (d1.length:Int)).bind fun(r10,r11) =>
 (if(r11 != 0)=true then some ((none:Option Z5),r11)
 else((vX v8 (d1.length:Int)).bind fun(r14,r15) =>
 (if(r15 != 0)=true then some ((none:Option Z5),r15)
 else((rN r10.1 r10.2).bind fun(r18,r19) =>
 ((rN r14.1 r14.2).bind fun(r22,r23) =>
 some ((some ((d1,(d2,(d3,(d4,d5)))),((r18.1,r18.2),(r22.1,r22.2))):Option Z5),0)))))))))
theorem aDm{d1:List (List UInt8)}{d2:Int}{d3:Int}{d4:List Int}{d5:List Z7}{res:(Option Z5)×Int}(h:Q0 d1 d2 d3 d4 d5=some res):
  Pure Tryz.prog 52 [.agg [.p false (.slice .str) d1,.u32 d2,.u32 d3,.p false (.slice (.int .i64)) d4,.p false (.slice (.prod (.int .u8) Y8)) d5]] (aX (bJ false [⟨(.ptr qO),res.1⟩,⟨(.int .i64),res.2⟩])):=by
 refine Pure.of_body bB Tryz.func52 (by kernel_rfl) rfl (nl rfl) (fun Bw w0=> ?_) rfl
 unfold Q0 at h
 refine G (aC (G (aO h (fun hb1 h=> ?_) (fun hb1 h=> ?_))))
 ·refine G (aL (aE ?_))
  obtain rfl:=sI h
  exact aD [(.ptr qO),(.int .i64)] (by kernel_rfl)
 refine aB (aA (G (aC (G (aF (cW h (fun(v4,v5,v6)=>aM [(1,.adr 0 0 5 0),(4,.sl 1),(5,.sl 2),(17,.p false (.slice (.prod (.int .u8) Y8)) d5),(18,.i64 (d5.length:Int)),(19,.i64 v6)] (aKg d1 d2 d3 d4 d5 v4 v5) 3) 0 (fun(v7,v8)=>aM [(1,.adr 0 0 5 0),(4,.sl 1),(5,.sl 2)] (aKg d1 d2 d3 d4 d5 v7 v8) 3) (gg [.nilS 4 104 210 (.tree .u8 .u32),.nilS 5 105 210 (.tree .u8 .u32)] [0,104,105]) (fun y o h=> ?_) (fun r7 h=> ?_)))))))
 ·obtain⟨v4,v5,v6⟩:=y
  unfold I0 at h
  refine G (aC (aO h (fun hb4 h=> ?_) (fun hb4 h=> ?_)))
  ·refine aB (aA (aC (aF (GC 0 h (fun h=> ?_)))))
   obtain⟨c17,h⟩:=aS h
   obtain⟨r6,q6,h⟩:=aG h
   obtain⟨c18,h⟩:=aS h
   have u_1:=(zW 1000 false q6)
   refine qA ⟨[],[(8,(oP u_1))]⟩ [(4,4,oc c17),(8,8,oc u_1),(10,10,oc c18)] (aK (aA (Ge ?_)))
   exact eB h (gg [] [0,75,123])
  refine aH (aY ?_)
  exact eX h (gg [] [0,1,2])
 obtain⟨v7,v8⟩:=r7
 refine aJ (aA ?_)
 obtain⟨⟨r10,r11⟩,q8,h⟩:=aG h
 refine GP 4 (B7 true q8) (aC (G (aO h (fun hb5 h=> ?_) (fun hb5 h=> ?_))))
 ·refine G (aL (aE ?_))
  obtain rfl:=sI h
  exact aD [(.ptr qO),(.int .i64)] (by kernel_rfl)
 refine aB (aA ?_)
 obtain⟨⟨r14,r15⟩,q10,h⟩:=aG h
 refine GP 4 (B7 true q10) (aC (G (aO h (fun hb6 h=> ?_) (fun hb6 h=> ?_))))
 ·refine G (aL (aE ?_))
  obtain rfl:=sI h
  exact aD [(.ptr qO),(.int .i64)] (by kernel_rfl)
 refine aB (aA (G ?_))
 obtain⟨⟨r18,r19⟩,q12,h⟩:=aG h
 refine GP 2 (xF false false q12) ?_
 obtain⟨⟨r22,r23⟩,q14,h⟩:=aG h
 refine GP 2 (xF false false q14) (G (aL ?_))
 obtain rfl:=sI h
 exact aD [(.ptr qO),(.int .i64)] (by kernel_rfl)
def lP(text1:List UInt8):Option ((Option Z5)×Int×Int) :=
 ((vL text1).bind fun(r3,r4) =>
 (if(r4.1 != 0)=true then some ((none:Option Z5),(r4.1,r4.2))
 else((Q0 r3.1 r3.2.1 r3.2.2.1 r3.2.2.2.1 r3.2.2.2.2).bind fun(r7,r8) =>
 some (r7,(r8,0)))))
theorem K8{text1:List UInt8}{res:(Option Z5)×Int×Int}(h:lP text1=some res):
  Pure Tryz.prog 29 [.st text1] (aX (bJ false [⟨(.ptr qO),res.1⟩,⟨Y2,res.2⟩])):=by
 refine Pure.of_body bB Tryz.func29 (by kernel_rfl) rfl (nl rfl) (fun Bw w0=> ?_) rfl
 unfold lP at h
 refine G ?_
 obtain⟨⟨r3,r4⟩,q2,h⟩:=aG h
 refine GP 1 (X5 q2) (aC (G (aO h (fun hb1 h=> ?_) (fun hb1 h=> ?_))))
 ·refine GD a0 [] (aL (aE ?_))
  obtain rfl:=sI h
  exact aD [(.ptr qO),Y2] (by kernel_rfl)
 refine aB (aA ?_)
 obtain⟨⟨r7,r8⟩,q4,h⟩:=aG h
 refine GP 1 (aDm q4) (G (aL ?_))
 obtain rfl:=sI h
 exact aD [(.ptr qO),Y2] (by kernel_rfl)
def dP(m1:Option Z5):Option (Int) :=
 (if m1.isNone=true then some 0
 else(if m1.isSome=true then some (((m1.getD (Ty.zero qO)).1.1).length:Int)else none))
theorem j1(β0:Bool){m1:Option Z5}{res:Int}(h:dP m1=some res):
  Pure Tryz.prog 30 [.p β0 (.ptr qO) m1] (aX (bJ false [⟨(.int .i64),res⟩])):=by
 refine Pure.of_body bB Tryz.func30 (by kernel_rfl) rfl (nl rfl) (fun Bw w0=> ?_) rfl
 unfold dP at h
 refine G (aC (GN a0 [(1,1,⟨∃e,Tryz.prog.underlying 89=some (.pointer e),⟨_,rfl⟩⟩)] (aO h (fun hb1 h=> ?_) (fun hb1 h=> ?_))))
 ·refine G (aL (aE ?_))
  obtain rfl:=sI h
  exact aD [(.int .i64)] (by kernel_rfl)
 refine aB (aA (GC 1 h (fun h=>aL ?_)))
 obtain rfl:=sI h
 exact aD [(.int .i64)] (by kernel_rfl)
def eU(l1:List Z8)(most1:Int):(Int×Int)→Option ((Int×Int)⊕((Unit)⊕(Bool))):=fun(last2,v4) =>
 (if(decide (v4<(l1.length:Int)))=true then(if 0≤v4∧v4<(l1.length:Int)then(((if(decide (((l1.getD v4.toNat (0,0,0)).1)≤last2))=true then some (true)
 else(if(decide (((l1.getD v4.toNat (0,0,0)).2.1)<((l1.getD v4.toNat (0,0,0)).1)))=true then some (true)
 else(if(decide (((l1.getD v4.toNat (0,0,0)).2.1) > 1114111))=true then some (true)
 else(if(decide (((l1.getD v4.toNat (0,0,0)).2.2)<0))=true then some (true)
 else(if(decide (((l1.getD v4.toNat (0,0,0)).2.2)≥most1))=true then some (true)
 else some ((decide (((l1.getD v4.toNat (0,0,0)).2.2) > 255))))))))).bind fun v5=>(if v5=true then some (Sum.inr (Sum.inr false))
 else some (Sum.inl ((l1.getD v4.toNat (0,0,0)).2.1,(IntKind.i64.wrap (v4+1))))))else none)
 else some (Sum.inr (Sum.inl ())))
def nR(l1:List Z8)(most1:Int):Option (Bool) :=
 (if(decide ((l1.length:Int) > 256))=true then some false
 else((iter (eU l1 most1) ((-1:Int),0)).bind fun(r2:((Unit)⊕(Bool)))=>match r2 with
 | .inl _=>some true
 | .inr (r1)=>some r1))
theorem aAA(β0:Bool){l1:List Z8}{most1:Int}{res:Bool}(h:nR l1 most1=some res):
  Pure Tryz.prog 53 [.p β0 (.slice (.prod (.int .i32) Y1)) l1,.i64 most1] (aX (bJ false [⟨.bool,res⟩])):=by
 refine Pure.of_body bB Tryz.func53 (by kernel_rfl) rfl (nl rfl) (fun Bw w0=> ?_) rfl
 unfold nR at h
 refine G (aC (G (aO h (fun hb1 h=> ?_) (fun hb1 h=> ?_))))
 ·refine G (aL (aE ?_))
  obtain rfl:=sI h
  exact aD [.bool] (by kernel_rfl)
 refine aB (aA (G (aC (G (aF (mG h (fun(last2,v4)=>aM [(1,.i64 most1),(5,.i32 last2),(11,.p β0 (.slice (.prod (.int .i32) Y1)) l1),(12,.i64 (l1.length:Int)),(13,.i64 v4)] [] 0) (eI (fV Tryz.f53.ntmps 0 (fun _=>aM [] [] 0)) (iC tb Tryz.f53.results.toList (fun r1=>[⟨.bool,r1⟩]))) (gg [] []) (fun y o h=> ?_) (fun r2 h e σ' hq=> ?_)))))))
 ·obtain⟨last2,v4⟩:=y
  unfold eU at h
  refine G (aC (aO h (fun hb36 h=> ?_) (fun hb36 h=> ?_)))
  ·refine aB (aA (aC (aF (GC 0 h (fun h=>aC (aC (bO h (fun v5=>aM [(1,.i64 most1),(7,.adr 0 0 3 0),(11,.p β0 (.slice (.prod (.int .i32) Y1)) l1),(12,.i64 (l1.length:Int)),(13,.i64 v4),(48,.bo v5)] [(0,.box [.i32 ((l1.getD v4.toNat (0,0,0)).1),.i32 ((l1.getD v4.toNat (0,0,0)).2.1),.i64 ((l1.getD v4.toNat (0,0,0)).2.2)])] 1) (fun v5 h=> ?_) (fun v5 h=> ?_))))))))
   ·rcases aW h with⟨hb47,h⟩ | ⟨hb47,h⟩
    ·refine bS ⟨[(4,true),(10,true)],[]⟩ [(5,10,oc hb47)] ?_
     exact eN h (gg [] [24])
    rcases aW h with⟨hb48,h⟩ | ⟨hb48,h⟩
    ·refine bS ⟨[(4,false),(10,false),(11,true),(15,true)],[]⟩ [(5,9,an hb47),(10,10,oc hb47),(12,15,oc hb48)] ?_
     exact eN h (gg [] [24])
    rcases aW h with⟨hb49,h⟩ | ⟨hb49,h⟩
    ·refine bS ⟨[(4,false),(10,false),(11,false),(15,false),(16,true),(20,true)],[]⟩ [(5,9,an hb47),(10,10,oc hb47),(12,14,an hb48),(15,15,oc hb48),(17,20,oc hb49)] ?_
     exact eN h (gg [] [24])
    rcases aW h with⟨hb50,h⟩ | ⟨hb50,h⟩
    ·refine bS ⟨[(4,false),(10,false),(11,false),(15,false),(16,false),(20,false),(21,true),(26,true)],[]⟩ [(5,9,an hb47),(10,10,oc hb47),(12,14,an hb48),(15,15,oc hb48),(17,19,an hb49),(20,20,oc hb49),(22,26,oc hb50)] ?_
     exact eN h (gg [] [24])
    rcases aW h with⟨hb51,h⟩ | ⟨hb51,h⟩
    ·refine bS ⟨[(4,false),(10,false),(11,false),(15,false),(16,false),(20,false),(21,false),(26,false),(27,true),(31,true)],[]⟩ [(5,9,an hb47),(10,10,oc hb47),(12,14,an hb48),(15,15,oc hb48),(17,19,an hb49),(20,20,oc hb49),(22,25,an hb50),(26,26,oc hb50),(28,31,oc hb51)] ?_
     exact eN h (gg [] [24])
    refine bS ⟨[(4,false),(10,false),(11,false),(15,false),(16,false),(20,false),(21,false),(26,false),(27,false),(31,false)],[]⟩ [(5,9,an hb47),(10,10,oc hb47),(12,14,an hb48),(15,15,oc hb48),(17,19,an hb49),(20,20,oc hb49),(22,25,an hb50),(26,26,oc hb50),(28,30,an hb51),(31,31,oc hb51)] ?_
    exact eN h (gg [] [24])
   refine aA (aO h (fun hb52 h=> ?_) (fun hb52 h=> ?_))
   ·refine G (aL ?_)
    obtain rfl:=sI h
    refine aE (aN (aE (bX (aU ?_))))
    exact bW (aD [.bool] (by kernel_rfl))
   refine aB (aA (Ge (aK (aA (Ge ?_)))))
   exact eB h (gg [] [])
  refine aH (aY ?_)
  obtain rfl:=sI h
  refine eR (bI ?_)
  exact b8 (gg [] [])
 rcases r2 with _ | r1
 ·obtain⟨rfl,hle⟩:=hq
  refine dH ?_ hle
  refine aJ (aA (G (aL ?_)))
  obtain rfl:=sI h
  exact aD [.bool] (by kernel_rfl)
 obtain⟨rfl,hr⟩:=hq
 refine aN (aE ?_)
 obtain rfl:=sI h
 exact hr
def iR(d1:List Z8)(v74:Int):(Int)→Option ((Int)⊕(Int)):=fun v80 =>
 (((if(decide (v80<(d1.length:Int)))=true then(if 0≤v80∧v80<(d1.length:Int)then some ((decide (((d1.getD v80.toNat (0,0,0)).2.1)<(IntKind.i32.wrap ((IntKind.i32.wrap v74)*2 ^ (min (8:Int).toNat IntKind.i32.bits))))))else none)
 else some (false))).bind fun v82=>(if v82=true then some (Sum.inl (IntKind.i64.wrap (v80+1)))
 else some (Sum.inr v80)))
def j8(d1:List Z8)(v74 v98:Int):((Arr 256)×Int)→Option (((Arr 256)×Int)⊕(Arr 256)):=fun(v103,v104) =>
 (if 0≤v98∧v98<(d1.length:Int)then(if(decide (v104≤(min ((d1.getD v98.toNat (0,0,0)).2.1) (IntKind.i32.wrap ((IntKind.i32.wrap ((IntKind.i32.wrap v74)*2 ^ (min (8:Int).toNat IntKind.i32.bits)))+255)))))=true then(if 0≤v98∧v98<(d1.length:Int)then(if 0≤(aT .and .i32 v104 255)∧(aT .and .i32 v104 255)<((256:Nat):Int)then some (Sum.inl ((z9 v103 ((aT .and .i32 v104 255).toNat) (IntKind.u8.wrap ((d1.getD v98.toNat (0,0,0)).2.2))),(IntKind.i32.wrap (v104+1))))else none)else none)
 else some (Sum.inr v103))else none)
def iU(d1:List Z8)(v74:Int):((Arr 256)×Int)→Option (((Arr 256)×Int)⊕(Arr 256)):=fun(v97,v98) =>
 (((if(decide (v98<(d1.length:Int)))=true then(if 0≤v98∧v98<(d1.length:Int)then some ((decide (((d1.getD v98.toNat (0,0,0)).1)≤(IntKind.i32.wrap ((IntKind.i32.wrap ((IntKind.i32.wrap v74)*2 ^ (min (8:Int).toNat IntKind.i32.bits)))+255)))))else none)
 else some (false))).bind fun v100=>(if v100=true then(if 0≤v98∧v98<(d1.length:Int)then((iter (j8 d1 v74 v98) (v97,(max ((d1.getD v98.toNat (0,0,0)).1) (IntKind.i32.wrap ((IntKind.i32.wrap v74)*2 ^ (min (8:Int).toNat IntKind.i32.bits)))))).bind fun v105=>some (Sum.inl (v105,(IntKind.i64.wrap (v98+1)))))else none)
 else some (Sum.inr v97)))
def gG(d1:List Z8):((Arr 4352)×(List (Arr 256))×(List ((Arr 256)×Int))×Int×Int)→Option (((Arr 4352)×(List (Arr 256))×(List ((Arr 256)×Int))×Int×Int)⊕Z16):=fun(v70,v71,v72,v73,v74) =>
 (if(decide (v74<4352))=true then(if 0≤(8:Int)then(if 0≤(8:Int)then((iter (iR d1 v74) v73).bind fun v81=>((iter (iU d1 v74) ((eA 256),v81)).bind fun v99=>(if(aeq v99 (eA 256))=true then some (Sum.inl (v70,v71,v72,v81,(IntKind.i64.wrap (v74+1))))
 else(((if(!((bG (.arr .u8 256) v72 v99).isSome))=true then(if(v71.length+([v99]:List (Arr 256)).length)*256≤140737488355328∧v71.length+([v99]:List (Arr 256)).length≤9223372036854775807 then some (((v71++([v99]:List (Arr 256))),(fF (.arr .u8 256) v72 v99 (v71.length:Int)),(v71.length:Int)))else none)
 else some ((v71,v72,((bG (.arr .u8 256) v72 v99).getD 0))))).bind fun(v106,v107,v108)=>(if 0≤v74∧v74<((4352:Nat):Int)then some (Sum.inl ((z9 v70 v74.toNat v108),v106,v107,v81,(IntKind.i64.wrap (v74+1))))else none)))))else none)else none)
 else some (Sum.inr (v70,v71)))
def iT(d1:List Z8)(i1:Int):Option ((Option Z16)×Int) :=
 ((nR d1 i1).bind fun r2 =>
 (if(!r2)=true then some ((none:Option Z16),10)
 else(if 0≤(1:Int)∧(1:Int)≤1∧256*(1:Int)≤281474976710656∧(1:Int)≤9223372036854775807 then((iter (gG d1) ((eA 4352),(List.replicate (1:Int).toNat (eA 256)),([]:List ((Arr 256)×Int)),0,0)).bind fun(v75,v76)=>some ((some (v75,v76):Option Z16),0))else none)))
theorem qZ(β0:Bool){d1:List Z8}{i1:Int}{res:(Option Z16)×Int}(h:iT d1 i1=some res):
  Pure Tryz.prog 31 [.p β0 (.slice (.prod (.int .i32) Y1)) d1,.i64 i1] (aX (bJ false [⟨(.ptr P8),res.1⟩,⟨(.int .i64),res.2⟩])):=by
 refine Pure.of_body bB Tryz.func31 (by kernel_rfl) rfl (nl rfl) (fun Bw w0=> ?_) rfl
 unfold iT at h
 refine G (aC ?_)
 obtain⟨r2,q2,h⟩:=aG h
 refine GP 2 (aAA β0 q2) (aO h (fun hb1 h=> ?_) (fun hb1 h=> ?_))
 ·refine G (aL (aE ?_))
  obtain rfl:=sI h
  exact aD [(.ptr P8),(.int .i64)] (by kernel_rfl)
 refine aB (aA (GC 0 h (fun h=>GN a0 [(0,0,oc aE7)] (G (aC (G (aF (cW h (fun(v70,v71,v72,v73,v74)=>aM [(0,.p β0 (.slice (.prod (.int .i32) Y1)) d1),(6,.adr 0 0 4353 0),(7,.mp 2),(8,.i64 v73),(25,.i64 v74)] (aKK v70 v71 v72) 3) 0 (fun(v75,v76)=>aM [(6,.adr 0 0 4353 0)] (aLF v75 v76) 2) (gg [] [64,48,80]) (fun y o h=> ?_) (fun r6 h=> ?_)))))))))
 ·obtain⟨v70,v71,v72,v73,v74⟩:=y
  unfold gG at h
  refine G (aC (aO h (fun hb76 h=> ?_) (fun hb76 h=> ?_)))
  ·refine aB (aA (aC (aF (G ?_))))
   obtain⟨c181,c182,h⟩:=g2 h
   refine GN a0 [(2,2,oc c181),(5,5,oc c182)] (G (aC (aF ?_)))
   refine cW h (fun v80=>aM [(0,.p β0 (.slice (.prod (.int .i32) Y1)) d1),(6,.adr 0 0 4353 0),(7,.mp 2),(8,.i64 v80),(9,.i64 v74),(10,.i32 (IntKind.i32.wrap ((IntKind.i32.wrap v74)*2 ^ (min (8:Int).toNat IntKind.i32.bits)))),(11,.i32 (IntKind.i32.wrap ((IntKind.i32.wrap ((IntKind.i32.wrap v74)*2 ^ (min (8:Int).toNat IntKind.i32.bits)))+255))),(12,.adr 3 0 256 0),(25,.i64 v74)] (aC0 v70 v71 v72 (eA 256)) 4) 2 (fun v81=>aM [(0,.p β0 (.slice (.prod (.int .i32) Y1)) d1),(6,.adr 0 0 4353 0),(7,.mp 2),(8,.i64 v81),(9,.i64 v74),(10,.i32 (IntKind.i32.wrap ((IntKind.i32.wrap v74)*2 ^ (min (8:Int).toNat IntKind.i32.bits)))),(11,.i32 (IntKind.i32.wrap ((IntKind.i32.wrap ((IntKind.i32.wrap v74)*2 ^ (min (8:Int).toNat IntKind.i32.bits)))+255))),(12,.adr 3 0 256 0),(25,.i64 v74)] (aC0 v70 v71 v72 (eA 256)) 4) (gg [] [0,1,2,99]) (fun v80 o h=> ?_) (fun v81 h=> ?_)
   ·unfold iR at h
    refine aC (aC (bO h (fun v82=>aM [(0,.p β0 (.slice (.prod (.int .i32) Y1)) d1),(6,.adr 0 0 4353 0),(7,.mp 2),(8,.i64 v80),(9,.i64 v74),(10,.i32 (IntKind.i32.wrap ((IntKind.i32.wrap v74)*2 ^ (min (8:Int).toNat IntKind.i32.bits)))),(11,.i32 (IntKind.i32.wrap ((IntKind.i32.wrap ((IntKind.i32.wrap v74)*2 ^ (min (8:Int).toNat IntKind.i32.bits)))+255))),(12,.adr 3 0 256 0),(25,.i64 v74),(47,.bo v82)] (aC0 v70 v71 v72 (eA 256)) 4) (fun v82 h=> ?_) (fun v82 h=> ?_)))
    ·rcases aW h with⟨hb87,h⟩ | ⟨hb87,h⟩
     ·obtain⟨c191,h⟩:=aS h
      refine bS ⟨[(4,true),(12,true)],[]⟩ [(5,6,an hb87),(7,7,oc (And.intro hb87 c191)),(8,11,an hb87),(12,12,oc hb87)] ?_
      exact eN h (gg [] [0,1,2,3])
     refine bS ⟨[(4,false),(12,false)],[]⟩ [(5,12,oc hb87)] ?_
     exact eN h (gg [] [0,1,2,3])
    refine aA (aO h (fun hb88 h=> ?_) (fun hb88 h=> ?_))
    ·refine aB (aA (aF (Ge (aK ?_))))
     exact eB h (gg [] [0,1,2,3])
    refine aH (aY ?_)
    exact eX h (gg [] [0,1,2,3])
   refine aJ (aA (aC (G (aF (cW h (fun(v97,v98)=>aM [(0,.p β0 (.slice (.prod (.int .i32) Y1)) d1),(6,.adr 0 0 4353 0),(7,.mp 2),(8,.i64 v81),(9,.i64 v74),(10,.i32 (IntKind.i32.wrap ((IntKind.i32.wrap v74)*2 ^ (min (8:Int).toNat IntKind.i32.bits)))),(11,.i32 (IntKind.i32.wrap ((IntKind.i32.wrap ((IntKind.i32.wrap v74)*2 ^ (min (8:Int).toNat IntKind.i32.bits)))+255))),(12,.adr 3 0 256 0),(13,.i64 v98),(25,.i64 v74)] (aC0 v70 v71 v72 v97) 4) 4 (fun v99=>aM [(0,.p β0 (.slice (.prod (.int .i32) Y1)) d1),(6,.adr 0 0 4353 0),(7,.mp 2),(8,.i64 v81),(9,.i64 v74),(12,.adr 3 0 256 0),(25,.i64 v74)] (aC0 v70 v71 v72 v99) 4) (gg [] [0,1,2,3]) (fun y o h=> ?_) (fun v99 h=> ?_))))))
   ·obtain⟨v97,v98⟩:=y
    unfold iU at h
    refine aC (aC (bO h (fun v100=>aM [(0,.p β0 (.slice (.prod (.int .i32) Y1)) d1),(6,.adr 0 0 4353 0),(7,.mp 2),(8,.i64 v81),(9,.i64 v74),(10,.i32 (IntKind.i32.wrap ((IntKind.i32.wrap v74)*2 ^ (min (8:Int).toNat IntKind.i32.bits)))),(11,.i32 (IntKind.i32.wrap ((IntKind.i32.wrap ((IntKind.i32.wrap v74)*2 ^ (min (8:Int).toNat IntKind.i32.bits)))+255))),(12,.adr 3 0 256 0),(13,.i64 v98),(25,.i64 v74),(63,.bo v100)] (aC0 v70 v71 v72 v97) 4) (fun v100 h=> ?_) (fun v100 h=> ?_)))
    ·rcases aW h with⟨hb105,h⟩ | ⟨hb105,h⟩
     ·obtain⟨c240,h⟩:=aS h
      refine bS ⟨[(4,true),(12,true)],[]⟩ [(5,6,an hb105),(7,7,oc (And.intro hb105 c240)),(8,11,an hb105),(12,12,oc hb105)] ?_
      exact eN h (gg [] [0,1,2,3])
     refine bS ⟨[(4,false),(12,false)],[]⟩ [(5,12,oc hb105)] ?_
     exact eN h (gg [] [0,1,2,3])
    refine aA (aO h (fun hb106 h=> ?_) (fun hb106 h=> ?_))
    ·refine aB (aA (aC (aF (GC 2 h (fun h=>aF ?_)))))
     refine cW h (fun(v103,v104)=>aM [(0,.p β0 (.slice (.prod (.int .i32) Y1)) d1),(6,.adr 0 0 4353 0),(7,.mp 2),(8,.i64 v81),(9,.i64 v74),(10,.i32 (IntKind.i32.wrap ((IntKind.i32.wrap v74)*2 ^ (min (8:Int).toNat IntKind.i32.bits)))),(11,.i32 (IntKind.i32.wrap ((IntKind.i32.wrap ((IntKind.i32.wrap v74)*2 ^ (min (8:Int).toNat IntKind.i32.bits)))+255))),(12,.adr 3 0 256 0),(13,.i64 v98),(14,.i32 v104),(25,.i64 v74)] (aC0 v70 v71 v72 v103) 4) 6 (fun v105=>aM [(0,.p β0 (.slice (.prod (.int .i32) Y1)) d1),(6,.adr 0 0 4353 0),(7,.mp 2),(8,.i64 v81),(9,.i64 v74),(10,.i32 (IntKind.i32.wrap ((IntKind.i32.wrap v74)*2 ^ (min (8:Int).toNat IntKind.i32.bits)))),(11,.i32 (IntKind.i32.wrap ((IntKind.i32.wrap ((IntKind.i32.wrap v74)*2 ^ (min (8:Int).toNat IntKind.i32.bits)))+255))),(12,.adr 3 0 256 0),(13,.i64 v98),(25,.i64 v74)] (aC0 v70 v71 v72 v105) 4) (gg [] [0,1,2,3]) (fun y o h=> ?_) (fun v105 h=> ?_)
     ·obtain⟨v103,v104⟩:=y
      unfold j8 at h
      refine aC (GC 3 h (fun h=>aO h (fun hb109 h=> ?_) (fun hb109 h=> ?_)))
      ·refine aB (aA (aC (aF ?_)))
       obtain⟨c259,c260,h⟩:=g2 h
       refine bS a0 [(4,4,oc c259),(8,8,oc c260)] (aK (aA (Ge ?_)))
       exact eB h (gg [] [0,1,2,3])
      refine aH (aY ?_)
      exact eX h (gg [] [0,1,2,3])
     refine aJ (aK (aA (Ge ?_)))
     exact eB h (gg [] [0,1,2,3])
    refine aH (aY ?_)
    exact eX h (gg [] [0,1,2,3])
   refine aJ (aA (aC (GN a0 [(2,2,⟨Tryz.prog.eqGuardType Tryz.prog.depth 155=false,(by kernel_rfl)⟩)] (aO h (fun hb110 h=> ?_) (fun hb110 h=> ?_)))))
   ·refine aH (aY (aJ (aA (Ge ?_))))
    exact eB h (gg [] [0,1,2])
   refine aB (aA (GN a0 [(2,2,oc aE7)] (aC (G (bO h (fun(v106,v107,v108)=>aM [(0,.p β0 (.slice (.prod (.int .i32) Y1)) d1),(6,.adr 0 0 4353 0),(7,.mp 2),(8,.i64 v81),(9,.i64 v74),(15,.i64 v108),(25,.i64 v74)] (aKK v70 v106 v107) 3) (fun r5 h=> ?_) (fun r5 h=> ?_))))))
   ·refine aO h (fun hb112 h=> ?_) (fun hb112 h=> ?_)
    ·refine G ?_
     obtain⟨c264,h⟩:=aS h
     refine GD a0 [(7,7,oc c264)] (bS a0 [(3,3,oc aE7)] ?_)
     exact eN h (gg [] [0,212,2])
    refine aB ?_
    exact eN h (gg [] [0,1,2])
   obtain⟨v106,v107,v108⟩:=r5
   refine aA (GCe 5 h (fun h=>aK (aA (Ge ?_))))
   exact eB h (gg [] [0,1,2])
  refine aH (aY ?_)
  exact eX h (gg [] [0,1])
 obtain⟨v75,v76⟩:=r6
 refine aJ (aA (G (pV [.frzL 0 0] (by kernel_rfl) (aL ?_))))
 obtain rfl:=sI h
 exact aD [(.ptr P8),(.int .i64)] (by kernel_rfl)
def wX(l1:List Z8):(Int×Int)→Option ((Int×Int)⊕((Unit)⊕(Bool))):=fun(last2,v4) =>
 (if(decide (v4<(l1.length:Int)))=true then(if 0≤v4∧v4<(l1.length:Int)then(((if(decide (((l1.getD v4.toNat (0,0,0)).1)≤last2))=true then some (true)
 else(if(decide (((l1.getD v4.toNat (0,0,0)).2.1)<((l1.getD v4.toNat (0,0,0)).1)))=true then some (true)
 else(if(decide (((l1.getD v4.toNat (0,0,0)).2.1) > 1114111))=true then some (true)
 else(if(decide (((l1.getD v4.toNat (0,0,0)).2.2)<0))=true then some (true)
 else some ((decide (((l1.getD v4.toNat (0,0,0)).2.2) > (IntKind.i64.wrap (1114111 - (IntKind.i64.wrap (IntKind.i32.wrap (((l1.getD v4.toNat (0,0,0)).2.1) - ((l1.getD v4.toNat (0,0,0)).1)))))))))))))).bind fun v5=>(if v5=true then some (Sum.inr (Sum.inr false))
 else some (Sum.inl ((l1.getD v4.toNat (0,0,0)).2.1,(IntKind.i64.wrap (v4+1))))))else none)
 else some (Sum.inr (Sum.inl ())))
def yG(l1:List Z8):Option (Bool) :=
 (if(decide ((l1.length:Int) > 256))=true then some false
 else((iter (wX l1) ((-1:Int),0)).bind fun(r2:((Unit)⊕(Bool)))=>match r2 with
 | .inl _=>some true
 | .inr (r1)=>some r1))
theorem X7(β0:Bool){l1:List Z8}{res:Bool}(h:yG l1=some res):
  Pure Tryz.prog 54 [.p β0 (.slice (.prod (.int .i32) Y1)) l1] (aX (bJ false [⟨.bool,res⟩])):=by
 refine Pure.of_body bB Tryz.func54 (by kernel_rfl) rfl (nl rfl) (fun Bw w0=> ?_) rfl
 unfold yG at h
 refine G (aC (G (aO h (fun hb1 h=> ?_) (fun hb1 h=> ?_))))
 ·refine G (aL (aE ?_))
  obtain rfl:=sI h
  exact aD [.bool] (by kernel_rfl)
 refine aB (aA (G (aC (G (aF (mG h (fun(last2,v4)=>aM [(3,.i32 last2),(9,.p β0 (.slice (.prod (.int .i32) Y1)) l1),(10,.i64 (l1.length:Int)),(11,.i64 v4)] [] 0) (eI (fV Tryz.f54.ntmps 0 (fun _=>aM [] [] 0)) (iC tb Tryz.f54.results.toList (fun r1=>[⟨.bool,r1⟩]))) (gg [] []) (fun y o h=> ?_) (fun r2 h e σ' hq=> ?_)))))))
 ·obtain⟨last2,v4⟩:=y
  unfold wX at h
  refine G (aC (aO h (fun hb30 h=> ?_) (fun hb30 h=> ?_)))
  ·refine aB (aA (aC (aF (GC 0 h (fun h=>aC (aC (bO h (fun v5=>aM [(5,.adr 0 0 3 0),(9,.p β0 (.slice (.prod (.int .i32) Y1)) l1),(10,.i64 (l1.length:Int)),(11,.i64 v4),(47,.bo v5)] [(0,.box [.i32 ((l1.getD v4.toNat (0,0,0)).1),.i32 ((l1.getD v4.toNat (0,0,0)).2.1),.i64 ((l1.getD v4.toNat (0,0,0)).2.2)])] 1) (fun v5 h=> ?_) (fun v5 h=> ?_))))))))
   ·rcases aW h with⟨hb39,h⟩ | ⟨hb39,h⟩
    ·refine bS ⟨[(4,true),(10,true)],[]⟩ [(5,10,oc hb39)] ?_
     exact eN h (gg [] [24])
    rcases aW h with⟨hb40,h⟩ | ⟨hb40,h⟩
    ·refine bS ⟨[(4,false),(10,false),(11,true),(15,true)],[]⟩ [(5,9,an hb39),(10,10,oc hb39),(12,15,oc hb40)] ?_
     exact eN h (gg [] [24])
    rcases aW h with⟨hb41,h⟩ | ⟨hb41,h⟩
    ·refine bS ⟨[(4,false),(10,false),(11,false),(15,false),(16,true),(20,true)],[]⟩ [(5,9,an hb39),(10,10,oc hb39),(12,14,an hb40),(15,15,oc hb40),(17,20,oc hb41)] ?_
     exact eN h (gg [] [24])
    rcases aW h with⟨hb42,h⟩ | ⟨hb42,h⟩
    ·refine bS ⟨[(4,false),(10,false),(11,false),(15,false),(16,false),(20,false),(21,true),(32,true)],[]⟩ [(5,9,an hb39),(10,10,oc hb39),(12,14,an hb40),(15,15,oc hb40),(17,19,an hb41),(20,20,oc hb41),(22,32,oc hb42)] ?_
     exact eN h (gg [] [24])
    refine bS ⟨[(4,false),(10,false),(11,false),(15,false),(16,false),(20,false),(21,false),(32,false)],[]⟩ [(5,9,an hb39),(10,10,oc hb39),(12,14,an hb40),(15,15,oc hb40),(17,19,an hb41),(20,20,oc hb41),(22,31,an hb42),(32,32,oc hb42)] ?_
    exact eN h (gg [] [24])
   refine aA (aO h (fun hb43 h=> ?_) (fun hb43 h=> ?_))
   ·refine G (aL ?_)
    obtain rfl:=sI h
    refine aE (aN (aE (bX (aU ?_))))
    exact bW (aD [.bool] (by kernel_rfl))
   refine aB (aA (Ge (aK (aA (Ge ?_)))))
   exact eB h (gg [] [])
  refine aH (aY ?_)
  obtain rfl:=sI h
  refine eR (bI ?_)
  exact b8 (gg [] [])
 rcases r2 with _ | r1
 ·obtain⟨rfl,hle⟩:=hq
  refine dH ?_ hle
  refine aJ (aA (G (aL ?_)))
  obtain rfl:=sI h
  exact aD [.bool] (by kernel_rfl)
 obtain⟨rfl,hr⟩:=hq
 refine aN (aE ?_)
 obtain rfl:=sI h
 exact hr
def p7(c1:Int):Option Z8 :=
 (if(decide (c1<128))=true then some (1,0,0)
 else(((if(decide (c1<194))=true then some (true)
 else some ((decide (c1 > 244))))).bind fun v1=>(if v1=true then some (0,0,0)
 else(if(decide (c1<224))=true then some (2,128,191)
 else(if(c1 == 224)=true then some (3,160,191)
 else(if(c1 == 237)=true then some (3,128,159)
 else(if(decide (c1<240))=true then some (3,128,191)
 else(if(c1 == 240)=true then some (4,144,191)
 else(if(c1 == 244)=true then some (4,128,143)
 else some (4,128,191))))))))))
theorem aCf{c1:Int}{res:Int×Int×Int}(h:p7 c1=some res):
  Pure Tryz.prog 135 [.u8 c1] (aX (bJ false [⟨(.int .i64),res.1⟩,⟨(.int .u8),res.2.1⟩,⟨(.int .u8),res.2.2⟩])):=by
 refine Pure.of_body bB Tryz.func135 (by kernel_rfl) rfl (nl rfl) (fun Bw w0=> ?_) rfl
 unfold p7 at h
 refine G (aC (aF (G (aO h (fun hb1 h=> ?_) (fun hb1 h=> ?_)))))
 ·refine G (aL (aN (aE ?_)))
  obtain rfl:=sI h
  exact aD [(.int .i64),(.int .u8),(.int .u8)] (by kernel_rfl)
 refine aC (bO h (fun v1=>aM [(0,.u8 c1),(8,.bo v1)] [] 0) (fun v1 h=> ?_) (fun v1 h=> ?_))
 ·rcases aW h with⟨hb4,h⟩ | ⟨hb4,h⟩
  ·refine bS ⟨[(2,true),(5,true)],[]⟩ [(3,5,oc hb4)] ?_
   exact eN h (gg [] [])
  refine bS ⟨[(2,false),(5,false)],[]⟩ [(3,4,an hb4),(5,5,oc hb4)] ?_
  exact eN h (gg [] [])
 refine aA (aO h (fun hb5 h=> ?_) (fun hb5 h=> ?_))
 ·refine G (aL (aN (aE ?_)))
  obtain rfl:=sI h
  exact aD [(.int .i64),(.int .u8),(.int .u8)] (by kernel_rfl)
 refine G (aO h (fun hb6 h=> ?_) (fun hb6 h=> ?_))
 ·refine G (aL (aN (aE ?_)))
  obtain rfl:=sI h
  exact aD [(.int .i64),(.int .u8),(.int .u8)] (by kernel_rfl)
 refine G (aO h (fun hb7 h=> ?_) (fun hb7 h=> ?_))
 ·refine G (aL (aN (aE ?_)))
  obtain rfl:=sI h
  exact aD [(.int .i64),(.int .u8),(.int .u8)] (by kernel_rfl)
 refine G (aO h (fun hb8 h=> ?_) (fun hb8 h=> ?_))
 ·refine G (aL (aN (aE ?_)))
  obtain rfl:=sI h
  exact aD [(.int .i64),(.int .u8),(.int .u8)] (by kernel_rfl)
 refine G (aO h (fun hb9 h=> ?_) (fun hb9 h=> ?_))
 ·refine G (aL (aN (aE ?_)))
  obtain rfl:=sI h
  exact aD [(.int .i64),(.int .u8),(.int .u8)] (by kernel_rfl)
 refine G (aO h (fun hb10 h=> ?_) (fun hb10 h=> ?_))
 ·refine G (aL (aN (aE ?_)))
  obtain rfl:=sI h
  exact aD [(.int .i64),(.int .u8),(.int .u8)] (by kernel_rfl)
 refine G (aO h (fun hb11 h=> ?_) (fun hb11 h=> ?_))
 ·refine G (aL (aN (aE ?_)))
  obtain rfl:=sI h
  exact aD [(.int .i64),(.int .u8),(.int .u8)] (by kernel_rfl)
 refine aB (aK (aA (G (aL ?_))))
 obtain rfl:=sI h
 exact aD [(.int .i64),(.int .u8),(.int .u8)] (by kernel_rfl)
def jS(d1:List Int)(i1 r4:Int):(Int×Int×Int×Int×Int)→Option ((Int×Int×Int×Int×Int)⊕((Int×Int)⊕Z8)):=fun(v10,v11,v12,v13,v14) =>
 (if(decide (v14<r4))=true then(((if(decide ((IntKind.i64.wrap (i1+v14))≥(d1.length:Int)))=true then some (true)
 else(if 0≤(IntKind.i64.wrap (i1+v14))∧(IntKind.i64.wrap (i1+v14))<(d1.length:Int)then(if(decide ((d1.getD ((IntKind.i64.wrap (i1+v14)).toNat) 0)<v10))=true then some (true)
 else(if 0≤(IntKind.i64.wrap (i1+v14))∧(IntKind.i64.wrap (i1+v14))<(d1.length:Int)then some ((decide ((d1.getD ((IntKind.i64.wrap (i1+v14)).toNat) 0) > v11)))else none))else none))).bind fun v17=>(if v17=true then some (Sum.inr (Sum.inr (65533,(i1,v12))))
 else(if 0≤(6:Int)then(if 0≤(IntKind.i64.wrap (i1+v14))∧(IntKind.i64.wrap (i1+v14))<(d1.length:Int)then some (Sum.inl (128,191,(IntKind.i64.wrap (v14+1)),(aT .or .i32 (IntKind.i32.wrap (v13*2 ^ (min (6:Int).toNat IntKind.i32.bits))) (IntKind.i32.wrap (aT .and .u8 (d1.getD ((IntKind.i64.wrap (i1+v14)).toNat) 0) (63:Int)))),(IntKind.i64.wrap (v14+1))))else none)else none)))
 else some (Sum.inr (Sum.inl (v12,v13))))
def uJ(d1:List Int)(i1:Int):Option Z8 :=
 (((if(decide (i1<0))=true then some (true)
 else some ((decide (i1≥(d1.length:Int)))))).bind fun v1=>(if v1=true then some (0,0,0)
 else(if 0≤i1∧i1<(d1.length:Int)then((p7 (d1.getD i1.toNat 0)).bind fun(r4,r5,r6) =>
 (if(decide (r4<2))=true then(((if(r4 == 1)=true then(if 0≤i1∧i1<(d1.length:Int)then some ((IntKind.i32.wrap (d1.getD i1.toNat 0)))else none)
 else some (65533))).bind fun v2=>some (v2,(i1,1)))
 else(if 0≤i1∧i1<(d1.length:Int)then(if 0≤r4 then((iter (jS d1 i1 r4) (r5,r6,1,(aT .and .i32 (IntKind.i32.wrap (d1.getD i1.toNat 0)) (Int.fdiv 127 (2 ^ (min r4.toNat IntKind.i32.bits)))),1)).bind fun(r8:((Int×Int)⊕Z8))=>match r8 with
 | .inl (v15,v16)=>some (v16,(i1,v15))
 | .inr (r7)=>some r7)else none)else none)))else none)))
theorem aDi(β0:Bool){d1:List Int}{i1:Int}{res:Int×Int×Int}(h:uJ d1 i1=some res):
  Pure Tryz.prog 97 [.p β0 (.slice (.int .u8)) d1,.i64 i1] (aX (bJ false [⟨(.prod (.int .i32) Y2),res⟩])):=by
 refine Pure.of_body bB Tryz.func97 (by kernel_rfl) rfl (nl rfl) (fun Bw w0=> ?_) rfl
 unfold uJ at h
 refine G (aC (aC (bO h (fun v1=>aM [(0,.p β0 (.slice (.int .u8)) d1),(1,.i64 i1),(4,.adr 0 0 3 0),(18,.bo v1)] [(0,.box [.i32 0,.i64 0,.i64 0])] 1) (fun v1 h=> ?_) (fun v1 h=> ?_))))
 ·rcases aW h with⟨hb3,h⟩ | ⟨hb3,h⟩
  ·refine bS ⟨[(2,true),(7,true)],[]⟩ [(3,7,oc hb3)] ?_
   exact eN h (gg [] [0])
  refine bS ⟨[(2,false),(7,false)],[]⟩ [(3,6,an hb3),(7,7,oc hb3)] ?_
  exact eN h (gg [] [0])
 refine aA (aO h (fun hb4 h=> ?_) (fun hb4 h=> ?_))
 ·refine G (aL (aE ?_))
  obtain rfl:=sI h
  exact aD [(.prod (.int .i32) Y2)] (by kernel_rfl)
 refine aB (aA ?_)
 obtain⟨c2,h⟩:=aS h
 obtain⟨⟨r4,r5,r6⟩,q2,h⟩:=aG h
 have u_1:=(aCf q2)
 refine GN ⟨[],[(4,(oP u_1))]⟩ [(2,2,oc c2),(4,4,oc u_1)] (G (aC (G (aO h (fun hb5 h=> ?_) (fun hb5 h=> ?_)))))
 ·refine aC (G (bO h (fun v2=>aM [(4,.adr 0 0 3 0),(8,.adr 1 0 3 0)] (aIP 0 (0:Int) (0:Int) v2 i1 1) 2) (fun v2 h=> ?_) (fun v2 h=> ?_)))
  ·refine aO h (fun hb7 h=> ?_) (fun hb7 h=> ?_)
   ·refine GCe 2 h (fun h=> ?_)
    exact eN h (gg [] [0,113])
   refine aB ?_
   exact eN h (gg [] [0,113])
  refine aA (G (aL (aE ?_)))
  obtain rfl:=sI h
  exact aD [(.prod (.int .i32) Y2)] (by kernel_rfl)
 refine aB (aA ?_)
 obtain⟨c9,c10,h⟩:=g2 h
 refine GD a0 [(2,2,oc c9),(6,6,oc c10)] (aC (G (aF (mG h (fun(v10,v11,v12,v13,v14)=>aM [(0,.p β0 (.slice (.int .u8)) d1),(1,.i64 i1),(4,.adr 0 0 3 0),(5,.i64 r4),(6,.u8 v10),(7,.u8 v11),(8,.adr 1 0 3 0),(9,.i32 v13),(10,.i64 v14)] (aIP 0 (0:Int) (0:Int) (65533:Int) i1 v12) 2) (eI (fV Tryz.f97.ntmps 0 (fun(v15,v16)=>aM [(4,.adr 0 0 3 0),(8,.adr 1 0 3 0),(9,.i32 v16)] (aIP 0 (0:Int) (0:Int) (65533:Int) i1 v15) 2)) (iC tb Tryz.f97.results.toList (fun r7=>[⟨(.prod (.int .i32) Y2),r7⟩]))) (gg [] [0,113]) (fun y o h=> ?_) (fun r8 h e σ' hq=> ?_)))))
 ·obtain⟨v10,v11,v12,v13,v14⟩:=y
  unfold jS at h
  refine aC (G (aO h (fun hb24 h=> ?_) (fun hb24 h=> ?_)))
  ·refine aB (aA (aC (aF (aC (aC (bO h (fun v17=>aM [(0,.p β0 (.slice (.int .u8)) d1),(1,.i64 i1),(4,.adr 0 0 3 0),(5,.i64 r4),(8,.adr 1 0 3 0),(9,.i32 v13),(10,.i64 v14),(80,.bo v17)] (aIP 0 (0:Int) (0:Int) (65533:Int) i1 v12) 2) (fun v17 h=> ?_) (fun v17 h=> ?_)))))))
   ·rcases aW h with⟨hb29,h⟩ | ⟨hb29,h⟩
    ·refine bS ⟨[(6,true),(15,true)],[]⟩ [(7,15,oc hb29)] ?_
     exact eN h (gg [] [0,1])
    obtain⟨c35,h⟩:=aS h
    rcases aW h with⟨hb30,h⟩ | ⟨hb30,h⟩
    ·refine bS ⟨[(6,false),(15,false),(16,true),(25,true)],[]⟩ [(7,10,an hb29),(11,11,oc (And.intro hb29 c35)),(12,14,an hb29),(15,15,oc hb29),(17,25,oc hb30)] ?_
     exact eN h (gg [] [0,1])
    obtain⟨c36,h⟩:=aS h
    refine bS ⟨[(6,false),(15,false),(16,false),(25,false)],[]⟩ [(7,10,an hb29),(11,11,oc (And.intro hb29 c35)),(12,14,an hb29),(15,15,oc hb29),(17,20,an hb30),(21,21,oc (And.intro hb30 c36)),(22,24,an hb30),(25,25,oc hb30)] ?_
    exact eN h (gg [] [0,1])
   refine aA (aO h (fun hb31 h=> ?_) (fun hb31 h=> ?_))
   ·refine G (aL ?_)
    obtain rfl:=sI h
    refine aE (aN (aE (bX (aU ?_))))
    exact bW (aD [(.prod (.int .i32) Y2)] (by kernel_rfl))
   refine aB (aA ?_)
   obtain⟨c39,c40,h⟩:=g2 h
   refine GN a0 [(1,1,oc c39),(6,6,oc c40)] (G (Ge (aK (aA (Ge ?_)))))
   exact eB h (gg [] [0,1])
  refine aH (aY ?_)
  obtain rfl:=sI h
  refine eR (bI ?_)
  exact b8 (gg [] [0,1])
 rcases r8 with⟨v15,v16⟩ | r7
 ·obtain⟨rfl,hle⟩:=hq
  refine dH ?_ hle
  refine aJ (aA (G (G (aL ?_))))
  obtain rfl:=sI h
  exact aD [(.prod (.int .i32) Y2)] (by kernel_rfl)
 obtain⟨rfl,hr⟩:=hq
 refine aN (aE ?_)
 obtain rfl:=sI h
 exact hr
def lO(b1:List Int):((List Z8)×Int)→Option (((List Z8)×Int)⊕(List Z8)):=fun(out2,at2) =>
 (if(decide (at2<(b1.length:Int)))=true then((uJ b1 at2).bind fun r6 =>
 (if(out2.length+([(r6.1,(r6.2.1,r6.2.2))]:List Z8).length)*24≤140737488355328∧out2.length+([(r6.1,(r6.2.1,r6.2.2))]:List Z8).length≤9223372036854775807 then some (Sum.inl ((out2++([(r6.1,(r6.2.1,r6.2.2))]:List Z8)),(IntKind.i64.wrap (at2+r6.2.2))))else none))
 else some (Sum.inr out2))
def qD(b1:List Int):Option (List Z8) :=
 ((iter (lO b1) (([]:List Z8),0)).bind fun out3=>some out3)
theorem J6(β0:Bool){b1:List Int}{res:List Z8}(h:qD b1=some res):
  Pure Tryz.prog 66 [.p β0 (.slice (.int .u8)) b1] (aX (bJ false [⟨(.slice (.prod (.int .i32) Y2)),res⟩])):=by
 refine Pure.of_body bB Tryz.func66 (by kernel_rfl) rfl (nl rfl) (fun Bw w0=> ?_) rfl
 unfold qD at h
 refine G (G (aC (G (aF (cW h (fun(out2,at2)=>aM [(0,.p β0 (.slice (.int .u8)) b1),(3,.sl 0),(4,.i64 at2)] [(0,.arr 219 (.prod (.int .i32) Y2) out2)] 1) 0 (fun out3=>aM [(3,.sl 0)] [(0,.arr 219 (.prod (.int .i32) Y2) out3)] 1) (gg [.nilS 3 24 219 (.prod (.int .i32) Y2)] [24]) (fun y o h=> ?_) (fun out3 h=> ?_))))))
 ·obtain⟨out2,at2⟩:=y
  unfold lO at h
  refine aC (G (aO h (fun hb3 h=> ?_) (fun hb3 h=> ?_)))
  ·refine aB (aA (aF ?_))
   obtain⟨r6,q6,h⟩:=aG h
   refine GP 2 (aDi β0 q6) (GC 3 h (fun h=>Ge (aK ?_)))
   exact eB h (gg [] [97])
  refine aH (aY ?_)
  exact eX h (gg [] [0])
 refine aJ (aA (G (aL ?_)))
 obtain rfl:=sI h
 exact aD [(.slice (.prod (.int .i32) Y2))] (by kernel_rfl)
def sJ(r1:Int):Option (Bool) :=
 (((if(r1 == 32)=true then some (true)
 else(if(r1 == 9)=true then some (true)
 else(if(r1 == 10)=true then some (true)
 else some ((r1 == 13)))))).bind fun v1=>some v1)
theorem xH{r1:Int}{res:Bool}(h:sJ r1=some res):
  Pure Tryz.prog 86 [.i32 r1] (aX (bJ false [⟨.bool,res⟩])):=by
 refine Pure.of_body bB Tryz.func86 (by kernel_rfl) rfl (nl rfl) (fun Bw w0=> ?_) rfl
 unfold sJ at h
 refine G (aC (bO h (fun v1=>aM [(2,.bo v1)] [] 0) (fun v1 h=> ?_) (fun v1 h=> ?_)))
 ·rcases aW h with⟨hb7,h⟩ | ⟨hb7,h⟩
  ·refine bS ⟨[(2,true),(5,true)],[]⟩ [(3,5,oc hb7)] ?_
   exact eN h (gg [] [])
  rcases aW h with⟨hb8,h⟩ | ⟨hb8,h⟩
  ·refine bS ⟨[(2,false),(5,false),(6,true),(9,true)],[]⟩ [(3,4,an hb7),(5,5,oc hb7),(7,9,oc hb8)] ?_
   exact eN h (gg [] [])
  rcases aW h with⟨hb9,h⟩ | ⟨hb9,h⟩
  ·refine bS ⟨[(2,false),(5,false),(6,false),(9,false),(10,true),(13,true)],[]⟩ [(3,4,an hb7),(5,5,oc hb7),(7,8,an hb8),(9,9,oc hb8),(11,13,oc hb9)] ?_
   exact eN h (gg [] [])
  refine bS ⟨[(2,false),(5,false),(6,false),(9,false),(10,false),(13,false)],[]⟩ [(3,4,an hb7),(5,5,oc hb7),(7,8,an hb8),(9,9,oc hb8),(11,12,an hb9),(13,13,oc hb9)] ?_
  exact eN h (gg [] [])
 refine aA (aL ?_)
 obtain rfl:=sI h
 exact aD [.bool] (by kernel_rfl)
def lY(s1 s2 s3:Int):Option (Bool) :=
 some (s1 == 45)
theorem xN{s1:Int}{s2:Int}{s3:Int}{res:Bool}(h:lY s1 s2 s3=some res):
  Pure Tryz.prog 129 [.agg [.i32 s1,.i64 s2,.i64 s3]] (aX (bJ false [⟨.bool,res⟩])):=by
 refine Pure.of_body bB Tryz.func129 (by kernel_rfl) rfl (nl rfl) (fun Bw w0=> ?_) rfl
 unfold lY at h
 refine G (G (aL ?_))
 obtain rfl:=sI h
 exact aD [.bool] (by kernel_rfl)
def p9(s1:List Z8):(Int)→Option ((Int)⊕((Unit)⊕(Int))):=fun v2 =>
 (if(decide (v2<(s1.length:Int)))=true then(if 0≤v2∧v2<(s1.length:Int)then((lY ((s1.getD v2.toNat (0,0,0)).1) ((s1.getD v2.toNat (0,0,0)).2.1) ((s1.getD v2.toNat (0,0,0)).2.2)).bind fun r7 =>
 (if r7=true then some (Sum.inr (Sum.inr v2))
 else some (Sum.inl (IntKind.i64.wrap (v2+1)))))else none)
 else some (Sum.inr (Sum.inl ())))
def pG(s1:List Z8):Option (Int) :=
 ((iter (p9 s1) (0:Int)).bind fun(r8:((Unit)⊕(Int)))=>match r8 with
 | .inl _=>some (-1:Int)
 | .inr (r5)=>some r5)
theorem D6(β0:Bool){s1:List Z8}{res:Int}(h:pG s1=some res):
  Pure Tryz.prog 150 [.p β0 (.slice (.prod (.int .i32) Y2)) s1,.fn 129 []] (aX (bJ false [⟨(.int .i64),res⟩])):=by
 refine Pure.of_body bB Tryz.func150 (by kernel_rfl) rfl (nl rfl) (fun Bw w0=> ?_) rfl
 unfold pG at h
 refine G (aC (G (aF (mG h (fun v2=>aM [(0,.p β0 (.slice (.prod (.int .i32) Y2)) s1),(1,.fn 129 []),(7,.i64 (s1.length:Int)),(8,.i64 v2)] [] 0) (eI (fV Tryz.f150.ntmps 0 (fun _=>aM [] [] 0)) (iC tb Tryz.f150.results.toList (fun r5=>[⟨(.int .i64),r5⟩]))) (gg [] []) (fun v2 o h=> ?_) (fun r8 h e σ' hq=> ?_)))))
 ·unfold p9 at h
  refine G (aC (aO h (fun hb5 h=> ?_) (fun hb5 h=> ?_)))
  ·refine aB (aA (aC (aF (G ?_))))
   obtain⟨c6,h⟩:=aS h
   obtain⟨r7,q6,h⟩:=aG h
   have u_1:=(xN q6)
   refine GN ⟨[],[(5,(oP u_1))]⟩ [(3,3,oc c6),(5,5,oc u_1)] (aO h (fun hb6 h=> ?_) (fun hb6 h=> ?_))
   ·refine G (aL ?_)
    obtain rfl:=sI h
    refine aN (aE (bX (aU ?_)))
    exact bW (aD [(.int .i64)] (by kernel_rfl))
   refine aB (aK (aA (Ge ?_)))
   exact eB h (gg [] [])
  refine aH (aY ?_)
  obtain rfl:=sI h
  refine eR (bI ?_)
  exact b8 (gg [] [])
 rcases r8 with _ | r5
 ·obtain⟨rfl,hle⟩:=hq
  refine dH ?_ hle
  refine aJ (aA (G (aL ?_)))
  obtain rfl:=sI h
  exact aD [(.int .i64)] (by kernel_rfl)
 obtain⟨rfl,hr⟩:=hq
 refine aN (aE ?_)
 obtain rfl:=sI h
 exact hr
def yP(s1:List Z8):Option (Bool) :=
 ((pG s1).bind fun r2 =>
 some (decide (r2≥0)))
theorem aAd(β0:Bool){s1:List Z8}{res:Bool}(h:yP s1=some res):
  Pure Tryz.prog 128 [.p β0 (.slice (.prod (.int .i32) Y2)) s1,.fn 129 []] (aX (bJ false [⟨.bool,res⟩])):=by
 refine Pure.of_body bB Tryz.func128 (by kernel_rfl) rfl (nl rfl) (fun Bw w0=> ?_) rfl
 unfold yP at h
 refine G ?_
 obtain⟨r2,q2,h⟩:=aG h
 refine GP 2 (D6 β0 q2) (aL ?_)
 obtain rfl:=sI h
 exact aD [.bool] (by kernel_rfl)
def kZ(l1:List Z8):Option (Bool) :=
 ((yP l1).bind fun r2 =>
 some r2)
theorem qE(β0:Bool){l1:List Z8}{res:Bool}(h:kZ l1=some res):
  Pure Tryz.prog 88 [.p β0 (.slice (.prod (.int .i32) Y2)) l1] (aX (bJ false [⟨.bool,res⟩])):=by
 refine Pure.of_body bB Tryz.func88 (by kernel_rfl) rfl (nl rfl) (fun Bw w0=> ?_) rfl
 unfold kZ at h
 refine G ?_
 obtain⟨r2,q2,h⟩:=aG h
 refine GP 1 (aAd β0 q2) (aL ?_)
 obtain rfl:=sI h
 exact aD [.bool] (by kernel_rfl)
def I1(d1:List Z8)(r2:Bool):((List Int)×(List Int)×Bool×Int×Int)→Option (((List Int)×(List Int)×Bool×Int×Int)⊕(((List Int)×(List Int)×Int)⊕(kK×Bool))):=fun(v24,v25,v26,v27,v28) =>
 (if(decide (v28<(d1.length:Int)))=true then(if 0≤v28∧v28<(d1.length:Int)then(if(((d1.getD v28.toNat (0,0,0)).1) == 65533)=true then some (Sum.inr (Sum.inr ((v24,v25),false)))
 else(((if(((d1.getD v28.toNat (0,0,0)).1) == 45)=true then some (true)
 else(if(decide (((d1.getD v28.toNat (0,0,0)).1)≥48))=true then some ((decide (((d1.getD v28.toNat (0,0,0)).1)≤57)))
 else some (false)))).bind fun v32=>(((if v32=true then(((if v26=true then some (true)
 else(if(!(r2 == (((d1.getD v28.toNat (0,0,0)).1) == 45)))=true then some (true)
 else(if r2=true then(if((v24.length:Int) == 0)=true then some (true)
 else some ((v28 == (IntKind.i64.wrap ((d1.length:Int) - 1)))))
 else some (false))))).bind fun v39=>(if v39=true then some ((Sum.inr ((v24,v25),false)))
 else(if 0≤(v24.length:Int)∧(v24.length:Int)<(v25.length:Int)then(if(v24.length:Int).toNat<v25.length then(if(!r2)=true then(if 0≤(v24.length:Int)∧(v24.length:Int)<((v25.set ((v24.length:Int).toNat) 1).length:Int)then(if(v24.length:Int).toNat<(v25.set ((v24.length:Int).toNat) 1).length then some ((Sum.inl (v24,((v25.set ((v24.length:Int).toNat) 1).set ((v24.length:Int).toNat) (IntKind.u8.wrap (IntKind.i32.wrap (((d1.getD v28.toNat (0,0,0)).1) - 48)))),true,v27)))else none)else none)
 else some ((Sum.inl (v24,(v25.set ((v24.length:Int).toNat) 1),true,v27))))else none)else none)))
 else(if(((d1.getD v28.toNat (0,0,0)).1) == 46)=true then(((if r2=true then some (true)
 else(if(!(v28 == 0))=true then some ((!(v28 == (IntKind.i64.wrap ((d1.length:Int) - 1)))))
 else some (false)))).bind fun v40=>(if v40=true then some ((Sum.inr ((v24,v25),false)))
 else(if(v24.length+([46]:List Int).length)*4≤140737488355328∧v24.length+([46]:List Int).length≤9223372036854775807 then(if(v25.length+([0]:List Int).length)*1≤140737488355328∧v25.length+([0]:List Int).length≤9223372036854775807 then some ((Sum.inl ((v24++([46]:List Int)),(v25++([0]:List Int)),false,v27)))else none)else none)))
 else(if(v24.length+([(d1.getD v28.toNat (0,0,0)).1]:List Int).length)*4≤140737488355328∧v24.length+([(d1.getD v28.toNat (0,0,0)).1]:List Int).length≤9223372036854775807 then(if(v25.length+([0]:List Int).length)*1≤140737488355328∧v25.length+([0]:List Int).length≤9223372036854775807 then some ((Sum.inl ((v24++([(d1.getD v28.toNat (0,0,0)).1]:List Int)),(v25++([0]:List Int)),false,(IntKind.i64.wrap (v27+1)))))else none)else none)))).bind fun(r13:(((List Int)×(List Int)×Bool×Int)⊕(kK×Bool)))=>match r13 with
 | .inl (v35,v36,v37,v38)=>some (Sum.inl (v35,v36,v37,v38,(IntKind.i64.wrap (v28+1))))
 | .inr ((r11,r12))=>some (Sum.inr (Sum.inr (r11,r12))))))else none)
 else some (Sum.inr (Sum.inl (v24,v25,v27))))
def V7(d1:List Z8):Option (kK×Bool) :=
 ((kZ d1).bind fun r2 =>
 ((iter (I1 d1 r2) (([]:List Int),([0]:List Int),false,0,0)).bind fun(r14:(((List Int)×(List Int)×Int)⊕(kK×Bool)))=>match r14 with
 | .inl (v29,v30,v31)=>(((if(decide (v31 > 0))=true then some ((decide ((v29.length:Int)≤24)))
 else some (false))).bind fun v41=>some ((v29,v30),v41))
 | .inr ((r9,r10))=>some (r9,r10)))
theorem aCX(β0:Bool){d1:List Z8}{res:kK×Bool}(h:V7 d1=some res):
  Pure Tryz.prog 87 [.p β0 (.slice (.prod (.int .i32) Y2)) d1] (aX (bJ false [⟨Q7,res.1⟩,⟨.bool,res.2⟩])):=by
 refine Pure.of_body bB Tryz.func87 (by kernel_rfl) rfl (nl rfl) (fun Bw w0=> ?_) rfl
 unfold V7 at h
 refine G ?_
 obtain⟨r2,q2,h⟩:=aG h
 refine GP 1 (qE β0 q2) (G (G (G (aC (G (aF (mG h (fun(v24,v25,v26,v27,v28)=>aM [(0,.p β0 (.slice (.prod (.int .i32) Y2)) d1),(2,.adr 0 0 2 0),(4,.bo r2),(5,.adr 1 0 2 0),(6,.bo v26),(7,.i64 v27),(17,.p β0 (.slice (.prod (.int .i32) Y2)) d1),(18,.i64 (d1.length:Int)),(19,.i64 v28)] (aIl v24 v25) 4) (eI (fV Tryz.f87.ntmps 0 (fun(v29,v30,v31)=>aM [(2,.adr 0 0 2 0),(5,.adr 1 0 2 0),(7,.i64 v31)] (aIl v29 v30) 4)) (iC tb Tryz.f87.results.toList (fun(r9,r10)=>[⟨Q7,r9⟩,⟨.bool,r10⟩]))) (gg [.nilC 56 0 112 21 (.int .i32)] [0,56,112,40]) (fun y o h=> ?_) (fun r14 h e σ' hq=> ?_))))))))
 ·obtain⟨v24,v25,v26,v27,v28⟩:=y
  unfold I1 at h
  refine G (aC (aO h (fun hb103 h=> ?_) (fun hb103 h=> ?_)))
  ·refine aB (aA (aC (aF (GC 1 h (fun h=>G (aF (G (aO h (fun hb104 h=> ?_) (fun hb104 h=> ?_)))))))))
   ·refine G (pV [.frzC 0 0,.frzC 0 1] (by kernel_rfl) (aL ?_))
    obtain rfl:=sI h
    refine aN (aN (aE (bX (aU ?_))))
    exact bW (aD [Q7,.bool] (by kernel_rfl))
   refine aC (bO h (fun v32=>aM [(0,.p β0 (.slice (.prod (.int .i32) Y2)) d1),(2,.adr 0 0 2 0),(4,.bo r2),(5,.adr 1 0 2 0),(6,.bo v26),(7,.i64 v27),(8,.i64 v28),(9,.adr 4 0 3 0),(10,.i64 (v24.length:Int)),(17,.p β0 (.slice (.prod (.int .i32) Y2)) d1),(18,.i64 (d1.length:Int)),(19,.i64 v28),(46,.bo v32)] (aKS v24 v25 ((d1.getD v28.toNat (0,0,0)).1) ((d1.getD v28.toNat (0,0,0)).2.1) ((d1.getD v28.toNat (0,0,0)).2.2)) 5) (fun v32 h=> ?_) (fun v32 h=> ?_))
   ·rcases aW h with⟨hb109,h⟩ | ⟨hb109,h⟩
    ·refine bS ⟨[(3,true),(12,true)],[]⟩ [(4,7,oc hb109),(11,12,oc hb109)] ?_
     exact eN h (gg [] [0,1,2,3,36])
    rcases aW h with⟨hb110,h⟩ | ⟨hb110,h⟩
    ·refine bS ⟨[(3,false),(7,true),(11,true),(12,false)],[]⟩ [(4,7,an hb109),(8,10,an hb110),(11,11,oc (And.intro hb109 hb110)),(12,12,oc hb109)] ?_
     exact eN h (gg [] [0,1,2,3,36])
    refine bS ⟨[(3,false),(7,false),(11,false),(12,false)],[]⟩ [(4,7,an hb109),(8,10,oc hb110),(11,11,oc (And.intro hb109 hb110)),(12,12,oc hb109)] ?_
    exact eN h (gg [] [0,1,2,3,36])
   refine aA (aEl h (eI (sT Tryz.f87.ntmps (fun(v35,v36,v37,v38)=>aM [(0,.p β0 (.slice (.prod (.int .i32) Y2)) d1),(2,.adr 0 0 2 0),(4,.bo r2),(5,.adr 1 0 2 0),(6,.bo v37),(7,.i64 v38),(17,.p β0 (.slice (.prod (.int .i32) Y2)) d1),(18,.i64 (d1.length:Int)),(19,.i64 v28)] (aIl v35 v36) 4)) (iC tb Tryz.f87.results.toList (fun(r11,r12)=>[⟨Q7,r11⟩,⟨.bool,r12⟩]))) (fun r13 h=> ?_) (fun r13 h e σ' hq=> ?_))
   ·refine aO h (fun hb134 h=> ?_) (fun hb134 h=> ?_)
    ·refine aC (aC (bO h (fun v39=>aM [(0,.p β0 (.slice (.prod (.int .i32) Y2)) d1),(2,.adr 0 0 2 0),(4,.bo r2),(5,.adr 1 0 2 0),(7,.i64 v27),(9,.adr 4 0 3 0),(10,.i64 (v24.length:Int)),(17,.p β0 (.slice (.prod (.int .i32) Y2)) d1),(18,.i64 (d1.length:Int)),(19,.i64 v28),(81,.bo v39)] (aKS v24 v25 ((d1.getD v28.toNat (0,0,0)).1) ((d1.getD v28.toNat (0,0,0)).2.1) ((d1.getD v28.toNat (0,0,0)).2.2)) 5) (fun v39 h=> ?_) (fun v39 h=> ?_)))
     ·rcases aW h with⟨hb143,h⟩ | ⟨hb143,h⟩
      ·refine bS ⟨[(1,true),(7,true)],[]⟩ [(2,7,oc hb143)] ?_
       exact eN h (gg [] [0,1,2,3,4])
      rcases aW h with⟨hb144,h⟩ | ⟨hb144,h⟩
      ·refine bS ⟨[(1,false),(7,false),(8,true),(21,true)],[]⟩ [(2,6,an hb143),(7,7,oc hb143),(9,10,oc hb144),(20,21,oc hb144)] ?_
       exact eN h (gg [] [0,1,2,3,4])
      rcases aW h with⟨hb145,h⟩ | ⟨hb145,h⟩
      ·rcases aW h with⟨hb146,h⟩ | ⟨hb146,h⟩
       ·refine bS ⟨[(1,false),(7,false),(8,false),(10,true),(13,true),(19,true),(20,true),(21,false)],[]⟩ [(2,6,an hb143),(7,7,oc hb143),(9,10,an hb144),(11,13,an hb145),(14,18,oc hb146),(19,19,oc (And.intro hb145 hb146)),(20,20,oc (And.intro hb144 hb145)),(21,21,oc hb144)] ?_
        exact eN h (gg [] [0,1,2,3,4])
       refine bS ⟨[(1,false),(7,false),(8,false),(10,true),(13,false),(19,false),(20,true),(21,false)],[]⟩ [(2,6,an hb143),(7,7,oc hb143),(9,10,an hb144),(11,13,an hb145),(14,18,an hb146),(19,19,oc (And.intro hb145 hb146)),(20,20,oc (And.intro hb144 hb145)),(21,21,oc hb144)] ?_
       exact eN h (gg [] [0,1,2,3,4])
      refine bS ⟨[(1,false),(7,false),(8,false),(10,false),(20,false),(21,false)],[]⟩ [(2,6,an hb143),(7,7,oc hb143),(9,10,an hb144),(11,13,oc hb145),(19,19,oc hb145),(20,20,oc (And.intro hb144 hb145)),(21,21,oc hb144)] ?_
      exact eN h (gg [] [0,1,2,3,4])
     refine aA (aO h (fun hb147 h=> ?_) (fun hb147 h=> ?_))
     ·refine G (pV [.frzC 0 0,.frzC 0 1] (by kernel_rfl) (aL ?_))
      obtain rfl:=sI h
      refine aE (aU ?_)
      exact bW (aD [Q7,.bool] (by kernel_rfl))
     refine aB (aA (G ?_))
     obtain⟨c89,c90,h⟩:=g2 h
     refine GN a0 [(3,3,oc c89),(4,4,oc c90)] (G (aO h (fun hb148 h=> ?_) (fun hb148 h=> ?_)))
     ·obtain⟨c93,c94,h⟩:=g2 h
      refine bS a0 [(7,7,oc c93),(8,8,oc c94)] ?_
      obtain rfl:=sI h
      refine bI ?_
      exact dI (gg [] [0,1,2,3])
     refine aB ?_
     obtain rfl:=sI h
     refine bI ?_
     exact dI (gg [] [0,1,2,3])
    refine G (aO h (fun hb149 h=> ?_) (fun hb149 h=> ?_))
    ·refine G (aC (aC (bO h (fun v40=>aM [(0,.p β0 (.slice (.prod (.int .i32) Y2)) d1),(2,.adr 0 0 2 0),(4,.bo r2),(5,.adr 1 0 2 0),(7,.i64 v27),(17,.p β0 (.slice (.prod (.int .i32) Y2)) d1),(18,.i64 (d1.length:Int)),(19,.i64 v28),(116,.bo v40)] (aIl v24 v25) 4) (fun v40 h=> ?_) (fun v40 h=> ?_))))
     ·rcases aW h with⟨hb154,h⟩ | ⟨hb154,h⟩
      ·refine bS ⟨[(1,true),(8,true)],[]⟩ [(2,4,oc hb154),(7,8,oc hb154)] ?_
       exact eN h (gg [] [0,1,2,3])
      rcases aW h with⟨hb155,h⟩ | ⟨hb155,h⟩
      ·refine bS ⟨[(1,false),(4,true),(7,true),(8,false)],[]⟩ [(2,4,an hb154),(5,6,an hb155),(7,7,oc (And.intro hb154 hb155)),(8,8,oc hb154)] ?_
       exact eN h (gg [] [0,1,2,3])
      refine bS ⟨[(1,false),(4,false),(7,false),(8,false)],[]⟩ [(2,4,an hb154),(5,6,oc hb155),(7,7,oc (And.intro hb154 hb155)),(8,8,oc hb154)] ?_
      exact eN h (gg [] [0,1,2,3])
     refine aA (aO h (fun hb156 h=> ?_) (fun hb156 h=> ?_))
     ·refine G (pV [.frzC 0 0,.frzC 0 1] (by kernel_rfl) (aL ?_))
      obtain rfl:=sI h
      refine aE (aU ?_)
      exact bW (aD [Q7,.bool] (by kernel_rfl))
     refine aB (aA ?_)
     obtain⟨c97,c98,h⟩:=g2 h
     refine qA a0 [(3,3,oc c97),(7,7,oc c98)] ?_
     obtain rfl:=sI h
     refine bI ?_
     exact dI (gg [] [0,1,28,60])
    refine G ?_
    obtain⟨c101,c102,h⟩:=g2 h
    refine qA a0 [(5,5,oc c101),(9,9,oc c102)] ?_
    obtain rfl:=sI h
    refine bI ?_
    exact dI (gg [] [0,1,101,133])
   rcases r13 with⟨v35,v36,v37,v38⟩ | ⟨r11,r12⟩
   ·obtain⟨rfl,hle⟩:=hq
    refine dH ?_ hle
    refine aK (aK (aA (Ge ?_)))
    exact eB h (gg [] [0,1,2,3])
   obtain⟨rfl,hr⟩:=hq
   obtain rfl:=sI h
   refine aN (aN (aE (bX (aU ?_))))
   exact bW hr
  refine aH (aY ?_)
  obtain rfl:=sI h
  refine eR (bI ?_)
  exact b8 (gg [] [0,1,2,3])
 rcases r14 with⟨v29,v30,v31⟩ | ⟨r9,r10⟩
 ·obtain⟨rfl,hle⟩:=hq
  refine dH ?_ hle
  refine aJ (aA (aC (bO h (fun v41=>aM [(2,.adr 0 0 2 0),(3,.bo v41)] (aLt v29 v30) 3) (fun v41 h=> ?_) (fun v41 h=> ?_))))
  ·rcases aW h with⟨hb159,h⟩ | ⟨hb159,h⟩
   ·refine qA ⟨[(3,true),(8,true)],[]⟩ [(4,7,an hb159),(8,8,oc hb159)] ?_
    exact eN h (gg [] [0,2,3])
   refine qA ⟨[(3,false),(8,false)],[]⟩ [(4,8,oc hb159)] ?_
   exact eN h (gg [] [0,2,3])
  refine aA (pV [.frzC 0 0,.frzC 0 1] (by kernel_rfl) (aL ?_))
  obtain rfl:=sI h
  exact aD [Q7,.bool] (by kernel_rfl)
 obtain⟨rfl,hr⟩:=hq
 refine aN (aE ?_)
 obtain rfl:=sI h
 exact hr
def hH(s1 s2:List Int):(Int)→Option ((Int)⊕((Unit)⊕(Bool))):=fun v2 =>
 (if(decide (v2<(s1.length:Int)))=true then(if 0≤v2∧v2<(s1.length:Int)then(if 0≤v2∧v2<(s2.length:Int)then(if((s1.getD v2.toNat 0) != (s2.getD v2.toNat 0))=true then some (Sum.inr (Sum.inr false))
 else some (Sum.inl (IntKind.i64.wrap (v2+1))))else none)else none)
 else some (Sum.inr (Sum.inl ())))
def eG(s1 s2:List Int):Option (Bool) :=
 (if((s1.length:Int) != (s2.length:Int))=true then some false
 else((iter (hH s1 s2) (0:Int)).bind fun(r2:((Unit)⊕(Bool)))=>match r2 with
 | .inl _=>some true
 | .inr (r1)=>some r1))
theorem hJ(β0 β1:Bool){s1:List Int}{s2:List Int}{res:Bool}(h:eG s1 s2=some res):
  Pure Tryz.prog 91 [.p β0 (.slice (.int .i32)) s1,.p β1 (.slice (.int .i32)) s2] (aX (bJ false [⟨.bool,res⟩])):=by
 refine Pure.of_body bB Tryz.func91 (by kernel_rfl) rfl (nl rfl) (fun Bw w0=> ?_) rfl
 unfold eG at h
 refine G (aC (G (aO h (fun hb1 h=> ?_) (fun hb1 h=> ?_))))
 ·refine G (aL (aE ?_))
  obtain rfl:=sI h
  exact aD [.bool] (by kernel_rfl)
 refine aB (aA (aC (G (aF (mG h (fun v2=>aM [(0,.p β0 (.slice (.int .i32)) s1),(1,.p β1 (.slice (.int .i32)) s2),(12,.i64 (s1.length:Int)),(13,.i64 v2)] [] 0) (eI (fV Tryz.f91.ntmps 0 (fun _=>aM [] [] 0)) (iC tb Tryz.f91.results.toList (fun r1=>[⟨.bool,r1⟩]))) (gg [] []) (fun v2 o h=> ?_) (fun r2 h e σ' hq=> ?_))))))
 ·unfold hH at h
  refine G (aC (aO h (fun hb6 h=> ?_) (fun hb6 h=> ?_)))
  ·refine aB (aA (aC (aF (G ?_))))
   obtain⟨c11,c12,h⟩:=g2 h
   refine GD a0 [(2,2,oc c11),(6,6,oc c12)] (aO h (fun hb7 h=> ?_) (fun hb7 h=> ?_))
   ·refine G (aL ?_)
    obtain rfl:=sI h
    refine aN (aE (bX (aU ?_)))
    exact bW (aD [.bool] (by kernel_rfl))
   refine aB (aK (aA (Ge ?_)))
   exact eB h (gg [] [])
  refine aH (aY ?_)
  obtain rfl:=sI h
  refine eR (bI ?_)
  exact b8 (gg [] [])
 rcases r2 with _ | r1
 ·obtain⟨rfl,hle⟩:=hq
  refine dH ?_ hle
  refine aJ (aA (G (aL ?_)))
  obtain rfl:=sI h
  exact aD [.bool] (by kernel_rfl)
 obtain⟨rfl,hr⟩:=hq
 refine aN (aE ?_)
 obtain rfl:=sI h
 exact hr
def rM(w1 w2 x1 x2:List Int):Option (Bool) :=
 ((eG w1 x1).bind fun r2 =>
 some r2)
theorem L3(β0 β1 β2 β3:Bool){w1:List Int}{w2:List Int}{x1:List Int}{x2:List Int}{res:Bool}(h:rM w1 w2 x1 x2=some res):
  Pure Tryz.prog 90 [.agg [.p β0 (.slice (.int .i32)) w1,.p β1 (.slice (.int .u8)) w2],.fad true [.p β2 (.slice (.int .i32)) x1,.p β3 (.slice (.int .u8)) x2] 0] (aX (bJ false [⟨.bool,res⟩])):=by
 refine Pure.of_body bB Tryz.func90 (by kernel_rfl) rfl (nl rfl) (fun Bw w0=> ?_) rfl
 unfold rM at h
 refine G ?_
 obtain⟨r2,q2,h⟩:=aG h
 refine GP 4 (hJ β0 β2 q2) (aL ?_)
 obtain rfl:=sI h
 exact aD [.bool] (by kernel_rfl)
def o5(s1:List kK)(f1 f2:List Int):(Int)→Option ((Int)⊕((Unit)⊕(Int))):=fun v2 =>
 (if(decide (v2<(s1.length:Int)))=true then(if 0≤v2∧v2<(s1.length:Int)then((rM ((s1.getD v2.toNat (([]:List Int),([]:List Int))).1) ((s1.getD v2.toNat (([]:List Int),([]:List Int))).2) f1 f2).bind fun r7 =>
 (if r7=true then some (Sum.inr (Sum.inr v2))
 else some (Sum.inl (IntKind.i64.wrap (v2+1)))))else none)
 else some (Sum.inr (Sum.inl ())))
def oI(s1:List kK)(f1 f2:List Int):Option (Int) :=
 ((iter (o5 s1 f1 f2) (0:Int)).bind fun(r8:((Unit)⊕(Int)))=>match r8 with
 | .inl _=>some (-1:Int)
 | .inr (r5)=>some r5)
theorem zA(β0 β1 β2:Bool){s1:List kK}{f1:List Int}{f2:List Int}{res:Int}(h:oI s1 f1 f2=some res):
  Pure Tryz.prog 130 [.p β0 (.slice Q7) s1,.fn 90 [.fad true [.p β1 (.slice (.int .i32)) f1,.p β2 (.slice (.int .u8)) f2] 0]] (aX (bJ false [⟨(.int .i64),res⟩])):=by
 refine Pure.of_body bB Tryz.func130 (by kernel_rfl) rfl (nl rfl) (fun Bw w0=> ?_) rfl
 unfold oI at h
 refine G (aC (G (aF (mG h (fun v2=>aM [(0,.p β0 (.slice Q7) s1),(1,.fn 90 [.fad true [.p β1 (.slice (.int .i32)) f1,.p β2 (.slice (.int .u8)) f2] 0]),(7,.i64 (s1.length:Int)),(8,.i64 v2)] [] 0) (eI (fV Tryz.f130.ntmps 0 (fun _=>aM [] [] 0)) (iC tb Tryz.f130.results.toList (fun r5=>[⟨(.int .i64),r5⟩]))) (gg [] []) (fun v2 o h=> ?_) (fun r8 h e σ' hq=> ?_)))))
 ·unfold o5 at h
  refine G (aC (aO h (fun hb5 h=> ?_) (fun hb5 h=> ?_)))
  ·refine aB (aA (aC (aF (G ?_))))
   obtain⟨c6,h⟩:=aS h
   obtain⟨r7,q6,h⟩:=aG h
   have u_1:=(L3 β0 β0 β1 β2 q6)
   refine GN ⟨[],[(5,(oP u_1))]⟩ [(3,3,oc c6),(5,5,oc u_1)] (aO h (fun hb6 h=> ?_) (fun hb6 h=> ?_))
   ·refine G (aL ?_)
    obtain rfl:=sI h
    refine aN (aE (bX (aU ?_)))
    exact bW (aD [(.int .i64)] (by kernel_rfl))
   refine aB (aK (aA (Ge ?_)))
   exact eB h (gg [] [])
  refine aH (aY ?_)
  obtain rfl:=sI h
  refine eR (bI ?_)
  exact b8 (gg [] [])
 rcases r8 with _ | r5
 ·obtain⟨rfl,hle⟩:=hq
  refine dH ?_ hle
  refine aJ (aA (G (aL ?_)))
  obtain rfl:=sI h
  exact aD [(.int .i64)] (by kernel_rfl)
 obtain⟨rfl,hr⟩:=hq
 refine aN (aE ?_)
 obtain rfl:=sI h
 exact hr
def tT(s1:List kK)(f1 f2:List Int):Option (Bool) :=
 ((oI s1 f1 f2).bind fun r2 =>
 some (decide (r2≥0)))
theorem W4(β0 β1 β2:Bool){s1:List kK}{f1:List Int}{f2:List Int}{res:Bool}(h:tT s1 f1 f2=some res):
  Pure Tryz.prog 89 [.p β0 (.slice Q7) s1,.fn 90 [.fad true [.p β1 (.slice (.int .i32)) f1,.p β2 (.slice (.int .u8)) f2] 0]] (aX (bJ false [⟨.bool,res⟩])):=by
 refine Pure.of_body bB Tryz.func89 (by kernel_rfl) rfl (nl rfl) (fun Bw w0=> ?_) rfl
 unfold tT at h
 refine G ?_
 obtain⟨r2,q2,h⟩:=aG h
 refine GP 2 (zA β0 β1 β2 q2) (aL ?_)
 obtain rfl:=sI h
 exact aD [.bool] (by kernel_rfl)
end
end Go.Proofs.YtbedjpdfkmfplaaGreatDoor.T
