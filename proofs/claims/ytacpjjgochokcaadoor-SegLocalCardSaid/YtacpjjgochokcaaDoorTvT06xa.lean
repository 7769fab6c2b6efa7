/- Functions of the program as functions on data, and that the program's own come to them. -/
import Derived.Test.YtacpjjgochokcaaDoorTvT06x0
import Derived.Test.YtacpjjgochokcaaDoorTvT06xa1
namespace Go.Proofs.YtacpjjgochokcaaDoor.T
open Go Go.Tv Go.Proofs
noncomputable section
set_option maxRecDepth 100000
set_option maxHeartbeats 4000000
def hJ(d1:List Tree):((List Int)×(List (Int×Int×Int×Int))×Bool×(List (Bool×(Int×Int×Int×Int)×Int×Int×Int×Int))×Int)→Option (((List Int)×(List (Int×Int×Int×Int))×Bool×(List (Bool×(Int×Int×Int×Int)×Int×Int×Int×Int))×Int)⊕((List Int)×(List (Int×Int×Int×Int))×Bool×List (Bool×(Int×Int×Int×Int)×Int×Int×Int×Int))):=fun(v7,v8,v9,v10,v11) =>
 (if(decide (v11<(d1.length:Int)))=true then(if 0≤v11∧v11<(d1.length:Int)then((dA 1000 ((d1.getD v11.toNat (Tree.node 0 0 [])).op) ((d1.getD v11.toNat (Tree.node 0 0 [])).set) ((d1.getD v11.toNat (Tree.node 0 0 [])).kids) v9 v7 v8).bind fun(r21,r22,r23,r24) =>
 (if(v10.length+([(r21.1,((r21.2.1.1,(r21.2.1.2.1,(r21.2.1.2.2.1,r21.2.1.2.2.2))),(r21.2.2.1,(r21.2.2.2.1,(r21.2.2.2.2.1,r21.2.2.2.2.2)))))]:List (Bool×(Int×Int×Int×Int)×Int×Int×Int×Int)).length)*72≤140737488355328∧v10.length+([(r21.1,((r21.2.1.1,(r21.2.1.2.1,(r21.2.1.2.2.1,r21.2.1.2.2.2))),(r21.2.2.1,(r21.2.2.2.1,(r21.2.2.2.2.1,r21.2.2.2.2.2)))))]:List (Bool×(Int×Int×Int×Int)×Int×Int×Int×Int)).length≤9223372036854775807 then some (Sum.inl (r22,r23,r24,(v10++([(r21.1,((r21.2.1.1,(r21.2.1.2.1,(r21.2.1.2.2.1,r21.2.1.2.2.2))),(r21.2.2.1,(r21.2.2.2.1,(r21.2.2.2.2.1,r21.2.2.2.2.2)))))]:List (Bool×(Int×Int×Int×Int)×Int×Int×Int×Int))),(IntKind.i64.wrap (v11+(1:Int)))))else none))else none)
 else some (Sum.inr (v7,v8,v9,v10)))
def gU(v15:List (Bool×(Int×Int×Int×Int)×Int×Int×Int×Int)):(Int×Int×Int×Int×Int)→Option ((Int×Int×Int×Int×Int)⊕(Int×Int×Int×Int)):=fun(v21,v22,v23,v24,v25) =>
 (if(decide (v25<(v15.length:Int)))=true then(if 0≤v25∧v25<(v15.length:Int)then(if v25.toNat<v15.length then((cW v21 v22 v23 v24 ((v15.getD v25.toNat (false,(((0:Int),((0:Int),((0:Int),(0:Int)))),((0:Int),((0:Int),((0:Int),(0:Int))))))).2.1.1) ((v15.getD v25.toNat (false,(((0:Int),((0:Int),((0:Int),(0:Int)))),((0:Int),((0:Int),((0:Int),(0:Int))))))).2.1.2.1) ((v15.getD v25.toNat (false,(((0:Int),((0:Int),((0:Int),(0:Int)))),((0:Int),((0:Int),((0:Int),(0:Int))))))).2.1.2.2.1) ((v15.getD v25.toNat (false,(((0:Int),((0:Int),((0:Int),(0:Int)))),((0:Int),((0:Int),((0:Int),(0:Int))))))).2.1.2.2.2)).bind fun r31 =>
 some (Sum.inl (r31.1,r31.2.1,r31.2.2.1,r31.2.2.2,(IntKind.i64.wrap (v25+(1:Int))))))else none)else none)
 else some (Sum.inr (v21,v22,v23,v24)))
def fQ(v13 v325:List (Int×Int×Int×Int))(v327:Int):(Int×Int×Int×Int×Int)→Option ((Int×Int×Int×Int×Int)⊕(Int×Int×Int×Int)):=fun(v343,v344,v345,v346,v347) =>
 (if(decide (v347<(v13.length:Int)))=true then((fL ((v325.getD v327.toNat ((0:Int),((0:Int),((0:Int),(0:Int))))).1) ((v325.getD v327.toNat ((0:Int),((0:Int),((0:Int),(0:Int))))).2.1) ((v325.getD v327.toNat ((0:Int),((0:Int),((0:Int),(0:Int))))).2.2.1) ((v325.getD v327.toNat ((0:Int),((0:Int),((0:Int),(0:Int))))).2.2.2) v347).bind fun r502 =>
 (((if r502=true then(if 0≤v347∧v347<(v13.length:Int)then(if v347.toNat<v13.length then((cW v343 v344 v345 v346 ((v13.getD v347.toNat ((0:Int),((0:Int),((0:Int),(0:Int))))).1) ((v13.getD v347.toNat ((0:Int),((0:Int),((0:Int),(0:Int))))).2.1) ((v13.getD v347.toNat ((0:Int),((0:Int),((0:Int),(0:Int))))).2.2.1) ((v13.getD v347.toNat ((0:Int),((0:Int),((0:Int),(0:Int))))).2.2.2)).bind fun r506 =>
 some ((r506.1,r506.2.1,r506.2.2.1,r506.2.2.2)))else none)else none)
 else some ((v343,v344,v345,v346)))).bind fun(v352,v353,v354,v355)=>some (Sum.inl (v352,v353,v354,v355,(IntKind.i64.wrap (v347+(1:Int)))))))
 else some (Sum.inr (v343,v344,v345,v346)))
def g7(v15:List (Bool×(Int×Int×Int×Int)×Int×Int×Int×Int))(v325:List (Int×Int×Int×Int))(v327:Int):(Int×Int)→Option ((Int×Int)⊕(Int)):=fun(v362,v363) =>
 (if(decide (v363<(v15.length:Int)))=true then(if 0≤v363∧v363<(v15.length:Int)then(if v363.toNat<v15.length then(((if((v15.getD v363.toNat (false,(((0:Int),((0:Int),((0:Int),(0:Int)))),((0:Int),((0:Int),((0:Int),(0:Int))))))).1)=true then some (true)
 else((iF ((v325.getD v327.toNat ((0:Int),((0:Int),((0:Int),(0:Int))))).1) ((v325.getD v327.toNat ((0:Int),((0:Int),((0:Int),(0:Int))))).2.1) ((v325.getD v327.toNat ((0:Int),((0:Int),((0:Int),(0:Int))))).2.2.1) ((v325.getD v327.toNat ((0:Int),((0:Int),((0:Int),(0:Int))))).2.2.2) ((v15.getD v363.toNat (false,(((0:Int),((0:Int),((0:Int),(0:Int)))),((0:Int),((0:Int),((0:Int),(0:Int))))))).2.2.1) ((v15.getD v363.toNat (false,(((0:Int),((0:Int),((0:Int),(0:Int)))),((0:Int),((0:Int),((0:Int),(0:Int))))))).2.2.2.1) ((v15.getD v363.toNat (false,(((0:Int),((0:Int),((0:Int),(0:Int)))),((0:Int),((0:Int),((0:Int),(0:Int))))))).2.2.2.2.1) ((v15.getD v363.toNat (false,(((0:Int),((0:Int),((0:Int),(0:Int)))),((0:Int),((0:Int),((0:Int),(0:Int))))))).2.2.2.2.2)).bind fun r517 =>
 some (r517)))).bind fun v365=>(((if v365=true then(if 0≤v363 then some ((aG .or .u32 v362 (IntKind.u32.wrap ((1:Int)*2 ^ (min v363.toNat IntKind.u32.bits)))))else none)
 else some (v362))).bind fun v366=>some (Sum.inl (v366,(IntKind.i64.wrap (v363+(1:Int)))))))else none)else none)
 else some (Sum.inr v362))
def fN(v12:List Int)(v348 v349 v350 v351 v438:Int):(Int×Int×Int×Int×Int)→Option ((Int×Int×Int×Int×Int)⊕(Int×Int×Int×Int)):=fun(v457,v458,v459,v460,v461) =>
 (if(decide (v461<(v12.length:Int)))=true then(if 0≤v461∧v461<(v12.length:Int)then(if v461.toNat<v12.length then((((fL v348 v349 v350 v351 v461).bind fun r690 =>
 (if r690=true then(if 0≤v438 then some (((aG .and .u32 (Int.fdiv (v12.getD v461.toNat (0:Int)) (2 ^ (min v438.toNat IntKind.u32.bits))) (1:Int)) == (1:Int)))else none)
 else some (false)))).bind fun v466=>(((if v466=true then((eO v461 v457 v458 v459 v460).bind fun(r703,r704,r705,r706) =>
 some ((r703,r704,r705,r706)))
 else some ((v457,v458,v459,v460)))).bind fun(v467,v468,v469,v470)=>some (Sum.inl (v467,v468,v469,v470,(IntKind.i64.wrap (v461+(1:Int)))))))else none)else none)
 else some (Sum.inr (v457,v458,v459,v460)))
def fT(i1:Int)(v12:List Int)(v348 v349 v350 v351:Int):((List (Int×Int×Int×Int))×(List ((Int×Int×Int×Int)×Int))×(List Int)×Int)→Option (((List (Int×Int×Int×Int))×(List ((Int×Int×Int×Int)×Int))×(List Int)×Int)⊕(((List (Int×Int×Int×Int))×(List ((Int×Int×Int×Int)×Int))×List Int)⊕(((List (List Int))×List Int)×Int))):=fun(v435,v436,v437,v438) =>
 (if(decide (v438<i1))=true then((iter (fN v12 v348 v349 v350 v351 v438) ((0:Int),(0:Int),(0:Int),(0:Int),(0:Int))).bind fun(v462,v463,v464,v465)=>(((if(!((bF Y9 v436 (v462,(v463,(v464,v465)))).isSome))=true then(if(decide ((v435.length:Int)≥(300:Int)))=true then some ((Sum.inr ((([]:List (List Int)),([]:List Int)),(27:Int))))
 else(if(v435.length+([(v462,(v463,(v464,v465)))]:List (Int×Int×Int×Int)).length)*32≤140737488355328∧v435.length+([(v462,(v463,(v464,v465)))]:List (Int×Int×Int×Int)).length≤9223372036854775807 then some ((Sum.inl ((v435++([(v462,(v463,(v464,v465)))]:List (Int×Int×Int×Int))),(d9 Y9 v436 (v462,(v463,(v464,v465))) (v435.length:Int)),(v435.length:Int))))else none))
 else some ((Sum.inl (v435,v436,((bF Y9 v436 (v462,(v463,(v464,v465)))).getD (0:Int))))))).bind fun(r711:(((List (Int×Int×Int×Int))×(List ((Int×Int×Int×Int)×Int))×Int)⊕(((List (List Int))×List Int)×Int)))=>match r711 with
 | .inl (v471,v472,v473)=>(if 0≤v438∧v438<(v437.length:Int)then(if v438.toNat<v437.length then some (Sum.inl (v471,v472,(v437.set v438.toNat v473),(IntKind.i64.wrap (v438+(1:Int)))))else none)else none)
 | .inr ((r709,r710))=>some (Sum.inr (Sum.inr (r709,r710)))))
 else some (Sum.inr (Sum.inl (v435,v436,v437))))
def fS(i1:Int)(v12:List Int)(v13:List (Int×Int×Int×Int))(v15:List (Bool×(Int×Int×Int×Int)×Int×Int×Int×Int))(v26 v27 v28 v29:Int):((List (List Int))×(List Int)×(List (Int×Int×Int×Int))×(List ((Int×Int×Int×Int)×Int))×Int)→Option (((List (List Int))×(List Int)×(List (Int×Int×Int×Int))×(List ((Int×Int×Int×Int)×Int))×Int)⊕(((List (List Int))×List Int)⊕(((List (List Int))×List Int)×Int))):=fun(v323,v324,v325,v326,v327) =>
 (if(decide (v327<(v325.length:Int)))=true then(if 0≤v327∧v327<(v325.length:Int)then(if v327.toNat<v325.length then((iter (fQ v13 v325 v327) (v26,v27,v28,v29,(0:Int))).bind fun(v348,v349,v350,v351)=>((iter (g7 v15 v325 v327) ((0:Int),(0:Int))).bind fun v364=>(if 0≤i1∧i1≤i1∧(8:Int)*i1≤281474976710656∧i1≤9223372036854775807 then((iter (fT i1 v12 v348 v349 v350 v351) (v325,v326,(List.replicate i1.toNat (0:Int)),(0:Int))).bind fun(r712:(((List (Int×Int×Int×Int))×(List ((Int×Int×Int×Int)×Int))×List Int)⊕(((List (List Int))×List Int)×Int)))=>match r712 with
 | .inl (v439,v440,v441)=>(if(v323.length+([v441]:List (List Int)).length)*24≤140737488355328∧v323.length+([v441]:List (List Int)).length≤9223372036854775807 then(if(v324.length+([v364]:List Int).length)*4≤140737488355328∧v324.length+([v364]:List Int).length≤9223372036854775807 then some (Sum.inl ((v323++([v441]:List (List Int))),(v324++([v364]:List Int)),v439,v440,(IntKind.i64.wrap (v327+(1:Int)))))else none)else none)
 | .inr ((r646,r647))=>some (Sum.inr (Sum.inr (r646,r647))))else none)))else none)else none)
 else some (Sum.inr (Sum.inl (v323,v324))))
def f7(d1:List Tree)(i1:Int):Option (((List (List Int))×List Int)×Int) :=
 (((if(decide (i1<(1:Int)))=true then some (true)
 else(if(decide (i1 > (24:Int)))=true then some (true)
 else some ((decide ((d1.length:Int) > (24:Int))))))).bind fun v1=>(if v1=true then some ((([]:List (List Int)),([]:List Int)),(2:Int))
 else((iter (hJ d1) (([]:List Int),([]:List (Int×Int×Int×Int)),false,([]:List (Bool×(Int×Int×Int×Int)×Int×Int×Int×Int)),(0:Int))).bind fun(v12,v13,v14,v15)=>(if v14=true then some ((([]:List (List Int)),([]:List Int)),(26:Int))
 else((iter (gU v15) ((0:Int),(0:Int),(0:Int),(0:Int),(0:Int))).bind fun(v26,v27,v28,v29)=>((iter (fS i1 v12 v13 v15 v26 v27 v28 v29) (([]:List (List Int)),([]:List Int),([((0:Int),((0:Int),((0:Int),(0:Int))))]:List (Int×Int×Int×Int)),(d9 Y9 ([]:List ((Int×Int×Int×Int)×Int)) ((0:Int),((0:Int),((0:Int),(0:Int)))) (0:Int)),(0:Int))).bind fun(r713:(((List (List Int))×List Int)⊕(((List (List Int))×List Int)×Int)))=>match r713 with
 | .inl (v328,v329)=>some ((v328,v329),(0:Int))
 | .inr ((r485,r486))=>some (r485,r486)))))))
theorem sT(β0:Bool){d1:List Tree}{i1:Int}{res:((List (List Int))×List Int)×Int}(h:f7 d1 i1=some res):
  Pure Tryd.prog 34 [.p β0 (.slice (.tree .u8 .u32)) d1,.i64 i1] (cE (gG false [⟨Y6,res.1⟩,⟨(.int .i64),res.2⟩])):=by
 refine Pure.of_body bS Tryd.func34 (by kernel_rfl) rfl (nl rfl) (fun Bw w0=> ?_) rfl
 unfold f7 at h
 refine G (aC (aC (gE h (fun v1=>aO [(0,.p β0 (.slice (.tree .u8 .u32)) d1),(1,.i64 i1),(4,.adr 0 0 2 0),(40,.bo v1)] [(0,.box [.nils,.nils])] 1) (fun v1 h=> ?_) (fun v1 h=> ?_))))
 ·rcases cF h with⟨hb5,h⟩ | ⟨hb5,h⟩
  ·refine gS ⟨[(2,true),(5,true)],[]⟩ [(3,5,oc hb5)] ?_
   exact eN h (gg [] [0])
  rcases cF h with⟨hb6,h⟩ | ⟨hb6,h⟩
  ·refine gS ⟨[(2,false),(5,false),(6,true),(10,true)],[]⟩ [(3,4,an hb5),(5,5,oc hb5),(7,10,oc hb6)] ?_
   exact eN h (gg [] [0])
  refine gS ⟨[(2,false),(5,false),(6,false),(10,false)],[]⟩ [(3,4,an hb5),(5,5,oc hb5),(7,9,an hb6),(10,10,oc hb6)] ?_
  exact eN h (gg [] [0])
 refine aA (aW h (fun hb7 h=> ?_) (fun hb7 h=> ?_))
 ·refine G (aZ (aH ?_))
  obtain rfl:=sI h
  exact aJ [Y6,(.int .i64)] (by kernel_rfl)
 refine aB (aA (G (G (aC (G (aF (jO h (fun(v7,v8,v9,v10,v11)=>aO [(1,.i64 i1),(4,.adr 0 0 2 0),(6,.adr 1 0 3 0),(7,.sl 4),(44,.p β0 (.slice (.tree .u8 .u32)) d1),(45,.i64 (d1.length:Int)),(46,.i64 v11)] (aGy v9 v7 v8 v10) 5) 0 (fun(v12,v13,v14,v15)=>aO [(1,.i64 i1),(4,.adr 0 0 2 0),(6,.adr 1 0 3 0),(7,.sl 4)] (aGy v14 v12 v13 v15) 5) (gg [.nilC 9 0 57 30 (.int .u32),.nilC 9 1 58 126 Y9,.nilS 7 59 128 J6] [0,9,57,58,59]) (fun y o h=> ?_) (fun r25 h=> ?_))))))))
 ·obtain⟨v7,v8,v9,v10,v11⟩:=y
  unfold hJ at h
  refine G (aC (aW h (fun hb10 h=> ?_) (fun hb10 h=> ?_)))
  ·refine aB (aA (aC (aF (GC 0 h (fun h=> ?_)))))
   obtain⟨⟨r21,r22,r23,r24⟩,q6,h⟩:=aD h
   obtain⟨c12,h⟩:=bC h
   have u_1:=(kV 1000 β0 q6)
   refine gS ⟨[],[(3,(oO u_1 [1,2,3]))]⟩ [(3,3,oc u_1),(5,5,oc c12)] (aN (aA (Ge ?_)))
   exact eB h (gg [] [0,1,69,70,85])
  refine aI (bT ?_)
  exact eX h (gg [] [0,1,2,3,4])
 obtain⟨v12,v13,v14,v15⟩:=r25
 refine aK (aA (aC (G (aW h (fun hb11 h=> ?_) (fun hb11 h=> ?_)))))
 ·refine G (aZ (aH ?_))
  obtain rfl:=sI h
  exact aJ [Y6,(.int .i64)] (by kernel_rfl)
 refine aB (aA (G (aC (G (aF (jO h (fun(v21,v22,v23,v24,v25)=>aO [(1,.i64 i1),(4,.adr 0 0 2 0),(6,.adr 1 0 3 0),(7,.sl 4),(10,.adr 5 0 4 0),(62,.sl 4),(63,.i64 (v15.length:Int)),(64,.i64 v25)] (aGA v14 v12 v13 v15 v21 v22 v23 v24) 6) 2 (fun(v26,v27,v28,v29)=>aO [(1,.i64 i1),(4,.adr 0 0 2 0),(6,.adr 1 0 3 0),(7,.sl 4),(10,.adr 5 0 4 0)] (aGA v14 v12 v13 v15 v26 v27 v28 v29) 6) (gg [] [0,1,2,3,4,37]) (fun y o h=> ?_) (fun r32 h=> ?_)))))))
 ·obtain⟨v21,v22,v23,v24,v25⟩:=y
  unfold gU at h
  refine G (aC (aW h (fun hb14 h=> ?_) (fun hb14 h=> ?_)))
  ·refine aB (aA (aC (aF ?_)))
   obtain⟨c23,c24,h⟩:=g2 h
   refine GN a0 [(0,0,oc c23),(1,1,oc c24)] ?_
   obtain⟨r31,q12,h⟩:=aD h
   refine GPe 3 (cO q12) (aN (aA (Ge ?_)))
   exact eB h (gg [] [0,1,2,3,4,5])
  refine aI (bT ?_)
  exact eX h (gg [] [0,1,2,3,4,5])
 obtain⟨v26,v27,v28,v29⟩:=r32
 refine aK (aA (G (G (GN a0 [(0,0,oc K7),(2,2,oc K7)] (aC (G (aF (qV h (fun(v323,v324,v325,v326,v327)=>aO [(1,.i64 i1),(4,.adr 0 0 2 0),(6,.adr 1 0 3 0),(7,.sl 4),(10,.adr 5 0 4 0),(13,.adr 6 0 2 0),(14,.sl 9),(15,.mp 10),(16,.i64 v327)] (aIj v14 v12 v13 v15 v26 v27 v28 v29 v323 v324 v325 v326) 11) (fY (iU Tryd.f34.ntmps 4 (fun(v328,v329)=>aO [(4,.adr 0 0 2 0),(13,.adr 1 0 2 0)] (aHf v328 v329) 4)) (qA tb Tryd.f34.results.toList (fun(r485,r486)=>[⟨Y6,r485⟩,⟨(.int .i64),r486⟩]))) (gg [.nilC 6 0 86 26 (.slice (.int .i64)),.nilC 6 1 87 30 (.int .u32)] [0,1,2,3,4,5,6,86,87,22,38]) (fun y o h=> ?_) (fun r713 h e σ' hq=> ?_)))))))))
 ·obtain⟨v323,v324,v325,v326,v327⟩:=y
  unfold fS at h
  refine aC (G (aW h (fun hb209 h=> ?_) (fun hb209 h=> ?_)))
  ·refine aB (aA (aC (aF ?_)))
   obtain⟨c317,c318,h⟩:=g2 h
   refine GN a0 [(2,2,oc c317),(3,3,oc c318)] (G (G (aC (G (aF ?_)))))
   refine jO h (fun(v343,v344,v345,v346,v347)=>aO [(1,.i64 i1),(4,.adr 0 0 2 0),(6,.adr 1 0 3 0),(7,.sl 4),(10,.adr 5 0 4 0),(13,.adr 6 0 2 0),(14,.sl 9),(15,.mp 10),(16,.i64 v327),(17,.adr 11 0 4 0),(18,.u32 (0:Int)),(19,.adr 12 0 4 0),(93,.i64 (v13.length:Int)),(94,.i64 v347)] (aBD v14 v12 v13 v15 v26 v27 v28 v29 v323 v324 v325 v326 ((v325.getD v327.toNat ((0:Int),((0:Int),((0:Int),(0:Int))))).1) ((v325.getD v327.toNat ((0:Int),((0:Int),((0:Int),(0:Int))))).2.1) ((v325.getD v327.toNat ((0:Int),((0:Int),((0:Int),(0:Int))))).2.2.1) ((v325.getD v327.toNat ((0:Int),((0:Int),((0:Int),(0:Int))))).2.2.2) v343 v344 v345 v346) 13) 6 (fun(v348,v349,v350,v351)=>aO [(1,.i64 i1),(4,.adr 0 0 2 0),(6,.adr 1 0 3 0),(7,.sl 4),(10,.adr 5 0 4 0),(13,.adr 6 0 2 0),(14,.sl 9),(15,.mp 10),(16,.i64 v327),(17,.adr 11 0 4 0),(18,.u32 (0:Int)),(19,.adr 12 0 4 0)] (aBD v14 v12 v13 v15 v26 v27 v28 v29 v323 v324 v325 v326 ((v325.getD v327.toNat ((0:Int),((0:Int),((0:Int),(0:Int))))).1) ((v325.getD v327.toNat ((0:Int),((0:Int),((0:Int),(0:Int))))).2.1) ((v325.getD v327.toNat ((0:Int),((0:Int),((0:Int),(0:Int))))).2.2.1) ((v325.getD v327.toNat ((0:Int),((0:Int),((0:Int),(0:Int))))).2.2.2) v348 v349 v350 v351) 13) (gg [] [0,1,2,3,4,5,6,7,8,9,10,75,107]) (fun y o h=> ?_) (fun r508 h=> ?_)
   ·obtain⟨v343,v344,v345,v346,v347⟩:=y
    unfold fQ at h
    refine G (aC (aW h (fun hb216 h=> ?_) (fun hb216 h=> ?_)))
    ·refine aB (aA (aC (aF (G ?_))))
     obtain⟨r502,q206,h⟩:=aD h
     refine GP 2 (iC q206) (gE h (fun(v352,v353,v354,v355)=>aO [(1,.i64 i1),(4,.adr 0 0 2 0),(6,.adr 1 0 3 0),(7,.sl 4),(10,.adr 5 0 4 0),(13,.adr 6 0 2 0),(14,.sl 9),(15,.mp 10),(16,.i64 v327),(17,.adr 11 0 4 0),(18,.u32 (0:Int)),(19,.adr 12 0 4 0),(93,.i64 (v13.length:Int)),(94,.i64 v347)] (aBD v14 v12 v13 v15 v26 v27 v28 v29 v323 v324 v325 v326 ((v325.getD v327.toNat ((0:Int),((0:Int),((0:Int),(0:Int))))).1) ((v325.getD v327.toNat ((0:Int),((0:Int),((0:Int),(0:Int))))).2.1) ((v325.getD v327.toNat ((0:Int),((0:Int),((0:Int),(0:Int))))).2.2.1) ((v325.getD v327.toNat ((0:Int),((0:Int),((0:Int),(0:Int))))).2.2.2) v352 v353 v354 v355) 13) (fun r507 h=> ?_) (fun r507 h=> ?_))
     ·refine aW h (fun hb218 h=> ?_) (fun hb218 h=> ?_)
      ·obtain⟨c341,c342,h⟩:=g2 h
       obtain⟨r506,q210,h⟩:=aD h
       have u_1:=(cO q210)
       refine z7 ⟨[],[(8,(oP u_1))]⟩ [(6,6,oc c341),(7,7,oc c342),(8,8,oc u_1)] ?_
       exact eN h (gg [] [0,1,2,3,4,5,6,7,8,9,10,11,12])
      refine aB ?_
      exact eN h (gg [] [0,1,2,3,4,5,6,7,8,9,10,11,12])
     obtain⟨v352,v353,v354,v355⟩:=r507
     refine aN (aA (Ge ?_))
     exact eB h (gg [] [0,1,2,3,4,5,6,7,8,9,10,11,12])
    refine aI (bT ?_)
    exact eX h (gg [] [0,1,2,3,4,5,6,7,8,9,10,11,12])
   obtain⟨v348,v349,v350,v351⟩:=r508
   refine aK (aA (aC (G (aF ?_))))
   refine jO h (fun(v362,v363)=>aO [(1,.i64 i1),(4,.adr 0 0 2 0),(6,.adr 1 0 3 0),(7,.sl 4),(10,.adr 5 0 4 0),(13,.adr 6 0 2 0),(14,.sl 9),(15,.mp 10),(16,.i64 v327),(17,.adr 11 0 4 0),(18,.u32 v362),(19,.adr 12 0 4 0),(110,.sl 4),(111,.i64 (v15.length:Int)),(112,.i64 v363)] (aBD v14 v12 v13 v15 v26 v27 v28 v29 v323 v324 v325 v326 ((v325.getD v327.toNat ((0:Int),((0:Int),((0:Int),(0:Int))))).1) ((v325.getD v327.toNat ((0:Int),((0:Int),((0:Int),(0:Int))))).2.1) ((v325.getD v327.toNat ((0:Int),((0:Int),((0:Int),(0:Int))))).2.2.1) ((v325.getD v327.toNat ((0:Int),((0:Int),((0:Int),(0:Int))))).2.2.2) v348 v349 v350 v351) 13) 8 (fun v364=>aO [(1,.i64 i1),(4,.adr 0 0 2 0),(6,.adr 1 0 3 0),(7,.sl 4),(10,.adr 5 0 4 0),(13,.adr 6 0 2 0),(14,.sl 9),(15,.mp 10),(16,.i64 v327),(18,.u32 v364),(19,.adr 11 0 4 0)] (aIz v14 v12 v13 v15 v26 v27 v28 v29 v323 v324 v325 v326 v348 v349 v350 v351) 12) (gg [] [0,1,2,3,4,5,6,7,8,9,10,11,12]) (fun y o h=> ?_) (fun v364 h=> ?_)
   ·obtain⟨v362,v363⟩:=y
    unfold g7 at h
    refine G (aC (aW h (fun hb231 h=> ?_) (fun hb231 h=> ?_)))
    ·refine aB (aA (aC (aF ?_)))
     obtain⟨c361,c362,h⟩:=g2 h
     refine GN a0 [(1,1,oc c361),(2,2,oc c362)] (aC (gE h (fun v365=>aO [(1,.i64 i1),(4,.adr 0 0 2 0),(6,.adr 1 0 3 0),(7,.sl 4),(10,.adr 5 0 4 0),(13,.adr 6 0 2 0),(14,.sl 9),(15,.mp 10),(16,.i64 v327),(17,.adr 11 0 4 0),(18,.u32 v362),(19,.adr 12 0 4 0),(21,.i64 v363),(110,.sl 4),(111,.i64 (v15.length:Int)),(112,.i64 v363),(124,.bo v365)] (aBD v14 v12 v13 v15 v26 v27 v28 v29 v323 v324 v325 v326 ((v325.getD v327.toNat ((0:Int),((0:Int),((0:Int),(0:Int))))).1) ((v325.getD v327.toNat ((0:Int),((0:Int),((0:Int),(0:Int))))).2.1) ((v325.getD v327.toNat ((0:Int),((0:Int),((0:Int),(0:Int))))).2.2.1) ((v325.getD v327.toNat ((0:Int),((0:Int),((0:Int),(0:Int))))).2.2.2) v348 v349 v350 v351) 13) (fun v365 h=> ?_) (fun v365 h=> ?_)))
     ·rcases cF h with⟨hb234,h⟩ | ⟨hb234,h⟩
      ·refine gS ⟨[(2,true),(7,true)],[]⟩ [(3,7,oc hb234)] ?_
       exact eN h (gg [] [0,1,2,3,4,5,6,7,8,9,10,11,12])
      obtain⟨r517,q219,h⟩:=aD h
      have u_1:=(B6 q219)
      refine gS ⟨[(2,false),(7,false)],[(6,(oP u_1))]⟩ [(3,5,an hb234),(6,6,oc (And.intro hb234 u_1)),(7,7,oc hb234)] ?_
      exact eN h (gg [] [0,1,2,3,4,5,6,7,8,9,10,11,12])
     refine aA (gE h (fun v366=>aO [(1,.i64 i1),(4,.adr 0 0 2 0),(6,.adr 1 0 3 0),(7,.sl 4),(10,.adr 5 0 4 0),(13,.adr 6 0 2 0),(14,.sl 9),(15,.mp 10),(16,.i64 v327),(17,.adr 11 0 4 0),(18,.u32 v366),(19,.adr 12 0 4 0),(110,.sl 4),(111,.i64 (v15.length:Int)),(112,.i64 v363)] (aBD v14 v12 v13 v15 v26 v27 v28 v29 v323 v324 v325 v326 ((v325.getD v327.toNat ((0:Int),((0:Int),((0:Int),(0:Int))))).1) ((v325.getD v327.toNat ((0:Int),((0:Int),((0:Int),(0:Int))))).2.1) ((v325.getD v327.toNat ((0:Int),((0:Int),((0:Int),(0:Int))))).2.2.1) ((v325.getD v327.toNat ((0:Int),((0:Int),((0:Int),(0:Int))))).2.2.2) v348 v349 v350 v351) 13) (fun v366 h=> ?_) (fun v366 h=> ?_))
     ·refine aW h (fun hb236 h=> ?_) (fun hb236 h=> ?_)
      ·refine GCe 2 h (fun h=> ?_)
       exact eN h (gg [] [0,1,2,3,4,5,6,7,8,9,10,11,12])
      refine aB ?_
      exact eN h (gg [] [0,1,2,3,4,5,6,7,8,9,10,11,12])
     refine aN (aA (Ge ?_))
     exact eB h (gg [] [0,1,2,3,4,5,6,7,8,9,10,11,12])
    refine aI (bT ?_)
    exact eX h (gg [] [0,1,2,3,4,5,6,7,8,9,10,12])
   refine aK (aA (GC 1 h (fun h=>aC (G (aF ?_)))))
   refine qV h (fun(v435,v436,v437,v438)=>aO [(1,.i64 i1),(4,.adr 0 0 2 0),(6,.adr 1 0 3 0),(7,.sl 4),(10,.adr 5 0 4 0),(13,.adr 6 0 2 0),(14,.sl 9),(15,.mp 10),(16,.i64 v327),(18,.u32 v364),(19,.adr 11 0 4 0),(23,.sl 12),(132,.i64 i1),(133,.i64 v438)] (aGD v14 v12 v13 v15 v26 v27 v28 v29 v323 v324 v435 v436 v348 v349 v350 v351 v437) 13) (fY (iU Tryd.f34.ntmps 10 (fun(v439,v440,v441)=>aO [(1,.i64 i1),(4,.adr 0 0 2 0),(6,.adr 1 0 3 0),(7,.sl 4),(10,.adr 5 0 4 0),(13,.adr 6 0 2 0),(14,.sl 9),(15,.mp 10),(16,.i64 v327),(18,.u32 v364),(23,.sl 11)] (aHX v14 v12 v13 v15 v26 v27 v28 v29 v323 v324 v439 v440 v441) 12)) (qA tb Tryd.f34.results.toList (fun(r646,r647)=>[⟨Y6,r646⟩,⟨(.int .i64),r647⟩]))) (gg [] [0,1,2,3,4,5,6,7,8,9,10,11,20]) (fun y o h=> ?_) (fun r712 h e σ' hq=> ?_)
   ·obtain⟨v435,v436,v437,v438⟩:=y
    unfold fT at h
    refine G (aC (aW h (fun hb283 h=> ?_) (fun hb283 h=> ?_)))
    ·refine aB (aA (aC (aF (G (G (aC (G (aF ?_))))))))
     refine jO h (fun(v457,v458,v459,v460,v461)=>aO [(1,.i64 i1),(4,.adr 0 0 2 0),(6,.adr 1 0 3 0),(7,.sl 4),(10,.adr 5 0 4 0),(13,.adr 6 0 2 0),(14,.sl 9),(15,.mp 10),(16,.i64 v327),(18,.u32 v364),(19,.adr 11 0 4 0),(23,.sl 12),(24,.i64 v438),(25,.adr 13 0 4 0),(132,.i64 i1),(133,.i64 v438),(139,.sl 2),(140,.i64 (v12.length:Int)),(141,.i64 v461)] (aD8 v14 v12 v13 v15 v26 v27 v28 v29 v323 v324 v435 v436 v348 v349 v350 v351 v437 v457 v458 v459 v460) 14) 12 (fun(v462,v463,v464,v465)=>aO [(1,.i64 i1),(4,.adr 0 0 2 0),(6,.adr 1 0 3 0),(7,.sl 4),(10,.adr 5 0 4 0),(13,.adr 6 0 2 0),(14,.sl 9),(15,.mp 10),(16,.i64 v327),(18,.u32 v364),(19,.adr 11 0 4 0),(23,.sl 12),(24,.i64 v438),(25,.adr 13 0 4 0),(132,.i64 i1),(133,.i64 v438)] (aD8 v14 v12 v13 v15 v26 v27 v28 v29 v323 v324 v435 v436 v348 v349 v350 v351 v437 v462 v463 v464 v465) 14) (gg [] [0,1,2,3,4,5,6,7,8,9,10,11,12,37]) (fun y o h=> ?_) (fun r708 h=> ?_)
     ·obtain⟨v457,v458,v459,v460,v461⟩:=y
      unfold fN at h
      refine G (aC (aW h (fun hb296 h=> ?_) (fun hb296 h=> ?_)))
      ·refine aB (aA (aC (aF ?_)))
       obtain⟨c443,c444,h⟩:=g2 h
       refine GN a0 [(1,1,oc c443),(2,2,oc c444)] (aC (gE h (fun v466=>aO [(1,.i64 i1),(4,.adr 0 0 2 0),(6,.adr 1 0 3 0),(7,.sl 4),(10,.adr 5 0 4 0),(13,.adr 6 0 2 0),(14,.sl 9),(15,.mp 10),(16,.i64 v327),(18,.u32 v364),(19,.adr 11 0 4 0),(23,.sl 12),(24,.i64 v438),(25,.adr 13 0 4 0),(26,.i64 v461),(132,.i64 i1),(133,.i64 v438),(139,.sl 2),(140,.i64 (v12.length:Int)),(141,.i64 v461),(155,.bo v466)] (aD8 v14 v12 v13 v15 v26 v27 v28 v29 v323 v324 v435 v436 v348 v349 v350 v351 v437 v457 v458 v459 v460) 14) (fun v466 h=> ?_) (fun v466 h=> ?_)))
       ·obtain⟨r690,q278,h⟩:=aD h
        rcases cF h with⟨hb299,h⟩ | ⟨hb299,h⟩
        ·obtain⟨c447,h⟩:=bC h
         have u_1:=(iC q278)
         refine gS ⟨[(3,true),(9,true)],[(2,(oP u_1))]⟩ [(2,2,oc u_1),(4,5,an hb299),(6,6,oc (And.intro hb299 c447)),(7,8,an hb299),(9,9,oc hb299)] ?_
         exact eN h (gg [] [0,1,2,3,4,5,6,7,8,9,10,11,12,13])
        have u_1:=(iC q278)
        refine gS ⟨[(3,false),(9,false)],[(2,(oP u_1))]⟩ [(2,2,oc u_1),(4,9,oc hb299)] ?_
        exact eN h (gg [] [0,1,2,3,4,5,6,7,8,9,10,11,12,13])
       refine aA (gE h (fun(v467,v468,v469,v470)=>aO [(1,.i64 i1),(4,.adr 0 0 2 0),(6,.adr 1 0 3 0),(7,.sl 4),(10,.adr 5 0 4 0),(13,.adr 6 0 2 0),(14,.sl 9),(15,.mp 10),(16,.i64 v327),(18,.u32 v364),(19,.adr 11 0 4 0),(23,.sl 12),(24,.i64 v438),(25,.adr 13 0 4 0),(132,.i64 i1),(133,.i64 v438),(139,.sl 2),(140,.i64 (v12.length:Int)),(141,.i64 v461)] (aD8 v14 v12 v13 v15 v26 v27 v28 v29 v323 v324 v435 v436 v348 v349 v350 v351 v437 v467 v468 v469 v470) 14) (fun r707 h=> ?_) (fun r707 h=> ?_))
       ·refine aW h (fun hb301 h=> ?_) (fun hb301 h=> ?_)
        ·obtain⟨⟨r703,r704,r705,r706⟩,q282,h⟩:=aD h
         refine nB 1 [13] (rN q282) ?_
         exact eN h (gg [] [0,1,2,3,4,5,6,7,8,9,10,11,12,13])
        refine aB ?_
        exact eN h (gg [] [0,1,2,3,4,5,6,7,8,9,10,11,12,13])
       obtain⟨v467,v468,v469,v470⟩:=r707
       refine aN (aA (Ge ?_))
       exact eB h (gg [] [0,1,2,3,4,5,6,7,8,9,10,11,12,13])
      refine aI (bT ?_)
      exact eX h (gg [] [0,1,2,3,4,5,6,7,8,9,10,11,12,13])
     obtain⟨v462,v463,v464,v465⟩:=r708
     refine aK (aA (GN a0 [(2,2,oc K7)] (aC (G (aEP h (fY (sQ Tryd.f34.ntmps (fun(v471,v472,v473)=>aO [(1,.i64 i1),(4,.adr 0 0 2 0),(6,.adr 1 0 3 0),(7,.sl 4),(10,.adr 5 0 4 0),(13,.adr 6 0 2 0),(14,.sl 9),(15,.mp 10),(16,.i64 v327),(18,.u32 v364),(19,.adr 11 0 4 0),(23,.sl 12),(24,.i64 v438),(28,.i64 v473),(132,.i64 i1),(133,.i64 v438)] (aGD v14 v12 v13 v15 v26 v27 v28 v29 v323 v324 v471 v472 v348 v349 v350 v351 v437) 13)) (qA tb Tryd.f34.results.toList (fun(r709,r710)=>[⟨Y6,r709⟩,⟨(.int .i64),r710⟩]))) (fun r711 h=> ?_) (fun r711 h e σ' hq=> ?_))))))
     ·refine aW h (fun hb304 h=> ?_) (fun hb304 h=> ?_)
      ·refine aC (G (G (aW h (fun hb305 h=> ?_) (fun hb305 h=> ?_))))
       ·refine G (aZ ?_)
        obtain rfl:=sI h
        refine aH (aV ?_)
        exact iB (aJ [Y6,(.int .i64)] (by kernel_rfl))
       refine aB (aA (GN a0 [(3,3,oc K7)] (GCe 3 h (fun h=> ?_))))
       obtain rfl:=sI h
       refine cD ?_
       exact gM (gg [] [0,1,2,3,4,5,6,7,8,190,10,11,12])
      refine aB ?_
      obtain rfl:=sI h
      refine cD ?_
      exact gM (gg [] [0,1,2,3,4,5,6,7,8,9,10,11,12])
     rcases r711 with⟨v471,v472,v473⟩ | ⟨r709,r710⟩
     ·obtain⟨rfl,hle⟩:=hq
      refine fC ?_ hle
      refine aA ?_
      obtain⟨c454,c455,h⟩:=g2 h
      refine gS a0 [(3,3,oc c454),(4,4,oc c455)] (aN (aA (Ge ?_)))
      exact eB h (gg [] [0,1,2,3,4,5,6,7,8,9,10,11,12])
     obtain⟨rfl,hr⟩:=hq
     obtain rfl:=sI h
     refine aH (aX (aH (fE (aV ?_))))
     exact iB hr
    refine aI (bT ?_)
    obtain rfl:=sI h
    refine hY (cD ?_)
    exact dH (gg [] [0,1,2,3,4,5,6,7,8,9,10,12])
   rcases r712 with⟨v439,v440,v441⟩ | ⟨r646,r647⟩
   ·obtain⟨rfl,hle⟩:=hq
    refine fC ?_ hle
    refine aK (aA ?_)
    obtain⟨c458,c459,h⟩:=g2 h
    refine z7 a0 [(4,4,oc c458),(9,9,oc c459)] (aN (aA (Ge ?_)))
    exact eB h (gg [] [0,1,2,3,4,5,6,44,84,9,10])
   obtain⟨rfl,hr⟩:=hq
   obtain rfl:=sI h
   refine aX (aH (aX (aH (fE (aV ?_)))))
   exact iB hr
  refine aI (bT ?_)
  obtain rfl:=sI h
  refine hY (cD ?_)
  exact dH (gg [] [0,6,7,8])
 rcases r713 with⟨v328,v329⟩ | ⟨r485,r486⟩
 ·obtain⟨rfl,hle⟩:=hq
  refine fC ?_ hle
  refine aK (aA (G (aZ ?_)))
  obtain rfl:=sI h
  exact aJ [Y6,(.int .i64)] (by kernel_rfl)
 obtain⟨rfl,hr⟩:=hq
 refine aX (aH ?_)
 obtain rfl:=sI h
 exact hr
def fF(a1:List (List Int))(v13:Int):(Int)→Option ((Int)⊕((Unit)⊕(Bool))):=fun v17 =>
 (if(decide (v17<((a1.getD v13.toNat ([]:List Int)).length:Int)))=true then(if 0≤v17∧v17<((a1.getD v13.toNat ([]:List Int)).length:Int)then(((if(decide (((a1.getD v13.toNat ([]:List Int)).getD v17.toNat (0:Int))<(0:Int)))=true then some (true)
 else some ((decide (((a1.getD v13.toNat ([]:List Int)).getD v17.toNat (0:Int))≥(a1.length:Int)))))).bind fun v18=>(if v18=true then some (Sum.inr (Sum.inr false))
 else some (Sum.inl (IntKind.i64.wrap (v17+(1:Int))))))else none)
 else some (Sum.inr (Sum.inl ())))
def fB(a1:List (List Int)):(Int)→Option ((Int)⊕((Unit)⊕(Bool))):=fun v13 =>
 (if(decide (v13<(a1.length:Int)))=true then(if 0≤v13∧v13<(a1.length:Int)then(if 0≤(0:Int)∧(0:Int)<(a1.length:Int)then(if(((a1.getD v13.toNat ([]:List Int)).length:Int) != ((a1.getD ((0:Int).toNat) ([]:List Int)).length:Int))=true then some (Sum.inr (Sum.inr false))
 else((iter (fF a1 v13) (0:Int)).bind fun(r7:((Unit)⊕(Bool)))=>match r7 with
 | .inl _=>some (Sum.inl (IntKind.i64.wrap (v13+(1:Int))))
 | .inr (r6)=>some (Sum.inr (Sum.inr r6))))else none)else none)
 else some (Sum.inr (Sum.inl ())))
def kC(a1:List (List Int))(a2:List Int):Option (Bool) :=
 (((if((a1.length:Int) == (0:Int))=true then some (true)
 else some (((a1.length:Int) != (a2.length:Int))))).bind fun v1=>(if v1=true then some false
 else((iter (fB a1) (0:Int)).bind fun(r8:((Unit)⊕(Bool)))=>match r8 with
 | .inl _=>some true
 | .inr (r5)=>some r5)))
theorem zN(β0 β1:Bool){a1:List (List Int)}{a2:List Int}{res:Bool}(h:kC a1 a2=some res):
  Pure Tryd.prog 61 [.agg [.p β0 (.slice (.slice (.int .i64))) a1,.p β1 (.slice (.int .u32)) a2]] (cE (gG false [⟨.bool,res⟩])):=by
 refine Pure.of_body bS Tryd.func61 (by kernel_rfl) rfl (nl rfl) (fun Bw w0=> ?_) rfl
 unfold kC at h
 refine G (aC (aC (gE h (fun v1=>aO [(1,.adr 0 0 2 0),(19,.bo v1)] (aDn β0 a1 β1 a2) 1) (fun v1 h=> ?_) (fun v1 h=> ?_))))
 ·rcases cF h with⟨hb3,h⟩ | ⟨hb3,h⟩
  ·refine gS ⟨[(4,true),(12,true)],[]⟩ [(5,12,oc hb3)] ?_
   exact eN h (gg [] [0])
  refine gS ⟨[(4,false),(12,false)],[]⟩ [(5,11,an hb3),(12,12,oc hb3)] ?_
  exact eN h (gg [] [0])
 refine aA (aW h (fun hb4 h=> ?_) (fun hb4 h=> ?_))
 ·refine G (aZ (aH ?_))
  obtain rfl:=sI h
  exact aJ [.bool] (by kernel_rfl)
 refine aB (aA (aC (G (aF (qV h (fun v13=>aO [(1,.adr 0 0 2 0),(21,.p β0 (.slice (.slice (.int .i64))) a1),(22,.i64 (a1.length:Int)),(23,.i64 v13)] (aDn β0 a1 β1 a2) 1) (fY (iU Tryd.f61.ntmps 0 (fun _=>aO [] [] 0)) (qA tb Tryd.f61.results.toList (fun r5=>[⟨.bool,r5⟩]))) (gg [] [0]) (fun v13 o h=> ?_) (fun r8 h e σ' hq=> ?_))))))
 ·unfold fB at h
  refine G (aC (aW h (fun hb39 h=> ?_) (fun hb39 h=> ?_)))
  ·refine aB (aA (aC (aF (GC 0 h (fun h=>aC (GC 4 h (fun h=>aW h (fun hb40 h=> ?_) (fun hb40 h=> ?_))))))))
   ·refine G (aZ ?_)
    obtain rfl:=sI h
    refine aH (aX (aH (fE (aV ?_))))
    exact iB (aJ [.bool] (by kernel_rfl))
   refine aB (aA (G (aF (qV h (fun v17=>aO [(1,.adr 0 0 2 0),(21,.p β0 (.slice (.slice (.int .i64))) a1),(22,.i64 (a1.length:Int)),(23,.i64 v13),(35,.p β0 (.slice (.int .i64)) (a1.getD v13.toNat ([]:List Int))),(36,.i64 ((a1.getD v13.toNat ([]:List Int)).length:Int)),(37,.i64 v17)] (aDn β0 a1 β1 a2) 1) (fY (iU Tryd.f61.ntmps 2 (fun _=>aO [(1,.adr 0 0 2 0),(21,.p β0 (.slice (.slice (.int .i64))) a1),(22,.i64 (a1.length:Int)),(23,.i64 v13)] (aDn β0 a1 β1 a2) 1)) (qA tb Tryd.f61.results.toList (fun r6=>[⟨.bool,r6⟩]))) (gg [] [0]) (fun v17 o h=> ?_) (fun r7 h e σ' hq=> ?_)))))
   ·unfold fF at h
    refine G (aC (aW h (fun hb51 h=> ?_) (fun hb51 h=> ?_)))
    ·refine aB (aA (aC (aF (GC 0 h (fun h=>aC (gE h (fun v18=>aO [(1,.adr 0 0 2 0),(21,.p β0 (.slice (.slice (.int .i64))) a1),(22,.i64 (a1.length:Int)),(23,.i64 v13),(35,.p β0 (.slice (.int .i64)) (a1.getD v13.toNat ([]:List Int))),(36,.i64 ((a1.getD v13.toNat ([]:List Int)).length:Int)),(37,.i64 v17),(49,.bo v18)] (aDn β0 a1 β1 a2) 1) (fun v18 h=> ?_) (fun v18 h=> ?_)))))))
     ·rcases cF h with⟨hb54,h⟩ | ⟨hb54,h⟩
      ·refine gS ⟨[(2,true),(8,true)],[]⟩ [(3,8,oc hb54)] ?_
       exact eN h (gg [] [0])
      refine gS ⟨[(2,false),(8,false)],[]⟩ [(3,7,an hb54),(8,8,oc hb54)] ?_
      exact eN h (gg [] [0])
     refine aA (aW h (fun hb55 h=> ?_) (fun hb55 h=> ?_))
     ·refine G (aZ ?_)
      obtain rfl:=sI h
      refine aX (aH (fE (aV ?_)))
      exact iB (aJ [.bool] (by kernel_rfl))
     refine aB (aN (aA (Ge ?_)))
     exact eB h (gg [] [0])
    refine aI (bT ?_)
    obtain rfl:=sI h
    refine hY (cD ?_)
    exact dH (gg [] [0])
   rcases r7 with _ | r6
   ·obtain⟨rfl,hle⟩:=hq
    refine fC ?_ hle
    refine aK (aN (aA (Ge ?_)))
    exact eB h (gg [] [0])
   obtain⟨rfl,hr⟩:=hq
   obtain rfl:=sI h
   refine aX (aX (aH (fE (aV ?_))))
   exact iB hr
  refine aI (bT ?_)
  obtain rfl:=sI h
  refine hY (cD ?_)
  exact dH (gg [] [])
 rcases r8 with _ | r5
 ·obtain⟨rfl,hle⟩:=hq
  refine fC ?_ hle
  refine aK (aA (G (aZ ?_)))
  obtain rfl:=sI h
  exact aJ [.bool] (by kernel_rfl)
 obtain⟨rfl,hr⟩:=hq
 refine aX (aH ?_)
 obtain rfl:=sI h
 exact hr
def dP(s1:Int)(x1:List (List Int))(x2 qW:List Int):Option (List Int) :=
 (if 0≤s1∧s1<(x2.length:Int)then(if(qW.length+([(IntKind.i64.wrap (x2.getD s1.toNat (0:Int)))]:List Int).length)*8≤140737488355328∧qW.length+([(IntKind.i64.wrap (x2.getD s1.toNat (0:Int)))]:List Int).length≤9223372036854775807 then some (qW++([(IntKind.i64.wrap (x2.getD s1.toNat (0:Int)))]:List Int))else none)else none)
theorem rT(β1 β2:Bool){s1:Int}{x1:List (List Int)}{x2:List Int}{qW:List Int}{res:List Int}(h:dP s1 x1 x2 qW=some res):
  Owns Tryd.prog 63 [.i64 s1,.sl 0,.fad true [.p β1 (.slice (.slice (.int .i64))) x1,.p β2 (.slice (.int .u32)) x2] 0] [(0,.arr 3 (.int .i64) qW)] (.sl 1) [(1,.arr 3 (.int .i64) res)]:=by
 refine Owns.of_body bS Tryd.func63 (by kernel_rfl) rfl (nl rfl) (fun Bw w0=> ?_)
 unfold dP at h
 refine G ?_
 obtain⟨c7,c8,h⟩:=g2 h
 refine GN a0 [(4,4,oc c7),(8,8,oc c8)] (aZ ?_)
 obtain rfl:=sI h
 exact aP [none] [] [0,73] [(5,.sl 1)] [(1,.arr 3 (.int .i64) (qW++([(IntKind.i64.wrap (x2.getD s1.toNat (0:Int)))]:List Int)))] 2 1 (by kernel_rfl) (by kernel_rfl) (by kernel_rfl)
def eI(r8:List Int):((List Int)×Int)→Option (((List Int)×Int)⊕(List Int)):=fun(v26,v27) =>
 (if(decide (v27<(r8.length:Int)))=true then(if 0≤v27∧v27<(r8.length:Int)then(if v27.toNat<r8.length then(if 0≤(8:Int)then(if 0≤(16:Int)then(if 0≤(24:Int)then(if(v26.length+([(IntKind.u8.wrap (r8.getD v27.toNat (0:Int))),(IntKind.u8.wrap (Int.fdiv (r8.getD v27.toNat (0:Int)) (2 ^ (min (8:Int).toNat IntKind.i64.bits)))),(IntKind.u8.wrap (Int.fdiv (r8.getD v27.toNat (0:Int)) (2 ^ (min (16:Int).toNat IntKind.i64.bits)))),(IntKind.u8.wrap (Int.fdiv (r8.getD v27.toNat (0:Int)) (2 ^ (min (24:Int).toNat IntKind.i64.bits))))]:List Int).length)*1≤140737488355328∧v26.length+([(IntKind.u8.wrap (r8.getD v27.toNat (0:Int))),(IntKind.u8.wrap (Int.fdiv (r8.getD v27.toNat (0:Int)) (2 ^ (min (8:Int).toNat IntKind.i64.bits)))),(IntKind.u8.wrap (Int.fdiv (r8.getD v27.toNat (0:Int)) (2 ^ (min (16:Int).toNat IntKind.i64.bits)))),(IntKind.u8.wrap (Int.fdiv (r8.getD v27.toNat (0:Int)) (2 ^ (min (24:Int).toNat IntKind.i64.bits))))]:List Int).length≤9223372036854775807 then some (Sum.inl ((v26++([(IntKind.u8.wrap (r8.getD v27.toNat (0:Int))),(IntKind.u8.wrap (Int.fdiv (r8.getD v27.toNat (0:Int)) (2 ^ (min (8:Int).toNat IntKind.i64.bits)))),(IntKind.u8.wrap (Int.fdiv (r8.getD v27.toNat (0:Int)) (2 ^ (min (16:Int).toNat IntKind.i64.bits)))),(IntKind.u8.wrap (Int.fdiv (r8.getD v27.toNat (0:Int)) (2 ^ (min (24:Int).toNat IntKind.i64.bits))))]:List Int)),(IntKind.i64.wrap (v27+(1:Int)))))else none)else none)else none)else none)else none)else none)
 else some (Sum.inr v26))
def lU(d1:Int)(i1:List (List Int))(i2:List Int):((List ((List UInt8)×Int))×(List Int)×(List Int)×Int)→Option (((List ((List UInt8)×Int))×(List Int)×(List Int)×Int)⊕(List Int)):=fun(v19,v20,v21,v22) =>
 (if(decide (v22<d1))=true then(if 0≤(0:Int)∧(0:Int)≤(v21.length:Int)then((dP v22 i1 i2 (v21.take (0:Int).toNat)).bind fun r8 =>
 ((iter (eI r8) (([]:List Int),(0:Int))).bind fun v28=>(((if(!((bF .str v19 (bD v28)).isSome))=true then some (((d9 .str v19 (bD v28) (v19.length:Int)),(v19.length:Int)))
 else some ((v19,((bF .str v19 (bD v28)).getD (0:Int)))))).bind fun(v29,v30)=>(if 0≤v22∧v22<(v20.length:Int)then(if v22.toNat<v20.length then some (Sum.inl (v29,(v20.set v22.toNat v30),r8,(IntKind.i64.wrap (v22+(1:Int)))))else none)else none))))else none)
 else some (Sum.inr v20))
def gR(d1:Int)(i1:List (List Int))(i2:List Int):Option (List Int) :=
 (if 0≤d1∧d1≤d1∧(8:Int)*d1≤281474976710656∧d1≤9223372036854775807 then((iter (lU d1 i1 i2) (([]:List ((List UInt8)×Int)),(List.replicate d1.toNat (0:Int)),([]:List Int),(0:Int))).bind fun v23=>some v23)else none)
theorem xF(β1 β2:Bool){d1:Int}{i1:List (List Int)}{i2:List Int}{res:List Int}(h:gR d1 i1 i2=some res):
  Pure Tryd.prog 62 [.i64 d1,.fn 63 [.fad true [.p β1 (.slice (.slice (.int .i64))) i1,.p β2 (.slice (.int .u32)) i2] 0]] (cE (gG false [⟨(.slice (.int .i64)),res⟩])):=by
 refine Pure.of_body bS Tryd.func62 (by kernel_rfl) rfl (nl rfl) (fun Bw w0=> ?_) rfl
 unfold gR at h
 refine G (G (GC 1 h (fun h=>G (aC (G (aF (jO h (fun(v19,v20,v21,v22)=>aO [(1,.fn 63 [.fad true [.p β1 (.slice (.slice (.int .i64))) i1,.p β2 (.slice (.int .u32)) i2] 0]),(5,.mp 0),(6,.sl 1),(7,.sl 2),(17,.i64 d1),(18,.i64 v22)] (aE4 v19 v20 v21) 3) 0 (fun v23=>aO [(6,.sl 0)] [(0,.arr 3 (.int .i64) v23)] 1) (gg [.nilS 7 72 3 (.int .i64)] [8,32,72]) (fun y o h=> ?_) (fun v23 h=> ?_))))))))
 ·obtain⟨v19,v20,v21,v22⟩:=y
  unfold lU at h
  refine G (aC (aW h (fun hb13 h=> ?_) (fun hb13 h=> ?_)))
  ·refine aB (aA (aC (aF (G ?_))))
   obtain⟨c88,h⟩:=bC h
   obtain⟨r8,q6,h⟩:=aD h
   have u_1:=(rT β1 β2 q6)
   refine GN ⟨[],[(4,(oO u_1 [51]))]⟩ [(3,3,oc c88),(4,4,oc u_1)] (G (aC (G (aF (jO h (fun(v26,v27)=>aO [(1,.fn 63 [.fad true [.p β1 (.slice (.slice (.int .i64))) i1,.p β2 (.slice (.int .u32)) i2] 0]),(5,.mp 0),(6,.sl 1),(7,.sl 2),(8,.i64 v22),(9,.sl 3),(17,.i64 d1),(18,.i64 v22),(26,.sl 2),(27,.i64 (r8.length:Int)),(28,.i64 v27)] (aEX v19 v20 r8 v26) 4) 2 (fun v28=>aO [(1,.fn 63 [.fad true [.p β1 (.slice (.slice (.int .i64))) i1,.p β2 (.slice (.int .u32)) i2] 0]),(5,.mp 0),(6,.sl 1),(7,.sl 2),(8,.i64 v22),(9,.sl 3),(17,.i64 d1),(18,.i64 v22)] (aEX v19 v20 r8 v28) 4) (gg [.nilS 9 107 5 (.int .u8)] [0,1,59,107]) (fun y o h=> ?_) (fun v28 h=> ?_))))))
   ·obtain⟨v26,v27⟩:=y
    unfold eI at h
    refine G (aC (aW h (fun hb16 h=> ?_) (fun hb16 h=> ?_)))
    ·refine aB (aA (aC (aF ?_)))
     obtain⟨c115,c116,h⟩:=g2 h
     refine GN a0 [(0,0,oc c115),(1,1,oc c116)] ?_
     obtain⟨c121,c122,c123,c124,h⟩:=g4 h
     refine gS a0 [(4,4,oc c121),(7,7,oc c122),(10,10,oc c123),(13,13,oc c124)] (aN (aA (Ge ?_)))
     exact eB h (gg [] [0,1,2,140])
    refine aI (bT ?_)
    exact eX h (gg [] [0,1,2,3])
   refine aK (aA (G (aC (G (gE h (fun(v29,v30)=>aO [(1,.fn 63 [.fad true [.p β1 (.slice (.slice (.int .i64))) i1,.p β2 (.slice (.int .u32)) i2] 0]),(5,.mp 0),(6,.sl 1),(7,.sl 2),(8,.i64 v22),(12,.i64 v30),(17,.i64 d1),(18,.i64 v22)] (aE4 v29 v20 r8) 3) (fun r9 h=> ?_) (fun r9 h=> ?_))))))
   ·refine aW h (fun hb18 h=> ?_) (fun hb18 h=> ?_)
    ·refine G (Ge ?_)
     exact eN h (gg [] [0,1,2])
    refine aB ?_
    exact eN h (gg [] [0,1,2])
   obtain⟨v29,v30⟩:=r9
   refine aA ?_
   obtain⟨c127,c128,h⟩:=g2 h
   refine gS a0 [(3,3,oc c127),(4,4,oc c128)] (aN (aA (Ge ?_)))
   exact eB h (gg [] [0,1,2])
  refine aI (bT ?_)
  exact eX h (gg [] [1])
 refine aK (aA (G (aZ ?_)))
 obtain rfl:=sI h
 exact aJ [(.slice (.int .i64))] (by kernel_rfl)
def dC(s1:Int)(x1:List Int)(x2:List (List Int)):((List Int)×Int)→Option (((List Int)×Int)⊕(List Int)):=fun(key6,v4) =>
 (if(decide (v4<((x2.getD s1.toNat ([]:List Int)).length:Int)))=true then(if 0≤v4∧v4<((x2.getD s1.toNat ([]:List Int)).length:Int)then(if 0≤((x2.getD s1.toNat ([]:List Int)).getD v4.toNat (0:Int))∧((x2.getD s1.toNat ([]:List Int)).getD v4.toNat (0:Int))<(x1.length:Int)then(if(key6.length+([(x1.getD (((x2.getD s1.toNat ([]:List Int)).getD v4.toNat (0:Int)).toNat) (0:Int))]:List Int).length)*8≤140737488355328∧key6.length+([(x1.getD (((x2.getD s1.toNat ([]:List Int)).getD v4.toNat (0:Int)).toNat) (0:Int))]:List Int).length≤9223372036854775807 then some (Sum.inl ((key6++([(x1.getD (((x2.getD s1.toNat ([]:List Int)).getD v4.toNat (0:Int)).toNat) (0:Int))]:List Int)),(IntKind.i64.wrap (v4+(1:Int)))))else none)else none)else none)
 else some (Sum.inr key6))
def dR(s1:Int)(x1:List Int)(x2:List (List Int))(x3 qW:List Int):Option (List Int) :=
 (if 0≤s1∧s1<(x1.length:Int)then(if(qW.length+([(x1.getD s1.toNat (0:Int))]:List Int).length)*8≤140737488355328∧qW.length+([(x1.getD s1.toNat (0:Int))]:List Int).length≤9223372036854775807 then(if 0≤s1∧s1<(x2.length:Int)then((iter (dC s1 x1 x2) ((qW++([(x1.getD s1.toNat (0:Int))]:List Int)),(0:Int))).bind fun key7=>some key7)else none)else none)else none)
theorem rU(β1 β2 β3:Bool){s1:Int}{x1:List Int}{x2:List (List Int)}{x3:List Int}{qW:List Int}{res:List Int}(h:dR s1 x1 x2 x3 qW=some res):
  Owns Tryd.prog 64 [.i64 s1,.sl 0,.fad true [.p β1 (.slice (.int .i64)) x1] 0,.fad true [.p β2 (.slice (.slice (.int .i64))) x2,.p β3 (.slice (.int .u32)) x3] 0] [(0,.arr 3 (.int .i64) qW)] (.sl 1) [(1,.arr 3 (.int .i64) res)]:=by
 refine Owns.of_body bS Tryd.func64 (by kernel_rfl) rfl (nl rfl) (fun Bw w0=> ?_)
 unfold dR at h
 refine G ?_
 obtain⟨c27,c28,h⟩:=g2 h
 refine GN a0 [(3,3,oc c27),(6,6,oc c28)] (aC (GC 3 h (fun h=>aF (jO h (fun(key6,v4)=>aO [(1,.sl 1),(2,.fad true [.p β1 (.slice (.int .i64)) x1] 0),(20,.p β2 (.slice (.int .i64)) (x2.getD s1.toNat ([]:List Int))),(21,.i64 ((x2.getD s1.toNat ([]:List Int)).length:Int)),(22,.i64 v4)] [(1,.arr 3 (.int .i64) key6)] 2 1) 0 (fun key7=>aO [(1,.sl 1)] [(1,.arr 3 (.int .i64) key7)] 2 1) (gg [] [0,57]) (fun y o h=> ?_) (fun key7 h=> ?_)))))
 ·obtain⟨key6,v4⟩:=y
  unfold dC at h
  refine G (aC (aW h (fun hb6 h=> ?_) (fun hb6 h=> ?_)))
  ·refine aB (aA (aC (aF (GC 0 h (fun h=> ?_)))))
   obtain⟨c47,c48,h⟩:=g2 h
   refine gS a0 [(3,3,oc c47),(6,6,oc c48)] (aN (aA (Ge ?_)))
   exact eB h (gg [] [0,82])
  refine aI (bT ?_)
  exact eX h (gg [] [0,1])
 refine aK (aA (G (aZ ?_)))
 obtain rfl:=sI h
 exact aP [none] [] [0,1] [(6,.sl 1)] [(1,.arr 3 (.int .i64) key7)] 2 1 (by kernel_rfl) (by kernel_rfl) (by kernel_rfl)
def mN(r8:List Int):((List Int)×Int)→Option (((List Int)×Int)⊕(List Int)):=fun(v26,v27) =>
 (if(decide (v27<(r8.length:Int)))=true then(if 0≤v27∧v27<(r8.length:Int)then(if v27.toNat<r8.length then(if 0≤(8:Int)then(if 0≤(16:Int)then(if 0≤(24:Int)then(if(v26.length+([(IntKind.u8.wrap (r8.getD v27.toNat (0:Int))),(IntKind.u8.wrap (Int.fdiv (r8.getD v27.toNat (0:Int)) (2 ^ (min (8:Int).toNat IntKind.i64.bits)))),(IntKind.u8.wrap (Int.fdiv (r8.getD v27.toNat (0:Int)) (2 ^ (min (16:Int).toNat IntKind.i64.bits)))),(IntKind.u8.wrap (Int.fdiv (r8.getD v27.toNat (0:Int)) (2 ^ (min (24:Int).toNat IntKind.i64.bits))))]:List Int).length)*1≤140737488355328∧v26.length+([(IntKind.u8.wrap (r8.getD v27.toNat (0:Int))),(IntKind.u8.wrap (Int.fdiv (r8.getD v27.toNat (0:Int)) (2 ^ (min (8:Int).toNat IntKind.i64.bits)))),(IntKind.u8.wrap (Int.fdiv (r8.getD v27.toNat (0:Int)) (2 ^ (min (16:Int).toNat IntKind.i64.bits)))),(IntKind.u8.wrap (Int.fdiv (r8.getD v27.toNat (0:Int)) (2 ^ (min (24:Int).toNat IntKind.i64.bits))))]:List Int).length≤9223372036854775807 then some (Sum.inl ((v26++([(IntKind.u8.wrap (r8.getD v27.toNat (0:Int))),(IntKind.u8.wrap (Int.fdiv (r8.getD v27.toNat (0:Int)) (2 ^ (min (8:Int).toNat IntKind.i64.bits)))),(IntKind.u8.wrap (Int.fdiv (r8.getD v27.toNat (0:Int)) (2 ^ (min (16:Int).toNat IntKind.i64.bits)))),(IntKind.u8.wrap (Int.fdiv (r8.getD v27.toNat (0:Int)) (2 ^ (min (24:Int).toNat IntKind.i64.bits))))]:List Int)),(IntKind.i64.wrap (v27+(1:Int)))))else none)else none)else none)else none)else none)else none)
 else some (Sum.inr v26))
def jL(d1:Int)(i1:List Int)(i2:List (List Int))(i3:List Int):((List ((List UInt8)×Int))×(List Int)×(List Int)×Int)→Option (((List ((List UInt8)×Int))×(List Int)×(List Int)×Int)⊕(List Int)):=fun(v19,v20,v21,v22) =>
 (if(decide (v22<d1))=true then(if 0≤(0:Int)∧(0:Int)≤(v21.length:Int)then((dR v22 i1 i2 i3 (v21.take (0:Int).toNat)).bind fun r8 =>
 ((iter (mN r8) (([]:List Int),(0:Int))).bind fun v28=>(((if(!((bF .str v19 (bD v28)).isSome))=true then some (((d9 .str v19 (bD v28) (v19.length:Int)),(v19.length:Int)))
 else some ((v19,((bF .str v19 (bD v28)).getD (0:Int)))))).bind fun(v29,v30)=>(if 0≤v22∧v22<(v20.length:Int)then(if v22.toNat<v20.length then some (Sum.inl (v29,(v20.set v22.toNat v30),r8,(IntKind.i64.wrap (v22+(1:Int)))))else none)else none))))else none)
 else some (Sum.inr v20))
def gK(d1:Int)(i1:List Int)(i2:List (List Int))(i3:List Int):Option (List Int) :=
 (if 0≤d1∧d1≤d1∧(8:Int)*d1≤281474976710656∧d1≤9223372036854775807 then((iter (jL d1 i1 i2 i3) (([]:List ((List UInt8)×Int)),(List.replicate d1.toNat (0:Int)),([]:List Int),(0:Int))).bind fun v23=>some v23)else none)
theorem tS(β1 β2 β3:Bool){d1:Int}{i1:List Int}{i2:List (List Int)}{i3:List Int}{res:List Int}(h:gK d1 i1 i2 i3=some res):
  Pure Tryd.prog 62 [.i64 d1,.fn 64 [.fad true [.p β1 (.slice (.int .i64)) i1] 0,.fad true [.p β2 (.slice (.slice (.int .i64))) i2,.p β3 (.slice (.int .u32)) i3] 0]] (cE (gG false [⟨(.slice (.int .i64)),res⟩])):=by
 refine Pure.of_body bS Tryd.func62 (by kernel_rfl) rfl (nl rfl) (fun Bw w0=> ?_) rfl
 unfold gK at h
 refine G (G (GC 1 h (fun h=>G (aC (G (aF (jO h (fun(v19,v20,v21,v22)=>aO [(1,.fn 64 [.fad true [.p β1 (.slice (.int .i64)) i1] 0,.fad true [.p β2 (.slice (.slice (.int .i64))) i2,.p β3 (.slice (.int .u32)) i3] 0]),(5,.mp 0),(6,.sl 1),(7,.sl 2),(17,.i64 d1),(18,.i64 v22)] (aE4 v19 v20 v21) 3) 0 (fun v23=>aO [(6,.sl 0)] [(0,.arr 3 (.int .i64) v23)] 1) (gg [.nilS 7 72 3 (.int .i64)] [8,32,72]) (fun y o h=> ?_) (fun v23 h=> ?_))))))))
 ·obtain⟨v19,v20,v21,v22⟩:=y
  unfold jL at h
  refine G (aC (aW h (fun hb13 h=> ?_) (fun hb13 h=> ?_)))
  ·refine aB (aA (aC (aF (G ?_))))
   obtain⟨c88,h⟩:=bC h
   obtain⟨r8,q6,h⟩:=aD h
   have u_1:=(rU β1 β2 β3 q6)
   refine GN ⟨[],[(4,(oO u_1 [51]))]⟩ [(3,3,oc c88),(4,4,oc u_1)] (G (aC (G (aF (jO h (fun(v26,v27)=>aO [(1,.fn 64 [.fad true [.p β1 (.slice (.int .i64)) i1] 0,.fad true [.p β2 (.slice (.slice (.int .i64))) i2,.p β3 (.slice (.int .u32)) i3] 0]),(5,.mp 0),(6,.sl 1),(7,.sl 2),(8,.i64 v22),(9,.sl 3),(17,.i64 d1),(18,.i64 v22),(26,.sl 2),(27,.i64 (r8.length:Int)),(28,.i64 v27)] (aEX v19 v20 r8 v26) 4) 2 (fun v28=>aO [(1,.fn 64 [.fad true [.p β1 (.slice (.int .i64)) i1] 0,.fad true [.p β2 (.slice (.slice (.int .i64))) i2,.p β3 (.slice (.int .u32)) i3] 0]),(5,.mp 0),(6,.sl 1),(7,.sl 2),(8,.i64 v22),(9,.sl 3),(17,.i64 d1),(18,.i64 v22)] (aEX v19 v20 r8 v28) 4) (gg [.nilS 9 107 5 (.int .u8)] [0,1,59,107]) (fun y o h=> ?_) (fun v28 h=> ?_))))))
   ·obtain⟨v26,v27⟩:=y
    unfold mN at h
    refine G (aC (aW h (fun hb16 h=> ?_) (fun hb16 h=> ?_)))
    ·refine aB (aA (aC (aF ?_)))
     obtain⟨c115,c116,h⟩:=g2 h
     refine GN a0 [(0,0,oc c115),(1,1,oc c116)] ?_
     obtain⟨c121,c122,c123,c124,h⟩:=g4 h
     refine gS a0 [(4,4,oc c121),(7,7,oc c122),(10,10,oc c123),(13,13,oc c124)] (aN (aA (Ge ?_)))
     exact eB h (gg [] [0,1,2,140])
    refine aI (bT ?_)
    exact eX h (gg [] [0,1,2,3])
   refine aK (aA (G (aC (G (gE h (fun(v29,v30)=>aO [(1,.fn 64 [.fad true [.p β1 (.slice (.int .i64)) i1] 0,.fad true [.p β2 (.slice (.slice (.int .i64))) i2,.p β3 (.slice (.int .u32)) i3] 0]),(5,.mp 0),(6,.sl 1),(7,.sl 2),(8,.i64 v22),(12,.i64 v30),(17,.i64 d1),(18,.i64 v22)] (aE4 v29 v20 r8) 3) (fun r9 h=> ?_) (fun r9 h=> ?_))))))
   ·refine aW h (fun hb18 h=> ?_) (fun hb18 h=> ?_)
    ·refine G (Ge ?_)
     exact eN h (gg [] [0,1,2])
    refine aB ?_
    exact eN h (gg [] [0,1,2])
   obtain⟨v29,v30⟩:=r9
   refine aA ?_
   obtain⟨c127,c128,h⟩:=g2 h
   refine gS a0 [(3,3,oc c127),(4,4,oc c128)] (aN (aA (Ge ?_)))
   exact eB h (gg [] [0,1,2])
  refine aI (bT ?_)
  exact eX h (gg [] [1])
 refine aK (aA (G (aZ ?_)))
 obtain rfl:=sI h
 exact aJ [(.slice (.int .i64))] (by kernel_rfl)
def fZ(l1:List Int):(Int×Int)→Option ((Int×Int)⊕(Int)):=fun(n2,v2) =>
 (if(decide (v2<(l1.length:Int)))=true then(if 0≤v2∧v2<(l1.length:Int)then some (Sum.inl ((max n2 (l1.getD v2.toNat (0:Int))),(IntKind.i64.wrap (v2+(1:Int)))))else none)
 else some (Sum.inr n2))
def fK(l1:List Int):Option (Int) :=
 ((iter (fZ l1) ((0:Int),(0:Int))).bind fun n3=>some n3)
theorem mY(β0:Bool){l1:List Int}{res:Int}(h:fK l1=some res):
  Pure Tryd.prog 65 [.p β0 (.slice (.int .i64)) l1] (cE (gG false [⟨(.int .i64),res⟩])):=by
 refine Pure.of_body bS Tryd.func65 (by kernel_rfl) rfl (nl rfl) (fun Bw w0=> ?_) rfl
 unfold fK at h
 refine G (G (aC (G (aF (jO h (fun(n2,v2)=>aO [(3,.i64 n2),(6,.p β0 (.slice (.int .i64)) l1),(7,.i64 (l1.length:Int)),(8,.i64 v2)] [] 0) 0 (fun n3=>aO [(3,.i64 n3)] [] 0) (gg [] []) (fun y o h=> ?_) (fun n3 h=> ?_))))))
 ·obtain⟨n2,v2⟩:=y
  unfold fZ at h
  refine G (aC (aW h (fun hb3 h=> ?_) (fun hb3 h=> ?_)))
  ·refine aB (aA (aC (aF (GC 0 h (fun h=>Ge (aN (aA (Ge ?_))))))))
   exact eB h (gg [] [])
  refine aI (bT ?_)
  exact eX h (gg [] [])
 refine aK (aA (G (aZ ?_)))
 obtain rfl:=sI h
 exact aJ [(.int .i64)] (by kernel_rfl)
def eM(r2:Int):((List Int)×Int)→Option (((List Int)×Int)⊕(List Int)):=fun(v3,v4) =>
 (if(decide (v4<((List.replicate (IntKind.i64.wrap (r2+(1:Int))).toNat (0:Int)).length:Int)))=true then(if 0≤v4∧v4<(v3.length:Int)then(if v4.toNat<v3.length then some (Sum.inl ((v3.set v4.toNat (-1:Int)),(IntKind.i64.wrap (v4+(1:Int)))))else none)else none)
 else some (Sum.inr v3))
def eP(d1:List (List Int))(i1 v48:List Int)(v49:Int):((List Int)×(List Int)×(List Int)×Int)→Option (((List Int)×(List Int)×(List Int)×Int)⊕((List Int)×(List Int)×List Int)):=fun(v60,v61,v62,v63) =>
 (if(decide (v63<((d1.getD ((v48.getD v49.toNat (0:Int)).toNat) ([]:List Int)).length:Int)))=true then(if 0≤v63∧v63<((d1.getD ((v48.getD v49.toNat (0:Int)).toNat) ([]:List Int)).length:Int)then(if 0≤((d1.getD ((v48.getD v49.toNat (0:Int)).toNat) ([]:List Int)).getD v63.toNat (0:Int))∧((d1.getD ((v48.getD v49.toNat (0:Int)).toNat) ([]:List Int)).getD v63.toNat (0:Int))<(i1.length:Int)then(if 0≤(i1.getD (((d1.getD ((v48.getD v49.toNat (0:Int)).toNat) ([]:List Int)).getD v63.toNat (0:Int)).toNat) (0:Int))∧(i1.getD (((d1.getD ((v48.getD v49.toNat (0:Int)).toNat) ([]:List Int)).getD v63.toNat (0:Int)).toNat) (0:Int))<(v60.length:Int)then(if(i1.getD (((d1.getD ((v48.getD v49.toNat (0:Int)).toNat) ([]:List Int)).getD v63.toNat (0:Int)).toNat) (0:Int)).toNat<v60.length then(((if(decide ((v60.getD ((i1.getD (((d1.getD ((v48.getD v49.toNat (0:Int)).toNat) ([]:List Int)).getD v63.toNat (0:Int)).toNat) (0:Int)).toNat) (0:Int))<(0:Int)))=true then(if 0≤((d1.getD ((v48.getD v49.toNat (0:Int)).toNat) ([]:List Int)).getD v63.toNat (0:Int))∧((d1.getD ((v48.getD v49.toNat (0:Int)).toNat) ([]:List Int)).getD v63.toNat (0:Int))<(i1.length:Int)then(if 0≤(i1.getD (((d1.getD ((v48.getD v49.toNat (0:Int)).toNat) ([]:List Int)).getD v63.toNat (0:Int)).toNat) (0:Int))∧(i1.getD (((d1.getD ((v48.getD v49.toNat (0:Int)).toNat) ([]:List Int)).getD v63.toNat (0:Int)).toNat) (0:Int))<(v60.length:Int)then(if(i1.getD (((d1.getD ((v48.getD v49.toNat (0:Int)).toNat) ([]:List Int)).getD v63.toNat (0:Int)).toNat) (0:Int)).toNat<v60.length then(if(v61.length+([((d1.getD ((v48.getD v49.toNat (0:Int)).toNat) ([]:List Int)).getD v63.toNat (0:Int))]:List Int).length)*8≤140737488355328∧v61.length+([((d1.getD ((v48.getD v49.toNat (0:Int)).toNat) ([]:List Int)).getD v63.toNat (0:Int))]:List Int).length≤9223372036854775807 then some (((v60.set ((i1.getD (((d1.getD ((v48.getD v49.toNat (0:Int)).toNat) ([]:List Int)).getD v63.toNat (0:Int)).toNat) (0:Int)).toNat) (v61.length:Int)),(v61++([((d1.getD ((v48.getD v49.toNat (0:Int)).toNat) ([]:List Int)).getD v63.toNat (0:Int))]:List Int))))else none)else none)else none)else none)
 else some ((v60,v61)))).bind fun(v67,v68)=>(if 0≤((d1.getD ((v48.getD v49.toNat (0:Int)).toNat) ([]:List Int)).getD v63.toNat (0:Int))∧((d1.getD ((v48.getD v49.toNat (0:Int)).toNat) ([]:List Int)).getD v63.toNat (0:Int))<(i1.length:Int)then(if 0≤(i1.getD (((d1.getD ((v48.getD v49.toNat (0:Int)).toNat) ([]:List Int)).getD v63.toNat (0:Int)).toNat) (0:Int))∧(i1.getD (((d1.getD ((v48.getD v49.toNat (0:Int)).toNat) ([]:List Int)).getD v63.toNat (0:Int)).toNat) (0:Int))<(v67.length:Int)then(if(i1.getD (((d1.getD ((v48.getD v49.toNat (0:Int)).toNat) ([]:List Int)).getD v63.toNat (0:Int)).toNat) (0:Int)).toNat<v67.length then(if(v62.length+([(v67.getD ((i1.getD (((d1.getD ((v48.getD v49.toNat (0:Int)).toNat) ([]:List Int)).getD v63.toNat (0:Int)).toNat) (0:Int)).toNat) (0:Int))]:List Int).length)*8≤140737488355328∧v62.length+([(v67.getD ((i1.getD (((d1.getD ((v48.getD v49.toNat (0:Int)).toNat) ([]:List Int)).getD v63.toNat (0:Int)).toNat) (0:Int)).toNat) (0:Int))]:List Int).length≤9223372036854775807 then some (Sum.inl (v67,v68,(v62++([(v67.getD ((i1.getD (((d1.getD ((v48.getD v49.toNat (0:Int)).toNat) ([]:List Int)).getD v63.toNat (0:Int)).toNat) (0:Int)).toNat) (0:Int))]:List Int)),(IntKind.i64.wrap (v63+(1:Int)))))else none)else none)else none)else none))else none)else none)else none)else none)
 else some (Sum.inr (v60,v61,v62)))
def fX(d1:List (List Int))(d2 i1:List Int):((List (List Int))×(List Int)×(List Int)×(List Int)×Int)→Option (((List (List Int))×(List Int)×(List Int)×(List Int)×Int)⊕((List (List Int))×List Int)):=fun(v45,v46,v47,v48,v49) =>
 (if(decide (v49<(v48.length:Int)))=true then(if 0≤v49∧v49<(v48.length:Int)then(if v49.toNat<v48.length then(if 0≤(v48.getD v49.toNat (0:Int))∧(v48.getD v49.toNat (0:Int))<(d1.length:Int)then((iter (eP d1 i1 v48 v49) (v47,v48,([]:List Int),(0:Int))).bind fun(v64,v65,v66)=>(if(v45.length+([v66]:List (List Int)).length)*24≤140737488355328∧v45.length+([v66]:List (List Int)).length≤9223372036854775807 then(if 0≤v49∧v49<(v65.length:Int)then(if v49.toNat<v65.length then(if 0≤(v65.getD v49.toNat (0:Int))∧(v65.getD v49.toNat (0:Int))<(d2.length:Int)then(if(v46.length+([(d2.getD ((v65.getD v49.toNat (0:Int)).toNat) (0:Int))]:List Int).length)*4≤140737488355328∧v46.length+([(d2.getD ((v65.getD v49.toNat (0:Int)).toNat) (0:Int))]:List Int).length≤9223372036854775807 then some (Sum.inl ((v45++([v66]:List (List Int))),(v46++([(d2.getD ((v65.getD v49.toNat (0:Int)).toNat) (0:Int))]:List Int)),v64,v65,(IntKind.i64.wrap (v49+(1:Int)))))else none)else none)else none)else none)else none))else none)else none)else none)
 else some (Sum.inr (v45,v46)))
def hU(d1:List (List Int))(d2 i1:List Int):Option ((List (List Int))×List Int) :=
 ((fK i1).bind fun r2 =>
 (if 0≤(IntKind.i64.wrap (r2+(1:Int)))∧(IntKind.i64.wrap (r2+(1:Int)))≤(IntKind.i64.wrap (r2+(1:Int)))∧(8:Int)*(IntKind.i64.wrap (r2+(1:Int)))≤281474976710656∧(IntKind.i64.wrap (r2+(1:Int)))≤9223372036854775807 then((iter (eM r2) ((List.replicate (IntKind.i64.wrap (r2+(1:Int))).toNat (0:Int)),(0:Int))).bind fun v5=>(if 0≤(0:Int)∧(0:Int)<(i1.length:Int)then(if 0≤(i1.getD ((0:Int).toNat) (0:Int))∧(i1.getD ((0:Int).toNat) (0:Int))<(v5.length:Int)then(if(i1.getD ((0:Int).toNat) (0:Int)).toNat<v5.length then((iter (fX d1 d2 i1) (([]:List (List Int)),([]:List Int),(v5.set ((i1.getD ((0:Int).toNat) (0:Int)).toNat) (0:Int)),([(0:Int)]:List Int),(0:Int))).bind fun(v50,v51)=>some (v50,v51))else none)else none)else none))else none))
theorem wN(β0 β1 β2:Bool){d1:List (List Int)}{d2:List Int}{i1:List Int}{res:(List (List Int))×List Int}(h:hU d1 d2 i1=some res):
  Pure Tryd.prog 66 [.agg [.p β0 (.slice (.slice (.int .i64))) d1,.p β1 (.slice (.int .u32)) d2],.p β2 (.slice (.int .i64)) i1] (cE (gG false [⟨Y6,res⟩])):=by
 refine Pure.of_body bS Tryd.func66 (by kernel_rfl) rfl (nl rfl) (fun Bw w0=> ?_) rfl
 unfold hU at h
 refine G (G ?_)
 obtain⟨r2,q2,h⟩:=aD h
 obtain⟨c2,h⟩:=bC h
 have u_1:=(mY β2 q2)
 refine GN ⟨[],[(1,(oP u_1))]⟩ [(1,1,oc u_1),(3,3,oc c2)] (aC (G (aF (jO h (fun(v3,v4)=>aO [(1,.p β2 (.slice (.int .i64)) i1),(2,.adr 0 0 2 0),(4,.adr 1 0 2 0),(5,.adr 2 0 2 0),(6,.sl 3),(18,.i64 ((List.replicate (IntKind.i64.wrap (r2+(1:Int))).toNat (0:Int)).length:Int)),(19,.i64 v4)] (aHe β0 d1 β1 d2 v3) 4) 0 (fun v5=>aO [(1,.p β2 (.slice (.int .i64)) i1),(2,.adr 0 0 2 0),(4,.adr 1 0 2 0),(5,.adr 2 0 2 0),(6,.sl 3)] (aHe β0 d1 β1 d2 v5) 4) (gg [] [0,8,16,48]) (fun y o h=> ?_) (fun v5 h=> ?_)))))
 ·obtain⟨v3,v4⟩:=y
  unfold eM at h
  refine G (aC (aW h (fun hb3 h=> ?_) (fun hb3 h=> ?_)))
  ·refine aB (aA (aC (aF (G ?_))))
   obtain⟨c13,c14,h⟩:=g2 h
   refine gS a0 [(2,2,oc c13),(3,3,oc c14)] (aN (aA (Ge ?_)))
   exact eB h (gg [] [0,1,2,3])
  refine aI (bT ?_)
  exact eX h (gg [] [0,1,2,3])
 refine aK (aA (G ?_))
 obtain⟨c18,c19,c20,h⟩:=g3 h
 refine GN a0 [(2,2,oc c18),(4,4,oc c19),(5,5,oc c20)] (aC (G (aF (jO h (fun(v45,v46,v47,v48,v49)=>aO [(1,.p β2 (.slice (.int .i64)) i1),(2,.adr 0 0 2 0),(4,.adr 1 0 2 0),(5,.adr 2 0 2 0),(6,.sl 5),(8,.sl 6),(9,.i64 v49)] (aHJ β0 d1 β1 d2 v45 v46 v47 v48) 7) 2 (fun(v50,v51)=>aO [(4,.adr 0 0 2 0),(5,.adr 1 0 2 0)] (aHf v50 v51) 4) (gg [.nilC 2 0 76 26 (.slice (.int .i64)),.nilC 2 1 77 30 (.int .u32)] [0,1,2,76,77,3,4]) (fun y o h=> ?_) (fun r15 h=> ?_)))))
 ·obtain⟨v45,v46,v47,v48,v49⟩:=y
  unfold fX at h
  refine aC (G (aW h (fun hb24 h=> ?_) (fun hb24 h=> ?_)))
  ·refine aB (aA (aC (aF (G (aC ?_)))))
   obtain⟨c248,c249,c250,h⟩:=g3 h
   refine GD a0 [(4,4,oc c248),(5,5,oc c249),(6,6,oc c250)] (aF (jO h (fun(v60,v61,v62,v63)=>aO [(1,.p β2 (.slice (.int .i64)) i1),(2,.adr 0 0 2 0),(4,.adr 1 0 2 0),(5,.adr 2 0 2 0),(6,.sl 5),(8,.sl 6),(9,.i64 v49),(10,.sl 7),(45,.p β0 (.slice (.int .i64)) (d1.getD ((v48.getD v49.toNat (0:Int)).toNat) ([]:List Int))),(46,.i64 ((d1.getD ((v48.getD v49.toNat (0:Int)).toNat) ([]:List Int)).length:Int)),(47,.i64 v63)] (aFF β0 d1 β1 d2 v45 v46 v60 v61 v62) 8) 4 (fun(v64,v65,v66)=>aO [(1,.p β2 (.slice (.int .i64)) i1),(2,.adr 0 0 2 0),(4,.adr 1 0 2 0),(5,.adr 2 0 2 0),(6,.sl 5),(8,.sl 6),(9,.i64 v49),(10,.sl 7)] (aFF β0 d1 β1 d2 v45 v46 v64 v65 v66) 8) (gg [.nilS 10 127 3 (.int .i64)] [0,1,2,3,4,5,6,127]) (fun y o h=> ?_) (fun r14 h=> ?_)))
   ·obtain⟨v60,v61,v62,v63⟩:=y
    unfold eP at h
    refine G (aC (aW h (fun hb31 h=> ?_) (fun hb31 h=> ?_)))
    ·refine aB (aA (aC (aF (GC 0 h (fun h=>aC ?_)))))
     obtain⟨c320,c321,c322,h⟩:=g3 h
     refine GN a0 [(3,3,oc c320),(5,5,oc c321),(6,6,oc c322)] (gE h (fun(v67,v68)=>aO [(1,.p β2 (.slice (.int .i64)) i1),(2,.adr 0 0 2 0),(4,.adr 1 0 2 0),(5,.adr 2 0 2 0),(6,.sl 5),(8,.sl 6),(9,.i64 v49),(10,.sl 7),(12,.i64 ((d1.getD ((v48.getD v49.toNat (0:Int)).toNat) ([]:List Int)).getD v63.toNat (0:Int))),(45,.p β0 (.slice (.int .i64)) (d1.getD ((v48.getD v49.toNat (0:Int)).toNat) ([]:List Int))),(46,.i64 ((d1.getD ((v48.getD v49.toNat (0:Int)).toNat) ([]:List Int)).length:Int)),(47,.i64 v63)] (aFF β0 d1 β1 d2 v45 v46 v67 v68 v62) 8) (fun r13 h=> ?_) (fun r13 h=> ?_))
     ·refine aW h (fun hb33 h=> ?_) (fun hb33 h=> ?_)
      ·obtain⟨c334,c335,c336,h⟩:=g3 h
       refine GN a0 [(3,3,oc c334),(7,7,oc c335),(8,8,oc c336)] (GCe 3 h (fun h=> ?_))
       exact eN h (gg [] [0,1,2,3,4,5,200,7])
      refine aB ?_
      exact eN h (gg [] [0,1,2,3,4,5,6,7])
     obtain⟨v67,v68⟩:=r13
     refine aA ?_
     obtain⟨c343,c344,c345,c346,h⟩:=g4 h
     refine gS a0 [(4,4,oc c343),(6,6,oc c344),(7,7,oc c345),(9,9,oc c346)] (aN (aA (Ge ?_)))
     exact eB h (gg [] [0,1,2,3,4,5,6,80])
    refine aI (bT ?_)
    exact eX h (gg [] [0,1,2,3,4,5,6,7])
   obtain⟨v64,v65,v66⟩:=r14
   refine aK (aA ?_)
   obtain⟨c352,c353,c354,c355,h⟩:=g4 h
   obtain⟨c356,h⟩:=bC h
   refine z7 a0 [(4,4,oc c352),(11,11,oc c353),(12,12,oc c354),(13,13,oc c355),(16,16,oc c356)] (aN (aA (Ge ?_)))
   exact eB h (gg [] [0,1,2,40,136,5,6])
  refine aI (bT ?_)
  exact eX h (gg [] [1,2,3,4])
 obtain⟨v50,v51⟩:=r15
 refine aK (aA (G (aZ ?_)))
 obtain rfl:=sI h
 exact aJ [Y6] (by kernel_rfl)
def hZ(a1:List (List Int))(a2:List Int):(List Int)→Option ((List Int)⊕(List Int)):=fun kind2 =>
 ((gK (kind2.length:Int) kind2 a1 a2).bind fun r18 =>
 ((fK r18).bind fun r21 =>
 ((fK kind2).bind fun r22 =>
 (if(r21 == r22)=true then some (Sum.inr kind2)
 else some (Sum.inl r18)))))
def gQ(a1:List (List Int))(a2:List Int):Option (((List (List Int))×List Int)×Int) :=
 ((kC a1 a2).bind fun r2 =>
 (if(!r2)=true then some ((([]:List (List Int)),([]:List Int)),(2:Int))
 else((gR (a2.length:Int) a1 a2).bind fun r4 =>
 ((iter (hZ a1 a2) r4).bind fun kind3=>((hU a1 a2 kind3).bind fun r24 =>
 some ((r24.1,r24.2),(0:Int)))))))
theorem rH(β0 β1:Bool){a1:List (List Int)}{a2:List Int}{res:((List (List Int))×List Int)×Int}(h:gQ a1 a2=some res):
  Pure Tryd.prog 35 [.agg [.p β0 (.slice (.slice (.int .i64))) a1,.p β1 (.slice (.int .u32)) a2]] (cE (gG false [⟨Y6,res.1⟩,⟨(.int .i64),res.2⟩])):=by
 refine Pure.of_body bS Tryd.func35 (by kernel_rfl) rfl (nl rfl) (fun Bw w0=> ?_) rfl
 unfold gQ at h
 refine G (aC ?_)
 obtain⟨r2,q2,h⟩:=aD h
 refine GP 1 (zN β0 β1 q2) (aW h (fun hb1 h=> ?_) (fun hb1 h=> ?_))
 ·refine G (aZ (aH ?_))
  obtain rfl:=sI h
  exact aJ [Y6,(.int .i64)] (by kernel_rfl)
 refine aB (aA ?_)
 obtain⟨r4,q4,h⟩:=aD h
 refine GP 4 (xF β0 β1 q4) (aC (aF (jO h (fun kind2=>aO [(1,.adr 0 0 2 0),(2,.adr 1 0 2 0),(4,.adr 2 0 1 0)] (aG2 β0 a1 β1 a2 kind2) 3) 0 (fun kind3=>aO [(1,.adr 0 0 2 0),(2,.adr 1 0 2 0),(4,.adr 2 0 1 0)] (aG2 β0 a1 β1 a2 kind3) 3) (gg [] [0,8,88]) (fun kind2 o h=> ?_) (fun kind3 h=> ?_))))
 ·unfold hZ at h
  refine aF ?_
  obtain⟨r18,q18,h⟩:=aD h
  refine GP 3 (tS false β0 β1 q18) (aC ?_)
  obtain⟨r21,q21,h⟩:=aD h
  obtain⟨r22,q22,h⟩:=aD h
  have u_1:=(mY false q21)
  have u_2:=(mY false q22)
  refine GD ⟨[],[(1,(oP u_1)),(3,(oP u_2))]⟩ [(1,1,oc u_1),(3,3,oc u_2)] (aW h (fun hb4 h=> ?_) (fun hb4 h=> ?_))
  ·refine aI (bT (G5 rfl ?_))
   exact eX h (gg [] [0,1,2])
  refine aB (aA (Ge (aN ?_)))
  exact eB h (gg [] [0,1,2])
 refine aK (aA ?_)
 obtain⟨r24,q24,h⟩:=aD h
 refine GP 2 (wN β0 β1 false q24) (aZ ?_)
 obtain rfl:=sI h
 exact aJ [Y6,(.int .i64)] (by kernel_rfl)
def iP(d5:List (Int×Tree×Tree)):((List Tree)×(List Tree)×Int)→Option (((List Tree)×(List Tree)×Int)⊕((List Tree)×List Tree)):=fun(v4,v5,v6) =>
 (if(decide (v6<(d5.length:Int)))=true then(if 0≤v6∧v6<(d5.length:Int)then(if(v4.length+([(Tree.node (((d5.getD v6.toNat ((0:Int),((Tree.node 0 0 []),(Tree.node 0 0 [])))).2.1).op) (((d5.getD v6.toNat ((0:Int),((Tree.node 0 0 []),(Tree.node 0 0 [])))).2.1).set) (((d5.getD v6.toNat ((0:Int),((Tree.node 0 0 []),(Tree.node 0 0 [])))).2.1).kids))]:List Tree).length)*32≤140737488355328∧v4.length+([(Tree.node (((d5.getD v6.toNat ((0:Int),((Tree.node 0 0 []),(Tree.node 0 0 [])))).2.1).op) (((d5.getD v6.toNat ((0:Int),((Tree.node 0 0 []),(Tree.node 0 0 [])))).2.1).set) (((d5.getD v6.toNat ((0:Int),((Tree.node 0 0 []),(Tree.node 0 0 [])))).2.1).kids))]:List Tree).length≤9223372036854775807 then((lS 1000 (((d5.getD v6.toNat ((0:Int),((Tree.node 0 0 []),(Tree.node 0 0 [])))).2.2).op) (((d5.getD v6.toNat ((0:Int),((Tree.node 0 0 []),(Tree.node 0 0 [])))).2.2).set) (((d5.getD v6.toNat ((0:Int),((Tree.node 0 0 []),(Tree.node 0 0 [])))).2.2).kids)).bind fun r6 =>
 (if(v5.length+([(Tree.node r6.op r6.set r6.kids)]:List Tree).length)*32≤140737488355328∧v5.length+([(Tree.node r6.op r6.set r6.kids)]:List Tree).length≤9223372036854775807 then some (Sum.inl ((v4++([(Tree.node (((d5.getD v6.toNat ((0:Int),((Tree.node 0 0 []),(Tree.node 0 0 [])))).2.1).op) (((d5.getD v6.toNat ((0:Int),((Tree.node 0 0 []),(Tree.node 0 0 [])))).2.1).set) (((d5.getD v6.toNat ((0:Int),((Tree.node 0 0 []),(Tree.node 0 0 [])))).2.1).kids))]:List Tree)),(v5++([(Tree.node r6.op r6.set r6.kids)]:List Tree)),(IntKind.i64.wrap (v6+(1:Int)))))else none))else none)else none)
 else some (Sum.inr (v4,v5)))
def nF(d1:List (List UInt8))(d2 d3:Int)(d4:List Int)(d5:List (Int×Tree×Tree)):Option ((Option (((List (List UInt8))×Int×Int×(List Int)×List (Int×Tree×Tree))×((List (List Int))×List Int)×(List (List Int))×List Int))×Int) :=
 (if((d1.length:Int) == (0:Int))=true then some ((none:Option (((List (List UInt8))×Int×Int×(List Int)×List (Int×Tree×Tree))×((List (List Int))×List Int)×(List (List Int))×List Int)),(22:Int))
 else((iter (iP d5) (([]:List Tree),([]:List Tree),(0:Int))).bind fun(v7,v8)=>((f7 v7 (d1.length:Int)).bind fun(r10,r11) =>
 (if(r11 != (0:Int))=true then some ((none:Option (((List (List UInt8))×Int×Int×(List Int)×List (Int×Tree×Tree))×((List (List Int))×List Int)×(List (List Int))×List Int)),r11)
 else((f7 v8 (d1.length:Int)).bind fun(r14,r15) =>
 (if(r15 != (0:Int))=true then some ((none:Option (((List (List UInt8))×Int×Int×(List Int)×List (Int×Tree×Tree))×((List (List Int))×List Int)×(List (List Int))×List Int)),r15)
 else((gQ r10.1 r10.2).bind fun(r18,r19) =>
 ((gQ r14.1 r14.2).bind fun(r22,r23) =>
 some ((some ((d1,(d2,(d3,(d4,d5)))),((r18.1,r18.2),(r22.1,r22.2))):Option (((List (List UInt8))×Int×Int×(List Int)×List (Int×Tree×Tree))×((List (List Int))×List Int)×(List (List Int))×List Int)),(0:Int))))))))))
theorem T2{d1:List (List UInt8)}{d2:Int}{d3:Int}{d4:List Int}{d5:List (Int×Tree×Tree)}{res:(Option (((List (List UInt8))×Int×Int×(List Int)×List (Int×Tree×Tree))×((List (List Int))×List Int)×(List (List Int))×List Int))×Int}(h:nF d1 d2 d3 d4 d5=some res):
  Pure Tryd.prog 23 [.agg [.p false (.slice .str) d1,.u32 d2,.u32 d3,.p false (.slice (.int .i64)) d4,.p false (.slice (.prod (.int .u8) Y1)) d5]] (cE (gG false [⟨(.ptr Y7),res.1⟩,⟨(.int .i64),res.2⟩])):=by
 refine Pure.of_body bS Tryd.func23 (by kernel_rfl) rfl (nl rfl) (fun Bw w0=> ?_) rfl
 unfold nF at h
 refine G (aC (G (aW h (fun hb1 h=> ?_) (fun hb1 h=> ?_))))
 ·refine G (aZ (aH ?_))
  obtain rfl:=sI h
  exact aJ [(.ptr Y7),(.int .i64)] (by kernel_rfl)
 refine aB (aA (G (aC (G (aF (jO h (fun(v4,v5,v6)=>aO [(1,.adr 0 0 5 0),(4,.sl 1),(5,.sl 2),(17,.p false (.slice (.prod (.int .u8) Y1)) d5),(18,.i64 (d5.length:Int)),(19,.i64 v6)] (aG7 d1 d2 d3 d4 d5 v4 v5) 3) 0 (fun(v7,v8)=>aO [(1,.adr 0 0 5 0),(4,.sl 1),(5,.sl 2)] (aG7 d1 d2 d3 d4 d5 v7 v8) 3) (gg [.nilS 4 104 72 (.tree .u8 .u32),.nilS 5 105 72 (.tree .u8 .u32)] [0,104,105]) (fun y o h=> ?_) (fun r7 h=> ?_)))))))
 ·obtain⟨v4,v5,v6⟩:=y
  unfold iP at h
  refine G (aC (aW h (fun hb4 h=> ?_) (fun hb4 h=> ?_)))
  ·refine aB (aA (aC (aF (GC 0 h (fun h=> ?_)))))
   obtain⟨c17,h⟩:=bC h
   obtain⟨r6,q6,h⟩:=aD h
   obtain⟨c18,h⟩:=bC h
   have u_1:=(t8 1000 false q6)
   refine z7 ⟨[],[(8,(oP u_1))]⟩ [(4,4,oc c17),(8,8,oc u_1),(10,10,oc c18)] (aN (aA (Ge ?_)))
   exact eB h (gg [] [0,75,123])
  refine aI (bT ?_)
  exact eX h (gg [] [0,1,2])
 obtain⟨v7,v8⟩:=r7
 refine aK (aA ?_)
 obtain⟨⟨r10,r11⟩,q8,h⟩:=aD h
 refine GP 4 (sT true q8) (aC (G (aW h (fun hb5 h=> ?_) (fun hb5 h=> ?_))))
 ·refine G (aZ (aH ?_))
  obtain rfl:=sI h
  exact aJ [(.ptr Y7),(.int .i64)] (by kernel_rfl)
 refine aB (aA ?_)
 obtain⟨⟨r14,r15⟩,q10,h⟩:=aD h
 refine GP 4 (sT true q10) (aC (G (aW h (fun hb6 h=> ?_) (fun hb6 h=> ?_))))
 ·refine G (aZ (aH ?_))
  obtain rfl:=sI h
  exact aJ [(.ptr Y7),(.int .i64)] (by kernel_rfl)
 refine aB (aA (G ?_))
 obtain⟨⟨r18,r19⟩,q12,h⟩:=aD h
 refine GP 2 (rH false false q12) ?_
 obtain⟨⟨r22,r23⟩,q14,h⟩:=aD h
 refine GP 2 (rH false false q14) (G (aZ ?_))
 obtain rfl:=sI h
 exact aJ [(.ptr Y7),(.int .i64)] (by kernel_rfl)
def jJ(text1:List UInt8):Option ((Option (((List (List UInt8))×Int×Int×(List Int)×List (Int×Tree×Tree))×((List (List Int))×List Int)×(List (List Int))×List Int))×Int×Int) :=
 ((gI text1).bind fun(r3,r4) =>
 (if(r4.1 != (0:Int))=true then some ((none:Option (((List (List UInt8))×Int×Int×(List Int)×List (Int×Tree×Tree))×((List (List Int))×List Int)×(List (List Int))×List Int)),(r4.1,r4.2))
 else((nF r3.1 r3.2.1 r3.2.2.1 r3.2.2.2.1 r3.2.2.2.2).bind fun(r7,r8) =>
 some (r7,(r8,(0:Int))))))
theorem oZ{text1:List UInt8}{res:(Option (((List (List UInt8))×Int×Int×(List Int)×List (Int×Tree×Tree))×((List (List Int))×List Int)×(List (List Int))×List Int))×Int×Int}(h:jJ text1=some res):
  Pure Tryd.prog 14 [.st text1] (cE (gG false [⟨(.ptr Y7),res.1⟩,⟨Y5,res.2⟩])):=by
 refine Pure.of_body bS Tryd.func14 (by kernel_rfl) rfl (nl rfl) (fun Bw w0=> ?_) rfl
 unfold jJ at h
 refine G ?_
 obtain⟨⟨r3,r4⟩,q2,h⟩:=aD h
 refine GP 1 (yO q2) (aC (G (aW h (fun hb1 h=> ?_) (fun hb1 h=> ?_))))
 ·refine GD a0 [] (aZ (aH ?_))
  obtain rfl:=sI h
  exact aJ [(.ptr Y7),Y5] (by kernel_rfl)
 refine aB (aA ?_)
 obtain⟨⟨r7,r8⟩,q4,h⟩:=aD h
 refine GP 1 (T2 q4) (G (aZ ?_))
 obtain rfl:=sI h
 exact aJ [(.ptr Y7),Y5] (by kernel_rfl)
def eR(a1:List (List Int))(classes1:List Int):((List Int)×Int×Int)→Option (((List Int)×Int×Int)⊕(List Int)):=fun(out2,s2,v4) =>
 (if(decide (v4<(classes1.length:Int)))=true then(if 0≤v4∧v4<(classes1.length:Int)then(((if(decide ((classes1.getD v4.toNat (0:Int))<(0:Int)))=true then some (true)
 else(if 0≤s2∧s2<(a1.length:Int)then some ((decide ((classes1.getD v4.toNat (0:Int))≥((a1.getD s2.toNat ([]:List Int)).length:Int))))else none))).bind fun v5=>(if v5=true then some (Sum.inr out2)
 else(if 0≤s2∧s2<(a1.length:Int)then(if 0≤(classes1.getD v4.toNat (0:Int))∧(classes1.getD v4.toNat (0:Int))<((a1.getD s2.toNat ([]:List Int)).length:Int)then(if(out2.length+([((a1.getD s2.toNat ([]:List Int)).getD ((classes1.getD v4.toNat (0:Int)).toNat) (0:Int))]:List Int).length)*8≤140737488355328∧out2.length+([((a1.getD s2.toNat ([]:List Int)).getD ((classes1.getD v4.toNat (0:Int)).toNat) (0:Int))]:List Int).length≤9223372036854775807 then some (Sum.inl ((out2++([((a1.getD s2.toNat ([]:List Int)).getD ((classes1.getD v4.toNat (0:Int)).toNat) (0:Int))]:List Int)),((a1.getD s2.toNat ([]:List Int)).getD ((classes1.getD v4.toNat (0:Int)).toNat) (0:Int)),(IntKind.i64.wrap (v4+(1:Int)))))else none)else none)else none)))else none)
 else some (Sum.inr out2))
def jC(a1:List (List Int))(a2 classes1:List Int):Option (List Int) :=
 (if((a1.length:Int) == (0:Int))=true then some ([]:List Int)
 else((iter (eR a1 classes1) (([(0:Int)]:List Int),(0:Int),(0:Int))).bind fun out3=>some out3))
theorem vG(β0 β1 β2:Bool){a1:List (List Int)}{a2:List Int}{classes1:List Int}{res:List Int}(h:jC a1 a2 classes1=some res):
  Pure Tryd.prog 17 [.agg [.p β0 (.slice (.slice (.int .i64))) a1,.p β1 (.slice (.int .u32)) a2],.p β2 (.slice (.int .i64)) classes1] (cE (gG false [⟨(.slice (.int .i64)),res⟩])):=by
 refine Pure.of_body bS Tryd.func17 (by kernel_rfl) rfl (nl rfl) (fun Bw w0=> ?_) rfl
 unfold jC at h
 refine G (aC (G (aW h (fun hb1 h=> ?_) (fun hb1 h=> ?_))))
 ·refine G (aZ (aH ?_))
  obtain rfl:=sI h
  exact aJ [(.slice (.int .i64))] (by kernel_rfl)
 refine aB (aA (G (G (aC (G (aF (jO h (fun(out2,s2,v4)=>aO [(2,.adr 0 0 2 0),(5,.sl 1),(6,.i64 s2),(14,.p β2 (.slice (.int .i64)) classes1),(15,.i64 (classes1.length:Int)),(16,.i64 v4)] (aHi β0 a1 β1 a2 out2) 2) 0 (fun out3=>aO [(5,.sl 0)] [(0,.arr 3 (.int .i64) out3)] 1) (gg [] [0,48]) (fun y o h=> ?_) (fun out3 h=> ?_))))))))
 ·obtain⟨out2,s2,v4⟩:=y
  unfold eR at h
  refine G (aC (aW h (fun hb12 h=> ?_) (fun hb12 h=> ?_)))
  ·refine aB (aA (aC (aF (GC 0 h (fun h=>aC (aC (gE h (fun v5=>aO [(2,.adr 0 0 2 0),(5,.sl 1),(6,.i64 s2),(8,.i64 (classes1.getD v4.toNat (0:Int))),(14,.p β2 (.slice (.int .i64)) classes1),(15,.i64 (classes1.length:Int)),(16,.i64 v4),(31,.bo v5)] (aHi β0 a1 β1 a2 out2) 2) (fun v5 h=> ?_) (fun v5 h=> ?_))))))))
   ·rcases cF h with⟨hb15,h⟩ | ⟨hb15,h⟩
    ·refine gS ⟨[(2,true),(11,true)],[]⟩ [(3,11,oc hb15)] ?_
     exact eN h (gg [] [0,1])
    obtain⟨c27,h⟩:=bC h
    refine gS ⟨[(2,false),(11,false)],[]⟩ [(3,6,an hb15),(7,7,oc (And.intro hb15 c27)),(8,10,an hb15),(11,11,oc hb15)] ?_
    exact eN h (gg [] [0,1])
   refine aA (aW h (fun hb16 h=> ?_) (fun hb16 h=> ?_))
   ·refine aI (bT (G5 rfl (bT ?_)))
    exact eX h (gg [] [1])
   refine aB (aA ?_)
   obtain⟨c30,c31,h⟩:=g2 h
   refine GN a0 [(3,3,oc c30),(6,6,oc c31)] (GCe 3 h (fun h=>aN (aA (Ge ?_))))
   exact eB h (gg [] [0,98])
  refine aI (bT ?_)
  exact eX h (gg [] [1])
 refine aK (aA (G (aZ ?_)))
 obtain rfl:=sI h
 exact aJ [(.slice (.int .i64))] (by kernel_rfl)
def bL  : ((List Int)×Int×Int)→Option (((List Int)×Int×Int)⊕(List Int)):=fun(s5,i4,j4) =>
 (if(decide (i4<j4))=true then(if 0≤j4∧j4<(s5.length:Int)then(if j4.toNat<s5.length then(if 0≤i4∧i4<(s5.length:Int)then(if i4.toNat<s5.length then(if 0≤i4∧i4<(s5.length:Int)then(if i4.toNat<s5.length then(if 0≤j4∧j4<((s5.set i4.toNat (s5.getD j4.toNat (0:Int))).length:Int)then(if j4.toNat<(s5.set i4.toNat (s5.getD j4.toNat (0:Int))).length then some (Sum.inl (((s5.set i4.toNat (s5.getD j4.toNat (0:Int))).set j4.toNat (s5.getD i4.toNat (0:Int))),(IntKind.i64.wrap (i4+(1:Int))),(IntKind.i64.wrap (j4 - (1:Int)))))else none)else none)else none)else none)else none)else none)else none)else none)
 else some (Sum.inr s5))
def bY(s1:List Int):Option (List Int) :=
 ((iter (bL) (s1,(0:Int),(IntKind.i64.wrap ((s1.length:Int) - (1:Int))))).bind fun v3=>some v3)
theorem kK{s1:List Int}{res:List Int}(h:bY s1=some res):
  Owns Tryd.prog 18 [.sl 0] [(0,.arr 3 (.int .i64) s1)] (.tup []) [(0,.arr 3 (.int .i64) res)]:=by
 refine Owns.of_body bS Tryd.func18 (by kernel_rfl) rfl (nl rfl) (fun Bw w0=> ?_)
 unfold bY at h
 refine G (aF (jO h (fun(s5,i4,j4)=>aO [(0,.sl 0),(2,.i64 i4),(3,.i64 j4)] [(0,.arr 3 (.int .i64) s5)] 1 1) 0 (fun v3=>aO [] [(0,.arr 3 (.int .i64) v3)] 1 1) (gg [] [0]) (fun y o h=> ?_) (fun v3 h=> ?_)))
 ·obtain⟨s5,i4,j4⟩:=y
  unfold bL at h
  refine aC (G (aW h (fun hb6 h=> ?_) (fun hb6 h=> ?_)))
  ·refine aB (aA (aC (aF ?_)))
   obtain⟨c89,c90,c91,c92,h⟩:=g4 h
   obtain⟨c93,c94,c95,c96,h⟩:=g4 h
   refine z7 a0 [(6,6,oc c89),(7,7,oc c90),(10,10,oc c91),(11,11,oc c92),(12,12,oc c93),(13,13,oc c94),(14,14,oc c95),(15,15,oc c96)] (aN (aA (Ge ?_)))
   exact eB h (gg [] [0])
  refine aI (bT ?_)
  exact eX h (gg [] [0])
 refine aK ?_
 obtain rfl:=sI h
 exact(aP [] [] [0] [] [(0,.arr 3 (.int .i64) v3)] 1 1 (by kernel_rfl) (by kernel_rfl) (by kernel_rfl)).normal
def gH(x1:Int):Option (Int):=some (w9 x1)
theorem mD(x:Int)(w:World)(hl:u9 Tryd.prog w):Calls Tryd.prog 19 #[.int .u32 x] w fun e w'=>e = .returned (.int .i64 (w9 x))∧w'=w:=by
 have hc:w.cell? ⟨0,(bits BinOp.and IntKind.u32 x (-x % 4294967296)*125613361 % 4294967296 / 134217728).toNat,none⟩=some (.int .u8 (deB.getD (bits BinOp.and IntKind.u32 x (-x % 4294967296)*125613361 % 4294967296 / 134217728).toNat 0)):=hl 0 (by kernel_rfl) _ (aDy _)
 go_enter Tryd.func19,Tryd.ntmps19
 go_wp2
 ·rename_i h
  go_ret
  exact⟨by rw[aB0 h];rfl,rfl⟩
 rename_i h
 go_ret
 exact⟨by rw[←aDr h,List.getD_eq_getElem?_getD];rfl,rfl⟩
theorem nO{x1:Int}{res:Int}(h:gH x1=some res):
  Pure Tryd.prog 19 [.u32 x1] (cE (gG false [⟨(.int .i64),res⟩])):=by
 obtain rfl:=sI h
 exact Pure.of_tz Tryd.func19 (by kernel_rfl) rfl (fun w=>mD _ w)
def eK(d1:Option (((List (List UInt8))×Int×Int×(List Int)×List (Int×Tree×Tree))×((List (List Int))×List Int)×(List (List Int))×List Int))(i1:List Int):((List Int)×(List Int)×Bool×Int)→Option (((List Int)×(List Int)×Bool×Int)⊕((List Int)×List Int)):=fun(v10,v11,v12,v13) =>
 (if(decide (v13<(i1.length:Int)))=true then(if 0≤v13∧v13<(i1.length:Int)then(((if(decide ((i1.getD v13.toNat (0:Int))<(0:Int)))=true then some (true)
 else(if d1.isSome=true then some ((decide ((i1.getD v13.toNat (0:Int))≥(((d1.getD (Ty.zero Y7)).1.1).length:Int))))else none))).bind fun v16=>(((if v16=true then some ((0:Int))
 else some ((i1.getD v13.toNat (0:Int))))).bind fun v17=>(((if v12=true then(if d1.isSome=true then(if 0≤v17 then some (((aG .and .u32 (Int.fdiv ((d1.getD (Ty.zero Y7)).1.2.1) (2 ^ (min v17.toNat IntKind.u32.bits))) (1:Int)) == (1:Int)))else none)else none)
 else some (false))).bind fun v18=>(if v18=true then some (Sum.inl (v10,v11,v12,(IntKind.i64.wrap (v13+(1:Int)))))
 else(if d1.isSome=true then(if 0≤v17 then(if(v10.length+([v13]:List Int).length)*8≤140737488355328∧v10.length+([v13]:List Int).length≤9223372036854775807 then(if d1.isSome=true then(if 0≤v17∧v17<(((d1.getD (Ty.zero Y7)).1.2.2.2.1).length:Int)then(if(v11.length+([(((d1.getD (Ty.zero Y7)).1.2.2.2.1).getD v17.toNat (0:Int))]:List Int).length)*8≤140737488355328∧v11.length+([(((d1.getD (Ty.zero Y7)).1.2.2.2.1).getD v17.toNat (0:Int))]:List Int).length≤9223372036854775807 then some (Sum.inl ((v10++([v13]:List Int)),(v11++([(((d1.getD (Ty.zero Y7)).1.2.2.2.1).getD v17.toNat (0:Int))]:List Int)),((aG .and .u32 (Int.fdiv ((d1.getD (Ty.zero Y7)).1.2.2.1) (2 ^ (min v17.toNat IntKind.u32.bits))) (1:Int)) == (1:Int)),(IntKind.i64.wrap (v13+(1:Int)))))else none)else none)else none)else none)else none)else none)))))else none)
 else some (Sum.inr (v10,v11)))
def dB(d1:Option (((List (List UInt8))×Int×Int×(List Int)×List (Int×Tree×Tree))×((List (List Int))×List Int)×(List (List Int))×List Int))(v14 r3 r7:List Int):((List Int)×Int)→Option (((List Int)×Int)⊕(List Int)):=fun(v23,v24) =>
 (if(decide (v24<(v14.length:Int)))=true then(if d1.isSome=true then(if 0≤v24∧v24<(r3.length:Int)then(if 0≤(r3.getD v24.toNat (0:Int))∧(r3.getD v24.toNat (0:Int))<(((d1.getD (Ty.zero Y7)).2.1.2).length:Int)then(if d1.isSome=true then(if 0≤(IntKind.i64.wrap ((v14.length:Int) - v24))∧(IntKind.i64.wrap ((v14.length:Int) - v24))<(r7.length:Int)then(if 0≤(r7.getD ((IntKind.i64.wrap ((v14.length:Int) - v24)).toNat) (0:Int))∧(r7.getD ((IntKind.i64.wrap ((v14.length:Int) - v24)).toNat) (0:Int))<(((d1.getD (Ty.zero Y7)).2.2.2).length:Int)then(if 0≤v24∧v24<(v14.length:Int)then(if v24.toNat<v14.length then(if 0≤(v14.getD v24.toNat (0:Int))∧(v14.getD v24.toNat (0:Int))<(v23.length:Int)then(if(v14.getD v24.toNat (0:Int)).toNat<v23.length then(((if((aG .and .u32 (((d1.getD (Ty.zero Y7)).2.1.2).getD ((r3.getD v24.toNat (0:Int)).toNat) (0:Int)) (((d1.getD (Ty.zero Y7)).2.2.2).getD ((r7.getD ((IntKind.i64.wrap ((v14.length:Int) - v24)).toNat) (0:Int)).toNat) (0:Int))) != (0:Int))=true then(if 0≤v24∧v24<(v14.length:Int)then(if v24.toNat<v14.length then(if d1.isSome=true then((gH (aG .and .u32 (((d1.getD (Ty.zero Y7)).2.1.2).getD ((r3.getD v24.toNat (0:Int)).toNat) (0:Int)) (((d1.getD (Ty.zero Y7)).2.2.2).getD ((r7.getD ((IntKind.i64.wrap ((v14.length:Int) - v24)).toNat) (0:Int)).toNat) (0:Int)))).bind fun r19 =>
 (if 0≤r19∧r19<(((d1.getD (Ty.zero Y7)).1.2.2.2.2).length:Int)then(if 0≤(v14.getD v24.toNat (0:Int))∧(v14.getD v24.toNat (0:Int))<((v23.set ((v14.getD v24.toNat (0:Int)).toNat) (1:Int)).length:Int)then(if(v14.getD v24.toNat (0:Int)).toNat<(v23.set ((v14.getD v24.toNat (0:Int)).toNat) (1:Int)).length then some (((v23.set ((v14.getD v24.toNat (0:Int)).toNat) (1:Int)).set ((v14.getD v24.toNat (0:Int)).toNat) ((((d1.getD (Ty.zero Y7)).1.2.2.2.2).getD r19.toNat ((0:Int),((Tree.node 0 0 []),(Tree.node 0 0 [])))).1)))else none)else none)else none))else none)else none)else none)
 else some ((v23.set ((v14.getD v24.toNat (0:Int)).toNat) (1:Int))))).bind fun v26=>some (Sum.inl (v26,(IntKind.i64.wrap (v24+(1:Int))))))else none)else none)else none)else none)else none)else none)else none)else none)else none)else none)
 else some (Sum.inr v23))
def dS(d1:Option (((List (List UInt8))×Int×Int×(List Int)×List (Int×Tree×Tree))×((List (List Int))×List Int)×(List (List Int))×List Int))(i1:List Int):Option (List Int) :=
 (if 0≤(IntKind.i64.wrap ((i1.length:Int)+(1:Int)))∧(IntKind.i64.wrap ((i1.length:Int)+(1:Int)))≤(IntKind.i64.wrap ((i1.length:Int)+(1:Int)))∧(1:Int)*(IntKind.i64.wrap ((i1.length:Int)+(1:Int)))≤281474976710656∧(IntKind.i64.wrap ((i1.length:Int)+(1:Int)))≤9223372036854775807 then(if 0≤(i1.length:Int)∧(i1.length:Int)<((List.replicate (IntKind.i64.wrap ((i1.length:Int)+(1:Int))).toNat (0:Int)).length:Int)then(if(i1.length:Int).toNat<(List.replicate (IntKind.i64.wrap ((i1.length:Int)+(1:Int))).toNat (0:Int)).length then(if d1.isNone=true then some ((List.replicate (IntKind.i64.wrap ((i1.length:Int)+(1:Int))).toNat (0:Int)).set ((i1.length:Int).toNat) (2:Int))
 else((iter (eK d1 i1) (([]:List Int),([]:List Int),false,(0:Int))).bind fun(v14,v15)=>(if d1.isSome=true then((jC ((d1.getD (Ty.zero Y7)).2.1.1) ((d1.getD (Ty.zero Y7)).2.1.2) v15).bind fun r3 =>
 ((bY v15).bind fun r5 =>
 (if d1.isSome=true then((jC ((d1.getD (Ty.zero Y7)).2.2.1) ((d1.getD (Ty.zero Y7)).2.2.2) r5).bind fun r7 =>
 ((iter (dB d1 v14 r3 r7) (((List.replicate (IntKind.i64.wrap ((i1.length:Int)+(1:Int))).toNat (0:Int)).set ((i1.length:Int).toNat) (2:Int)),(1:Int))).bind fun v25=>some v25))else none)))else none)))else none)else none)else none)
theorem fM(β0 β1:Bool){d1:Option (((List (List UInt8))×Int×Int×(List Int)×List (Int×Tree×Tree))×((List (List Int))×List Int)×(List (List Int))×List Int)}{i1:List Int}{res:List Int}(h:dS d1 i1=some res):
  Pure Tryd.prog 11 [.p β0 (.ptr Y7) d1,.p β1 (.slice (.int .i64)) i1] (cE (gG false [⟨(.slice (.int .u8)),res⟩])):=by
 refine Pure.of_body bS Tryd.func11 (by kernel_rfl) rfl (nl rfl) (fun Bw w0=> ?_) rfl
 unfold dS at h
 refine G (GC 3 h (fun h=> ?_))
 obtain⟨c5,c6,h⟩:=g2 h
 refine GN a0 [(3,3,oc c5),(4,4,oc c6)] (aC (GN a0 [(1,1,⟨∃e,Tryd.prog.underlying 28=some (.pointer e),⟨_,rfl⟩⟩)] (aW h (fun hb1 h=> ?_) (fun hb1 h=> ?_))))
 ·refine G (aZ (aH ?_))
  obtain rfl:=sI h
  exact aJ [(.slice (.int .u8))] (by kernel_rfl)
 refine aB (aA (G (G (aC (G (aF (jO h (fun(v10,v11,v12,v13)=>aO [(0,.p β0 (.ptr Y7) d1),(5,.sl 0),(6,.sl 1),(7,.sl 2),(8,.bo v12),(26,.p β1 (.slice (.int .i64)) i1),(27,.i64 (i1.length:Int)),(28,.i64 v13)] (aCq ((List.replicate (IntKind.i64.wrap ((i1.length:Int)+(1:Int))).toNat (0:Int)).set ((i1.length:Int).toNat) (2:Int)) v10 v11) 3) 0 (fun(v14,v15)=>aO [(0,.p β0 (.ptr Y7) d1),(5,.sl 0),(6,.sl 1),(7,.sl 2)] (aCq ((List.replicate (IntKind.i64.wrap ((i1.length:Int)+(1:Int))).toNat (0:Int)).set ((i1.length:Int).toNat) (2:Int)) v14 v15) 3) (gg [.nilS 6 152 3 (.int .i64),.nilS 7 153 3 (.int .i64)] [32,152,153]) (fun y o h=> ?_) (fun r1 h=> ?_))))))))
 ·obtain⟨v10,v11,v12,v13⟩:=y
  unfold eK at h
  refine G (aC (aW h (fun hb19 h=> ?_) (fun hb19 h=> ?_)))
  ·refine aB (aA (aC (aF (GC 1 h (fun h=>aC (aC (gE h (fun v16=>aO [(0,.p β0 (.ptr Y7) d1),(5,.sl 0),(6,.sl 1),(7,.sl 2),(8,.bo v12),(9,.i64 v13),(10,.i64 (i1.getD v13.toNat (0:Int))),(26,.p β1 (.slice (.int .i64)) i1),(27,.i64 (i1.length:Int)),(28,.i64 v13),(44,.bo v16)] (aCq ((List.replicate (IntKind.i64.wrap ((i1.length:Int)+(1:Int))).toNat (0:Int)).set ((i1.length:Int).toNat) (2:Int)) v10 v11) 3) (fun v16 h=> ?_) (fun v16 h=> ?_))))))))
   ·rcases cF h with⟨hb22,h⟩ | ⟨hb22,h⟩
    ·refine gS ⟨[(2,true),(11,true)],[]⟩ [(3,11,oc hb22)] ?_
     exact eN h (gg [] [0,1,2])
    obtain⟨c51,h⟩:=bC h
    refine gS ⟨[(2,false),(11,false)],[]⟩ [(3,4,an hb22),(5,5,oc (And.intro hb22 c51)),(6,10,an hb22),(11,11,oc hb22)] ?_
    exact eN h (gg [] [0,1,2])
   refine aA (gE h (fun v17=>aO [(0,.p β0 (.ptr Y7) d1),(5,.sl 0),(6,.sl 1),(7,.sl 2),(8,.bo v12),(9,.i64 v13),(10,.i64 v17),(26,.p β1 (.slice (.int .i64)) i1),(27,.i64 (i1.length:Int)),(28,.i64 v13)] (aCq ((List.replicate (IntKind.i64.wrap ((i1.length:Int)+(1:Int))).toNat (0:Int)).set ((i1.length:Int).toNat) (2:Int)) v10 v11) 3) (fun v17 h=> ?_) (fun v17 h=> ?_))
   ·refine aW h (fun hb24 h=> ?_) (fun hb24 h=> ?_)
    ·refine Ge ?_
     exact eN h (gg [] [0,1,2])
    refine aB ?_
    exact eN h (gg [] [0,1,2])
   refine aA (aC (aC (gE h (fun v18=>aO [(0,.p β0 (.ptr Y7) d1),(5,.sl 0),(6,.sl 1),(7,.sl 2),(8,.bo v12),(9,.i64 v13),(10,.i64 v17),(26,.p β1 (.slice (.int .i64)) i1),(27,.i64 (i1.length:Int)),(28,.i64 v13),(56,.bo v18)] (aCq ((List.replicate (IntKind.i64.wrap ((i1.length:Int)+(1:Int))).toNat (0:Int)).set ((i1.length:Int).toNat) (2:Int)) v10 v11) 3) (fun v18 h=> ?_) (fun v18 h=> ?_))))
   ·rcases cF h with⟨hb27,h⟩ | ⟨hb27,h⟩
    ·obtain⟨c56,c57,h⟩:=g2 h
     refine gS ⟨[(1,true),(11,true)],[]⟩ [(2,2,an hb27),(3,3,oc (And.intro hb27 c56)),(4,7,an hb27),(8,8,oc (And.intro hb27 c57)),(9,10,an hb27),(11,11,oc hb27)] ?_
     exact eN h (gg [] [0,1,2])
    refine gS ⟨[(1,false),(11,false)],[]⟩ [(2,11,oc hb27)] ?_
    exact eN h (gg [] [0,1,2])
   refine aA (aW h (fun hb28 h=> ?_) (fun hb28 h=> ?_))
   ·refine aI (bT (aK (aA (Ge ?_))))
    exact eB h (gg [] [0,1,2])
   refine aB (aA ?_)
   obtain⟨c60,c61,h⟩:=g2 h
   refine GN a0 [(1,1,oc c60),(6,6,oc c61)] ?_
   obtain⟨c66,c67,c68,c69,h⟩:=g4 h
   refine z7 a0 [(3,3,oc c66),(6,6,oc c67),(11,11,oc c68),(14,14,oc c69)] (aN (aA (Ge ?_)))
   exact eB h (gg [] [0,107,195])
  refine aI (bT ?_)
  exact eX h (gg [] [0,1,2])
 obtain⟨v14,v15⟩:=r1
 refine aK (aA ?_)
 obtain⟨c71,h⟩:=bC h
 obtain⟨r3,q2,h⟩:=aD h
 have u_1:=(vG β0 β0 true q2)
 refine GN ⟨[],[(5,(oP u_1))]⟩ [(1,1,oc c71),(5,5,oc u_1)] ?_
 obtain⟨r5,q4,h⟩:=aD h
 refine GO 1 [2] (kK q4) ?_
 obtain⟨c73,h⟩:=bC h
 obtain⟨r7,q6,h⟩:=aD h
 have u_1:=(vG β0 β0 true q6)
 refine GN ⟨[],[(5,(oP u_1))]⟩ [(1,1,oc c73),(5,5,oc u_1)] (aC (G (aF (jO h (fun(v23,v24)=>aO [(0,.p β0 (.ptr Y7) d1),(5,.sl 0),(6,.sl 1),(11,.p false (.slice (.int .i64)) r3),(12,.p false (.slice (.int .i64)) r7),(13,.i64 v24)] [(0,.arr 47 (.int .u8) v23),(1,.arr 3 (.int .i64) v14)] 2) 2 (fun v25=>aO [(5,.sl 0)] [(0,.arr 47 (.int .u8) v25)] 1) (gg [] [0,1]) (fun y o h=> ?_) (fun v25 h=> ?_)))))
 ·obtain⟨v23,v24⟩:=y
  unfold dB at h
  refine aC (G (aW h (fun hb35 h=> ?_) (fun hb35 h=> ?_)))
  ·refine aB (aA (aC (aF ?_)))
   obtain⟨c168,c169,c170,c171,h⟩:=g4 h
   obtain⟨c172,c173,h⟩:=g2 h
   refine GD a0 [(1,1,oc c168),(7,7,oc c169),(9,9,oc c170),(12,12,oc c171),(21,21,oc c172),(23,23,oc c173)] ?_
   obtain⟨c178,c179,c180,c181,h⟩:=g4 h
   refine GN a0 [(3,3,oc c178),(4,4,oc c179),(5,5,oc c180),(6,6,oc c181)] (G (gE h (fun v26=>aO [(0,.p β0 (.ptr Y7) d1),(5,.sl 0),(6,.sl 1),(11,.p false (.slice (.int .i64)) r3),(12,.p false (.slice (.int .i64)) r7),(13,.i64 v24)] [(0,.arr 47 (.int .u8) v26),(1,.arr 3 (.int .i64) v14)] 2) (fun v26 h=> ?_) (fun v26 h=> ?_)))
   ·refine aW h (fun hb37 h=> ?_) (fun hb37 h=> ?_)
    ·obtain⟨c200,c201,c202,h⟩:=g3 h
     obtain⟨r19,q18,h⟩:=aD h
     obtain⟨c203,c204,c205,h⟩:=g3 h
     have u_1:=(nO q18)
     refine z7 ⟨[],[(11,(oP u_1))]⟩ [(3,3,oc c200),(4,4,oc c201),(6,6,oc c202),(11,11,oc u_1),(12,12,oc c203),(15,15,oc c204),(16,16,oc c205)] ?_
     exact eN h (gg [] [0,1])
    refine aB ?_
    exact eN h (gg [] [0,1])
   refine aN (aA (Ge ?_))
   exact eB h (gg [] [0,1])
  refine aI (bT ?_)
  exact eX h (gg [] [0])
 refine aK (aA (G (aZ ?_)))
 obtain rfl:=sI h
 exact aJ [(.slice (.int .u8))] (by kernel_rfl)
def iR(a1 b1:List Int):(Int)→Option ((Int)⊕((Unit)⊕(Bool))):=fun i2 =>
 (if(decide (i2<(a1.length:Int)))=true then(if 0≤i2∧i2<(a1.length:Int)then(if 0≤i2∧i2<(b1.length:Int)then(if((a1.getD i2.toNat (0:Int)) != (b1.getD i2.toNat (0:Int)))=true then some (Sum.inr (Sum.inr false))
 else some (Sum.inl (IntKind.i64.wrap (i2+(1:Int)))))else none)else none)
 else some (Sum.inr (Sum.inl ())))
def eS(a1 b1:List Int):Option (Bool) :=
 (if((a1.length:Int) != (b1.length:Int))=true then some false
 else((iter (iR a1 b1) (0:Int)).bind fun(r2:((Unit)⊕(Bool)))=>match r2 with
 | .inl _=>some true
 | .inr (r1)=>some r1))
theorem fA(β0 β1:Bool){a1:List Int}{b1:List Int}{res:Bool}(h:eS a1 b1=some res):
  Pure Tryd.prog 10 [.p β0 (.slice (.int .u8)) a1,.p β1 (.slice (.int .u8)) b1] (cE (gG false [⟨.bool,res⟩])):=by
 refine Pure.of_body bS Tryd.func10 (by kernel_rfl) rfl (nl rfl) (fun Bw w0=> ?_) rfl
 unfold eS at h
 refine G (aC (G (aW h (fun hb1 h=> ?_) (fun hb1 h=> ?_))))
 ·refine G (aZ (aH ?_))
  obtain rfl:=sI h
  exact aJ [.bool] (by kernel_rfl)
 refine aB (aA (aC (G (aF (qV h (fun i2=>aO [(0,.p β0 (.slice (.int .u8)) a1),(1,.p β1 (.slice (.int .u8)) b1),(5,.i64 i2)] [] 0) (fY (iU Tryd.f10.ntmps 0 (fun _=>aO [] [] 0)) (qA tb Tryd.f10.results.toList (fun r1=>[⟨.bool,r1⟩]))) (gg [] []) (fun i2 o h=> ?_) (fun r2 h e σ' hq=> ?_))))))
 ·unfold iR at h
  refine aC (G (aW h (fun hb6 h=> ?_) (fun hb6 h=> ?_)))
  ·refine aB (aA (aC (aF ?_)))
   obtain⟨c11,c12,h⟩:=g2 h
   refine GD a0 [(2,2,oc c11),(6,6,oc c12)] (aW h (fun hb7 h=> ?_) (fun hb7 h=> ?_))
   ·refine G (aZ ?_)
    obtain rfl:=sI h
    refine aX (aH (fE (aV ?_)))
    exact iB (aJ [.bool] (by kernel_rfl))
   refine aB (aN (aA (Ge ?_)))
   exact eB h (gg [] [])
  refine aI (bT ?_)
  obtain rfl:=sI h
  refine hY (cD ?_)
  exact dH (gg [] [])
 rcases r2 with _ | r1
 ·obtain⟨rfl,hle⟩:=hq
  refine fC ?_ hle
  refine aK (aA (G (aZ ?_)))
  obtain rfl:=sI h
  exact aJ [.bool] (by kernel_rfl)
 obtain⟨rfl,hr⟩:=hq
 refine aX (aH ?_)
 obtain rfl:=sI h
 exact hr
def gC  : Option (Bool) :=
 ((jJ ([99,108,97,115,115,32,65,32,66,59,32,107,101,101,112,32,65,32,47,32,66,59]:List UInt8)).bind fun(r3,r4) =>
 ((jJ ([99,108,97,115,115,32,88,32,74,59,32,106,111,105,110,32,74,32,47,32,88,59]:List UInt8)).bind fun(r7,r8) =>
 (((if(r4.1 != (0:Int))=true then some (true)
 else some ((r8.1 != (0:Int))))).bind fun v1=>(if v1=true then some false
 else((((dS r3 ([(0:Int),(1:Int),(0:Int)]:List Int)).bind fun r17 =>
 ((eS r17 ([(0:Int),(0:Int),(1:Int),(2:Int)]:List Int)).bind fun r18 =>
 (if r18=true then((dS r7 ([(1:Int),(0:Int),(1:Int),(1:Int),(0:Int)]:List Int)).bind fun r19 =>
 ((eS r19 ([(0:Int),(1:Int),(0:Int),(0:Int),(1:Int),(2:Int)]:List Int)).bind fun r20 =>
 some (r20)))
 else some (false))))).bind fun v2=>some v2)))))
theorem pK{res:Bool}(h:gC=some res):
  Pure Tryd.prog 8 [] (cE (gG false [⟨.bool,res⟩])):=by
 refine Pure.of_body bS Tryd.func8 (by kernel_rfl) rfl (nl rfl) (fun Bw w0=> ?_) rfl
 unfold gC at h
 refine G ?_
 obtain⟨⟨r3,r4⟩,q2,h⟩:=aD h
 refine GP 0 (oZ q2) ?_
 obtain⟨⟨r7,r8⟩,q4,h⟩:=aD h
 refine GP 0 (oZ q4) (aC (aC (gE h (fun v1=>aO [(1,.p false (.ptr Y7) r3),(3,.p false (.ptr Y7) r7),(20,.bo v1)] [] 0) (fun v1 h=> ?_) (fun v1 h=> ?_))))
 ·rcases cF h with⟨hb3,h⟩ | ⟨hb3,h⟩
  ·refine gS ⟨[(3,true),(7,true)],[]⟩ [(4,7,oc hb3)] ?_
   exact eN h (gg [] [])
  refine gS ⟨[(3,false),(7,false)],[]⟩ [(4,6,an hb3),(7,7,oc hb3)] ?_
  exact eN h (gg [] [])
 refine aA (aW h (fun hb4 h=> ?_) (fun hb4 h=> ?_))
 ·refine G (aZ (aH ?_))
  obtain rfl:=sI h
  exact aJ [.bool] (by kernel_rfl)
 refine aB (aA (aC (gE h (fun v2=>aO [(0,.bo v2)] [] 0) (fun v2 h=> ?_) (fun v2 h=> ?_))))
 ·obtain⟨r17,q13,h⟩:=aD h
  obtain⟨r18,q14,h⟩:=aD h
  rcases cF h with⟨hb7,h⟩ | ⟨hb7,h⟩
  ·obtain⟨r19,q15,h⟩:=aD h
   obtain⟨r20,q16,h⟩:=aD h
   have u_1:=(fM false true q13)
   have u_2:=(fA false true q14)
   have u_3:=(fM false true q15)
   have u_4:=(fA false true q16)
   refine gS ⟨[(5,true),(11,true)],[(2,(oP u_1)),(4,(oP u_2)),(8,(oP u_3)),(10,(oP u_4))]⟩ [(2,2,oc u_1),(4,4,oc u_2),(6,7,an hb7),(8,8,oc (And.intro hb7 u_3)),(9,9,an hb7),(10,10,oc (And.intro hb7 u_4)),(11,11,oc hb7)] ?_
   exact eN h (gg [] [])
  have u_1:=(fM false true q13)
  have u_2:=(fA false true q14)
  refine gS ⟨[(5,false),(11,false)],[(2,(oP u_1)),(4,(oP u_2))]⟩ [(2,2,oc u_1),(4,4,oc u_2),(6,11,oc hb7)] ?_
  exact eN h (gg [] [])
 refine aA (aZ ?_)
 obtain rfl:=sI h
 exact aJ [.bool] (by kernel_rfl)
end
end Go.Proofs.YtacpjjgochokcaaDoor.T
