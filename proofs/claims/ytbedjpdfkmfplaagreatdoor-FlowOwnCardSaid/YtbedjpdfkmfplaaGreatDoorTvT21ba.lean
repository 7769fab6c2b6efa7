/- Functions of the program as functions on data, and that the program's own come to them. -/
import Derived.Test.YtbedjpdfkmfplaaGreatDoorTvT21b0
import Derived.Test.YtbedjpdfkmfplaaGreatDoorTvT21ba1
import Derived.Test.YtbedjpdfkmfplaaGreatDoorTvT21ba3
namespace Go.Proofs.YtbedjpdfkmfplaaGreatDoor.T
open Go Go.Tv Go.Proofs
noncomputable section
set_option maxRecDepth 100000
set_option maxHeartbeats 4000000
def gQ(d1:List Z2)(d2:List Int)(i1 x1 x2 x3 x4 x5 x6:Int)(x7:Option Nat):((List (Int×Int))×Int)→Option (((List (Int×Int))×Int)⊕(List (Int×Int))):=fun(v7,v8) =>
 (if(decide (v8≥i1))=true then(if 0≤(IntKind.i64.wrap (v8 - i1))∧(IntKind.i64.wrap (v8 - i1))<(v7.length:Int)then(if(IntKind.i64.wrap (v8 - i1)).toNat<v7.length then(((if(v8 == i1)=true then some (true)
 else(if 0≤v8∧v8<(d2.length:Int)then some (((d2.getD v8.toNat 0) != 0))else none))).bind fun v10=>(((if v10=true then((p8 d1 d2 v8 i1 x1 (v7.set ((IntKind.i64.wrap (v8 - i1)).toNat) (0,(-1:Int))) x2 x3 x4 x5 x6 x7).bind fun r12 =>
 (if 0≤(IntKind.i64.wrap (v8 - i1))∧(IntKind.i64.wrap (v8 - i1))<((v7.set ((IntKind.i64.wrap (v8 - i1)).toNat) (0,(-1:Int))).length:Int)then(if(IntKind.i64.wrap (v8 - i1)).toNat<(v7.set ((IntKind.i64.wrap (v8 - i1)).toNat) (0,(-1:Int))).length then some (((v7.set ((IntKind.i64.wrap (v8 - i1)).toNat) (0,(-1:Int))).set ((IntKind.i64.wrap (v8 - i1)).toNat) (r12.1,r12.2)))else none)else none))
 else some ((v7.set ((IntKind.i64.wrap (v8 - i1)).toNat) (0,(-1:Int)))))).bind fun v11=>some (Sum.inl (v11,(IntKind.i64.wrap (v8 - 1))))))else none)else none)
 else some (Sum.inr v7))
def gU(d1:List Z2)(d2:List Int)(i1 x1 x3:Int)(v9:List (Int×Int)):((List Z2)×Int)→Option (((List Z2)×Int)⊕(List Z2)):=fun(v14,v15) =>
 (if(decide (v15<x1))=true then(if 0≤(IntKind.i64.wrap (v15 - i1))∧(IntKind.i64.wrap (v15 - i1))<(v9.length:Int)then(if(IntKind.i64.wrap (v15 - i1)).toNat<v9.length then(if 0≤(v9.getD ((IntKind.i64.wrap (v15 - i1)).toNat) (0,0)).2∧(v9.getD ((IntKind.i64.wrap (v15 - i1)).toNat) (0,0)).2<(d2.length:Int)then((kN d1 d2 v15 ((v9.getD ((IntKind.i64.wrap (v15 - i1)).toNat) (0,0)).2) (d2.getD (((v9.getD ((IntKind.i64.wrap (v15 - i1)).toNat) (0,0)).2).toNat) 0) x3).bind fun r18 =>
 (if(v14.length+([(r18.1,(r18.2.1,(r18.2.2.1,r18.2.2.2)))]:List Z2).length)*32≤140737488355328∧v14.length+([(r18.1,(r18.2.1,(r18.2.2.1,r18.2.2.2)))]:List Z2).length≤9223372036854775807 then some (Sum.inl ((v14++([(r18.1,(r18.2.1,(r18.2.2.1,r18.2.2.2)))]:List Z2)),(v9.getD ((IntKind.i64.wrap (v15 - i1)).toNat) (0,0)).2))else none))else none)else none)else none)
 else some (Sum.inr v14))
def oF(d1:List Z2)(d2:List Int)(i1 x1 x2 x3 x4 x5 x6:Int)(x7:Option Nat):Option ((List Z2)×Bool) :=
 (if(decide (i1≥x1))=true then some (([]:List Z2),true)
 else(if 0≤(IntKind.i64.wrap ((IntKind.i64.wrap (x1 - i1))+1))∧(IntKind.i64.wrap ((IntKind.i64.wrap (x1 - i1))+1))≤(IntKind.i64.wrap ((IntKind.i64.wrap (x1 - i1))+1))∧16*(IntKind.i64.wrap ((IntKind.i64.wrap (x1 - i1))+1))≤281474976710656∧(IntKind.i64.wrap ((IntKind.i64.wrap (x1 - i1))+1))≤9223372036854775807 then((iter (gQ d1 d2 i1 x1 x2 x3 x4 x5 x6 x7) ((List.replicate (IntKind.i64.wrap ((IntKind.i64.wrap (x1 - i1))+1)).toNat (0,0)),(IntKind.i64.wrap (x1 - 1)))).bind fun v9=>(if 0≤(0:Int)∧0<(v9.length:Int)then(if(0:Int).toNat<v9.length then(if(decide (((v9.getD ((0:Int).toNat) (0,0)).2)<0))=true then some (([]:List Z2),false)
 else((iter (gU d1 d2 i1 x1 x3 v9) (([]:List Z2),i1)).bind fun v16=>some (v16,true)))else none)else none))else none))
theorem aAn(β0 β1:Bool){d1:List Z2}{d2:List Int}{i1:Int}{x1:Int}{x2:Int}{x3:Int}{x4:Int}{x5:Int}{x6:Int}{x7:Option Nat}{res:(List Z2)×Bool}(h:oF d1 d2 i1 x1 x2 x3 x4 x5 x6 x7=some res):
  Pure Tryz.prog 93 [.agg [.p β0 (.slice cQ) d1,.p β1 (.slice (.int .u8)) d2],.i64 i1,.i64 x1,.agg [.i64 x2,.i64 x3,.u8 x4,.i64 x5,.i64 x6,.p false .flt x7]] (aX (bJ false [⟨(.slice cQ),res.1⟩,⟨.bool,res.2⟩])):=by
 refine Pure.of_body bB Tryz.func93 (by kernel_rfl) rfl (nl rfl) (fun Bw w0=> ?_) rfl
 unfold oF at h
 refine G (aC (G (aO h (fun hb1 h=> ?_) (fun hb1 h=> ?_))))
 ·refine G (aL (aE ?_))
  obtain rfl:=sI h
  exact aD [(.slice cQ),.bool] (by kernel_rfl)
 refine aB (aA (GC 4 h (fun h=>aC (G (aF (cW h (fun(v7,v8)=>aM [(1,.i64 i1),(2,.i64 x1),(4,.adr 0 0 2 0),(7,.adr 1 0 6 0),(10,.sl 2),(11,.i64 v8)] (aIL β0 d1 β1 d2 x2 x3 x4 x5 x6 x7 v7) 3) 0 (fun v9=>aM [(1,.i64 i1),(2,.i64 x1),(4,.adr 0 0 2 0),(7,.adr 1 0 6 0),(10,.sl 2)] (aIL β0 d1 β1 d2 x2 x3 x4 x5 x6 x7 v9) 3) (gg [] [0,8,88]) (fun y o h=> ?_) (fun v9 h=> ?_)))))))
 ·obtain⟨v7,v8⟩:=y
  unfold gQ at h
  refine aC (G (aO h (fun hb14 h=> ?_) (fun hb14 h=> ?_)))
  ·refine aB (aA (aC (aF ?_)))
   obtain⟨c35,c36,h⟩:=g2 h
   refine GN a0 [(5,5,oc c35),(6,6,oc c36)] (aC (bO h (fun v10=>aM [(1,.i64 i1),(2,.i64 x1),(4,.adr 0 0 2 0),(7,.adr 1 0 6 0),(10,.sl 2),(11,.i64 v8),(46,.bo v10)] (aIL β0 d1 β1 d2 x2 x3 x4 x5 x6 x7 (v7.set ((IntKind.i64.wrap (v8 - i1)).toNat) (0,(-1:Int)))) 3) (fun v10 h=> ?_) (fun v10 h=> ?_)))
   ·rcases aW h with⟨hb17,h⟩ | ⟨hb17,h⟩
    ·refine bS ⟨[(3,true),(10,true)],[]⟩ [(4,10,oc hb17)] ?_
     exact eN h (gg [] [0,1,2])
    obtain⟨c39,h⟩:=aS h
    refine bS ⟨[(3,false),(10,false)],[]⟩ [(4,6,an hb17),(7,7,oc (And.intro hb17 c39)),(8,9,an hb17),(10,10,oc hb17)] ?_
    exact eN h (gg [] [0,1,2])
   refine aA (bO h (fun v11=>aM [(1,.i64 i1),(2,.i64 x1),(4,.adr 0 0 2 0),(7,.adr 1 0 6 0),(10,.sl 2),(11,.i64 v8)] (aIL β0 d1 β1 d2 x2 x3 x4 x5 x6 x7 v11) 3) (fun v11 h=> ?_) (fun v11 h=> ?_))
   ·refine aO h (fun hb19 h=> ?_) (fun hb19 h=> ?_)
    ·obtain⟨r12,q12,h⟩:=aG h
     obtain⟨c46,c47,h⟩:=g2 h
     have u_1:=(aBu β0 β1 true q12)
     refine bS ⟨[],[(10,(oP u_1))]⟩ [(10,10,oc u_1),(11,11,oc c46),(12,12,oc c47)] ?_
     exact eN h (gg [] [0,1,2])
    refine aB ?_
    exact eN h (gg [] [0,1,2])
   refine aK (aA (Ge ?_))
   exact eB h (gg [] [0,1,2])
  refine aH (aY ?_)
  exact eX h (gg [] [0,1,2])
 refine aJ (aA (aC ?_))
 obtain⟨c50,c51,h⟩:=g2 h
 refine GN a0 [(1,1,oc c50),(3,3,oc c51)] (aO h (fun hb20 h=> ?_) (fun hb20 h=> ?_))
 ·refine G (aL (aE ?_))
  obtain rfl:=sI h
  exact aD [(.slice cQ),.bool] (by kernel_rfl)
 refine aB (aA (G (aC (G (aF (cW h (fun(v14,v15)=>aM [(1,.i64 i1),(2,.i64 x1),(4,.adr 0 0 2 0),(7,.adr 1 0 6 0),(10,.sl 2),(12,.sl 3),(13,.i64 v15)] (aLh β0 d1 β1 d2 x2 x3 x4 x5 x6 x7 v9 v14) 4) 2 (fun v16=>aM [(12,.sl 0)] [(0,.arr 181 cQ v16)] 1) (gg [.nilS 12 67 181 cQ] [0,1,2,67]) (fun y o h=> ?_) (fun v16 h=> ?_)))))))
 ·obtain⟨v14,v15⟩:=y
  unfold gU at h
  refine aC (G (aO h (fun hb23 h=> ?_) (fun hb23 h=> ?_)))
  ·refine aB (aA (aF ?_))
   obtain⟨c70,c71,h⟩:=g2 h
   refine GN a0 [(4,4,oc c70),(6,6,oc c71)] ?_
   obtain⟨c74,h⟩:=aS h
   obtain⟨r18,q18,h⟩:=aG h
   obtain⟨c75,h⟩:=aS h
   have u_1:=(sA β0 β1 q18)
   refine GD ⟨[],[(11,(oP u_1))]⟩ [(7,7,oc c74),(11,11,oc u_1),(13,13,oc c75)] (Ge (aK ?_))
   exact eB h (gg [] [0,1,2,196])
  refine aH (aY ?_)
  exact eX h (gg [] [3])
 refine aJ (aA (G (aL ?_)))
 obtain rfl:=sI h
 exact aD [(.slice cQ),.bool] (by kernel_rfl)
def iN(d1:List Z2)(d2:List Int)(x1 x2 x3:Int):(Int×Int×Int×Int×Int)→Option ((Int×Int×Int×Int×Int)⊕(Int×Int)):=fun(v19,v20,v21,v22,v23) =>
 (if(decide (v23≤x1))=true then(if 0≤(IntKind.i64.wrap (v23 - 1))∧(IntKind.i64.wrap (v23 - 1))<(d1.length:Int)then((kQ ((d1.getD ((IntKind.i64.wrap (v23 - 1)).toNat) (0,0,0,0)).1) ((d1.getD ((IntKind.i64.wrap (v23 - 1)).toNat) (0,0,0,0)).2.1) ((d1.getD ((IntKind.i64.wrap (v23 - 1)).toNat) (0,0,0,0)).2.2.1) ((d1.getD ((IntKind.i64.wrap (v23 - 1)).toNat) (0,0,0,0)).2.2.2) v21 x3).bind fun r26 =>
 ((gZ d1 d2 (IntKind.i64.wrap (v23 - 1)) v23).bind fun r28 =>
 (((if(r28 == v23)=true then some (r26)
 else some (v22))).bind fun v26=>(if(decide (v26 > x2))=true then some (Sum.inr (v19,v20))
 else((mX d1 d2 v23).bind fun(r31,r32) =>
 (((if r32=true then(if(r31 != 3)=true then some (true)
 else some ((decide (v26<x2))))
 else some (false))).bind fun v27=>(((if v27=true then some (v23)
 else some (v19))).bind fun v28=>some (Sum.inl (v28,v23,r26,v26,(IntKind.i64.wrap (v23+1)))))))))))else none)
 else some (Sum.inr (v19,v20)))
def pR(d1:List Z2)(d2:List Int)(i1 x1 x2 x3 x4 x5 x6:Int)(x7:Option Nat):Option Z2 :=
 ((iter (iN d1 d2 x1 x2 x3) ((-1:Int),(IntKind.i64.wrap (i1+1)),0,0,(IntKind.i64.wrap (i1+1)))).bind fun(v24,v25)=>(if(decide (v24≥0))=true then(if 0≤v24∧v24<(d2.length:Int)then((kN d1 d2 i1 v24 (d2.getD v24.toNat 0) x3).bind fun r35 =>
 some (r35.1,(r35.2.1,(r35.2.2.1,r35.2.2.2))))else none)
 else(((if(v25 == x1)=true then(if 0≤x1∧x1<(d2.length:Int)then some ((d2.getD x1.toNat 0))else none)
 else some (4))).bind fun v29=>(((if(decide (v25<x1))=true then(if 0≤v25∧v25<(d2.length:Int)then some (((d2.getD v25.toNat 0) == 1))else none)
 else some (false))).bind fun v30=>(((if v30=true then some (1)
 else some (v29))).bind fun v31=>((kN d1 d2 i1 v25 v31 x3).bind fun r37 =>
 some (r37.1,(r37.2.1,(r37.2.2.1,r37.2.2.2)))))))))
theorem aBp(β0 β1:Bool){d1:List Z2}{d2:List Int}{i1:Int}{x1:Int}{x2:Int}{x3:Int}{x4:Int}{x5:Int}{x6:Int}{x7:Option Nat}{res:Int×Int×Int×Int}(h:pR d1 d2 i1 x1 x2 x3 x4 x5 x6 x7=some res):
  Pure Tryz.prog 134 [.agg [.p β0 (.slice cQ) d1,.p β1 (.slice (.int .u8)) d2],.i64 i1,.i64 x1,.agg [.i64 x2,.i64 x3,.u8 x4,.i64 x5,.i64 x6,.p false .flt x7]] (aX (bJ false [⟨cQ,res⟩])):=by
 refine Pure.of_body bB Tryz.func134 (by kernel_rfl) rfl (nl rfl) (fun Bw w0=> ?_) rfl
 unfold pR at h
 refine G (G (G (aC (G (aF (cW h (fun(v19,v20,v21,v22,v23)=>aM [(1,.i64 i1),(2,.i64 x1),(4,.adr 0 0 2 0),(7,.adr 1 0 6 0),(8,.adr 2 0 4 0),(9,.i64 v19),(10,.i64 v20),(11,.i64 v21),(12,.i64 v22),(13,.i64 v23)] (aCq β0 d1 β1 d2 x2 x3 x4 x5 x6 x7 0 (0:Int) (0:Int) (0:Int)) 3) 0 (fun(v24,v25)=>aM [(1,.i64 i1),(2,.i64 x1),(4,.adr 0 0 2 0),(7,.adr 1 0 6 0),(8,.adr 2 0 4 0),(9,.i64 v24),(10,.i64 v25)] (aCq β0 d1 β1 d2 x2 x3 x4 x5 x6 x7 0 (0:Int) (0:Int) (0:Int)) 3) (gg [] [0,8,16]) (fun y o h=> ?_) (fun r33 h=> ?_)))))))
 ·obtain⟨v19,v20,v21,v22,v23⟩:=y
  unfold iN at h
  refine aC (G (aO h (fun hb37 h=> ?_) (fun hb37 h=> ?_)))
  ·refine aB (aA (aC (aF (GC 4 h (fun h=>aC ?_)))))
   obtain⟨r26,q20,h⟩:=aG h
   refine GP 4 (rB q20) ?_
   obtain⟨r28,q22,h⟩:=aG h
   refine GP 4 (sE β0 β1 q22) (bO h (fun v26=>aM [(1,.i64 i1),(2,.i64 x1),(4,.adr 0 0 2 0),(7,.adr 1 0 6 0),(8,.adr 2 0 4 0),(9,.i64 v19),(10,.i64 v20),(11,.i64 r26),(12,.i64 v26),(13,.i64 v23)] (aCq β0 d1 β1 d2 x2 x3 x4 x5 x6 x7 0 (0:Int) (0:Int) (0:Int)) 3) (fun v26 h=> ?_) (fun v26 h=> ?_))
   ·refine aO h (fun hb39 h=> ?_) (fun hb39 h=> ?_)
    ·refine Ge ?_
     exact eN h (gg [] [0,1,2])
    refine aB ?_
    exact eN h (gg [] [0,1,2])
   refine aA (aC (G (aO h (fun hb40 h=> ?_) (fun hb40 h=> ?_))))
   ·refine aH (aY (kP rfl (aY ?_)))
    exact eX h (gg [] [0,1,2])
   refine aB (aA (G ?_))
   obtain⟨⟨r31,r32⟩,q24,h⟩:=aG h
   refine GP 2 (zN β0 β1 q24) (aC (bO h (fun v27=>aM [(1,.i64 i1),(2,.i64 x1),(4,.adr 0 0 2 0),(7,.adr 1 0 6 0),(8,.adr 2 0 4 0),(9,.i64 v19),(10,.i64 v23),(11,.i64 r26),(12,.i64 v26),(13,.i64 v23),(67,.bo v27)] (aCq β0 d1 β1 d2 x2 x3 x4 x5 x6 x7 0 (0:Int) (0:Int) (0:Int)) 3) (fun v27 h=> ?_) (fun v27 h=> ?_)))
   ·rcases aW h with⟨hb45,h⟩ | ⟨hb45,h⟩
    ·rcases aW h with⟨hb46,h⟩ | ⟨hb46,h⟩
     ·refine bS ⟨[(1,true),(4,true),(9,true),(10,true)],[]⟩ [(2,4,an hb45),(5,8,oc hb46),(9,9,oc (And.intro hb45 hb46)),(10,10,oc hb45)] ?_
      exact eN h (gg [] [0,1,2])
     refine bS ⟨[(1,true),(4,false),(9,false),(10,true)],[]⟩ [(2,4,an hb45),(5,8,an hb46),(9,9,oc (And.intro hb45 hb46)),(10,10,oc hb45)] ?_
     exact eN h (gg [] [0,1,2])
    refine bS ⟨[(1,false),(10,false)],[]⟩ [(2,4,oc hb45),(9,10,oc hb45)] ?_
    exact eN h (gg [] [0,1,2])
   refine aA (bO h (fun v28=>aM [(1,.i64 i1),(2,.i64 x1),(4,.adr 0 0 2 0),(7,.adr 1 0 6 0),(8,.adr 2 0 4 0),(9,.i64 v28),(10,.i64 v23),(11,.i64 r26),(12,.i64 v26),(13,.i64 v23)] (aCq β0 d1 β1 d2 x2 x3 x4 x5 x6 x7 0 (0:Int) (0:Int) (0:Int)) 3) (fun v28 h=> ?_) (fun v28 h=> ?_))
   ·refine aO h (fun hb48 h=> ?_) (fun hb48 h=> ?_)
    ·refine Ge ?_
     exact eN h (gg [] [0,1,2])
    refine aB ?_
    exact eN h (gg [] [0,1,2])
   refine aK (aA (Ge ?_))
   exact eB h (gg [] [0,1,2])
  refine aH (aY ?_)
  exact eX h (gg [] [0,1,2])
 obtain⟨v24,v25⟩:=r33
 refine aJ (aA (aC (G (aO h (fun hb49 h=> ?_) (fun hb49 h=> ?_)))))
 ·obtain⟨c10,h⟩:=aS h
  obtain⟨r35,q26,h⟩:=aG h
  have u_1:=(sA β0 β1 q26)
  refine GD ⟨[],[(10,(oP u_1))]⟩ [(6,6,oc c10),(10,10,oc u_1)] (aL (aE ?_))
  obtain rfl:=sI h
  exact aD [cQ] (by kernel_rfl)
 refine aB (aA (G (aC (G (bO h (fun v29=>aM [(1,.i64 i1),(2,.i64 x1),(4,.adr 0 0 2 0),(7,.adr 1 0 6 0),(8,.adr 2 0 4 0),(10,.i64 v25),(17,.u8 v29)] (aCq β0 d1 β1 d2 x2 x3 x4 x5 x6 x7 0 (0:Int) (0:Int) (0:Int)) 3) (fun v29 h=> ?_) (fun v29 h=> ?_))))))
 ·refine aO h (fun hb51 h=> ?_) (fun hb51 h=> ?_)
  ·refine GCe 3 h (fun h=> ?_)
   exact eN h (gg [] [0,1,2])
  refine aB ?_
  exact eN h (gg [] [0,1,2])
 refine aA (aC (aC (bO h (fun v30=>aM [(1,.i64 i1),(4,.adr 0 0 2 0),(7,.adr 1 0 6 0),(8,.adr 2 0 4 0),(10,.i64 v25),(17,.u8 v29),(100,.bo v30)] (aCq β0 d1 β1 d2 x2 x3 x4 x5 x6 x7 0 (0:Int) (0:Int) (0:Int)) 3) (fun v30 h=> ?_) (fun v30 h=> ?_))))
 ·rcases aW h with⟨hb54,h⟩ | ⟨hb54,h⟩
  ·obtain⟨c17,h⟩:=aS h
   refine bS ⟨[(3,true),(10,true)],[]⟩ [(4,6,an hb54),(7,7,oc (And.intro hb54 c17)),(8,9,an hb54),(10,10,oc hb54)] ?_
   exact eN h (gg [] [0,1,2])
  refine bS ⟨[(3,false),(10,false)],[]⟩ [(4,10,oc hb54)] ?_
  exact eN h (gg [] [0,1,2])
 refine aA (bO h (fun v31=>aM [(1,.i64 i1),(4,.adr 0 0 2 0),(7,.adr 1 0 6 0),(8,.adr 2 0 4 0),(10,.i64 v25),(17,.u8 v31)] (aCq β0 d1 β1 d2 x2 x3 x4 x5 x6 x7 0 (0:Int) (0:Int) (0:Int)) 3) (fun v31 h=> ?_) (fun v31 h=> ?_))
 ·refine aO h (fun hb56 h=> ?_) (fun hb56 h=> ?_)
  ·refine Ge ?_
   exact eN h (gg [] [0,1,2])
  refine aB ?_
  exact eN h (gg [] [0,1,2])
 refine aA ?_
 obtain⟨r37,q28,h⟩:=aG h
 refine GP 6 (sA β0 β1 q28) (aL ?_)
 obtain rfl:=sI h
 exact aD [cQ] (by kernel_rfl)
def fU(p1:List Z2)(p2:List Int)(to1 c1 c2 c3 c4 c5:Int)(c6:Option Nat):(Int×List Z2)→Option ((Int×List Z2)⊕(List Z2)):=fun(from3,out2) =>
 (if(decide (from3<to1))=true then((pR p1 p2 from3 to1 c1 c2 c3 c4 c5 c6).bind fun r6 =>
 (if(out2.length+([(r6.1,(r6.2.1,(r6.2.2.1,r6.2.2.2)))]:List Z2).length)*32≤140737488355328∧out2.length+([(r6.1,(r6.2.1,(r6.2.2.1,r6.2.2.2)))]:List Z2).length≤9223372036854775807 then some (Sum.inl (r6.2.1,(out2++([(r6.1,(r6.2.1,(r6.2.2.1,r6.2.2.2)))]:List Z2))))else none))
 else some (Sum.inr out2))
def lM(p1:List Z2)(p2:List Int)(from1 to1 c1 c2 c3 c4 c5:Int)(c6:Option Nat):Option (List Z2) :=
 ((iter (fU p1 p2 to1 c1 c2 c3 c4 c5 c6) (from1,([]:List Z2))).bind fun out3=>some out3)
theorem V2(β0 β1:Bool){p1:List Z2}{p2:List Int}{from1:Int}{to1:Int}{c1:Int}{c2:Int}{c3:Int}{c4:Int}{c5:Int}{c6:Option Nat}{res:List Z2}(h:lM p1 p2 from1 to1 c1 c2 c3 c4 c5 c6=some res):
  Pure Tryz.prog 94 [.agg [.p β0 (.slice cQ) p1,.p β1 (.slice (.int .u8)) p2],.i64 from1,.i64 to1,.agg [.i64 c1,.i64 c2,.u8 c3,.i64 c4,.i64 c5,.p false .flt c6]] (aX (bJ false [⟨(.slice cQ),res⟩])):=by
 refine Pure.of_body bB Tryz.func94 (by kernel_rfl) rfl (nl rfl) (fun Bw w0=> ?_) rfl
 unfold lM at h
 refine G (G (aC (aF (cW h (fun(from3,out2)=>aM [(1,.i64 from3),(2,.i64 to1),(4,.adr 0 0 2 0),(7,.adr 1 0 6 0),(9,.sl 2)] (aJu β0 p1 β1 p2 c1 c2 c3 c4 c5 c6 out2) 3) 0 (fun out3=>aM [(9,.sl 0)] [(0,.arr 181 cQ out3)] 1) (gg [.nilS 9 32 181 cQ] [0,8,32]) (fun y o h=> ?_) (fun out3 h=> ?_)))))
 ·obtain⟨from3,out2⟩:=y
  unfold fU at h
  refine aC (G (aO h (fun hb3 h=> ?_) (fun hb3 h=> ?_)))
  ·refine aB (aA (aF ?_))
   obtain⟨r6,q6,h⟩:=aG h
   refine GP 4 (aBp β0 β1 q6) (GC 3 h (fun h=>Ge (aK ?_)))
   exact eB h (gg [] [0,1,107])
  refine aH (aY ?_)
  exact eX h (gg [] [2])
 refine aJ (aA (G (aL ?_)))
 obtain rfl:=sI h
 exact aD [(.slice cQ)] (by kernel_rfl)
def iD(p1:List Z2)(p2:List Int)(from1 to1 c1 c2 c3 c4 c5:Int)(c6:Option Nat):Option ((List Z2)×Bool) :=
 (((if(c3 == 1)=true then((oF p1 p2 from1 to1 c1 c2 c3 c4 c5 c6).bind fun(r9,r10) =>
 (if r10=true then some ((Sum.inr (r9,false)))
 else some ((Sum.inl ()))))
 else some ((Sum.inl ())))).bind fun(r11:((Unit)⊕((List Z2)×Bool)))=>match r11 with
 | .inl _=>((lM p1 p2 from1 to1 c1 c2 c3 c4 c5 c6).bind fun r13 =>
 some (r13,(c3 == 1)))
 | .inr ((r5,r6))=>some (r5,r6))
theorem xM(β0 β1:Bool){p1:List Z2}{p2:List Int}{from1:Int}{to1:Int}{c1:Int}{c2:Int}{c3:Int}{c4:Int}{c5:Int}{c6:Option Nat}{res:(List Z2)×Bool}(h:iD p1 p2 from1 to1 c1 c2 c3 c4 c5 c6=some res):
  Pure Tryz.prog 63 [.agg [.p β0 (.slice cQ) p1,.p β1 (.slice (.int .u8)) p2],.i64 from1,.i64 to1,.agg [.i64 c1,.i64 c2,.u8 c3,.i64 c4,.i64 c5,.p false .flt c6]] (aX (bJ false [⟨(.slice cQ),res.1⟩,⟨.bool,res.2⟩])):=by
 refine Pure.of_body bB Tryz.func63 (by kernel_rfl) rfl (nl rfl) (fun Bw w0=> ?_) rfl
 unfold iD at h
 refine G (aC (G (aEl h (eI (sT Tryz.f63.ntmps (fun _=>aM [(1,.i64 from1),(2,.i64 to1),(4,.adr 0 0 2 0),(7,.adr 1 0 6 0)] (aKn β0 p1 β1 p2 c1 c2 c3 c4 c5 c6) 2)) (iC tb Tryz.f63.results.toList (fun(r5,r6)=>[⟨(.slice cQ),r5⟩,⟨.bool,r6⟩]))) (fun r11 h=> ?_) (fun r11 h e σ' hq=> ?_))))
 ·refine aO h (fun hb3 h=> ?_) (fun hb3 h=> ?_)
  ·obtain⟨⟨r9,r10⟩,q4,h⟩:=aG h
   refine GP 4 (aAn β0 β1 q4) (G (aO h (fun hb4 h=> ?_) (fun hb4 h=> ?_)))
   ·refine G (aL ?_)
    obtain rfl:=sI h
    refine aU ?_
    exact bW (aD [(.slice cQ),.bool] (by kernel_rfl))
   refine aB ?_
   obtain rfl:=sI h
   refine bI ?_
   exact dI (gg [] [0,8])
  refine aB ?_
  obtain rfl:=sI h
  refine bI ?_
  exact dI (gg [] [0,8])
 rcases r11 with _ | ⟨r5,r6⟩
 ·obtain⟨rfl,hle⟩:=hq
  refine dH ?_ hle
  refine aA ?_
  obtain⟨r13,q6,h⟩:=aG h
  have u_1:=(V2 β0 β1 q6)
  refine GD ⟨[],[(4,(oP u_1))]⟩ [(4,4,oc u_1)] (aL ?_)
  obtain rfl:=sI h
  exact aD [(.slice cQ),.bool] (by kernel_rfl)
 obtain⟨rfl,hr⟩:=hq
 refine aE ?_
 obtain rfl:=sI h
 exact hr
def tL(s1:List Z2):Option (List Z2):=(if s1.isEmpty=true then some []else(if(([]:List Z2).length+s1.length)*32≤140737488355328∧([]:List Z2).length+s1.length≤9223372036854775807 then some (([]:List Z2)++s1)else none))
theorem aDq(β0:Bool){s1:List Z2}{res:List Z2}(h:tL s1=some res):
  Owns Tryz.prog 95 [.p β0 (.slice cQ) s1] [] (.sl 0) [(0,.arr 181 cQ res)]:=by
 refine Owns.of_body bB Tryz.func95 (by kernel_rfl) rfl (nl rfl) (fun Bw w0=> ?_)
 unfold tL at h
 refine G (aC (aEG bB (d:=3) (e:=4) (A:=cQ) (xs:=s1) (el:=181) (β:=β0) rfl rfl rfl rfl rfl (by kernel_rfl) (by kernel_rfl) (by kernel_rfl) (fun b hb=> ?_)))
 cases b with
 | true =>
  obtain rfl:=hb rfl
  obtain rfl:=sI h
  exact sX rfl (G (aL (aE (aR [none] [.nilS 2 1000 181 cQ] [1000] [(2,.sl 0)] [(0,.arr 181 cQ [])] 1 0 (by kernel_rfl) (by kernel_rfl) (by kernel_rfl)))))
 | false =>
  replace h:(if(([]:List Z2).length+s1.length)*32≤140737488355328∧([]:List Z2).length+s1.length≤9223372036854775807 then some (([]:List Z2)++s1)else none)=some res:=by cases s1 <;> simpa using h
  refine P4 rfl (aB (aA (GC 2 h (fun h=>aL ?_))))
  obtain rfl:=sI h
  exact aR [none] [] [40] [(2,.sl 0)] [(0,.arr 181 cQ (([]:List Z2)++s1))] 1 0 (by kernel_rfl) (by kernel_rfl) (by kernel_rfl)
def gS(by1:Int)(r2:List Z2):((List Z2)×Int)→Option (((List Z2)×Int)⊕(List Z2)):=fun(out2,v2) =>
 (if(decide (v2<(r2.length:Int)))=true then(if 0≤v2∧v2<(out2.length:Int)then(if v2.toNat<out2.length then(if 0≤v2∧v2<(out2.length:Int)then(if v2.toNat<out2.length then(if 0≤v2∧v2<((out2.set v2.toNat ((IntKind.i64.wrap (((out2.getD v2.toNat (0,0,0,0)).1)+by1)),((out2.getD v2.toNat (0,0,0,0)).2.1,((out2.getD v2.toNat (0,0,0,0)).2.2.1,(out2.getD v2.toNat (0,0,0,0)).2.2.2)))).length:Int)then(if v2.toNat<(out2.set v2.toNat ((IntKind.i64.wrap (((out2.getD v2.toNat (0,0,0,0)).1)+by1)),((out2.getD v2.toNat (0,0,0,0)).2.1,((out2.getD v2.toNat (0,0,0,0)).2.2.1,(out2.getD v2.toNat (0,0,0,0)).2.2.2)))).length then(if 0≤v2∧v2<((out2.set v2.toNat ((IntKind.i64.wrap (((out2.getD v2.toNat (0,0,0,0)).1)+by1)),((out2.getD v2.toNat (0,0,0,0)).2.1,((out2.getD v2.toNat (0,0,0,0)).2.2.1,(out2.getD v2.toNat (0,0,0,0)).2.2.2)))).length:Int)then(if v2.toNat<(out2.set v2.toNat ((IntKind.i64.wrap (((out2.getD v2.toNat (0,0,0,0)).1)+by1)),((out2.getD v2.toNat (0,0,0,0)).2.1,((out2.getD v2.toNat (0,0,0,0)).2.2.1,(out2.getD v2.toNat (0,0,0,0)).2.2.2)))).length then some (Sum.inl (((out2.set v2.toNat ((IntKind.i64.wrap (((out2.getD v2.toNat (0,0,0,0)).1)+by1)),((out2.getD v2.toNat (0,0,0,0)).2.1,((out2.getD v2.toNat (0,0,0,0)).2.2.1,(out2.getD v2.toNat (0,0,0,0)).2.2.2)))).set v2.toNat (((out2.set v2.toNat ((IntKind.i64.wrap (((out2.getD v2.toNat (0,0,0,0)).1)+by1)),((out2.getD v2.toNat (0,0,0,0)).2.1,((out2.getD v2.toNat (0,0,0,0)).2.2.1,(out2.getD v2.toNat (0,0,0,0)).2.2.2)))).getD v2.toNat (0,0,0,0)).1,((IntKind.i64.wrap ((((out2.set v2.toNat ((IntKind.i64.wrap (((out2.getD v2.toNat (0,0,0,0)).1)+by1)),((out2.getD v2.toNat (0,0,0,0)).2.1,((out2.getD v2.toNat (0,0,0,0)).2.2.1,(out2.getD v2.toNat (0,0,0,0)).2.2.2)))).getD v2.toNat (0,0,0,0)).2.1)+by1)),(((out2.set v2.toNat ((IntKind.i64.wrap (((out2.getD v2.toNat (0,0,0,0)).1)+by1)),((out2.getD v2.toNat (0,0,0,0)).2.1,((out2.getD v2.toNat (0,0,0,0)).2.2.1,(out2.getD v2.toNat (0,0,0,0)).2.2.2)))).getD v2.toNat (0,0,0,0)).2.2.1,((out2.set v2.toNat ((IntKind.i64.wrap (((out2.getD v2.toNat (0,0,0,0)).1)+by1)),((out2.getD v2.toNat (0,0,0,0)).2.1,((out2.getD v2.toNat (0,0,0,0)).2.2.1,(out2.getD v2.toNat (0,0,0,0)).2.2.2)))).getD v2.toNat (0,0,0,0)).2.2.2)))),(IntKind.i64.wrap (v2+1))))else none)else none)else none)else none)else none)else none)else none)else none)
 else some (Sum.inr out2))
def jI(l1:List Z2)(by1:Int):Option (List Z2) :=
 ((tL l1).bind fun r2 =>
 ((iter (gS by1 r2) (r2,0)).bind fun out3=>some out3))
theorem pE(β0:Bool){l1:List Z2}{by1:Int}{res:List Z2}(h:jI l1 by1=some res):
  Pure Tryz.prog 64 [.p β0 (.slice cQ) l1,.i64 by1] (aX (bJ false [⟨(.slice cQ),res⟩])):=by
 refine Pure.of_body bB Tryz.func64 (by kernel_rfl) rfl (nl rfl) (fun Bw w0=> ?_) rfl
 unfold jI at h
 refine G ?_
 obtain⟨r2,q2,h⟩:=aG h
 refine GO 1 [] (aDq β0 q2) (aC (G (aF (cW h (fun(out2,v2)=>aM [(1,.i64 by1),(5,.sl 0),(10,.i64 (r2.length:Int)),(11,.i64 v2)] [(0,.arr 181 cQ out2)] 1) 0 (fun out3=>aM [(5,.sl 0)] [(0,.arr 181 cQ out3)] 1) (gg [] [16]) (fun y o h=> ?_) (fun out3 h=> ?_)))))
 ·obtain⟨out2,v2⟩:=y
  unfold gS at h
  refine G (aC (aO h (fun hb3 h=> ?_) (fun hb3 h=> ?_)))
  ·refine aB (aA (aC (aF (G ?_))))
   obtain⟨c37,c38,c39,c40,h⟩:=g4 h
   refine GN a0 [(2,2,oc c37),(4,4,oc c38),(7,7,oc c39),(9,9,oc c40)] ?_
   obtain⟨c45,c46,c47,c48,h⟩:=g4 h
   refine bS a0 [(2,2,oc c45),(4,4,oc c46),(7,7,oc c47),(9,9,oc c48)] (aK (aA (Ge ?_)))
   exact eB h (gg [] [0])
  refine aH (aY ?_)
  exact eX h (gg [] [0])
 refine aJ (aA (G (aL ?_)))
 obtain rfl:=sI h
 exact aD [(.slice cQ)] (by kernel_rfl)
def gR(p1:List Z2)(p2:List Int)(tab1:Int)(m1:List Z2):((List (List Int))×Int)→Option (((List (List Int))×Int)⊕(List (List Int))):=fun(m3,v2) =>
 (if(decide (v2<(m1.length:Int)))=true then(if 0≤v2∧v2<(m1.length:Int)then((jW p1 p2 ((m1.getD v2.toNat (0,0,0,0)).1) ((m1.getD v2.toNat (0,0,0,0)).2.1) tab1).bind fun r6 =>
 (if(m3.length+([r6]:List (List Int)).length)*24≤140737488355328∧m3.length+([r6]:List (List Int)).length≤9223372036854775807 then some (Sum.inl ((m3++([r6]:List (List Int))),(IntKind.i64.wrap (v2+1))))else none))else none)
 else some (Sum.inr m3))
def m9(p1:List Z2)(p2:List Int)(l1:List Z2)(tab1:Int):Option (Option Z6) :=
 (((if((l1.length:Int) == 0)=true then some (([(0,0,0,0)]:List Z2))
 else some (l1))).bind fun m1=>((iter (gR p1 p2 tab1 m1) (([]:List (List Int)),0)).bind fun m4=>some (some ((p1,p2),(m1,m4)):Option Z6)))
theorem aAx{p1:List Z2}{p2:List Int}{l1:List Z2}{tab1:Int}{res:Option Z6}(h:m9 p1 p2 l1 tab1=some res):
  Pure Tryz.prog 50 [.agg [.p false (.slice cQ) p1,.p false (.slice (.int .u8)) p2],.p false (.slice cQ) l1,.i64 tab1] (aX (bJ false [⟨(.ptr (.prod N6 Y30)),res⟩])):=by
 refine Pure.of_body bB Tryz.func50 (by kernel_rfl) rfl (nl rfl) (fun Bw w0=> ?_) rfl
 unfold m9 at h
 refine G (G (aC (G (bO h (fun m1=>aM [(2,.i64 tab1),(3,.adr 0 0 2 0),(7,.adr 1 0 4 0)] (aKj p1 p2 p1 p2 m1) 2) (fun m1 h=> ?_) (fun m1 h=> ?_)))))
 ·refine aO h (fun hb2 h=> ?_) (fun hb2 h=> ?_)
  ·refine Ge ?_
   exact eN h (gg [.frzC 40 2] [0,40])
  refine aB ?_
  exact eN h (gg [] [0,40])
 refine aA (aC (G (aF (cW h (fun(m3,v2)=>aM [(2,.i64 tab1),(3,.adr 0 0 2 0),(7,.adr 1 0 4 0),(25,.p false (.slice cQ) m1),(26,.i64 (m1.length:Int)),(27,.i64 v2)] (aKH p1 p2 p1 p2 m1 m3) 3) 0 (fun m4=>aM [(7,.adr 0 0 4 0)] (aKR p1 p2 m1 m4) 2) (gg [.nilC 1 3 50 134 (.slice (.int .i64))] [0,1,50]) (fun y o h=> ?_) (fun m4 h=> ?_)))))
 ·obtain⟨m3,v2⟩:=y
  unfold gR at h
  refine G (aC (aO h (fun hb5 h=> ?_) (fun hb5 h=> ?_)))
  ·refine aB (aA (aC (aF (GC 0 h (fun h=> ?_)))))
   obtain⟨r6,q6,h⟩:=aG h
   obtain⟨c12,h⟩:=aS h
   have u_1:=(sL false false q6)
   refine qA ⟨[],[(11,(oP u_1))]⟩ [(11,11,oc u_1),(13,13,oc c12)] (aK (aA (Ge ?_)))
   exact eB h (gg [] [0,1,147])
  refine aH (aY ?_)
  exact eX h (gg [] [1,2])
 refine aJ (aA (G (pV [.frzC 0 3] (by kernel_rfl) (aL ?_))))
 obtain rfl:=sI h
 exact aD [(.ptr (.prod N6 Y30))] (by kernel_rfl)
def eW(d4 d5 d6 d7 d8:Int)(d9:Option Nat)(r68:(List Z2)×List Int)(r71:List Int):((List Z2)×Bool×(List Z9)×(List ((List UInt8)×Bool))×Int×Int)→Option (((List Z2)×Bool×(List Z9)×(List ((List UInt8)×Bool))×Int×Int)⊕((List Z2)×Bool×(List Z9)×List ((List UInt8)×Bool))):=fun(d37,d38,d39,v28,v29,v30) =>
 (if(decide (v30<(r71.length:Int)))=true then(if 0≤v30∧v30<(r71.length:Int)then((tY r68.1 r68.2 v29 (r71.getD v30.toNat 0)).bind fun r109 =>
 (((if(!((bG .str d39 r109).isSome))=true then((iD r68.1 r68.2 v29 (r71.getD v30.toNat 0) d4 d5 d6 d7 d8 d9).bind fun(r118,r119) =>
 ((jI r118 (IntKind.i64.wrap (0 - v29))).bind fun r121 =>
 some (((fF .str d39 r109 (r121,r119)),r121,r119))))
 else some ((d39,((bG .str d39 r109).getD (([]:List Z2),false)).1,((bG .str d39 r109).getD (([]:List Z2),false)).2)))).bind fun(d43,v32,v33)=>((((jI v32 v29).bind fun r125 =>
 (if(d37.length+r125.length)*32≤140737488355328∧d37.length+r125.length≤9223372036854775807 then(if d38=true then some (((d37++r125),true))
 else some (((d37++r125),v33)))else none))).bind fun(d44,d45)=>some (Sum.inl (d44,d45,d43,(fF .str v28 r109 true),(r71.getD v30.toNat 0),(IntKind.i64.wrap (v30+1)))))))else none)
 else some (Sum.inr (d37,d38,d39,v28)))
def cX(i1:List Int)(d1:List Z2)(d2:Bool)(d3:Option Z1)(d4 d5 d6 d7 d8:Int)(d9:Option Nat)(d10:List Int)(d11:List Z2)(d12:List Int)(d13:Option Z6)(o1:List Z9):Option Z13 :=
 ((bA d3 i1).bind fun(r68,r69) =>
 (if(r69 != 0)=true then some (r69,d1,d2,d10,d11,d12,d13,o1)
 else((lH r68.1 r68.2).bind fun r71 =>
 ((iter (eW d4 d5 d6 d7 d8 d9 r68 r71) (([]:List Z2),false,o1,([]:List ((List UInt8)×Bool)),0,0)).bind fun(d40,d41,d42,v31)=>((m9 r68.1 r68.2 d40 d5).bind fun r129 =>
 some (0,d40,d41,i1,r68.1,r68.2,r129,(xT .str d42 v31)))))))
theorem qN{i1:List Int}{d1:List Z2}{d2:Bool}{d3:Option Z1}{d4:Int}{d5:Int}{d6:Int}{d7:Int}{d8:Int}{d9:Option Nat}{d10:List Int}{d11:List Z2}{d12:List Int}{d13:Option Z6}{o1:List Z9}{res:Int×(List Z2)×Bool×(List Int)×(List Z2)×(List Int)×(Option Z6)×List Z9}(h:cX i1 d1 d2 d3 d4 d5 d6 d7 d8 d9 d10 d11 d12 d13 o1=some res):
  Owns Tryz.prog 39 [.adr 0 0 14 0,.p false (.slice (.int .u8)) i1] (oY d1 d2 d3 d4 d5 d6 d7 d8 d9 d10 d11 d12 d13 o1) (.i64 res.1) (oY res.2.1 res.2.2.1 d3 d4 d5 d6 d7 d8 d9 res.2.2.2.1 res.2.2.2.2.1 res.2.2.2.2.2.1 res.2.2.2.2.2.2.1 res.2.2.2.2.2.2.2):=by
 refine Owns.of_body bB Tryz.func39 (by kernel_rfl) rfl (nl rfl) (fun Bw w0=> ?_)
 unfold cX at h
 refine G ?_
 obtain⟨⟨r68,r69⟩,q46,h⟩:=aG h
 refine GP 5 (o9 false q46) (aC (G (aO h (fun hb17 h=> ?_) (fun hb17 h=> ?_))))
 ·refine G (aL (aE ?_))
  obtain rfl:=sI h
  exact aR [some (.int .i64)] [] [0,1] [(4,.i64 r69)] (oY d1 d2 d3 d4 d5 d6 d7 d8 d9 d10 d11 d12 d13 o1) 2 2 (by kernel_rfl) (by kernel_rfl) (by kernel_rfl)
 refine aB (aA (GD a0 [] (G (G (aC ?_)))))
 obtain⟨r71,q48,h⟩:=aG h
 refine GP 1 (vO false false q48) (aF (cW h (fun(d37,d38,d39,v28,v29,v30)=>aM [(0,.adr 0 0 14 0),(5,.adr 3 0 2 0),(7,.mp 4),(8,.i64 v29),(41,.p false (.slice (.int .i64)) r71),(42,.i64 (r71.length:Int)),(43,.i64 v30)] (aHG d38 d3 d4 d5 d6 d7 d8 d9 i1 r68.1 r68.2 d13 d39 d37 r68.1 r68.2 v28) 5 2) 0 (fun(d40,d41,d42,v31)=>aM [(0,.adr 0 0 14 0),(5,.adr 3 0 2 0),(7,.mp 4)] (aHG d41 d3 d4 d5 d6 d7 d8 d9 i1 r68.1 r68.2 d13 d42 d40 r68.1 r68.2 v31) 5 2) (gg [.nilC 0 0 298 181 cQ] [0,1,298,82,242]) (fun y o h=> ?_) (fun r127 h=> ?_)))
 ·obtain⟨d37,d38,d39,v28,v29,v30⟩:=y
  unfold eW at h
  refine G (aC (aO h (fun hb27 h=> ?_) (fun hb27 h=> ?_)))
  ·refine aB (aA (aC (aF (GC 0 h (fun h=> ?_)))))
   obtain⟨r109,q75,h⟩:=aG h
   refine GP 3 (aDb false false q75) (G (aC (G (bO h (fun(d43,v32,v33)=>aM [(0,.adr 0 0 14 0),(5,.adr 3 0 2 0),(7,.mp 4),(8,.i64 v29),(10,.i64 (r71.getD v30.toNat 0)),(11,.st r109),(12,.adr 5 0 2 0),(41,.p false (.slice (.int .i64)) r71),(42,.i64 (r71.length:Int)),(43,.i64 v30)] (aK4 d38 d3 d4 d5 d6 d7 d8 d9 i1 r68.1 r68.2 d13 d43 d37 r68.1 r68.2 v28 v32 v33) 6 2) (fun r122 h=> ?_) (fun r122 h=> ?_)))))
   ·refine aO h (fun hb29 h=> ?_) (fun hb29 h=> ?_)
    ·obtain⟨⟨r118,r119⟩,q81,h⟩:=aG h
     have u_1:=(xM false false q81)
     refine GD ⟨[],[(7,(oP u_1))]⟩ [(7,7,oc u_1)] ?_
     obtain⟨r121,q83,h⟩:=aG h
     refine GP 4 (pE false q83) (qA a0 [] ?_)
     exact eN h (gg [] [0,1,2,3,4,149])
    refine aB ?_
    exact eN h (gg [] [0,1,2,3,4,149])
   obtain⟨d43,v32,v33⟩:=r122
   refine aA (G (aC (bO h (fun(d44,d45)=>aM [(0,.adr 0 0 14 0),(5,.adr 3 0 2 0),(7,.mp 4),(10,.i64 (r71.getD v30.toNat 0)),(41,.p false (.slice (.int .i64)) r71),(42,.i64 (r71.length:Int)),(43,.i64 v30)] (aHG d45 d3 d4 d5 d6 d7 d8 d9 i1 r68.1 r68.2 d13 d43 d44 r68.1 r68.2 (fF .str v28 r109 true)) 5 2) (fun r126 h=> ?_) (fun r126 h=> ?_))))
   ·obtain⟨r125,q86,h⟩:=aG h
    obtain⟨c28,h⟩:=aS h
    rcases aW h with⟨hb32,h⟩ | ⟨hb32,h⟩
    ·have u_1:=(pE false q86)
     refine qA ⟨[(17,true),(20,true)],[(10,(oP u_1))]⟩ [(10,10,oc u_1),(11,11,oc c28),(18,20,oc hb32)] ?_
     exact eN h (gg [] [0,1,118,3,4])
    have u_1:=(pE false q86)
    refine qA ⟨[(17,false),(20,false)],[(10,(oP u_1))]⟩ [(10,10,oc u_1),(11,11,oc c28),(18,19,an hb32),(20,20,oc hb32)] ?_
    exact eN h (gg [] [0,1,118,3,4])
   obtain⟨d44,d45⟩:=r126
   refine aA (Ge (aK (aA (Ge ?_))))
   exact eB h (gg [] [0,1,2,3,4])
  refine aH (aY ?_)
  exact eX h (gg [] [0,1,2,3,4])
 obtain⟨d40,d41,d42,v31⟩:=r127
 refine aJ (aA (aC (aIv bB (idK:=1) (idU:=4) (idF:=0) (A:=Y31) (kv:=d42) (us:=v31) (dead:=[14,118,119,120,121,122,123,124,125,126,127,128,129,130,131,132,133,134,135]) (sz:=14) (off:=13) (by kernel_rfl) (by kernel_rfl) (by kernel_rfl) (by kernel_rfl) (by kernel_rfl) (by kernel_rfl) (by kernel_rfl) (by kernel_rfl) (by decide) (by kernel_rfl) (by decide) (aA ?_))))
 obtain⟨r129,q88,h⟩:=aG h
 have u_1:=(aAx q88)
 refine GD ⟨[],[(12,(oP u_1 [false,true]))]⟩ [(12,12,oc u_1)] (G (pV [.frzC 0 0] (by kernel_rfl) (aL ?_)))
 obtain rfl:=sI h
 exact aR [some (.int .i64)] [] [0,1] [(4,.i64 0)] (oY d40 d41 d3 d4 d5 d6 d7 d8 d9 i1 r68.1 r68.2 r129 (xT .str d42 v31)) 2 2 (by kernel_rfl) (by kernel_rfl) (by kernel_rfl)
def iH(b1:Option Z1)(c1 c2 c3 c4 c5:Int)(c6:Option Nat)(text1:List Int):Option (((Int)⊕Z13)) :=
 ((dZ c1 c2 c3 c4 c5 c6).bind fun r24 =>
 (if(!r24)=true then some (Sum.inl 40)
 else((cM text1).bind fun r34 =>
 ((cX r34 ([]:List Z2) false b1 c1 c2 c3 c4 c5 c6 ([]:List Int) ([]:List Z2) ([]:List Int) (none:Option Z6) ([]:List Z9)).bind fun(r35,r36,r37,r38,r39,r40,r41,r42) =>
 (if(r35 != 0)=true then some (Sum.inl r35)
 else some (Sum.inr (0,r36,r37,r38,r39,r40,r41,r42)))))))
theorem oK(β7:Bool){b1:Option Z1}{c1:Int}{c2:Int}{c3:Int}{c4:Int}{c5:Int}{c6:Option Nat}{text1:List Int}{res:((Int)⊕Z13)}(h:iH b1 c1 c2 c3 c4 c5 c6 text1=some res):
  Owns Tryz.prog 13 [.p false (.ptr qJ) b1,.agg [.i64 c1,.i64 c2,.u8 c3,.i64 c4,.i64 c5,.p false .flt c6],.p β7 (.slice (.int .u8)) text1] [] (aJj (fun(w1:Int)=>(.tup [.nilp,.i64 w1],[])) (fun((w1,w2,w3,w4,w5,w6,w7,w8):Int×(List Z2)×Bool×(List Int)×(List Z2)×(List Int)×(Option Z6)×List Z9)=>(.tup [.adr 0 0 14 0,.i64 w1],(oY w2 w3 b1 c1 c2 c3 c4 c5 c6 w4 w5 w6 w7 w8))) res).1 (aJj (fun(w1:Int)=>(.tup [.nilp,.i64 w1],[])) (fun((w1,w2,w3,w4,w5,w6,w7,w8):Int×(List Z2)×Bool×(List Int)×(List Z2)×(List Int)×(Option Z6)×List Z9)=>(.tup [.adr 0 0 14 0,.i64 w1],(oY w2 w3 b1 c1 c2 c3 c4 c5 c6 w4 w5 w6 w7 w8))) res).2:=by
 refine Owns.of_body bB Tryz.func13 (by kernel_rfl) rfl (nl rfl) (fun Bw w0=> ?_)
 unfold iH at h
 refine G (G (aC ?_))
 obtain⟨r24,q8,h⟩:=aG h
 refine GP 1 (xC q8) (aO h (fun hb3 h=> ?_) (fun hb3 h=> ?_))
 ·refine G (aL (aE ?_))
  obtain rfl:=sI h
  exact aR [none,some (.int .i64)] [] [] [(6,.nilp),(7,.i64 40)] [] 0 0 (by kernel_rfl) (by kernel_rfl) (by kernel_rfl)
 refine aB (aA (aC (aC (pV [.nilCp 56 0 cQ,.nilCp 56 9 (.int .u8),.nilCp 56 10 cQ,.nilCp 56 11 (.int .u8),.nilCq 56 12 (.prod N6 Y30)] (by kernel_rfl) ?_))))
 obtain⟨r34,q11,h⟩:=aG h
 obtain⟨⟨r35,r36,r37,r38,r39,r40,r41,r42⟩,q12,h⟩:=aG h
 have u_1:=(iX β7 q11)
 have u_2:=(qN q12)
 refine bS ⟨[],[(2,(oO u_1 [])),(3,(oO u_2 [56,40] [false,true]))]⟩ [(2,2,oc u_1),(3,3,oc u_2)] (aA (G (aO h (fun hb4 h=> ?_) (fun hb4 h=> ?_))))
 ·refine G (aL (aE ?_))
  obtain rfl:=sI h
  exact aR [none,some (.int .i64)] [] [] [(6,.nilp),(7,.i64 r35)] [] 0 0 (by kernel_rfl) (by kernel_rfl) (by kernel_rfl)
 refine aB (aA (G (aL ?_)))
 obtain rfl:=sI h
 exact aR [none,some (.int .i64)] [] [56,40] [(6,.adr 0 0 14 0),(7,.i64 0)] (oY r36 r37 b1 c1 c2 c3 c4 c5 c6 r38 r39 r40 r41 r42) 2 0 (by kernel_rfl) (by kernel_rfl) (by kernel_rfl)
def kW(n1 e1 e2:Int)(e3:List Int):Option (Int) :=
 (((if(decide (e1<0))=true then some (true)
 else(if(decide (e2<0))=true then some (true)
 else(if(decide (e1 > n1))=true then some (true)
 else some ((decide (e2 > (IntKind.i64.wrap (n1 - e1))))))))).bind fun v1=>(if v1=true then some 50
 else(((if(decide ((e3.length:Int) > 4096))=true then some (true)
 else some ((decide ((IntKind.i64.wrap ((IntKind.i64.wrap (n1 - e2))+(e3.length:Int))) > 4096))))).bind fun v2=>(if v2=true then some 3
 else some 0))))
theorem aAF(β3:Bool){n1:Int}{e1:Int}{e2:Int}{e3:List Int}{res:Int}(h:kW n1 e1 e2 e3=some res):
  Pure Tryz.prog 43 [.i64 n1,.agg [.i64 e1,.i64 e2,.p β3 (.slice (.int .u8)) e3]] (aX (bJ false [⟨(.int .i64),res⟩])):=by
 refine Pure.of_body bB Tryz.func43 (by kernel_rfl) rfl (nl rfl) (fun Bw w0=> ?_) rfl
 unfold kW at h
 refine G (aC (aF (aC (bO h (fun v1=>aM [(0,.i64 n1),(3,.adr 0 0 3 0),(5,.bo v1)] (aKD e1 e2 β3 e3) 1) (fun v1 h=> ?_) (fun v1 h=> ?_)))))
 ·rcases aW h with⟨hb7,h⟩ | ⟨hb7,h⟩
  ·refine bS ⟨[(3,true),(7,true)],[]⟩ [(4,7,oc hb7)] ?_
   exact eN h (gg [] [0])
  rcases aW h with⟨hb8,h⟩ | ⟨hb8,h⟩
  ·refine bS ⟨[(3,false),(7,false),(8,true),(13,true)],[]⟩ [(4,6,an hb7),(7,7,oc hb7),(9,13,oc hb8)] ?_
   exact eN h (gg [] [0])
  rcases aW h with⟨hb9,h⟩ | ⟨hb9,h⟩
  ·refine bS ⟨[(3,false),(7,false),(8,false),(13,false),(14,true),(22,true)],[]⟩ [(4,6,an hb7),(7,7,oc hb7),(9,12,an hb8),(13,13,oc hb8),(15,22,oc hb9)] ?_
   exact eN h (gg [] [0])
  refine bS ⟨[(3,false),(7,false),(8,false),(13,false),(14,false),(22,false)],[]⟩ [(4,6,an hb7),(7,7,oc hb7),(9,12,an hb8),(13,13,oc hb8),(15,21,an hb9),(22,22,oc hb9)] ?_
  exact eN h (gg [] [0])
 refine aA (aO h (fun hb10 h=> ?_) (fun hb10 h=> ?_))
 ·refine G (aL (aN (aE ?_)))
  obtain rfl:=sI h
  exact aD [(.int .i64)] (by kernel_rfl)
 refine aC (bO h (fun v2=>aM [(29,.bo v2)] [] 0) (fun v2 h=> ?_) (fun v2 h=> ?_))
 ·rcases aW h with⟨hb13,h⟩ | ⟨hb13,h⟩
  ·refine bS ⟨[(4,true),(14,true)],[]⟩ [(5,14,oc hb13)] ?_
   exact eN h (gg [] [])
  refine bS ⟨[(4,false),(14,false)],[]⟩ [(5,13,an hb13),(14,14,oc hb13)] ?_
  exact eN h (gg [] [])
 refine aA (aO h (fun hb14 h=> ?_) (fun hb14 h=> ?_))
 ·refine G (aL (aN (aE ?_)))
  obtain rfl:=sI h
  exact aD [(.int .i64)] (by kernel_rfl)
 refine aB (aK (aA (G (aL ?_))))
 obtain rfl:=sI h
 exact aD [(.int .i64)] (by kernel_rfl)
def cY(n1:Int):Option (List Int) :=
 (((if(decide (n1<0))=true then none
 else some (()))).bind fun _=>(((if(decide ((IntKind.i64.wrap (n1 - (IntKind.i64.wrap (0 - 0)))) > 0))=true then(if 0≤(0:Int)∧(0:Int)≤0∧(0:Int)≤0 then(if 0≤(IntKind.i64.wrap (n1 - (IntKind.i64.wrap (0 - 0))))∧(([]:List Int).length+(IntKind.i64.wrap (n1 - (IntKind.i64.wrap (0 - 0)))).toNat)*1≤140737488355328∧([]:List Int).length+(IntKind.i64.wrap (n1 - (IntKind.i64.wrap (0 - 0)))).toNat≤9223372036854775807 then(if 0≤(0:Int)∧0≤((List.replicate (IntKind.i64.wrap (n1 - (IntKind.i64.wrap (0 - 0)))).toNat (0:Int)).length:Int)then some (((List.replicate (IntKind.i64.wrap (n1 - (IntKind.i64.wrap (0 - 0)))).toNat (0:Int)).take (0:Int).toNat))else none)else none)else none)
 else some (([]:List Int)))).bind fun s3=>some s3))
theorem mL{n1:Int}{res:List Int}(h:cY n1=some res):
  Owns Tryz.prog 96 [.nils,.i64 n1] [] (.sl 0) [(0,.arr 5 (.int .u8) res)]:=by
 refine Owns.of_body bB Tryz.func96 (by kernel_rfl) rfl (nl rfl) (fun Bw w0=> ?_)
 unfold cY at h
 refine G (aC (G (bO h (fun _=>aM [(0,.nils),(1,.i64 n1)] [] 0) (fun r2 h=> ?_) (fun r2 h=> ?_))))
 ·refine aO h (fun hb6 h=> ?_) (fun hb6 h=> ?_)
  ·cases h
  refine aB ?_
  exact eN h (gg [] [])
 refine aA (aC (G (G (bO h (fun s3=>aM [(0,.sl 0)] [(0,.arr 5 (.int .u8) s3)] 1) (fun s3 h=> ?_) (fun s3 h=> ?_)))))
 ·refine aO h (fun hb8 h=> ?_) (fun hb8 h=> ?_)
  ·obtain⟨c22,c23,c24,h⟩:=g3 h
   refine bS a0 [(3,3,oc c22),(5,5,oc c23),(8,8,oc c24)] ?_
   exact eN h (gg [] [144])
  refine aB ?_
  exact eN h (gg [.nilS 0 80 5 (.int .u8)] [80])
 refine aA (G (aL ?_))
 obtain rfl:=sI h
 exact aR [none] [] [0] [(4,.sl 0)] [(0,.arr 5 (.int .u8) s3)] 1 0 (by kernel_rfl) (by kernel_rfl) (by kernel_rfl)
def dE(slices1 slices2 slices3:List Int):Option (List Int) :=
 (if 0≤(0:Int)∧0<((3:Nat):Int)then(((if(decide ((IntKind.i64.wrap (0+(slices1.length:Int)))<0))=true then none
 else some (()))).bind fun _=>(if 0≤(1:Int)∧1<((3:Nat):Int)then(((if(decide ((IntKind.i64.wrap ((IntKind.i64.wrap (0+(slices1.length:Int)))+(slices2.length:Int)))<0))=true then none
 else some (()))).bind fun _=>(if 0≤(2:Int)∧2<((3:Nat):Int)then(((if(decide ((IntKind.i64.wrap ((IntKind.i64.wrap ((IntKind.i64.wrap (0+(slices1.length:Int)))+(slices2.length:Int)))+(slices3.length:Int)))<0))=true then none
 else some (()))).bind fun _=>((cY (IntKind.i64.wrap ((IntKind.i64.wrap ((IntKind.i64.wrap (0+(slices1.length:Int)))+(slices2.length:Int)))+(slices3.length:Int)))).bind fun r11 =>
 (if 0≤(0:Int)∧0<((3:Nat):Int)then(if(r11.length+slices1.length)*1≤140737488355328∧r11.length+slices1.length≤9223372036854775807 then(if 0≤(1:Int)∧1<((3:Nat):Int)then(if((r11++slices1).length+slices2.length)*1≤140737488355328∧(r11++slices1).length+slices2.length≤9223372036854775807 then(if 0≤(2:Int)∧2<((3:Nat):Int)then(if(((r11++slices1)++slices2).length+slices3.length)*1≤140737488355328∧((r11++slices1)++slices2).length+slices3.length≤9223372036854775807 then some (((r11++slices1)++slices2)++slices3)else none)else none)else none)else none)else none)else none)))else none))else none))else none)
theorem n5(β0 β1 β2:Bool){slices1:List Int}{slices2:List Int}{slices3:List Int}{res:List Int}(h:dE slices1 slices2 slices3=some res):
  Owns Tryz.prog 65 [.sl 0] (aFv β0 slices1 β1 slices2 β2 slices3) (.p false (.slice (.int .u8)) res) []:=by
 refine Owns.of_body bB Tryz.func65 (by kernel_rfl) rfl (nl rfl) (fun Bw w0=> ?_)
 unfold dE at h
 refine G (G (aC (G (aF (X1 9 (G (aC (sX rfl (aB (aA (aC (aF (GC 0 h (fun h=>G (G (bO h (fun _=>aM [(0,.sl 0),(3,.i64 (IntKind.i64.wrap (0+(slices1.length:Int)))),(9,.sl 0),(10,.i64 3),(11,.i64 0)] (aFv β0 slices1 β1 slices2 β2 slices3) 1 1) (fun r7 h=> ?_) (fun r7 h=> ?_)))))))))))))))))
 ·refine aO h (fun hb16 h=> ?_) (fun hb16 h=> ?_)
  ·cases h
  refine aB ?_
  exact eN h (gg [] [0])
 refine aK (aA (Ge (zP (G (aC (sX rfl (aB (aA (aC (aF (GC 0 h (fun h=>G (G (bO h (fun _=>aM [(0,.sl 0),(3,.i64 (IntKind.i64.wrap ((IntKind.i64.wrap (0+(slices1.length:Int)))+(slices2.length:Int)))),(9,.sl 0),(10,.i64 3),(11,.i64 1)] (aFv β0 slices1 β1 slices2 β2 slices3) 1 1) (fun r8 h=> ?_) (fun r8 h=> ?_)))))))))))))))
 ·refine aO h (fun hb18 h=> ?_) (fun hb18 h=> ?_)
  ·cases h
  refine aB ?_
  exact eN h (gg [] [0])
 refine aK (aA (Ge (zP (G (aC (sX rfl (aB (aA (aC (aF (GC 0 h (fun h=>G (G (bO h (fun _=>aM [(0,.sl 0),(3,.i64 (IntKind.i64.wrap ((IntKind.i64.wrap ((IntKind.i64.wrap (0+(slices1.length:Int)))+(slices2.length:Int)))+(slices3.length:Int)))),(9,.sl 0),(10,.i64 3),(11,.i64 2)] (aFv β0 slices1 β1 slices2 β2 slices3) 1 1) (fun r9 h=> ?_) (fun r9 h=> ?_)))))))))))))))
 ·refine aO h (fun hb20 h=> ?_) (fun hb20 h=> ?_)
  ·cases h
  refine aB ?_
  exact eN h (gg [] [0])
 refine aK (aA (Ge (zP (G (aC (P4 rfl (aH (aY (rQE (aJ (aA ?_)))))))))))
 obtain⟨r11,q4,h⟩:=aG h
 have u_1:=(mL q4)
 refine GN ⟨[],[(1,(oO u_1 [] [] [false,true]))]⟩ [(1,1,oc u_1)] (aC (G (aF (X1 9 (G (aC (sX rfl (aB (aA (aC (aF (GC 0 h (fun h=>GCe 2 h (fun h=>aK (aA (Ge (zP (G (aC (sX rfl (aB (aA (aC (aF (GC 0 h (fun h=>GCe 2 h (fun h=>aK (aA (Ge (zP (G (aC (sX rfl (aB (aA (aC (aF (GC 0 h (fun h=>GCe 2 h (fun h=>aK (aA (Ge (zP (G (aC (P4 rfl (aH (aY (rQE (aJ (aA (G (aL ?_)))))))))))))))))))))))))))))))))))))))))))))))))))))
 obtain rfl:=sI h
 exact aR [some (.slice (.int .u8))] [] [0,281] [(2,.sl 1)] [(1,.arr 5 (.int .u8) (((r11++slices1)++slices2)++slices3))] 2 1 (by kernel_rfl) (by kernel_rfl) (by kernel_rfl)
def jP(b1:List Int)(e1 e2:Int)(e3:List Int):Option rY :=
 ((kW (b1.length:Int) e1 e2 e3).bind fun r2 =>
 (if(r2 != 0)=true then some (([]:List Int),r2)
 else(if 0≤(0:Int)∧0≤e1∧e1≤(b1.length:Int)then(if 0≤(IntKind.i64.wrap (e1+e2))∧(IntKind.i64.wrap (e1+e2))≤(b1.length:Int)∧(b1.length:Int)≤(b1.length:Int)then((dE ((b1.take e1.toNat).drop (0:Int).toNat) e3 ((b1.take (b1.length:Int).toNat).drop (IntKind.i64.wrap (e1+e2)).toNat)).bind fun r4 =>
 some (r4,0))else none)else none)))
theorem T9(β0 β3:Bool){b1:List Int}{e1:Int}{e2:Int}{e3:List Int}{res:(List Int)×Int}(h:jP b1 e1 e2 e3=some res):
  Pure Tryz.prog 41 [.p β0 (.slice (.int .u8)) b1,.agg [.i64 e1,.i64 e2,.p β3 (.slice (.int .u8)) e3]] (aX (bJ false [⟨(.slice (.int .u8)),res.1⟩,⟨(.int .i64),res.2⟩])):=by
 refine Pure.of_body bB Tryz.func41 (by kernel_rfl) rfl (nl rfl) (fun Bw w0=> ?_) rfl
 unfold jP at h
 refine G (aC ?_)
 obtain⟨r2,q2,h⟩:=aG h
 refine GP 3 (aAF β3 q2) (G (aO h (fun hb1 h=> ?_) (fun hb1 h=> ?_)))
 ·refine G (aL (aE ?_))
  obtain rfl:=sI h
  exact aD [(.slice (.int .u8)),(.int .i64)] (by kernel_rfl)
 refine aB (aA ?_)
 obtain⟨c3,c4,h⟩:=g2 h
 obtain⟨r4,q4,h⟩:=aG h
 have u_1:=(n5 β0 β3 β0 q4)
 refine GD ⟨[],[(13,⟨.unk,[],false,[],[],[],none⟩),(14,(oO u_1 [184]))]⟩ [(3,3,oc c3),(12,12,oc c4),(14,14,oc u_1)] (aL ?_)
 obtain rfl:=sI h
 exact aD [(.slice (.int .u8)),(.int .i64)] (by kernel_rfl)
def dM(e1 e2:Int)(e3:List Int)(f1:List Z2)(f2:Bool)(f3:Option Z1)(f4 f5 f6 f7 f8:Int)(f9:Option Nat)(f10:List Int)(f11:List Z2)(f12:List Int)(f13:Option Z6)(o1:List Z9):Option Z13 :=
 ((jP f10 e1 e2 e3).bind fun(r24,r25) =>
 (if(r25 != 0)=true then some (r25,f1,f2,f10,f11,f12,f13,o1)
 else((cX r24 f1 f2 f3 f4 f5 f6 f7 f8 f9 f10 f11 f12 f13 o1).bind fun(r34,r35,r36,r37,r38,r39,r40,r41) =>
 some (r34,r35,r36,r37,r38,r39,r40,r41))))
theorem oN(β2:Bool){e1:Int}{e2:Int}{e3:List Int}{f1:List Z2}{f2:Bool}{f3:Option Z1}{f4:Int}{f5:Int}{f6:Int}{f7:Int}{f8:Int}{f9:Option Nat}{f10:List Int}{f11:List Z2}{f12:List Int}{f13:Option Z6}{o1:List Z9}{res:Int×(List Z2)×Bool×(List Int)×(List Z2)×(List Int)×(Option Z6)×List Z9}(h:dM e1 e2 e3 f1 f2 f3 f4 f5 f6 f7 f8 f9 f10 f11 f12 f13 o1=some res):
  Owns Tryz.prog 14 [.adr 0 0 14 0,.agg [.i64 e1,.i64 e2,.p β2 (.slice (.int .u8)) e3]] (oY f1 f2 f3 f4 f5 f6 f7 f8 f9 f10 f11 f12 f13 o1) (.i64 res.1) (oY res.2.1 res.2.2.1 f3 f4 f5 f6 f7 f8 f9 res.2.2.2.1 res.2.2.2.2.1 res.2.2.2.2.2.1 res.2.2.2.2.2.2.1 res.2.2.2.2.2.2.2):=by
 refine Owns.of_body bB Tryz.func14 (by kernel_rfl) rfl (nl rfl) (fun Bw w0=> ?_)
 unfold dM at h
 refine G (aC (GN a0 [(1,1,⟨∃e,Tryz.prog.underlying 49=some (.pointer e),⟨_,rfl⟩⟩)] (P4 rfl (aB (aA ?_)))))
 obtain⟨⟨r24,r25⟩,q6,h⟩:=aG h
 have u_1:=(T9 false β2 q6)
 refine GD ⟨[],[(5,(oP u_1))]⟩ [(5,5,oc u_1)] (aC (G (aO h (fun hb3 h=> ?_) (fun hb3 h=> ?_))))
 ·refine G (aL (aE ?_))
  obtain rfl:=sI h
  exact aR [some (.int .i64)] [] [0,1] [(4,.i64 r25)] (oY f1 f2 f3 f4 f5 f6 f7 f8 f9 f10 f11 f12 f13 o1) 2 2 (by kernel_rfl) (by kernel_rfl) (by kernel_rfl)
 refine aB (aA ?_)
 obtain⟨⟨r34,r35,r36,r37,r38,r39,r40,r41⟩,q8,h⟩:=aG h
 refine GO 2 [0,1] (qN q8) (aL ?_)
 obtain rfl:=sI h
 exact aR [some (.int .i64)] [] [0,1] [(4,.i64 r34)] (oY r35 r36 f3 f4 f5 f6 f7 f8 f9 r37 r38 r39 r40 r41) 2 2 (by kernel_rfl) (by kernel_rfl) (by kernel_rfl)
def eD(p1 l1:List Z2):((List Z2)×Int)→Option (((List Z2)×Int)⊕(List Z2)):=fun(out5,v4) =>
 (if(decide (v4<(l1.length:Int)))=true then(if 0≤v4∧v4<(l1.length:Int)then(if 0≤(IntKind.i64.wrap (((l1.getD v4.toNat (0,0,0,0)).2.1) - 1))∧(IntKind.i64.wrap (((l1.getD v4.toNat (0,0,0,0)).2.1) - 1))<(p1.length:Int)then(if 0≤(l1.getD v4.toNat (0,0,0,0)).1∧(l1.getD v4.toNat (0,0,0,0)).1<(p1.length:Int)then(if(out5.length+([((p1.getD (((l1.getD v4.toNat (0,0,0,0)).1).toNat) (0,0,0,0)).1,((IntKind.i64.wrap (((p1.getD ((IntKind.i64.wrap (((l1.getD v4.toNat (0,0,0,0)).2.1) - 1)).toNat) (0,0,0,0)).1)+((p1.getD ((IntKind.i64.wrap (((l1.getD v4.toNat (0,0,0,0)).2.1) - 1)).toNat) (0,0,0,0)).2.1))),((l1.getD v4.toNat (0,0,0,0)).2.2.1,(l1.getD v4.toNat (0,0,0,0)).2.2.2)))]:List Z2).length)*32≤140737488355328∧out5.length+([((p1.getD (((l1.getD v4.toNat (0,0,0,0)).1).toNat) (0,0,0,0)).1,((IntKind.i64.wrap (((p1.getD ((IntKind.i64.wrap (((l1.getD v4.toNat (0,0,0,0)).2.1) - 1)).toNat) (0,0,0,0)).1)+((p1.getD ((IntKind.i64.wrap (((l1.getD v4.toNat (0,0,0,0)).2.1) - 1)).toNat) (0,0,0,0)).2.1))),((l1.getD v4.toNat (0,0,0,0)).2.2.1,(l1.getD v4.toNat (0,0,0,0)).2.2.2)))]:List Z2).length≤9223372036854775807 then some (Sum.inl ((out5++([((p1.getD (((l1.getD v4.toNat (0,0,0,0)).1).toNat) (0,0,0,0)).1,((IntKind.i64.wrap (((p1.getD ((IntKind.i64.wrap (((l1.getD v4.toNat (0,0,0,0)).2.1) - 1)).toNat) (0,0,0,0)).1)+((p1.getD ((IntKind.i64.wrap (((l1.getD v4.toNat (0,0,0,0)).2.1) - 1)).toNat) (0,0,0,0)).2.1))),((l1.getD v4.toNat (0,0,0,0)).2.2.1,(l1.getD v4.toNat (0,0,0,0)).2.2.2)))]:List Z2)),(IntKind.i64.wrap (v4+1))))else none)else none)else none)else none)
 else some (Sum.inr out5))
def fA(p1:List Z2)(p2:List Int)(l1:List Z2):Option (List Z2) :=
 (if((l1.length:Int) == 0)=true then some ([(0,(0,(0,2)))]:List Z2)
 else((iter (eD p1 l1) (([]:List Z2),0)).bind fun out6=>some out6))
theorem w9(β0 β1 β2:Bool){p1:List Z2}{p2:List Int}{l1:List Z2}{res:List Z2}(h:fA p1 p2 l1=some res):
  Owns Tryz.prog 42 [.agg [.p β0 (.slice cQ) p1,.p β1 (.slice (.int .u8)) p2],.p β2 (.slice cQ) l1] [] (.sl 0) [(0,.arr 73 cQ res)]:=by
 refine Owns.of_body bB Tryz.func42 (by kernel_rfl) rfl (nl rfl) (fun Bw w0=> ?_)
 unfold fA at h
 refine G (aC (G (aO h (fun hb5 h=> ?_) (fun hb5 h=> ?_))))
 ·refine G (aL (aE ?_))
  obtain rfl:=sI h
  exact aR [none] [] [48] [(4,.sl 0)] [(0,.arr 73 cQ ([(0,(0,(0,2)))]:List Z2))] 1 0 (by kernel_rfl) (by kernel_rfl) (by kernel_rfl)
 refine aB (aA (G (aC (G (aF (cW h (fun(out5,v4)=>aM [(2,.adr 0 0 2 0),(5,.sl 1),(14,.p β2 (.slice cQ) l1),(15,.i64 (l1.length:Int)),(16,.i64 v4)] (aKx β0 p1 β1 p2 out5) 2) 0 (fun out6=>aM [(5,.sl 0)] [(0,.arr 73 cQ out6)] 1) (gg [.nilS 5 72 73 cQ] [0,72]) (fun y o h=> ?_) (fun out6 h=> ?_)))))))
 ·obtain⟨out5,v4⟩:=y
  unfold eD at h
  refine G (aC (aO h (fun hb8 h=> ?_) (fun hb8 h=> ?_)))
  ·refine aB (aA (aC (aF (GC 0 h (fun h=>GC 5 h (fun h=> ?_))))))
   obtain⟨c47,c48,h⟩:=g2 h
   refine qA a0 [(5,5,oc c47),(19,19,oc c48)] (aK (aA (Ge ?_)))
   exact eB h (gg [] [0,266])
  refine aH (aY ?_)
  exact eX h (gg [] [1])
 refine aJ (aA (G (aL ?_)))
 obtain rfl:=sI h
 exact aR [none] [] [0] [(4,.sl 0)] [(0,.arr 73 cQ out6)] 1 0 (by kernel_rfl) (by kernel_rfl) (by kernel_rfl)
def dW(f1:List Z2)(f2:Bool)(f3:Option Z1)(f4 f5 f6 f7 f8:Int)(f9:Option Nat)(f10:List Int)(f11:List Z2)(f12:List Int)(f13:Option Z6)(o1:List Z9):Option (List Z2) :=
 ((fA f11 f12 f1).bind fun r4 =>
 some r4)
theorem iZ{f1:List Z2}{f2:Bool}{f3:Option Z1}{f4:Int}{f5:Int}{f6:Int}{f7:Int}{f8:Int}{f9:Option Nat}{f10:List Int}{f11:List Z2}{f12:List Int}{f13:Option Z6}{o1:List Z9}{res:List Z2}(h:dW f1 f2 f3 f4 f5 f6 f7 f8 f9 f10 f11 f12 f13 o1=some res):
  Owns Tryz.prog 17 [.adr 0 0 14 0] (oY f1 f2 f3 f4 f5 f6 f7 f8 f9 f10 f11 f12 f13 o1) (.agg [.sl 2,.bo f2]) (aKi f1 f2 f3 f4 f5 f6 f7 f8 f9 f10 f11 f12 f13 o1 res):=by
 refine Owns.of_body bB Tryz.func17 (by kernel_rfl) rfl (nl rfl) (fun Bw w0=> ?_)
 unfold dW at h
 refine G (aC (GN a0 [(1,1,⟨∃e,Tryz.prog.underlying 49=some (.pointer e),⟨_,rfl⟩⟩)] (P4 rfl (aB (aA ?_)))))
 obtain⟨r4,q4,h⟩:=aG h
 have u_1:=(w9 false false false q4)
 refine GD ⟨[],[(9,(oO u_1 []))]⟩ [(9,9,oc u_1)] (aL ?_)
 obtain rfl:=sI h
 exact aR [none] [] [0,1,98,2] [(2,.adr 3 0 2 0)] (aKo f1 f2 f3 f4 f5 f6 f7 f8 f9 f10 f11 f12 f13 o1 r4 f2) 4 2 (by kernel_rfl) (by kernel_rfl) (by kernel_rfl)
def eZ(f1:List Z2)(f2:Bool)(f3:Option Z1)(f4 f5 f6 f7 f8:Int)(f9:Option Nat)(f10:List Int)(f11:List Z2)(f12:List Int)(f13:Option Z6)(o1:List Z9):Option (List Int) :=
 ((cM f10).bind fun r4 =>
 some r4)
theorem hN{f1:List Z2}{f2:Bool}{f3:Option Z1}{f4:Int}{f5:Int}{f6:Int}{f7:Int}{f8:Int}{f9:Option Nat}{f10:List Int}{f11:List Z2}{f12:List Int}{f13:Option Z6}{o1:List Z9}{res:List Int}(h:eZ f1 f2 f3 f4 f5 f6 f7 f8 f9 f10 f11 f12 f13 o1=some res):
  Owns Tryz.prog 15 [.adr 0 0 14 0] (oY f1 f2 f3 f4 f5 f6 f7 f8 f9 f10 f11 f12 f13 o1) (.sl 2) (aI1 f1 f2 f3 f4 f5 f6 f7 f8 f9 f10 f11 f12 f13 o1 res):=by
 refine Owns.of_body bB Tryz.func15 (by kernel_rfl) rfl (nl rfl) (fun Bw w0=> ?_)
 unfold eZ at h
 refine G (aC (GN a0 [(1,1,⟨∃e,Tryz.prog.underlying 49=some (.pointer e),⟨_,rfl⟩⟩)] (P4 rfl (aB (aA ?_)))))
 obtain⟨r4,q4,h⟩:=aG h
 refine GO 4 [] (iX false q4) (aL ?_)
 obtain rfl:=sI h
 exact aR [none] [] [0,1,58] [(2,.sl 2)] (aI1 f1 f2 f3 f4 f5 f6 f7 f8 f9 f10 f11 f12 f13 o1 r4) 3 2 (by kernel_rfl) (by kernel_rfl) (by kernel_rfl)
def fH  : Option (Bool) :=
 ((fZ).bind fun r4 =>
 ((n4 r4.1 r4.2.1 r4.2.2.1 r4.2.2.2.1 r4.2.2.2.2.1 r4.2.2.2.2.2.1 r4.2.2.2.2.2.2.1 r4.2.2.2.2.2.2.2.1 r4.2.2.2.2.2.2.2.2).bind fun(r5,r6) =>
 (if(r6.1 != 0)=true then some false
 else(if 0<([97,98,32,99,100,10,101]:List Int).length then((iH r5 3 (8:Int) (0:Int) (0:Int) (0:Int) (eK 0) ([97,98,32,99,100,10,101]:List Int)).bind fun(z2:((Int)⊕Z13))=>match z2 with
 | .inl r16=>(if(r16 != 0)=true then some false
 else none)
 | .inr (r17,r18,r19,r20,r21,r22,r23,r24)=>(((if(r17 != 0)=true then some ((r18,r19,r20,r21,r22,r23,r24,true))
 else((dM 2 (1:Int) ([]:List Int) r18 r19 r5 3 (8:Int) (0:Int) (0:Int) (0:Int) (eK 0) r20 r21 r22 r23 r24).bind fun(r41,r42,r43,r44,r45,r46,r47,r48) =>
 some ((r42,r43,r44,r45,r46,r47,r48,(r41 != 0)))))).bind fun(x1,x2,x3,x4,x5,x6,x7,v1)=>(if v1=true then some false
 else((dW x1 x2 r5 3 (8:Int) (0:Int) (0:Int) (0:Int) (eK 0) x3 x4 x5 x6 x7).bind fun r51 =>
 (((if((r51.length:Int) == 3)=true then(if 0≤(0:Int)∧0<(r51.length:Int)then(if(0:Int).toNat<r51.length then(if((((r51.getD ((0:Int).toNat) (0,0,0,0)).1) == 0) && ((((r51.getD ((0:Int).toNat) (0,0,0,0)).2.1) == 3) && ((((r51.getD ((0:Int).toNat) (0,0,0,0)).2.2.1) == 3) && (((r51.getD ((0:Int).toNat) (0,0,0,0)).2.2.2) == 4))))=true then((eZ x1 x2 r5 3 (8:Int) (0:Int) (0:Int) (0:Int) (eK 0) x3 x4 x5 x6 x7).bind fun r54 =>
 some (((dG r54) == ([97,98,99,100,10,101]:List UInt8))))
 else some (false))else none)else none)
 else some (false))).bind fun v2=>some v2)))))else none))))
theorem uD{res:Bool}(h:fH=some res):
  Pure Tryz.prog 8 [] (aX (bJ false [⟨.bool,res⟩])):=by
 refine Pure.of_body bB Tryz.func8 (by kernel_rfl) rfl (nl rfl) (fun Bw w0=> ?_) rfl
 unfold fH at h
 refine G ?_
 obtain⟨r4,q3,h⟩:=aG h
 obtain⟨⟨r5,r6⟩,q4,h⟩:=aG h
 have u_1:=(mC q3)
 have u_2:=(J8 false false false false q4)
 refine GN ⟨[],[(0,(oP u_1)),(1,(oP u_2))]⟩ [(0,0,oc u_1),(1,1,oc u_2)] (aC (G (aO h (fun hb1 h=> ?_) (fun hb1 h=> ?_))))
 ·refine G (aL (aE ?_))
  obtain rfl:=sI h
  exact aD [.bool] (by kernel_rfl)
 refine aB (aA (aC ?_))
 obtain⟨c2,h⟩:=aS h
 obtain⟨z2,q6,h⟩:=aG h
 rcases z2 with r16 | ⟨r17,r18,r19,r20,r21,r22,r23,r24⟩
 ·have u_1:=(oK false q6)
  refine bS ⟨[],[(4,(oO u_1 [] [false,false,true]))]⟩ [(3,3,oc c2),(4,4,oc u_1)] (aA (aC (aC ?_)))
  rcases aW h with⟨hb3,h⟩ | ⟨hb3,h⟩
  ·refine bS ⟨[(2,true),(7,true)],[]⟩ [(3,7,oc hb3)] (aA (sX rfl (G (aL (aE ?_)))))
   obtain rfl:=sI h
   exact aD [.bool] (by kernel_rfl)
  cases h
 have u_1:=(oK false q6)
 refine bS ⟨[],[(4,(oO u_1 [] [false,false,true]))]⟩ [(3,3,oc c2),(4,4,oc u_1)] (aA (aC (aC (bO h (fun(x1,x2,x3,x4,x5,x6,x7,v1)=>aM [(3,.adr 0 0 14 0),(29,.bo v1)] (oY x1 x2 r5 3 (8:Int) (0:Int) (0:Int) (0:Int) (eK 0) x3 x4 x5 x6 x7) 2) (fun r49 h=> ?_) (fun r49 h=> ?_)))))
 ·rcases aW h with⟨hb7,h⟩ | ⟨hb7,h⟩
  ·refine bS ⟨[(2,true),(7,true)],[]⟩ [(3,7,oc hb7)] ?_
   exact eN h (gg [] [128,129])
  obtain⟨⟨r41,r42,r43,r44,r45,r46,r47,r48⟩,q9,h⟩:=aG h
  have u_1:=(oN false q9)
  refine bS ⟨[(2,false),(7,false)],[(5,(oO u_1 [128,129]))]⟩ [(3,4,an hb7),(5,5,oc (And.intro hb7 u_1)),(6,6,an hb7),(7,7,oc hb7)] ?_
  exact eN h (gg [] [128,129])
 obtain⟨x1,x2,x3,x4,x5,x6,x7,v1⟩:=r49
 refine aA (aO h (fun hb8 h=> ?_) (fun hb8 h=> ?_))
 ·refine G (aL (aE ?_))
  obtain rfl:=sI h
  exact aD [.bool] (by kernel_rfl)
 refine aB (aA ?_)
 obtain⟨r51,q11,h⟩:=aG h
 refine GO 1 [0,1] (iZ q11) (aC (bO h (fun v2=>aM [(0,.bo v2)] [] 0) (fun v2 h=> ?_) (fun v2 h=> ?_)))
 ·rcases aW h with⟨hb13,h⟩ | ⟨hb13,h⟩
  ·obtain⟨c7,c8,h⟩:=g2 h
   rcases aW h with⟨hb14,h⟩ | ⟨hb14,h⟩
   ·obtain⟨r54,q14,h⟩:=aG h
    have u_1:=(hN q14)
    refine bS ⟨[(4,true),(11,true),(12,true),(17,true)],[(14,(oO u_1 [0,1]))]⟩ [(5,6,an hb13),(7,7,oc (And.intro hb13 c7)),(8,8,oc (And.intro hb13 c8)),(9,9,an hb13),(10,10,oc (And.intro hb13 aKa)),(11,11,oc hb13),(13,13,an hb14),(14,14,oc (And.intro hb14 u_1)),(15,16,an hb14),(17,17,oc hb14)] ?_
    exact eN h (gg [] [])
   refine bS ⟨[(4,true),(11,true),(12,false),(17,false)],[]⟩ [(5,6,an hb13),(7,7,oc (And.intro hb13 c7)),(8,8,oc (And.intro hb13 c8)),(9,9,an hb13),(10,10,oc (And.intro hb13 aKa)),(11,11,oc hb13),(13,17,oc hb14)] ?_
   exact eN h (gg [] [])
  refine bS ⟨[(4,false),(11,false)],[]⟩ [(5,11,oc hb13)] ?_
  exact eN h (gg [] [])
 refine aA (aL ?_)
 obtain rfl:=sI h
 exact aD [.bool] (by kernel_rfl)
def A3  : Option (List (List UInt8)) :=
 some ([([9]:List UInt8),([10]:List UInt8),([32]:List UInt8),([45]:List UInt8),([97]:List UInt8),([98]:List UInt8),([99]:List UInt8),([195,169]:List UInt8),([204,129]:List UInt8),([226,128,141]:List UInt8),([228,184,173]:List UInt8),([240,159,152,128]:List UInt8),([255]:List UInt8),([240,159]:List UInt8)]:List (List UInt8))
theorem aD9{res:List (List UInt8)}(h:A3=some res):
  Pure Tryz.prog 37 [] (aX (bJ false [⟨(.slice .str),res⟩])):=by
 refine Pure.of_body bB Tryz.func37 (by kernel_rfl) rfl (nl rfl) (fun Bw w0=> ?_) rfl
 unfold A3 at h
 refine G (G (aL ?_))
 obtain rfl:=sI h
 exact aD [(.slice .str)] (by kernel_rfl)
def lF(l1:List Int):rY→Option (rY⊕(List Int)):=fun(out5,i4) =>
 (if(decide (i4<(l1.length:Int)))=true then((A3).bind fun r12 =>
 (if 0≤i4∧i4<(l1.length:Int)then(if ¬(14:Int)=0 then(if 0≤(Int.tmod (IntKind.i64.wrap (l1.getD i4.toNat 0)) (14:Int))∧(Int.tmod (IntKind.i64.wrap (l1.getD i4.toNat 0)) (14:Int))<(r12.length:Int)then(if out5.length+(r12.getD ((Int.tmod (IntKind.i64.wrap (l1.getD i4.toNat 0)) (14:Int)).toNat) ([]:List UInt8)).length≤140737488355328 then some (Sum.inl ((out5++(dB (r12.getD ((Int.tmod (IntKind.i64.wrap (l1.getD i4.toNat 0)) (14:Int)).toNat) ([]:List UInt8)))),(IntKind.i64.wrap (i4+1))))else none)else none)else none)else none))
 else some (Sum.inr out5))
def oE(l1:List Int):Option (List Int) :=
 ((iter (lF l1) (([]:List Int),0)).bind fun out6=>some out6)
theorem u7(β0:Bool){l1:List Int}{res:List Int}(h:oE l1=some res):
  Owns Tryz.prog 11 [.p β0 (.slice (.int .u8)) l1] [] (.sl 0) [(0,.arr 5 (.int .u8) res)]:=by
 refine Owns.of_body bB Tryz.func11 (by kernel_rfl) rfl (nl rfl) (fun Bw w0=> ?_)
 unfold oE at h
 refine G (G (aC (G (aF (cW h (fun(out5,i4)=>aM [(0,.p β0 (.slice (.int .u8)) l1),(3,.sl 0),(4,.i64 i4)] [(0,.arr 5 (.int .u8) out5)] 1) 0 (fun out6=>aM [(3,.sl 0)] [(0,.arr 5 (.int .u8) out6)] 1) (gg [.nilS 3 24 5 (.int .u8)] [24]) (fun y o h=> ?_) (fun out6 h=> ?_))))))
 ·obtain⟨out5,i4⟩:=y
  unfold lF at h
  refine aC (G (aO h (fun hb6 h=> ?_) (fun hb6 h=> ?_)))
  ·refine aB (aA (aC (aF ?_)))
   obtain⟨r12,q12,h⟩:=aG h
   obtain⟨c45,c46,c47,c48,h⟩:=g4 h
   have u_1:=(aD9 q12)
   refine qA ⟨[],[(1,(oP u_1))]⟩ [(1,1,oc u_1),(4,4,oc c45),(7,7,oc c46),(8,8,oc c47),(10,10,oc c48)] (aK (aA (Ge ?_)))
   exact eB h (gg [] [113])
  refine aH (aY ?_)
  exact eX h (gg [] [0])
 refine aJ (aA (G (aL ?_)))
 obtain rfl:=sI h
 exact aR [none] [] [0] [(2,.sl 0)] [(0,.arr 5 (.int .u8) out6)] 1 0 (by kernel_rfl) (by kernel_rfl) (by kernel_rfl)
end
end Go.Proofs.YtbedjpdfkmfplaaGreatDoor.T
