/- Functions of the program as functions on data, and that the program's own come to them. -/
import Derived.Test.YtbedjpdfkmfplaaGreatDoorTvT21b0
import Derived.Test.YtbedjpdfkmfplaaGreatDoorTvT21ba1
import Derived.Test.YtbedjpdfkmfplaaGreatDoorTvT21ba3
namespace Go.Proofs.YtbedjpdfkmfplaaGreatDoor.T
open Go Go.Tv Go.Proofs
noncomputable section
set_option maxRecDepth 100000
set_option maxHeartbeats 4000000
def gP(d1:List Z2)(d2:List Int)(i1 x1 x2 x3 x4 x5 x6:Int)(x7:Option Nat):((List (Int×Int))×Int)→Option (((List (Int×Int))×Int)⊕(List (Int×Int))):=fun(v7,v8) =>
 (if(decide (v8≥i1))=true then(if 0≤(IntKind.i64.wrap (v8 - i1))∧(IntKind.i64.wrap (v8 - i1))<(v7.length:Int)then(if(IntKind.i64.wrap (v8 - i1)).toNat<v7.length then(((if(v8 == i1)=true then some (true)
 else(if 0≤v8∧v8<(d2.length:Int)then some (((d2.getD v8.toNat (0:Int)) != (0:Int)))else none))).bind fun v10=>(((if v10=true then((pE d1 d2 v8 i1 x1 (v7.set ((IntKind.i64.wrap (v8 - i1)).toNat) ((0:Int),(-1:Int))) x2 x3 x4 x5 x6 x7).bind fun r12 =>
 (if 0≤(IntKind.i64.wrap (v8 - i1))∧(IntKind.i64.wrap (v8 - i1))<((v7.set ((IntKind.i64.wrap (v8 - i1)).toNat) ((0:Int),(-1:Int))).length:Int)then(if(IntKind.i64.wrap (v8 - i1)).toNat<(v7.set ((IntKind.i64.wrap (v8 - i1)).toNat) ((0:Int),(-1:Int))).length then some (((v7.set ((IntKind.i64.wrap (v8 - i1)).toNat) ((0:Int),(-1:Int))).set ((IntKind.i64.wrap (v8 - i1)).toNat) (r12.1,r12.2)))else none)else none))
 else some ((v7.set ((IntKind.i64.wrap (v8 - i1)).toNat) ((0:Int),(-1:Int)))))).bind fun v11=>some (Sum.inl (v11,(IntKind.i64.wrap (v8 - (1:Int)))))))else none)else none)
 else some (Sum.inr v7))
def gO(d1:List Z2)(d2:List Int)(i1 x1 x3:Int)(v9:List (Int×Int)):((List Z2)×Int)→Option (((List Z2)×Int)⊕(List Z2)):=fun(v14,v15) =>
 (if(decide (v15<x1))=true then(if 0≤(IntKind.i64.wrap (v15 - i1))∧(IntKind.i64.wrap (v15 - i1))<(v9.length:Int)then(if(IntKind.i64.wrap (v15 - i1)).toNat<v9.length then(if 0≤(v9.getD ((IntKind.i64.wrap (v15 - i1)).toNat) ((0:Int),(0:Int))).2∧(v9.getD ((IntKind.i64.wrap (v15 - i1)).toNat) ((0:Int),(0:Int))).2<(d2.length:Int)then((kJ d1 d2 v15 ((v9.getD ((IntKind.i64.wrap (v15 - i1)).toNat) ((0:Int),(0:Int))).2) (d2.getD (((v9.getD ((IntKind.i64.wrap (v15 - i1)).toNat) ((0:Int),(0:Int))).2).toNat) (0:Int)) x3).bind fun r18 =>
 (if(v14.length+([(r18.1,(r18.2.1,(r18.2.2.1,r18.2.2.2)))]:List Z2).length)*32≤140737488355328∧v14.length+([(r18.1,(r18.2.1,(r18.2.2.1,r18.2.2.2)))]:List Z2).length≤9223372036854775807 then some (Sum.inl ((v14++([(r18.1,(r18.2.1,(r18.2.2.1,r18.2.2.2)))]:List Z2)),(v9.getD ((IntKind.i64.wrap (v15 - i1)).toNat) ((0:Int),(0:Int))).2))else none))else none)else none)else none)
 else some (Sum.inr v14))
def m7(d1:List Z2)(d2:List Int)(i1 x1 x2 x3 x4 x5 x6:Int)(x7:Option Nat):Option ((List Z2)×Bool) :=
 (if(decide (i1≥x1))=true then some (([]:List Z2),true)
 else(if 0≤(IntKind.i64.wrap ((IntKind.i64.wrap (x1 - i1))+(1:Int)))∧(IntKind.i64.wrap ((IntKind.i64.wrap (x1 - i1))+(1:Int)))≤(IntKind.i64.wrap ((IntKind.i64.wrap (x1 - i1))+(1:Int)))∧(16:Int)*(IntKind.i64.wrap ((IntKind.i64.wrap (x1 - i1))+(1:Int)))≤281474976710656∧(IntKind.i64.wrap ((IntKind.i64.wrap (x1 - i1))+(1:Int)))≤9223372036854775807 then((iter (gP d1 d2 i1 x1 x2 x3 x4 x5 x6 x7) ((List.replicate (IntKind.i64.wrap ((IntKind.i64.wrap (x1 - i1))+(1:Int))).toNat ((0:Int),(0:Int))),(IntKind.i64.wrap (x1 - (1:Int))))).bind fun v9=>(if 0≤(0:Int)∧(0:Int)<(v9.length:Int)then(if(0:Int).toNat<v9.length then(if(decide (((v9.getD ((0:Int).toNat) ((0:Int),(0:Int))).2)<(0:Int)))=true then some (([]:List Z2),false)
 else((iter (gO d1 d2 i1 x1 x3 v9) (([]:List Z2),i1)).bind fun v16=>some (v16,true)))else none)else none))else none))
theorem Y0(β0 β1:Bool){d1:List Z2}{d2:List Int}{i1:Int}{x1:Int}{x2:Int}{x3:Int}{x4:Int}{x5:Int}{x6:Int}{x7:Option Nat}{res:(List Z2)×Bool}(h:m7 d1 d2 i1 x1 x2 x3 x4 x5 x6 x7=some res):
  Pure Tryz.prog 93 [.agg [.p β0 (.slice cZ) d1,.p β1 (.slice (.int .u8)) d2],.i64 i1,.i64 x1,.agg [.i64 x2,.i64 x3,.u8 x4,.i64 x5,.i64 x6,.p false .flt x7]] (aW (bK false [⟨(.slice cZ),res.1⟩,⟨.bool,res.2⟩])):=by
 refine Pure.of_body aZ Tryz.func93 (by kernel_rfl) rfl (nl rfl) (fun Bw w0=> ?_) rfl
 unfold m7 at h
 refine G (aC (G (aO h (fun hb1 h=> ?_) (fun hb1 h=> ?_))))
 ·refine G (aI (aE ?_))
  obtain rfl:=sI h
  exact aD [(.slice cZ),.bool] (by kernel_rfl)
 refine aB (aA (GC 4 h (fun h=>aC (G (aG (dJ h (fun(v7,v8)=>aM [(1,.i64 i1),(2,.i64 x1),(4,.adr 0 0 2 0),(7,.adr 1 0 6 0),(10,.sl 2),(11,.i64 v8)] (aIe β0 d1 β1 d2 x2 x3 x4 x5 x6 x7 v7) 3) 0 (fun v9=>aM [(1,.i64 i1),(2,.i64 x1),(4,.adr 0 0 2 0),(7,.adr 1 0 6 0),(10,.sl 2)] (aIe β0 d1 β1 d2 x2 x3 x4 x5 x6 x7 v9) 3) (gg [] [0,8,88]) (fun y o h=> ?_) (fun v9 h=> ?_)))))))
 ·obtain⟨v7,v8⟩:=y
  unfold gP at h
  refine aC (G (aO h (fun hb14 h=> ?_) (fun hb14 h=> ?_)))
  ·refine aB (aA (aC (aG ?_)))
   obtain⟨c35,c36,h⟩:=g2 h
   refine GN a0 [(5,5,oc c35),(6,6,oc c36)] (aC (bO h (fun v10=>aM [(1,.i64 i1),(2,.i64 x1),(4,.adr 0 0 2 0),(7,.adr 1 0 6 0),(10,.sl 2),(11,.i64 v8),(46,.bo v10)] (aIe β0 d1 β1 d2 x2 x3 x4 x5 x6 x7 (v7.set ((IntKind.i64.wrap (v8 - i1)).toNat) ((0:Int),(-1:Int)))) 3) (fun v10 h=> ?_) (fun v10 h=> ?_)))
   ·rcases aS h with⟨hb17,h⟩ | ⟨hb17,h⟩
    ·refine bH ⟨[(3,true),(10,true)],[]⟩ [(4,10,oc hb17)] ?_
     exact eN h (gg [] [0,1,2])
    obtain⟨c39,h⟩:=aT h
    refine bH ⟨[(3,false),(10,false)],[]⟩ [(4,6,an hb17),(7,7,oc (And.intro hb17 c39)),(8,9,an hb17),(10,10,oc hb17)] ?_
    exact eN h (gg [] [0,1,2])
   refine aA (bO h (fun v11=>aM [(1,.i64 i1),(2,.i64 x1),(4,.adr 0 0 2 0),(7,.adr 1 0 6 0),(10,.sl 2),(11,.i64 v8)] (aIe β0 d1 β1 d2 x2 x3 x4 x5 x6 x7 v11) 3) (fun v11 h=> ?_) (fun v11 h=> ?_))
   ·refine aO h (fun hb19 h=> ?_) (fun hb19 h=> ?_)
    ·obtain⟨r12,q12,h⟩:=aF h
     obtain⟨c46,c47,h⟩:=g2 h
     have u_1:=(aBL β0 β1 true q12)
     refine bH ⟨[],[(10,(oP u_1))]⟩ [(10,10,oc u_1),(11,11,oc c46),(12,12,oc c47)] ?_
     exact eN h (gg [] [0,1,2])
    refine aB ?_
    exact eN h (gg [] [0,1,2])
   refine aK (aA (Ge ?_))
   exact eB h (gg [] [0,1,2])
  refine aJ (bA ?_)
  exact eX h (gg [] [0,1,2])
 refine aL (aA (aC ?_))
 obtain⟨c50,c51,h⟩:=g2 h
 refine GN a0 [(1,1,oc c50),(3,3,oc c51)] (aO h (fun hb20 h=> ?_) (fun hb20 h=> ?_))
 ·refine G (aI (aE ?_))
  obtain rfl:=sI h
  exact aD [(.slice cZ),.bool] (by kernel_rfl)
 refine aB (aA (G (aC (G (aG (dJ h (fun(v14,v15)=>aM [(1,.i64 i1),(2,.i64 x1),(4,.adr 0 0 2 0),(7,.adr 1 0 6 0),(10,.sl 2),(12,.sl 3),(13,.i64 v15)] (aMz β0 d1 β1 d2 x2 x3 x4 x5 x6 x7 v9 v14) 4) 2 (fun v16=>aM [(12,.sl 0)] [(0,.arr 181 cZ v16)] 1) (gg [.nilS 12 67 181 cZ] [0,1,2,67]) (fun y o h=> ?_) (fun v16 h=> ?_)))))))
 ·obtain⟨v14,v15⟩:=y
  unfold gO at h
  refine aC (G (aO h (fun hb23 h=> ?_) (fun hb23 h=> ?_)))
  ·refine aB (aA (aG ?_))
   obtain⟨c70,c71,h⟩:=g2 h
   refine GN a0 [(4,4,oc c70),(6,6,oc c71)] ?_
   obtain⟨c74,h⟩:=aT h
   obtain⟨r18,q18,h⟩:=aF h
   obtain⟨c75,h⟩:=aT h
   have u_1:=(qZ β0 β1 q18)
   refine GD ⟨[],[(11,(oP u_1))]⟩ [(7,7,oc c74),(11,11,oc u_1),(13,13,oc c75)] (Ge (aK ?_))
   exact eB h (gg [] [0,1,2,196])
  refine aJ (bA ?_)
  exact eX h (gg [] [3])
 refine aL (aA (G (aI ?_)))
 obtain rfl:=sI h
 exact aD [(.slice cZ),.bool] (by kernel_rfl)
def iA(d1:List Z2)(d2:List Int)(x1 x2 x3:Int):(Int×Int×Int×Int×Int)→Option ((Int×Int×Int×Int×Int)⊕(Int×Int)):=fun(v19,v20,v21,v22,v23) =>
 (if(decide (v23≤x1))=true then(if 0≤(IntKind.i64.wrap (v23 - (1:Int)))∧(IntKind.i64.wrap (v23 - (1:Int)))<(d1.length:Int)then((kG ((d1.getD ((IntKind.i64.wrap (v23 - (1:Int))).toNat) ((0:Int),((0:Int),((0:Int),(0:Int))))).1) ((d1.getD ((IntKind.i64.wrap (v23 - (1:Int))).toNat) ((0:Int),((0:Int),((0:Int),(0:Int))))).2.1) ((d1.getD ((IntKind.i64.wrap (v23 - (1:Int))).toNat) ((0:Int),((0:Int),((0:Int),(0:Int))))).2.2.1) ((d1.getD ((IntKind.i64.wrap (v23 - (1:Int))).toNat) ((0:Int),((0:Int),((0:Int),(0:Int))))).2.2.2) v21 x3).bind fun r26 =>
 ((gN d1 d2 (IntKind.i64.wrap (v23 - (1:Int))) v23).bind fun r28 =>
 (((if(r28 == v23)=true then some (r26)
 else some (v22))).bind fun v26=>(if(decide (v26 > x2))=true then some (Sum.inr (v19,v20))
 else((mM d1 d2 v23).bind fun(r31,r32) =>
 (((if r32=true then(if(r31 != (3:Int))=true then some (true)
 else some ((decide (v26<x2))))
 else some (false))).bind fun v27=>(((if v27=true then some (v23)
 else some (v19))).bind fun v28=>some (Sum.inl (v28,v23,r26,v26,(IntKind.i64.wrap (v23+(1:Int))))))))))))else none)
 else some (Sum.inr (v19,v20)))
def pD(d1:List Z2)(d2:List Int)(i1 x1 x2 x3 x4 x5 x6:Int)(x7:Option Nat):Option Z2 :=
 ((iter (iA d1 d2 x1 x2 x3) ((-1:Int),(IntKind.i64.wrap (i1+(1:Int))),(0:Int),(0:Int),(IntKind.i64.wrap (i1+(1:Int))))).bind fun(v24,v25)=>(if(decide (v24≥(0:Int)))=true then(if 0≤v24∧v24<(d2.length:Int)then((kJ d1 d2 i1 v24 (d2.getD v24.toNat (0:Int)) x3).bind fun r35 =>
 some (r35.1,(r35.2.1,(r35.2.2.1,r35.2.2.2))))else none)
 else(((if(v25 == x1)=true then(if 0≤x1∧x1<(d2.length:Int)then some ((d2.getD x1.toNat (0:Int)))else none)
 else some ((4:Int)))).bind fun v29=>(((if(decide (v25<x1))=true then(if 0≤v25∧v25<(d2.length:Int)then some (((d2.getD v25.toNat (0:Int)) == (1:Int)))else none)
 else some (false))).bind fun v30=>(((if v30=true then some ((1:Int))
 else some (v29))).bind fun v31=>((kJ d1 d2 i1 v25 v31 x3).bind fun r37 =>
 some (r37.1,(r37.2.1,(r37.2.2.1,r37.2.2.2)))))))))
theorem aBi(β0 β1:Bool){d1:List Z2}{d2:List Int}{i1:Int}{x1:Int}{x2:Int}{x3:Int}{x4:Int}{x5:Int}{x6:Int}{x7:Option Nat}{res:Int×Int×Int×Int}(h:pD d1 d2 i1 x1 x2 x3 x4 x5 x6 x7=some res):
  Pure Tryz.prog 134 [.agg [.p β0 (.slice cZ) d1,.p β1 (.slice (.int .u8)) d2],.i64 i1,.i64 x1,.agg [.i64 x2,.i64 x3,.u8 x4,.i64 x5,.i64 x6,.p false .flt x7]] (aW (bK false [⟨cZ,res⟩])):=by
 refine Pure.of_body aZ Tryz.func134 (by kernel_rfl) rfl (nl rfl) (fun Bw w0=> ?_) rfl
 unfold pD at h
 refine G (G (G (aC (G (aG (dJ h (fun(v19,v20,v21,v22,v23)=>aM [(1,.i64 i1),(2,.i64 x1),(4,.adr 0 0 2 0),(7,.adr 1 0 6 0),(8,.adr 2 0 4 0),(9,.i64 v19),(10,.i64 v20),(11,.i64 v21),(12,.i64 v22),(13,.i64 v23)] (aDA β0 d1 β1 d2 x2 x3 x4 x5 x6 x7 (0:Int) (0:Int) (0:Int) (0:Int)) 3) 0 (fun(v24,v25)=>aM [(1,.i64 i1),(2,.i64 x1),(4,.adr 0 0 2 0),(7,.adr 1 0 6 0),(8,.adr 2 0 4 0),(9,.i64 v24),(10,.i64 v25)] (aDA β0 d1 β1 d2 x2 x3 x4 x5 x6 x7 (0:Int) (0:Int) (0:Int) (0:Int)) 3) (gg [] [0,8,16]) (fun y o h=> ?_) (fun r33 h=> ?_)))))))
 ·obtain⟨v19,v20,v21,v22,v23⟩:=y
  unfold iA at h
  refine aC (G (aO h (fun hb37 h=> ?_) (fun hb37 h=> ?_)))
  ·refine aB (aA (aC (aG (GC 4 h (fun h=>aC ?_)))))
   obtain⟨r26,q20,h⟩:=aF h
   refine GP 4 (rD q20) ?_
   obtain⟨r28,q22,h⟩:=aF h
   refine GP 4 (qA β0 β1 q22) (bO h (fun v26=>aM [(1,.i64 i1),(2,.i64 x1),(4,.adr 0 0 2 0),(7,.adr 1 0 6 0),(8,.adr 2 0 4 0),(9,.i64 v19),(10,.i64 v20),(11,.i64 r26),(12,.i64 v26),(13,.i64 v23)] (aDA β0 d1 β1 d2 x2 x3 x4 x5 x6 x7 (0:Int) (0:Int) (0:Int) (0:Int)) 3) (fun v26 h=> ?_) (fun v26 h=> ?_))
   ·refine aO h (fun hb39 h=> ?_) (fun hb39 h=> ?_)
    ·refine Ge ?_
     exact eN h (gg [] [0,1,2])
    refine aB ?_
    exact eN h (gg [] [0,1,2])
   refine aA (aC (G (aO h (fun hb40 h=> ?_) (fun hb40 h=> ?_))))
   ·refine aJ (bA (kM rfl (bA ?_)))
    exact eX h (gg [] [0,1,2])
   refine aB (aA (G ?_))
   obtain⟨⟨r31,r32⟩,q24,h⟩:=aF h
   refine GP 2 (yZ β0 β1 q24) (aC (bO h (fun v27=>aM [(1,.i64 i1),(2,.i64 x1),(4,.adr 0 0 2 0),(7,.adr 1 0 6 0),(8,.adr 2 0 4 0),(9,.i64 v19),(10,.i64 v23),(11,.i64 r26),(12,.i64 v26),(13,.i64 v23),(67,.bo v27)] (aDA β0 d1 β1 d2 x2 x3 x4 x5 x6 x7 (0:Int) (0:Int) (0:Int) (0:Int)) 3) (fun v27 h=> ?_) (fun v27 h=> ?_)))
   ·rcases aS h with⟨hb45,h⟩ | ⟨hb45,h⟩
    ·rcases aS h with⟨hb46,h⟩ | ⟨hb46,h⟩
     ·refine bH ⟨[(1,true),(4,true),(9,true),(10,true)],[]⟩ [(2,4,an hb45),(5,8,oc hb46),(9,9,oc (And.intro hb45 hb46)),(10,10,oc hb45)] ?_
      exact eN h (gg [] [0,1,2])
     refine bH ⟨[(1,true),(4,false),(9,false),(10,true)],[]⟩ [(2,4,an hb45),(5,8,an hb46),(9,9,oc (And.intro hb45 hb46)),(10,10,oc hb45)] ?_
     exact eN h (gg [] [0,1,2])
    refine bH ⟨[(1,false),(10,false)],[]⟩ [(2,4,oc hb45),(9,10,oc hb45)] ?_
    exact eN h (gg [] [0,1,2])
   refine aA (bO h (fun v28=>aM [(1,.i64 i1),(2,.i64 x1),(4,.adr 0 0 2 0),(7,.adr 1 0 6 0),(8,.adr 2 0 4 0),(9,.i64 v28),(10,.i64 v23),(11,.i64 r26),(12,.i64 v26),(13,.i64 v23)] (aDA β0 d1 β1 d2 x2 x3 x4 x5 x6 x7 (0:Int) (0:Int) (0:Int) (0:Int)) 3) (fun v28 h=> ?_) (fun v28 h=> ?_))
   ·refine aO h (fun hb48 h=> ?_) (fun hb48 h=> ?_)
    ·refine Ge ?_
     exact eN h (gg [] [0,1,2])
    refine aB ?_
    exact eN h (gg [] [0,1,2])
   refine aK (aA (Ge ?_))
   exact eB h (gg [] [0,1,2])
  refine aJ (bA ?_)
  exact eX h (gg [] [0,1,2])
 obtain⟨v24,v25⟩:=r33
 refine aL (aA (aC (G (aO h (fun hb49 h=> ?_) (fun hb49 h=> ?_)))))
 ·obtain⟨c10,h⟩:=aT h
  obtain⟨r35,q26,h⟩:=aF h
  have u_1:=(qZ β0 β1 q26)
  refine GD ⟨[],[(10,(oP u_1))]⟩ [(6,6,oc c10),(10,10,oc u_1)] (aI (aE ?_))
  obtain rfl:=sI h
  exact aD [cZ] (by kernel_rfl)
 refine aB (aA (G (aC (G (bO h (fun v29=>aM [(1,.i64 i1),(2,.i64 x1),(4,.adr 0 0 2 0),(7,.adr 1 0 6 0),(8,.adr 2 0 4 0),(10,.i64 v25),(17,.u8 v29)] (aDA β0 d1 β1 d2 x2 x3 x4 x5 x6 x7 (0:Int) (0:Int) (0:Int) (0:Int)) 3) (fun v29 h=> ?_) (fun v29 h=> ?_))))))
 ·refine aO h (fun hb51 h=> ?_) (fun hb51 h=> ?_)
  ·refine X7 3 h (fun h=> ?_)
   exact eN h (gg [] [0,1,2])
  refine aB ?_
  exact eN h (gg [] [0,1,2])
 refine aA (aC (aC (bO h (fun v30=>aM [(1,.i64 i1),(4,.adr 0 0 2 0),(7,.adr 1 0 6 0),(8,.adr 2 0 4 0),(10,.i64 v25),(17,.u8 v29),(100,.bo v30)] (aDA β0 d1 β1 d2 x2 x3 x4 x5 x6 x7 (0:Int) (0:Int) (0:Int) (0:Int)) 3) (fun v30 h=> ?_) (fun v30 h=> ?_))))
 ·rcases aS h with⟨hb54,h⟩ | ⟨hb54,h⟩
  ·obtain⟨c17,h⟩:=aT h
   refine bH ⟨[(3,true),(10,true)],[]⟩ [(4,6,an hb54),(7,7,oc (And.intro hb54 c17)),(8,9,an hb54),(10,10,oc hb54)] ?_
   exact eN h (gg [] [0,1,2])
  refine bH ⟨[(3,false),(10,false)],[]⟩ [(4,10,oc hb54)] ?_
  exact eN h (gg [] [0,1,2])
 refine aA (bO h (fun v31=>aM [(1,.i64 i1),(4,.adr 0 0 2 0),(7,.adr 1 0 6 0),(8,.adr 2 0 4 0),(10,.i64 v25),(17,.u8 v31)] (aDA β0 d1 β1 d2 x2 x3 x4 x5 x6 x7 (0:Int) (0:Int) (0:Int) (0:Int)) 3) (fun v31 h=> ?_) (fun v31 h=> ?_))
 ·refine aO h (fun hb56 h=> ?_) (fun hb56 h=> ?_)
  ·refine Ge ?_
   exact eN h (gg [] [0,1,2])
  refine aB ?_
  exact eN h (gg [] [0,1,2])
 refine aA ?_
 obtain⟨r37,q28,h⟩:=aF h
 refine GP 6 (qZ β0 β1 q28) (aI ?_)
 obtain rfl:=sI h
 exact aD [cZ] (by kernel_rfl)
def fL(p1:List Z2)(p2:List Int)(to1 c1 c2 c3 c4 c5:Int)(c6:Option Nat):(Int×List Z2)→Option ((Int×List Z2)⊕(List Z2)):=fun(from3,out2) =>
 (if(decide (from3<to1))=true then((pD p1 p2 from3 to1 c1 c2 c3 c4 c5 c6).bind fun r6 =>
 (if(out2.length+([(r6.1,(r6.2.1,(r6.2.2.1,r6.2.2.2)))]:List Z2).length)*32≤140737488355328∧out2.length+([(r6.1,(r6.2.1,(r6.2.2.1,r6.2.2.2)))]:List Z2).length≤9223372036854775807 then some (Sum.inl (r6.2.1,(out2++([(r6.1,(r6.2.1,(r6.2.2.1,r6.2.2.2)))]:List Z2))))else none))
 else some (Sum.inr out2))
def kY(p1:List Z2)(p2:List Int)(from1 to1 c1 c2 c3 c4 c5:Int)(c6:Option Nat):Option (List Z2) :=
 ((iter (fL p1 p2 to1 c1 c2 c3 c4 c5 c6) (from1,([]:List Z2))).bind fun out3=>some out3)
theorem O4(β0 β1:Bool){p1:List Z2}{p2:List Int}{from1:Int}{to1:Int}{c1:Int}{c2:Int}{c3:Int}{c4:Int}{c5:Int}{c6:Option Nat}{res:List Z2}(h:kY p1 p2 from1 to1 c1 c2 c3 c4 c5 c6=some res):
  Pure Tryz.prog 94 [.agg [.p β0 (.slice cZ) p1,.p β1 (.slice (.int .u8)) p2],.i64 from1,.i64 to1,.agg [.i64 c1,.i64 c2,.u8 c3,.i64 c4,.i64 c5,.p false .flt c6]] (aW (bK false [⟨(.slice cZ),res⟩])):=by
 refine Pure.of_body aZ Tryz.func94 (by kernel_rfl) rfl (nl rfl) (fun Bw w0=> ?_) rfl
 unfold kY at h
 refine G (G (aC (aG (dJ h (fun(from3,out2)=>aM [(1,.i64 from3),(2,.i64 to1),(4,.adr 0 0 2 0),(7,.adr 1 0 6 0),(9,.sl 2)] (aL5 β0 p1 β1 p2 c1 c2 c3 c4 c5 c6 out2) 3) 0 (fun out3=>aM [(9,.sl 0)] [(0,.arr 181 cZ out3)] 1) (gg [.nilS 9 32 181 cZ] [0,8,32]) (fun y o h=> ?_) (fun out3 h=> ?_)))))
 ·obtain⟨from3,out2⟩:=y
  unfold fL at h
  refine aC (G (aO h (fun hb3 h=> ?_) (fun hb3 h=> ?_)))
  ·refine aB (aA (aG ?_))
   obtain⟨r6,q6,h⟩:=aF h
   refine GP 4 (aBi β0 β1 q6) (GC 3 h (fun h=>Ge (aK ?_)))
   exact eB h (gg [] [0,1,107])
  refine aJ (bA ?_)
  exact eX h (gg [] [2])
 refine aL (aA (G (aI ?_)))
 obtain rfl:=sI h
 exact aD [(.slice cZ)] (by kernel_rfl)
def i7(p1:List Z2)(p2:List Int)(from1 to1 c1 c2 c3 c4 c5:Int)(c6:Option Nat):Option ((List Z2)×Bool) :=
 (((if(c3 == (1:Int))=true then((m7 p1 p2 from1 to1 c1 c2 c3 c4 c5 c6).bind fun(r9,r10) =>
 (if r10=true then some ((Sum.inr (r9,false)))
 else some ((Sum.inl ()))))
 else some ((Sum.inl ())))).bind fun(r11:((Unit)⊕((List Z2)×Bool)))=>match r11 with
 | .inl _=>((kY p1 p2 from1 to1 c1 c2 c3 c4 c5 c6).bind fun r13 =>
 some (r13,(c3 == (1:Int))))
 | .inr ((r5,r6))=>some (r5,r6))
theorem aAj(β0 β1:Bool){p1:List Z2}{p2:List Int}{from1:Int}{to1:Int}{c1:Int}{c2:Int}{c3:Int}{c4:Int}{c5:Int}{c6:Option Nat}{res:(List Z2)×Bool}(h:i7 p1 p2 from1 to1 c1 c2 c3 c4 c5 c6=some res):
  Pure Tryz.prog 63 [.agg [.p β0 (.slice cZ) p1,.p β1 (.slice (.int .u8)) p2],.i64 from1,.i64 to1,.agg [.i64 c1,.i64 c2,.u8 c3,.i64 c4,.i64 c5,.p false .flt c6]] (aW (bK false [⟨(.slice cZ),res.1⟩,⟨.bool,res.2⟩])):=by
 refine Pure.of_body aZ Tryz.func63 (by kernel_rfl) rfl (nl rfl) (fun Bw w0=> ?_) rfl
 unfold i7 at h
 refine G (aC (G (aEj h (dY (rR Tryz.f63.ntmps (fun _=>aM [(1,.i64 from1),(2,.i64 to1),(4,.adr 0 0 2 0),(7,.adr 1 0 6 0)] (aLk β0 p1 β1 p2 c1 c2 c3 c4 c5 c6) 2)) (iN tb Tryz.f63.results.toList (fun(r5,r6)=>[⟨(.slice cZ),r5⟩,⟨.bool,r6⟩]))) (fun r11 h=> ?_) (fun r11 h e σ' hq=> ?_))))
 ·refine aO h (fun hb3 h=> ?_) (fun hb3 h=> ?_)
  ·obtain⟨⟨r9,r10⟩,q4,h⟩:=aF h
   refine GP 4 (Y0 β0 β1 q4) (G (aO h (fun hb4 h=> ?_) (fun hb4 h=> ?_)))
   ·refine G (aI ?_)
    obtain rfl:=sI h
    refine aV ?_
    exact b7 (aD [(.slice cZ),.bool] (by kernel_rfl))
   refine aB ?_
   obtain rfl:=sI h
   refine bL ?_
   exact dC (gg [] [0,8])
  refine aB ?_
  obtain rfl:=sI h
  refine bL ?_
  exact dC (gg [] [0,8])
 rcases r11 with _ | ⟨r5,r6⟩
 ·obtain⟨rfl,hle⟩:=hq
  refine dB ?_ hle
  refine aA ?_
  obtain⟨r13,q6,h⟩:=aF h
  have u_1:=(O4 β0 β1 q6)
  refine GD ⟨[],[(4,(oP u_1))]⟩ [(4,4,oc u_1)] (aI ?_)
  obtain rfl:=sI h
  exact aD [(.slice cZ),.bool] (by kernel_rfl)
 obtain⟨rfl,hr⟩:=hq
 refine aE ?_
 obtain rfl:=sI h
 exact hr
def uN(s1:List Z2):Option (List Z2):=(if s1.isEmpty=true then some []else(if(([]:List Z2).length+s1.length)*32≤140737488355328∧([]:List Z2).length+s1.length≤9223372036854775807 then some (([]:List Z2)++s1)else none))
theorem aCF(β0:Bool){s1:List Z2}{res:List Z2}(h:uN s1=some res):
  Owns Tryz.prog 95 [.p β0 (.slice cZ) s1] [] (.sl 0) [(0,.arr 181 cZ res)]:=by
 refine Owns.of_body aZ Tryz.func95 (by kernel_rfl) rfl (nl rfl) (fun Bw w0=> ?_)
 unfold uN at h
 refine G (aC (aEk aZ (d:=3) (e:=4) (A:=cZ) (xs:=s1) (el:=181) (β:=β0) rfl rfl rfl rfl rfl (by kernel_rfl) (by kernel_rfl) (by kernel_rfl) (fun b hb=> ?_)))
 cases b with
 | true =>
  obtain rfl:=hb rfl
  obtain rfl:=sI h
  exact kW rfl (G (aI (aE (aQ [none] [.nilS 2 1000 181 cZ] [1000] [(2,.sl 0)] [(0,.arr 181 cZ [])] 1 0 (by kernel_rfl) (by kernel_rfl) (by kernel_rfl)))))
 | false =>
  replace h:(if(([]:List Z2).length+s1.length)*32≤140737488355328∧([]:List Z2).length+s1.length≤9223372036854775807 then some (([]:List Z2)++s1)else none)=some res:=by cases s1 <;> simpa using h
  refine V6 rfl (aB (aA (GC 2 h (fun h=>aI ?_))))
  obtain rfl:=sI h
  exact aQ [none] [] [40] [(2,.sl 0)] [(0,.arr 181 cZ (([]:List Z2)++s1))] 1 0 (by kernel_rfl) (by kernel_rfl) (by kernel_rfl)
def gJ(by1:Int)(r2:List Z2):((List Z2)×Int)→Option (((List Z2)×Int)⊕(List Z2)):=fun(out2,v2) =>
 (if(decide (v2<(r2.length:Int)))=true then(if 0≤v2∧v2<(out2.length:Int)then(if v2.toNat<out2.length then(if 0≤v2∧v2<(out2.length:Int)then(if v2.toNat<out2.length then(if 0≤v2∧v2<((out2.set v2.toNat ((IntKind.i64.wrap (((out2.getD v2.toNat ((0:Int),((0:Int),((0:Int),(0:Int))))).1)+by1)),((out2.getD v2.toNat ((0:Int),((0:Int),((0:Int),(0:Int))))).2.1,((out2.getD v2.toNat ((0:Int),((0:Int),((0:Int),(0:Int))))).2.2.1,(out2.getD v2.toNat ((0:Int),((0:Int),((0:Int),(0:Int))))).2.2.2)))).length:Int)then(if v2.toNat<(out2.set v2.toNat ((IntKind.i64.wrap (((out2.getD v2.toNat ((0:Int),((0:Int),((0:Int),(0:Int))))).1)+by1)),((out2.getD v2.toNat ((0:Int),((0:Int),((0:Int),(0:Int))))).2.1,((out2.getD v2.toNat ((0:Int),((0:Int),((0:Int),(0:Int))))).2.2.1,(out2.getD v2.toNat ((0:Int),((0:Int),((0:Int),(0:Int))))).2.2.2)))).length then(if 0≤v2∧v2<((out2.set v2.toNat ((IntKind.i64.wrap (((out2.getD v2.toNat ((0:Int),((0:Int),((0:Int),(0:Int))))).1)+by1)),((out2.getD v2.toNat ((0:Int),((0:Int),((0:Int),(0:Int))))).2.1,((out2.getD v2.toNat ((0:Int),((0:Int),((0:Int),(0:Int))))).2.2.1,(out2.getD v2.toNat ((0:Int),((0:Int),((0:Int),(0:Int))))).2.2.2)))).length:Int)then(if v2.toNat<(out2.set v2.toNat ((IntKind.i64.wrap (((out2.getD v2.toNat ((0:Int),((0:Int),((0:Int),(0:Int))))).1)+by1)),((out2.getD v2.toNat ((0:Int),((0:Int),((0:Int),(0:Int))))).2.1,((out2.getD v2.toNat ((0:Int),((0:Int),((0:Int),(0:Int))))).2.2.1,(out2.getD v2.toNat ((0:Int),((0:Int),((0:Int),(0:Int))))).2.2.2)))).length then some (Sum.inl (((out2.set v2.toNat ((IntKind.i64.wrap (((out2.getD v2.toNat ((0:Int),((0:Int),((0:Int),(0:Int))))).1)+by1)),((out2.getD v2.toNat ((0:Int),((0:Int),((0:Int),(0:Int))))).2.1,((out2.getD v2.toNat ((0:Int),((0:Int),((0:Int),(0:Int))))).2.2.1,(out2.getD v2.toNat ((0:Int),((0:Int),((0:Int),(0:Int))))).2.2.2)))).set v2.toNat (((out2.set v2.toNat ((IntKind.i64.wrap (((out2.getD v2.toNat ((0:Int),((0:Int),((0:Int),(0:Int))))).1)+by1)),((out2.getD v2.toNat ((0:Int),((0:Int),((0:Int),(0:Int))))).2.1,((out2.getD v2.toNat ((0:Int),((0:Int),((0:Int),(0:Int))))).2.2.1,(out2.getD v2.toNat ((0:Int),((0:Int),((0:Int),(0:Int))))).2.2.2)))).getD v2.toNat ((0:Int),((0:Int),((0:Int),(0:Int))))).1,((IntKind.i64.wrap ((((out2.set v2.toNat ((IntKind.i64.wrap (((out2.getD v2.toNat ((0:Int),((0:Int),((0:Int),(0:Int))))).1)+by1)),((out2.getD v2.toNat ((0:Int),((0:Int),((0:Int),(0:Int))))).2.1,((out2.getD v2.toNat ((0:Int),((0:Int),((0:Int),(0:Int))))).2.2.1,(out2.getD v2.toNat ((0:Int),((0:Int),((0:Int),(0:Int))))).2.2.2)))).getD v2.toNat ((0:Int),((0:Int),((0:Int),(0:Int))))).2.1)+by1)),(((out2.set v2.toNat ((IntKind.i64.wrap (((out2.getD v2.toNat ((0:Int),((0:Int),((0:Int),(0:Int))))).1)+by1)),((out2.getD v2.toNat ((0:Int),((0:Int),((0:Int),(0:Int))))).2.1,((out2.getD v2.toNat ((0:Int),((0:Int),((0:Int),(0:Int))))).2.2.1,(out2.getD v2.toNat ((0:Int),((0:Int),((0:Int),(0:Int))))).2.2.2)))).getD v2.toNat ((0:Int),((0:Int),((0:Int),(0:Int))))).2.2.1,((out2.set v2.toNat ((IntKind.i64.wrap (((out2.getD v2.toNat ((0:Int),((0:Int),((0:Int),(0:Int))))).1)+by1)),((out2.getD v2.toNat ((0:Int),((0:Int),((0:Int),(0:Int))))).2.1,((out2.getD v2.toNat ((0:Int),((0:Int),((0:Int),(0:Int))))).2.2.1,(out2.getD v2.toNat ((0:Int),((0:Int),((0:Int),(0:Int))))).2.2.2)))).getD v2.toNat ((0:Int),((0:Int),((0:Int),(0:Int))))).2.2.2)))),(IntKind.i64.wrap (v2+(1:Int)))))else none)else none)else none)else none)else none)else none)else none)else none)
 else some (Sum.inr out2))
def i9(l1:List Z2)(by1:Int):Option (List Z2) :=
 ((uN l1).bind fun r2 =>
 ((iter (gJ by1 r2) (r2,(0:Int))).bind fun out3=>some out3))
theorem o8(β0:Bool){l1:List Z2}{by1:Int}{res:List Z2}(h:i9 l1 by1=some res):
  Pure Tryz.prog 64 [.p β0 (.slice cZ) l1,.i64 by1] (aW (bK false [⟨(.slice cZ),res⟩])):=by
 refine Pure.of_body aZ Tryz.func64 (by kernel_rfl) rfl (nl rfl) (fun Bw w0=> ?_) rfl
 unfold i9 at h
 refine G ?_
 obtain⟨r2,q2,h⟩:=aF h
 refine GO 1 [] (aCF β0 q2) (aC (G (aG (dJ h (fun(out2,v2)=>aM [(1,.i64 by1),(5,.sl 0),(10,.i64 (r2.length:Int)),(11,.i64 v2)] [(0,.arr 181 cZ out2)] 1) 0 (fun out3=>aM [(5,.sl 0)] [(0,.arr 181 cZ out3)] 1) (gg [] [16]) (fun y o h=> ?_) (fun out3 h=> ?_)))))
 ·obtain⟨out2,v2⟩:=y
  unfold gJ at h
  refine G (aC (aO h (fun hb3 h=> ?_) (fun hb3 h=> ?_)))
  ·refine aB (aA (aC (aG (G ?_))))
   obtain⟨c37,c38,c39,c40,h⟩:=g4 h
   refine GN a0 [(2,2,oc c37),(4,4,oc c38),(7,7,oc c39),(9,9,oc c40)] ?_
   obtain⟨c45,c46,c47,c48,h⟩:=g4 h
   refine bH a0 [(2,2,oc c45),(4,4,oc c46),(7,7,oc c47),(9,9,oc c48)] (aK (aA (Ge ?_)))
   exact eB h (gg [] [0])
  refine aJ (bA ?_)
  exact eX h (gg [] [0])
 refine aL (aA (G (aI ?_)))
 obtain rfl:=sI h
 exact aD [(.slice cZ)] (by kernel_rfl)
def gI(p1:List Z2)(p2:List Int)(tab1:Int)(m1:List Z2):((List (List Int))×Int)→Option (((List (List Int))×Int)⊕(List (List Int))):=fun(m3,v2) =>
 (if(decide (v2<(m1.length:Int)))=true then(if 0≤v2∧v2<(m1.length:Int)then((j3 p1 p2 ((m1.getD v2.toNat ((0:Int),((0:Int),((0:Int),(0:Int))))).1) ((m1.getD v2.toNat ((0:Int),((0:Int),((0:Int),(0:Int))))).2.1) tab1).bind fun r6 =>
 (if(m3.length+([r6]:List (List Int)).length)*24≤140737488355328∧m3.length+([r6]:List (List Int)).length≤9223372036854775807 then some (Sum.inl ((m3++([r6]:List (List Int))),(IntKind.i64.wrap (v2+(1:Int)))))else none))else none)
 else some (Sum.inr m3))
def m5(p1:List Z2)(p2:List Int)(l1:List Z2)(tab1:Int):Option (Option Z6) :=
 (((if((l1.length:Int) == (0:Int))=true then some (([((0:Int),((0:Int),((0:Int),(0:Int))))]:List Z2))
 else some (l1))).bind fun m1=>((iter (gI p1 p2 tab1 m1) (([]:List (List Int)),(0:Int))).bind fun m4=>some (some ((p1,p2),(m1,m4)):Option Z6)))
theorem aAc{p1:List Z2}{p2:List Int}{l1:List Z2}{tab1:Int}{res:Option Z6}(h:m5 p1 p2 l1 tab1=some res):
  Pure Tryz.prog 50 [.agg [.p false (.slice cZ) p1,.p false (.slice (.int .u8)) p2],.p false (.slice cZ) l1,.i64 tab1] (aW (bK false [⟨(.ptr (.prod W2 Y30)),res⟩])):=by
 refine Pure.of_body aZ Tryz.func50 (by kernel_rfl) rfl (nl rfl) (fun Bw w0=> ?_) rfl
 unfold m5 at h
 refine G (G (aC (G (bO h (fun m1=>aM [(2,.i64 tab1),(3,.adr 0 0 2 0),(7,.adr 1 0 4 0)] (aKh p1 p2 p1 p2 m1) 2) (fun m1 h=> ?_) (fun m1 h=> ?_)))))
 ·refine aO h (fun hb2 h=> ?_) (fun hb2 h=> ?_)
  ·refine Ge ?_
   exact eN h (gg [.frzC 40 2] [0,40])
  refine aB ?_
  exact eN h (gg [] [0,40])
 refine aA (aC (G (aG (dJ h (fun(m3,v2)=>aM [(2,.i64 tab1),(3,.adr 0 0 2 0),(7,.adr 1 0 4 0),(25,.p false (.slice cZ) m1),(26,.i64 (m1.length:Int)),(27,.i64 v2)] (aKy p1 p2 p1 p2 m1 m3) 3) 0 (fun m4=>aM [(7,.adr 0 0 4 0)] (aKW p1 p2 m1 m4) 2) (gg [.nilC 1 3 50 134 (.slice (.int .i64))] [0,1,50]) (fun y o h=> ?_) (fun m4 h=> ?_)))))
 ·obtain⟨m3,v2⟩:=y
  unfold gI at h
  refine G (aC (aO h (fun hb5 h=> ?_) (fun hb5 h=> ?_)))
  ·refine aB (aA (aC (aG (GC 0 h (fun h=> ?_)))))
   obtain⟨r6,q6,h⟩:=aF h
   obtain⟨c12,h⟩:=aT h
   have u_1:=(rZ false false q6)
   refine sA ⟨[],[(11,(oP u_1))]⟩ [(11,11,oc u_1),(13,13,oc c12)] (aK (aA (Ge ?_)))
   exact eB h (gg [] [0,1,147])
  refine aJ (bA ?_)
  exact eX h (gg [] [1,2])
 refine aL (aA (G (qM [.frzC 0 3] (by kernel_rfl) (aI ?_))))
 obtain rfl:=sI h
 exact aD [(.ptr (.prod W2 Y30))] (by kernel_rfl)
def eK(d4 d5 d6 d7 d8:Int)(d9:Option Nat)(r68:(List Z2)×List Int)(r71:List Int):((List Z2)×Bool×(List Z9)×(List ((List UInt8)×Bool))×Int×Int)→Option (((List Z2)×Bool×(List Z9)×(List ((List UInt8)×Bool))×Int×Int)⊕((List Z2)×Bool×(List Z9)×List ((List UInt8)×Bool))):=fun(d37,d38,d39,v28,v29,v30) =>
 (if(decide (v30<(r71.length:Int)))=true then(if 0≤v30∧v30<(r71.length:Int)then((tM r68.1 r68.2 v29 (r71.getD v30.toNat (0:Int))).bind fun r109 =>
 (((if(!((bI .str d39 r109).isSome))=true then((i7 r68.1 r68.2 v29 (r71.getD v30.toNat (0:Int)) d4 d5 d6 d7 d8 d9).bind fun(r118,r119) =>
 ((i9 r118 (IntKind.i64.wrap (0 - v29))).bind fun r121 =>
 some (((eS .str d39 r109 (r121,r119)),r121,r119))))
 else some ((d39,((bI .str d39 r109).getD (([]:List Z2),false)).1,((bI .str d39 r109).getD (([]:List Z2),false)).2)))).bind fun(d43,v32,v33)=>((((i9 v32 v29).bind fun r125 =>
 (if(d37.length+r125.length)*32≤140737488355328∧d37.length+r125.length≤9223372036854775807 then(if d38=true then some (((d37++r125),true))
 else some (((d37++r125),v33)))else none))).bind fun(d44,d45)=>some (Sum.inl (d44,d45,d43,(eS .str v28 r109 true),(r71.getD v30.toNat (0:Int)),(IntKind.i64.wrap (v30+(1:Int))))))))else none)
 else some (Sum.inr (d37,d38,d39,v28)))
def cT(i1:List Int)(d1:List Z2)(d2:Bool)(d3:Option Z1)(d4 d5 d6 d7 d8:Int)(d9:Option Nat)(d10:List Int)(d11:List Z2)(d12:List Int)(d13:Option Z6)(o1:List Z9):Option Z13 :=
 ((bB d3 i1).bind fun(r68,r69) =>
 (if(r69 != (0:Int))=true then some (r69,d1,d2,d10,d11,d12,d13,o1)
 else((oG r68.1 r68.2).bind fun r71 =>
 ((iter (eK d4 d5 d6 d7 d8 d9 r68 r71) (([]:List Z2),false,o1,([]:List ((List UInt8)×Bool)),(0:Int),(0:Int))).bind fun(d40,d41,d42,v31)=>((m5 r68.1 r68.2 d40 d5).bind fun r129 =>
 some ((0:Int),d40,d41,i1,r68.1,r68.2,r129,(xW .str d42 v31)))))))
theorem pR{i1:List Int}{d1:List Z2}{d2:Bool}{d3:Option Z1}{d4:Int}{d5:Int}{d6:Int}{d7:Int}{d8:Int}{d9:Option Nat}{d10:List Int}{d11:List Z2}{d12:List Int}{d13:Option Z6}{o1:List Z9}{res:Int×(List Z2)×Bool×(List Int)×(List Z2)×(List Int)×(Option Z6)×List Z9}(h:cT i1 d1 d2 d3 d4 d5 d6 d7 d8 d9 d10 d11 d12 d13 o1=some res):
  Owns Tryz.prog 39 [.adr 0 0 14 0,.p false (.slice (.int .u8)) i1] (oE d1 d2 d3 d4 d5 d6 d7 d8 d9 d10 d11 d12 d13 o1) (.i64 res.1) (oE res.2.1 res.2.2.1 d3 d4 d5 d6 d7 d8 d9 res.2.2.2.1 res.2.2.2.2.1 res.2.2.2.2.2.1 res.2.2.2.2.2.2.1 res.2.2.2.2.2.2.2):=by
 refine Owns.of_body aZ Tryz.func39 (by kernel_rfl) rfl (nl rfl) (fun Bw w0=> ?_)
 unfold cT at h
 refine G ?_
 obtain⟨⟨r68,r69⟩,q46,h⟩:=aF h
 refine GP 5 (A5 false q46) (aC (G (aO h (fun hb17 h=> ?_) (fun hb17 h=> ?_))))
 ·refine G (aI (aE ?_))
  obtain rfl:=sI h
  exact aQ [some (.int .i64)] [] [0,1] [(4,.i64 r69)] (oE d1 d2 d3 d4 d5 d6 d7 d8 d9 d10 d11 d12 d13 o1) 2 2 (by kernel_rfl) (by kernel_rfl) (by kernel_rfl)
 refine aB (aA (GD a0 [] (G (G (aC ?_)))))
 obtain⟨r71,q48,h⟩:=aF h
 refine GP 1 (T2 false false q48) (aG (dJ h (fun(d37,d38,d39,v28,v29,v30)=>aM [(0,.adr 0 0 14 0),(5,.adr 3 0 2 0),(7,.mp 4),(8,.i64 v29),(41,.p false (.slice (.int .i64)) r71),(42,.i64 (r71.length:Int)),(43,.i64 v30)] (aHG d38 d3 d4 d5 d6 d7 d8 d9 i1 r68.1 r68.2 d13 d39 d37 r68.1 r68.2 v28) 5 2) 0 (fun(d40,d41,d42,v31)=>aM [(0,.adr 0 0 14 0),(5,.adr 3 0 2 0),(7,.mp 4)] (aHG d41 d3 d4 d5 d6 d7 d8 d9 i1 r68.1 r68.2 d13 d42 d40 r68.1 r68.2 v31) 5 2) (gg [.nilC 0 0 298 181 cZ] [0,1,298,82,242]) (fun y o h=> ?_) (fun r127 h=> ?_)))
 ·obtain⟨d37,d38,d39,v28,v29,v30⟩:=y
  unfold eK at h
  refine G (aC (aO h (fun hb27 h=> ?_) (fun hb27 h=> ?_)))
  ·refine aB (aA (aC (aG (GC 0 h (fun h=> ?_)))))
   obtain⟨r109,q75,h⟩:=aF h
   refine GP 3 (aCA false false q75) (G (aC (G (bO h (fun(d43,v32,v33)=>aM [(0,.adr 0 0 14 0),(5,.adr 3 0 2 0),(7,.mp 4),(8,.i64 v29),(10,.i64 (r71.getD v30.toNat (0:Int))),(11,.st r109),(12,.adr 5 0 2 0),(41,.p false (.slice (.int .i64)) r71),(42,.i64 (r71.length:Int)),(43,.i64 v30)] (aKl d38 d3 d4 d5 d6 d7 d8 d9 i1 r68.1 r68.2 d13 d43 d37 r68.1 r68.2 v28 v32 v33) 6 2) (fun r122 h=> ?_) (fun r122 h=> ?_)))))
   ·refine aO h (fun hb29 h=> ?_) (fun hb29 h=> ?_)
    ·obtain⟨⟨r118,r119⟩,q81,h⟩:=aF h
     have u_1:=(aAj false false q81)
     refine GD ⟨[],[(7,(oP u_1))]⟩ [(7,7,oc u_1)] ?_
     obtain⟨r121,q83,h⟩:=aF h
     refine GP 4 (o8 false q83) (sA a0 [] ?_)
     exact eN h (gg [] [0,1,2,3,4,149])
    refine aB ?_
    exact eN h (gg [] [0,1,2,3,4,149])
   obtain⟨d43,v32,v33⟩:=r122
   refine aA (G (aC (bO h (fun(d44,d45)=>aM [(0,.adr 0 0 14 0),(5,.adr 3 0 2 0),(7,.mp 4),(10,.i64 (r71.getD v30.toNat (0:Int))),(41,.p false (.slice (.int .i64)) r71),(42,.i64 (r71.length:Int)),(43,.i64 v30)] (aHG d45 d3 d4 d5 d6 d7 d8 d9 i1 r68.1 r68.2 d13 d43 d44 r68.1 r68.2 (eS .str v28 r109 true)) 5 2) (fun r126 h=> ?_) (fun r126 h=> ?_))))
   ·obtain⟨r125,q86,h⟩:=aF h
    obtain⟨c28,h⟩:=aT h
    rcases aS h with⟨hb32,h⟩ | ⟨hb32,h⟩
    ·have u_1:=(o8 false q86)
     refine sA ⟨[(17,true),(20,true)],[(10,(oP u_1))]⟩ [(10,10,oc u_1),(11,11,oc c28),(18,20,oc hb32)] ?_
     exact eN h (gg [] [0,1,118,3,4])
    have u_1:=(o8 false q86)
    refine sA ⟨[(17,false),(20,false)],[(10,(oP u_1))]⟩ [(10,10,oc u_1),(11,11,oc c28),(18,19,an hb32),(20,20,oc hb32)] ?_
    exact eN h (gg [] [0,1,118,3,4])
   obtain⟨d44,d45⟩:=r126
   refine aA (Ge (aK (aA (Ge ?_))))
   exact eB h (gg [] [0,1,2,3,4])
  refine aJ (bA ?_)
  exact eX h (gg [] [0,1,2,3,4])
 obtain⟨d40,d41,d42,v31⟩:=r127
 refine aL (aA (aC (aIu aZ (idK:=1) (idU:=4) (idF:=0) (A:=Y31) (kv:=d42) (us:=v31) (dead:=[14,118,119,120,121,122,123,124,125,126,127,128,129,130,131,132,133,134,135]) (sz:=14) (off:=13) (by kernel_rfl) (by kernel_rfl) (by kernel_rfl) (by kernel_rfl) (by kernel_rfl) (by kernel_rfl) (by kernel_rfl) (by kernel_rfl) (by decide) (by kernel_rfl) (by decide) (aA ?_))))
 obtain⟨r129,q88,h⟩:=aF h
 have u_1:=(aAc q88)
 refine GD ⟨[],[(12,(oP u_1 [false,true]))]⟩ [(12,12,oc u_1)] (G (qM [.frzC 0 0] (by kernel_rfl) (aI ?_)))
 obtain rfl:=sI h
 exact aQ [some (.int .i64)] [] [0,1] [(4,.i64 (0:Int))] (oE d40 d41 d3 d4 d5 d6 d7 d8 d9 i1 r68.1 r68.2 r129 (xW .str d42 v31)) 2 2 (by kernel_rfl) (by kernel_rfl) (by kernel_rfl)
def eO(b1:Option Z1)(c1 c2 c3 c4 c5:Int)(c6:Option Nat)(text1:List Int):Option (((Int)⊕Z13)) :=
 ((dZ c1 c2 c3 c4 c5 c6).bind fun r24 =>
 (if(!r24)=true then some (Sum.inl (40:Int))
 else((cM text1).bind fun r34 =>
 ((cT r34 ([]:List Z2) false b1 c1 c2 c3 c4 c5 c6 ([]:List Int) ([]:List Z2) ([]:List Int) (none:Option Z6) ([]:List Z9)).bind fun(r35,r36,r37,r38,r39,r40,r41,r42) =>
 (if(r35 != (0:Int))=true then some (Sum.inl r35)
 else some (Sum.inr ((0:Int),r36,r37,r38,r39,r40,r41,r42)))))))
theorem fW(β7:Bool){b1:Option Z1}{c1:Int}{c2:Int}{c3:Int}{c4:Int}{c5:Int}{c6:Option Nat}{text1:List Int}{res:((Int)⊕Z13)}(h:eO b1 c1 c2 c3 c4 c5 c6 text1=some res):
  Owns Tryz.prog 13 [.p false (.ptr A8) b1,.agg [.i64 c1,.i64 c2,.u8 c3,.i64 c4,.i64 c5,.p false .flt c6],.p β7 (.slice (.int .u8)) text1] [] (aI0 (fun(w1:Int)=>(.tup [.nilp,.i64 w1],[])) (fun((w1,w2,w3,w4,w5,w6,w7,w8):Int×(List Z2)×Bool×(List Int)×(List Z2)×(List Int)×(Option Z6)×List Z9)=>(.tup [.adr 0 0 14 0,.i64 w1],(oE w2 w3 b1 c1 c2 c3 c4 c5 c6 w4 w5 w6 w7 w8))) res).1 (aI0 (fun(w1:Int)=>(.tup [.nilp,.i64 w1],[])) (fun((w1,w2,w3,w4,w5,w6,w7,w8):Int×(List Z2)×Bool×(List Int)×(List Z2)×(List Int)×(Option Z6)×List Z9)=>(.tup [.adr 0 0 14 0,.i64 w1],(oE w2 w3 b1 c1 c2 c3 c4 c5 c6 w4 w5 w6 w7 w8))) res).2:=by
 refine Owns.of_body aZ Tryz.func13 (by kernel_rfl) rfl (nl rfl) (fun Bw w0=> ?_)
 unfold eO at h
 refine G (G (aC ?_))
 obtain⟨r24,q8,h⟩:=aF h
 refine GP 1 (X0 q8) (aO h (fun hb3 h=> ?_) (fun hb3 h=> ?_))
 ·refine G (aI (aE ?_))
  obtain rfl:=sI h
  exact aQ [none,some (.int .i64)] [] [] [(6,.nilp),(7,.i64 (40:Int))] [] 0 0 (by kernel_rfl) (by kernel_rfl) (by kernel_rfl)
 refine aB (aA (aC (aC (qM [.nilCp 56 0 cZ,.nilCp 56 9 (.int .u8),.nilCp 56 10 cZ,.nilCp 56 11 (.int .u8),.nilCq 56 12 (.prod W2 Y30)] (by kernel_rfl) ?_))))
 obtain⟨r34,q11,h⟩:=aF h
 obtain⟨⟨r35,r36,r37,r38,r39,r40,r41,r42⟩,q12,h⟩:=aF h
 have u_1:=(iO β7 q11)
 have u_2:=(pR q12)
 refine bH ⟨[],[(2,(oO u_1 [])),(3,(oO u_2 [56,40] [false,true]))]⟩ [(2,2,oc u_1),(3,3,oc u_2)] (aA (G (aO h (fun hb4 h=> ?_) (fun hb4 h=> ?_))))
 ·refine G (aI (aE ?_))
  obtain rfl:=sI h
  exact aQ [none,some (.int .i64)] [] [] [(6,.nilp),(7,.i64 r35)] [] 0 0 (by kernel_rfl) (by kernel_rfl) (by kernel_rfl)
 refine aB (aA (G (aI ?_)))
 obtain rfl:=sI h
 exact aQ [none,some (.int .i64)] [] [56,40] [(6,.adr 0 0 14 0),(7,.i64 (0:Int))] (oE r36 r37 b1 c1 c2 c3 c4 c5 c6 r38 r39 r40 r41 r42) 2 0 (by kernel_rfl) (by kernel_rfl) (by kernel_rfl)
def xD(n1 e1 e2:Int)(e3:List Int):Option (Int) :=
 (((if(decide (e1<(0:Int)))=true then some (true)
 else(if(decide (e2<(0:Int)))=true then some (true)
 else(if(decide (e1 > n1))=true then some (true)
 else some ((decide (e2 > (IntKind.i64.wrap (n1 - e1))))))))).bind fun v1=>(if v1=true then some (50:Int)
 else(((if(decide ((e3.length:Int) > (4096:Int)))=true then some (true)
 else some ((decide ((IntKind.i64.wrap ((IntKind.i64.wrap (n1 - e2))+(e3.length:Int))) > (4096:Int)))))).bind fun v2=>(if v2=true then some (3:Int)
 else some (0:Int)))))
theorem X1(β3:Bool){n1:Int}{e1:Int}{e2:Int}{e3:List Int}{res:Int}(h:xD n1 e1 e2 e3=some res):
  Pure Tryz.prog 43 [.i64 n1,.agg [.i64 e1,.i64 e2,.p β3 (.slice (.int .u8)) e3]] (aW (bK false [⟨(.int .i64),res⟩])):=by
 refine Pure.of_body aZ Tryz.func43 (by kernel_rfl) rfl (nl rfl) (fun Bw w0=> ?_) rfl
 unfold xD at h
 refine G (aC (aG (aC (bO h (fun v1=>aM [(0,.i64 n1),(3,.adr 0 0 3 0),(5,.bo v1)] (aKD e1 e2 β3 e3) 1) (fun v1 h=> ?_) (fun v1 h=> ?_)))))
 ·rcases aS h with⟨hb7,h⟩ | ⟨hb7,h⟩
  ·refine bH ⟨[(3,true),(7,true)],[]⟩ [(4,7,oc hb7)] ?_
   exact eN h (gg [] [0])
  rcases aS h with⟨hb8,h⟩ | ⟨hb8,h⟩
  ·refine bH ⟨[(3,false),(7,false),(8,true),(13,true)],[]⟩ [(4,6,an hb7),(7,7,oc hb7),(9,13,oc hb8)] ?_
   exact eN h (gg [] [0])
  rcases aS h with⟨hb9,h⟩ | ⟨hb9,h⟩
  ·refine bH ⟨[(3,false),(7,false),(8,false),(13,false),(14,true),(22,true)],[]⟩ [(4,6,an hb7),(7,7,oc hb7),(9,12,an hb8),(13,13,oc hb8),(15,22,oc hb9)] ?_
   exact eN h (gg [] [0])
  refine bH ⟨[(3,false),(7,false),(8,false),(13,false),(14,false),(22,false)],[]⟩ [(4,6,an hb7),(7,7,oc hb7),(9,12,an hb8),(13,13,oc hb8),(15,21,an hb9),(22,22,oc hb9)] ?_
  exact eN h (gg [] [0])
 refine aA (aO h (fun hb10 h=> ?_) (fun hb10 h=> ?_))
 ·refine G (aI (aN (aE ?_)))
  obtain rfl:=sI h
  exact aD [(.int .i64)] (by kernel_rfl)
 refine aC (bO h (fun v2=>aM [(29,.bo v2)] [] 0) (fun v2 h=> ?_) (fun v2 h=> ?_))
 ·rcases aS h with⟨hb13,h⟩ | ⟨hb13,h⟩
  ·refine bH ⟨[(4,true),(14,true)],[]⟩ [(5,14,oc hb13)] ?_
   exact eN h (gg [] [])
  refine bH ⟨[(4,false),(14,false)],[]⟩ [(5,13,an hb13),(14,14,oc hb13)] ?_
  exact eN h (gg [] [])
 refine aA (aO h (fun hb14 h=> ?_) (fun hb14 h=> ?_))
 ·refine G (aI (aN (aE ?_)))
  obtain rfl:=sI h
  exact aD [(.int .i64)] (by kernel_rfl)
 refine aB (aK (aA (G (aI ?_))))
 obtain rfl:=sI h
 exact aD [(.int .i64)] (by kernel_rfl)
def fE(n1:Int):Option (List Int) :=
 (((if(decide (n1<(0:Int)))=true then none
 else some (()))).bind fun _=>(((if(decide ((IntKind.i64.wrap (n1 - (IntKind.i64.wrap ((0:Int) - (0:Int))))) > (0:Int)))=true then(if 0≤(0:Int)∧(0:Int)≤(0:Int)∧(0:Int)≤(0:Int)then(if 0≤(IntKind.i64.wrap (n1 - (IntKind.i64.wrap ((0:Int) - (0:Int)))))∧(([]:List Int).length+(IntKind.i64.wrap (n1 - (IntKind.i64.wrap ((0:Int) - (0:Int))))).toNat)*1≤140737488355328∧([]:List Int).length+(IntKind.i64.wrap (n1 - (IntKind.i64.wrap ((0:Int) - (0:Int))))).toNat≤9223372036854775807 then(if 0≤(0:Int)∧(0:Int)≤((List.replicate (IntKind.i64.wrap (n1 - (IntKind.i64.wrap ((0:Int) - (0:Int))))).toNat (0:Int)).length:Int)then some (((List.replicate (IntKind.i64.wrap (n1 - (IntKind.i64.wrap ((0:Int) - (0:Int))))).toNat (0:Int)).take (0:Int).toNat))else none)else none)else none)
 else some (([]:List Int)))).bind fun s3=>some s3))
theorem mF{n1:Int}{res:List Int}(h:fE n1=some res):
  Owns Tryz.prog 96 [.nils,.i64 n1] [] (.sl 0) [(0,.arr 5 (.int .u8) res)]:=by
 refine Owns.of_body aZ Tryz.func96 (by kernel_rfl) rfl (nl rfl) (fun Bw w0=> ?_)
 unfold fE at h
 refine G (aC (G (bO h (fun _=>aM [(0,.nils),(1,.i64 n1)] [] 0) (fun r2 h=> ?_) (fun r2 h=> ?_))))
 ·refine aO h (fun hb6 h=> ?_) (fun hb6 h=> ?_)
  ·cases h
  refine aB ?_
  exact eN h (gg [] [])
 refine aA (aC (G (G (bO h (fun s3=>aM [(0,.sl 0)] [(0,.arr 5 (.int .u8) s3)] 1) (fun s3 h=> ?_) (fun s3 h=> ?_)))))
 ·refine aO h (fun hb8 h=> ?_) (fun hb8 h=> ?_)
  ·obtain⟨c22,c23,c24,h⟩:=g3 h
   refine bH a0 [(3,3,oc c22),(5,5,oc c23),(8,8,oc c24)] ?_
   exact eN h (gg [] [144])
  refine aB ?_
  exact eN h (gg [.nilS 0 80 5 (.int .u8)] [80])
 refine aA (G (aI ?_))
 obtain rfl:=sI h
 exact aQ [none] [] [0] [(4,.sl 0)] [(0,.arr 5 (.int .u8) s3)] 1 0 (by kernel_rfl) (by kernel_rfl) (by kernel_rfl)
def fJ(slices1 slices2 slices3:List Int):Option (List Int) :=
 (if 0≤(0:Int)∧(0:Int)<((3:Nat):Int)then(((if(decide ((IntKind.i64.wrap ((0:Int)+(slices1.length:Int)))<(0:Int)))=true then none
 else some (()))).bind fun _=>(if 0≤(1:Int)∧(1:Int)<((3:Nat):Int)then(((if(decide ((IntKind.i64.wrap ((IntKind.i64.wrap ((0:Int)+(slices1.length:Int)))+(slices2.length:Int)))<(0:Int)))=true then none
 else some (()))).bind fun _=>(if 0≤(2:Int)∧(2:Int)<((3:Nat):Int)then(((if(decide ((IntKind.i64.wrap ((IntKind.i64.wrap ((IntKind.i64.wrap ((0:Int)+(slices1.length:Int)))+(slices2.length:Int)))+(slices3.length:Int)))<(0:Int)))=true then none
 else some (()))).bind fun _=>((fE (IntKind.i64.wrap ((IntKind.i64.wrap ((IntKind.i64.wrap ((0:Int)+(slices1.length:Int)))+(slices2.length:Int)))+(slices3.length:Int)))).bind fun r11 =>
 (if 0≤(0:Int)∧(0:Int)<((3:Nat):Int)then(if(r11.length+slices1.length)*1≤140737488355328∧r11.length+slices1.length≤9223372036854775807 then(if 0≤(1:Int)∧(1:Int)<((3:Nat):Int)then(if((r11++slices1).length+slices2.length)*1≤140737488355328∧(r11++slices1).length+slices2.length≤9223372036854775807 then(if 0≤(2:Int)∧(2:Int)<((3:Nat):Int)then(if(((r11++slices1)++slices2).length+slices3.length)*1≤140737488355328∧((r11++slices1)++slices2).length+slices3.length≤9223372036854775807 then some (((r11++slices1)++slices2)++slices3)else none)else none)else none)else none)else none)else none)))else none))else none))else none)
theorem mQ(β0 β1 β2:Bool){slices1:List Int}{slices2:List Int}{slices3:List Int}{res:List Int}(h:fJ slices1 slices2 slices3=some res):
  Owns Tryz.prog 65 [.sl 0] (aE7 β0 slices1 β1 slices2 β2 slices3) (.p false (.slice (.int .u8)) res) []:=by
 refine Owns.of_body aZ Tryz.func65 (by kernel_rfl) rfl (nl rfl) (fun Bw w0=> ?_)
 unfold fJ at h
 refine G (G (aC (G (aG (O2 9 (G (aC (kW rfl (aB (aA (aC (aG (GC 0 h (fun h=>G (G (bO h (fun _=>aM [(0,.sl 0),(3,.i64 (IntKind.i64.wrap ((0:Int)+(slices1.length:Int)))),(9,.sl 0),(10,.i64 (3:Int)),(11,.i64 (0:Int))] (aE7 β0 slices1 β1 slices2 β2 slices3) 1 1) (fun r7 h=> ?_) (fun r7 h=> ?_)))))))))))))))))
 ·refine aO h (fun hb16 h=> ?_) (fun hb16 h=> ?_)
  ·cases h
  refine aB ?_
  exact eN h (gg [] [0])
 refine aK (aA (Ge (A7 (G (aC (kW rfl (aB (aA (aC (aG (GC 0 h (fun h=>G (G (bO h (fun _=>aM [(0,.sl 0),(3,.i64 (IntKind.i64.wrap ((IntKind.i64.wrap ((0:Int)+(slices1.length:Int)))+(slices2.length:Int)))),(9,.sl 0),(10,.i64 (3:Int)),(11,.i64 (1:Int))] (aE7 β0 slices1 β1 slices2 β2 slices3) 1 1) (fun r8 h=> ?_) (fun r8 h=> ?_)))))))))))))))
 ·refine aO h (fun hb18 h=> ?_) (fun hb18 h=> ?_)
  ·cases h
  refine aB ?_
  exact eN h (gg [] [0])
 refine aK (aA (Ge (A7 (G (aC (kW rfl (aB (aA (aC (aG (GC 0 h (fun h=>G (G (bO h (fun _=>aM [(0,.sl 0),(3,.i64 (IntKind.i64.wrap ((IntKind.i64.wrap ((IntKind.i64.wrap ((0:Int)+(slices1.length:Int)))+(slices2.length:Int)))+(slices3.length:Int)))),(9,.sl 0),(10,.i64 (3:Int)),(11,.i64 (2:Int))] (aE7 β0 slices1 β1 slices2 β2 slices3) 1 1) (fun r9 h=> ?_) (fun r9 h=> ?_)))))))))))))))
 ·refine aO h (fun hb20 h=> ?_) (fun hb20 h=> ?_)
  ·cases h
  refine aB ?_
  exact eN h (gg [] [0])
 refine aK (aA (Ge (A7 (G (aC (V6 rfl (aJ (bA (rQE (aL (aA ?_)))))))))))
 obtain⟨r11,q4,h⟩:=aF h
 have u_1:=(mF q4)
 refine GN ⟨[],[(1,(oO u_1 [] [] [false,true]))]⟩ [(1,1,oc u_1)] (aC (G (aG (O2 9 (G (aC (kW rfl (aB (aA (aC (aG (GC 0 h (fun h=>X7 2 h (fun h=>aK (aA (Ge (A7 (G (aC (kW rfl (aB (aA (aC (aG (GC 0 h (fun h=>X7 2 h (fun h=>aK (aA (Ge (A7 (G (aC (kW rfl (aB (aA (aC (aG (GC 0 h (fun h=>X7 2 h (fun h=>aK (aA (Ge (A7 (G (aC (V6 rfl (aJ (bA (rQE (aL (aA (G (aI ?_)))))))))))))))))))))))))))))))))))))))))))))))))))))
 obtain rfl:=sI h
 exact aQ [some (.slice (.int .u8))] [] [0,281] [(2,.sl 1)] [(1,.arr 5 (.int .u8) (((r11++slices1)++slices2)++slices3))] 2 1 (by kernel_rfl) (by kernel_rfl) (by kernel_rfl)
def uO(b1:List Int)(e1 e2:Int)(e3:List Int):Option C0 :=
 ((xD (b1.length:Int) e1 e2 e3).bind fun r2 =>
 (if(r2 != (0:Int))=true then some (([]:List Int),r2)
 else(if 0≤(0:Int)∧(0:Int)≤e1∧e1≤(b1.length:Int)then(if 0≤(IntKind.i64.wrap (e1+e2))∧(IntKind.i64.wrap (e1+e2))≤(b1.length:Int)∧(b1.length:Int)≤(b1.length:Int)then((fJ ((b1.take e1.toNat).drop (0:Int).toNat) e3 ((b1.take (b1.length:Int).toNat).drop (IntKind.i64.wrap (e1+e2)).toNat)).bind fun r4 =>
 some (r4,(0:Int)))else none)else none)))
theorem P8(β0 β3:Bool){b1:List Int}{e1:Int}{e2:Int}{e3:List Int}{res:(List Int)×Int}(h:uO b1 e1 e2 e3=some res):
  Pure Tryz.prog 41 [.p β0 (.slice (.int .u8)) b1,.agg [.i64 e1,.i64 e2,.p β3 (.slice (.int .u8)) e3]] (aW (bK false [⟨(.slice (.int .u8)),res.1⟩,⟨(.int .i64),res.2⟩])):=by
 refine Pure.of_body aZ Tryz.func41 (by kernel_rfl) rfl (nl rfl) (fun Bw w0=> ?_) rfl
 unfold uO at h
 refine G (aC ?_)
 obtain⟨r2,q2,h⟩:=aF h
 refine GP 3 (X1 β3 q2) (G (aO h (fun hb1 h=> ?_) (fun hb1 h=> ?_)))
 ·refine G (aI (aE ?_))
  obtain rfl:=sI h
  exact aD [(.slice (.int .u8)),(.int .i64)] (by kernel_rfl)
 refine aB (aA ?_)
 obtain⟨c3,c4,h⟩:=g2 h
 obtain⟨r4,q4,h⟩:=aF h
 have u_1:=(mQ β0 β3 β0 q4)
 refine GD ⟨[],[(13,⟨.unk,[],false,[],[],[],none⟩),(14,(oO u_1 [184]))]⟩ [(3,3,oc c3),(12,12,oc c4),(14,14,oc u_1)] (aI ?_)
 obtain rfl:=sI h
 exact aD [(.slice (.int .u8)),(.int .i64)] (by kernel_rfl)
def fN(e1 e2:Int)(e3:List Int)(f1:List Z2)(f2:Bool)(f3:Option Z1)(f4 f5 f6 f7 f8:Int)(f9:Option Nat)(f10:List Int)(f11:List Z2)(f12:List Int)(f13:Option Z6)(o1:List Z9):Option Z13 :=
 ((uO f10 e1 e2 e3).bind fun(r24,r25) =>
 (if(r25 != (0:Int))=true then some (r25,f1,f2,f10,f11,f12,f13,o1)
 else((cT r24 f1 f2 f3 f4 f5 f6 f7 f8 f9 f10 f11 f12 f13 o1).bind fun(r34,r35,r36,r37,r38,r39,r40,r41) =>
 some (r34,r35,r36,r37,r38,r39,r40,r41))))
theorem z5(β2:Bool){e1:Int}{e2:Int}{e3:List Int}{f1:List Z2}{f2:Bool}{f3:Option Z1}{f4:Int}{f5:Int}{f6:Int}{f7:Int}{f8:Int}{f9:Option Nat}{f10:List Int}{f11:List Z2}{f12:List Int}{f13:Option Z6}{o1:List Z9}{res:Int×(List Z2)×Bool×(List Int)×(List Z2)×(List Int)×(Option Z6)×List Z9}(h:fN e1 e2 e3 f1 f2 f3 f4 f5 f6 f7 f8 f9 f10 f11 f12 f13 o1=some res):
  Owns Tryz.prog 14 [.adr 0 0 14 0,.agg [.i64 e1,.i64 e2,.p β2 (.slice (.int .u8)) e3]] (oE f1 f2 f3 f4 f5 f6 f7 f8 f9 f10 f11 f12 f13 o1) (.i64 res.1) (oE res.2.1 res.2.2.1 f3 f4 f5 f6 f7 f8 f9 res.2.2.2.1 res.2.2.2.2.1 res.2.2.2.2.2.1 res.2.2.2.2.2.2.1 res.2.2.2.2.2.2.2):=by
 refine Owns.of_body aZ Tryz.func14 (by kernel_rfl) rfl (nl rfl) (fun Bw w0=> ?_)
 unfold fN at h
 refine G (aC (GN a0 [(1,1,⟨∃e,Tryz.prog.underlying 49=some (.pointer e),⟨_,rfl⟩⟩)] (V6 rfl (aB (aA ?_)))))
 obtain⟨⟨r24,r25⟩,q6,h⟩:=aF h
 have u_1:=(P8 false β2 q6)
 refine GD ⟨[],[(5,(oP u_1))]⟩ [(5,5,oc u_1)] (aC (G (aO h (fun hb3 h=> ?_) (fun hb3 h=> ?_))))
 ·refine G (aI (aE ?_))
  obtain rfl:=sI h
  exact aQ [some (.int .i64)] [] [0,1] [(4,.i64 r25)] (oE f1 f2 f3 f4 f5 f6 f7 f8 f9 f10 f11 f12 f13 o1) 2 2 (by kernel_rfl) (by kernel_rfl) (by kernel_rfl)
 refine aB (aA ?_)
 obtain⟨⟨r34,r35,r36,r37,r38,r39,r40,r41⟩,q8,h⟩:=aF h
 refine GO 2 [0,1] (pR q8) (aI ?_)
 obtain rfl:=sI h
 exact aQ [some (.int .i64)] [] [0,1] [(4,.i64 r34)] (oE r35 r36 f3 f4 f5 f6 f7 f8 f9 r37 r38 r39 r40 r41) 2 2 (by kernel_rfl) (by kernel_rfl) (by kernel_rfl)
def wF(p1 l1:List Z2):((List Z2)×Int)→Option (((List Z2)×Int)⊕(List Z2)):=fun(out5,v4) =>
 (if(decide (v4<(l1.length:Int)))=true then(if 0≤v4∧v4<(l1.length:Int)then(if 0≤(IntKind.i64.wrap (((l1.getD v4.toNat ((0:Int),((0:Int),((0:Int),(0:Int))))).2.1) - (1:Int)))∧(IntKind.i64.wrap (((l1.getD v4.toNat ((0:Int),((0:Int),((0:Int),(0:Int))))).2.1) - (1:Int)))<(p1.length:Int)then(if 0≤(l1.getD v4.toNat ((0:Int),((0:Int),((0:Int),(0:Int))))).1∧(l1.getD v4.toNat ((0:Int),((0:Int),((0:Int),(0:Int))))).1<(p1.length:Int)then(if(out5.length+([((p1.getD (((l1.getD v4.toNat ((0:Int),((0:Int),((0:Int),(0:Int))))).1).toNat) ((0:Int),((0:Int),((0:Int),(0:Int))))).1,((IntKind.i64.wrap (((p1.getD ((IntKind.i64.wrap (((l1.getD v4.toNat ((0:Int),((0:Int),((0:Int),(0:Int))))).2.1) - (1:Int))).toNat) ((0:Int),((0:Int),((0:Int),(0:Int))))).1)+((p1.getD ((IntKind.i64.wrap (((l1.getD v4.toNat ((0:Int),((0:Int),((0:Int),(0:Int))))).2.1) - (1:Int))).toNat) ((0:Int),((0:Int),((0:Int),(0:Int))))).2.1))),((l1.getD v4.toNat ((0:Int),((0:Int),((0:Int),(0:Int))))).2.2.1,(l1.getD v4.toNat ((0:Int),((0:Int),((0:Int),(0:Int))))).2.2.2)))]:List Z2).length)*32≤140737488355328∧out5.length+([((p1.getD (((l1.getD v4.toNat ((0:Int),((0:Int),((0:Int),(0:Int))))).1).toNat) ((0:Int),((0:Int),((0:Int),(0:Int))))).1,((IntKind.i64.wrap (((p1.getD ((IntKind.i64.wrap (((l1.getD v4.toNat ((0:Int),((0:Int),((0:Int),(0:Int))))).2.1) - (1:Int))).toNat) ((0:Int),((0:Int),((0:Int),(0:Int))))).1)+((p1.getD ((IntKind.i64.wrap (((l1.getD v4.toNat ((0:Int),((0:Int),((0:Int),(0:Int))))).2.1) - (1:Int))).toNat) ((0:Int),((0:Int),((0:Int),(0:Int))))).2.1))),((l1.getD v4.toNat ((0:Int),((0:Int),((0:Int),(0:Int))))).2.2.1,(l1.getD v4.toNat ((0:Int),((0:Int),((0:Int),(0:Int))))).2.2.2)))]:List Z2).length≤9223372036854775807 then some (Sum.inl ((out5++([((p1.getD (((l1.getD v4.toNat ((0:Int),((0:Int),((0:Int),(0:Int))))).1).toNat) ((0:Int),((0:Int),((0:Int),(0:Int))))).1,((IntKind.i64.wrap (((p1.getD ((IntKind.i64.wrap (((l1.getD v4.toNat ((0:Int),((0:Int),((0:Int),(0:Int))))).2.1) - (1:Int))).toNat) ((0:Int),((0:Int),((0:Int),(0:Int))))).1)+((p1.getD ((IntKind.i64.wrap (((l1.getD v4.toNat ((0:Int),((0:Int),((0:Int),(0:Int))))).2.1) - (1:Int))).toNat) ((0:Int),((0:Int),((0:Int),(0:Int))))).2.1))),((l1.getD v4.toNat ((0:Int),((0:Int),((0:Int),(0:Int))))).2.2.1,(l1.getD v4.toNat ((0:Int),((0:Int),((0:Int),(0:Int))))).2.2.2)))]:List Z2)),(IntKind.i64.wrap (v4+(1:Int)))))else none)else none)else none)else none)
 else some (Sum.inr out5))
def xK(p1:List Z2)(p2:List Int)(l1:List Z2):Option (List Z2) :=
 (if((l1.length:Int) == (0:Int))=true then some ([((0:Int),((0:Int),((0:Int),(2:Int))))]:List Z2)
 else((iter (wF p1 l1) (([]:List Z2),(0:Int))).bind fun out6=>some out6))
theorem aAi(β0 β1 β2:Bool){p1:List Z2}{p2:List Int}{l1:List Z2}{res:List Z2}(h:xK p1 p2 l1=some res):
  Owns Tryz.prog 42 [.agg [.p β0 (.slice cZ) p1,.p β1 (.slice (.int .u8)) p2],.p β2 (.slice cZ) l1] [] (.sl 0) [(0,.arr 73 cZ res)]:=by
 refine Owns.of_body aZ Tryz.func42 (by kernel_rfl) rfl (nl rfl) (fun Bw w0=> ?_)
 unfold xK at h
 refine G (aC (G (aO h (fun hb5 h=> ?_) (fun hb5 h=> ?_))))
 ·refine G (aI (aE ?_))
  obtain rfl:=sI h
  exact aQ [none] [] [48] [(4,.sl 0)] [(0,.arr 73 cZ ([((0:Int),((0:Int),((0:Int),(2:Int))))]:List Z2))] 1 0 (by kernel_rfl) (by kernel_rfl) (by kernel_rfl)
 refine aB (aA (G (aC (G (aG (dJ h (fun(out5,v4)=>aM [(2,.adr 0 0 2 0),(5,.sl 1),(14,.p β2 (.slice cZ) l1),(15,.i64 (l1.length:Int)),(16,.i64 v4)] (aK9 β0 p1 β1 p2 out5) 2) 0 (fun out6=>aM [(5,.sl 0)] [(0,.arr 73 cZ out6)] 1) (gg [.nilS 5 72 73 cZ] [0,72]) (fun y o h=> ?_) (fun out6 h=> ?_)))))))
 ·obtain⟨out5,v4⟩:=y
  unfold wF at h
  refine G (aC (aO h (fun hb8 h=> ?_) (fun hb8 h=> ?_)))
  ·refine aB (aA (aC (aG (GC 0 h (fun h=>GC 5 h (fun h=> ?_))))))
   obtain⟨c47,c48,h⟩:=g2 h
   refine sA a0 [(5,5,oc c47),(19,19,oc c48)] (aK (aA (Ge ?_)))
   exact eB h (gg [] [0,266])
  refine aJ (bA ?_)
  exact eX h (gg [] [1])
 refine aL (aA (G (aI ?_)))
 obtain rfl:=sI h
 exact aQ [none] [] [0] [(4,.sl 0)] [(0,.arr 73 cZ out6)] 1 0 (by kernel_rfl) (by kernel_rfl) (by kernel_rfl)
def iC(f1:List Z2)(f2:Bool)(f3:Option Z1)(f4 f5 f6 f7 f8:Int)(f9:Option Nat)(f10:List Int)(f11:List Z2)(f12:List Int)(f13:Option Z6)(o1:List Z9):Option (List Z2) :=
 ((xK f11 f12 f1).bind fun r4 =>
 some r4)
theorem vR{f1:List Z2}{f2:Bool}{f3:Option Z1}{f4:Int}{f5:Int}{f6:Int}{f7:Int}{f8:Int}{f9:Option Nat}{f10:List Int}{f11:List Z2}{f12:List Int}{f13:Option Z6}{o1:List Z9}{res:List Z2}(h:iC f1 f2 f3 f4 f5 f6 f7 f8 f9 f10 f11 f12 f13 o1=some res):
  Owns Tryz.prog 17 [.adr 0 0 14 0] (oE f1 f2 f3 f4 f5 f6 f7 f8 f9 f10 f11 f12 f13 o1) (.agg [.sl 2,.bo f2]) (aLb f1 f2 f3 f4 f5 f6 f7 f8 f9 f10 f11 f12 f13 o1 res):=by
 refine Owns.of_body aZ Tryz.func17 (by kernel_rfl) rfl (nl rfl) (fun Bw w0=> ?_)
 unfold iC at h
 refine G (aC (GN a0 [(1,1,⟨∃e,Tryz.prog.underlying 49=some (.pointer e),⟨_,rfl⟩⟩)] (V6 rfl (aB (aA ?_)))))
 obtain⟨r4,q4,h⟩:=aF h
 have u_1:=(aAi false false false q4)
 refine GD ⟨[],[(9,(oO u_1 []))]⟩ [(9,9,oc u_1)] (aI ?_)
 obtain rfl:=sI h
 exact aQ [none] [] [0,1,98,2] [(2,.adr 3 0 2 0)] (aKH f1 f2 f3 f4 f5 f6 f7 f8 f9 f10 f11 f12 f13 o1 r4 f2) 4 2 (by kernel_rfl) (by kernel_rfl) (by kernel_rfl)
def jP(f1:List Z2)(f2:Bool)(f3:Option Z1)(f4 f5 f6 f7 f8:Int)(f9:Option Nat)(f10:List Int)(f11:List Z2)(f12:List Int)(f13:Option Z6)(o1:List Z9):Option (List Int) :=
 ((cM f10).bind fun r4 =>
 some r4)
theorem yT{f1:List Z2}{f2:Bool}{f3:Option Z1}{f4:Int}{f5:Int}{f6:Int}{f7:Int}{f8:Int}{f9:Option Nat}{f10:List Int}{f11:List Z2}{f12:List Int}{f13:Option Z6}{o1:List Z9}{res:List Int}(h:jP f1 f2 f3 f4 f5 f6 f7 f8 f9 f10 f11 f12 f13 o1=some res):
  Owns Tryz.prog 15 [.adr 0 0 14 0] (oE f1 f2 f3 f4 f5 f6 f7 f8 f9 f10 f11 f12 f13 o1) (.sl 2) (aIT f1 f2 f3 f4 f5 f6 f7 f8 f9 f10 f11 f12 f13 o1 res):=by
 refine Owns.of_body aZ Tryz.func15 (by kernel_rfl) rfl (nl rfl) (fun Bw w0=> ?_)
 unfold jP at h
 refine G (aC (GN a0 [(1,1,⟨∃e,Tryz.prog.underlying 49=some (.pointer e),⟨_,rfl⟩⟩)] (V6 rfl (aB (aA ?_)))))
 obtain⟨r4,q4,h⟩:=aF h
 refine GO 4 [] (iO false q4) (aI ?_)
 obtain rfl:=sI h
 exact aQ [none] [] [0,1,58] [(2,.sl 2)] (aIT f1 f2 f3 f4 f5 f6 f7 f8 f9 f10 f11 f12 f13 o1 r4) 3 2 (by kernel_rfl) (by kernel_rfl) (by kernel_rfl)
def eW  : Option (Bool) :=
 ((fR).bind fun r4 =>
 ((nM r4.1 r4.2.1 r4.2.2.1 r4.2.2.2.1 r4.2.2.2.2.1 r4.2.2.2.2.2.1 r4.2.2.2.2.2.2.1 r4.2.2.2.2.2.2.2.1 r4.2.2.2.2.2.2.2.2).bind fun(r5,r6) =>
 (if(r6.1 != (0:Int))=true then some false
 else(if 0<([(97:Int),(98:Int),(32:Int),(99:Int),(100:Int),(10:Int),(101:Int)]:List Int).length then((eO r5 (3:Int) (8:Int) (0:Int) (0:Int) (0:Int) (dO 0) ([(97:Int),(98:Int),(32:Int),(99:Int),(100:Int),(10:Int),(101:Int)]:List Int)).bind fun(z2:((Int)⊕Z13))=>match z2 with
 | .inl r16=>(if(r16 != (0:Int))=true then some false
 else none)
 | .inr (r17,r18,r19,r20,r21,r22,r23,r24)=>(((if(r17 != (0:Int))=true then some ((r18,r19,r20,r21,r22,r23,r24,true))
 else((fN (2:Int) (1:Int) ([]:List Int) r18 r19 r5 (3:Int) (8:Int) (0:Int) (0:Int) (0:Int) (dO 0) r20 r21 r22 r23 r24).bind fun(r41,r42,r43,r44,r45,r46,r47,r48) =>
 some ((r42,r43,r44,r45,r46,r47,r48,(r41 != (0:Int))))))).bind fun(x1,x2,x3,x4,x5,x6,x7,v1)=>(if v1=true then some false
 else((iC x1 x2 r5 (3:Int) (8:Int) (0:Int) (0:Int) (0:Int) (dO 0) x3 x4 x5 x6 x7).bind fun r51 =>
 (((if((r51.length:Int) == (3:Int))=true then(if 0≤(0:Int)∧(0:Int)<(r51.length:Int)then(if(0:Int).toNat<r51.length then(if((((r51.getD ((0:Int).toNat) ((0:Int),((0:Int),((0:Int),(0:Int))))).1) == (0:Int)) && ((((r51.getD ((0:Int).toNat) ((0:Int),((0:Int),((0:Int),(0:Int))))).2.1) == (3:Int)) && ((((r51.getD ((0:Int).toNat) ((0:Int),((0:Int),((0:Int),(0:Int))))).2.2.1) == (3:Int)) && (((r51.getD ((0:Int).toNat) ((0:Int),((0:Int),((0:Int),(0:Int))))).2.2.2) == (4:Int)))))=true then((jP x1 x2 r5 (3:Int) (8:Int) (0:Int) (0:Int) (0:Int) (dO 0) x3 x4 x5 x6 x7).bind fun r54 =>
 some (((dK r54) == ([97,98,99,100,10,101]:List UInt8))))
 else some (false))else none)else none)
 else some (false))).bind fun v2=>some v2)))))else none))))
theorem sN{res:Bool}(h:eW=some res):
  Pure Tryz.prog 8 [] (aW (bK false [⟨.bool,res⟩])):=by
 refine Pure.of_body aZ Tryz.func8 (by kernel_rfl) rfl (nl rfl) (fun Bw w0=> ?_) rfl
 unfold eW at h
 refine G ?_
 obtain⟨r4,q3,h⟩:=aF h
 obtain⟨⟨r5,r6⟩,q4,h⟩:=aF h
 have u_1:=(lV q3)
 have u_2:=(H1 false false false false q4)
 refine GN ⟨[],[(0,(oP u_1)),(1,(oP u_2))]⟩ [(0,0,oc u_1),(1,1,oc u_2)] (aC (G (aO h (fun hb1 h=> ?_) (fun hb1 h=> ?_))))
 ·refine G (aI (aE ?_))
  obtain rfl:=sI h
  exact aD [.bool] (by kernel_rfl)
 refine aB (aA (aC ?_))
 obtain⟨c2,h⟩:=aT h
 obtain⟨z2,q6,h⟩:=aF h
 rcases z2 with r16 | ⟨r17,r18,r19,r20,r21,r22,r23,r24⟩
 ·have u_1:=(fW false q6)
  refine bH ⟨[],[(4,(oO u_1 [] [false,false,true]))]⟩ [(3,3,oc c2),(4,4,oc u_1)] (aA (aC (aC ?_)))
  rcases aS h with⟨hb3,h⟩ | ⟨hb3,h⟩
  ·refine bH ⟨[(2,true),(7,true)],[]⟩ [(3,7,oc hb3)] (aA (kW rfl (G (aI (aE ?_)))))
   obtain rfl:=sI h
   exact aD [.bool] (by kernel_rfl)
  cases h
 have u_1:=(fW false q6)
 refine bH ⟨[],[(4,(oO u_1 [] [false,false,true]))]⟩ [(3,3,oc c2),(4,4,oc u_1)] (aA (aC (aC (bO h (fun(x1,x2,x3,x4,x5,x6,x7,v1)=>aM [(3,.adr 0 0 14 0),(29,.bo v1)] (oE x1 x2 r5 (3:Int) (8:Int) (0:Int) (0:Int) (0:Int) (dO 0) x3 x4 x5 x6 x7) 2) (fun r49 h=> ?_) (fun r49 h=> ?_)))))
 ·rcases aS h with⟨hb7,h⟩ | ⟨hb7,h⟩
  ·refine bH ⟨[(2,true),(7,true)],[]⟩ [(3,7,oc hb7)] ?_
   exact eN h (gg [] [128,129])
  obtain⟨⟨r41,r42,r43,r44,r45,r46,r47,r48⟩,q9,h⟩:=aF h
  have u_1:=(z5 false q9)
  refine bH ⟨[(2,false),(7,false)],[(5,(oO u_1 [128,129]))]⟩ [(3,4,an hb7),(5,5,oc (And.intro hb7 u_1)),(6,6,an hb7),(7,7,oc hb7)] ?_
  exact eN h (gg [] [128,129])
 obtain⟨x1,x2,x3,x4,x5,x6,x7,v1⟩:=r49
 refine aA (aO h (fun hb8 h=> ?_) (fun hb8 h=> ?_))
 ·refine G (aI (aE ?_))
  obtain rfl:=sI h
  exact aD [.bool] (by kernel_rfl)
 refine aB (aA ?_)
 obtain⟨r51,q11,h⟩:=aF h
 refine GO 1 [0,1] (vR q11) (aC (bO h (fun v2=>aM [(0,.bo v2)] [] 0) (fun v2 h=> ?_) (fun v2 h=> ?_)))
 ·rcases aS h with⟨hb13,h⟩ | ⟨hb13,h⟩
  ·obtain⟨c7,c8,h⟩:=g2 h
   rcases aS h with⟨hb14,h⟩ | ⟨hb14,h⟩
   ·obtain⟨r54,q14,h⟩:=aF h
    have u_1:=(yT q14)
    refine bH ⟨[(4,true),(11,true),(12,true),(17,true)],[(14,(oO u_1 [0,1]))]⟩ [(5,6,an hb13),(7,7,oc (And.intro hb13 c7)),(8,8,oc (And.intro hb13 c8)),(9,9,an hb13),(10,10,oc (And.intro hb13 aLw)),(11,11,oc hb13),(13,13,an hb14),(14,14,oc (And.intro hb14 u_1)),(15,16,an hb14),(17,17,oc hb14)] ?_
    exact eN h (gg [] [])
   refine bH ⟨[(4,true),(11,true),(12,false),(17,false)],[]⟩ [(5,6,an hb13),(7,7,oc (And.intro hb13 c7)),(8,8,oc (And.intro hb13 c8)),(9,9,an hb13),(10,10,oc (And.intro hb13 aLw)),(11,11,oc hb13),(13,17,oc hb14)] ?_
   exact eN h (gg [] [])
  refine bH ⟨[(4,false),(11,false)],[]⟩ [(5,11,oc hb13)] ?_
  exact eN h (gg [] [])
 refine aA (aI ?_)
 obtain rfl:=sI h
 exact aD [.bool] (by kernel_rfl)
def zE  : Option (List (List UInt8)) :=
 some ([([9]:List UInt8),([10]:List UInt8),([32]:List UInt8),([45]:List UInt8),([97]:List UInt8),([98]:List UInt8),([99]:List UInt8),([195,169]:List UInt8),([204,129]:List UInt8),([226,128,141]:List UInt8),([228,184,173]:List UInt8),([240,159,152,128]:List UInt8),([255]:List UInt8),([240,159]:List UInt8)]:List (List UInt8))
theorem aCS{res:List (List UInt8)}(h:zE=some res):
  Pure Tryz.prog 37 [] (aW (bK false [⟨(.slice .str),res⟩])):=by
 refine Pure.of_body aZ Tryz.func37 (by kernel_rfl) rfl (nl rfl) (fun Bw w0=> ?_) rfl
 unfold zE at h
 refine G (G (aI ?_))
 obtain rfl:=sI h
 exact aD [(.slice .str)] (by kernel_rfl)
def kZ(l1:List Int):C0→Option (C0⊕(List Int)):=fun(out5,i4) =>
 (if(decide (i4<(l1.length:Int)))=true then((zE).bind fun r12 =>
 (if 0≤i4∧i4<(l1.length:Int)then(if ¬(14:Int)=0 then(if 0≤(Int.tmod (IntKind.i64.wrap (l1.getD i4.toNat (0:Int))) (14:Int))∧(Int.tmod (IntKind.i64.wrap (l1.getD i4.toNat (0:Int))) (14:Int))<(r12.length:Int)then(if out5.length+(r12.getD ((Int.tmod (IntKind.i64.wrap (l1.getD i4.toNat (0:Int))) (14:Int)).toNat) ([]:List UInt8)).length≤140737488355328 then some (Sum.inl ((out5++(cV (r12.getD ((Int.tmod (IntKind.i64.wrap (l1.getD i4.toNat (0:Int))) (14:Int)).toNat) ([]:List UInt8)))),(IntKind.i64.wrap (i4+(1:Int)))))else none)else none)else none)else none))
 else some (Sum.inr out5))
def uP(l1:List Int):Option (List Int) :=
 ((iter (kZ l1) (([]:List Int),(0:Int))).bind fun out6=>some out6)
theorem aCC(β0:Bool){l1:List Int}{res:List Int}(h:uP l1=some res):
  Owns Tryz.prog 11 [.p β0 (.slice (.int .u8)) l1] [] (.sl 0) [(0,.arr 5 (.int .u8) res)]:=by
 refine Owns.of_body aZ Tryz.func11 (by kernel_rfl) rfl (nl rfl) (fun Bw w0=> ?_)
 unfold uP at h
 refine G (G (aC (G (aG (dJ h (fun(out5,i4)=>aM [(0,.p β0 (.slice (.int .u8)) l1),(3,.sl 0),(4,.i64 i4)] [(0,.arr 5 (.int .u8) out5)] 1) 0 (fun out6=>aM [(3,.sl 0)] [(0,.arr 5 (.int .u8) out6)] 1) (gg [.nilS 3 24 5 (.int .u8)] [24]) (fun y o h=> ?_) (fun out6 h=> ?_))))))
 ·obtain⟨out5,i4⟩:=y
  unfold kZ at h
  refine aC (G (aO h (fun hb6 h=> ?_) (fun hb6 h=> ?_)))
  ·refine aB (aA (aC (aG ?_)))
   obtain⟨r12,q12,h⟩:=aF h
   obtain⟨c45,c46,c47,c48,h⟩:=g4 h
   have u_1:=(aCS q12)
   refine sA ⟨[],[(1,(oP u_1))]⟩ [(1,1,oc u_1),(4,4,oc c45),(7,7,oc c46),(8,8,oc c47),(10,10,oc c48)] (aK (aA (Ge ?_)))
   exact eB h (gg [] [113])
  refine aJ (bA ?_)
  exact eX h (gg [] [0])
 refine aL (aA (G (aI ?_)))
 obtain rfl:=sI h
 exact aQ [none] [] [0] [(2,.sl 0)] [(0,.arr 5 (.int .u8) out6)] 1 0 (by kernel_rfl) (by kernel_rfl) (by kernel_rfl)
end
end Go.Proofs.YtbedjpdfkmfplaaGreatDoor.T
