/- Functions of the program as functions on data, and that the program's own come to them. -/
import Derived.Test.YtflahpmlcfhpcaaGreatDoorTvT20b0
import Derived.Test.YtflahpmlcfhpcaaGreatDoorTvT20bBookLong2
namespace Go.Proofs.YtflahpmlcfhpcaaGreatDoor.T
open Go Go.Tv Go.Proofs
noncomputable section
set_option maxRecDepth 100000
set_option maxHeartbeats 4000000
def rS(r2:List Z7):(Int)→Option ((Int)⊕(Int)):=fun v28 =>
 (((if(decide (v28<(r2.length:Int)))=true then(if 0≤v28∧v28<(r2.length:Int)then((nH ((r2.getD v28.toNat ((0:Int),((0:Int),(0:Int)))).1)).bind fun r63 =>
 some ((!r63)))else none)
 else some (false))).bind fun v30=>(if v30=true then some (Sum.inl (IntKind.i64.wrap (v28+(1:Int))))
 else some (Sum.inr v28)))
def rN(r2:List Z7):((List Z8)×(List Z8)×Int)→Option (((List Z8)×(List Z8)×Int)⊕(((List Z8)×List Z8)⊕(((List Z8)×List Z8)×Int×Int))):=fun(v20,v21,v22) =>
 (if(decide (v22<(r2.length:Int)))=true then(if 0≤v22∧v22<(r2.length:Int)then((nH ((r2.getD v22.toNat ((0:Int),((0:Int),(0:Int)))).1)).bind fun r54 =>
 (if r54=true then some (Sum.inl (v20,v21,(IntKind.i64.wrap (v22+(1:Int)))))
 else((iter (rS r2) v22).bind fun v29=>(if 0≤v22∧v22<(r2.length:Int)then(if(decide ((IntKind.i64.wrap ((v20.length:Int)+(v21.length:Int)))≥(256:Int)))=true then some (Sum.inr (Sum.inr ((([]:List Z8),([]:List Z8)),((24:Int),(r2.getD v22.toNat ((0:Int),((0:Int),(0:Int)))).2.1))))
 else(if 0≤v22∧v22≤v29∧v29≤v29∧v29≤(r2.length:Int)then((xS ((r2.take v29.toNat).drop v22.toNat)).bind fun(r66,r67) =>
 (if(!r67)=true then some (Sum.inr (Sum.inr ((([]:List Z8),([]:List Z8)),((30:Int),(r2.getD v22.toNat ((0:Int),((0:Int),(0:Int)))).2.1))))
 else((iR ((r2.take v29.toNat).drop v22.toNat)).bind fun r69 =>
 (((if(!r69)=true then(if(v20.length+([(r66.1,r66.2)]:List Z8).length)*48≤140737488355328∧v20.length+([(r66.1,r66.2)]:List Z8).length≤9223372036854775807 then some ((Sum.inl ((v20++([(r66.1,r66.2)]:List Z8)),v21)))else none)
 else((pT v21 r66.1 r66.2).bind fun r75 =>
 (if r75=true then some ((Sum.inr ((([]:List Z8),([]:List Z8)),((23:Int),(r2.getD v22.toNat ((0:Int),((0:Int),(0:Int)))).2.1))))
 else(if(v21.length+([(r66.1,r66.2)]:List Z8).length)*48≤140737488355328∧v21.length+([(r66.1,r66.2)]:List Z8).length≤9223372036854775807 then some ((Sum.inl (v20,(v21++([(r66.1,r66.2)]:List Z8)))))else none))))).bind fun(r76:(((List Z8)×List Z8)⊕(((List Z8)×List Z8)×Int×Int)))=>match r76 with
 | .inl (v31,v32)=>some (Sum.inl (v31,v32,v29))
 | .inr ((r72,r73))=>some (Sum.inr (Sum.inr (r72,r73)))))))else none))else none))))else none)
 else some (Sum.inr (Sum.inl (v20,v21))))
def sG(d1:List UInt8):Option (((List Z8)×List Z8)×Int×Int) :=
 (if(decide ((d1.length:Int) > (4096:Int)))=true then some ((([]:List Z8),([]:List Z8)),((24:Int),(4096:Int)))
 else((l9 (iE d1)).bind fun r2 =>
 ((iter (rN r2) (([]:List Z8),([]:List Z8),(0:Int))).bind fun(r77:(((List Z8)×List Z8)⊕(((List Z8)×List Z8)×Int×Int)))=>match r77 with
 | .inl (v23,v24)=>some ((v23,v24),((0:Int),(0:Int)))
 | .inr ((r51,r52))=>some (r51,r52))))
theorem A5{d1:List UInt8}{res:((List Z8)×List Z8)×Int×Int}(h:sG d1=some res):
  Pure Tryz.prog 55 [.st d1] (aU (bN false [⟨Y26,res.1⟩,⟨Y2,res.2⟩])):=by
 refine Pure.of_body bA Tryz.func55 (by kernel_rfl) rfl (nl rfl) (fun Bw w0=> ?_) rfl
 unfold sG at h
 refine G (G (aC (G (aO h (fun hb1 h=> ?_) (fun hb1 h=> ?_)))))
 ·refine G (aL (aE ?_))
  obtain rfl:=sI h
  exact aD [Y26,Y2] (by kernel_rfl)
 refine aB (aA ?_)
 obtain⟨r2,q2,h⟩:=aG h
 refine GP 2 (vQ false q2) (aC (G (aF (kT h (fun(v20,v21,v22)=>aM [(2,.adr 0 0 2 0),(3,.adr 1 0 2 0),(4,.adr 2 0 2 0),(5,.p false (.slice (.prod (.int .i32) Y2)) r2),(6,.i64 v22)] (aAO (0:Int) (0:Int) v20 v21) 5) (dH (eJ Tryz.f55.ntmps 0 (fun(v23,v24)=>aM [(2,.adr 0 0 2 0),(3,.adr 1 0 2 0),(4,.adr 2 0 2 0)] (aAO (0:Int) (0:Int) v23 v24) 5)) (gM tb Tryz.f55.results.toList (fun(r51,r52)=>[⟨Y26,r51⟩,⟨Y2,r52⟩]))) (gg [.nilC 16 0 88 210 wT,.nilC 16 1 89 210 wT] [0,8,16,88,89]) (fun y o h=> ?_) (fun r77 h e σ' hq=> ?_)))))
 ·obtain⟨v20,v21,v22⟩:=y
  unfold rN at h
  refine aC (G (aO h (fun hb42 h=> ?_) (fun hb42 h=> ?_)))
  ·refine aB (aA (aF (aC ?_)))
   obtain⟨c48,h⟩:=aQ h
   obtain⟨r54,q42,h⟩:=aG h
   have u_1:=(rA q42)
   refine GN ⟨[],[(5,(oP u_1))]⟩ [(2,2,oc c48),(5,5,oc u_1)] (aO h (fun hb43 h=> ?_) (fun hb43 h=> ?_))
   ·refine G (aH (aX (aI ?_)))
    exact eB h (gg [] [0,1,2,3,4])
   refine aB (aA (G (aC (aF (dC h (fun v28=>aM [(2,.adr 0 0 2 0),(3,.adr 1 0 2 0),(4,.adr 2 0 2 0),(5,.p false (.slice (.prod (.int .i32) Y2)) r2),(6,.i64 v22),(7,.i64 v28)] (aAO (0:Int) (0:Int) v20 v21) 5) 2 (fun v29=>aM [(2,.adr 0 0 2 0),(3,.adr 1 0 2 0),(4,.adr 2 0 2 0),(5,.p false (.slice (.prod (.int .i32) Y2)) r2),(6,.i64 v22),(7,.i64 v29)] (aAO (0:Int) (0:Int) v20 v21) 5) (gg [] [0,1,2,3,4]) (fun v28 o h=> ?_) (fun v29 h=> ?_))))))
   ·unfold rS at h
    refine aC (aC (bT h (fun v30=>aM [(2,.adr 0 0 2 0),(3,.adr 1 0 2 0),(4,.adr 2 0 2 0),(5,.p false (.slice (.prod (.int .i32) Y2)) r2),(6,.i64 v22),(7,.i64 v28),(45,.bo v30)] (aAO (0:Int) (0:Int) v20 v21) 5) (fun v30 h=> ?_) (fun v30 h=> ?_)))
    ·rcases aR h with⟨hb54,h⟩ | ⟨hb54,h⟩
     ·obtain⟨c57,h⟩:=aQ h
      obtain⟨r63,q51,h⟩:=aG h
      have u_1:=(rA q51)
      refine bO ⟨[(4,true),(12,true)],[(10,(oP u_1))]⟩ [(5,6,an hb54),(7,7,oc (And.intro hb54 c57)),(8,9,an hb54),(10,10,oc (And.intro hb54 u_1)),(11,11,an hb54),(12,12,oc hb54)] ?_
      exact eN h (gg [] [0,1,2,3,4])
     refine bO ⟨[(4,false),(12,false)],[]⟩ [(5,12,oc hb54)] ?_
     exact eN h (gg [] [0,1,2,3,4])
    refine aA (aO h (fun hb55 h=> ?_) (fun hb55 h=> ?_))
    ·refine aB (aA (aF (Ge (aJ ?_))))
     exact eB h (gg [] [0,1,2,3,4])
    refine aH (aX ?_)
    exact eX h (gg [] [0,1,2,3,4])
   refine aI (aA (GC 2 h (fun h=>aC (G (aO h (fun hb56 h=> ?_) (fun hb56 h=> ?_))))))
   ·refine G (aL ?_)
    obtain rfl:=sI h
    refine aE (aK (bW (aS ?_)))
    exact b0 (aD [Y26,Y2] (by kernel_rfl))
   refine aB (aA (GC 4 h (fun h=> ?_)))
   obtain⟨⟨r66,r67⟩,q53,h⟩:=aG h
   refine GP 1 (S9 false q53) (aC (aF (G (aO h (fun hb57 h=> ?_) (fun hb57 h=> ?_)))))
   ·refine G (aL ?_)
    obtain rfl:=sI h
    refine aK (aE (aK (bW (aS ?_))))
    exact b0 (aD [Y26,Y2] (by kernel_rfl))
   obtain⟨r69,q55,h⟩:=aG h
   refine GP 1 (l7 false q55) (aCb h (dH (rF Tryz.f55.ntmps (fun(v31,v32)=>aM [(2,.adr 0 0 2 0),(3,.adr 1 0 2 0),(4,.adr 2 0 2 0),(5,.p false (.slice (.prod (.int .i32) Y2)) r2),(7,.i64 v29)] (aAO (0:Int) (0:Int) v31 v32) 5)) (gM tb Tryz.f55.results.toList (fun(r72,r73)=>[⟨Y26,r72⟩,⟨Y2,r73⟩]))) (fun r76 h=> ?_) (fun r76 h e σ' hq=> ?_))
   ·refine aO h (fun hb60 h=> ?_) (fun hb60 h=> ?_)
    ·refine K5 4 h (fun h=> ?_)
     obtain rfl:=sI h
     refine bL ?_
     exact dI (gg [] [0,1,2,317,4])
    obtain⟨r75,q59,h⟩:=aG h
    refine GP 3 (yI true false false q59) (aO h (fun hb61 h=> ?_) (fun hb61 h=> ?_))
    ·refine G (aL ?_)
     obtain rfl:=sI h
     refine aS ?_
     exact b0 (aD [Y26,Y2] (by kernel_rfl))
    refine K5 4 h (fun h=> ?_)
    obtain rfl:=sI h
    refine bL ?_
    exact dI (gg [] [0,1,2,3,357])
   rcases r76 with⟨v31,v32⟩ | ⟨r72,r73⟩
   ·obtain⟨rfl,hle⟩:=hq
    refine cR ?_ hle
    refine aJ (aA (Ge (aJ ?_)))
    exact eB h (gg [] [0,1,2,3,4])
   obtain⟨rfl,hr⟩:=hq
   obtain rfl:=sI h
   refine aK (aE (aK (bW (aS ?_))))
   exact b0 hr
  refine aH (aX ?_)
  obtain rfl:=sI h
  refine dL (bL ?_)
  exact bZ (gg [] [0,1,2,3,4])
 rcases r77 with⟨v23,v24⟩ | ⟨r51,r52⟩
 ·obtain⟨rfl,hle⟩:=hq
  refine cR ?_ hle
  refine aI (aA (G (qQ [.frzC 0 0,.frzC 0 1] (by kernel_rfl) (aL ?_))))
  obtain rfl:=sI h
  exact aD [Y26,Y2] (by kernel_rfl)
 obtain⟨rfl,hr⟩:=hq
 refine aK (aE ?_)
 obtain rfl:=sI h
 exact hr
def uO(s1:List Z7):Option (List Z7):=(if s1.isEmpty=true then some []else(if(([]:List Z7).length+s1.length)*16≤140737488355328∧([]:List Z7).length+s1.length≤9223372036854775807 then some (([]:List Z7)++s1)else none))
theorem I7(β0:Bool){s1:List Z7}{res:List Z7}(h:uO s1=some res):
  Pure Tryz.prog 56 [.p β0 (.slice (.prod (.int .i32) Y1)) s1] (aU (bN false [⟨(.slice (.prod (.int .i32) Y1)),res⟩])):=by
 refine Pure.of_body bA Tryz.func56 (by kernel_rfl) rfl (nl rfl) (fun Bw w0=> ?_) rfl
 unfold uO at h
 refine G (aC (aDV bA (d:=3) (e:=4) (A:=(.prod (.int .i32) Y1)) (xs:=s1) (el:=115) (β:=β0) rfl rfl rfl rfl rfl (by kernel_rfl) (by kernel_rfl) (by kernel_rfl) (fun b hb=> ?_)))
 cases b with
 | true =>
  obtain rfl:=hb rfl
  obtain rfl:=sI h
  exact F6 rfl (G (aL (aE (aD [(.slice (.prod (.int .i32) Y1))] (by kernel_rfl)))))
 | false =>
  replace h:(if(([]:List Z7).length+s1.length)*16≤140737488355328∧([]:List Z7).length+s1.length≤9223372036854775807 then some (([]:List Z7)++s1)else none)=some res:=by cases s1 <;> simpa using h
  refine aCw rfl (aB (aA (GC 2 h (fun h=>aL ?_))))
  obtain rfl:=sI h
  exact aD [(.slice (.prod (.int .i32) Y1))] (by kernel_rfl)
def tK(d1:List Z8):(Unit)→Option ((Unit)⊕(Unit)):=fun _ =>
 (if(decide ((0:Int)<(d1.length:Int)))=true then none
 else some (Sum.inr ()))
def u4(d1:List Z8):Option (Option Z16) :=
 (if 0≤(1:Int)∧(1:Int)≤(1:Int)∧(32:Int)*(1:Int)≤281474976710656∧(1:Int)≤9223372036854775807 then((iter (tK d1) ()).bind fun _=>some (some ((List.replicate (1:Int).toNat (([]:List (Int×Int)),([]:List Int))),()):Option Z16))else none)
theorem F3(β0:Bool){d1:List Z8}{res:Option Z16}(h:u4 d1=some res):
  Pure Tryz.prog 57 [.p β0 (.slice wT) d1] (aU (bN false [⟨(.ptr uH),res⟩])):=by
 refine Pure.of_body bA Tryz.func57 (by kernel_rfl) rfl (nl rfl) (fun Bw w0=> ?_) rfl
 unfold u4 at h
 refine G (GC 0 h (fun h=>aC (G (aF (dC h (fun _=>aM [(3,.adr 0 0 1 0),(17,.p β0 (.slice wT) d1),(18,.i64 (d1.length:Int)),(19,.i64 (0:Int))] [(0,.box [.sl 1]),(1,.arr 222 Y18 (List.replicate (1:Int).toNat (([]:List (Int×Int)),([]:List Int))))] 2) 0 (fun _=>aM [(3,.adr 0 0 1 0)] [(0,.box [.sl 1]),(1,.arr 222 Y18 (List.replicate (1:Int).toNat (([]:List (Int×Int)),([]:List Int))))] 2) (gg [] [24,8]) (fun y o h=> ?_) (fun r1 h=> ?_))))))
 ·unfold tK at h
  refine G (aC (aO h (fun hb2 h=> ?_) (fun hb2 h=> ?_)))
  ·refine aB (aA (aC (aF (aC ?_))))
   cases h
  refine aH (aX ?_)
  exact eX h (gg [] [0,1])
 refine aI (aA (G (qQ [.frzC 0 0] (by kernel_rfl) (aL ?_))))
 obtain rfl:=sI h
 exact aD [(.ptr uH)] (by kernel_rfl)
def oZ(text1:List UInt8)(letters1:List Z7)(left1 right1:Int):Option ((Option Z3)×Int×Int) :=
 ((rX letters1).bind fun r2 =>
 (if(!r2)=true then some ((none:Option Z3),((10:Int),(0:Int)))
 else(((if(decide (left1<(1:Int)))=true then some (true)
 else(if(decide (right1<(1:Int)))=true then some (true)
 else(if(decide (left1 > (24:Int)))=true then some (true)
 else some ((decide (right1 > (24:Int)))))))).bind fun v1=>(if v1=true then some ((none:Option Z3),((40:Int),(0:Int)))
 else((sG text1).bind fun(r5,r6) =>
 (if(r6.1 != (0:Int))=true then some ((none:Option Z3),(r6.1,r6.2))
 else((uO letters1).bind fun r9 =>
 ((u4 r5.1).bind fun r10 =>
 some ((some (r9,(r10,(r5.2,(left1,right1)))):Option Z3),((0:Int),(0:Int)))))))))))
theorem S4(β1:Bool){text1:List UInt8}{letters1:List Z7}{left1:Int}{right1:Int}{res:(Option Z3)×Int×Int}(h:oZ text1 letters1 left1 right1=some res):
  Pure Tryz.prog 27 [.st text1,.p β1 (.slice (.prod (.int .i32) Y1)) letters1,.i64 left1,.i64 right1] (aU (bN false [⟨(.ptr mC),res.1⟩,⟨Y2,res.2⟩])):=by
 refine Pure.of_body bA Tryz.func27 (by kernel_rfl) rfl (nl rfl) (fun Bw w0=> ?_) rfl
 unfold oZ at h
 refine G (aC ?_)
 obtain⟨r2,q2,h⟩:=aG h
 refine GP 1 (A4 β1 q2) (aO h (fun hb1 h=> ?_) (fun hb1 h=> ?_))
 ·refine G (aL (aE ?_))
  obtain rfl:=sI h
  exact aD [(.ptr mC),Y2] (by kernel_rfl)
 refine aB (aA (aC (aC (bT h (fun v1=>aM [(0,.st text1),(1,.p β1 (.slice (.prod (.int .i32) Y1)) letters1),(2,.i64 left1),(3,.i64 right1),(9,.adr 0 0 2 0),(29,.bo v1)] [(0,.box [.i64 (0:Int),.i64 (0:Int)])] 1) (fun v1 h=> ?_) (fun v1 h=> ?_)))))
 ·rcases aR h with⟨hb8,h⟩ | ⟨hb8,h⟩
  ·refine bO ⟨[(2,true),(5,true)],[]⟩ [(3,5,oc hb8)] ?_
   exact eN h (gg [] [8])
  rcases aR h with⟨hb9,h⟩ | ⟨hb9,h⟩
  ·refine bO ⟨[(2,false),(5,false),(6,true),(9,true)],[]⟩ [(3,4,an hb8),(5,5,oc hb8),(7,9,oc hb9)] ?_
   exact eN h (gg [] [8])
  rcases aR h with⟨hb10,h⟩ | ⟨hb10,h⟩
  ·refine bO ⟨[(2,false),(5,false),(6,false),(9,false),(10,true),(13,true)],[]⟩ [(3,4,an hb8),(5,5,oc hb8),(7,8,an hb9),(9,9,oc hb9),(11,13,oc hb10)] ?_
   exact eN h (gg [] [8])
  refine bO ⟨[(2,false),(5,false),(6,false),(9,false),(10,false),(13,false)],[]⟩ [(3,4,an hb8),(5,5,oc hb8),(7,8,an hb9),(9,9,oc hb9),(11,12,an hb10),(13,13,oc hb10)] ?_
  exact eN h (gg [] [8])
 refine aA (aO h (fun hb11 h=> ?_) (fun hb11 h=> ?_))
 ·refine G (aL (aE ?_))
  obtain rfl:=sI h
  exact aD [(.ptr mC),Y2] (by kernel_rfl)
 refine aB (aA ?_)
 obtain⟨⟨r5,r6⟩,q4,h⟩:=aG h
 refine GP 1 (A5 q4) (aC (G (aO h (fun hb12 h=> ?_) (fun hb12 h=> ?_))))
 ·refine GD a0 [] (aL (aE ?_))
  obtain rfl:=sI h
  exact aD [(.ptr mC),Y2] (by kernel_rfl)
 refine aB (aA ?_)
 obtain⟨r9,q7,h⟩:=aG h
 obtain⟨r10,q8,h⟩:=aG h
 have u_1:=(I7 β1 q7)
 have u_2:=(F3 false q8)
 refine GD ⟨[],[(1,(oP u_1)),(4,(oP u_2))]⟩ [(1,1,oc u_1),(4,4,oc u_2)] (aL ?_)
 obtain rfl:=sI h
 exact aD [(.ptr mC),Y2] (by kernel_rfl)
def mM(d1 d2 d3 d4:List Z7)(d5 d6 d7:List UInt8)(d8 d9:Int):Option ((Option Z1)×Int×Int) :=
 ((iT d5).bind fun(r3,r4) =>
 (if(r4.1 != (0:Int))=true then some ((none:Option Z1),(r4.1,r4.2))
 else((iT d6).bind fun(r7,r8) =>
 (if(r8.1 != (0:Int))=true then some ((none:Option Z1),(r8.1,r8.2))
 else((cN r3).bind fun r11 =>
 ((cN r7).bind fun r12 =>
 (if 0≤(0:Int)∧(0:Int)<((3:Nat):Int)then((fZ d1 r11).bind fun(r15,r16) =>
 (if(r16 != (0:Int))=true then some ((none:Option Z1),(r16,(0:Int)))
 else(if 0≤(1:Int)∧(1:Int)<((3:Nat):Int)then((fZ d2 r12).bind fun(r19,r20) =>
 (if(r20 != (0:Int))=true then some ((none:Option Z1),(r20,(0:Int)))
 else(if 0≤(2:Int)∧(2:Int)<((3:Nat):Int)then((fZ d3 (3:Int)).bind fun(r23,r24) =>
 (if(r24 != (0:Int))=true then some ((none:Option Z1),(r24,(0:Int)))
 else((oZ d7 d4 d8 d9).bind fun(r27,r28) =>
 (if(r28.1 != (0:Int))=true then some ((none:Option Z1),(r28.1,r28.2))
 else some ((some (r3,(r7,(r15,(r19,(r23,r27))))):Option Z1),((0:Int),(0:Int)))))))else none)))else none)))else none)))))))
theorem wJ(β0 β1 β2 β3:Bool){d1:List Z7}{d2:List Z7}{d3:List Z7}{d4:List Z7}{d5:List UInt8}{d6:List UInt8}{d7:List UInt8}{d8:Int}{d9:Int}{res:(Option Z1)×Int×Int}(h:mM d1 d2 d3 d4 d5 d6 d7 d8 d9=some res):
  Pure Tryz.prog 10 [.agg [.p β0 (.slice (.prod (.int .i32) Y1)) d1,.p β1 (.slice (.prod (.int .i32) Y1)) d2,.p β2 (.slice (.prod (.int .i32) Y1)) d3,.p β3 (.slice (.prod (.int .i32) Y1)) d4,.st d5,.st d6,.st d7,.i64 d8,.i64 d9]] (aU (bN false [⟨(.ptr D9),res.1⟩,⟨Y2,res.2⟩])):=by
 refine Pure.of_body bA Tryz.func10 (by kernel_rfl) rfl (nl rfl) (fun Bw w0=> ?_) rfl
 unfold mM at h
 refine G (G (G (aC ?_)))
 obtain⟨⟨r3,r4⟩,q2,h⟩:=aG h
 refine GP 3 (vH q2) (G (aO h (fun hb1 h=> ?_) (fun hb1 h=> ?_)))
 ·refine GD a0 [] (aL (aE ?_))
  obtain rfl:=sI h
  exact aD [(.ptr D9),Y2] (by kernel_rfl)
 refine aB (aA (aC ?_))
 obtain⟨⟨r7,r8⟩,q4,h⟩:=aG h
 refine GP 3 (vH q4) (G (aO h (fun hb2 h=> ?_) (fun hb2 h=> ?_)))
 ·refine GD a0 [] (aL (aE ?_))
  obtain rfl:=sI h
  exact aD [(.ptr D9),Y2] (by kernel_rfl)
 refine aB (aA (aC ?_))
 obtain⟨r11,q7,h⟩:=aG h
 obtain⟨r12,q8,h⟩:=aG h
 have u_1:=(gZ false q7)
 have u_2:=(gZ false q8)
 refine GD ⟨[],[(9,(oP u_1)),(20,(oP u_2))]⟩ [(9,9,oc u_1),(20,20,oc u_2)] (aF (aBr 9 (G (aC (F6 rfl (aB (aA (aC (aF (GC 0 h (fun h=> ?_)))))))))))
 obtain⟨⟨r15,r16⟩,q10,h⟩:=aG h
 refine GP 4 (nT β0 q10) (aC (G (aO h (fun hb3 h=> ?_) (fun hb3 h=> ?_))))
 ·refine G (aL (aE (aK (aE (X6 (aK (aE ?_)))))))
  obtain rfl:=sI h
  exact aD [(.ptr D9),Y2] (by kernel_rfl)
 refine aB (aA (Ge (aJ (aA (Ge (aB8 (G (aC (F6 rfl (aB (aA (aC (aF (GC 0 h (fun h=> ?_)))))))))))))))
 obtain⟨⟨r19,r20⟩,q12,h⟩:=aG h
 refine GP 4 (nT β1 q12) (aC (G (aO h (fun hb4 h=> ?_) (fun hb4 h=> ?_))))
 ·refine G (aL (aE (aK (aE (X6 (aK (aE ?_)))))))
  obtain rfl:=sI h
  exact aD [(.ptr D9),Y2] (by kernel_rfl)
 refine aB (aA (Ge (aJ (aA (Ge (aB8 (G (aC (F6 rfl (aB (aA (aC (aF (GC 0 h (fun h=> ?_)))))))))))))))
 obtain⟨⟨r23,r24⟩,q14,h⟩:=aG h
 refine GP 4 (nT β2 q14) (aC (G (aO h (fun hb5 h=> ?_) (fun hb5 h=> ?_))))
 ·refine G (aL (aE (aK (aE (X6 (aK (aE ?_)))))))
  obtain rfl:=sI h
  exact aD [(.ptr D9),Y2] (by kernel_rfl)
 refine aB (aA (Ge (aJ (aA (Ge (aB8 (G (aC (aCw rfl (aH (aX (rQE (aI (aA (aC ?_)))))))))))))))
 obtain⟨⟨r27,r28⟩,q16,h⟩:=aG h
 refine GP 9 (S4 β3 q16) (G (aO h (fun hb6 h=> ?_) (fun hb6 h=> ?_)))
 ·refine GD a0 [] (aL (aE ?_))
  obtain rfl:=sI h
  exact aD [(.ptr D9),Y2] (by kernel_rfl)
 refine aB (aA (G (aL ?_)))
 obtain rfl:=sI h
 exact aD [(.ptr D9),Y2] (by kernel_rfl)
def fO(c1 c2 c3 c4 c5:Int)(c6:Option Nat):Option (Bool) :=
 (((if(decide (c1≥(1:Int)))=true then(if(decide (c1≤(1048576:Int)))=true then(if(decide (c2≥(1:Int)))=true then(if(decide (c2≤(64:Int)))=true then(if(decide (c3≤(1:Int)))=true then(if(decide (c4≥(0:Int)))=true then(if(decide (c4≤(1048576:Int)))=true then(if(decide (c5≥(0:Int)))=true then some ((decide (c5≤(1048576:Int))))
 else some (false))
 else some (false))
 else some (false))
 else some (false))
 else some (false))
 else some (false))
 else some (false))
 else some (false))).bind fun v1=>some v1)
theorem C2{c1:Int}{c2:Int}{c3:Int}{c4:Int}{c5:Int}{c6:Option Nat}{res:Bool}(h:fO c1 c2 c3 c4 c5 c6=some res):
  Pure Tryz.prog 46 [.agg [.i64 c1,.i64 c2,.u8 c3,.i64 c4,.i64 c5,.p false .flt c6]] (aU (bN false [⟨.bool,res⟩])):=by
 refine Pure.of_body bA Tryz.func46 (by kernel_rfl) rfl (nl rfl) (fun Bw w0=> ?_) rfl
 unfold fO at h
 refine G (aC (bT h (fun v1=>aM [(2,.bo v1)] [] 0) (fun v1 h=> ?_) (fun v1 h=> ?_)))
 ·rcases aR h with⟨hb17,h⟩ | ⟨hb17,h⟩
  ·rcases aR h with⟨hb18,h⟩ | ⟨hb18,h⟩
   ·rcases aR h with⟨hb19,h⟩ | ⟨hb19,h⟩
    ·rcases aR h with⟨hb20,h⟩ | ⟨hb20,h⟩
     ·rcases aR h with⟨hb21,h⟩ | ⟨hb21,h⟩
      ·rcases aR h with⟨hb22,h⟩ | ⟨hb22,h⟩
       ·rcases aR h with⟨hb23,h⟩ | ⟨hb23,h⟩
        ·rcases aR h with⟨hb24,h⟩ | ⟨hb24,h⟩
         ·refine bO ⟨[(3,true),(7,true),(8,true),(12,true),(13,true),(17,true),(18,true),(22,true),(23,true),(27,true),(28,true),(32,true),(33,true),(37,true),(38,true),(42,true)],[]⟩ [(4,6,an hb17),(7,7,oc hb17),(9,11,an hb18),(12,12,oc hb18),(14,16,an hb19),(17,17,oc hb19),(19,21,an hb20),(22,22,oc hb20),(24,26,an hb21),(27,27,oc hb21),(29,31,an hb22),(32,32,oc hb22),(34,36,an hb23),(37,37,oc hb23),(39,41,an hb24),(42,42,oc hb24)] ?_
          exact eN h (gg [] [])
         refine bO ⟨[(3,true),(7,true),(8,true),(12,true),(13,true),(17,true),(18,true),(22,true),(23,true),(27,true),(28,true),(32,true),(33,true),(37,true),(38,false),(42,false)],[]⟩ [(4,6,an hb17),(7,7,oc hb17),(9,11,an hb18),(12,12,oc hb18),(14,16,an hb19),(17,17,oc hb19),(19,21,an hb20),(22,22,oc hb20),(24,26,an hb21),(27,27,oc hb21),(29,31,an hb22),(32,32,oc hb22),(34,36,an hb23),(37,37,oc hb23),(39,42,oc hb24)] ?_
         exact eN h (gg [] [])
        refine bO ⟨[(3,true),(7,true),(8,true),(12,true),(13,true),(17,true),(18,true),(22,true),(23,true),(27,true),(28,true),(32,true),(33,false),(37,false)],[]⟩ [(4,6,an hb17),(7,7,oc hb17),(9,11,an hb18),(12,12,oc hb18),(14,16,an hb19),(17,17,oc hb19),(19,21,an hb20),(22,22,oc hb20),(24,26,an hb21),(27,27,oc hb21),(29,31,an hb22),(32,32,oc hb22),(34,37,oc hb23)] ?_
        exact eN h (gg [] [])
       refine bO ⟨[(3,true),(7,true),(8,true),(12,true),(13,true),(17,true),(18,true),(22,true),(23,true),(27,true),(28,false),(32,false)],[]⟩ [(4,6,an hb17),(7,7,oc hb17),(9,11,an hb18),(12,12,oc hb18),(14,16,an hb19),(17,17,oc hb19),(19,21,an hb20),(22,22,oc hb20),(24,26,an hb21),(27,27,oc hb21),(29,32,oc hb22)] ?_
       exact eN h (gg [] [])
      refine bO ⟨[(3,true),(7,true),(8,true),(12,true),(13,true),(17,true),(18,true),(22,true),(23,false),(27,false)],[]⟩ [(4,6,an hb17),(7,7,oc hb17),(9,11,an hb18),(12,12,oc hb18),(14,16,an hb19),(17,17,oc hb19),(19,21,an hb20),(22,22,oc hb20),(24,27,oc hb21)] ?_
      exact eN h (gg [] [])
     refine bO ⟨[(3,true),(7,true),(8,true),(12,true),(13,true),(17,true),(18,false),(22,false)],[]⟩ [(4,6,an hb17),(7,7,oc hb17),(9,11,an hb18),(12,12,oc hb18),(14,16,an hb19),(17,17,oc hb19),(19,22,oc hb20)] ?_
     exact eN h (gg [] [])
    refine bO ⟨[(3,true),(7,true),(8,true),(12,true),(13,false),(17,false)],[]⟩ [(4,6,an hb17),(7,7,oc hb17),(9,11,an hb18),(12,12,oc hb18),(14,17,oc hb19)] ?_
    exact eN h (gg [] [])
   refine bO ⟨[(3,true),(7,true),(8,false),(12,false)],[]⟩ [(4,6,an hb17),(7,7,oc hb17),(9,12,oc hb18)] ?_
   exact eN h (gg [] [])
  refine bO ⟨[(3,false),(7,false)],[]⟩ [(4,7,oc hb17)] ?_
  exact eN h (gg [] [])
 refine aA (aL ?_)
 obtain rfl:=sI h
 exact aD [.bool] (by kernel_rfl)
def aV(t1:Option K4)(r1:Int):Option (Int) :=
 (((if t1.isNone=true then some (true)
 else(if(decide (r1<(0:Int)))=true then some (true)
 else some ((decide (r1 > (1114111:Int))))))).bind fun v1=>(if v1=true then some (0:Int)
 else(if t1.isSome=true then(if 0≤(8:Int)then(if t1.isSome=true then(if 0≤(Int.fdiv r1 (2 ^ (min (8:Int).toNat IntKind.i32.bits)))∧(Int.fdiv r1 (2 ^ (min (8:Int).toNat IntKind.i32.bits)))<((4352:Nat):Int)then(if 0≤(eH ((t1.getD (Ty.zero wS)).1) (Int.fdiv r1 (2 ^ (min (8:Int).toNat IntKind.i32.bits))).toNat)∧(eH ((t1.getD (Ty.zero wS)).1) (Int.fdiv r1 (2 ^ (min (8:Int).toNat IntKind.i32.bits))).toNat)<(((t1.getD (Ty.zero wS)).2).length:Int)then(if 0≤(aZ .and .i32 r1 (255:Int))∧(aZ .and .i32 r1 (255:Int))<((256:Nat):Int)then some (IntKind.i64.wrap (eH (((t1.getD (Ty.zero wS)).2).getD ((eH ((t1.getD (Ty.zero wS)).1) (Int.fdiv r1 (2 ^ (min (8:Int).toNat IntKind.i32.bits))).toNat).toNat) (cT 256)) (aZ .and .i32 r1 (255:Int)).toNat))else none)else none)else none)else none)else none)else none)))
theorem mH(β0:Bool){t1:Option K4}{r1:Int}{res:Int}(h:aV t1 r1=some res):
  Pure Tryz.prog 70 [.p β0 (.ptr wS) t1,.i32 r1] (aU (bN false [⟨(.int .i64),res⟩])):=by
 refine Pure.of_body bA Tryz.func70 (by kernel_rfl) rfl (nl rfl) (fun Bw w0=> ?_) rfl
 unfold aV at h
 refine G (aC (aC (bT h (fun v1=>aM [(0,.p β0 (.ptr wS) t1),(1,.i32 r1),(14,.bo v1)] [] 0) (fun v1 h=> ?_) (fun v1 h=> ?_))))
 ·rcases aR h with⟨hb5,h⟩ | ⟨hb5,h⟩
  ·refine bO ⟨[(2,true),(5,true)],[]⟩ [(1,1,⟨∃e,Tryz.prog.underlying 99=some (.pointer e),⟨_,rfl⟩⟩),(3,5,oc hb5)] ?_
   exact eN h (gg [] [])
  rcases aR h with⟨hb6,h⟩ | ⟨hb6,h⟩
  ·refine bO ⟨[(2,false),(5,false),(6,true),(9,true)],[]⟩ [(1,1,⟨∃e,Tryz.prog.underlying 99=some (.pointer e),⟨_,rfl⟩⟩),(3,4,an hb5),(5,5,oc hb5),(7,9,oc hb6)] ?_
   exact eN h (gg [] [])
  refine bO ⟨[(2,false),(5,false),(6,false),(9,false)],[]⟩ [(1,1,⟨∃e,Tryz.prog.underlying 99=some (.pointer e),⟨_,rfl⟩⟩),(3,4,an hb5),(5,5,oc hb5),(7,8,an hb6),(9,9,oc hb6)] ?_
  exact eN h (gg [] [])
 refine aA (aO h (fun hb7 h=> ?_) (fun hb7 h=> ?_))
 ·refine G (aL (aE ?_))
  obtain rfl:=sI h
  exact aD [(.int .i64)] (by kernel_rfl)
 refine aB (aA ?_)
 obtain⟨c7,c8,c9,c10,h⟩:=g4 h
 obtain⟨c11,c12,h⟩:=g2 h
 refine GD a0 [(1,1,oc c7),(6,6,oc c8),(7,7,oc c9),(9,9,oc c10),(13,13,oc c11),(14,14,oc c12)] (aL ?_)
 obtain rfl:=sI h
 exact aD [(.int .i64)] (by kernel_rfl)
def cS(t1:Option K4)(l1:List Z7):zR→Option (zR⊕(List Int)):=fun(out2,v2) =>
 (if(decide (v2<(l1.length:Int)))=true then(if 0≤v2∧v2<(l1.length:Int)then((aV t1 ((l1.getD v2.toNat ((0:Int),((0:Int),(0:Int)))).1)).bind fun r6 =>
 (if 0≤v2∧v2<(out2.length:Int)then(if v2.toNat<out2.length then some (Sum.inl ((out2.set v2.toNat r6),(IntKind.i64.wrap (v2+(1:Int)))))else none)else none))else none)
 else some (Sum.inr out2))
def cE(t1:Option K4)(l1:List Z7):Option (List Int) :=
 (if 0≤(l1.length:Int)∧(l1.length:Int)≤(l1.length:Int)∧(8:Int)*(l1.length:Int)≤281474976710656∧(l1.length:Int)≤9223372036854775807 then((iter (cS t1 l1) ((List.replicate (l1.length:Int).toNat (0:Int)),(0:Int))).bind fun out3=>some out3)else none)
theorem kE(β0 β1:Bool){t1:Option K4}{l1:List Z7}{res:List Int}(h:cE t1 l1=some res):
  Pure Tryz.prog 39 [.p β0 (.ptr wS) t1,.p β1 (.slice (.prod (.int .i32) Y2)) l1] (aU (bN false [⟨(.slice (.int .i64)),res⟩])):=by
 refine Pure.of_body bA Tryz.func39 (by kernel_rfl) rfl (nl rfl) (fun Bw w0=> ?_) rfl
 unfold cE at h
 refine G (GC 2 h (fun h=>aC (G (aF (dC h (fun(out2,v2)=>aM [(0,.p β0 (.ptr wS) t1),(5,.sl 0),(11,.p β1 (.slice (.prod (.int .i32) Y2)) l1),(12,.i64 (l1.length:Int)),(13,.i64 v2)] [(0,.arr 3 (.int .i64) out2)] 1) 0 (fun out3=>aM [(5,.sl 0)] [(0,.arr 3 (.int .i64) out3)] 1) (gg [] [24]) (fun y o h=> ?_) (fun out3 h=> ?_))))))
 ·obtain⟨out2,v2⟩:=y
  unfold cS at h
  refine G (aC (aO h (fun hb3 h=> ?_) (fun hb3 h=> ?_)))
  ·refine aB (aA (aC (aF (GC 1 h (fun h=> ?_)))))
   obtain⟨r6,q6,h⟩:=aG h
   obtain⟨c19,c20,h⟩:=g2 h
   have u_1:=(mH β0 q6)
   refine bO ⟨[],[(5,(oP u_1))]⟩ [(5,5,oc u_1),(6,6,oc c19),(7,7,oc c20)] (aJ (aA (Ge ?_)))
   exact eB h (gg [] [0])
  refine aH (aX ?_)
  exact eX h (gg [] [0])
 refine aI (aA (G (aL ?_)))
 obtain rfl:=sI h
 exact aD [(.slice (.int .i64))] (by kernel_rfl)
def iS(a1:List (List Int))(classes1:List Int):((List Int)×Int×Int)→Option (((List Int)×Int×Int)⊕(List Int)):=fun(out2,s2,v4) =>
 (if(decide (v4<(classes1.length:Int)))=true then(if 0≤v4∧v4<(classes1.length:Int)then(((if(decide ((classes1.getD v4.toNat (0:Int))<(0:Int)))=true then some (true)
 else(if 0≤s2∧s2<(a1.length:Int)then some ((decide ((classes1.getD v4.toNat (0:Int))≥((a1.getD s2.toNat ([]:List Int)).length:Int))))else none))).bind fun v5=>(if v5=true then some (Sum.inr out2)
 else(if 0≤s2∧s2<(a1.length:Int)then(if 0≤(classes1.getD v4.toNat (0:Int))∧(classes1.getD v4.toNat (0:Int))<((a1.getD s2.toNat ([]:List Int)).length:Int)then(if(out2.length+([((a1.getD s2.toNat ([]:List Int)).getD ((classes1.getD v4.toNat (0:Int)).toNat) (0:Int))]:List Int).length)*8≤140737488355328∧out2.length+([((a1.getD s2.toNat ([]:List Int)).getD ((classes1.getD v4.toNat (0:Int)).toNat) (0:Int))]:List Int).length≤9223372036854775807 then some (Sum.inl ((out2++([((a1.getD s2.toNat ([]:List Int)).getD ((classes1.getD v4.toNat (0:Int)).toNat) (0:Int))]:List Int)),((a1.getD s2.toNat ([]:List Int)).getD ((classes1.getD v4.toNat (0:Int)).toNat) (0:Int)),(IntKind.i64.wrap (v4+(1:Int)))))else none)else none)else none)))else none)
 else some (Sum.inr out2))
def mS(a1:List (List Int))(a2 classes1:List Int):Option (List Int) :=
 (if((a1.length:Int) == (0:Int))=true then some ([]:List Int)
 else((iter (iS a1 classes1) (([(0:Int)]:List Int),(0:Int),(0:Int))).bind fun out3=>some out3))
theorem wD(β0 β1 β2:Bool){a1:List (List Int)}{a2:List Int}{classes1:List Int}{res:List Int}(h:mS a1 a2 classes1=some res):
  Pure Tryz.prog 67 [.agg [.p β0 (.slice (.slice (.int .i64))) a1,.p β1 (.slice (.int .u32)) a2],.p β2 (.slice (.int .i64)) classes1] (aU (bN false [⟨(.slice (.int .i64)),res⟩])):=by
 refine Pure.of_body bA Tryz.func67 (by kernel_rfl) rfl (nl rfl) (fun Bw w0=> ?_) rfl
 unfold mS at h
 refine G (aC (G (aO h (fun hb1 h=> ?_) (fun hb1 h=> ?_))))
 ·refine G (aL (aE ?_))
  obtain rfl:=sI h
  exact aD [(.slice (.int .i64))] (by kernel_rfl)
 refine aB (aA (G (G (aC (G (aF (dC h (fun(out2,s2,v4)=>aM [(2,.adr 0 0 2 0),(5,.sl 1),(6,.i64 s2),(14,.p β2 (.slice (.int .i64)) classes1),(15,.i64 (classes1.length:Int)),(16,.i64 v4)] (aFg β0 a1 β1 a2 out2) 2) 0 (fun out3=>aM [(5,.sl 0)] [(0,.arr 3 (.int .i64) out3)] 1) (gg [] [0,48]) (fun y o h=> ?_) (fun out3 h=> ?_))))))))
 ·obtain⟨out2,s2,v4⟩:=y
  unfold iS at h
  refine G (aC (aO h (fun hb12 h=> ?_) (fun hb12 h=> ?_)))
  ·refine aB (aA (aC (aF (GC 0 h (fun h=>aC (aC (bT h (fun v5=>aM [(2,.adr 0 0 2 0),(5,.sl 1),(6,.i64 s2),(8,.i64 (classes1.getD v4.toNat (0:Int))),(14,.p β2 (.slice (.int .i64)) classes1),(15,.i64 (classes1.length:Int)),(16,.i64 v4),(31,.bo v5)] (aFg β0 a1 β1 a2 out2) 2) (fun v5 h=> ?_) (fun v5 h=> ?_))))))))
   ·rcases aR h with⟨hb15,h⟩ | ⟨hb15,h⟩
    ·refine bO ⟨[(2,true),(11,true)],[]⟩ [(3,11,oc hb15)] ?_
     exact eN h (gg [] [0,1])
    obtain⟨c27,h⟩:=aQ h
    refine bO ⟨[(2,false),(11,false)],[]⟩ [(3,6,an hb15),(7,7,oc (And.intro hb15 c27)),(8,10,an hb15),(11,11,oc hb15)] ?_
    exact eN h (gg [] [0,1])
   refine aA (aO h (fun hb16 h=> ?_) (fun hb16 h=> ?_))
   ·refine aH (aX (j8 rfl (aX ?_)))
    exact eX h (gg [] [1])
   refine aB (aA ?_)
   obtain⟨c30,c31,h⟩:=g2 h
   refine GN a0 [(3,3,oc c30),(6,6,oc c31)] (K5 3 h (fun h=>aJ (aA (Ge ?_))))
   exact eB h (gg [] [0,98])
  refine aH (aX ?_)
  exact eX h (gg [] [1])
 refine aI (aA (G (aL ?_)))
 obtain rfl:=sI h
 exact aD [(.slice (.int .i64))] (by kernel_rfl)
def bU  : ((List Int)×Int×Int)→Option (((List Int)×Int×Int)⊕(List Int)):=fun(s5,i4,j4) =>
 (if(decide (i4<j4))=true then(if 0≤j4∧j4<(s5.length:Int)then(if j4.toNat<s5.length then(if 0≤i4∧i4<(s5.length:Int)then(if i4.toNat<s5.length then(if 0≤i4∧i4<(s5.length:Int)then(if i4.toNat<s5.length then(if 0≤j4∧j4<((s5.set i4.toNat (s5.getD j4.toNat (0:Int))).length:Int)then(if j4.toNat<(s5.set i4.toNat (s5.getD j4.toNat (0:Int))).length then some (Sum.inl (((s5.set i4.toNat (s5.getD j4.toNat (0:Int))).set j4.toNat (s5.getD i4.toNat (0:Int))),(IntKind.i64.wrap (i4+(1:Int))),(IntKind.i64.wrap (j4 - (1:Int)))))else none)else none)else none)else none)else none)else none)else none)else none)
 else some (Sum.inr s5))
def b7(s1:List Int):Option (List Int) :=
 ((iter (bU) (s1,(0:Int),(IntKind.i64.wrap ((s1.length:Int) - (1:Int))))).bind fun v3=>some v3)
theorem jJ{s1:List Int}{res:List Int}(h:b7 s1=some res):
  Owns Tryz.prog 68 [.sl 0] [(0,.arr 3 (.int .i64) s1)] (.tup []) [(0,.arr 3 (.int .i64) res)]:=by
 refine Owns.of_body bA Tryz.func68 (by kernel_rfl) rfl (nl rfl) (fun Bw w0=> ?_)
 unfold b7 at h
 refine G (aF (dC h (fun(s5,i4,j4)=>aM [(0,.sl 0),(2,.i64 i4),(3,.i64 j4)] [(0,.arr 3 (.int .i64) s5)] 1 1) 0 (fun v3=>aM [] [(0,.arr 3 (.int .i64) v3)] 1 1) (gg [] [0]) (fun y o h=> ?_) (fun v3 h=> ?_)))
 ·obtain⟨s5,i4,j4⟩:=y
  unfold bU at h
  refine aC (G (aO h (fun hb6 h=> ?_) (fun hb6 h=> ?_)))
  ·refine aB (aA (aC (aF ?_)))
   obtain⟨c89,c90,c91,c92,h⟩:=g4 h
   obtain⟨c93,c94,c95,c96,h⟩:=g4 h
   refine qY a0 [(6,6,oc c89),(7,7,oc c90),(10,10,oc c91),(11,11,oc c92),(12,12,oc c93),(13,13,oc c94),(14,14,oc c95),(15,15,oc c96)] (aJ (aA (Ge ?_)))
   exact eB h (gg [] [0])
  refine aH (aX ?_)
  exact eX h (gg [] [0])
 refine aI ?_
 obtain rfl:=sI h
 exact(aT [] [] [0] [] [(0,.arr 3 (.int .i64) v3)] 1 1 (by kernel_rfl) (by kernel_rfl) (by kernel_rfl)).normal
def fK(x1:Int):Option (Int):=some (y5 x1)
theorem kL(x:Int)(w:World)(hl:wK Tryz.prog w):Calls Tryz.prog 69 #[.int .u32 x] w fun e w'=>e = .returned (.int .i64 (y5 x))∧w'=w:=by
 have hc:w.cell? ⟨0,(bits BinOp.and IntKind.u32 x (-x % 4294967296)*125613361 % 4294967296 / 134217728).toNat,none⟩=some (.int .u8 (deB.getD (bits BinOp.and IntKind.u32 x (-x % 4294967296)*125613361 % 4294967296 / 134217728).toNat 0)):=hl 0 (by kernel_rfl) _ (aBB _)
 go_enter Tryz.func69,Tryz.ntmps69
 go_wp2
 ·rename_i h
  go_ret
  exact⟨by rw[aA7 h];rfl,rfl⟩
 rename_i h
 go_ret
 exact⟨by rw[←aCc h,List.getD_eq_getElem?_getD];rfl,rfl⟩
theorem mQ{x1:Int}{res:Int}(h:fK x1=some res):
  Pure Tryz.prog 69 [.u32 x1] (aU (bN false [⟨(.int .i64),res⟩])):=by
 obtain rfl:=sI h
 exact Pure.of_tz Tryz.func69 (by kernel_rfl) rfl (fun w=>kL _ w)
def dM(d1:Option Z5)(i1:List Int):((List Int)×(List Int)×Bool×Int)→Option (((List Int)×(List Int)×Bool×Int)⊕Z8):=fun(v10,v11,v12,v13) =>
 (if(decide (v13<(i1.length:Int)))=true then(if 0≤v13∧v13<(i1.length:Int)then(((if(decide ((i1.getD v13.toNat (0:Int))<(0:Int)))=true then some (true)
 else(if d1.isSome=true then some ((decide ((i1.getD v13.toNat (0:Int))≥(((d1.getD (Ty.zero lW)).1.1).length:Int))))else none))).bind fun v16=>(((if v16=true then some ((0:Int))
 else some ((i1.getD v13.toNat (0:Int))))).bind fun v17=>(((if v12=true then(if d1.isSome=true then(if 0≤v17 then some (((aZ .and .u32 (Int.fdiv ((d1.getD (Ty.zero lW)).1.2.1) (2 ^ (min v17.toNat IntKind.u32.bits))) (1:Int)) == (1:Int)))else none)else none)
 else some (false))).bind fun v18=>(if v18=true then some (Sum.inl (v10,v11,v12,(IntKind.i64.wrap (v13+(1:Int)))))
 else(if d1.isSome=true then(if 0≤v17 then(if(v10.length+([v13]:List Int).length)*8≤140737488355328∧v10.length+([v13]:List Int).length≤9223372036854775807 then(if d1.isSome=true then(if 0≤v17∧v17<(((d1.getD (Ty.zero lW)).1.2.2.2.1).length:Int)then(if(v11.length+([(((d1.getD (Ty.zero lW)).1.2.2.2.1).getD v17.toNat (0:Int))]:List Int).length)*8≤140737488355328∧v11.length+([(((d1.getD (Ty.zero lW)).1.2.2.2.1).getD v17.toNat (0:Int))]:List Int).length≤9223372036854775807 then some (Sum.inl ((v10++([v13]:List Int)),(v11++([(((d1.getD (Ty.zero lW)).1.2.2.2.1).getD v17.toNat (0:Int))]:List Int)),((aZ .and .u32 (Int.fdiv ((d1.getD (Ty.zero lW)).1.2.2.1) (2 ^ (min v17.toNat IntKind.u32.bits))) (1:Int)) == (1:Int)),(IntKind.i64.wrap (v13+(1:Int)))))else none)else none)else none)else none)else none)else none)))))else none)
 else some (Sum.inr (v10,v11)))
def dN(d1:Option Z5)(v14 r3 r7:List Int):zR→Option (zR⊕(List Int)):=fun(v23,v24) =>
 (if(decide (v24<(v14.length:Int)))=true then(if d1.isSome=true then(if 0≤v24∧v24<(r3.length:Int)then(if 0≤(r3.getD v24.toNat (0:Int))∧(r3.getD v24.toNat (0:Int))<(((d1.getD (Ty.zero lW)).2.1.2).length:Int)then(if d1.isSome=true then(if 0≤(IntKind.i64.wrap ((v14.length:Int) - v24))∧(IntKind.i64.wrap ((v14.length:Int) - v24))<(r7.length:Int)then(if 0≤(r7.getD ((IntKind.i64.wrap ((v14.length:Int) - v24)).toNat) (0:Int))∧(r7.getD ((IntKind.i64.wrap ((v14.length:Int) - v24)).toNat) (0:Int))<(((d1.getD (Ty.zero lW)).2.2.2).length:Int)then(if 0≤v24∧v24<(v14.length:Int)then(if v24.toNat<v14.length then(if 0≤(v14.getD v24.toNat (0:Int))∧(v14.getD v24.toNat (0:Int))<(v23.length:Int)then(if(v14.getD v24.toNat (0:Int)).toNat<v23.length then(((if((aZ .and .u32 (((d1.getD (Ty.zero lW)).2.1.2).getD ((r3.getD v24.toNat (0:Int)).toNat) (0:Int)) (((d1.getD (Ty.zero lW)).2.2.2).getD ((r7.getD ((IntKind.i64.wrap ((v14.length:Int) - v24)).toNat) (0:Int)).toNat) (0:Int))) != (0:Int))=true then(if 0≤v24∧v24<(v14.length:Int)then(if v24.toNat<v14.length then(if d1.isSome=true then((fK (aZ .and .u32 (((d1.getD (Ty.zero lW)).2.1.2).getD ((r3.getD v24.toNat (0:Int)).toNat) (0:Int)) (((d1.getD (Ty.zero lW)).2.2.2).getD ((r7.getD ((IntKind.i64.wrap ((v14.length:Int) - v24)).toNat) (0:Int)).toNat) (0:Int)))).bind fun r19 =>
 (if 0≤r19∧r19<(((d1.getD (Ty.zero lW)).1.2.2.2.2).length:Int)then(if 0≤(v14.getD v24.toNat (0:Int))∧(v14.getD v24.toNat (0:Int))<((v23.set ((v14.getD v24.toNat (0:Int)).toNat) (1:Int)).length:Int)then(if(v14.getD v24.toNat (0:Int)).toNat<(v23.set ((v14.getD v24.toNat (0:Int)).toNat) (1:Int)).length then some (((v23.set ((v14.getD v24.toNat (0:Int)).toNat) (1:Int)).set ((v14.getD v24.toNat (0:Int)).toNat) ((((d1.getD (Ty.zero lW)).1.2.2.2.2).getD r19.toNat ((0:Int),((Tree.node 0 0 []),(Tree.node 0 0 [])))).1)))else none)else none)else none))else none)else none)else none)
 else some ((v23.set ((v14.getD v24.toNat (0:Int)).toNat) (1:Int))))).bind fun v26=>some (Sum.inl (v26,(IntKind.i64.wrap (v24+(1:Int))))))else none)else none)else none)else none)else none)else none)else none)else none)else none)else none)
 else some (Sum.inr v23))
def dP(d1:Option Z5)(i1:List Int):Option (List Int) :=
 (if 0≤(IntKind.i64.wrap ((i1.length:Int)+(1:Int)))∧(IntKind.i64.wrap ((i1.length:Int)+(1:Int)))≤(IntKind.i64.wrap ((i1.length:Int)+(1:Int)))∧(1:Int)*(IntKind.i64.wrap ((i1.length:Int)+(1:Int)))≤281474976710656∧(IntKind.i64.wrap ((i1.length:Int)+(1:Int)))≤9223372036854775807 then(if 0≤(i1.length:Int)∧(i1.length:Int)<((List.replicate (IntKind.i64.wrap ((i1.length:Int)+(1:Int))).toNat (0:Int)).length:Int)then(if(i1.length:Int).toNat<(List.replicate (IntKind.i64.wrap ((i1.length:Int)+(1:Int))).toNat (0:Int)).length then(if d1.isNone=true then some ((List.replicate (IntKind.i64.wrap ((i1.length:Int)+(1:Int))).toNat (0:Int)).set ((i1.length:Int).toNat) (2:Int))
 else((iter (dM d1 i1) (([]:List Int),([]:List Int),false,(0:Int))).bind fun(v14,v15)=>(if d1.isSome=true then((mS ((d1.getD (Ty.zero lW)).2.1.1) ((d1.getD (Ty.zero lW)).2.1.2) v15).bind fun r3 =>
 ((b7 v15).bind fun r5 =>
 (if d1.isSome=true then((mS ((d1.getD (Ty.zero lW)).2.2.1) ((d1.getD (Ty.zero lW)).2.2.2) r5).bind fun r7 =>
 ((iter (dN d1 v14 r3 r7) (((List.replicate (IntKind.i64.wrap ((i1.length:Int)+(1:Int))).toNat (0:Int)).set ((i1.length:Int).toNat) (2:Int)),(1:Int))).bind fun v25=>some v25))else none)))else none)))else none)else none)else none)
theorem kD(β0 β1:Bool){d1:Option Z5}{i1:List Int}{res:List Int}(h:dP d1 i1=some res):
  Pure Tryz.prog 38 [.p β0 (.ptr lW) d1,.p β1 (.slice (.int .i64)) i1] (aU (bN false [⟨(.slice (.int .u8)),res⟩])):=by
 refine Pure.of_body bA Tryz.func38 (by kernel_rfl) rfl (nl rfl) (fun Bw w0=> ?_) rfl
 unfold dP at h
 refine G (GC 3 h (fun h=> ?_))
 obtain⟨c5,c6,h⟩:=g2 h
 refine GN a0 [(3,3,oc c5),(4,4,oc c6)] (aC (GN a0 [(1,1,⟨∃e,Tryz.prog.underlying 98=some (.pointer e),⟨_,rfl⟩⟩)] (aO h (fun hb1 h=> ?_) (fun hb1 h=> ?_))))
 ·refine G (aL (aE ?_))
  obtain rfl:=sI h
  exact aD [(.slice (.int .u8))] (by kernel_rfl)
 refine aB (aA (G (G (aC (G (aF (dC h (fun(v10,v11,v12,v13)=>aM [(0,.p β0 (.ptr lW) d1),(5,.sl 0),(6,.sl 1),(7,.sl 2),(8,.bo v12),(26,.p β1 (.slice (.int .i64)) i1),(27,.i64 (i1.length:Int)),(28,.i64 v13)] (aCh ((List.replicate (IntKind.i64.wrap ((i1.length:Int)+(1:Int))).toNat (0:Int)).set ((i1.length:Int).toNat) (2:Int)) v10 v11) 3) 0 (fun(v14,v15)=>aM [(0,.p β0 (.ptr lW) d1),(5,.sl 0),(6,.sl 1),(7,.sl 2)] (aCh ((List.replicate (IntKind.i64.wrap ((i1.length:Int)+(1:Int))).toNat (0:Int)).set ((i1.length:Int).toNat) (2:Int)) v14 v15) 3) (gg [.nilS 6 152 3 (.int .i64),.nilS 7 153 3 (.int .i64)] [32,152,153]) (fun y o h=> ?_) (fun r1 h=> ?_))))))))
 ·obtain⟨v10,v11,v12,v13⟩:=y
  unfold dM at h
  refine G (aC (aO h (fun hb19 h=> ?_) (fun hb19 h=> ?_)))
  ·refine aB (aA (aC (aF (GC 1 h (fun h=>aC (aC (bT h (fun v16=>aM [(0,.p β0 (.ptr lW) d1),(5,.sl 0),(6,.sl 1),(7,.sl 2),(8,.bo v12),(9,.i64 v13),(10,.i64 (i1.getD v13.toNat (0:Int))),(26,.p β1 (.slice (.int .i64)) i1),(27,.i64 (i1.length:Int)),(28,.i64 v13),(44,.bo v16)] (aCh ((List.replicate (IntKind.i64.wrap ((i1.length:Int)+(1:Int))).toNat (0:Int)).set ((i1.length:Int).toNat) (2:Int)) v10 v11) 3) (fun v16 h=> ?_) (fun v16 h=> ?_))))))))
   ·rcases aR h with⟨hb22,h⟩ | ⟨hb22,h⟩
    ·refine bO ⟨[(2,true),(11,true)],[]⟩ [(3,11,oc hb22)] ?_
     exact eN h (gg [] [0,1,2])
    obtain⟨c51,h⟩:=aQ h
    refine bO ⟨[(2,false),(11,false)],[]⟩ [(3,4,an hb22),(5,5,oc (And.intro hb22 c51)),(6,10,an hb22),(11,11,oc hb22)] ?_
    exact eN h (gg [] [0,1,2])
   refine aA (bT h (fun v17=>aM [(0,.p β0 (.ptr lW) d1),(5,.sl 0),(6,.sl 1),(7,.sl 2),(8,.bo v12),(9,.i64 v13),(10,.i64 v17),(26,.p β1 (.slice (.int .i64)) i1),(27,.i64 (i1.length:Int)),(28,.i64 v13)] (aCh ((List.replicate (IntKind.i64.wrap ((i1.length:Int)+(1:Int))).toNat (0:Int)).set ((i1.length:Int).toNat) (2:Int)) v10 v11) 3) (fun v17 h=> ?_) (fun v17 h=> ?_))
   ·refine aO h (fun hb24 h=> ?_) (fun hb24 h=> ?_)
    ·refine Ge ?_
     exact eN h (gg [] [0,1,2])
    refine aB ?_
    exact eN h (gg [] [0,1,2])
   refine aA (aC (aC (bT h (fun v18=>aM [(0,.p β0 (.ptr lW) d1),(5,.sl 0),(6,.sl 1),(7,.sl 2),(8,.bo v12),(9,.i64 v13),(10,.i64 v17),(26,.p β1 (.slice (.int .i64)) i1),(27,.i64 (i1.length:Int)),(28,.i64 v13),(56,.bo v18)] (aCh ((List.replicate (IntKind.i64.wrap ((i1.length:Int)+(1:Int))).toNat (0:Int)).set ((i1.length:Int).toNat) (2:Int)) v10 v11) 3) (fun v18 h=> ?_) (fun v18 h=> ?_))))
   ·rcases aR h with⟨hb27,h⟩ | ⟨hb27,h⟩
    ·obtain⟨c56,c57,h⟩:=g2 h
     refine bO ⟨[(1,true),(11,true)],[]⟩ [(2,2,an hb27),(3,3,oc (And.intro hb27 c56)),(4,7,an hb27),(8,8,oc (And.intro hb27 c57)),(9,10,an hb27),(11,11,oc hb27)] ?_
     exact eN h (gg [] [0,1,2])
    refine bO ⟨[(1,false),(11,false)],[]⟩ [(2,11,oc hb27)] ?_
    exact eN h (gg [] [0,1,2])
   refine aA (aO h (fun hb28 h=> ?_) (fun hb28 h=> ?_))
   ·refine aH (aX (aI (aA (Ge ?_))))
    exact eB h (gg [] [0,1,2])
   refine aB (aA ?_)
   obtain⟨c60,c61,h⟩:=g2 h
   refine GN a0 [(1,1,oc c60),(6,6,oc c61)] ?_
   obtain⟨c66,c67,c68,c69,h⟩:=g4 h
   refine qY a0 [(3,3,oc c66),(6,6,oc c67),(11,11,oc c68),(14,14,oc c69)] (aJ (aA (Ge ?_)))
   exact eB h (gg [] [0,107,195])
  refine aH (aX ?_)
  exact eX h (gg [] [0,1,2])
 obtain⟨v14,v15⟩:=r1
 refine aI (aA ?_)
 obtain⟨c71,h⟩:=aQ h
 obtain⟨r3,q2,h⟩:=aG h
 have u_1:=(wD β0 β0 true q2)
 refine GN ⟨[],[(5,(oP u_1))]⟩ [(1,1,oc c71),(5,5,oc u_1)] ?_
 obtain⟨r5,q4,h⟩:=aG h
 refine GO 1 [2] (jJ q4) ?_
 obtain⟨c73,h⟩:=aQ h
 obtain⟨r7,q6,h⟩:=aG h
 have u_1:=(wD β0 β0 true q6)
 refine GN ⟨[],[(5,(oP u_1))]⟩ [(1,1,oc c73),(5,5,oc u_1)] (aC (G (aF (dC h (fun(v23,v24)=>aM [(0,.p β0 (.ptr lW) d1),(5,.sl 0),(6,.sl 1),(11,.p false (.slice (.int .i64)) r3),(12,.p false (.slice (.int .i64)) r7),(13,.i64 v24)] [(0,.arr 91 (.int .u8) v23),(1,.arr 3 (.int .i64) v14)] 2) 2 (fun v25=>aM [(5,.sl 0)] [(0,.arr 91 (.int .u8) v25)] 1) (gg [] [0,1]) (fun y o h=> ?_) (fun v25 h=> ?_)))))
 ·obtain⟨v23,v24⟩:=y
  unfold dN at h
  refine aC (G (aO h (fun hb35 h=> ?_) (fun hb35 h=> ?_)))
  ·refine aB (aA (aC (aF ?_)))
   obtain⟨c168,c169,c170,c171,h⟩:=g4 h
   obtain⟨c172,c173,h⟩:=g2 h
   refine GD a0 [(1,1,oc c168),(7,7,oc c169),(9,9,oc c170),(12,12,oc c171),(21,21,oc c172),(23,23,oc c173)] ?_
   obtain⟨c178,c179,c180,c181,h⟩:=g4 h
   refine GN a0 [(3,3,oc c178),(4,4,oc c179),(5,5,oc c180),(6,6,oc c181)] (G (bT h (fun v26=>aM [(0,.p β0 (.ptr lW) d1),(5,.sl 0),(6,.sl 1),(11,.p false (.slice (.int .i64)) r3),(12,.p false (.slice (.int .i64)) r7),(13,.i64 v24)] [(0,.arr 91 (.int .u8) v26),(1,.arr 3 (.int .i64) v14)] 2) (fun v26 h=> ?_) (fun v26 h=> ?_)))
   ·refine aO h (fun hb37 h=> ?_) (fun hb37 h=> ?_)
    ·obtain⟨c200,c201,c202,h⟩:=g3 h
     obtain⟨r19,q18,h⟩:=aG h
     obtain⟨c203,c204,c205,h⟩:=g3 h
     have u_1:=(mQ q18)
     refine qY ⟨[],[(11,(oP u_1))]⟩ [(3,3,oc c200),(4,4,oc c201),(6,6,oc c202),(11,11,oc u_1),(12,12,oc c203),(15,15,oc c204),(16,16,oc c205)] ?_
     exact eN h (gg [] [0,1])
    refine aB ?_
    exact eN h (gg [] [0,1])
   refine aJ (aA (Ge ?_))
   exact eB h (gg [] [0,1])
  refine aH (aX ?_)
  exact eX h (gg [] [0])
 refine aI (aA (G (aL ?_)))
 obtain rfl:=sI h
 exact aD [(.slice (.int .u8))] (by kernel_rfl)
def fC(i1:Int)(x1:Option Z3)(x2:Int):Option (Bool) :=
 (if x1.isSome=true then(if 0≤i1∧i1<(((x1.getD (Ty.zero mC)).1).length:Int)then some (decide (((((x1.getD (Ty.zero mC)).1).getD i1.toNat ((0:Int),((0:Int),(0:Int)))).2.1)≥x2))else none)else none)
theorem lS(β1:Bool){i1:Int}{x1:Option Z3}{x2:Int}{res:Bool}(h:fC i1 x1 x2=some res):
  Pure Tryz.prog 107 [.i64 i1,.fad true [.p β1 (.ptr mC) x1] 0,.fad true [.i32 x2] 0] (aU (bN false [⟨.bool,res⟩])):=by
 refine Pure.of_body bA Tryz.func107 (by kernel_rfl) rfl (nl rfl) (fun Bw w0=> ?_) rfl
 unfold fC at h
 refine G ?_
 obtain⟨c3,c4,h⟩:=g2 h
 refine GD a0 [(1,1,oc c3),(5,5,oc c4)] (aL ?_)
 obtain rfl:=sI h
 exact aD [.bool] (by kernel_rfl)
def o8(f1:Option Z3)(f2:Int):(Int×Int)→Option ((Int×Int)⊕(Int)):=fun(i2,j2) =>
 (if(decide (i2<j2))=true then(if 0≤(1:Int)then((fC (IntKind.i64.wrap (Int.fdiv (IntKind.u64.wrap (IntKind.i64.wrap (i2+j2))) (2 ^ (min (1:Int).toNat IntKind.u64.bits)))) f1 f2).bind fun r6 =>
 (if(!r6)=true then some (Sum.inl ((IntKind.i64.wrap ((IntKind.i64.wrap (Int.fdiv (IntKind.u64.wrap (IntKind.i64.wrap (i2+j2))) (2 ^ (min (1:Int).toNat IntKind.u64.bits))))+(1:Int))),j2))
 else some (Sum.inl (i2,(IntKind.i64.wrap (Int.fdiv (IntKind.u64.wrap (IntKind.i64.wrap (i2+j2))) (2 ^ (min (1:Int).toNat IntKind.u64.bits))))))))else none)
 else some (Sum.inr i2))
def pH(n1:Int)(f1:Option Z3)(f2:Int):Option (Int) :=
 ((iter (o8 f1 f2) ((0:Int),n1)).bind fun i3=>some i3)
theorem yN(β1:Bool){n1:Int}{f1:Option Z3}{f2:Int}{res:Int}(h:pH n1 f1 f2=some res):
  Pure Tryz.prog 106 [.i64 n1,.fn 107 [.fad true [.p β1 (.ptr mC) f1] 0,.fad true [.i32 f2] 0]] (aU (bN false [⟨(.int .i64),res⟩])):=by
 refine Pure.of_body bA Tryz.func106 (by kernel_rfl) rfl (nl rfl) (fun Bw w0=> ?_) rfl
 unfold pH at h
 refine G (G (aC (aF (dC h (fun(i2,j2)=>aM [(1,.fn 107 [.fad true [.p β1 (.ptr mC) f1] 0,.fad true [.i32 f2] 0]),(5,.i64 i2),(6,.i64 j2)] [] 0) 0 (fun i3=>aM [(5,.i64 i3)] [] 0) (gg [] []) (fun y o h=> ?_) (fun i3 h=> ?_)))))
 ·obtain⟨i2,j2⟩:=y
  unfold o8 at h
  refine aC (G (aO h (fun hb5 h=> ?_) (fun hb5 h=> ?_)))
  ·refine aB (aA (aF (GC 4 h (fun h=> ?_))))
   obtain⟨r6,q6,h⟩:=aG h
   refine GP 2 (lS β1 q6) (aO h (fun hb6 h=> ?_) (fun hb6 h=> ?_))
   ·refine Ge (aJ ?_)
    exact eB h (gg [] [])
   refine Ge (aJ ?_)
   exact eB h (gg [] [])
  refine aH (aX ?_)
  exact eX h (gg [] [])
 refine aI (aA (G (aL ?_)))
 obtain rfl:=sI h
 exact aD [(.int .i64)] (by kernel_rfl)
def dZ(h1:Option Z3)(r1:Int):Option (Int×Bool) :=
 (if h1.isNone=true then some ((0:Int),false)
 else(if h1.isSome=true then((pH (((h1.getD (Ty.zero mC)).1).length:Int) h1 r1).bind fun r3 =>
 (((if h1.isSome=true then(if(r3 == (((h1.getD (Ty.zero mC)).1).length:Int))=true then some (true)
 else(if h1.isSome=true then(if 0≤r3∧r3<(((h1.getD (Ty.zero mC)).1).length:Int)then some ((decide (((((h1.getD (Ty.zero mC)).1).getD r3.toNat ((0:Int),((0:Int),(0:Int)))).1) > r1)))else none)else none))else none)).bind fun v1=>(if v1=true then some ((0:Int),false)
 else(if h1.isSome=true then(if 0≤r3∧r3<(((h1.getD (Ty.zero mC)).1).length:Int)then(if h1.isSome=true then(if 0≤r3∧r3<(((h1.getD (Ty.zero mC)).1).length:Int)then some ((IntKind.i32.wrap ((IntKind.i32.wrap ((IntKind.i32.wrap ((((h1.getD (Ty.zero mC)).1).getD r3.toNat ((0:Int),((0:Int),(0:Int)))).2.2))+r1)) - ((((h1.getD (Ty.zero mC)).1).getD r3.toNat ((0:Int),((0:Int),(0:Int)))).1))),true)else none)else none)else none)else none))))else none))
theorem mT(β0:Bool){h1:Option Z3}{r1:Int}{res:Int×Bool}(h:dZ h1 r1=some res):
  Pure Tryz.prog 71 [.p β0 (.ptr mC) h1,.i32 r1] (aU (bN false [⟨(.int .i32),res.1⟩,⟨.bool,res.2⟩])):=by
 refine Pure.of_body bA Tryz.func71 (by kernel_rfl) rfl (nl rfl) (fun Bw w0=> ?_) rfl
 unfold dZ at h
 refine G (aC (GN a0 [(1,1,⟨∃e,Tryz.prog.underlying 100=some (.pointer e),⟨_,rfl⟩⟩)] (aO h (fun hb1 h=> ?_) (fun hb1 h=> ?_))))
 ·refine G (aL (aE ?_))
  obtain rfl:=sI h
  exact aD [(.int .i32),.bool] (by kernel_rfl)
 refine aB (aA ?_)
 obtain⟨c2,h⟩:=aQ h
 obtain⟨r3,q2,h⟩:=aG h
 have u_1:=(yN β0 q2)
 refine GN ⟨[],[(6,(oP u_1))]⟩ [(1,1,oc c2),(6,6,oc u_1)] (aC (aC (bT h (fun v1=>aM [(2,.adr 0 0 1 0),(3,.adr 1 0 1 0),(6,.i64 r3),(34,.bo v1)] [(0,.box [.p β0 (.ptr mC) h1]),(1,.box [.i32 r1])] 2) (fun v1 h=> ?_) (fun v1 h=> ?_))))
 ·obtain⟨c9,h⟩:=aQ h
  rcases aR h with⟨hb4,h⟩ | ⟨hb4,h⟩
  ·refine qY ⟨[(7,true),(18,true)],[]⟩ [(2,2,oc c9),(8,18,oc hb4)] ?_
   exact eN h (gg [] [0,8])
  obtain⟨c10,c11,h⟩:=g2 h
  refine qY ⟨[(7,false),(18,false)],[]⟩ [(2,2,oc c9),(8,8,an hb4),(9,9,oc (And.intro hb4 c10)),(10,12,an hb4),(13,13,oc (And.intro hb4 c11)),(14,17,an hb4),(18,18,oc hb4)] ?_
  exact eN h (gg [] [0,8])
 refine aA (aO h (fun hb5 h=> ?_) (fun hb5 h=> ?_))
 ·refine G (aL (aE ?_))
  obtain rfl:=sI h
  exact aD [(.int .i32),.bool] (by kernel_rfl)
 refine aB (aA ?_)
 obtain⟨c16,c17,c18,c19,h⟩:=g4 h
 refine GD a0 [(1,1,oc c16),(5,5,oc c17),(12,12,oc c18),(16,16,oc c19)] (aL ?_)
 obtain rfl:=sI h
 exact aD [(.int .i32),.bool] (by kernel_rfl)
def jR(d1:Option Z16)(v84 v112:Int):zR→Option (zR⊕(List Int)):=fun(v121,v122) =>
 (if(decide (v122<(((((d1.getD (Ty.zero uH)).1).getD v112.toNat (([]:List (Int×Int)),([]:List Int))).2).length:Int)))=true then(if 0≤v122∧v122<(((((d1.getD (Ty.zero uH)).1).getD v112.toNat (([]:List (Int×Int)),([]:List Int))).2).length:Int)then(((if(decide ((IntKind.i64.wrap ((IntKind.i64.wrap (v84+v122)) - (1:Int)))≥(0:Int)))=true then some ((decide ((IntKind.i64.wrap ((IntKind.i64.wrap (v84+v122)) - (1:Int)))<(v121.length:Int))))
 else some (false))).bind fun v124=>(((if v124=true then(if 0≤(IntKind.i64.wrap ((IntKind.i64.wrap (v84+v122)) - (1:Int)))∧(IntKind.i64.wrap ((IntKind.i64.wrap (v84+v122)) - (1:Int)))<(v121.length:Int)then(if(IntKind.i64.wrap ((IntKind.i64.wrap (v84+v122)) - (1:Int))).toNat<v121.length then(if 0≤(IntKind.i64.wrap ((IntKind.i64.wrap (v84+v122)) - (1:Int)))∧(IntKind.i64.wrap ((IntKind.i64.wrap (v84+v122)) - (1:Int)))<(v121.length:Int)then(if(IntKind.i64.wrap ((IntKind.i64.wrap (v84+v122)) - (1:Int))).toNat<v121.length then some ((v121.set ((IntKind.i64.wrap ((IntKind.i64.wrap (v84+v122)) - (1:Int))).toNat) (max (v121.getD ((IntKind.i64.wrap ((IntKind.i64.wrap (v84+v122)) - (1:Int))).toNat) (0:Int)) (((((d1.getD (Ty.zero uH)).1).getD v112.toNat (([]:List (Int×Int)),([]:List Int))).2).getD v122.toNat (0:Int)))))else none)else none)else none)else none)
 else some (v121))).bind fun v125=>some (Sum.inl (v125,(IntKind.i64.wrap (v122+(1:Int)))))))else none)
 else some (Sum.inr v121))
def jO(d1:Option Z16)(i1:List Int)(v84:Int):((List Int)×Int×Int)→Option (((List Int)×Int×Int)⊕(List Int)):=fun(v111,v112,v113) =>
 (if d1.isSome=true then(if 0≤v112∧v112<(((d1.getD (Ty.zero uH)).1).length:Int)then((iter (jR d1 v84 v112) (v111,(0:Int))).bind fun v123=>(if(v113 == (((([(46:Int)]:List Int)++i1)++([(46:Int)]:List Int)).length:Int))=true then some (Sum.inr v123)
 else(if d1.isSome=true then(if 0≤v112∧v112<(((d1.getD (Ty.zero uH)).1).length:Int)then(if 0≤v113∧v113<(((([(46:Int)]:List Int)++i1)++([(46:Int)]:List Int)).length:Int)then(if v113.toNat<((([(46:Int)]:List Int)++i1)++([(46:Int)]:List Int)).length then(if(!((cF (α:=Int) (.int .i32) ((((d1.getD (Ty.zero uH)).1).getD v112.toNat (([]:List (Int×Int)),([]:List Int))).1) (((([(46:Int)]:List Int)++i1)++([(46:Int)]:List Int)).getD v113.toNat (0:Int))).isSome))=true then some (Sum.inr v123)
 else some (Sum.inl (v123,((cF (α:=Int) (.int .i32) ((((d1.getD (Ty.zero uH)).1).getD v112.toNat (([]:List (Int×Int)),([]:List Int))).1) (((([(46:Int)]:List Int)++i1)++([(46:Int)]:List Int)).getD v113.toNat (0:Int))).getD 0),(IntKind.i64.wrap (v113+(1:Int))))))else none)else none)else none)else none)))else none)else none)
def jT(d1:Option Z16)(i1:List Int):zR→Option (zR⊕(List Int)):=fun(v83,v84) =>
 (if(decide (v84<(((([(46:Int)]:List Int)++i1)++([(46:Int)]:List Int)).length:Int)))=true then((iter (jO d1 i1 v84) (v83,(0:Int),v84)).bind fun v114=>some (Sum.inl (v114,(IntKind.i64.wrap (v84+(1:Int))))))
 else some (Sum.inr v83))
def iG(d1:Option Z16)(i1:List Int):Option (List Int) :=
 (if 0≤(IntKind.i64.wrap ((i1.length:Int)+(1:Int)))∧(IntKind.i64.wrap ((i1.length:Int)+(1:Int)))≤(IntKind.i64.wrap ((i1.length:Int)+(1:Int)))∧(1:Int)*(IntKind.i64.wrap ((i1.length:Int)+(1:Int)))≤281474976710656∧(IntKind.i64.wrap ((i1.length:Int)+(1:Int)))≤9223372036854775807 then(if d1.isNone=true then some (List.replicate (IntKind.i64.wrap ((i1.length:Int)+(1:Int))).toNat (0:Int))
 else(if(([(46:Int)]:List Int).length+i1.length)*4≤140737488355328∧([(46:Int)]:List Int).length+i1.length≤9223372036854775807 then(if((([(46:Int)]:List Int)++i1).length+([(46:Int)]:List Int).length)*4≤140737488355328∧(([(46:Int)]:List Int)++i1).length+([(46:Int)]:List Int).length≤9223372036854775807 then((iter (jT d1 i1) ((List.replicate (IntKind.i64.wrap ((i1.length:Int)+(1:Int))).toNat (0:Int)),(0:Int))).bind fun v85=>some v85)else none)else none))else none)
theorem qW(β0 β1:Bool){d1:Option Z16}{i1:List Int}{res:List Int}(h:iG d1 i1=some res):
  Pure Tryz.prog 108 [.p β0 (.ptr uH) d1,.p β1 (.slice (.int .i32)) i1] (aU (bN false [⟨(.slice (.int .u8)),res⟩])):=by
 refine Pure.of_body bA Tryz.func108 (by kernel_rfl) rfl (nl rfl) (fun Bw w0=> ?_) rfl
 unfold iG at h
 refine G (GC 3 h (fun h=>aC (GN a0 [(1,1,⟨∃e,Tryz.prog.underlying 160=some (.pointer e),⟨_,rfl⟩⟩)] (aO h (fun hb1 h=> ?_) (fun hb1 h=> ?_)))))
 ·refine G (aL (aE ?_))
  obtain rfl:=sI h
  exact aD [(.slice (.int .u8))] (by kernel_rfl)
 refine aB (aA ?_)
 obtain⟨c5,c6,h⟩:=g2 h
 refine GN a0 [(2,2,oc c5),(4,4,oc c6)] (aC (G (aF (dC h (fun(v83,v84)=>aM [(0,.p β0 (.ptr uH) d1),(5,.sl 0),(6,.sl 1),(28,.i64 (((([(46:Int)]:List Int)++i1)++([(46:Int)]:List Int)).length:Int)),(29,.i64 v84)] [(0,.arr 5 (.int .u8) v83),(1,.arr 21 (.int .i32) ((([(46:Int)]:List Int)++i1)++([(46:Int)]:List Int)))] 2) 0 (fun v85=>aM [(5,.sl 0)] [(0,.arr 5 (.int .u8) v85)] 1) (gg [] [32,96]) (fun y o h=> ?_) (fun v85 h=> ?_)))))
 ·obtain⟨v83,v84⟩:=y
  unfold jT at h
  refine G (aC (aO h (fun hb124 h=> ?_) (fun hb124 h=> ?_)))
  ·refine aB (aA (aC (aF (G (G (G (aF (dC h (fun(v111,v112,v113)=>aM [(0,.p β0 (.ptr uH) d1),(5,.sl 0),(6,.sl 1),(7,.i64 v84),(8,.i64 v112),(9,.i64 v113),(28,.i64 (((([(46:Int)]:List Int)++i1)++([(46:Int)]:List Int)).length:Int)),(29,.i64 v84)] [(0,.arr 5 (.int .u8) v111),(1,.arr 21 (.int .i32) ((([(46:Int)]:List Int)++i1)++([(46:Int)]:List Int)))] 2) 2 (fun v114=>aM [(0,.p β0 (.ptr uH) d1),(5,.sl 0),(6,.sl 1),(28,.i64 (((([(46:Int)]:List Int)++i1)++([(46:Int)]:List Int)).length:Int)),(29,.i64 v84)] [(0,.arr 5 (.int .u8) v114),(1,.arr 21 (.int .i32) ((([(46:Int)]:List Int)++i1)++([(46:Int)]:List Int)))] 2) (gg [] [0,1]) (fun y o h=> ?_) (fun v114 h=> ?_)))))))))
   ·obtain⟨v111,v112,v113⟩:=y
    unfold jO at h
    refine aC (aF (aC ?_))
    obtain⟨c537,c538,h⟩:=g2 h
    refine GN a0 [(1,1,oc c537),(5,5,oc c538)] (aF ?_)
    refine dC h (fun(v121,v122)=>aM [(0,.p β0 (.ptr uH) d1),(5,.sl 0),(6,.sl 1),(7,.i64 v84),(8,.i64 v112),(9,.i64 v113),(28,.i64 (((([(46:Int)]:List Int)++i1)++([(46:Int)]:List Int)).length:Int)),(29,.i64 v84),(42,.p β0 (.slice (.int .u8)) ((((d1.getD (Ty.zero uH)).1).getD v112.toNat (([]:List (Int×Int)),([]:List Int))).2)),(43,.i64 (((((d1.getD (Ty.zero uH)).1).getD v112.toNat (([]:List (Int×Int)),([]:List Int))).2).length:Int)),(44,.i64 v122)] [(0,.arr 5 (.int .u8) v121),(1,.arr 21 (.int .i32) ((([(46:Int)]:List Int)++i1)++([(46:Int)]:List Int)))] 2) 4 (fun v123=>aM [(0,.p β0 (.ptr uH) d1),(5,.sl 0),(6,.sl 1),(7,.i64 v84),(8,.i64 v112),(9,.i64 v113),(28,.i64 (((([(46:Int)]:List Int)++i1)++([(46:Int)]:List Int)).length:Int)),(29,.i64 v84)] [(0,.arr 5 (.int .u8) v123),(1,.arr 21 (.int .i32) ((([(46:Int)]:List Int)++i1)++([(46:Int)]:List Int)))] 2) (gg [] [0,1]) (fun y o h=> ?_) (fun v123 h=> ?_)
    ·obtain⟨v121,v122⟩:=y
     unfold jR at h
     refine G (aC (aO h (fun hb177 h=> ?_) (fun hb177 h=> ?_)))
     ·refine aB (aA (aC (aF (GC 1 h (fun h=>G (aC ?_))))))
      refine bT h (fun v124=>aM [(0,.p β0 (.ptr uH) d1),(5,.sl 0),(6,.sl 1),(7,.i64 v84),(8,.i64 v112),(9,.i64 v113),(11,.u8 (((((d1.getD (Ty.zero uH)).1).getD v112.toNat (([]:List (Int×Int)),([]:List Int))).2).getD v122.toNat (0:Int))),(12,.i64 (IntKind.i64.wrap ((IntKind.i64.wrap (v84+v122)) - (1:Int)))),(28,.i64 (((([(46:Int)]:List Int)++i1)++([(46:Int)]:List Int)).length:Int)),(29,.i64 v84),(42,.p β0 (.slice (.int .u8)) ((((d1.getD (Ty.zero uH)).1).getD v112.toNat (([]:List (Int×Int)),([]:List Int))).2)),(43,.i64 (((((d1.getD (Ty.zero uH)).1).getD v112.toNat (([]:List (Int×Int)),([]:List Int))).2).length:Int)),(44,.i64 v122),(60,.bo v124)] [(0,.arr 5 (.int .u8) v121),(1,.arr 21 (.int .i32) ((([(46:Int)]:List Int)++i1)++([(46:Int)]:List Int)))] 2) (fun v124 h=> ?_) (fun v124 h=> ?_)
      ·rcases aR h with⟨hb180,h⟩ | ⟨hb180,h⟩
       ·refine bO ⟨[(2,true),(7,true)],[]⟩ [(3,6,an hb180),(7,7,oc hb180)] ?_
        exact eN h (gg [] [0,1])
       refine bO ⟨[(2,false),(7,false)],[]⟩ [(3,7,oc hb180)] ?_
       exact eN h (gg [] [0,1])
      refine aA (bT h (fun v125=>aM [(0,.p β0 (.ptr uH) d1),(5,.sl 0),(6,.sl 1),(7,.i64 v84),(8,.i64 v112),(9,.i64 v113),(28,.i64 (((([(46:Int)]:List Int)++i1)++([(46:Int)]:List Int)).length:Int)),(29,.i64 v84),(42,.p β0 (.slice (.int .u8)) ((((d1.getD (Ty.zero uH)).1).getD v112.toNat (([]:List (Int×Int)),([]:List Int))).2)),(43,.i64 (((((d1.getD (Ty.zero uH)).1).getD v112.toNat (([]:List (Int×Int)),([]:List Int))).2).length:Int)),(44,.i64 v122)] [(0,.arr 5 (.int .u8) v125),(1,.arr 21 (.int .i32) ((([(46:Int)]:List Int)++i1)++([(46:Int)]:List Int)))] 2) (fun v125 h=> ?_) (fun v125 h=> ?_))
      ·refine aO h (fun hb182 h=> ?_) (fun hb182 h=> ?_)
       ·obtain⟨c589,c590,c591,c592,h⟩:=g4 h
        refine bO a0 [(4,4,oc c589),(5,5,oc c590),(8,8,oc c591),(9,9,oc c592)] ?_
        exact eN h (gg [] [0,1])
       refine aB ?_
       exact eN h (gg [] [0,1])
      refine aJ (aA (Ge ?_))
      exact eB h (gg [] [0,1])
     refine aH (aX ?_)
     exact eX h (gg [] [0,1])
    refine aI (aA (aC (G (aO h (fun hb183 h=> ?_) (fun hb183 h=> ?_)))))
    ·refine aH (aX (j8 rfl (aX ?_)))
     exact eX h (gg [] [0,1])
    refine aB (aA ?_)
    obtain⟨c597,c598,c599,c600,h⟩:=g4 h
    refine GD a0 [(1,1,oc c597),(5,5,oc c598),(10,10,oc c599),(11,11,oc c600)] (aC (G (aO h (fun hb184 h=> ?_) (fun hb184 h=> ?_))))
    ·refine aH (aX (j8 rfl (aX ?_)))
     exact eX h (gg [] [0,1])
    refine aB (aA (Ge (aJ (aA (Ge ?_)))))
    exact eB h (gg [] [0,1])
   refine aI (aJ (aA (Ge ?_)))
   exact eB h (gg [] [0,1])
  refine aH (aX ?_)
  exact eX h (gg [] [0])
 refine aI (aA (G (aL ?_)))
 obtain rfl:=sI h
 exact aD [(.slice (.int .u8))] (by kernel_rfl)
def f8(w1 w2 x1:List Int):Option (Bool) :=
 ((cV w1 x1).bind fun r2 =>
 some r2)
theorem nK(β0 β1 β2:Bool){w1:List Int}{w2:List Int}{x1:List Int}{res:Bool}(h:f8 w1 w2 x1=some res):
  Pure Tryz.prog 110 [.agg [.p β0 (.slice (.int .i32)) w1,.p β1 (.slice (.int .u8)) w2],.fad true [.p β2 (.slice (.int .i32)) x1] 0] (aU (bN false [⟨.bool,res⟩])):=by
 refine Pure.of_body bA Tryz.func110 (by kernel_rfl) rfl (nl rfl) (fun Bw w0=> ?_) rfl
 unfold f8 at h
 refine G ?_
 obtain⟨r2,q2,h⟩:=aG h
 refine GP 3 (fF β0 β2 q2) (aL ?_)
 obtain rfl:=sI h
 exact aD [.bool] (by kernel_rfl)
def lK(s1:List Z8)(f1:List Int):(Int)→Option ((Int)⊕((Unit)⊕(Int))):=fun v2 =>
 (if(decide (v2<(s1.length:Int)))=true then(if 0≤v2∧v2<(s1.length:Int)then((f8 ((s1.getD v2.toNat (([]:List Int),([]:List Int))).1) ((s1.getD v2.toNat (([]:List Int),([]:List Int))).2) f1).bind fun r7 =>
 (if r7=true then some (Sum.inr (Sum.inr v2))
 else some (Sum.inl (IntKind.i64.wrap (v2+(1:Int))))))else none)
 else some (Sum.inr (Sum.inl ())))
def kR(s1:List Z8)(f1:List Int):Option (Int) :=
 ((iter (lK s1 f1) (0:Int)).bind fun(r8:((Unit)⊕(Int)))=>match r8 with
 | .inl _=>some (-1:Int)
 | .inr (r5)=>some r5)
theorem tP(β0 β1:Bool){s1:List Z8}{f1:List Int}{res:Int}(h:kR s1 f1=some res):
  Pure Tryz.prog 109 [.p β0 (.slice wT) s1,.fn 110 [.fad true [.p β1 (.slice (.int .i32)) f1] 0]] (aU (bN false [⟨(.int .i64),res⟩])):=by
 refine Pure.of_body bA Tryz.func109 (by kernel_rfl) rfl (nl rfl) (fun Bw w0=> ?_) rfl
 unfold kR at h
 refine G (aC (G (aF (kT h (fun v2=>aM [(0,.p β0 (.slice wT) s1),(1,.fn 110 [.fad true [.p β1 (.slice (.int .i32)) f1] 0]),(7,.i64 (s1.length:Int)),(8,.i64 v2)] [] 0) (dH (eJ Tryz.f109.ntmps 0 (fun _=>aM [] [] 0)) (gM tb Tryz.f109.results.toList (fun r5=>[⟨(.int .i64),r5⟩]))) (gg [] []) (fun v2 o h=> ?_) (fun r8 h e σ' hq=> ?_)))))
 ·unfold lK at h
  refine G (aC (aO h (fun hb5 h=> ?_) (fun hb5 h=> ?_)))
  ·refine aB (aA (aC (aF (G ?_))))
   obtain⟨c6,h⟩:=aQ h
   obtain⟨r7,q6,h⟩:=aG h
   have u_1:=(nK β0 β0 β1 q6)
   refine GN ⟨[],[(5,(oP u_1))]⟩ [(3,3,oc c6),(5,5,oc u_1)] (aO h (fun hb6 h=> ?_) (fun hb6 h=> ?_))
   ·refine G (aL ?_)
    obtain rfl:=sI h
    refine aK (aE (bW (aS ?_)))
    exact b0 (aD [(.int .i64)] (by kernel_rfl))
   refine aB (aJ (aA (Ge ?_)))
   exact eB h (gg [] [])
  refine aH (aX ?_)
  obtain rfl:=sI h
  refine dL (bL ?_)
  exact bZ (gg [] [])
 rcases r8 with _ | r5
 ·obtain⟨rfl,hle⟩:=hq
  refine cR ?_ hle
  refine aI (aA (G (aL ?_)))
  obtain rfl:=sI h
  exact aD [(.int .i64)] (by kernel_rfl)
 obtain⟨rfl,hr⟩:=hq
 refine aK (aE ?_)
 obtain rfl:=sI h
 exact hr
def jA(h1:Option Z3)(word1 values1:List Int):((List Bool)×Int)→Option (((List Bool)×Int)⊕(List Bool)):=fun(out2,i2) =>
 (if h1.isSome=true then(if(decide (i2≤(IntKind.i64.wrap ((word1.length:Int) - ((h1.getD (Ty.zero mC)).2.2.2.2)))))=true then(if 0≤i2∧i2<(values1.length:Int)then(if ¬(2:Int)=0 then(if 0≤i2∧i2<(out2.length:Int)then(if i2.toNat<out2.length then some (Sum.inl ((out2.set i2.toNat ((Int.tmod (values1.getD i2.toNat (0:Int)) (2:Int)) == (1:Int))),(IntKind.i64.wrap (i2+(1:Int)))))else none)else none)else none)else none)
 else some (Sum.inr out2))else none)
def fD(h1:Option Z3)(word1:List Int):Option (List Bool) :=
 (if 0≤(IntKind.i64.wrap ((word1.length:Int)+(1:Int)))∧(IntKind.i64.wrap ((word1.length:Int)+(1:Int)))≤(IntKind.i64.wrap ((word1.length:Int)+(1:Int)))∧(1:Int)*(IntKind.i64.wrap ((word1.length:Int)+(1:Int)))≤281474976710656∧(IntKind.i64.wrap ((word1.length:Int)+(1:Int)))≤9223372036854775807 then(if h1.isNone=true then some (List.replicate (IntKind.i64.wrap ((word1.length:Int)+(1:Int))).toNat false)
 else(if h1.isSome=true then((iG ((h1.getD (Ty.zero mC)).2.1) word1).bind fun r2 =>
 (if h1.isSome=true then((kR ((h1.getD (Ty.zero mC)).2.2.1) word1).bind fun r4 =>
 (((if(decide (r4≥(0:Int)))=true then(if h1.isSome=true then(if 0≤r4∧r4<(((h1.getD (Ty.zero mC)).2.2.1).length:Int)then some ((((h1.getD (Ty.zero mC)).2.2.1).getD r4.toNat (([]:List Int),([]:List Int))).2)else none)else none)
 else some (r2))).bind fun values1=>(if h1.isSome=true then((iter (jA h1 word1 values1) ((List.replicate (IntKind.i64.wrap ((word1.length:Int)+(1:Int))).toNat false),(h1.getD (Ty.zero mC)).2.2.2.1)).bind fun out3=>some out3)else none)))else none))else none))else none)
theorem oQ(β1:Bool){h1:Option Z3}{word1:List Int}{res:List Bool}(h:fD h1 word1=some res):
  Pure Tryz.prog 72 [.p false (.ptr mC) h1,.p β1 (.slice (.int .i32)) word1] (aU (bN false [⟨(.slice .bool),res⟩])):=by
 refine Pure.of_body bA Tryz.func72 (by kernel_rfl) rfl (nl rfl) (fun Bw w0=> ?_) rfl
 unfold fD at h
 refine G (GC 3 h (fun h=>aC (GN a0 [(1,1,⟨∃e,Tryz.prog.underlying 100=some (.pointer e),⟨_,rfl⟩⟩)] (aO h (fun hb1 h=> ?_) (fun hb1 h=> ?_)))))
 ·refine G (aL (aE ?_))
  obtain rfl:=sI h
  exact aD [(.slice .bool)] (by kernel_rfl)
 refine aB (aA ?_)
 obtain⟨c4,h⟩:=aQ h
 obtain⟨r2,q2,h⟩:=aG h
 have u_1:=(qW false β1 q2)
 refine GD ⟨[],[(5,(oP u_1))]⟩ [(1,1,oc c4),(5,5,oc u_1)] (aC ?_)
 obtain⟨c6,h⟩:=aQ h
 obtain⟨r4,q4,h⟩:=aG h
 have u_1:=(tP false β1 q4)
 refine GN ⟨[],[(5,(oP u_1))]⟩ [(1,1,oc c6),(5,5,oc u_1)] (G (bT h (fun values1=>aM [(0,.p false (.ptr mC) h1),(3,.adr 0 0 1 0),(5,.sl 1),(6,.p false (.slice (.int .u8)) values1)] (aFc β1 word1 (List.replicate (IntKind.i64.wrap ((word1.length:Int)+(1:Int))).toNat false)) 2) (fun values1 h=> ?_) (fun values1 h=> ?_)))
 ·refine aO h (fun hb3 h=> ?_) (fun hb3 h=> ?_)
  ·obtain⟨c13,c14,h⟩:=g2 h
   refine bO a0 [(1,1,oc c13),(5,5,oc c14)] ?_
   exact eN h (gg [] [0,40])
  refine aB ?_
  exact eN h (gg [] [0,40])
 refine aA (aC (GC 1 h (fun h=>aF (dC h (fun(out2,i2)=>aM [(0,.p false (.ptr mC) h1),(3,.adr 0 0 1 0),(5,.sl 1),(6,.p false (.slice (.int .u8)) values1),(8,.i64 i2)] (aFc β1 word1 out2) 2) 0 (fun out3=>aM [(5,.sl 0)] [(0,.arr 4 .bool out3)] 1) (gg [] [0,1]) (fun y o h=> ?_) (fun out3 h=> ?_)))))
 ·obtain⟨out2,i2⟩:=y
  unfold jA at h
  refine aC ?_
  obtain⟨c38,h⟩:=aQ h
  refine GD a0 [(4,4,oc c38)] (aO h (fun hb6 h=> ?_) (fun hb6 h=> ?_))
  ·refine aB (aA (aC (aF ?_)))
   obtain⟨c43,c44,c45,c46,h⟩:=g4 h
   refine bO a0 [(4,4,oc c43),(6,6,oc c44),(8,8,oc c45),(9,9,oc c46)] (aJ (aA (Ge ?_)))
   exact eB h (gg [] [0,1])
  refine aH (aX ?_)
  exact eX h (gg [] [1])
 refine aI (aA (G (aL ?_)))
 obtain rfl:=sI h
 exact aD [(.slice .bool)] (by kernel_rfl)
def dD(h1:Option Z3)(l1:List Z7):(Int×List Int)→Option ((Int×List Int)⊕(Int×List Int)):=fun(i10,word8) =>
 (if(decide (i10<(l1.length:Int)))=true then(if 0≤i10∧i10<(l1.length:Int)then((dZ h1 ((l1.getD i10.toNat ((0:Int),((0:Int),(0:Int)))).1)).bind fun(r41,r42) =>
 (if(!r42)=true then some (Sum.inr (i10,word8))
 else(if(word8.length+([r41]:List Int).length)*4≤140737488355328∧word8.length+([r41]:List Int).length≤9223372036854775807 then some (Sum.inl ((IntKind.i64.wrap (i10+(1:Int))),(word8++([r41]:List Int))))else none)))else none)
 else some (Sum.inr (i10,word8)))
def cM(h1:Option Z3)(l1:List Z7):((List Bool)×Int)→Option (((List Bool)×Int)⊕(List Bool)):=fun(out2,i8) =>
 (if(decide (i8<(l1.length:Int)))=true then((iter (dD h1 l1) (i8,([]:List Int))).bind fun(i11,word9)=>(if 0≤i8∧i8≤(out2.length:Int)then((fD h1 word9).bind fun r45 =>
 (if 0≤(0:Int)∧(0:Int)≤(word9.length:Int)∧(word9.length:Int)≤(r45.length:Int)then some (Sum.inl ((out2.take i8.toNat++(((r45.take (word9.length:Int).toNat).drop (0:Int).toNat).take (out2.length - i8.toNat)++out2.drop (i8.toNat+((r45.take (word9.length:Int).toNat).drop (0:Int).toNat).length))),(IntKind.i64.wrap (i11+(1:Int)))))else none))else none))
 else some (Sum.inr out2))
def dB(h1:Option Z3)(l1:List Z7):Option (List Bool) :=
 (if 0≤(IntKind.i64.wrap ((l1.length:Int)+(1:Int)))∧(IntKind.i64.wrap ((l1.length:Int)+(1:Int)))≤(IntKind.i64.wrap ((l1.length:Int)+(1:Int)))∧(1:Int)*(IntKind.i64.wrap ((l1.length:Int)+(1:Int)))≤281474976710656∧(IntKind.i64.wrap ((l1.length:Int)+(1:Int)))≤9223372036854775807 then((iter (cM h1 l1) ((List.replicate (IntKind.i64.wrap ((l1.length:Int)+(1:Int))).toNat false),(0:Int))).bind fun out3=>some out3)else none)
theorem nN(β1:Bool){h1:Option Z3}{l1:List Z7}{res:List Bool}(h:dB h1 l1=some res):
  Pure Tryz.prog 40 [.p false (.ptr mC) h1,.p β1 (.slice (.prod (.int .i32) Y2)) l1] (aU (bN false [⟨(.slice .bool),res⟩])):=by
 refine Pure.of_body bA Tryz.func40 (by kernel_rfl) rfl (nl rfl) (fun Bw w0=> ?_) rfl
 unfold dB at h
 refine G (GC 3 h (fun h=>G (aC (G (aF (dC h (fun(out2,i8)=>aM [(0,.p false (.ptr mC) h1),(1,.p β1 (.slice (.prod (.int .i32) Y2)) l1),(5,.sl 0),(6,.bfn 71 [.p false (.ptr mC) h1]),(7,.i64 i8)] [(0,.arr 4 .bool out2)] 1) 0 (fun out3=>aM [(5,.sl 0)] [(0,.arr 4 .bool out3)] 1) (gg [] [32]) (fun y o h=> ?_) (fun out3 h=> ?_)))))))
 ·obtain⟨out2,i8⟩:=y
  unfold cM at h
  refine aC (G (aO h (fun hb15 h=> ?_) (fun hb15 h=> ?_)))
  ·refine aB (aA (aC (aF (G (G (aC (aF (dC h (fun(i10,word8)=>aM [(0,.p false (.ptr mC) h1),(1,.p β1 (.slice (.prod (.int .i32) Y2)) l1),(5,.sl 0),(6,.bfn 71 [.p false (.ptr mC) h1]),(7,.i64 i10),(8,.sl 1),(9,.i64 i8)] [(0,.arr 4 .bool out2),(1,.arr 21 (.int .i32) word8)] 2) 2 (fun(i11,word9)=>aM [(0,.p false (.ptr mC) h1),(1,.p β1 (.slice (.prod (.int .i32) Y2)) l1),(5,.sl 0),(6,.bfn 71 [.p false (.ptr mC) h1]),(7,.i64 i11),(8,.sl 1),(9,.i64 i8)] [(0,.arr 4 .bool out2),(1,.arr 21 (.int .i32) word9)] 2) (gg [.nilS 8 57 21 (.int .i32)] [0,57]) (fun y o h=> ?_) (fun r43 h=> ?_)))))))))
   ·obtain⟨i10,word8⟩:=y
    unfold dD at h
    refine aC (G (aO h (fun hb20 h=> ?_) (fun hb20 h=> ?_)))
    ·refine aB (aA (aC (aF ?_)))
     obtain⟨c44,h⟩:=aQ h
     obtain⟨⟨r41,r42⟩,q22,h⟩:=aG h
     have u_1:=(mT false q22)
     refine GN ⟨[],[(6,(oP u_1))]⟩ [(3,3,oc c44),(6,6,oc u_1)] (aC (G (aO h (fun hb21 h=> ?_) (fun hb21 h=> ?_))))
     ·refine aH (aX (j8 rfl (aX ?_)))
      exact eX h (gg [] [0,1])
     refine aB (aA (K5 3 h (fun h=>aJ (aA (Ge ?_)))))
     exact eB h (gg [] [0,170])
    refine aH (aX ?_)
    exact eX h (gg [] [0,1])
   obtain⟨i11,word9⟩:=r43
   refine aI (aA ?_)
   obtain⟨c49,h⟩:=aQ h
   obtain⟨r45,q24,h⟩:=aG h
   obtain⟨c50,h⟩:=aQ h
   have u_1:=(oQ true q24)
   refine qY ⟨[],[(5,(oP u_1))]⟩ [(2,2,oc c49),(5,5,oc u_1),(8,8,oc c50)] (aJ (aA (Ge ?_)))
   exact eB h (gg [] [0])
  refine aH (aX ?_)
  exact eX h (gg [] [0])
 refine aI (aA (G (aL ?_)))
 obtain rfl:=sI h
 exact aD [(.slice .bool)] (by kernel_rfl)
def mU(r1:Int):Option (Int) :=
 (if(r1 == (32:Int))=true then some (1:Int)
 else(if(r1 == (9:Int))=true then some (2:Int)
 else some (0:Int)))
theorem A0{r1:Int}{res:Int}(h:mU r1=some res):
  Pure Tryz.prog 105 [.i32 r1] (aU (bN false [⟨(.int .u8),res⟩])):=by
 refine Pure.of_body bA Tryz.func105 (by kernel_rfl) rfl (nl rfl) (fun Bw w0=> ?_) rfl
 unfold mU at h
 refine G (aC (G (aF (G (aO h (fun hb1 h=> ?_) (fun hb1 h=> ?_))))))
 ·refine G (aL (aK (aE ?_)))
  obtain rfl:=sI h
  exact aD [(.int .u8)] (by kernel_rfl)
 refine G (aO h (fun hb2 h=> ?_) (fun hb2 h=> ?_))
 ·refine G (aL (aK (aE ?_)))
  obtain rfl:=sI h
  exact aD [(.int .u8)] (by kernel_rfl)
 refine aB (aJ (aA (G (aL ?_))))
 obtain rfl:=sI h
 exact aD [(.int .u8)] (by kernel_rfl)
def e9(d1:List Z7)(i1:List Int)(x1:Option K4):((List Z2)×(List Int)×Int)→Option (((List Z2)×(List Int)×Int)⊕((List Z2)×List Int)):=fun(v12,v13,v14) =>
 (if(decide (v14<(d1.length:Int)))=true then(if 0≤v14∧v14<(d1.length:Int)then(((if(v14 == (0:Int))=true then some (true)
 else(if(decide (v14<(i1.length:Int)))=true then(if 0≤v14∧v14<(i1.length:Int)then some (((i1.getD v14.toNat (0:Int)) != (0:Int)))else none)
 else some (false)))).bind fun v17=>(((if v17=true then((mU ((d1.getD v14.toNat ((0:Int),((0:Int),(0:Int)))).1)).bind fun r18 =>
 (if(v12.length+([((d1.getD v14.toNat ((0:Int),((0:Int),(0:Int)))).2.1,((0:Int),((0:Int),r18)))]:List Z2).length)*32≤140737488355328∧v12.length+([((d1.getD v14.toNat ((0:Int),((0:Int),(0:Int)))).2.1,((0:Int),((0:Int),r18)))]:List Z2).length≤9223372036854775807 then(if(v13.length+([v14]:List Int).length)*8≤140737488355328∧v13.length+([v14]:List Int).length≤9223372036854775807 then some (((v12++([((d1.getD v14.toNat ((0:Int),((0:Int),(0:Int)))).2.1,((0:Int),((0:Int),r18)))]:List Z2)),(v13++([v14]:List Int))))else none)else none))
 else some ((v12,v13)))).bind fun(v18,v19)=>(if 0≤(IntKind.i64.wrap ((v18.length:Int) - (1:Int)))∧(IntKind.i64.wrap ((v18.length:Int) - (1:Int)))<(v18.length:Int)then(if 0≤(IntKind.i64.wrap ((v19.length:Int) - (1:Int)))∧(IntKind.i64.wrap ((v19.length:Int) - (1:Int)))<(v19.length:Int)then(if(IntKind.i64.wrap ((v19.length:Int) - (1:Int))).toNat<v19.length then(((if((v19.getD ((IntKind.i64.wrap ((v19.length:Int) - (1:Int))).toNat) (0:Int)) != v14)=true then(if(IntKind.i64.wrap ((v18.length:Int) - (1:Int))).toNat<v18.length then some ((v18.set ((IntKind.i64.wrap ((v18.length:Int) - (1:Int))).toNat) ((v18.getD ((IntKind.i64.wrap ((v18.length:Int) - (1:Int))).toNat) ((0:Int),((0:Int),((0:Int),(0:Int))))).1,((v18.getD ((IntKind.i64.wrap ((v18.length:Int) - (1:Int))).toNat) ((0:Int),((0:Int),((0:Int),(0:Int))))).2.1,((v18.getD ((IntKind.i64.wrap ((v18.length:Int) - (1:Int))).toNat) ((0:Int),((0:Int),((0:Int),(0:Int))))).2.2.1,(0:Int))))))else none)
 else some (v18))).bind fun v20=>(if(IntKind.i64.wrap ((v18.length:Int) - (1:Int))).toNat<v20.length then(if(IntKind.i64.wrap ((v18.length:Int) - (1:Int))).toNat<v20.length then(if(IntKind.i64.wrap ((v18.length:Int) - (1:Int))).toNat<(v20.set ((IntKind.i64.wrap ((v18.length:Int) - (1:Int))).toNat) ((v20.getD ((IntKind.i64.wrap ((v18.length:Int) - (1:Int))).toNat) ((0:Int),((0:Int),((0:Int),(0:Int))))).1,((IntKind.i64.wrap (((v20.getD ((IntKind.i64.wrap ((v18.length:Int) - (1:Int))).toNat) ((0:Int),((0:Int),((0:Int),(0:Int))))).2.1)+((d1.getD v14.toNat ((0:Int),((0:Int),(0:Int)))).2.2))),((v20.getD ((IntKind.i64.wrap ((v18.length:Int) - (1:Int))).toNat) ((0:Int),((0:Int),((0:Int),(0:Int))))).2.2.1,(v20.getD ((IntKind.i64.wrap ((v18.length:Int) - (1:Int))).toNat) ((0:Int),((0:Int),((0:Int),(0:Int))))).2.2.2)))).length then((aV x1 ((d1.getD v14.toNat ((0:Int),((0:Int),(0:Int)))).1)).bind fun r21 =>
 (if(IntKind.i64.wrap ((v18.length:Int) - (1:Int))).toNat<(v20.set ((IntKind.i64.wrap ((v18.length:Int) - (1:Int))).toNat) ((v20.getD ((IntKind.i64.wrap ((v18.length:Int) - (1:Int))).toNat) ((0:Int),((0:Int),((0:Int),(0:Int))))).1,((IntKind.i64.wrap (((v20.getD ((IntKind.i64.wrap ((v18.length:Int) - (1:Int))).toNat) ((0:Int),((0:Int),((0:Int),(0:Int))))).2.1)+((d1.getD v14.toNat ((0:Int),((0:Int),(0:Int)))).2.2))),((v20.getD ((IntKind.i64.wrap ((v18.length:Int) - (1:Int))).toNat) ((0:Int),((0:Int),((0:Int),(0:Int))))).2.2.1,(v20.getD ((IntKind.i64.wrap ((v18.length:Int) - (1:Int))).toNat) ((0:Int),((0:Int),((0:Int),(0:Int))))).2.2.2)))).length then some (Sum.inl (((v20.set ((IntKind.i64.wrap ((v18.length:Int) - (1:Int))).toNat) ((v20.getD ((IntKind.i64.wrap ((v18.length:Int) - (1:Int))).toNat) ((0:Int),((0:Int),((0:Int),(0:Int))))).1,((IntKind.i64.wrap (((v20.getD ((IntKind.i64.wrap ((v18.length:Int) - (1:Int))).toNat) ((0:Int),((0:Int),((0:Int),(0:Int))))).2.1)+((d1.getD v14.toNat ((0:Int),((0:Int),(0:Int)))).2.2))),((v20.getD ((IntKind.i64.wrap ((v18.length:Int) - (1:Int))).toNat) ((0:Int),((0:Int),((0:Int),(0:Int))))).2.2.1,(v20.getD ((IntKind.i64.wrap ((v18.length:Int) - (1:Int))).toNat) ((0:Int),((0:Int),((0:Int),(0:Int))))).2.2.2)))).set ((IntKind.i64.wrap ((v18.length:Int) - (1:Int))).toNat) (((v20.set ((IntKind.i64.wrap ((v18.length:Int) - (1:Int))).toNat) ((v20.getD ((IntKind.i64.wrap ((v18.length:Int) - (1:Int))).toNat) ((0:Int),((0:Int),((0:Int),(0:Int))))).1,((IntKind.i64.wrap (((v20.getD ((IntKind.i64.wrap ((v18.length:Int) - (1:Int))).toNat) ((0:Int),((0:Int),((0:Int),(0:Int))))).2.1)+((d1.getD v14.toNat ((0:Int),((0:Int),(0:Int)))).2.2))),((v20.getD ((IntKind.i64.wrap ((v18.length:Int) - (1:Int))).toNat) ((0:Int),((0:Int),((0:Int),(0:Int))))).2.2.1,(v20.getD ((IntKind.i64.wrap ((v18.length:Int) - (1:Int))).toNat) ((0:Int),((0:Int),((0:Int),(0:Int))))).2.2.2)))).getD ((IntKind.i64.wrap ((v18.length:Int) - (1:Int))).toNat) ((0:Int),((0:Int),((0:Int),(0:Int))))).1,(((v20.set ((IntKind.i64.wrap ((v18.length:Int) - (1:Int))).toNat) ((v20.getD ((IntKind.i64.wrap ((v18.length:Int) - (1:Int))).toNat) ((0:Int),((0:Int),((0:Int),(0:Int))))).1,((IntKind.i64.wrap (((v20.getD ((IntKind.i64.wrap ((v18.length:Int) - (1:Int))).toNat) ((0:Int),((0:Int),((0:Int),(0:Int))))).2.1)+((d1.getD v14.toNat ((0:Int),((0:Int),(0:Int)))).2.2))),((v20.getD ((IntKind.i64.wrap ((v18.length:Int) - (1:Int))).toNat) ((0:Int),((0:Int),((0:Int),(0:Int))))).2.2.1,(v20.getD ((IntKind.i64.wrap ((v18.length:Int) - (1:Int))).toNat) ((0:Int),((0:Int),((0:Int),(0:Int))))).2.2.2)))).getD ((IntKind.i64.wrap ((v18.length:Int) - (1:Int))).toNat) ((0:Int),((0:Int),((0:Int),(0:Int))))).2.1,((max (((v20.set ((IntKind.i64.wrap ((v18.length:Int) - (1:Int))).toNat) ((v20.getD ((IntKind.i64.wrap ((v18.length:Int) - (1:Int))).toNat) ((0:Int),((0:Int),((0:Int),(0:Int))))).1,((IntKind.i64.wrap (((v20.getD ((IntKind.i64.wrap ((v18.length:Int) - (1:Int))).toNat) ((0:Int),((0:Int),((0:Int),(0:Int))))).2.1)+((d1.getD v14.toNat ((0:Int),((0:Int),(0:Int)))).2.2))),((v20.getD ((IntKind.i64.wrap ((v18.length:Int) - (1:Int))).toNat) ((0:Int),((0:Int),((0:Int),(0:Int))))).2.2.1,(v20.getD ((IntKind.i64.wrap ((v18.length:Int) - (1:Int))).toNat) ((0:Int),((0:Int),((0:Int),(0:Int))))).2.2.2)))).getD ((IntKind.i64.wrap ((v18.length:Int) - (1:Int))).toNat) ((0:Int),((0:Int),((0:Int),(0:Int))))).2.2.1) (min r21 (2:Int))),((v20.set ((IntKind.i64.wrap ((v18.length:Int) - (1:Int))).toNat) ((v20.getD ((IntKind.i64.wrap ((v18.length:Int) - (1:Int))).toNat) ((0:Int),((0:Int),((0:Int),(0:Int))))).1,((IntKind.i64.wrap (((v20.getD ((IntKind.i64.wrap ((v18.length:Int) - (1:Int))).toNat) ((0:Int),((0:Int),((0:Int),(0:Int))))).2.1)+((d1.getD v14.toNat ((0:Int),((0:Int),(0:Int)))).2.2))),((v20.getD ((IntKind.i64.wrap ((v18.length:Int) - (1:Int))).toNat) ((0:Int),((0:Int),((0:Int),(0:Int))))).2.2.1,(v20.getD ((IntKind.i64.wrap ((v18.length:Int) - (1:Int))).toNat) ((0:Int),((0:Int),((0:Int),(0:Int))))).2.2.2)))).getD ((IntKind.i64.wrap ((v18.length:Int) - (1:Int))).toNat) ((0:Int),((0:Int),((0:Int),(0:Int))))).2.2.2)))),v19,(IntKind.i64.wrap (v14+(1:Int)))))else none))else none)else none)else none))else none)else none)else none)))else none)
 else some (Sum.inr (v12,v13)))
def iL(d1:List Z7)(i1:List Int)(x1:Option K4):Option ((List Z2)×List Int) :=
 ((iter (e9 d1 i1 x1) (([]:List Z2),([]:List Int),(0:Int))).bind fun(v15,v16)=>(if(v16.length+([(d1.length:Int)]:List Int).length)*8≤140737488355328∧v16.length+([(d1.length:Int)]:List Int).length≤9223372036854775807 then some (v15,(v16++([(d1.length:Int)]:List Int)))else none))
theorem B2(β0 β1 β2:Bool){d1:List Z7}{i1:List Int}{x1:Option K4}{res:(List Z2)×List Int}(h:iL d1 i1 x1=some res):
  Pure Tryz.prog 66 [.p β0 (.slice (.prod (.int .i32) Y2)) d1,.p β1 (.slice (.int .u8)) i1,.p β2 (.ptr wS) x1] (aU (bN false [⟨(.slice gA),res.1⟩,⟨(.slice (.int .i64)),res.2⟩])):=by
 refine Pure.of_body bA Tryz.func66 (by kernel_rfl) rfl (nl rfl) (fun Bw w0=> ?_) rfl
 unfold iL at h
 refine G (G (G (aC (G (aF (dC h (fun(v12,v13,v14)=>aM [(0,.p β0 (.slice (.prod (.int .i32) Y2)) d1),(1,.p β1 (.slice (.int .u8)) i1),(2,.p β2 (.ptr wS) x1),(8,.sl 0),(9,.sl 1),(13,.p β0 (.slice (.prod (.int .i32) Y2)) d1),(14,.i64 (d1.length:Int)),(15,.i64 v14)] [(0,.arr 90 gA v12),(1,.arr 3 (.int .i64) v13)] 2) 0 (fun(v15,v16)=>aM [(0,.p β0 (.slice (.prod (.int .i32) Y2)) d1),(8,.sl 0),(9,.sl 1)] [(0,.arr 90 gA v15),(1,.arr 3 (.int .i64) v16)] 2) (gg [.nilS 8 56 90 gA,.nilS 9 57 3 (.int .i64)] [56,57]) (fun y o h=> ?_) (fun r22 h=> ?_)))))))
 ·obtain⟨v12,v13,v14⟩:=y
  unfold e9 at h
  refine G (aC (aO h (fun hb23 h=> ?_) (fun hb23 h=> ?_)))
  ·refine aB (aA (aC (aF (GC 1 h (fun h=>aC (aC (bT h (fun v17=>aM [(0,.p β0 (.slice (.prod (.int .i32) Y2)) d1),(1,.p β1 (.slice (.int .u8)) i1),(2,.p β2 (.ptr wS) x1),(8,.sl 0),(9,.sl 1),(10,.i64 v14),(11,.adr 2 0 3 0),(13,.p β0 (.slice (.prod (.int .i32) Y2)) d1),(14,.i64 (d1.length:Int)),(15,.i64 v14),(34,.bo v17)] (aDQ v12 v13 ((d1.getD v14.toNat ((0:Int),((0:Int),(0:Int)))).1) ((d1.getD v14.toNat ((0:Int),((0:Int),(0:Int)))).2.1) ((d1.getD v14.toNat ((0:Int),((0:Int),(0:Int)))).2.2)) 3) (fun v17 h=> ?_) (fun v17 h=> ?_))))))))
   ·rcases aR h with⟨hb28,h⟩ | ⟨hb28,h⟩
    ·refine bO ⟨[(2,true),(14,true)],[]⟩ [(3,7,oc hb28),(13,14,oc hb28)] ?_
     exact eN h (gg [] [0,1,34])
    rcases aR h with⟨hb29,h⟩ | ⟨hb29,h⟩
    ·obtain⟨c67,h⟩:=aQ h
     refine bO ⟨[(2,false),(7,true),(13,true),(14,false)],[]⟩ [(3,7,an hb28),(8,9,an hb29),(10,10,oc (And.intro hb29 c67)),(11,12,an hb29),(13,13,oc (And.intro hb28 hb29)),(14,14,oc hb28)] ?_
     exact eN h (gg [] [0,1,34])
    refine bO ⟨[(2,false),(7,false),(13,false),(14,false)],[]⟩ [(3,7,an hb28),(8,12,oc hb29),(13,13,oc (And.intro hb28 hb29)),(14,14,oc hb28)] ?_
    exact eN h (gg [] [0,1,34])
   refine aA (bT h (fun(v18,v19)=>aM [(0,.p β0 (.slice (.prod (.int .i32) Y2)) d1),(1,.p β1 (.slice (.int .u8)) i1),(2,.p β2 (.ptr wS) x1),(8,.sl 0),(9,.sl 1),(10,.i64 v14),(11,.adr 2 0 3 0),(13,.p β0 (.slice (.prod (.int .i32) Y2)) d1),(14,.i64 (d1.length:Int)),(15,.i64 v14)] (aDQ v18 v19 ((d1.getD v14.toNat ((0:Int),((0:Int),(0:Int)))).1) ((d1.getD v14.toNat ((0:Int),((0:Int),(0:Int)))).2.1) ((d1.getD v14.toNat ((0:Int),((0:Int),(0:Int)))).2.2)) 3) (fun r19 h=> ?_) (fun r19 h=> ?_))
   ·refine aO h (fun hb31 h=> ?_) (fun hb31 h=> ?_)
    ·obtain⟨r18,q16,h⟩:=aG h
     obtain⟨c73,h⟩:=aQ h
     have u_1:=(A0 q16)
     refine GD ⟨[],[(5,(oP u_1))]⟩ [(5,5,oc u_1),(8,8,oc c73)] (K5 3 h (fun h=> ?_))
     exact eN h (gg [] [67,107,2])
    refine aB ?_
    exact eN h (gg [] [0,1,2])
   obtain⟨v18,v19⟩:=r19
   refine aA (GC 4 h (fun h=>aC ?_))
   obtain⟨c80,c81,h⟩:=g2 h
   refine GN a0 [(4,4,oc c80),(5,5,oc c81)] (bT h (fun v20=>aM [(0,.p β0 (.slice (.prod (.int .i32) Y2)) d1),(1,.p β1 (.slice (.int .u8)) i1),(2,.p β2 (.ptr wS) x1),(8,.sl 0),(9,.sl 1),(11,.adr 2 0 3 0),(12,.adr 0 ((IntKind.i64.wrap ((v18.length:Int) - (1:Int))).toNat) 4 0),(13,.p β0 (.slice (.prod (.int .i32) Y2)) d1),(14,.i64 (d1.length:Int)),(15,.i64 v14)] (aDQ v20 v19 ((d1.getD v14.toNat ((0:Int),((0:Int),(0:Int)))).1) ((d1.getD v14.toNat ((0:Int),((0:Int),(0:Int)))).2.1) ((d1.getD v14.toNat ((0:Int),((0:Int),(0:Int)))).2.2)) 3) (fun v20 h=> ?_) (fun v20 h=> ?_))
   ·refine aO h (fun hb33 h=> ?_) (fun hb33 h=> ?_)
    ·refine K5 3 h (fun h=> ?_)
     exact eN h (gg [] [0,1,2])
    refine aB ?_
    exact eN h (gg [] [0,1,2])
   refine aA ?_
   obtain⟨c88,c89,h⟩:=g2 h
   refine GD a0 [(3,3,oc c88),(9,9,oc c89)] ?_
   obtain⟨c92,h⟩:=aQ h
   obtain⟨r21,q18,h⟩:=aG h
   obtain⟨c93,h⟩:=aQ h
   have u_1:=(mH β2 q18)
   refine qY ⟨[],[(8,(oP u_1))]⟩ [(4,4,oc c92),(8,8,oc u_1),(13,13,oc c93)] (aJ (aA (Ge ?_)))
   exact eB h (gg [] [0,1])
  refine aH (aX ?_)
  exact eX h (gg [] [0,1])
 obtain⟨v15,v16⟩:=r22
 refine aI (aA (GC 5 h (fun h=>aL ?_)))
 obtain rfl:=sI h
 exact aD [(.slice gA),(.slice (.int .i64))] (by kernel_rfl)
def dW(d1:List Z7)(x1:List Int)(x2:List Bool)(r4:List Int):zR→Option (zR⊕(List Int)):=fun(v13,v14) =>
 (if(decide (v14<(r4.length:Int)))=true then(if 0≤v14∧v14<(r4.length:Int)then(((if((r4.getD v14.toNat (0:Int)) == (d1.length:Int))=true then(if(v13.length+([(2:Int)]:List Int).length)*1≤140737488355328∧v13.length+([(2:Int)]:List Int).length≤9223372036854775807 then some ((v13++([(2:Int)]:List Int)))else none)
 else(((if((r4.getD v14.toNat (0:Int)) == (0:Int))=true then some (true)
 else some ((decide ((r4.getD v14.toNat (0:Int))≥(x1.length:Int)))))).bind fun v19=>(if v19=true then(if(v13.length+([(0:Int)]:List Int).length)*1≤140737488355328∧v13.length+([(0:Int)]:List Int).length≤9223372036854775807 then some ((v13++([(0:Int)]:List Int)))else none)
 else(((if 0≤(r4.getD v14.toNat (0:Int))∧(r4.getD v14.toNat (0:Int))<(x1.length:Int)then(if((x1.getD ((r4.getD v14.toNat (0:Int)).toNat) (0:Int)) == (0:Int))=true then(if(decide ((r4.getD v14.toNat (0:Int))<(x2.length:Int)))=true then(if 0≤(r4.getD v14.toNat (0:Int))∧(r4.getD v14.toNat (0:Int))<(x2.length:Int)then some ((x2.getD ((r4.getD v14.toNat (0:Int)).toNat) false))else none)
 else some (false))
 else some (false))else none)).bind fun v20=>(if v20=true then(if(v13.length+([(3:Int)]:List Int).length)*1≤140737488355328∧v13.length+([(3:Int)]:List Int).length≤9223372036854775807 then some ((v13++([(3:Int)]:List Int)))else none)
 else(if 0≤(r4.getD v14.toNat (0:Int))∧(r4.getD v14.toNat (0:Int))<(x1.length:Int)then(if(v13.length+([(x1.getD ((r4.getD v14.toNat (0:Int)).toNat) (0:Int))]:List Int).length)*1≤140737488355328∧v13.length+([(x1.getD ((r4.getD v14.toNat (0:Int)).toNat) (0:Int))]:List Int).length≤9223372036854775807 then some ((v13++([(x1.getD ((r4.getD v14.toNat (0:Int)).toNat) (0:Int))]:List Int)))else none)else none))))))).bind fun v18=>some (Sum.inl (v18,(IntKind.i64.wrap (v14+(1:Int))))))else none)
 else some (Sum.inr v13))
def fL(d1:List Z7)(i1 x1:List Int)(x2:List Bool)(x3:Option K4):Option ((List Z2)×List Int) :=
 ((iL d1 i1 x3).bind fun(r3,r4) =>
 ((iter (dW d1 x1 x2 r4) (([]:List Int),(0:Int))).bind fun v15=>some (r3,v15)))
theorem B3(β0 β1 β2 β3 β4:Bool){d1:List Z7}{i1:List Int}{x1:List Int}{x2:List Bool}{x3:Option K4}{res:(List Z2)×List Int}(h:fL d1 i1 x1 x2 x3=some res):
  Pure Tryz.prog 37 [.p β0 (.slice (.prod (.int .i32) Y2)) d1,.p β1 (.slice (.int .u8)) i1,.p β2 (.slice (.int .u8)) x1,.p β3 (.slice .bool) x2,.p β4 (.ptr wS) x3] (aU (bN false [⟨Y30,res⟩])):=by
 refine Pure.of_body bA Tryz.func37 (by kernel_rfl) rfl (nl rfl) (fun Bw w0=> ?_) rfl
 unfold fL at h
 refine G ?_
 obtain⟨⟨r3,r4⟩,q2,h⟩:=aG h
 refine GP 3 (B2 β0 β1 β4 q2) (G (aC (G (aF (dC h (fun(v13,v14)=>aM [(0,.p β0 (.slice (.prod (.int .i32) Y2)) d1),(2,.p β2 (.slice (.int .u8)) x1),(3,.p β3 (.slice .bool) x2),(10,.adr 0 0 2 0),(13,.adr 1 0 2 0),(25,.p false (.slice (.int .i64)) r4),(26,.i64 (r4.length:Int)),(27,.i64 v14)] (aBC r3 v13) 3) 0 (fun v15=>aM [(10,.adr 0 0 2 0),(13,.adr 1 0 2 0)] (aBC r3 v15) 3) (gg [.nilC 96 1 136 91 (.int .u8)] [0,96,136]) (fun y o h=> ?_) (fun v15 h=> ?_))))))
 ·obtain⟨v13,v14⟩:=y
  unfold dW at h
  refine G (aC (aO h (fun hb51 h=> ?_) (fun hb51 h=> ?_)))
  ·refine aB (aA (aC (aF (GC 0 h (fun h=>aF (G (bT h (fun v18=>aM [(0,.p β0 (.slice (.prod (.int .i32) Y2)) d1),(2,.p β2 (.slice (.int .u8)) x1),(3,.p β3 (.slice .bool) x2),(10,.adr 0 0 2 0),(13,.adr 1 0 2 0),(25,.p false (.slice (.int .i64)) r4),(26,.i64 (r4.length:Int)),(27,.i64 v14)] (aBC r3 v18) 3) (fun v18 h=> ?_) (fun v18 h=> ?_))))))))
   ·refine aO h (fun hb64 h=> ?_) (fun hb64 h=> ?_)
    ·refine K5 3 h (fun h=> ?_)
     exact eN h (gg [] [0,1,99])
    refine aC (bT h (fun v19=>aM [(0,.p β0 (.slice (.prod (.int .i32) Y2)) d1),(2,.p β2 (.slice (.int .u8)) x1),(3,.p β3 (.slice .bool) x2),(10,.adr 0 0 2 0),(13,.adr 1 0 2 0),(15,.i64 (r4.getD v14.toNat (0:Int))),(25,.p false (.slice (.int .i64)) r4),(26,.i64 (r4.length:Int)),(27,.i64 v14),(50,.bo v19)] (aBC r3 v13) 3) (fun v19 h=> ?_) (fun v19 h=> ?_))
    ·rcases aR h with⟨hb67,h⟩ | ⟨hb67,h⟩
     ·refine bO ⟨[(2,true),(7,true)],[]⟩ [(3,7,oc hb67)] ?_
      exact eN h (gg [] [0,1,2])
     refine bO ⟨[(2,false),(7,false)],[]⟩ [(3,6,an hb67),(7,7,oc hb67)] ?_
     exact eN h (gg [] [0,1,2])
    refine aA (aO h (fun hb68 h=> ?_) (fun hb68 h=> ?_))
    ·refine K5 3 h (fun h=> ?_)
     exact eN h (gg [] [0,1,27])
    refine aC (bT h (fun v20=>aM [(0,.p β0 (.slice (.prod (.int .i32) Y2)) d1),(2,.p β2 (.slice (.int .u8)) x1),(3,.p β3 (.slice .bool) x2),(10,.adr 0 0 2 0),(13,.adr 1 0 2 0),(15,.i64 (r4.getD v14.toNat (0:Int))),(25,.p false (.slice (.int .i64)) r4),(26,.i64 (r4.length:Int)),(27,.i64 v14),(64,.bo v20)] (aBC r3 v13) 3) (fun v20 h=> ?_) (fun v20 h=> ?_))
    ·obtain⟨c95,h⟩:=aQ h
     rcases aR h with⟨hb73,h⟩ | ⟨hb73,h⟩
     ·rcases aR h with⟨hb74,h⟩ | ⟨hb74,h⟩
      ·obtain⟨c96,h⟩:=aQ h
       refine bO ⟨[(5,true),(10,true),(11,true),(16,true)],[]⟩ [(2,2,oc c95),(6,9,an hb73),(10,10,oc hb73),(12,13,an hb74),(14,14,oc (And.intro hb74 c96)),(15,15,an hb74),(16,16,oc hb74)] ?_
       exact eN h (gg [] [0,1,2])
      refine bO ⟨[(5,true),(10,true),(11,false),(16,false)],[]⟩ [(2,2,oc c95),(6,9,an hb73),(10,10,oc hb73),(12,16,oc hb74)] ?_
      exact eN h (gg [] [0,1,2])
     refine bO ⟨[(5,false),(10,false)],[]⟩ [(2,2,oc c95),(6,10,oc hb73)] ?_
     exact eN h (gg [] [0,1,2])
    refine aA (aO h (fun hb75 h=> ?_) (fun hb75 h=> ?_))
    ·refine K5 3 h (fun h=> ?_)
     exact eN h (gg [] [0,1,27])
    obtain⟨c101,c102,h⟩:=g2 h
    refine qY a0 [(4,4,oc c101),(7,7,oc c102)] ?_
    exact eN h (gg [] [0,1,59])
   refine aJ (aJ (aA (Ge ?_)))
   exact eB h (gg [] [0,1,2])
  refine aH (aX ?_)
  exact eX h (gg [] [0,1,2])
 refine aI (aA (G (qQ [.frzC 0 1] (by kernel_rfl) (aL ?_))))
 obtain rfl:=sI h
 exact aD [Y30] (by kernel_rfl)
def bG(b1:Option Z1)(text1:List Int):Option (((List Z2)×List Int)×Int) :=
 (if b1.isNone=true then some ((([]:List Z2),([]:List Int)),(1:Int))
 else(if(decide ((text1.length:Int) > (4096:Int)))=true then some ((([]:List Z2),([]:List Int)),(3:Int))
 else((l9 text1).bind fun r2 =>
 (if b1.isSome=true then(if b1.isSome=true then((cE ((b1.getD (Ty.zero D9)).2.2.1) r2).bind fun r9 =>
 ((dP ((b1.getD (Ty.zero D9)).1) r9).bind fun r10 =>
 (if b1.isSome=true then(if b1.isSome=true then((cE ((b1.getD (Ty.zero D9)).2.2.2.1) r2).bind fun r11 =>
 ((dP ((b1.getD (Ty.zero D9)).2.1) r11).bind fun r12 =>
 (if b1.isSome=true then((dB ((b1.getD (Ty.zero D9)).2.2.2.2.2) r2).bind fun r13 =>
 (if b1.isSome=true then((fL r2 r10 r12 r13 ((b1.getD (Ty.zero D9)).2.2.2.2.1)).bind fun r14 =>
 some ((r14.1,r14.2),(0:Int)))else none))else none)))else none)else none)))else none)else none))))
theorem g9(β1:Bool){b1:Option Z1}{text1:List Int}{res:((List Z2)×List Int)×Int}(h:bG b1 text1=some res):
  Pure Tryz.prog 14 [.p false (.ptr D9) b1,.p β1 (.slice (.int .u8)) text1] (aU (bN false [⟨Y30,res.1⟩,⟨(.int .i64),res.2⟩])):=by
 refine Pure.of_body bA Tryz.func14 (by kernel_rfl) rfl (nl rfl) (fun Bw w0=> ?_) rfl
 unfold bG at h
 refine G (aC (GN a0 [(1,1,⟨∃e,Tryz.prog.underlying 29=some (.pointer e),⟨_,rfl⟩⟩)] (aO h (fun hb1 h=> ?_) (fun hb1 h=> ?_))))
 ·refine G (aL (aE ?_))
  obtain rfl:=sI h
  exact aD [Y30,(.int .i64)] (by kernel_rfl)
 refine aB (aA (aC (G (aO h (fun hb2 h=> ?_) (fun hb2 h=> ?_)))))
 ·refine G (aL (aE ?_))
  obtain rfl:=sI h
  exact aD [Y30,(.int .i64)] (by kernel_rfl)
 refine aB (aA ?_)
 obtain⟨r2,q2,h⟩:=aG h
 refine GP 1 (vQ β1 q2) ?_
 obtain⟨c7,c8,h⟩:=g2 h
 obtain⟨r9,q9,h⟩:=aG h
 obtain⟨r10,q10,h⟩:=aG h
 obtain⟨c9,c10,h⟩:=g2 h
 obtain⟨r11,q11,h⟩:=aG h
 obtain⟨r12,q12,h⟩:=aG h
 obtain⟨c11,h⟩:=aQ h
 obtain⟨r13,q13,h⟩:=aG h
 obtain⟨c12,h⟩:=aQ h
 obtain⟨r14,q14,h⟩:=aG h
 have u_1:=(kE false false q9)
 have u_2:=(kD false false q10)
 have u_3:=(kE false false q11)
 have u_4:=(kD false false q12)
 have u_5:=(nN false q13)
 have u_6:=(B3 false false false false false q14)
 refine GD ⟨[],[(10,(oP u_1)),(11,(oP u_2)),(21,(oP u_3)),(22,(oP u_4)),(28,(oP u_5)),(33,(oP u_6))]⟩ [(2,2,oc c7),(6,6,oc c8),(10,10,oc u_1),(11,11,oc u_2),(13,13,oc c9),(17,17,oc c10),(21,21,oc u_3),(22,22,oc u_4),(24,24,oc c11),(28,28,oc u_5),(30,30,oc c12),(33,33,oc u_6)] (aL ?_)
 obtain rfl:=sI h
 exact aD [Y30,(.int .i64)] (by kernel_rfl)
def eE(p2:List Int):zR→Option (zR⊕(List Int)):=fun(out4,v2) =>
 (if(decide (v2<(p2.length:Int)))=true then(if 0≤v2∧v2<(p2.length:Int)then(((if((p2.getD v2.toNat (0:Int)) == (2:Int))=true then(if(out4.length+([v2]:List Int).length)*8≤140737488355328∧out4.length+([v2]:List Int).length≤9223372036854775807 then some ((out4++([v2]:List Int)))else none)
 else some (out4))).bind fun out6=>some (Sum.inl (out6,(IntKind.i64.wrap (v2+(1:Int))))))else none)
 else some (Sum.inr out4))
def lF(p1:List Z2)(p2:List Int):Option (List Int) :=
 ((iter (eE p2) (([]:List Int),(0:Int))).bind fun out5=>some out5)
theorem y4(β0 β1:Bool){p1:List Z2}{p2:List Int}{res:List Int}(h:lF p1 p2=some res):
  Pure Tryz.prog 80 [.agg [.p β0 (.slice gA) p1,.p β1 (.slice (.int .u8)) p2]] (aU (bN false [⟨(.slice (.int .i64)),res⟩])):=by
 refine Pure.of_body bA Tryz.func80 (by kernel_rfl) rfl (nl rfl) (fun Bw w0=> ?_) rfl
 unfold lF at h
 refine G (G (aC (G (aF (dC h (fun(out4,v2)=>aM [(3,.sl 0),(7,.p β1 (.slice (.int .u8)) p2),(8,.i64 (p2.length:Int)),(9,.i64 v2)] [(0,.arr 3 (.int .i64) out4)] 1) 0 (fun out5=>aM [(3,.sl 0)] [(0,.arr 3 (.int .i64) out5)] 1) (gg [.nilS 3 56 3 (.int .i64)] [56]) (fun y o h=> ?_) (fun out5 h=> ?_))))))
 ·obtain⟨out4,v2⟩:=y
  unfold eE at h
  refine G (aC (aO h (fun hb7 h=> ?_) (fun hb7 h=> ?_)))
  ·refine aB (aA (aC (aF (GC 1 h (fun h=>G (bT h (fun out6=>aM [(3,.sl 0),(7,.p β1 (.slice (.int .u8)) p2),(8,.i64 (p2.length:Int)),(9,.i64 v2)] [(0,.arr 3 (.int .i64) out6)] 1) (fun out6 h=> ?_) (fun out6 h=> ?_)))))))
   ·refine aO h (fun hb9 h=> ?_) (fun hb9 h=> ?_)
    ·refine K5 3 h (fun h=> ?_)
     exact eN h (gg [] [89])
    refine aB ?_
    exact eN h (gg [] [0])
   refine aJ (aA (Ge ?_))
   exact eB h (gg [] [0])
  refine aH (aX ?_)
  exact eX h (gg [] [0])
 refine aI (aA (G (aL ?_)))
 obtain rfl:=sI h
 exact aD [(.slice (.int .i64))] (by kernel_rfl)
def mF(c1 c2 c3 c4 col1 tab1:Int):Option (Int) :=
 (if(c4 == (2:Int))=true then(if ¬tab1=0 then some (IntKind.i64.wrap ((IntKind.i64.wrap (col1+tab1)) - (Int.tmod col1 tab1)))else none)
 else some (IntKind.i64.wrap (col1+c3)))
theorem tO{c1:Int}{c2:Int}{c3:Int}{c4:Int}{col1:Int}{tab1:Int}{res:Int}(h:mF c1 c2 c3 c4 col1 tab1=some res):
  Pure Tryz.prog 178 [.agg [.i64 c1,.i64 c2,.i64 c3,.u8 c4],.i64 col1,.i64 tab1] (aU (bN false [⟨(.int .i64),res⟩])):=by
 refine Pure.of_body bA Tryz.func178 (by kernel_rfl) rfl (nl rfl) (fun Bw w0=> ?_) rfl
 unfold mF at h
 refine G (aC (G (aO h (fun hb1 h=> ?_) (fun hb1 h=> ?_))))
 ·refine GC 5 h (fun h=>aL (aE ?_))
  obtain rfl:=sI h
  exact aD [(.int .i64)] (by kernel_rfl)
 refine aB (aA (G (aL ?_)))
 obtain rfl:=sI h
 exact aD [(.int .i64)] (by kernel_rfl)
def nG(c1 c2 c3 c4:Int):Option (Bool) :=
 (((if(c4 == (1:Int))=true then some (true)
 else(if(c4 == (0:Int))=true then some ((c3 == (0:Int)))
 else some (false)))).bind fun v1=>some v1)
theorem A8{c1:Int}{c2:Int}{c3:Int}{c4:Int}{res:Bool}(h:nG c1 c2 c3 c4=some res):
  Pure Tryz.prog 193 [.agg [.i64 c1,.i64 c2,.i64 c3,.u8 c4]] (aU (bN false [⟨.bool,res⟩])):=by
 refine Pure.of_body bA Tryz.func193 (by kernel_rfl) rfl (nl rfl) (fun Bw w0=> ?_) rfl
 unfold nG at h
 refine G (aC (bT h (fun v1=>aM [(2,.bo v1)] [] 0) (fun v1 h=> ?_) (fun v1 h=> ?_)))
 ·rcases aR h with⟨hb5,h⟩ | ⟨hb5,h⟩
  ·refine bO ⟨[(3,true),(12,true)],[]⟩ [(4,7,oc hb5),(11,12,oc hb5)] ?_
   exact eN h (gg [] [])
  rcases aR h with⟨hb6,h⟩ | ⟨hb6,h⟩
  ·refine bO ⟨[(3,false),(7,true),(11,true),(12,false)],[]⟩ [(4,7,an hb5),(8,10,an hb6),(11,11,oc (And.intro hb5 hb6)),(12,12,oc hb5)] ?_
   exact eN h (gg [] [])
  refine bO ⟨[(3,false),(7,false),(11,false),(12,false)],[]⟩ [(4,7,an hb5),(8,10,oc hb6),(11,11,oc (And.intro hb5 hb6)),(12,12,oc hb5)] ?_
  exact eN h (gg [] [])
 refine aA (aL ?_)
 obtain rfl:=sI h
 exact aD [.bool] (by kernel_rfl)
def eM(p1:List Z2)(from1:Int):(Int)→Option ((Int)⊕(Int)):=fun to3 =>
 (((if(decide (to3 > from1))=true then(if 0≤(IntKind.i64.wrap (to3 - (1:Int)))∧(IntKind.i64.wrap (to3 - (1:Int)))<(p1.length:Int)then((nG ((p1.getD ((IntKind.i64.wrap (to3 - (1:Int))).toNat) ((0:Int),((0:Int),((0:Int),(0:Int))))).1) ((p1.getD ((IntKind.i64.wrap (to3 - (1:Int))).toNat) ((0:Int),((0:Int),((0:Int),(0:Int))))).2.1) ((p1.getD ((IntKind.i64.wrap (to3 - (1:Int))).toNat) ((0:Int),((0:Int),((0:Int),(0:Int))))).2.2.1) ((p1.getD ((IntKind.i64.wrap (to3 - (1:Int))).toNat) ((0:Int),((0:Int),((0:Int),(0:Int))))).2.2.2)).bind fun r9 =>
 some (r9))else none)
 else some (false))).bind fun v3=>(if v3=true then some (Sum.inl (IntKind.i64.wrap (to3 - (1:Int))))
 else some (Sum.inr to3)))
def iF(p1:List Z2)(p2:List Int)(from1 to1:Int):Option (Int) :=
 ((iter (eM p1 from1) to1).bind fun to4=>some to4)
theorem tZ(β0 β1:Bool){p1:List Z2}{p2:List Int}{from1:Int}{to1:Int}{res:Int}(h:iF p1 p2 from1 to1=some res):
  Pure Tryz.prog 179 [.agg [.p β0 (.slice gA) p1,.p β1 (.slice (.int .u8)) p2],.i64 from1,.i64 to1] (aU (bN false [⟨(.int .i64),res⟩])):=by
 refine Pure.of_body bA Tryz.func179 (by kernel_rfl) rfl (nl rfl) (fun Bw w0=> ?_) rfl
 unfold iF at h
 refine G (aC (aF (dC h (fun to3=>aM [(1,.i64 from1),(2,.i64 to3),(3,.adr 0 0 2 0)] (aEJ β0 p1 β1 p2) 1) 0 (fun to4=>aM [(2,.i64 to4)] [] 0) (gg [] [0]) (fun to3 o h=> ?_) (fun to4 h=> ?_))))
 ·unfold eM at h
  refine aC (aC (bT h (fun v3=>aM [(1,.i64 from1),(2,.i64 to3),(3,.adr 0 0 2 0),(18,.bo v3)] (aEJ β0 p1 β1 p2) 1) (fun v3 h=> ?_) (fun v3 h=> ?_)))
  ·rcases aR h with⟨hb11,h⟩ | ⟨hb11,h⟩
   ·obtain⟨c9,h⟩:=aQ h
    obtain⟨r9,q9,h⟩:=aG h
    have u_1:=(A8 q9)
    refine bO ⟨[(3,true),(11,true)],[(10,(oP u_1))]⟩ [(4,7,an hb11),(8,8,oc (And.intro hb11 c9)),(9,9,an hb11),(10,10,oc (And.intro hb11 u_1)),(11,11,oc hb11)] ?_
    exact eN h (gg [] [0])
   refine bO ⟨[(3,false),(11,false)],[]⟩ [(4,11,oc hb11)] ?_
   exact eN h (gg [] [0])
  refine aA (aO h (fun hb12 h=> ?_) (fun hb12 h=> ?_))
  ·refine aB (aA (aF (Ge (aJ ?_))))
   exact eB h (gg [] [0])
  refine aH (aX ?_)
  exact eX h (gg [] [])
 refine aI (aA (G (aL ?_)))
 obtain rfl:=sI h
 exact aD [(.int .i64)] (by kernel_rfl)
def iH(p1:List Z2)(p2:List Int)(to1:Int):Option (Int×Bool) :=
 (if 0≤to1∧to1<(p2.length:Int)then(if 0≤to1∧to1<(p2.length:Int)then some ((p2.getD to1.toNat (0:Int)),((p2.getD to1.toNat (0:Int)) != (0:Int)))else none)else none)
theorem F7(β0 β1:Bool){p1:List Z2}{p2:List Int}{to1:Int}{res:Int×Bool}(h:iH p1 p2 to1=some res):
  Pure Tryz.prog 180 [.agg [.p β0 (.slice gA) p1,.p β1 (.slice (.int .u8)) p2],.i64 to1] (aU (bN false [⟨(.int .u8),res.1⟩,⟨.bool,res.2⟩])):=by
 refine Pure.of_body bA Tryz.func180 (by kernel_rfl) rfl (nl rfl) (fun Bw w0=> ?_) rfl
 unfold iH at h
 refine G ?_
 obtain⟨c3,c4,h⟩:=g2 h
 refine GD a0 [(3,3,oc c3),(8,8,oc c4)] (aL ?_)
 obtain rfl:=sI h
 exact aD [(.int .u8),.bool] (by kernel_rfl)
def jH(p1:List Z2)(to1 tab1:Int):zR→Option (zR⊕(List Int)):=fun(out2,i2) =>
 (if(decide (i2<to1))=true then(if 0≤i2∧i2<(p1.length:Int)then(if 0≤(IntKind.i64.wrap ((out2.length:Int) - (1:Int)))∧(IntKind.i64.wrap ((out2.length:Int) - (1:Int)))<(out2.length:Int)then(if(IntKind.i64.wrap ((out2.length:Int) - (1:Int))).toNat<out2.length then((mF ((p1.getD i2.toNat ((0:Int),((0:Int),((0:Int),(0:Int))))).1) ((p1.getD i2.toNat ((0:Int),((0:Int),((0:Int),(0:Int))))).2.1) ((p1.getD i2.toNat ((0:Int),((0:Int),((0:Int),(0:Int))))).2.2.1) ((p1.getD i2.toNat ((0:Int),((0:Int),((0:Int),(0:Int))))).2.2.2) (out2.getD ((IntKind.i64.wrap ((out2.length:Int) - (1:Int))).toNat) (0:Int)) tab1).bind fun r6 =>
 (if(out2.length+([r6]:List Int).length)*8≤140737488355328∧out2.length+([r6]:List Int).length≤9223372036854775807 then some (Sum.inl ((out2++([r6]:List Int)),(IntKind.i64.wrap (i2+(1:Int)))))else none))else none)else none)else none)
 else some (Sum.inr out2))
def gY(p1:List Z2)(p2:List Int)(from1 to1 tab1:Int):Option (List Int) :=
 ((iter (jH p1 to1 tab1) (([(0:Int)]:List Int),from1)).bind fun out3=>some out3)
theorem wR(β0 β1:Bool){p1:List Z2}{p2:List Int}{from1:Int}{to1:Int}{tab1:Int}{res:List Int}(h:gY p1 p2 from1 to1 tab1=some res):
  Pure Tryz.prog 197 [.agg [.p β0 (.slice gA) p1,.p β1 (.slice (.int .u8)) p2],.i64 from1,.i64 to1,.i64 tab1] (aU (bN false [⟨(.slice (.int .i64)),res⟩])):=by
 refine Pure.of_body bA Tryz.func197 (by kernel_rfl) rfl (nl rfl) (fun Bw w0=> ?_) rfl
 unfold gY at h
 refine G (G (aC (G (aF (dC h (fun(out2,i2)=>aM [(2,.i64 to1),(3,.i64 tab1),(4,.adr 0 0 2 0),(9,.sl 1),(10,.i64 i2)] (aGs β0 p1 β1 p2 out2) 2) 0 (fun out3=>aM [(9,.sl 0)] [(0,.arr 3 (.int .i64) out3)] 1) (gg [] [0,16]) (fun y o h=> ?_) (fun out3 h=> ?_))))))
 ·obtain⟨out2,i2⟩:=y
  unfold jH at h
  refine aC (G (aO h (fun hb3 h=> ?_) (fun hb3 h=> ?_)))
  ·refine aB (aA (aC (aF ?_)))
   obtain⟨c21,c22,c23,h⟩:=g3 h
   obtain⟨r6,q6,h⟩:=aG h
   obtain⟨c24,h⟩:=aQ h
   have u_1:=(tO q6)
   refine qY ⟨[],[(13,(oP u_1))]⟩ [(4,4,oc c21),(10,10,oc c22),(11,11,oc c23),(13,13,oc u_1),(15,15,oc c24)] (aJ (aA (Ge ?_)))
   exact eB h (gg [] [0,146])
  refine aH (aX ?_)
  exact eX h (gg [] [1])
 refine aI (aA (G (aL ?_)))
 obtain rfl:=sI h
 exact aD [(.slice (.int .i64))] (by kernel_rfl)
def m7(p1:List Z2)(p2:List Int)(from1 to1 end1 tab1:Int):Option (Int) :=
 ((iF p1 p2 from1 to1).bind fun r3 =>
 ((gY p1 p2 from1 r3 tab1).bind fun r4 =>
 (if 0≤(IntKind.i64.wrap ((r4.length:Int) - (1:Int)))∧(IntKind.i64.wrap ((r4.length:Int) - (1:Int)))<(r4.length:Int)then(((if(end1 == (3:Int))=true then some ((IntKind.i64.wrap ((r4.getD ((IntKind.i64.wrap ((r4.length:Int) - (1:Int))).toNat) (0:Int))+(1:Int))))
 else some ((r4.getD ((IntKind.i64.wrap ((r4.length:Int) - (1:Int))).toNat) (0:Int))))).bind fun n1=>some n1)else none)))
theorem A3(β0 β1:Bool){p1:List Z2}{p2:List Int}{from1:Int}{to1:Int}{end1:Int}{tab1:Int}{res:Int}(h:m7 p1 p2 from1 to1 end1 tab1=some res):
  Pure Tryz.prog 182 [.agg [.p β0 (.slice gA) p1,.p β1 (.slice (.int .u8)) p2],.i64 from1,.i64 to1,.u8 end1,.i64 tab1] (aU (bN false [⟨(.int .i64),res⟩])):=by
 refine Pure.of_body bA Tryz.func182 (by kernel_rfl) rfl (nl rfl) (fun Bw w0=> ?_) rfl
 unfold m7 at h
 refine G ?_
 obtain⟨r3,q3,h⟩:=aG h
 obtain⟨r4,q4,h⟩:=aG h
 have u_1:=(tZ β0 β1 q3)
 have u_2:=(wR β0 β1 q4)
 refine GD ⟨[],[(5,(oP u_1)),(7,(oP u_2))]⟩ [(5,5,oc u_1),(7,7,oc u_2)] (GC 4 h (fun h=>aC (G (bT h (fun n1=>aM [(12,.i64 n1)] [] 0) (fun n1 h=> ?_) (fun n1 h=> ?_)))))
 ·refine aO h (fun hb2 h=> ?_) (fun hb2 h=> ?_)
  ·refine Ge ?_
   exact eN h (gg [] [])
  refine aB ?_
  exact eN h (gg [] [])
 refine aA (G (aL ?_))
 obtain rfl:=sI h
 exact aD [(.int .i64)] (by kernel_rfl)
def j9(p1:List Z2)(p2:List Int)(from1 to1 end1 tab1:Int):Option Z2 :=
 ((m7 p1 p2 from1 to1 end1 tab1).bind fun r2 =>
 some (from1,(to1,(r2,end1))))
theorem uI(β0 β1:Bool){p1:List Z2}{p2:List Int}{from1:Int}{to1:Int}{end1:Int}{tab1:Int}{res:Int×Int×Int×Int}(h:j9 p1 p2 from1 to1 end1 tab1=some res):
  Pure Tryz.prog 156 [.agg [.p β0 (.slice gA) p1,.p β1 (.slice (.int .u8)) p2],.i64 from1,.i64 to1,.u8 end1,.i64 tab1] (aU (bN false [⟨gA,res⟩])):=by
 refine Pure.of_body bA Tryz.func156 (by kernel_rfl) rfl (nl rfl) (fun Bw w0=> ?_) rfl
 unfold j9 at h
 refine G ?_
 obtain⟨r2,q2,h⟩:=aG h
 refine GP 7 (A3 β0 β1 q2) (aL ?_)
 obtain rfl:=sI h
 exact aD [gA] (by kernel_rfl)
def eK(d1:List Z2)(d2:List Int)(x1 x2 x3:Int):(Int×Int×Int×Int×Int)→Option ((Int×Int×Int×Int×Int)⊕(Int×Int)):=fun(v19,v20,v21,v22,v23) =>
 (if(decide (v23≤x1))=true then(if 0≤(IntKind.i64.wrap (v23 - (1:Int)))∧(IntKind.i64.wrap (v23 - (1:Int)))<(d1.length:Int)then((mF ((d1.getD ((IntKind.i64.wrap (v23 - (1:Int))).toNat) ((0:Int),((0:Int),((0:Int),(0:Int))))).1) ((d1.getD ((IntKind.i64.wrap (v23 - (1:Int))).toNat) ((0:Int),((0:Int),((0:Int),(0:Int))))).2.1) ((d1.getD ((IntKind.i64.wrap (v23 - (1:Int))).toNat) ((0:Int),((0:Int),((0:Int),(0:Int))))).2.2.1) ((d1.getD ((IntKind.i64.wrap (v23 - (1:Int))).toNat) ((0:Int),((0:Int),((0:Int),(0:Int))))).2.2.2) v21 x3).bind fun r26 =>
 ((iF d1 d2 (IntKind.i64.wrap (v23 - (1:Int))) v23).bind fun r28 =>
 (((if(r28 == v23)=true then some (r26)
 else some (v22))).bind fun v26=>(if(decide (v26 > x2))=true then some (Sum.inr (v19,v20))
 else((iH d1 d2 v23).bind fun(r31,r32) =>
 (((if r32=true then(if(r31 != (3:Int))=true then some (true)
 else some ((decide (v26<x2))))
 else some (false))).bind fun v27=>(((if v27=true then some (v23)
 else some (v19))).bind fun v28=>some (Sum.inl (v28,v23,r26,v26,(IntKind.i64.wrap (v23+(1:Int))))))))))))else none)
 else some (Sum.inr (v19,v20)))
def mO(d1:List Z2)(d2:List Int)(i1 x1 x2 x3 x4 x5 x6:Int)(x7:Option Nat):Option Z2 :=
 ((iter (eK d1 d2 x1 x2 x3) ((-1:Int),(IntKind.i64.wrap (i1+(1:Int))),(0:Int),(0:Int),(IntKind.i64.wrap (i1+(1:Int))))).bind fun(v24,v25)=>(if(decide (v24≥(0:Int)))=true then(if 0≤v24∧v24<(d2.length:Int)then((j9 d1 d2 i1 v24 (d2.getD v24.toNat (0:Int)) x3).bind fun r35 =>
 some (r35.1,(r35.2.1,(r35.2.2.1,r35.2.2.2))))else none)
 else(((if(v25 == x1)=true then(if 0≤x1∧x1<(d2.length:Int)then some ((d2.getD x1.toNat (0:Int)))else none)
 else some ((4:Int)))).bind fun v29=>(((if(decide (v25<x1))=true then(if 0≤v25∧v25<(d2.length:Int)then some (((d2.getD v25.toNat (0:Int)) == (1:Int)))else none)
 else some (false))).bind fun v30=>(((if v30=true then some ((1:Int))
 else some (v29))).bind fun v31=>((j9 d1 d2 i1 v25 v31 x3).bind fun r37 =>
 some (r37.1,(r37.2.1,(r37.2.2.1,r37.2.2.2)))))))))
theorem G4(β0 β1:Bool){d1:List Z2}{d2:List Int}{i1:Int}{x1:Int}{x2:Int}{x3:Int}{x4:Int}{x5:Int}{x6:Int}{x7:Option Nat}{res:Int×Int×Int×Int}(h:mO d1 d2 i1 x1 x2 x3 x4 x5 x6 x7=some res):
  Pure Tryz.prog 157 [.agg [.p β0 (.slice gA) d1,.p β1 (.slice (.int .u8)) d2],.i64 i1,.i64 x1,.agg [.i64 x2,.i64 x3,.u8 x4,.i64 x5,.i64 x6,.p false .flt x7]] (aU (bN false [⟨gA,res⟩])):=by
 refine Pure.of_body bA Tryz.func157 (by kernel_rfl) rfl (nl rfl) (fun Bw w0=> ?_) rfl
 unfold mO at h
 refine G (G (G (aC (G (aF (dC h (fun(v19,v20,v21,v22,v23)=>aM [(1,.i64 i1),(2,.i64 x1),(4,.adr 0 0 2 0),(7,.adr 1 0 6 0),(8,.adr 2 0 4 0),(9,.i64 v19),(10,.i64 v20),(11,.i64 v21),(12,.i64 v22),(13,.i64 v23)] (N9 β0 d1 β1 d2 x2 x3 x4 x5 x6 x7 (0:Int) (0:Int) (0:Int) (0:Int)) 3) 0 (fun(v24,v25)=>aM [(1,.i64 i1),(2,.i64 x1),(4,.adr 0 0 2 0),(7,.adr 1 0 6 0),(8,.adr 2 0 4 0),(9,.i64 v24),(10,.i64 v25)] (N9 β0 d1 β1 d2 x2 x3 x4 x5 x6 x7 (0:Int) (0:Int) (0:Int) (0:Int)) 3) (gg [] [0,8,16]) (fun y o h=> ?_) (fun r33 h=> ?_)))))))
 ·obtain⟨v19,v20,v21,v22,v23⟩:=y
  unfold eK at h
  refine aC (G (aO h (fun hb37 h=> ?_) (fun hb37 h=> ?_)))
  ·refine aB (aA (aC (aF (GC 4 h (fun h=>aC ?_)))))
   obtain⟨r26,q20,h⟩:=aG h
   refine GP 4 (tO q20) ?_
   obtain⟨r28,q22,h⟩:=aG h
   refine GP 4 (tZ β0 β1 q22) (bT h (fun v26=>aM [(1,.i64 i1),(2,.i64 x1),(4,.adr 0 0 2 0),(7,.adr 1 0 6 0),(8,.adr 2 0 4 0),(9,.i64 v19),(10,.i64 v20),(11,.i64 r26),(12,.i64 v26),(13,.i64 v23)] (N9 β0 d1 β1 d2 x2 x3 x4 x5 x6 x7 (0:Int) (0:Int) (0:Int) (0:Int)) 3) (fun v26 h=> ?_) (fun v26 h=> ?_))
   ·refine aO h (fun hb39 h=> ?_) (fun hb39 h=> ?_)
    ·refine Ge ?_
     exact eN h (gg [] [0,1,2])
    refine aB ?_
    exact eN h (gg [] [0,1,2])
   refine aA (aC (G (aO h (fun hb40 h=> ?_) (fun hb40 h=> ?_))))
   ·refine aH (aX (j8 rfl (aX ?_)))
    exact eX h (gg [] [0,1,2])
   refine aB (aA (G ?_))
   obtain⟨⟨r31,r32⟩,q24,h⟩:=aG h
   refine GP 2 (F7 β0 β1 q24) (aC (bT h (fun v27=>aM [(1,.i64 i1),(2,.i64 x1),(4,.adr 0 0 2 0),(7,.adr 1 0 6 0),(8,.adr 2 0 4 0),(9,.i64 v19),(10,.i64 v23),(11,.i64 r26),(12,.i64 v26),(13,.i64 v23),(67,.bo v27)] (N9 β0 d1 β1 d2 x2 x3 x4 x5 x6 x7 (0:Int) (0:Int) (0:Int) (0:Int)) 3) (fun v27 h=> ?_) (fun v27 h=> ?_)))
   ·rcases aR h with⟨hb45,h⟩ | ⟨hb45,h⟩
    ·rcases aR h with⟨hb46,h⟩ | ⟨hb46,h⟩
     ·refine bO ⟨[(1,true),(4,true),(9,true),(10,true)],[]⟩ [(2,4,an hb45),(5,8,oc hb46),(9,9,oc (And.intro hb45 hb46)),(10,10,oc hb45)] ?_
      exact eN h (gg [] [0,1,2])
     refine bO ⟨[(1,true),(4,false),(9,false),(10,true)],[]⟩ [(2,4,an hb45),(5,8,an hb46),(9,9,oc (And.intro hb45 hb46)),(10,10,oc hb45)] ?_
     exact eN h (gg [] [0,1,2])
    refine bO ⟨[(1,false),(10,false)],[]⟩ [(2,4,oc hb45),(9,10,oc hb45)] ?_
    exact eN h (gg [] [0,1,2])
   refine aA (bT h (fun v28=>aM [(1,.i64 i1),(2,.i64 x1),(4,.adr 0 0 2 0),(7,.adr 1 0 6 0),(8,.adr 2 0 4 0),(9,.i64 v28),(10,.i64 v23),(11,.i64 r26),(12,.i64 v26),(13,.i64 v23)] (N9 β0 d1 β1 d2 x2 x3 x4 x5 x6 x7 (0:Int) (0:Int) (0:Int) (0:Int)) 3) (fun v28 h=> ?_) (fun v28 h=> ?_))
   ·refine aO h (fun hb48 h=> ?_) (fun hb48 h=> ?_)
    ·refine Ge ?_
     exact eN h (gg [] [0,1,2])
    refine aB ?_
    exact eN h (gg [] [0,1,2])
   refine aJ (aA (Ge ?_))
   exact eB h (gg [] [0,1,2])
  refine aH (aX ?_)
  exact eX h (gg [] [0,1,2])
 obtain⟨v24,v25⟩:=r33
 refine aI (aA (aC (G (aO h (fun hb49 h=> ?_) (fun hb49 h=> ?_)))))
 ·obtain⟨c10,h⟩:=aQ h
  obtain⟨r35,q26,h⟩:=aG h
  have u_1:=(uI β0 β1 q26)
  refine GD ⟨[],[(10,(oP u_1))]⟩ [(6,6,oc c10),(10,10,oc u_1)] (aL (aE ?_))
  obtain rfl:=sI h
  exact aD [gA] (by kernel_rfl)
 refine aB (aA (G (aC (G (bT h (fun v29=>aM [(1,.i64 i1),(2,.i64 x1),(4,.adr 0 0 2 0),(7,.adr 1 0 6 0),(8,.adr 2 0 4 0),(10,.i64 v25),(17,.u8 v29)] (N9 β0 d1 β1 d2 x2 x3 x4 x5 x6 x7 (0:Int) (0:Int) (0:Int) (0:Int)) 3) (fun v29 h=> ?_) (fun v29 h=> ?_))))))
 ·refine aO h (fun hb51 h=> ?_) (fun hb51 h=> ?_)
  ·refine K5 3 h (fun h=> ?_)
   exact eN h (gg [] [0,1,2])
  refine aB ?_
  exact eN h (gg [] [0,1,2])
 refine aA (aC (aC (bT h (fun v30=>aM [(1,.i64 i1),(4,.adr 0 0 2 0),(7,.adr 1 0 6 0),(8,.adr 2 0 4 0),(10,.i64 v25),(17,.u8 v29),(100,.bo v30)] (N9 β0 d1 β1 d2 x2 x3 x4 x5 x6 x7 (0:Int) (0:Int) (0:Int) (0:Int)) 3) (fun v30 h=> ?_) (fun v30 h=> ?_))))
 ·rcases aR h with⟨hb54,h⟩ | ⟨hb54,h⟩
  ·obtain⟨c17,h⟩:=aQ h
   refine bO ⟨[(3,true),(10,true)],[]⟩ [(4,6,an hb54),(7,7,oc (And.intro hb54 c17)),(8,9,an hb54),(10,10,oc hb54)] ?_
   exact eN h (gg [] [0,1,2])
  refine bO ⟨[(3,false),(10,false)],[]⟩ [(4,10,oc hb54)] ?_
  exact eN h (gg [] [0,1,2])
 refine aA (bT h (fun v31=>aM [(1,.i64 i1),(4,.adr 0 0 2 0),(7,.adr 1 0 6 0),(8,.adr 2 0 4 0),(10,.i64 v25),(17,.u8 v31)] (N9 β0 d1 β1 d2 x2 x3 x4 x5 x6 x7 (0:Int) (0:Int) (0:Int) (0:Int)) 3) (fun v31 h=> ?_) (fun v31 h=> ?_))
 ·refine aO h (fun hb56 h=> ?_) (fun hb56 h=> ?_)
  ·refine Ge ?_
   exact eN h (gg [] [0,1,2])
  refine aB ?_
  exact eN h (gg [] [0,1,2])
 refine aA ?_
 obtain⟨r37,q28,h⟩:=aG h
 refine GP 6 (uI β0 β1 q28) (aL ?_)
 obtain rfl:=sI h
 exact aD [gA] (by kernel_rfl)
def eC(p1:List Z2)(p2:List Int)(to1 c1 c2 c3 c4 c5:Int)(c6:Option Nat):(Int×List Z2)→Option ((Int×List Z2)⊕(List Z2)):=fun(from3,out2) =>
 (if(decide (from3<to1))=true then((mO p1 p2 from3 to1 c1 c2 c3 c4 c5 c6).bind fun r6 =>
 (if(out2.length+([(r6.1,(r6.2.1,(r6.2.2.1,r6.2.2.2)))]:List Z2).length)*32≤140737488355328∧out2.length+([(r6.1,(r6.2.1,(r6.2.2.1,r6.2.2.2)))]:List Z2).length≤9223372036854775807 then some (Sum.inl (r6.2.1,(out2++([(r6.1,(r6.2.1,(r6.2.2.1,r6.2.2.2)))]:List Z2))))else none))
 else some (Sum.inr out2))
def iX(p1:List Z2)(p2:List Int)(from1 to1 c1 c2 c3 c4 c5:Int)(c6:Option Nat):Option (List Z2) :=
 ((iter (eC p1 p2 to1 c1 c2 c3 c4 c5 c6) (from1,([]:List Z2))).bind fun out3=>some out3)
theorem xJ(β0 β1:Bool){p1:List Z2}{p2:List Int}{from1:Int}{to1:Int}{c1:Int}{c2:Int}{c3:Int}{c4:Int}{c5:Int}{c6:Option Nat}{res:List Z2}(h:iX p1 p2 from1 to1 c1 c2 c3 c4 c5 c6=some res):
  Pure Tryz.prog 116 [.agg [.p β0 (.slice gA) p1,.p β1 (.slice (.int .u8)) p2],.i64 from1,.i64 to1,.agg [.i64 c1,.i64 c2,.u8 c3,.i64 c4,.i64 c5,.p false .flt c6]] (aU (bN false [⟨(.slice gA),res⟩])):=by
 refine Pure.of_body bA Tryz.func116 (by kernel_rfl) rfl (nl rfl) (fun Bw w0=> ?_) rfl
 unfold iX at h
 refine G (G (aC (aF (dC h (fun(from3,out2)=>aM [(1,.i64 from3),(2,.i64 to1),(4,.adr 0 0 2 0),(7,.adr 1 0 6 0),(9,.sl 2)] (aDT β0 p1 β1 p2 c1 c2 c3 c4 c5 c6 out2) 3) 0 (fun out3=>aM [(9,.sl 0)] [(0,.arr 197 gA out3)] 1) (gg [.nilS 9 32 197 gA] [0,8,32]) (fun y o h=> ?_) (fun out3 h=> ?_)))))
 ·obtain⟨from3,out2⟩:=y
  unfold eC at h
  refine aC (G (aO h (fun hb3 h=> ?_) (fun hb3 h=> ?_)))
  ·refine aB (aA (aF ?_))
   obtain⟨r6,q6,h⟩:=aG h
   refine GP 4 (G4 β0 β1 q6) (GC 3 h (fun h=>Ge (aJ ?_)))
   exact eB h (gg [] [0,1,107])
  refine aH (aX ?_)
  exact eX h (gg [] [2])
 refine aI (aA (G (aL ?_)))
 obtain rfl:=sI h
 exact aD [(.slice gA)] (by kernel_rfl)
def m5(p1:List Z2)(p2:List Int)(from1 to1 c1 c2 c3 c4 c5:Int)(c6:Option Nat):Option ((List Z2)×Bool) :=
 (((if(c3 == (1:Int))=true then none
 else some (()))).bind fun _=>((iX p1 p2 from1 to1 c1 c2 c3 c4 c5 c6).bind fun r3 =>
 some (r3,(c3 == (1:Int)))))
theorem A6(β0 β1:Bool){p1:List Z2}{p2:List Int}{from1:Int}{to1:Int}{c1:Int}{c2:Int}{c3:Int}{c4:Int}{c5:Int}{c6:Option Nat}{res:(List Z2)×Bool}(h:m5 p1 p2 from1 to1 c1 c2 c3 c4 c5 c6=some res):
  Pure Tryz.prog 81 [.agg [.p β0 (.slice gA) p1,.p β1 (.slice (.int .u8)) p2],.i64 from1,.i64 to1,.agg [.i64 c1,.i64 c2,.u8 c3,.i64 c4,.i64 c5,.p false .flt c6]] (aU (bN false [⟨(.slice gA),res.1⟩,⟨.bool,res.2⟩])):=by
 refine Pure.of_body bA Tryz.func81 (by kernel_rfl) rfl (nl rfl) (fun Bw w0=> ?_) rfl
 unfold m5 at h
 refine G (aC (G (bT h (fun _=>aM [(1,.i64 from1),(2,.i64 to1),(4,.adr 0 0 2 0),(7,.adr 1 0 6 0)] (aGx β0 p1 β1 p2 c1 c2 c3 c4 c5 c6) 2) (fun r1 h=> ?_) (fun r1 h=> ?_))))
 ·refine aO h (fun hb2 h=> ?_) (fun hb2 h=> ?_)
  ·refine aC ?_
   cases h
  refine aB ?_
  exact eN h (gg [] [0,8])
 refine aA ?_
 obtain⟨r3,q2,h⟩:=aG h
 have u_1:=(xJ β0 β1 q2)
 refine GD ⟨[],[(4,(oP u_1))]⟩ [(4,4,oc u_1)] (aL ?_)
 obtain rfl:=sI h
 exact aD [(.slice gA),.bool] (by kernel_rfl)
def fM(p1:List Z2)(p2:List Int)(c1 c2 c3 c4 c5:Int)(c6:Option Nat)(r2:List Int):((List Z2)×Bool×Int×Int)→Option (((List Z2)×Bool×Int×Int)⊕((List Z2)×Bool)):=fun(out2,loose3,from2,v2) =>
 (if(decide (v2<(r2.length:Int)))=true then(if 0≤v2∧v2<(r2.length:Int)then((m5 p1 p2 from2 (r2.getD v2.toNat (0:Int)) c1 c2 c3 c4 c5 c6).bind fun(r13,r14) =>
 (((if(out2.length+r13.length)*32≤140737488355328∧out2.length+r13.length≤9223372036854775807 then(if loose3=true then some (true)
 else some (r14))else none)).bind fun loose5=>some (Sum.inl ((out2++r13),loose5,(r2.getD v2.toNat (0:Int)),(IntKind.i64.wrap (v2+(1:Int)))))))else none)
 else some (Sum.inr (out2,loose3)))
def iW(p1:List Z2)(p2:List Int)(c1 c2 c3 c4 c5:Int)(c6:Option Nat):Option ((List Z2)×Bool) :=
 ((lF p1 p2).bind fun r2 =>
 ((iter (fM p1 p2 c1 c2 c3 c4 c5 c6 r2) (([]:List Z2),false,(0:Int),(0:Int))).bind fun(out3,loose4)=>some (out3,loose4)))
theorem yB(β0 β1:Bool){p1:List Z2}{p2:List Int}{c1:Int}{c2:Int}{c3:Int}{c4:Int}{c5:Int}{c6:Option Nat}{res:(List Z2)×Bool}(h:iW p1 p2 c1 c2 c3 c4 c5 c6=some res):
  Pure Tryz.prog 47 [.agg [.p β0 (.slice gA) p1,.p β1 (.slice (.int .u8)) p2],.agg [.i64 c1,.i64 c2,.u8 c3,.i64 c4,.i64 c5,.p false .flt c6]] (aU (bN false [⟨(.slice gA),res.1⟩,⟨.bool,res.2⟩])):=by
 refine Pure.of_body bA Tryz.func47 (by kernel_rfl) rfl (nl rfl) (fun Bw w0=> ?_) rfl
 unfold iW at h
 refine G (G (G (G (aC ?_))))
 obtain⟨r2,q2,h⟩:=aG h
 refine GP 1 (y4 β0 β1 q2) (aF (dC h (fun(out2,loose3,from2,v2)=>aM [(2,.adr 0 0 2 0),(3,.adr 1 0 6 0),(6,.sl 2),(7,.bo loose3),(8,.i64 from2),(14,.p false (.slice (.int .i64)) r2),(15,.i64 (r2.length:Int)),(16,.i64 v2)] (aDT β0 p1 β1 p2 c1 c2 c3 c4 c5 c6 out2) 3) 0 (fun(out3,loose4)=>aM [(6,.sl 0),(7,.bo loose4)] [(0,.arr 197 gA out3)] 1) (gg [.nilS 6 88 197 gA] [0,8,88]) (fun y o h=> ?_) (fun r15 h=> ?_)))
 ·obtain⟨out2,loose3,from2,v2⟩:=y
  unfold fM at h
  refine G (aC (aO h (fun hb6 h=> ?_) (fun hb6 h=> ?_)))
  ·refine aB (aA (aC (aF (GC 0 h (fun h=> ?_)))))
   obtain⟨⟨r13,r14⟩,q8,h⟩:=aG h
   refine GP 4 (A6 β0 β1 q8) (aC (bT h (fun loose5=>aM [(2,.adr 0 0 2 0),(3,.adr 1 0 6 0),(6,.sl 2),(7,.bo loose5),(10,.i64 (r2.getD v2.toNat (0:Int))),(14,.p false (.slice (.int .i64)) r2),(15,.i64 (r2.length:Int)),(16,.i64 v2)] (aDT β0 p1 β1 p2 c1 c2 c3 c4 c5 c6 (out2++r13)) 3) (fun loose5 h=> ?_) (fun loose5 h=> ?_)))
   ·obtain⟨c14,h⟩:=aQ h
    rcases aR h with⟨hb9,h⟩ | ⟨hb9,h⟩
    ·refine bO ⟨[(4,true),(6,true)],[]⟩ [(2,2,oc c14),(5,6,oc hb9)] ?_
     exact eN h (gg [] [0,1,131])
    refine bO ⟨[(4,false),(6,false)],[]⟩ [(2,2,oc c14),(5,5,an hb9),(6,6,oc hb9)] ?_
    exact eN h (gg [] [0,1,131])
   refine aA (Ge (aJ (aA (Ge ?_))))
   exact eB h (gg [] [0,1,2])
  refine aH (aX ?_)
  exact eX h (gg [] [2])
 obtain⟨out3,loose4⟩:=r15
 refine aI (aA (G (aL ?_)))
 obtain rfl:=sI h
 exact aD [(.slice gA),.bool] (by kernel_rfl)
def f9(p1 l1:List Z2):((List Z2)×Int)→Option (((List Z2)×Int)⊕(List Z2)):=fun(out2,v2) =>
 (if(decide (v2<(l1.length:Int)))=true then(if 0≤v2∧v2<(l1.length:Int)then(if 0≤(IntKind.i64.wrap (((l1.getD v2.toNat ((0:Int),((0:Int),((0:Int),(0:Int))))).2.1) - (1:Int)))∧(IntKind.i64.wrap (((l1.getD v2.toNat ((0:Int),((0:Int),((0:Int),(0:Int))))).2.1) - (1:Int)))<(p1.length:Int)then(if 0≤(l1.getD v2.toNat ((0:Int),((0:Int),((0:Int),(0:Int))))).1∧(l1.getD v2.toNat ((0:Int),((0:Int),((0:Int),(0:Int))))).1<(p1.length:Int)then(if(out2.length+([((p1.getD (((l1.getD v2.toNat ((0:Int),((0:Int),((0:Int),(0:Int))))).1).toNat) ((0:Int),((0:Int),((0:Int),(0:Int))))).1,((IntKind.i64.wrap (((p1.getD ((IntKind.i64.wrap (((l1.getD v2.toNat ((0:Int),((0:Int),((0:Int),(0:Int))))).2.1) - (1:Int))).toNat) ((0:Int),((0:Int),((0:Int),(0:Int))))).1)+((p1.getD ((IntKind.i64.wrap (((l1.getD v2.toNat ((0:Int),((0:Int),((0:Int),(0:Int))))).2.1) - (1:Int))).toNat) ((0:Int),((0:Int),((0:Int),(0:Int))))).2.1))),((l1.getD v2.toNat ((0:Int),((0:Int),((0:Int),(0:Int))))).2.2.1,(l1.getD v2.toNat ((0:Int),((0:Int),((0:Int),(0:Int))))).2.2.2)))]:List Z2).length)*32≤140737488355328∧out2.length+([((p1.getD (((l1.getD v2.toNat ((0:Int),((0:Int),((0:Int),(0:Int))))).1).toNat) ((0:Int),((0:Int),((0:Int),(0:Int))))).1,((IntKind.i64.wrap (((p1.getD ((IntKind.i64.wrap (((l1.getD v2.toNat ((0:Int),((0:Int),((0:Int),(0:Int))))).2.1) - (1:Int))).toNat) ((0:Int),((0:Int),((0:Int),(0:Int))))).1)+((p1.getD ((IntKind.i64.wrap (((l1.getD v2.toNat ((0:Int),((0:Int),((0:Int),(0:Int))))).2.1) - (1:Int))).toNat) ((0:Int),((0:Int),((0:Int),(0:Int))))).2.1))),((l1.getD v2.toNat ((0:Int),((0:Int),((0:Int),(0:Int))))).2.2.1,(l1.getD v2.toNat ((0:Int),((0:Int),((0:Int),(0:Int))))).2.2.2)))]:List Z2).length≤9223372036854775807 then some (Sum.inl ((out2++([((p1.getD (((l1.getD v2.toNat ((0:Int),((0:Int),((0:Int),(0:Int))))).1).toNat) ((0:Int),((0:Int),((0:Int),(0:Int))))).1,((IntKind.i64.wrap (((p1.getD ((IntKind.i64.wrap (((l1.getD v2.toNat ((0:Int),((0:Int),((0:Int),(0:Int))))).2.1) - (1:Int))).toNat) ((0:Int),((0:Int),((0:Int),(0:Int))))).1)+((p1.getD ((IntKind.i64.wrap (((l1.getD v2.toNat ((0:Int),((0:Int),((0:Int),(0:Int))))).2.1) - (1:Int))).toNat) ((0:Int),((0:Int),((0:Int),(0:Int))))).2.1))),((l1.getD v2.toNat ((0:Int),((0:Int),((0:Int),(0:Int))))).2.2.1,(l1.getD v2.toNat ((0:Int),((0:Int),((0:Int),(0:Int))))).2.2.2)))]:List Z2)),(IntKind.i64.wrap (v2+(1:Int)))))else none)else none)else none)else none)
 else some (Sum.inr out2))
def kK(p1:List Z2)(p2:List Int)(l1:List Z2):Option (List Z2) :=
 (if((l1.length:Int) == (0:Int))=true then some ([((0:Int),((0:Int),((0:Int),(2:Int))))]:List Z2)
 else((iter (f9 p1 l1) (([]:List Z2),(0:Int))).bind fun out3=>some out3))
theorem C0(β0 β1 β2:Bool){p1:List Z2}{p2:List Int}{l1:List Z2}{res:List Z2}(h:kK p1 p2 l1=some res):
  Pure Tryz.prog 48 [.agg [.p β0 (.slice gA) p1,.p β1 (.slice (.int .u8)) p2],.p β2 (.slice gA) l1] (aU (bN false [⟨(.slice gA),res⟩])):=by
 refine Pure.of_body bA Tryz.func48 (by kernel_rfl) rfl (nl rfl) (fun Bw w0=> ?_) rfl
 unfold kK at h
 refine G (aC (G (aO h (fun hb1 h=> ?_) (fun hb1 h=> ?_))))
 ·refine G (aL (aE ?_))
  obtain rfl:=sI h
  exact aD [(.slice gA)] (by kernel_rfl)
 refine aB (aA (G (aC (G (aF (dC h (fun(out2,v2)=>aM [(2,.adr 0 0 2 0),(5,.sl 1),(14,.p β2 (.slice gA) l1),(15,.i64 (l1.length:Int)),(16,.i64 v2)] (aGh β0 p1 β1 p2 out2) 2) 0 (fun out3=>aM [(5,.sl 0)] [(0,.arr 93 gA out3)] 1) (gg [.nilS 5 72 93 gA] [0,72]) (fun y o h=> ?_) (fun out3 h=> ?_)))))))
 ·obtain⟨out2,v2⟩:=y
  unfold f9 at h
  refine G (aC (aO h (fun hb4 h=> ?_) (fun hb4 h=> ?_)))
  ·refine aB (aA (aC (aF (GC 0 h (fun h=>GC 5 h (fun h=> ?_))))))
   obtain⟨c23,c24,h⟩:=g2 h
   refine qY a0 [(5,5,oc c23),(19,19,oc c24)] (aJ (aA (Ge ?_)))
   exact eB h (gg [] [0,266])
  refine aH (aX ?_)
  exact eX h (gg [] [1])
 refine aI (aA (G (aL ?_)))
 obtain rfl:=sI h
 exact aD [(.slice gA)] (by kernel_rfl)
def bI(b1:Option Z1)(text1:List Int)(c1 c2 c3 c4 c5:Int)(c6:Option Nat):Option (((List Z2)×Bool)×Int) :=
 ((fO c1 c2 c3 c4 c5 c6).bind fun r2 =>
 (if(!r2)=true then some ((([]:List Z2),false),(40:Int))
 else((bG b1 text1).bind fun(r5,r6) =>
 (if(r6 != (0:Int))=true then some ((([]:List Z2),false),r6)
 else((iW r5.1 r5.2 c1 c2 c3 c4 c5 c6).bind fun(r9,r10) =>
 ((kK r5.1 r5.2 r9).bind fun r12 =>
 some ((r12,r10),(0:Int))))))))
theorem iJ(β1:Bool){b1:Option Z1}{text1:List Int}{c1:Int}{c2:Int}{c3:Int}{c4:Int}{c5:Int}{c6:Option Nat}{res:((List Z2)×Bool)×Int}(h:bI b1 text1 c1 c2 c3 c4 c5 c6=some res):
  Pure Tryz.prog 18 [.p false (.ptr D9) b1,.p β1 (.slice (.int .u8)) text1,.agg [.i64 c1,.i64 c2,.u8 c3,.i64 c4,.i64 c5,.p false .flt c6]] (aU (bN false [⟨Y29,res.1⟩,⟨(.int .i64),res.2⟩])):=by
 refine Pure.of_body bA Tryz.func18 (by kernel_rfl) rfl (nl rfl) (fun Bw w0=> ?_) rfl
 unfold bI at h
 refine G (aC ?_)
 obtain⟨r2,q2,h⟩:=aG h
 refine GP 1 (C2 q2) (aO h (fun hb1 h=> ?_) (fun hb1 h=> ?_))
 ·refine G (aL (aE ?_))
  obtain rfl:=sI h
  exact aD [Y29,(.int .i64)] (by kernel_rfl)
 refine aB (aA ?_)
 obtain⟨⟨r5,r6⟩,q4,h⟩:=aG h
 refine GP 2 (g9 β1 q4) (aC (G (aO h (fun hb2 h=> ?_) (fun hb2 h=> ?_))))
 ·refine G (aL (aE ?_))
  obtain rfl:=sI h
  exact aD [Y29,(.int .i64)] (by kernel_rfl)
 refine aB (aA ?_)
 obtain⟨⟨r9,r10⟩,q6,h⟩:=aG h
 refine GP 2 (yB false false q6) ?_
 obtain⟨r12,q8,h⟩:=aG h
 refine GP 2 (C0 false false false q8) (aL ?_)
 obtain rfl:=sI h
 exact aD [Y29,(.int .i64)] (by kernel_rfl)
end
end Go.Proofs.YtflahpmlcfhpcaaGreatDoor.T
