/- Functions of the program as functions on data, and that the program's own come to them. -/
import Derived.Test.YtbedjpdfkmfplaaGreatDoorTvT21b0
import Derived.Test.YtbedjpdfkmfplaaGreatDoorTvT21ba2
namespace Go.Proofs.YtbedjpdfkmfplaaGreatDoor.T
open Go Go.Tv Go.Proofs
noncomputable section
set_option maxRecDepth 100000
set_option maxHeartbeats 4000000
def xB(r2:List Z8):(Int)→Option ((Int)⊕(Int)):=fun v28 =>
 (((if(decide (v28<(r2.length:Int)))=true then(if 0≤v28∧v28<(r2.length:Int)then((sJ ((r2.getD v28.toNat (0,0,0)).1)).bind fun r63 =>
 some ((!r63)))else none)
 else some (false))).bind fun v30=>(if v30=true then some (Sum.inl (IntKind.i64.wrap (v28+1)))
 else some (Sum.inr v28)))
def xK(r2:List Z8):((List kK)×(List kK)×Int)→Option (((List kK)×(List kK)×Int)⊕(((List kK)×List kK)⊕(((List kK)×List kK)×Int×Int))):=fun(v20,v21,v22) =>
 (if(decide (v22<(r2.length:Int)))=true then(if 0≤v22∧v22<(r2.length:Int)then((sJ ((r2.getD v22.toNat (0,0,0)).1)).bind fun r54 =>
 (if r54=true then some (Sum.inl (v20,v21,(IntKind.i64.wrap (v22+1))))
 else((iter (xB r2) v22).bind fun v29=>(if 0≤v22∧v22<(r2.length:Int)then(if(decide ((IntKind.i64.wrap ((v20.length:Int)+(v21.length:Int)))≥256))=true then some (Sum.inr (Sum.inr ((([]:List kK),([]:List kK)),(24,(r2.getD v22.toNat (0,0,0)).2.1))))
 else(if 0≤v22∧v22≤v29∧v29≤v29∧v29≤(r2.length:Int)then((V7 ((r2.take v29.toNat).drop v22.toNat)).bind fun(r66,r67) =>
 (if(!r67)=true then some (Sum.inr (Sum.inr ((([]:List kK),([]:List kK)),(30,(r2.getD v22.toNat (0,0,0)).2.1))))
 else((kZ ((r2.take v29.toNat).drop v22.toNat)).bind fun r69 =>
 (((if(!r69)=true then(if(v20.length+([(r66.1,r66.2)]:List kK).length)*48≤140737488355328∧v20.length+([(r66.1,r66.2)]:List kK).length≤9223372036854775807 then some ((Sum.inl ((v20++([(r66.1,r66.2)]:List kK)),v21)))else none)
 else((tT v21 r66.1 r66.2).bind fun r75 =>
 (if r75=true then some ((Sum.inr ((([]:List kK),([]:List kK)),(23,(r2.getD v22.toNat (0,0,0)).2.1))))
 else(if(v21.length+([(r66.1,r66.2)]:List kK).length)*48≤140737488355328∧v21.length+([(r66.1,r66.2)]:List kK).length≤9223372036854775807 then some ((Sum.inl (v20,(v21++([(r66.1,r66.2)]:List kK)))))else none))))).bind fun(r76:(((List kK)×List kK)⊕(((List kK)×List kK)×Int×Int)))=>match r76 with
 | .inl (v31,v32)=>some (Sum.inl (v31,v32,v29))
 | .inr ((r72,r73))=>some (Sum.inr (Sum.inr (r72,r73)))))))else none))else none))))else none)
 else some (Sum.inr (Sum.inl (v20,v21))))
def xQ(d1:List UInt8):Option (((List kK)×List kK)×Int×Int) :=
 (if(decide ((d1.length:Int) > 4096))=true then some ((([]:List kK),([]:List kK)),(24,4096))
 else((qD (dB d1)).bind fun r2 =>
 ((iter (xK r2) (([]:List kK),([]:List kK),0)).bind fun(r77:(((List kK)×List kK)⊕(((List kK)×List kK)×Int×Int)))=>match r77 with
 | .inl (v23,v24)=>some ((v23,v24),(0,0))
 | .inr ((r51,r52))=>some (r51,r52))))
theorem aAk{d1:List UInt8}{res:((List kK)×List kK)×Int×Int}(h:xQ d1=some res):
  Pure Tryz.prog 55 [.st d1] (aX (bJ false [⟨Y26,res.1⟩,⟨Y2,res.2⟩])):=by
 refine Pure.of_body bB Tryz.func55 (by kernel_rfl) rfl (nl rfl) (fun Bw w0=> ?_) rfl
 unfold xQ at h
 refine G (G (aC (G (aO h (fun hb1 h=> ?_) (fun hb1 h=> ?_)))))
 ·refine G (aL (aE ?_))
  obtain rfl:=sI h
  exact aD [Y26,Y2] (by kernel_rfl)
 refine aB (aA ?_)
 obtain⟨r2,q2,h⟩:=aG h
 refine GP 2 (J6 false q2) (aC (G (aF (mG h (fun(v20,v21,v22)=>aM [(2,.adr 0 0 2 0),(3,.adr 1 0 2 0),(4,.adr 2 0 2 0),(5,.p false (.slice (.prod (.int .i32) Y2)) r2),(6,.i64 v22)] (aGi 0 (0:Int) v20 v21) 5) (eI (fV Tryz.f55.ntmps 0 (fun(v23,v24)=>aM [(2,.adr 0 0 2 0),(3,.adr 1 0 2 0),(4,.adr 2 0 2 0)] (aGi 0 (0:Int) v23 v24) 5)) (iC tb Tryz.f55.results.toList (fun(r51,r52)=>[⟨Y26,r51⟩,⟨Y2,r52⟩]))) (gg [.nilC 16 0 88 221 Q7,.nilC 16 1 89 221 Q7] [0,8,16,88,89]) (fun y o h=> ?_) (fun r77 h e σ' hq=> ?_)))))
 ·obtain⟨v20,v21,v22⟩:=y
  unfold xK at h
  refine aC (G (aO h (fun hb42 h=> ?_) (fun hb42 h=> ?_)))
  ·refine aB (aA (aF (aC ?_)))
   obtain⟨c48,h⟩:=aS h
   obtain⟨r54,q42,h⟩:=aG h
   have u_1:=(xH q42)
   refine GN ⟨[],[(5,(oP u_1))]⟩ [(2,2,oc c48),(5,5,oc u_1)] (aO h (fun hb43 h=> ?_) (fun hb43 h=> ?_))
   ·refine G (aH (aY (aJ ?_)))
    exact eB h (gg [] [0,1,2,3,4])
   refine aB (aA (G (aC (aF (cW h (fun v28=>aM [(2,.adr 0 0 2 0),(3,.adr 1 0 2 0),(4,.adr 2 0 2 0),(5,.p false (.slice (.prod (.int .i32) Y2)) r2),(6,.i64 v22),(7,.i64 v28)] (aGi 0 (0:Int) v20 v21) 5) 2 (fun v29=>aM [(2,.adr 0 0 2 0),(3,.adr 1 0 2 0),(4,.adr 2 0 2 0),(5,.p false (.slice (.prod (.int .i32) Y2)) r2),(6,.i64 v22),(7,.i64 v29)] (aGi 0 (0:Int) v20 v21) 5) (gg [] [0,1,2,3,4]) (fun v28 o h=> ?_) (fun v29 h=> ?_))))))
   ·unfold xB at h
    refine aC (aC (bO h (fun v30=>aM [(2,.adr 0 0 2 0),(3,.adr 1 0 2 0),(4,.adr 2 0 2 0),(5,.p false (.slice (.prod (.int .i32) Y2)) r2),(6,.i64 v22),(7,.i64 v28),(45,.bo v30)] (aGi 0 (0:Int) v20 v21) 5) (fun v30 h=> ?_) (fun v30 h=> ?_)))
    ·rcases aW h with⟨hb54,h⟩ | ⟨hb54,h⟩
     ·obtain⟨c57,h⟩:=aS h
      obtain⟨r63,q51,h⟩:=aG h
      have u_1:=(xH q51)
      refine bS ⟨[(4,true),(12,true)],[(10,(oP u_1))]⟩ [(5,6,an hb54),(7,7,oc (And.intro hb54 c57)),(8,9,an hb54),(10,10,oc (And.intro hb54 u_1)),(11,11,an hb54),(12,12,oc hb54)] ?_
      exact eN h (gg [] [0,1,2,3,4])
     refine bS ⟨[(4,false),(12,false)],[]⟩ [(5,12,oc hb54)] ?_
     exact eN h (gg [] [0,1,2,3,4])
    refine aA (aO h (fun hb55 h=> ?_) (fun hb55 h=> ?_))
    ·refine aB (aA (aF (Ge (aK ?_))))
     exact eB h (gg [] [0,1,2,3,4])
    refine aH (aY ?_)
    exact eX h (gg [] [0,1,2,3,4])
   refine aJ (aA (GC 2 h (fun h=>aC (G (aO h (fun hb56 h=> ?_) (fun hb56 h=> ?_))))))
   ·refine G (aL ?_)
    obtain rfl:=sI h
    refine aE (aN (bX (aU ?_)))
    exact bW (aD [Y26,Y2] (by kernel_rfl))
   refine aB (aA (GC 4 h (fun h=> ?_)))
   obtain⟨⟨r66,r67⟩,q53,h⟩:=aG h
   refine GP 1 (aCX false q53) (aC (aF (G (aO h (fun hb57 h=> ?_) (fun hb57 h=> ?_)))))
   ·refine G (aL ?_)
    obtain rfl:=sI h
    refine aN (aE (aN (bX (aU ?_))))
    exact bW (aD [Y26,Y2] (by kernel_rfl))
   obtain⟨r69,q55,h⟩:=aG h
   refine GP 1 (qE false q55) (aEl h (eI (sT Tryz.f55.ntmps (fun(v31,v32)=>aM [(2,.adr 0 0 2 0),(3,.adr 1 0 2 0),(4,.adr 2 0 2 0),(5,.p false (.slice (.prod (.int .i32) Y2)) r2),(7,.i64 v29)] (aGi 0 (0:Int) v31 v32) 5)) (iC tb Tryz.f55.results.toList (fun(r72,r73)=>[⟨Y26,r72⟩,⟨Y2,r73⟩]))) (fun r76 h=> ?_) (fun r76 h e σ' hq=> ?_))
   ·refine aO h (fun hb60 h=> ?_) (fun hb60 h=> ?_)
    ·refine GCe 4 h (fun h=> ?_)
     obtain rfl:=sI h
     refine bI ?_
     exact dI (gg [] [0,1,2,317,4])
    obtain⟨r75,q59,h⟩:=aG h
    refine GP 3 (W4 true false false q59) (aO h (fun hb61 h=> ?_) (fun hb61 h=> ?_))
    ·refine G (aL ?_)
     obtain rfl:=sI h
     refine aU ?_
     exact bW (aD [Y26,Y2] (by kernel_rfl))
    refine GCe 4 h (fun h=> ?_)
    obtain rfl:=sI h
    refine bI ?_
    exact dI (gg [] [0,1,2,3,357])
   rcases r76 with⟨v31,v32⟩ | ⟨r72,r73⟩
   ·obtain⟨rfl,hle⟩:=hq
    refine dH ?_ hle
    refine aK (aA (Ge (aK ?_)))
    exact eB h (gg [] [0,1,2,3,4])
   obtain⟨rfl,hr⟩:=hq
   obtain rfl:=sI h
   refine aN (aE (aN (bX (aU ?_))))
   exact bW hr
  refine aH (aY ?_)
  obtain rfl:=sI h
  refine eR (bI ?_)
  exact b8 (gg [] [0,1,2,3,4])
 rcases r77 with⟨v23,v24⟩ | ⟨r51,r52⟩
 ·obtain⟨rfl,hle⟩:=hq
  refine dH ?_ hle
  refine aJ (aA (G (pV [.frzC 0 0,.frzC 0 1] (by kernel_rfl) (aL ?_))))
  obtain rfl:=sI h
  exact aD [Y26,Y2] (by kernel_rfl)
 obtain⟨rfl,hr⟩:=hq
 refine aN (aE ?_)
 obtain rfl:=sI h
 exact hr
def G9(s1:List Z8):Option (List Z8):=(if s1.isEmpty=true then some []else(if(([]:List Z8).length+s1.length)*16≤140737488355328∧([]:List Z8).length+s1.length≤9223372036854775807 then some (([]:List Z8)++s1)else none))
theorem aBw(β0:Bool){s1:List Z8}{res:List Z8}(h:G9 s1=some res):
  Pure Tryz.prog 56 [.p β0 (.slice (.prod (.int .i32) Y1)) s1] (aX (bJ false [⟨(.slice (.prod (.int .i32) Y1)),res⟩])):=by
 refine Pure.of_body bB Tryz.func56 (by kernel_rfl) rfl (nl rfl) (fun Bw w0=> ?_) rfl
 unfold G9 at h
 refine G (aC (aEG bB (d:=3) (e:=4) (A:=(.prod (.int .i32) Y1)) (xs:=s1) (el:=106) (β:=β0) rfl rfl rfl rfl rfl (by kernel_rfl) (by kernel_rfl) (by kernel_rfl) (fun b hb=> ?_)))
 cases b with
 | true =>
  obtain rfl:=hb rfl
  obtain rfl:=sI h
  exact sX rfl (G (aL (aE (aD [(.slice (.prod (.int .i32) Y1))] (by kernel_rfl)))))
 | false =>
  replace h:(if(([]:List Z8).length+s1.length)*16≤140737488355328∧([]:List Z8).length+s1.length≤9223372036854775807 then some (([]:List Z8)++s1)else none)=some res:=by cases s1 <;> simpa using h
  refine P4 rfl (aB (aA (GC 2 h (fun h=>aL ?_))))
  obtain rfl:=sI h
  exact aD [(.slice (.prod (.int .i32) Y1))] (by kernel_rfl)
def A0(d1:List kK):(Unit)→Option ((Unit)⊕(Unit)):=fun _ =>
 (if(decide (0<(d1.length:Int)))=true then none
 else some (Sum.inr ()))
def F2(d1:List kK):Option (Option Z19) :=
 (if 0≤(1:Int)∧(1:Int)≤1∧32*(1:Int)≤281474976710656∧(1:Int)≤9223372036854775807 then((iter (A0 d1) ()).bind fun _=>some (some ((List.replicate (1:Int).toNat (([]:List (Int×Int)),([]:List Int))),()):Option Z19))else none)
theorem aBT(β0:Bool){d1:List kK}{res:Option Z19}(h:F2 d1=some res):
  Pure Tryz.prog 57 [.p β0 (.slice Q7) d1] (aX (bJ false [⟨(.ptr F9),res⟩])):=by
 refine Pure.of_body bB Tryz.func57 (by kernel_rfl) rfl (nl rfl) (fun Bw w0=> ?_) rfl
 unfold F2 at h
 refine G (GC 0 h (fun h=>aC (G (aF (cW h (fun _=>aM [(3,.adr 0 0 1 0),(17,.p β0 (.slice Q7) d1),(18,.i64 (d1.length:Int)),(19,.i64 0)] [(0,.box [.sl 1]),(1,.arr 233 Y18 (List.replicate (1:Int).toNat (([]:List (Int×Int)),([]:List Int))))] 2) 0 (fun _=>aM [(3,.adr 0 0 1 0)] [(0,.box [.sl 1]),(1,.arr 233 Y18 (List.replicate (1:Int).toNat (([]:List (Int×Int)),([]:List Int))))] 2) (gg [] [24,8]) (fun y o h=> ?_) (fun r1 h=> ?_))))))
 ·unfold A0 at h
  refine G (aC (aO h (fun hb2 h=> ?_) (fun hb2 h=> ?_)))
  ·refine aB (aA (aC (aF (aC ?_))))
   cases h
  refine aH (aY ?_)
  exact eX h (gg [] [0,1])
 refine aJ (aA (G (pV [.frzC 0 0] (by kernel_rfl) (aL ?_))))
 obtain rfl:=sI h
 exact aD [(.ptr F9)] (by kernel_rfl)
def u4(text1:List UInt8)(letters1:List Z8)(left1 right1:Int):Option ((Option Z3)×Int×Int) :=
 ((yG letters1).bind fun r2 =>
 (if(!r2)=true then some ((none:Option Z3),(10,0))
 else(((if(decide (left1<1))=true then some (true)
 else(if(decide (right1<1))=true then some (true)
 else(if(decide (left1 > 24))=true then some (true)
 else some ((decide (right1 > 24))))))).bind fun v1=>(if v1=true then some ((none:Option Z3),(40,0))
 else((xQ text1).bind fun(r5,r6) =>
 (if(r6.1 != 0)=true then some ((none:Option Z3),(r6.1,r6.2))
 else((G9 letters1).bind fun r9 =>
 ((F2 r5.1).bind fun r10 =>
 some ((some (r9,(r10,(r5.2,(left1,right1)))):Option Z3),(0,0))))))))))
theorem aD7(β1:Bool){text1:List UInt8}{letters1:List Z8}{left1:Int}{right1:Int}{res:(Option Z3)×Int×Int}(h:u4 text1 letters1 left1 right1=some res):
  Pure Tryz.prog 32 [.st text1,.p β1 (.slice (.prod (.int .i32) Y1)) letters1,.i64 left1,.i64 right1] (aX (bJ false [⟨(.ptr rF),res.1⟩,⟨Y2,res.2⟩])):=by
 refine Pure.of_body bB Tryz.func32 (by kernel_rfl) rfl (nl rfl) (fun Bw w0=> ?_) rfl
 unfold u4 at h
 refine G (aC ?_)
 obtain⟨r2,q2,h⟩:=aG h
 refine GP 1 (X7 β1 q2) (aO h (fun hb1 h=> ?_) (fun hb1 h=> ?_))
 ·refine G (aL (aE ?_))
  obtain rfl:=sI h
  exact aD [(.ptr rF),Y2] (by kernel_rfl)
 refine aB (aA (aC (aC (bO h (fun v1=>aM [(0,.st text1),(1,.p β1 (.slice (.prod (.int .i32) Y1)) letters1),(2,.i64 left1),(3,.i64 right1),(9,.adr 0 0 2 0),(29,.bo v1)] [(0,.box [.i64 0,.i64 0])] 1) (fun v1 h=> ?_) (fun v1 h=> ?_)))))
 ·rcases aW h with⟨hb8,h⟩ | ⟨hb8,h⟩
  ·refine bS ⟨[(2,true),(5,true)],[]⟩ [(3,5,oc hb8)] ?_
   exact eN h (gg [] [8])
  rcases aW h with⟨hb9,h⟩ | ⟨hb9,h⟩
  ·refine bS ⟨[(2,false),(5,false),(6,true),(9,true)],[]⟩ [(3,4,an hb8),(5,5,oc hb8),(7,9,oc hb9)] ?_
   exact eN h (gg [] [8])
  rcases aW h with⟨hb10,h⟩ | ⟨hb10,h⟩
  ·refine bS ⟨[(2,false),(5,false),(6,false),(9,false),(10,true),(13,true)],[]⟩ [(3,4,an hb8),(5,5,oc hb8),(7,8,an hb9),(9,9,oc hb9),(11,13,oc hb10)] ?_
   exact eN h (gg [] [8])
  refine bS ⟨[(2,false),(5,false),(6,false),(9,false),(10,false),(13,false)],[]⟩ [(3,4,an hb8),(5,5,oc hb8),(7,8,an hb9),(9,9,oc hb9),(11,12,an hb10),(13,13,oc hb10)] ?_
  exact eN h (gg [] [8])
 refine aA (aO h (fun hb11 h=> ?_) (fun hb11 h=> ?_))
 ·refine G (aL (aE ?_))
  obtain rfl:=sI h
  exact aD [(.ptr rF),Y2] (by kernel_rfl)
 refine aB (aA ?_)
 obtain⟨⟨r5,r6⟩,q4,h⟩:=aG h
 refine GP 1 (aAk q4) (aC (G (aO h (fun hb12 h=> ?_) (fun hb12 h=> ?_))))
 ·refine GD a0 [] (aL (aE ?_))
  obtain rfl:=sI h
  exact aD [(.ptr rF),Y2] (by kernel_rfl)
 refine aB (aA ?_)
 obtain⟨r9,q7,h⟩:=aG h
 obtain⟨r10,q8,h⟩:=aG h
 have u_1:=(aBw β1 q7)
 have u_2:=(aBT false q8)
 refine GD ⟨[],[(1,(oP u_1)),(4,(oP u_2))]⟩ [(1,1,oc u_1),(4,4,oc u_2)] (aL ?_)
 obtain rfl:=sI h
 exact aD [(.ptr rF),Y2] (by kernel_rfl)
def n4(d1 d2 d3 d4:List Z8)(d5 d6 d7:List UInt8)(d8 d9:Int):Option ((Option Z1)×Int×Int) :=
 ((lP d5).bind fun(r3,r4) =>
 (if(r4.1 != 0)=true then some ((none:Option Z1),(r4.1,r4.2))
 else((lP d6).bind fun(r7,r8) =>
 (if(r8.1 != 0)=true then some ((none:Option Z1),(r8.1,r8.2))
 else((dP r3).bind fun r11 =>
 ((dP r7).bind fun r12 =>
 (if 0≤(0:Int)∧0<((3:Nat):Int)then((iT d1 r11).bind fun(r15,r16) =>
 (if(r16 != 0)=true then some ((none:Option Z1),(r16,0))
 else(if 0≤(1:Int)∧1<((3:Nat):Int)then((iT d2 r12).bind fun(r19,r20) =>
 (if(r20 != 0)=true then some ((none:Option Z1),(r20,0))
 else(if 0≤(2:Int)∧2<((3:Nat):Int)then((iT d3 3).bind fun(r23,r24) =>
 (if(r24 != 0)=true then some ((none:Option Z1),(r24,0))
 else((u4 d7 d4 d8 d9).bind fun(r27,r28) =>
 (if(r28.1 != 0)=true then some ((none:Option Z1),(r28.1,r28.2))
 else some ((some (r3,(r7,(r15,(r19,(r23,r27))))):Option Z1),(0,0))))))else none)))else none)))else none)))))))
theorem J8(β0 β1 β2 β3:Bool){d1:List Z8}{d2:List Z8}{d3:List Z8}{d4:List Z8}{d5:List UInt8}{d6:List UInt8}{d7:List UInt8}{d8:Int}{d9:Int}{res:(Option Z1)×Int×Int}(h:n4 d1 d2 d3 d4 d5 d6 d7 d8 d9=some res):
  Pure Tryz.prog 9 [.agg [.p β0 (.slice (.prod (.int .i32) Y1)) d1,.p β1 (.slice (.prod (.int .i32) Y1)) d2,.p β2 (.slice (.prod (.int .i32) Y1)) d3,.p β3 (.slice (.prod (.int .i32) Y1)) d4,.st d5,.st d6,.st d7,.i64 d8,.i64 d9]] (aX (bJ false [⟨(.ptr qJ),res.1⟩,⟨Y2,res.2⟩])):=by
 refine Pure.of_body bB Tryz.func9 (by kernel_rfl) rfl (nl rfl) (fun Bw w0=> ?_) rfl
 unfold n4 at h
 refine G (G (G (aC ?_)))
 obtain⟨⟨r3,r4⟩,q2,h⟩:=aG h
 refine GP 3 (K8 q2) (G (aO h (fun hb1 h=> ?_) (fun hb1 h=> ?_)))
 ·refine GD a0 [] (aL (aE ?_))
  obtain rfl:=sI h
  exact aD [(.ptr qJ),Y2] (by kernel_rfl)
 refine aB (aA (aC ?_))
 obtain⟨⟨r7,r8⟩,q4,h⟩:=aG h
 refine GP 3 (K8 q4) (G (aO h (fun hb2 h=> ?_) (fun hb2 h=> ?_)))
 ·refine GD a0 [] (aL (aE ?_))
  obtain rfl:=sI h
  exact aD [(.ptr qJ),Y2] (by kernel_rfl)
 refine aB (aA (aC ?_))
 obtain⟨r11,q7,h⟩:=aG h
 obtain⟨r12,q8,h⟩:=aG h
 have u_1:=(j1 false q7)
 have u_2:=(j1 false q8)
 refine GD ⟨[],[(9,(oP u_1)),(20,(oP u_2))]⟩ [(9,9,oc u_1),(20,20,oc u_2)] (aF (X1 9 (G (aC (sX rfl (aB (aA (aC (aF (GC 0 h (fun h=> ?_)))))))))))
 obtain⟨⟨r15,r16⟩,q10,h⟩:=aG h
 refine GP 4 (qZ β0 q10) (aC (G (aO h (fun hb3 h=> ?_) (fun hb3 h=> ?_))))
 ·refine G (aL (aE (aN (aE (aEr (aN (aE ?_)))))))
  obtain rfl:=sI h
  exact aD [(.ptr qJ),Y2] (by kernel_rfl)
 refine aB (aA (Ge (aK (aA (Ge (zP (G (aC (sX rfl (aB (aA (aC (aF (GC 0 h (fun h=> ?_)))))))))))))))
 obtain⟨⟨r19,r20⟩,q12,h⟩:=aG h
 refine GP 4 (qZ β1 q12) (aC (G (aO h (fun hb4 h=> ?_) (fun hb4 h=> ?_))))
 ·refine G (aL (aE (aN (aE (aEr (aN (aE ?_)))))))
  obtain rfl:=sI h
  exact aD [(.ptr qJ),Y2] (by kernel_rfl)
 refine aB (aA (Ge (aK (aA (Ge (zP (G (aC (sX rfl (aB (aA (aC (aF (GC 0 h (fun h=> ?_)))))))))))))))
 obtain⟨⟨r23,r24⟩,q14,h⟩:=aG h
 refine GP 4 (qZ β2 q14) (aC (G (aO h (fun hb5 h=> ?_) (fun hb5 h=> ?_))))
 ·refine G (aL (aE (aN (aE (aEr (aN (aE ?_)))))))
  obtain rfl:=sI h
  exact aD [(.ptr qJ),Y2] (by kernel_rfl)
 refine aB (aA (Ge (aK (aA (Ge (zP (G (aC (P4 rfl (aH (aY (rQE (aJ (aA (aC ?_)))))))))))))))
 obtain⟨⟨r27,r28⟩,q16,h⟩:=aG h
 refine GP 9 (aD7 β3 q16) (G (aO h (fun hb6 h=> ?_) (fun hb6 h=> ?_)))
 ·refine GD a0 [] (aL (aE ?_))
  obtain rfl:=sI h
  exact aD [(.ptr qJ),Y2] (by kernel_rfl)
 refine aB (aA (G (aL ?_)))
 obtain rfl:=sI h
 exact aD [(.ptr qJ),Y2] (by kernel_rfl)
def dZ(c1 c2 c3 c4 c5:Int)(c6:Option Nat):Option (Bool) :=
 (((if(decide (c1≥1))=true then(if(decide (c1≤1048576))=true then(if(decide (c2≥1))=true then(if(decide (c2≤64))=true then(if(decide (c3≤1))=true then(if(decide (c4≥0))=true then(if(decide (c4≤1048576))=true then(if(decide (c5≥0))=true then some ((decide (c5≤1048576)))
 else some (false))
 else some (false))
 else some (false))
 else some (false))
 else some (false))
 else some (false))
 else some (false))
 else some (false))).bind fun v1=>some v1)
theorem xC{c1:Int}{c2:Int}{c3:Int}{c4:Int}{c5:Int}{c6:Option Nat}{res:Bool}(h:dZ c1 c2 c3 c4 c5 c6=some res):
  Pure Tryz.prog 38 [.agg [.i64 c1,.i64 c2,.u8 c3,.i64 c4,.i64 c5,.p false .flt c6]] (aX (bJ false [⟨.bool,res⟩])):=by
 refine Pure.of_body bB Tryz.func38 (by kernel_rfl) rfl (nl rfl) (fun Bw w0=> ?_) rfl
 unfold dZ at h
 refine G (aC (bO h (fun v1=>aM [(2,.bo v1)] [] 0) (fun v1 h=> ?_) (fun v1 h=> ?_)))
 ·rcases aW h with⟨hb17,h⟩ | ⟨hb17,h⟩
  ·rcases aW h with⟨hb18,h⟩ | ⟨hb18,h⟩
   ·rcases aW h with⟨hb19,h⟩ | ⟨hb19,h⟩
    ·rcases aW h with⟨hb20,h⟩ | ⟨hb20,h⟩
     ·rcases aW h with⟨hb21,h⟩ | ⟨hb21,h⟩
      ·rcases aW h with⟨hb22,h⟩ | ⟨hb22,h⟩
       ·rcases aW h with⟨hb23,h⟩ | ⟨hb23,h⟩
        ·rcases aW h with⟨hb24,h⟩ | ⟨hb24,h⟩
         ·refine bS ⟨[(3,true),(7,true),(8,true),(12,true),(13,true),(17,true),(18,true),(22,true),(23,true),(27,true),(28,true),(32,true),(33,true),(37,true),(38,true),(42,true)],[]⟩ [(4,6,an hb17),(7,7,oc hb17),(9,11,an hb18),(12,12,oc hb18),(14,16,an hb19),(17,17,oc hb19),(19,21,an hb20),(22,22,oc hb20),(24,26,an hb21),(27,27,oc hb21),(29,31,an hb22),(32,32,oc hb22),(34,36,an hb23),(37,37,oc hb23),(39,41,an hb24),(42,42,oc hb24)] ?_
          exact eN h (gg [] [])
         refine bS ⟨[(3,true),(7,true),(8,true),(12,true),(13,true),(17,true),(18,true),(22,true),(23,true),(27,true),(28,true),(32,true),(33,true),(37,true),(38,false),(42,false)],[]⟩ [(4,6,an hb17),(7,7,oc hb17),(9,11,an hb18),(12,12,oc hb18),(14,16,an hb19),(17,17,oc hb19),(19,21,an hb20),(22,22,oc hb20),(24,26,an hb21),(27,27,oc hb21),(29,31,an hb22),(32,32,oc hb22),(34,36,an hb23),(37,37,oc hb23),(39,42,oc hb24)] ?_
         exact eN h (gg [] [])
        refine bS ⟨[(3,true),(7,true),(8,true),(12,true),(13,true),(17,true),(18,true),(22,true),(23,true),(27,true),(28,true),(32,true),(33,false),(37,false)],[]⟩ [(4,6,an hb17),(7,7,oc hb17),(9,11,an hb18),(12,12,oc hb18),(14,16,an hb19),(17,17,oc hb19),(19,21,an hb20),(22,22,oc hb20),(24,26,an hb21),(27,27,oc hb21),(29,31,an hb22),(32,32,oc hb22),(34,37,oc hb23)] ?_
        exact eN h (gg [] [])
       refine bS ⟨[(3,true),(7,true),(8,true),(12,true),(13,true),(17,true),(18,true),(22,true),(23,true),(27,true),(28,false),(32,false)],[]⟩ [(4,6,an hb17),(7,7,oc hb17),(9,11,an hb18),(12,12,oc hb18),(14,16,an hb19),(17,17,oc hb19),(19,21,an hb20),(22,22,oc hb20),(24,26,an hb21),(27,27,oc hb21),(29,32,oc hb22)] ?_
       exact eN h (gg [] [])
      refine bS ⟨[(3,true),(7,true),(8,true),(12,true),(13,true),(17,true),(18,true),(22,true),(23,false),(27,false)],[]⟩ [(4,6,an hb17),(7,7,oc hb17),(9,11,an hb18),(12,12,oc hb18),(14,16,an hb19),(17,17,oc hb19),(19,21,an hb20),(22,22,oc hb20),(24,27,oc hb21)] ?_
      exact eN h (gg [] [])
     refine bS ⟨[(3,true),(7,true),(8,true),(12,true),(13,true),(17,true),(18,false),(22,false)],[]⟩ [(4,6,an hb17),(7,7,oc hb17),(9,11,an hb18),(12,12,oc hb18),(14,16,an hb19),(17,17,oc hb19),(19,22,oc hb20)] ?_
     exact eN h (gg [] [])
    refine bS ⟨[(3,true),(7,true),(8,true),(12,true),(13,false),(17,false)],[]⟩ [(4,6,an hb17),(7,7,oc hb17),(9,11,an hb18),(12,12,oc hb18),(14,17,oc hb19)] ?_
    exact eN h (gg [] [])
   refine bS ⟨[(3,true),(7,true),(8,false),(12,false)],[]⟩ [(4,6,an hb17),(7,7,oc hb17),(9,12,oc hb18)] ?_
   exact eN h (gg [] [])
  refine bS ⟨[(3,false),(7,false)],[]⟩ [(4,7,oc hb17)] ?_
  exact eN h (gg [] [])
 refine aA (aL ?_)
 obtain rfl:=sI h
 exact aD [.bool] (by kernel_rfl)
def cM(s1:List Int):Option (List Int):=(if s1.isEmpty=true then some []else(if(([]:List Int).length+s1.length)*1≤140737488355328∧([]:List Int).length+s1.length≤9223372036854775807 then some (([]:List Int)++s1)else none))
theorem iX(β0:Bool){s1:List Int}{res:List Int}(h:cM s1=some res):
  Owns Tryz.prog 40 [.p β0 (.slice (.int .u8)) s1] [] (.sl 0) [(0,.arr 5 (.int .u8) res)]:=by
 refine Owns.of_body bB Tryz.func40 (by kernel_rfl) rfl (nl rfl) (fun Bw w0=> ?_)
 unfold cM at h
 refine G (aC (aEG bB (d:=3) (e:=4) (A:=(.int .u8)) (xs:=s1) (el:=5) (β:=β0) rfl rfl rfl rfl rfl (by kernel_rfl) (by kernel_rfl) (by kernel_rfl) (fun b hb=> ?_)))
 cases b with
 | true =>
  obtain rfl:=hb rfl
  obtain rfl:=sI h
  exact sX rfl (G (aL (aE (aR [none] [.nilS 2 1000 5 (.int .u8)] [1000] [(2,.sl 0)] [(0,.arr 5 (.int .u8) [])] 1 0 (by kernel_rfl) (by kernel_rfl) (by kernel_rfl)))))
 | false =>
  replace h:(if(([]:List Int).length+s1.length)*1≤140737488355328∧([]:List Int).length+s1.length≤9223372036854775807 then some (([]:List Int)++s1)else none)=some res:=by cases s1 <;> simpa using h
  refine P4 rfl (aB (aA (GC 2 h (fun h=>aL ?_))))
  obtain rfl:=sI h
  exact aR [none] [] [40] [(2,.sl 0)] [(0,.arr 5 (.int .u8) (([]:List Int)++s1))] 1 0 (by kernel_rfl) (by kernel_rfl) (by kernel_rfl)
def bF(t1:Option Z16)(r1:Int):Option (Int) :=
 (((if t1.isNone=true then some (true)
 else(if(decide (r1<0))=true then some (true)
 else some ((decide (r1 > 1114111)))))).bind fun v1=>(if v1=true then some 0
 else(if t1.isSome=true then(if 0≤(8:Int)then(if t1.isSome=true then(if 0≤(Int.fdiv r1 (2 ^ (min (8:Int).toNat IntKind.i32.bits)))∧(Int.fdiv r1 (2 ^ (min (8:Int).toNat IntKind.i32.bits)))<((4352:Nat):Int)then(if 0≤(gB ((t1.getD (Ty.zero P8)).1) (Int.fdiv r1 (2 ^ (min (8:Int).toNat IntKind.i32.bits))).toNat)∧(gB ((t1.getD (Ty.zero P8)).1) (Int.fdiv r1 (2 ^ (min (8:Int).toNat IntKind.i32.bits))).toNat)<(((t1.getD (Ty.zero P8)).2).length:Int)then(if 0≤(aT .and .i32 r1 255)∧(aT .and .i32 r1 255)<((256:Nat):Int)then some (IntKind.i64.wrap (gB (((t1.getD (Ty.zero P8)).2).getD ((gB ((t1.getD (Ty.zero P8)).1) (Int.fdiv r1 (2 ^ (min (8:Int).toNat IntKind.i32.bits))).toNat).toNat) (eA 256)) (aT .and .i32 r1 255).toNat))else none)else none)else none)else none)else none)else none)))
theorem qI(β0:Bool){t1:Option Z16}{r1:Int}{res:Int}(h:bF t1 r1=some res):
  Pure Tryz.prog 102 [.p β0 (.ptr P8) t1,.i32 r1] (aX (bJ false [⟨(.int .i64),res⟩])):=by
 refine Pure.of_body bB Tryz.func102 (by kernel_rfl) rfl (nl rfl) (fun Bw w0=> ?_) rfl
 unfold bF at h
 refine G (aC (aC (bO h (fun v1=>aM [(0,.p β0 (.ptr P8) t1),(1,.i32 r1),(14,.bo v1)] [] 0) (fun v1 h=> ?_) (fun v1 h=> ?_))))
 ·rcases aW h with⟨hb5,h⟩ | ⟨hb5,h⟩
  ·refine bS ⟨[(2,true),(5,true)],[]⟩ [(1,1,⟨∃e,Tryz.prog.underlying 90=some (.pointer e),⟨_,rfl⟩⟩),(3,5,oc hb5)] ?_
   exact eN h (gg [] [])
  rcases aW h with⟨hb6,h⟩ | ⟨hb6,h⟩
  ·refine bS ⟨[(2,false),(5,false),(6,true),(9,true)],[]⟩ [(1,1,⟨∃e,Tryz.prog.underlying 90=some (.pointer e),⟨_,rfl⟩⟩),(3,4,an hb5),(5,5,oc hb5),(7,9,oc hb6)] ?_
   exact eN h (gg [] [])
  refine bS ⟨[(2,false),(5,false),(6,false),(9,false)],[]⟩ [(1,1,⟨∃e,Tryz.prog.underlying 90=some (.pointer e),⟨_,rfl⟩⟩),(3,4,an hb5),(5,5,oc hb5),(7,8,an hb6),(9,9,oc hb6)] ?_
  exact eN h (gg [] [])
 refine aA (aO h (fun hb7 h=> ?_) (fun hb7 h=> ?_))
 ·refine G (aL (aE ?_))
  obtain rfl:=sI h
  exact aD [(.int .i64)] (by kernel_rfl)
 refine aB (aA ?_)
 obtain⟨c7,c8,c9,c10,h⟩:=g4 h
 obtain⟨c11,c12,h⟩:=g2 h
 refine GD a0 [(1,1,oc c7),(6,6,oc c8),(7,7,oc c9),(9,9,oc c10),(13,13,oc c11),(14,14,oc c12)] (aL ?_)
 obtain rfl:=sI h
 exact aD [(.int .i64)] (by kernel_rfl)
def dY(t1:Option Z16)(l1:List Z8):rY→Option (rY⊕(List Int)):=fun(out2,v2) =>
 (if(decide (v2<(l1.length:Int)))=true then(if 0≤v2∧v2<(l1.length:Int)then((bF t1 ((l1.getD v2.toNat (0,0,0)).1)).bind fun r6 =>
 (if 0≤v2∧v2<(out2.length:Int)then(if v2.toNat<out2.length then some (Sum.inl ((out2.set v2.toNat r6),(IntKind.i64.wrap (v2+1))))else none)else none))else none)
 else some (Sum.inr out2))
def cZ(t1:Option Z16)(l1:List Z8):Option (List Int) :=
 (if 0≤(l1.length:Int)∧(l1.length:Int)≤(l1.length:Int)∧8*(l1.length:Int)≤281474976710656∧(l1.length:Int)≤9223372036854775807 then((iter (dY t1 l1) ((List.replicate (l1.length:Int).toNat (0:Int)),0)).bind fun out3=>some out3)else none)
theorem nX(β0 β1:Bool){t1:Option Z16}{l1:List Z8}{res:List Int}(h:cZ t1 l1=some res):
  Pure Tryz.prog 69 [.p β0 (.ptr P8) t1,.p β1 (.slice (.prod (.int .i32) Y2)) l1] (aX (bJ false [⟨(.slice (.int .i64)),res⟩])):=by
 refine Pure.of_body bB Tryz.func69 (by kernel_rfl) rfl (nl rfl) (fun Bw w0=> ?_) rfl
 unfold cZ at h
 refine G (GC 2 h (fun h=>aC (G (aF (cW h (fun(out2,v2)=>aM [(0,.p β0 (.ptr P8) t1),(5,.sl 0),(11,.p β1 (.slice (.prod (.int .i32) Y2)) l1),(12,.i64 (l1.length:Int)),(13,.i64 v2)] [(0,.arr 3 (.int .i64) out2)] 1) 0 (fun out3=>aM [(5,.sl 0)] [(0,.arr 3 (.int .i64) out3)] 1) (gg [] [24]) (fun y o h=> ?_) (fun out3 h=> ?_))))))
 ·obtain⟨out2,v2⟩:=y
  unfold dY at h
  refine G (aC (aO h (fun hb3 h=> ?_) (fun hb3 h=> ?_)))
  ·refine aB (aA (aC (aF (GC 1 h (fun h=> ?_)))))
   obtain⟨r6,q6,h⟩:=aG h
   obtain⟨c19,c20,h⟩:=g2 h
   have u_1:=(qI β0 q6)
   refine bS ⟨[],[(5,(oP u_1))]⟩ [(5,5,oc u_1),(6,6,oc c19),(7,7,oc c20)] (aK (aA (Ge ?_)))
   exact eB h (gg [] [0])
  refine aH (aY ?_)
  exact eX h (gg [] [0])
 refine aJ (aA (G (aL ?_)))
 obtain rfl:=sI h
 exact aD [(.slice (.int .i64))] (by kernel_rfl)
def lE(a1:List (List Int))(classes1:List Int):((List Int)×Int×Int)→Option (((List Int)×Int×Int)⊕(List Int)):=fun(out2,s2,v4) =>
 (if(decide (v4<(classes1.length:Int)))=true then(if 0≤v4∧v4<(classes1.length:Int)then(((if(decide ((classes1.getD v4.toNat 0)<0))=true then some (true)
 else(if 0≤s2∧s2<(a1.length:Int)then some ((decide ((classes1.getD v4.toNat 0)≥((a1.getD s2.toNat ([]:List Int)).length:Int))))else none))).bind fun v5=>(if v5=true then some (Sum.inr out2)
 else(if 0≤s2∧s2<(a1.length:Int)then(if 0≤(classes1.getD v4.toNat 0)∧(classes1.getD v4.toNat 0)<((a1.getD s2.toNat ([]:List Int)).length:Int)then(if(out2.length+([((a1.getD s2.toNat ([]:List Int)).getD ((classes1.getD v4.toNat 0).toNat) 0)]:List Int).length)*8≤140737488355328∧out2.length+([((a1.getD s2.toNat ([]:List Int)).getD ((classes1.getD v4.toNat 0).toNat) 0)]:List Int).length≤9223372036854775807 then some (Sum.inl ((out2++([((a1.getD s2.toNat ([]:List Int)).getD ((classes1.getD v4.toNat 0).toNat) 0)]:List Int)),((a1.getD s2.toNat ([]:List Int)).getD ((classes1.getD v4.toNat 0).toNat) 0),(IntKind.i64.wrap (v4+1))))else none)else none)else none)))else none)
 else some (Sum.inr out2))
def pU(a1:List (List Int))(a2 classes1:List Int):Option (List Int) :=
 (if((a1.length:Int) == 0)=true then some ([]:List Int)
 else((iter (lE a1 classes1) (([0]:List Int),0,0)).bind fun out3=>some out3))
theorem K6(β0 β1 β2:Bool){a1:List (List Int)}{a2:List Int}{classes1:List Int}{res:List Int}(h:pU a1 a2 classes1=some res):
  Pure Tryz.prog 99 [.agg [.p β0 (.slice (.slice (.int .i64))) a1,.p β1 (.slice (.int .u32)) a2],.p β2 (.slice (.int .i64)) classes1] (aX (bJ false [⟨(.slice (.int .i64)),res⟩])):=by
 refine Pure.of_body bB Tryz.func99 (by kernel_rfl) rfl (nl rfl) (fun Bw w0=> ?_) rfl
 unfold pU at h
 refine G (aC (G (aO h (fun hb1 h=> ?_) (fun hb1 h=> ?_))))
 ·refine G (aL (aE ?_))
  obtain rfl:=sI h
  exact aD [(.slice (.int .i64))] (by kernel_rfl)
 refine aB (aA (G (G (aC (G (aF (cW h (fun(out2,s2,v4)=>aM [(2,.adr 0 0 2 0),(5,.sl 1),(6,.i64 s2),(14,.p β2 (.slice (.int .i64)) classes1),(15,.i64 (classes1.length:Int)),(16,.i64 v4)] (aKh β0 a1 β1 a2 out2) 2) 0 (fun out3=>aM [(5,.sl 0)] [(0,.arr 3 (.int .i64) out3)] 1) (gg [] [0,48]) (fun y o h=> ?_) (fun out3 h=> ?_))))))))
 ·obtain⟨out2,s2,v4⟩:=y
  unfold lE at h
  refine G (aC (aO h (fun hb12 h=> ?_) (fun hb12 h=> ?_)))
  ·refine aB (aA (aC (aF (GC 0 h (fun h=>aC (aC (bO h (fun v5=>aM [(2,.adr 0 0 2 0),(5,.sl 1),(6,.i64 s2),(8,.i64 (classes1.getD v4.toNat 0)),(14,.p β2 (.slice (.int .i64)) classes1),(15,.i64 (classes1.length:Int)),(16,.i64 v4),(31,.bo v5)] (aKh β0 a1 β1 a2 out2) 2) (fun v5 h=> ?_) (fun v5 h=> ?_))))))))
   ·rcases aW h with⟨hb15,h⟩ | ⟨hb15,h⟩
    ·refine bS ⟨[(2,true),(11,true)],[]⟩ [(3,11,oc hb15)] ?_
     exact eN h (gg [] [0,1])
    obtain⟨c27,h⟩:=aS h
    refine bS ⟨[(2,false),(11,false)],[]⟩ [(3,6,an hb15),(7,7,oc (And.intro hb15 c27)),(8,10,an hb15),(11,11,oc hb15)] ?_
    exact eN h (gg [] [0,1])
   refine aA (aO h (fun hb16 h=> ?_) (fun hb16 h=> ?_))
   ·refine aH (aY (kP rfl (aY ?_)))
    exact eX h (gg [] [1])
   refine aB (aA ?_)
   obtain⟨c30,c31,h⟩:=g2 h
   refine GN a0 [(3,3,oc c30),(6,6,oc c31)] (GCe 3 h (fun h=>aK (aA (Ge ?_))))
   exact eB h (gg [] [0,98])
  refine aH (aY ?_)
  exact eX h (gg [] [1])
 refine aJ (aA (G (aL ?_)))
 obtain rfl:=sI h
 exact aD [(.slice (.int .i64))] (by kernel_rfl)
def bZ  : ((List Int)×Int×Int)→Option (((List Int)×Int×Int)⊕(List Int)):=fun(s5,i4,j4) =>
 (if(decide (i4<j4))=true then(if 0≤j4∧j4<(s5.length:Int)then(if j4.toNat<s5.length then(if 0≤i4∧i4<(s5.length:Int)then(if i4.toNat<s5.length then(if 0≤i4∧i4<(s5.length:Int)then(if i4.toNat<s5.length then(if 0≤j4∧j4<((s5.set i4.toNat (s5.getD j4.toNat 0)).length:Int)then(if j4.toNat<(s5.set i4.toNat (s5.getD j4.toNat 0)).length then some (Sum.inl (((s5.set i4.toNat (s5.getD j4.toNat 0)).set j4.toNat (s5.getD i4.toNat 0)),(IntKind.i64.wrap (i4+1)),(IntKind.i64.wrap (j4 - 1))))else none)else none)else none)else none)else none)else none)else none)else none)
 else some (Sum.inr s5))
def cO(s1:List Int):Option (List Int) :=
 ((iter (bZ) (s1,0,(IntKind.i64.wrap ((s1.length:Int) - 1)))).bind fun v3=>some v3)
theorem lU{s1:List Int}{res:List Int}(h:cO s1=some res):
  Owns Tryz.prog 100 [.sl 0] [(0,.arr 3 (.int .i64) s1)] (.tup []) [(0,.arr 3 (.int .i64) res)]:=by
 refine Owns.of_body bB Tryz.func100 (by kernel_rfl) rfl (nl rfl) (fun Bw w0=> ?_)
 unfold cO at h
 refine G (aF (cW h (fun(s5,i4,j4)=>aM [(0,.sl 0),(2,.i64 i4),(3,.i64 j4)] [(0,.arr 3 (.int .i64) s5)] 1 1) 0 (fun v3=>aM [] [(0,.arr 3 (.int .i64) v3)] 1 1) (gg [] [0]) (fun y o h=> ?_) (fun v3 h=> ?_)))
 ·obtain⟨s5,i4,j4⟩:=y
  unfold bZ at h
  refine aC (G (aO h (fun hb6 h=> ?_) (fun hb6 h=> ?_)))
  ·refine aB (aA (aC (aF ?_)))
   obtain⟨c89,c90,c91,c92,h⟩:=g4 h
   obtain⟨c93,c94,c95,c96,h⟩:=g4 h
   refine qA a0 [(6,6,oc c89),(7,7,oc c90),(10,10,oc c91),(11,11,oc c92),(12,12,oc c93),(13,13,oc c94),(14,14,oc c95),(15,15,oc c96)] (aK (aA (Ge ?_)))
   exact eB h (gg [] [0])
  refine aH (aY ?_)
  exact eX h (gg [] [0])
 refine aJ ?_
 obtain rfl:=sI h
 exact(aR [] [] [0] [] [(0,.arr 3 (.int .i64) v3)] 1 1 (by kernel_rfl) (by kernel_rfl) (by kernel_rfl)).normal
def hY(x1:Int):Option (Int):=some (wN x1)
theorem nA(x:Int)(w:World)(hl:K4 Tryz.prog w):Calls Tryz.prog 101 #[.int .u32 x] w fun e w'=>e = .returned (.int .i64 (wN x))∧w'=w:=by
 have hc:w.cell? ⟨0,(bits BinOp.and IntKind.u32 x (-x % 4294967296)*125613361 % 4294967296 / 134217728).toNat,none⟩=some (.int .u8 (deB.getD (bits BinOp.and IntKind.u32 x (-x % 4294967296)*125613361 % 4294967296 / 134217728).toNat 0)):=hl 0 (by kernel_rfl) _ (aHA _)
 go_enter Tryz.func101,Tryz.ntmps101
 go_wp2
 ·rename_i h
  go_ret
  exact⟨by rw[aFR h];rfl,rfl⟩
 rename_i h
 go_ret
 exact⟨by rw[←aHe h,List.getD_eq_getElem?_getD];rfl,rfl⟩
theorem pX{x1:Int}{res:Int}(h:hY x1=some res):
  Pure Tryz.prog 101 [.u32 x1] (aX (bJ false [⟨(.int .i64),res⟩])):=by
 obtain rfl:=sI h
 exact Pure.of_tz Tryz.func101 (by kernel_rfl) rfl (fun w=>nA _ w)
def dV(d1:Option Z5)(i1:List Int):((List Int)×(List Int)×Bool×Int)→Option (((List Int)×(List Int)×Bool×Int)⊕kK):=fun(v10,v11,v12,v13) =>
 (if(decide (v13<(i1.length:Int)))=true then(if 0≤v13∧v13<(i1.length:Int)then(((if(decide ((i1.getD v13.toNat 0)<0))=true then some (true)
 else(if d1.isSome=true then some ((decide ((i1.getD v13.toNat 0)≥(((d1.getD (Ty.zero qO)).1.1).length:Int))))else none))).bind fun v16=>(((if v16=true then some (0)
 else some ((i1.getD v13.toNat 0)))).bind fun v17=>(((if v12=true then(if d1.isSome=true then(if 0≤v17 then some (((aT .and .u32 (Int.fdiv ((d1.getD (Ty.zero qO)).1.2.1) (2 ^ (min v17.toNat IntKind.u32.bits))) (1:Int)) == 1))else none)else none)
 else some (false))).bind fun v18=>(if v18=true then some (Sum.inl (v10,v11,v12,(IntKind.i64.wrap (v13+1))))
 else(if d1.isSome=true then(if 0≤v17 then(if(v10.length+([v13]:List Int).length)*8≤140737488355328∧v10.length+([v13]:List Int).length≤9223372036854775807 then(if d1.isSome=true then(if 0≤v17∧v17<(((d1.getD (Ty.zero qO)).1.2.2.2.1).length:Int)then(if(v11.length+([(((d1.getD (Ty.zero qO)).1.2.2.2.1).getD v17.toNat 0)]:List Int).length)*8≤140737488355328∧v11.length+([(((d1.getD (Ty.zero qO)).1.2.2.2.1).getD v17.toNat 0)]:List Int).length≤9223372036854775807 then some (Sum.inl ((v10++([v13]:List Int)),(v11++([(((d1.getD (Ty.zero qO)).1.2.2.2.1).getD v17.toNat 0)]:List Int)),((aT .and .u32 (Int.fdiv ((d1.getD (Ty.zero qO)).1.2.2.1) (2 ^ (min v17.toNat IntKind.u32.bits))) (1:Int)) == 1),(IntKind.i64.wrap (v13+1))))else none)else none)else none)else none)else none)else none)))))else none)
 else some (Sum.inr (v10,v11)))
def dX(d1:Option Z5)(v14 r3 r7:List Int):rY→Option (rY⊕(List Int)):=fun(v23,v24) =>
 (if(decide (v24<(v14.length:Int)))=true then(if d1.isSome=true then(if 0≤v24∧v24<(r3.length:Int)then(if 0≤(r3.getD v24.toNat 0)∧(r3.getD v24.toNat 0)<(((d1.getD (Ty.zero qO)).2.1.2).length:Int)then(if d1.isSome=true then(if 0≤(IntKind.i64.wrap ((v14.length:Int) - v24))∧(IntKind.i64.wrap ((v14.length:Int) - v24))<(r7.length:Int)then(if 0≤(r7.getD ((IntKind.i64.wrap ((v14.length:Int) - v24)).toNat) 0)∧(r7.getD ((IntKind.i64.wrap ((v14.length:Int) - v24)).toNat) 0)<(((d1.getD (Ty.zero qO)).2.2.2).length:Int)then(if 0≤v24∧v24<(v14.length:Int)then(if v24.toNat<v14.length then(if 0≤(v14.getD v24.toNat 0)∧(v14.getD v24.toNat 0)<(v23.length:Int)then(if(v14.getD v24.toNat 0).toNat<v23.length then(((if((aT .and .u32 (((d1.getD (Ty.zero qO)).2.1.2).getD ((r3.getD v24.toNat 0).toNat) 0) (((d1.getD (Ty.zero qO)).2.2.2).getD ((r7.getD ((IntKind.i64.wrap ((v14.length:Int) - v24)).toNat) 0).toNat) 0)) != 0)=true then(if 0≤v24∧v24<(v14.length:Int)then(if v24.toNat<v14.length then(if d1.isSome=true then((hY (aT .and .u32 (((d1.getD (Ty.zero qO)).2.1.2).getD ((r3.getD v24.toNat 0).toNat) 0) (((d1.getD (Ty.zero qO)).2.2.2).getD ((r7.getD ((IntKind.i64.wrap ((v14.length:Int) - v24)).toNat) 0).toNat) 0))).bind fun r19 =>
 (if 0≤r19∧r19<(((d1.getD (Ty.zero qO)).1.2.2.2.2).length:Int)then(if 0≤(v14.getD v24.toNat 0)∧(v14.getD v24.toNat 0)<((v23.set ((v14.getD v24.toNat 0).toNat) 1).length:Int)then(if(v14.getD v24.toNat 0).toNat<(v23.set ((v14.getD v24.toNat 0).toNat) 1).length then some (((v23.set ((v14.getD v24.toNat 0).toNat) 1).set ((v14.getD v24.toNat 0).toNat) ((((d1.getD (Ty.zero qO)).1.2.2.2.2).getD r19.toNat (0,((Tree.node 0 0 []),(Tree.node 0 0 [])))).1)))else none)else none)else none))else none)else none)else none)
 else some ((v23.set ((v14.getD v24.toNat 0).toNat) 1)))).bind fun v26=>some (Sum.inl (v26,(IntKind.i64.wrap (v24+1)))))else none)else none)else none)else none)else none)else none)else none)else none)else none)else none)
 else some (Sum.inr v23))
def fG(d1:Option Z5)(i1:List Int):Option (List Int) :=
 (if 0≤(IntKind.i64.wrap ((i1.length:Int)+1))∧(IntKind.i64.wrap ((i1.length:Int)+1))≤(IntKind.i64.wrap ((i1.length:Int)+1))∧1*(IntKind.i64.wrap ((i1.length:Int)+1))≤281474976710656∧(IntKind.i64.wrap ((i1.length:Int)+1))≤9223372036854775807 then(if 0≤(i1.length:Int)∧(i1.length:Int)<((List.replicate (IntKind.i64.wrap ((i1.length:Int)+1)).toNat (0:Int)).length:Int)then(if(i1.length:Int).toNat<(List.replicate (IntKind.i64.wrap ((i1.length:Int)+1)).toNat (0:Int)).length then(if d1.isNone=true then some ((List.replicate (IntKind.i64.wrap ((i1.length:Int)+1)).toNat (0:Int)).set ((i1.length:Int).toNat) 2)
 else((iter (dV d1 i1) (([]:List Int),([]:List Int),false,0)).bind fun(v14,v15)=>(if d1.isSome=true then((pU ((d1.getD (Ty.zero qO)).2.1.1) ((d1.getD (Ty.zero qO)).2.1.2) v15).bind fun r3 =>
 ((cO v15).bind fun r5 =>
 (if d1.isSome=true then((pU ((d1.getD (Ty.zero qO)).2.2.1) ((d1.getD (Ty.zero qO)).2.2.2) r5).bind fun r7 =>
 ((iter (dX d1 v14 r3 r7) (((List.replicate (IntKind.i64.wrap ((i1.length:Int)+1)).toNat (0:Int)).set ((i1.length:Int).toNat) 2),1)).bind fun v25=>some v25))else none)))else none)))else none)else none)else none)
theorem nD(β0 β1:Bool){d1:Option Z5}{i1:List Int}{res:List Int}(h:fG d1 i1=some res):
  Pure Tryz.prog 68 [.p β0 (.ptr qO) d1,.p β1 (.slice (.int .i64)) i1] (aX (bJ false [⟨(.slice (.int .u8)),res⟩])):=by
 refine Pure.of_body bB Tryz.func68 (by kernel_rfl) rfl (nl rfl) (fun Bw w0=> ?_) rfl
 unfold fG at h
 refine G (GC 3 h (fun h=> ?_))
 obtain⟨c5,c6,h⟩:=g2 h
 refine GN a0 [(3,3,oc c5),(4,4,oc c6)] (aC (GN a0 [(1,1,⟨∃e,Tryz.prog.underlying 89=some (.pointer e),⟨_,rfl⟩⟩)] (aO h (fun hb1 h=> ?_) (fun hb1 h=> ?_))))
 ·refine G (aL (aE ?_))
  obtain rfl:=sI h
  exact aD [(.slice (.int .u8))] (by kernel_rfl)
 refine aB (aA (G (G (aC (G (aF (cW h (fun(v10,v11,v12,v13)=>aM [(0,.p β0 (.ptr qO) d1),(5,.sl 0),(6,.sl 1),(7,.sl 2),(8,.bo v12),(26,.p β1 (.slice (.int .i64)) i1),(27,.i64 (i1.length:Int)),(28,.i64 v13)] (aHC ((List.replicate (IntKind.i64.wrap ((i1.length:Int)+1)).toNat (0:Int)).set ((i1.length:Int).toNat) 2) v10 v11) 3) 0 (fun(v14,v15)=>aM [(0,.p β0 (.ptr qO) d1),(5,.sl 0),(6,.sl 1),(7,.sl 2)] (aHC ((List.replicate (IntKind.i64.wrap ((i1.length:Int)+1)).toNat (0:Int)).set ((i1.length:Int).toNat) 2) v14 v15) 3) (gg [.nilS 6 152 3 (.int .i64),.nilS 7 153 3 (.int .i64)] [32,152,153]) (fun y o h=> ?_) (fun r1 h=> ?_))))))))
 ·obtain⟨v10,v11,v12,v13⟩:=y
  unfold dV at h
  refine G (aC (aO h (fun hb19 h=> ?_) (fun hb19 h=> ?_)))
  ·refine aB (aA (aC (aF (GC 1 h (fun h=>aC (aC (bO h (fun v16=>aM [(0,.p β0 (.ptr qO) d1),(5,.sl 0),(6,.sl 1),(7,.sl 2),(8,.bo v12),(9,.i64 v13),(10,.i64 (i1.getD v13.toNat 0)),(26,.p β1 (.slice (.int .i64)) i1),(27,.i64 (i1.length:Int)),(28,.i64 v13),(44,.bo v16)] (aHC ((List.replicate (IntKind.i64.wrap ((i1.length:Int)+1)).toNat (0:Int)).set ((i1.length:Int).toNat) 2) v10 v11) 3) (fun v16 h=> ?_) (fun v16 h=> ?_))))))))
   ·rcases aW h with⟨hb22,h⟩ | ⟨hb22,h⟩
    ·refine bS ⟨[(2,true),(11,true)],[]⟩ [(3,11,oc hb22)] ?_
     exact eN h (gg [] [0,1,2])
    obtain⟨c51,h⟩:=aS h
    refine bS ⟨[(2,false),(11,false)],[]⟩ [(3,4,an hb22),(5,5,oc (And.intro hb22 c51)),(6,10,an hb22),(11,11,oc hb22)] ?_
    exact eN h (gg [] [0,1,2])
   refine aA (bO h (fun v17=>aM [(0,.p β0 (.ptr qO) d1),(5,.sl 0),(6,.sl 1),(7,.sl 2),(8,.bo v12),(9,.i64 v13),(10,.i64 v17),(26,.p β1 (.slice (.int .i64)) i1),(27,.i64 (i1.length:Int)),(28,.i64 v13)] (aHC ((List.replicate (IntKind.i64.wrap ((i1.length:Int)+1)).toNat (0:Int)).set ((i1.length:Int).toNat) 2) v10 v11) 3) (fun v17 h=> ?_) (fun v17 h=> ?_))
   ·refine aO h (fun hb24 h=> ?_) (fun hb24 h=> ?_)
    ·refine Ge ?_
     exact eN h (gg [] [0,1,2])
    refine aB ?_
    exact eN h (gg [] [0,1,2])
   refine aA (aC (aC (bO h (fun v18=>aM [(0,.p β0 (.ptr qO) d1),(5,.sl 0),(6,.sl 1),(7,.sl 2),(8,.bo v12),(9,.i64 v13),(10,.i64 v17),(26,.p β1 (.slice (.int .i64)) i1),(27,.i64 (i1.length:Int)),(28,.i64 v13),(56,.bo v18)] (aHC ((List.replicate (IntKind.i64.wrap ((i1.length:Int)+1)).toNat (0:Int)).set ((i1.length:Int).toNat) 2) v10 v11) 3) (fun v18 h=> ?_) (fun v18 h=> ?_))))
   ·rcases aW h with⟨hb27,h⟩ | ⟨hb27,h⟩
    ·obtain⟨c56,c57,h⟩:=g2 h
     refine bS ⟨[(1,true),(11,true)],[]⟩ [(2,2,an hb27),(3,3,oc (And.intro hb27 c56)),(4,7,an hb27),(8,8,oc (And.intro hb27 c57)),(9,10,an hb27),(11,11,oc hb27)] ?_
     exact eN h (gg [] [0,1,2])
    refine bS ⟨[(1,false),(11,false)],[]⟩ [(2,11,oc hb27)] ?_
    exact eN h (gg [] [0,1,2])
   refine aA (aO h (fun hb28 h=> ?_) (fun hb28 h=> ?_))
   ·refine aH (aY (aJ (aA (Ge ?_))))
    exact eB h (gg [] [0,1,2])
   refine aB (aA ?_)
   obtain⟨c60,c61,h⟩:=g2 h
   refine GN a0 [(1,1,oc c60),(6,6,oc c61)] ?_
   obtain⟨c66,c67,c68,c69,h⟩:=g4 h
   refine qA a0 [(3,3,oc c66),(6,6,oc c67),(11,11,oc c68),(14,14,oc c69)] (aK (aA (Ge ?_)))
   exact eB h (gg [] [0,107,195])
  refine aH (aY ?_)
  exact eX h (gg [] [0,1,2])
 obtain⟨v14,v15⟩:=r1
 refine aJ (aA ?_)
 obtain⟨c71,h⟩:=aS h
 obtain⟨r3,q2,h⟩:=aG h
 have u_1:=(K6 β0 β0 true q2)
 refine GN ⟨[],[(5,(oP u_1))]⟩ [(1,1,oc c71),(5,5,oc u_1)] ?_
 obtain⟨r5,q4,h⟩:=aG h
 refine GO 1 [2] (lU q4) ?_
 obtain⟨c73,h⟩:=aS h
 obtain⟨r7,q6,h⟩:=aG h
 have u_1:=(K6 β0 β0 true q6)
 refine GN ⟨[],[(5,(oP u_1))]⟩ [(1,1,oc c73),(5,5,oc u_1)] (aC (G (aF (cW h (fun(v23,v24)=>aM [(0,.p β0 (.ptr qO) d1),(5,.sl 0),(6,.sl 1),(11,.p false (.slice (.int .i64)) r3),(12,.p false (.slice (.int .i64)) r7),(13,.i64 v24)] [(0,.arr 71 (.int .u8) v23),(1,.arr 3 (.int .i64) v14)] 2) 2 (fun v25=>aM [(5,.sl 0)] [(0,.arr 71 (.int .u8) v25)] 1) (gg [] [0,1]) (fun y o h=> ?_) (fun v25 h=> ?_)))))
 ·obtain⟨v23,v24⟩:=y
  unfold dX at h
  refine aC (G (aO h (fun hb35 h=> ?_) (fun hb35 h=> ?_)))
  ·refine aB (aA (aC (aF ?_)))
   obtain⟨c168,c169,c170,c171,h⟩:=g4 h
   obtain⟨c172,c173,h⟩:=g2 h
   refine GD a0 [(1,1,oc c168),(7,7,oc c169),(9,9,oc c170),(12,12,oc c171),(21,21,oc c172),(23,23,oc c173)] ?_
   obtain⟨c178,c179,c180,c181,h⟩:=g4 h
   refine GN a0 [(3,3,oc c178),(4,4,oc c179),(5,5,oc c180),(6,6,oc c181)] (G (bO h (fun v26=>aM [(0,.p β0 (.ptr qO) d1),(5,.sl 0),(6,.sl 1),(11,.p false (.slice (.int .i64)) r3),(12,.p false (.slice (.int .i64)) r7),(13,.i64 v24)] [(0,.arr 71 (.int .u8) v26),(1,.arr 3 (.int .i64) v14)] 2) (fun v26 h=> ?_) (fun v26 h=> ?_)))
   ·refine aO h (fun hb37 h=> ?_) (fun hb37 h=> ?_)
    ·obtain⟨c200,c201,c202,h⟩:=g3 h
     obtain⟨r19,q18,h⟩:=aG h
     obtain⟨c203,c204,c205,h⟩:=g3 h
     have u_1:=(pX q18)
     refine qA ⟨[],[(11,(oP u_1))]⟩ [(3,3,oc c200),(4,4,oc c201),(6,6,oc c202),(11,11,oc u_1),(12,12,oc c203),(15,15,oc c204),(16,16,oc c205)] ?_
     exact eN h (gg [] [0,1])
    refine aB ?_
    exact eN h (gg [] [0,1])
   refine aK (aA (Ge ?_))
   exact eB h (gg [] [0,1])
  refine aH (aY ?_)
  exact eX h (gg [] [0])
 refine aJ (aA (G (aL ?_)))
 obtain rfl:=sI h
 exact aD [(.slice (.int .u8))] (by kernel_rfl)
def g8(i1:Int)(x1:Option Z3)(x2:Int):Option (Bool) :=
 (if x1.isSome=true then(if 0≤i1∧i1<(((x1.getD (Ty.zero rF)).1).length:Int)then some (decide (((((x1.getD (Ty.zero rF)).1).getD i1.toNat (0,0,0)).2.1)≥x2))else none)else none)
theorem pD(β1:Bool){i1:Int}{x1:Option Z3}{x2:Int}{res:Bool}(h:g8 i1 x1 x2=some res):
  Pure Tryz.prog 137 [.i64 i1,.fad true [.p β1 (.ptr rF) x1] 0,.fad true [.i32 x2] 0] (aX (bJ false [⟨.bool,res⟩])):=by
 refine Pure.of_body bB Tryz.func137 (by kernel_rfl) rfl (nl rfl) (fun Bw w0=> ?_) rfl
 unfold g8 at h
 refine G ?_
 obtain⟨c3,c4,h⟩:=g2 h
 refine GD a0 [(1,1,oc c3),(5,5,oc c4)] (aL ?_)
 obtain rfl:=sI h
 exact aD [.bool] (by kernel_rfl)
def tW(f1:Option Z3)(f2:Int):(Int×Int)→Option ((Int×Int)⊕(Int)):=fun(i2,j2) =>
 (if(decide (i2<j2))=true then(if 0≤(1:Int)then((g8 (IntKind.i64.wrap (Int.fdiv (IntKind.u64.wrap (IntKind.i64.wrap (i2+j2))) (2 ^ (min (1:Int).toNat IntKind.u64.bits)))) f1 f2).bind fun r6 =>
 (if(!r6)=true then some (Sum.inl ((IntKind.i64.wrap ((IntKind.i64.wrap (Int.fdiv (IntKind.u64.wrap (IntKind.i64.wrap (i2+j2))) (2 ^ (min (1:Int).toNat IntKind.u64.bits))))+1)),j2))
 else some (Sum.inl (i2,(IntKind.i64.wrap (Int.fdiv (IntKind.u64.wrap (IntKind.i64.wrap (i2+j2))) (2 ^ (min (1:Int).toNat IntKind.u64.bits))))))))else none)
 else some (Sum.inr i2))
def uB(n1:Int)(f1:Option Z3)(f2:Int):Option (Int) :=
 ((iter (tW f1 f2) (0,n1)).bind fun i3=>some i3)
theorem U2(β1:Bool){n1:Int}{f1:Option Z3}{f2:Int}{res:Int}(h:uB n1 f1 f2=some res):
  Pure Tryz.prog 105 [.i64 n1,.fn 137 [.fad true [.p β1 (.ptr rF) f1] 0,.fad true [.i32 f2] 0]] (aX (bJ false [⟨(.int .i64),res⟩])):=by
 refine Pure.of_body bB Tryz.func105 (by kernel_rfl) rfl (nl rfl) (fun Bw w0=> ?_) rfl
 unfold uB at h
 refine G (G (aC (aF (cW h (fun(i2,j2)=>aM [(1,.fn 137 [.fad true [.p β1 (.ptr rF) f1] 0,.fad true [.i32 f2] 0]),(5,.i64 i2),(6,.i64 j2)] [] 0) 0 (fun i3=>aM [(5,.i64 i3)] [] 0) (gg [] []) (fun y o h=> ?_) (fun i3 h=> ?_)))))
 ·obtain⟨i2,j2⟩:=y
  unfold tW at h
  refine aC (G (aO h (fun hb5 h=> ?_) (fun hb5 h=> ?_)))
  ·refine aB (aA (aF (GC 4 h (fun h=> ?_))))
   obtain⟨r6,q6,h⟩:=aG h
   refine GP 2 (pD β1 q6) (aO h (fun hb6 h=> ?_) (fun hb6 h=> ?_))
   ·refine Ge (aK ?_)
    exact eB h (gg [] [])
   refine Ge (aK ?_)
   exact eB h (gg [] [])
  refine aH (aY ?_)
  exact eX h (gg [] [])
 refine aJ (aA (G (aL ?_)))
 obtain rfl:=sI h
 exact aD [(.int .i64)] (by kernel_rfl)
def fQ(h1:Option Z3)(r1:Int):Option (Int×Bool) :=
 (if h1.isNone=true then some (0,false)
 else(if h1.isSome=true then((uB (((h1.getD (Ty.zero rF)).1).length:Int) h1 r1).bind fun r3 =>
 (((if h1.isSome=true then(if(r3 == (((h1.getD (Ty.zero rF)).1).length:Int))=true then some (true)
 else(if h1.isSome=true then(if 0≤r3∧r3<(((h1.getD (Ty.zero rF)).1).length:Int)then some ((decide (((((h1.getD (Ty.zero rF)).1).getD r3.toNat (0,0,0)).1) > r1)))else none)else none))else none)).bind fun v1=>(if v1=true then some (0,false)
 else(if h1.isSome=true then(if 0≤r3∧r3<(((h1.getD (Ty.zero rF)).1).length:Int)then(if h1.isSome=true then(if 0≤r3∧r3<(((h1.getD (Ty.zero rF)).1).length:Int)then some ((IntKind.i32.wrap ((IntKind.i32.wrap ((IntKind.i32.wrap ((((h1.getD (Ty.zero rF)).1).getD r3.toNat (0,0,0)).2.2))+r1)) - ((((h1.getD (Ty.zero rF)).1).getD r3.toNat (0,0,0)).1))),true)else none)else none)else none)else none))))else none))
theorem qQ(β0:Bool){h1:Option Z3}{r1:Int}{res:Int×Bool}(h:fQ h1 r1=some res):
  Pure Tryz.prog 103 [.p β0 (.ptr rF) h1,.i32 r1] (aX (bJ false [⟨(.int .i32),res.1⟩,⟨.bool,res.2⟩])):=by
 refine Pure.of_body bB Tryz.func103 (by kernel_rfl) rfl (nl rfl) (fun Bw w0=> ?_) rfl
 unfold fQ at h
 refine G (aC (GN a0 [(1,1,⟨∃e,Tryz.prog.underlying 91=some (.pointer e),⟨_,rfl⟩⟩)] (aO h (fun hb1 h=> ?_) (fun hb1 h=> ?_))))
 ·refine G (aL (aE ?_))
  obtain rfl:=sI h
  exact aD [(.int .i32),.bool] (by kernel_rfl)
 refine aB (aA ?_)
 obtain⟨c2,h⟩:=aS h
 obtain⟨r3,q2,h⟩:=aG h
 have u_1:=(U2 β0 q2)
 refine GN ⟨[],[(6,(oP u_1))]⟩ [(1,1,oc c2),(6,6,oc u_1)] (aC (aC (bO h (fun v1=>aM [(2,.adr 0 0 1 0),(3,.adr 1 0 1 0),(6,.i64 r3),(34,.bo v1)] [(0,.box [.p β0 (.ptr rF) h1]),(1,.box [.i32 r1])] 2) (fun v1 h=> ?_) (fun v1 h=> ?_))))
 ·obtain⟨c9,h⟩:=aS h
  rcases aW h with⟨hb4,h⟩ | ⟨hb4,h⟩
  ·refine qA ⟨[(7,true),(18,true)],[]⟩ [(2,2,oc c9),(8,18,oc hb4)] ?_
   exact eN h (gg [] [0,8])
  obtain⟨c10,c11,h⟩:=g2 h
  refine qA ⟨[(7,false),(18,false)],[]⟩ [(2,2,oc c9),(8,8,an hb4),(9,9,oc (And.intro hb4 c10)),(10,12,an hb4),(13,13,oc (And.intro hb4 c11)),(14,17,an hb4),(18,18,oc hb4)] ?_
  exact eN h (gg [] [0,8])
 refine aA (aO h (fun hb5 h=> ?_) (fun hb5 h=> ?_))
 ·refine G (aL (aE ?_))
  obtain rfl:=sI h
  exact aD [(.int .i32),.bool] (by kernel_rfl)
 refine aB (aA ?_)
 obtain⟨c16,c17,c18,c19,h⟩:=g4 h
 refine GD a0 [(1,1,oc c16),(5,5,oc c17),(12,12,oc c18),(16,16,oc c19)] (aL ?_)
 obtain rfl:=sI h
 exact aD [(.int .i32),.bool] (by kernel_rfl)
def l8(d1:Option Z19)(v84 v112:Int):rY→Option (rY⊕(List Int)):=fun(v121,v122) =>
 (if(decide (v122<(((((d1.getD (Ty.zero F9)).1).getD v112.toNat (([]:List (Int×Int)),([]:List Int))).2).length:Int)))=true then(if 0≤v122∧v122<(((((d1.getD (Ty.zero F9)).1).getD v112.toNat (([]:List (Int×Int)),([]:List Int))).2).length:Int)then(((if(decide ((IntKind.i64.wrap ((IntKind.i64.wrap (v84+v122)) - 1))≥0))=true then some ((decide ((IntKind.i64.wrap ((IntKind.i64.wrap (v84+v122)) - 1))<(v121.length:Int))))
 else some (false))).bind fun v124=>(((if v124=true then(if 0≤(IntKind.i64.wrap ((IntKind.i64.wrap (v84+v122)) - 1))∧(IntKind.i64.wrap ((IntKind.i64.wrap (v84+v122)) - 1))<(v121.length:Int)then(if(IntKind.i64.wrap ((IntKind.i64.wrap (v84+v122)) - 1)).toNat<v121.length then(if 0≤(IntKind.i64.wrap ((IntKind.i64.wrap (v84+v122)) - 1))∧(IntKind.i64.wrap ((IntKind.i64.wrap (v84+v122)) - 1))<(v121.length:Int)then(if(IntKind.i64.wrap ((IntKind.i64.wrap (v84+v122)) - 1)).toNat<v121.length then some ((v121.set ((IntKind.i64.wrap ((IntKind.i64.wrap (v84+v122)) - 1)).toNat) (max (v121.getD ((IntKind.i64.wrap ((IntKind.i64.wrap (v84+v122)) - 1)).toNat) 0) (((((d1.getD (Ty.zero F9)).1).getD v112.toNat (([]:List (Int×Int)),([]:List Int))).2).getD v122.toNat 0))))else none)else none)else none)else none)
 else some (v121))).bind fun v125=>some (Sum.inl (v125,(IntKind.i64.wrap (v122+1))))))else none)
 else some (Sum.inr v121))
def mA(d1:Option Z19)(i1:List Int)(v84:Int):((List Int)×Int×Int)→Option (((List Int)×Int×Int)⊕(List Int)):=fun(v111,v112,v113) =>
 (if d1.isSome=true then(if 0≤v112∧v112<(((d1.getD (Ty.zero F9)).1).length:Int)then((iter (l8 d1 v84 v112) (v111,0)).bind fun v123=>(if(v113 == (((([46]:List Int)++i1)++([46]:List Int)).length:Int))=true then some (Sum.inr v123)
 else(if d1.isSome=true then(if 0≤v112∧v112<(((d1.getD (Ty.zero F9)).1).length:Int)then(if 0≤v113∧v113<(((([46]:List Int)++i1)++([46]:List Int)).length:Int)then(if v113.toNat<((([46]:List Int)++i1)++([46]:List Int)).length then(if(!((bG (α:=Int) (.int .i32) ((((d1.getD (Ty.zero F9)).1).getD v112.toNat (([]:List (Int×Int)),([]:List Int))).1) (((([46]:List Int)++i1)++([46]:List Int)).getD v113.toNat 0)).isSome))=true then some (Sum.inr v123)
 else some (Sum.inl (v123,((bG (α:=Int) (.int .i32) ((((d1.getD (Ty.zero F9)).1).getD v112.toNat (([]:List (Int×Int)),([]:List Int))).1) (((([46]:List Int)++i1)++([46]:List Int)).getD v113.toNat 0)).getD 0),(IntKind.i64.wrap (v113+1)))))else none)else none)else none)else none)))else none)else none)
def l9(d1:Option Z19)(i1:List Int):rY→Option (rY⊕(List Int)):=fun(v83,v84) =>
 (if(decide (v84<(((([46]:List Int)++i1)++([46]:List Int)).length:Int)))=true then((iter (mA d1 i1 v84) (v83,0,v84)).bind fun v114=>some (Sum.inl (v114,(IntKind.i64.wrap (v84+1)))))
 else some (Sum.inr v83))
def kS(d1:Option Z19)(i1:List Int):Option (List Int) :=
 (if 0≤(IntKind.i64.wrap ((i1.length:Int)+1))∧(IntKind.i64.wrap ((i1.length:Int)+1))≤(IntKind.i64.wrap ((i1.length:Int)+1))∧1*(IntKind.i64.wrap ((i1.length:Int)+1))≤281474976710656∧(IntKind.i64.wrap ((i1.length:Int)+1))≤9223372036854775807 then(if d1.isNone=true then some (List.replicate (IntKind.i64.wrap ((i1.length:Int)+1)).toNat (0:Int))
 else(if(([46]:List Int).length+i1.length)*4≤140737488355328∧([46]:List Int).length+i1.length≤9223372036854775807 then(if((([46]:List Int)++i1).length+([46]:List Int).length)*4≤140737488355328∧(([46]:List Int)++i1).length+([46]:List Int).length≤9223372036854775807 then((iter (l9 d1 i1) ((List.replicate (IntKind.i64.wrap ((i1.length:Int)+1)).toNat (0:Int)),0)).bind fun v85=>some v85)else none)else none))else none)
theorem wJ(β0 β1:Bool){d1:Option Z19}{i1:List Int}{res:List Int}(h:kS d1 i1=some res):
  Pure Tryz.prog 138 [.p β0 (.ptr F9) d1,.p β1 (.slice (.int .i32)) i1] (aX (bJ false [⟨(.slice (.int .u8)),res⟩])):=by
 refine Pure.of_body bB Tryz.func138 (by kernel_rfl) rfl (nl rfl) (fun Bw w0=> ?_) rfl
 unfold kS at h
 refine G (GC 3 h (fun h=>aC (GN a0 [(1,1,⟨∃e,Tryz.prog.underlying 164=some (.pointer e),⟨_,rfl⟩⟩)] (aO h (fun hb1 h=> ?_) (fun hb1 h=> ?_)))))
 ·refine G (aL (aE ?_))
  obtain rfl:=sI h
  exact aD [(.slice (.int .u8))] (by kernel_rfl)
 refine aB (aA ?_)
 obtain⟨c5,c6,h⟩:=g2 h
 refine GN a0 [(2,2,oc c5),(4,4,oc c6)] (aC (G (aF (cW h (fun(v83,v84)=>aM [(0,.p β0 (.ptr F9) d1),(5,.sl 0),(6,.sl 1),(28,.i64 (((([46]:List Int)++i1)++([46]:List Int)).length:Int)),(29,.i64 v84)] [(0,.arr 5 (.int .u8) v83),(1,.arr 21 (.int .i32) ((([46]:List Int)++i1)++([46]:List Int)))] 2) 0 (fun v85=>aM [(5,.sl 0)] [(0,.arr 5 (.int .u8) v85)] 1) (gg [] [32,96]) (fun y o h=> ?_) (fun v85 h=> ?_)))))
 ·obtain⟨v83,v84⟩:=y
  unfold l9 at h
  refine G (aC (aO h (fun hb124 h=> ?_) (fun hb124 h=> ?_)))
  ·refine aB (aA (aC (aF (G (G (G (aF (cW h (fun(v111,v112,v113)=>aM [(0,.p β0 (.ptr F9) d1),(5,.sl 0),(6,.sl 1),(7,.i64 v84),(8,.i64 v112),(9,.i64 v113),(28,.i64 (((([46]:List Int)++i1)++([46]:List Int)).length:Int)),(29,.i64 v84)] [(0,.arr 5 (.int .u8) v111),(1,.arr 21 (.int .i32) ((([46]:List Int)++i1)++([46]:List Int)))] 2) 2 (fun v114=>aM [(0,.p β0 (.ptr F9) d1),(5,.sl 0),(6,.sl 1),(28,.i64 (((([46]:List Int)++i1)++([46]:List Int)).length:Int)),(29,.i64 v84)] [(0,.arr 5 (.int .u8) v114),(1,.arr 21 (.int .i32) ((([46]:List Int)++i1)++([46]:List Int)))] 2) (gg [] [0,1]) (fun y o h=> ?_) (fun v114 h=> ?_)))))))))
   ·obtain⟨v111,v112,v113⟩:=y
    unfold mA at h
    refine aC (aF (aC ?_))
    obtain⟨c537,c538,h⟩:=g2 h
    refine GN a0 [(1,1,oc c537),(5,5,oc c538)] (aF ?_)
    refine cW h (fun(v121,v122)=>aM [(0,.p β0 (.ptr F9) d1),(5,.sl 0),(6,.sl 1),(7,.i64 v84),(8,.i64 v112),(9,.i64 v113),(28,.i64 (((([46]:List Int)++i1)++([46]:List Int)).length:Int)),(29,.i64 v84),(42,.p β0 (.slice (.int .u8)) ((((d1.getD (Ty.zero F9)).1).getD v112.toNat (([]:List (Int×Int)),([]:List Int))).2)),(43,.i64 (((((d1.getD (Ty.zero F9)).1).getD v112.toNat (([]:List (Int×Int)),([]:List Int))).2).length:Int)),(44,.i64 v122)] [(0,.arr 5 (.int .u8) v121),(1,.arr 21 (.int .i32) ((([46]:List Int)++i1)++([46]:List Int)))] 2) 4 (fun v123=>aM [(0,.p β0 (.ptr F9) d1),(5,.sl 0),(6,.sl 1),(7,.i64 v84),(8,.i64 v112),(9,.i64 v113),(28,.i64 (((([46]:List Int)++i1)++([46]:List Int)).length:Int)),(29,.i64 v84)] [(0,.arr 5 (.int .u8) v123),(1,.arr 21 (.int .i32) ((([46]:List Int)++i1)++([46]:List Int)))] 2) (gg [] [0,1]) (fun y o h=> ?_) (fun v123 h=> ?_)
    ·obtain⟨v121,v122⟩:=y
     unfold l8 at h
     refine G (aC (aO h (fun hb177 h=> ?_) (fun hb177 h=> ?_)))
     ·refine aB (aA (aC (aF (GC 1 h (fun h=>G (aC ?_))))))
      refine bO h (fun v124=>aM [(0,.p β0 (.ptr F9) d1),(5,.sl 0),(6,.sl 1),(7,.i64 v84),(8,.i64 v112),(9,.i64 v113),(11,.u8 (((((d1.getD (Ty.zero F9)).1).getD v112.toNat (([]:List (Int×Int)),([]:List Int))).2).getD v122.toNat 0)),(12,.i64 (IntKind.i64.wrap ((IntKind.i64.wrap (v84+v122)) - 1))),(28,.i64 (((([46]:List Int)++i1)++([46]:List Int)).length:Int)),(29,.i64 v84),(42,.p β0 (.slice (.int .u8)) ((((d1.getD (Ty.zero F9)).1).getD v112.toNat (([]:List (Int×Int)),([]:List Int))).2)),(43,.i64 (((((d1.getD (Ty.zero F9)).1).getD v112.toNat (([]:List (Int×Int)),([]:List Int))).2).length:Int)),(44,.i64 v122),(60,.bo v124)] [(0,.arr 5 (.int .u8) v121),(1,.arr 21 (.int .i32) ((([46]:List Int)++i1)++([46]:List Int)))] 2) (fun v124 h=> ?_) (fun v124 h=> ?_)
      ·rcases aW h with⟨hb180,h⟩ | ⟨hb180,h⟩
       ·refine bS ⟨[(2,true),(7,true)],[]⟩ [(3,6,an hb180),(7,7,oc hb180)] ?_
        exact eN h (gg [] [0,1])
       refine bS ⟨[(2,false),(7,false)],[]⟩ [(3,7,oc hb180)] ?_
       exact eN h (gg [] [0,1])
      refine aA (bO h (fun v125=>aM [(0,.p β0 (.ptr F9) d1),(5,.sl 0),(6,.sl 1),(7,.i64 v84),(8,.i64 v112),(9,.i64 v113),(28,.i64 (((([46]:List Int)++i1)++([46]:List Int)).length:Int)),(29,.i64 v84),(42,.p β0 (.slice (.int .u8)) ((((d1.getD (Ty.zero F9)).1).getD v112.toNat (([]:List (Int×Int)),([]:List Int))).2)),(43,.i64 (((((d1.getD (Ty.zero F9)).1).getD v112.toNat (([]:List (Int×Int)),([]:List Int))).2).length:Int)),(44,.i64 v122)] [(0,.arr 5 (.int .u8) v125),(1,.arr 21 (.int .i32) ((([46]:List Int)++i1)++([46]:List Int)))] 2) (fun v125 h=> ?_) (fun v125 h=> ?_))
      ·refine aO h (fun hb182 h=> ?_) (fun hb182 h=> ?_)
       ·obtain⟨c589,c590,c591,c592,h⟩:=g4 h
        refine bS a0 [(4,4,oc c589),(5,5,oc c590),(8,8,oc c591),(9,9,oc c592)] ?_
        exact eN h (gg [] [0,1])
       refine aB ?_
       exact eN h (gg [] [0,1])
      refine aK (aA (Ge ?_))
      exact eB h (gg [] [0,1])
     refine aH (aY ?_)
     exact eX h (gg [] [0,1])
    refine aJ (aA (aC (G (aO h (fun hb183 h=> ?_) (fun hb183 h=> ?_)))))
    ·refine aH (aY (kP rfl (aY ?_)))
     exact eX h (gg [] [0,1])
    refine aB (aA ?_)
    obtain⟨c597,c598,c599,c600,h⟩:=g4 h
    refine GD a0 [(1,1,oc c597),(5,5,oc c598),(10,10,oc c599),(11,11,oc c600)] (aC (G (aO h (fun hb184 h=> ?_) (fun hb184 h=> ?_))))
    ·refine aH (aY (kP rfl (aY ?_)))
     exact eX h (gg [] [0,1])
    refine aB (aA (Ge (aK (aA (Ge ?_)))))
    exact eB h (gg [] [0,1])
   refine aJ (aK (aA (Ge ?_)))
   exact eB h (gg [] [0,1])
  refine aH (aY ?_)
  exact eX h (gg [] [0])
 refine aJ (aA (G (aL ?_)))
 obtain rfl:=sI h
 exact aD [(.slice (.int .u8))] (by kernel_rfl)
def i9(w1 w2 x1:List Int):Option (Bool) :=
 ((eG w1 x1).bind fun r2 =>
 some r2)
theorem sH(β0 β1 β2:Bool){w1:List Int}{w2:List Int}{x1:List Int}{res:Bool}(h:i9 w1 w2 x1=some res):
  Pure Tryz.prog 139 [.agg [.p β0 (.slice (.int .i32)) w1,.p β1 (.slice (.int .u8)) w2],.fad true [.p β2 (.slice (.int .i32)) x1] 0] (aX (bJ false [⟨.bool,res⟩])):=by
 refine Pure.of_body bB Tryz.func139 (by kernel_rfl) rfl (nl rfl) (fun Bw w0=> ?_) rfl
 unfold i9 at h
 refine G ?_
 obtain⟨r2,q2,h⟩:=aG h
 refine GP 3 (hJ β0 β2 q2) (aL ?_)
 obtain rfl:=sI h
 exact aD [.bool] (by kernel_rfl)
def o6(s1:List kK)(f1:List Int):(Int)→Option ((Int)⊕((Unit)⊕(Int))):=fun v2 =>
 (if(decide (v2<(s1.length:Int)))=true then(if 0≤v2∧v2<(s1.length:Int)then((i9 ((s1.getD v2.toNat (([]:List Int),([]:List Int))).1) ((s1.getD v2.toNat (([]:List Int),([]:List Int))).2) f1).bind fun r7 =>
 (if r7=true then some (Sum.inr (Sum.inr v2))
 else some (Sum.inl (IntKind.i64.wrap (v2+1)))))else none)
 else some (Sum.inr (Sum.inl ())))
def oJ(s1:List kK)(f1:List Int):Option (Int) :=
 ((iter (o6 s1 f1) (0:Int)).bind fun(r8:((Unit)⊕(Int)))=>match r8 with
 | .inl _=>some (-1:Int)
 | .inr (r5)=>some r5)
theorem yU(β0 β1:Bool){s1:List kK}{f1:List Int}{res:Int}(h:oJ s1 f1=some res):
  Pure Tryz.prog 130 [.p β0 (.slice Q7) s1,.fn 139 [.fad true [.p β1 (.slice (.int .i32)) f1] 0]] (aX (bJ false [⟨(.int .i64),res⟩])):=by
 refine Pure.of_body bB Tryz.func130 (by kernel_rfl) rfl (nl rfl) (fun Bw w0=> ?_) rfl
 unfold oJ at h
 refine G (aC (G (aF (mG h (fun v2=>aM [(0,.p β0 (.slice Q7) s1),(1,.fn 139 [.fad true [.p β1 (.slice (.int .i32)) f1] 0]),(7,.i64 (s1.length:Int)),(8,.i64 v2)] [] 0) (eI (fV Tryz.f130.ntmps 0 (fun _=>aM [] [] 0)) (iC tb Tryz.f130.results.toList (fun r5=>[⟨(.int .i64),r5⟩]))) (gg [] []) (fun v2 o h=> ?_) (fun r8 h e σ' hq=> ?_)))))
 ·unfold o6 at h
  refine G (aC (aO h (fun hb5 h=> ?_) (fun hb5 h=> ?_)))
  ·refine aB (aA (aC (aF (G ?_))))
   obtain⟨c6,h⟩:=aS h
   obtain⟨r7,q6,h⟩:=aG h
   have u_1:=(sH β0 β0 β1 q6)
   refine GN ⟨[],[(5,(oP u_1))]⟩ [(3,3,oc c6),(5,5,oc u_1)] (aO h (fun hb6 h=> ?_) (fun hb6 h=> ?_))
   ·refine G (aL ?_)
    obtain rfl:=sI h
    refine aN (aE (bX (aU ?_)))
    exact bW (aD [(.int .i64)] (by kernel_rfl))
   refine aB (aK (aA (Ge ?_)))
   exact eB h (gg [] [])
  refine aH (aY ?_)
  obtain rfl:=sI h
  refine eR (bI ?_)
  exact b8 (gg [] [])
 rcases r8 with _ | r5
 ·obtain⟨rfl,hle⟩:=hq
  refine dH ?_ hle
  refine aJ (aA (G (aL ?_)))
  obtain rfl:=sI h
  exact aD [(.int .i64)] (by kernel_rfl)
 obtain⟨rfl,hr⟩:=hq
 refine aN (aE ?_)
 obtain rfl:=sI h
 exact hr
def lG(h1:Option Z3)(word1 values1:List Int):((List Bool)×Int)→Option (((List Bool)×Int)⊕(List Bool)):=fun(out2,i2) =>
 (if h1.isSome=true then(if(decide (i2≤(IntKind.i64.wrap ((word1.length:Int) - ((h1.getD (Ty.zero rF)).2.2.2.2)))))=true then(if 0≤i2∧i2<(values1.length:Int)then(if ¬(2:Int)=0 then(if 0≤i2∧i2<(out2.length:Int)then(if i2.toNat<out2.length then some (Sum.inl ((out2.set i2.toNat ((Int.tmod (values1.getD i2.toNat 0) (2:Int)) == 1)),(IntKind.i64.wrap (i2+1))))else none)else none)else none)else none)
 else some (Sum.inr out2))else none)
def g9(h1:Option Z3)(word1:List Int):Option (List Bool) :=
 (if 0≤(IntKind.i64.wrap ((word1.length:Int)+1))∧(IntKind.i64.wrap ((word1.length:Int)+1))≤(IntKind.i64.wrap ((word1.length:Int)+1))∧1*(IntKind.i64.wrap ((word1.length:Int)+1))≤281474976710656∧(IntKind.i64.wrap ((word1.length:Int)+1))≤9223372036854775807 then(if h1.isNone=true then some (List.replicate (IntKind.i64.wrap ((word1.length:Int)+1)).toNat false)
 else(if h1.isSome=true then((kS ((h1.getD (Ty.zero rF)).2.1) word1).bind fun r2 =>
 (if h1.isSome=true then((oJ ((h1.getD (Ty.zero rF)).2.2.1) word1).bind fun r4 =>
 (((if(decide (r4≥0))=true then(if h1.isSome=true then(if 0≤r4∧r4<(((h1.getD (Ty.zero rF)).2.2.1).length:Int)then some ((((h1.getD (Ty.zero rF)).2.2.1).getD r4.toNat (([]:List Int),([]:List Int))).2)else none)else none)
 else some (r2))).bind fun values1=>(if h1.isSome=true then((iter (lG h1 word1 values1) ((List.replicate (IntKind.i64.wrap ((word1.length:Int)+1)).toNat false),(h1.getD (Ty.zero rF)).2.2.2.1)).bind fun out3=>some out3)else none)))else none))else none))else none)
theorem uA(β1:Bool){h1:Option Z3}{word1:List Int}{res:List Bool}(h:g9 h1 word1=some res):
  Pure Tryz.prog 104 [.p false (.ptr rF) h1,.p β1 (.slice (.int .i32)) word1] (aX (bJ false [⟨(.slice .bool),res⟩])):=by
 refine Pure.of_body bB Tryz.func104 (by kernel_rfl) rfl (nl rfl) (fun Bw w0=> ?_) rfl
 unfold g9 at h
 refine G (GC 3 h (fun h=>aC (GN a0 [(1,1,⟨∃e,Tryz.prog.underlying 91=some (.pointer e),⟨_,rfl⟩⟩)] (aO h (fun hb1 h=> ?_) (fun hb1 h=> ?_)))))
 ·refine G (aL (aE ?_))
  obtain rfl:=sI h
  exact aD [(.slice .bool)] (by kernel_rfl)
 refine aB (aA ?_)
 obtain⟨c4,h⟩:=aS h
 obtain⟨r2,q2,h⟩:=aG h
 have u_1:=(wJ false β1 q2)
 refine GD ⟨[],[(5,(oP u_1))]⟩ [(1,1,oc c4),(5,5,oc u_1)] (aC ?_)
 obtain⟨c6,h⟩:=aS h
 obtain⟨r4,q4,h⟩:=aG h
 have u_1:=(yU false β1 q4)
 refine GN ⟨[],[(5,(oP u_1))]⟩ [(1,1,oc c6),(5,5,oc u_1)] (G (bO h (fun values1=>aM [(0,.p false (.ptr rF) h1),(3,.adr 0 0 1 0),(5,.sl 1),(6,.p false (.slice (.int .u8)) values1)] (aKG β1 word1 (List.replicate (IntKind.i64.wrap ((word1.length:Int)+1)).toNat false)) 2) (fun values1 h=> ?_) (fun values1 h=> ?_)))
 ·refine aO h (fun hb3 h=> ?_) (fun hb3 h=> ?_)
  ·obtain⟨c13,c14,h⟩:=g2 h
   refine bS a0 [(1,1,oc c13),(5,5,oc c14)] ?_
   exact eN h (gg [] [0,40])
  refine aB ?_
  exact eN h (gg [] [0,40])
 refine aA (aC (GC 1 h (fun h=>aF (cW h (fun(out2,i2)=>aM [(0,.p false (.ptr rF) h1),(3,.adr 0 0 1 0),(5,.sl 1),(6,.p false (.slice (.int .u8)) values1),(8,.i64 i2)] (aKG β1 word1 out2) 2) 0 (fun out3=>aM [(5,.sl 0)] [(0,.arr 4 .bool out3)] 1) (gg [] [0,1]) (fun y o h=> ?_) (fun out3 h=> ?_)))))
 ·obtain⟨out2,i2⟩:=y
  unfold lG at h
  refine aC ?_
  obtain⟨c38,h⟩:=aS h
  refine GD a0 [(4,4,oc c38)] (aO h (fun hb6 h=> ?_) (fun hb6 h=> ?_))
  ·refine aB (aA (aC (aF ?_)))
   obtain⟨c43,c44,c45,c46,h⟩:=g4 h
   refine bS a0 [(4,4,oc c43),(6,6,oc c44),(8,8,oc c45),(9,9,oc c46)] (aK (aA (Ge ?_)))
   exact eB h (gg [] [0,1])
  refine aH (aY ?_)
  exact eX h (gg [] [1])
 refine aJ (aA (G (aL ?_)))
 obtain rfl:=sI h
 exact aD [(.slice .bool)] (by kernel_rfl)
def eP(h1:Option Z3)(l1:List Z8):(Int×List Int)→Option ((Int×List Int)⊕(Int×List Int)):=fun(i10,word8) =>
 (if(decide (i10<(l1.length:Int)))=true then(if 0≤i10∧i10<(l1.length:Int)then((fQ h1 ((l1.getD i10.toNat (0,0,0)).1)).bind fun(r41,r42) =>
 (if(!r42)=true then some (Sum.inr (i10,word8))
 else(if(word8.length+([r41]:List Int).length)*4≤140737488355328∧word8.length+([r41]:List Int).length≤9223372036854775807 then some (Sum.inl ((IntKind.i64.wrap (i10+1)),(word8++([r41]:List Int))))else none)))else none)
 else some (Sum.inr (i10,word8)))
def dJ(h1:Option Z3)(l1:List Z8):((List Bool)×Int)→Option (((List Bool)×Int)⊕(List Bool)):=fun(out2,i8) =>
 (if(decide (i8<(l1.length:Int)))=true then((iter (eP h1 l1) (i8,([]:List Int))).bind fun(i11,word9)=>(if 0≤i8∧i8≤(out2.length:Int)then((g9 h1 word9).bind fun r45 =>
 (if 0≤(0:Int)∧0≤(word9.length:Int)∧(word9.length:Int)≤(r45.length:Int)then some (Sum.inl ((out2.take i8.toNat++(((r45.take (word9.length:Int).toNat).drop (0:Int).toNat).take (out2.length - i8.toNat)++out2.drop (i8.toNat+((r45.take (word9.length:Int).toNat).drop (0:Int).toNat).length))),(IntKind.i64.wrap (i11+1))))else none))else none))
 else some (Sum.inr out2))
def eM(h1:Option Z3)(l1:List Z8):Option (List Bool) :=
 (if 0≤(IntKind.i64.wrap ((l1.length:Int)+1))∧(IntKind.i64.wrap ((l1.length:Int)+1))≤(IntKind.i64.wrap ((l1.length:Int)+1))∧1*(IntKind.i64.wrap ((l1.length:Int)+1))≤281474976710656∧(IntKind.i64.wrap ((l1.length:Int)+1))≤9223372036854775807 then((iter (dJ h1 l1) ((List.replicate (IntKind.i64.wrap ((l1.length:Int)+1)).toNat false),0)).bind fun out3=>some out3)else none)
theorem rA(β1:Bool){h1:Option Z3}{l1:List Z8}{res:List Bool}(h:eM h1 l1=some res):
  Pure Tryz.prog 70 [.p false (.ptr rF) h1,.p β1 (.slice (.prod (.int .i32) Y2)) l1] (aX (bJ false [⟨(.slice .bool),res⟩])):=by
 refine Pure.of_body bB Tryz.func70 (by kernel_rfl) rfl (nl rfl) (fun Bw w0=> ?_) rfl
 unfold eM at h
 refine G (GC 3 h (fun h=>G (aC (G (aF (cW h (fun(out2,i8)=>aM [(0,.p false (.ptr rF) h1),(1,.p β1 (.slice (.prod (.int .i32) Y2)) l1),(5,.sl 0),(6,.bfn 103 [.p false (.ptr rF) h1]),(7,.i64 i8)] [(0,.arr 4 .bool out2)] 1) 0 (fun out3=>aM [(5,.sl 0)] [(0,.arr 4 .bool out3)] 1) (gg [] [32]) (fun y o h=> ?_) (fun out3 h=> ?_)))))))
 ·obtain⟨out2,i8⟩:=y
  unfold dJ at h
  refine aC (G (aO h (fun hb15 h=> ?_) (fun hb15 h=> ?_)))
  ·refine aB (aA (aC (aF (G (G (aC (aF (cW h (fun(i10,word8)=>aM [(0,.p false (.ptr rF) h1),(1,.p β1 (.slice (.prod (.int .i32) Y2)) l1),(5,.sl 0),(6,.bfn 103 [.p false (.ptr rF) h1]),(7,.i64 i10),(8,.sl 1),(9,.i64 i8)] [(0,.arr 4 .bool out2),(1,.arr 21 (.int .i32) word8)] 2) 2 (fun(i11,word9)=>aM [(0,.p false (.ptr rF) h1),(1,.p β1 (.slice (.prod (.int .i32) Y2)) l1),(5,.sl 0),(6,.bfn 103 [.p false (.ptr rF) h1]),(7,.i64 i11),(8,.sl 1),(9,.i64 i8)] [(0,.arr 4 .bool out2),(1,.arr 21 (.int .i32) word9)] 2) (gg [.nilS 8 57 21 (.int .i32)] [0,57]) (fun y o h=> ?_) (fun r43 h=> ?_)))))))))
   ·obtain⟨i10,word8⟩:=y
    unfold eP at h
    refine aC (G (aO h (fun hb20 h=> ?_) (fun hb20 h=> ?_)))
    ·refine aB (aA (aC (aF ?_)))
     obtain⟨c44,h⟩:=aS h
     obtain⟨⟨r41,r42⟩,q22,h⟩:=aG h
     have u_1:=(qQ false q22)
     refine GN ⟨[],[(6,(oP u_1))]⟩ [(3,3,oc c44),(6,6,oc u_1)] (aC (G (aO h (fun hb21 h=> ?_) (fun hb21 h=> ?_))))
     ·refine aH (aY (kP rfl (aY ?_)))
      exact eX h (gg [] [0,1])
     refine aB (aA (GCe 3 h (fun h=>aK (aA (Ge ?_)))))
     exact eB h (gg [] [0,170])
    refine aH (aY ?_)
    exact eX h (gg [] [0,1])
   obtain⟨i11,word9⟩:=r43
   refine aJ (aA ?_)
   obtain⟨c49,h⟩:=aS h
   obtain⟨r45,q24,h⟩:=aG h
   obtain⟨c50,h⟩:=aS h
   have u_1:=(uA true q24)
   refine qA ⟨[],[(5,(oP u_1))]⟩ [(2,2,oc c49),(5,5,oc u_1),(8,8,oc c50)] (aK (aA (Ge ?_)))
   exact eB h (gg [] [0])
  refine aH (aY ?_)
  exact eX h (gg [] [0])
 refine aJ (aA (G (aL ?_)))
 obtain rfl:=sI h
 exact aD [(.slice .bool)] (by kernel_rfl)
def nW(r1:Int):Option (Int) :=
 (if(r1 == 32)=true then some 1
 else(if(r1 == 9)=true then some 2
 else some 0))
theorem aAz{r1:Int}{res:Int}(h:nW r1=some res):
  Pure Tryz.prog 136 [.i32 r1] (aX (bJ false [⟨(.int .u8),res⟩])):=by
 refine Pure.of_body bB Tryz.func136 (by kernel_rfl) rfl (nl rfl) (fun Bw w0=> ?_) rfl
 unfold nW at h
 refine G (aC (G (aF (G (aO h (fun hb1 h=> ?_) (fun hb1 h=> ?_))))))
 ·refine G (aL (aN (aE ?_)))
  obtain rfl:=sI h
  exact aD [(.int .u8)] (by kernel_rfl)
 refine G (aO h (fun hb2 h=> ?_) (fun hb2 h=> ?_))
 ·refine G (aL (aN (aE ?_)))
  obtain rfl:=sI h
  exact aD [(.int .u8)] (by kernel_rfl)
 refine aB (aK (aA (G (aL ?_))))
 obtain rfl:=sI h
 exact aD [(.int .u8)] (by kernel_rfl)
def eF(d1:List Z8)(i1:List Int)(x1:Option Z16):((List Z2)×(List Int)×Int)→Option (((List Z2)×(List Int)×Int)⊕((List Z2)×List Int)):=fun(v12,v13,v14) =>
 (if(decide (v14<(d1.length:Int)))=true then(if 0≤v14∧v14<(d1.length:Int)then(((if(v14 == 0)=true then some (true)
 else(if(decide (v14<(i1.length:Int)))=true then(if 0≤v14∧v14<(i1.length:Int)then some (((i1.getD v14.toNat 0) != 0))else none)
 else some (false)))).bind fun v17=>(((if v17=true then((nW ((d1.getD v14.toNat (0,0,0)).1)).bind fun r18 =>
 (if(v12.length+([((d1.getD v14.toNat (0,0,0)).2.1,(0,(0,r18)))]:List Z2).length)*32≤140737488355328∧v12.length+([((d1.getD v14.toNat (0,0,0)).2.1,(0,(0,r18)))]:List Z2).length≤9223372036854775807 then(if(v13.length+([v14]:List Int).length)*8≤140737488355328∧v13.length+([v14]:List Int).length≤9223372036854775807 then some (((v12++([((d1.getD v14.toNat (0,0,0)).2.1,(0,(0,r18)))]:List Z2)),(v13++([v14]:List Int))))else none)else none))
 else some ((v12,v13)))).bind fun(v18,v19)=>(if 0≤(IntKind.i64.wrap ((v18.length:Int) - 1))∧(IntKind.i64.wrap ((v18.length:Int) - 1))<(v18.length:Int)then(if 0≤(IntKind.i64.wrap ((v19.length:Int) - 1))∧(IntKind.i64.wrap ((v19.length:Int) - 1))<(v19.length:Int)then(if(IntKind.i64.wrap ((v19.length:Int) - 1)).toNat<v19.length then(((if((v19.getD ((IntKind.i64.wrap ((v19.length:Int) - 1)).toNat) 0) != v14)=true then(if(IntKind.i64.wrap ((v18.length:Int) - 1)).toNat<v18.length then some ((v18.set ((IntKind.i64.wrap ((v18.length:Int) - 1)).toNat) ((v18.getD ((IntKind.i64.wrap ((v18.length:Int) - 1)).toNat) (0,0,0,0)).1,((v18.getD ((IntKind.i64.wrap ((v18.length:Int) - 1)).toNat) (0,0,0,0)).2.1,((v18.getD ((IntKind.i64.wrap ((v18.length:Int) - 1)).toNat) (0,0,0,0)).2.2.1,0)))))else none)
 else some (v18))).bind fun v20=>(if(IntKind.i64.wrap ((v18.length:Int) - 1)).toNat<v20.length then(if(IntKind.i64.wrap ((v18.length:Int) - 1)).toNat<v20.length then(if(IntKind.i64.wrap ((v18.length:Int) - 1)).toNat<(v20.set ((IntKind.i64.wrap ((v18.length:Int) - 1)).toNat) ((v20.getD ((IntKind.i64.wrap ((v18.length:Int) - 1)).toNat) (0,0,0,0)).1,((IntKind.i64.wrap (((v20.getD ((IntKind.i64.wrap ((v18.length:Int) - 1)).toNat) (0,0,0,0)).2.1)+((d1.getD v14.toNat (0,0,0)).2.2))),((v20.getD ((IntKind.i64.wrap ((v18.length:Int) - 1)).toNat) (0,0,0,0)).2.2.1,(v20.getD ((IntKind.i64.wrap ((v18.length:Int) - 1)).toNat) (0,0,0,0)).2.2.2)))).length then((bF x1 ((d1.getD v14.toNat (0,0,0)).1)).bind fun r21 =>
 (if(IntKind.i64.wrap ((v18.length:Int) - 1)).toNat<(v20.set ((IntKind.i64.wrap ((v18.length:Int) - 1)).toNat) ((v20.getD ((IntKind.i64.wrap ((v18.length:Int) - 1)).toNat) (0,0,0,0)).1,((IntKind.i64.wrap (((v20.getD ((IntKind.i64.wrap ((v18.length:Int) - 1)).toNat) (0,0,0,0)).2.1)+((d1.getD v14.toNat (0,0,0)).2.2))),((v20.getD ((IntKind.i64.wrap ((v18.length:Int) - 1)).toNat) (0,0,0,0)).2.2.1,(v20.getD ((IntKind.i64.wrap ((v18.length:Int) - 1)).toNat) (0,0,0,0)).2.2.2)))).length then some (Sum.inl (((v20.set ((IntKind.i64.wrap ((v18.length:Int) - 1)).toNat) ((v20.getD ((IntKind.i64.wrap ((v18.length:Int) - 1)).toNat) (0,0,0,0)).1,((IntKind.i64.wrap (((v20.getD ((IntKind.i64.wrap ((v18.length:Int) - 1)).toNat) (0,0,0,0)).2.1)+((d1.getD v14.toNat (0,0,0)).2.2))),((v20.getD ((IntKind.i64.wrap ((v18.length:Int) - 1)).toNat) (0,0,0,0)).2.2.1,(v20.getD ((IntKind.i64.wrap ((v18.length:Int) - 1)).toNat) (0,0,0,0)).2.2.2)))).set ((IntKind.i64.wrap ((v18.length:Int) - 1)).toNat) (((v20.set ((IntKind.i64.wrap ((v18.length:Int) - 1)).toNat) ((v20.getD ((IntKind.i64.wrap ((v18.length:Int) - 1)).toNat) (0,0,0,0)).1,((IntKind.i64.wrap (((v20.getD ((IntKind.i64.wrap ((v18.length:Int) - 1)).toNat) (0,0,0,0)).2.1)+((d1.getD v14.toNat (0,0,0)).2.2))),((v20.getD ((IntKind.i64.wrap ((v18.length:Int) - 1)).toNat) (0,0,0,0)).2.2.1,(v20.getD ((IntKind.i64.wrap ((v18.length:Int) - 1)).toNat) (0,0,0,0)).2.2.2)))).getD ((IntKind.i64.wrap ((v18.length:Int) - 1)).toNat) (0,0,0,0)).1,(((v20.set ((IntKind.i64.wrap ((v18.length:Int) - 1)).toNat) ((v20.getD ((IntKind.i64.wrap ((v18.length:Int) - 1)).toNat) (0,0,0,0)).1,((IntKind.i64.wrap (((v20.getD ((IntKind.i64.wrap ((v18.length:Int) - 1)).toNat) (0,0,0,0)).2.1)+((d1.getD v14.toNat (0,0,0)).2.2))),((v20.getD ((IntKind.i64.wrap ((v18.length:Int) - 1)).toNat) (0,0,0,0)).2.2.1,(v20.getD ((IntKind.i64.wrap ((v18.length:Int) - 1)).toNat) (0,0,0,0)).2.2.2)))).getD ((IntKind.i64.wrap ((v18.length:Int) - 1)).toNat) (0,0,0,0)).2.1,((max (((v20.set ((IntKind.i64.wrap ((v18.length:Int) - 1)).toNat) ((v20.getD ((IntKind.i64.wrap ((v18.length:Int) - 1)).toNat) (0,0,0,0)).1,((IntKind.i64.wrap (((v20.getD ((IntKind.i64.wrap ((v18.length:Int) - 1)).toNat) (0,0,0,0)).2.1)+((d1.getD v14.toNat (0,0,0)).2.2))),((v20.getD ((IntKind.i64.wrap ((v18.length:Int) - 1)).toNat) (0,0,0,0)).2.2.1,(v20.getD ((IntKind.i64.wrap ((v18.length:Int) - 1)).toNat) (0,0,0,0)).2.2.2)))).getD ((IntKind.i64.wrap ((v18.length:Int) - 1)).toNat) (0,0,0,0)).2.2.1) (min r21 2)),((v20.set ((IntKind.i64.wrap ((v18.length:Int) - 1)).toNat) ((v20.getD ((IntKind.i64.wrap ((v18.length:Int) - 1)).toNat) (0,0,0,0)).1,((IntKind.i64.wrap (((v20.getD ((IntKind.i64.wrap ((v18.length:Int) - 1)).toNat) (0,0,0,0)).2.1)+((d1.getD v14.toNat (0,0,0)).2.2))),((v20.getD ((IntKind.i64.wrap ((v18.length:Int) - 1)).toNat) (0,0,0,0)).2.2.1,(v20.getD ((IntKind.i64.wrap ((v18.length:Int) - 1)).toNat) (0,0,0,0)).2.2.2)))).getD ((IntKind.i64.wrap ((v18.length:Int) - 1)).toNat) (0,0,0,0)).2.2.2)))),v19,(IntKind.i64.wrap (v14+1))))else none))else none)else none)else none))else none)else none)else none)))else none)
 else some (Sum.inr (v12,v13)))
def nM(d1:List Z8)(i1:List Int)(x1:Option Z16):Option ((List Z2)×List Int) :=
 ((iter (eF d1 i1 x1) (([]:List Z2),([]:List Int),0)).bind fun(v15,v16)=>(if(v16.length+([(d1.length:Int)]:List Int).length)*8≤140737488355328∧v16.length+([(d1.length:Int)]:List Int).length≤9223372036854775807 then some (v15,(v16++([(d1.length:Int)]:List Int)))else none))
theorem aAs(β0 β1 β2:Bool){d1:List Z8}{i1:List Int}{x1:Option Z16}{res:(List Z2)×List Int}(h:nM d1 i1 x1=some res):
  Pure Tryz.prog 98 [.p β0 (.slice (.prod (.int .i32) Y2)) d1,.p β1 (.slice (.int .u8)) i1,.p β2 (.ptr P8) x1] (aX (bJ false [⟨(.slice cQ),res.1⟩,⟨(.slice (.int .i64)),res.2⟩])):=by
 refine Pure.of_body bB Tryz.func98 (by kernel_rfl) rfl (nl rfl) (fun Bw w0=> ?_) rfl
 unfold nM at h
 refine G (G (G (aC (G (aF (cW h (fun(v12,v13,v14)=>aM [(0,.p β0 (.slice (.prod (.int .i32) Y2)) d1),(1,.p β1 (.slice (.int .u8)) i1),(2,.p β2 (.ptr P8) x1),(8,.sl 0),(9,.sl 1),(13,.p β0 (.slice (.prod (.int .i32) Y2)) d1),(14,.i64 (d1.length:Int)),(15,.i64 v14)] [(0,.arr 184 cQ v12),(1,.arr 3 (.int .i64) v13)] 2) 0 (fun(v15,v16)=>aM [(0,.p β0 (.slice (.prod (.int .i32) Y2)) d1),(8,.sl 0),(9,.sl 1)] [(0,.arr 184 cQ v15),(1,.arr 3 (.int .i64) v16)] 2) (gg [.nilS 8 56 184 cQ,.nilS 9 57 3 (.int .i64)] [56,57]) (fun y o h=> ?_) (fun r22 h=> ?_)))))))
 ·obtain⟨v12,v13,v14⟩:=y
  unfold eF at h
  refine G (aC (aO h (fun hb23 h=> ?_) (fun hb23 h=> ?_)))
  ·refine aB (aA (aC (aF (GC 1 h (fun h=>aC (aC (bO h (fun v17=>aM [(0,.p β0 (.slice (.prod (.int .i32) Y2)) d1),(1,.p β1 (.slice (.int .u8)) i1),(2,.p β2 (.ptr P8) x1),(8,.sl 0),(9,.sl 1),(10,.i64 v14),(11,.adr 2 0 3 0),(13,.p β0 (.slice (.prod (.int .i32) Y2)) d1),(14,.i64 (d1.length:Int)),(15,.i64 v14),(34,.bo v17)] (aJw v12 v13 ((d1.getD v14.toNat (0,0,0)).1) ((d1.getD v14.toNat (0,0,0)).2.1) ((d1.getD v14.toNat (0,0,0)).2.2)) 3) (fun v17 h=> ?_) (fun v17 h=> ?_))))))))
   ·rcases aW h with⟨hb28,h⟩ | ⟨hb28,h⟩
    ·refine bS ⟨[(2,true),(14,true)],[]⟩ [(3,7,oc hb28),(13,14,oc hb28)] ?_
     exact eN h (gg [] [0,1,34])
    rcases aW h with⟨hb29,h⟩ | ⟨hb29,h⟩
    ·obtain⟨c67,h⟩:=aS h
     refine bS ⟨[(2,false),(7,true),(13,true),(14,false)],[]⟩ [(3,7,an hb28),(8,9,an hb29),(10,10,oc (And.intro hb29 c67)),(11,12,an hb29),(13,13,oc (And.intro hb28 hb29)),(14,14,oc hb28)] ?_
     exact eN h (gg [] [0,1,34])
    refine bS ⟨[(2,false),(7,false),(13,false),(14,false)],[]⟩ [(3,7,an hb28),(8,12,oc hb29),(13,13,oc (And.intro hb28 hb29)),(14,14,oc hb28)] ?_
    exact eN h (gg [] [0,1,34])
   refine aA (bO h (fun(v18,v19)=>aM [(0,.p β0 (.slice (.prod (.int .i32) Y2)) d1),(1,.p β1 (.slice (.int .u8)) i1),(2,.p β2 (.ptr P8) x1),(8,.sl 0),(9,.sl 1),(10,.i64 v14),(11,.adr 2 0 3 0),(13,.p β0 (.slice (.prod (.int .i32) Y2)) d1),(14,.i64 (d1.length:Int)),(15,.i64 v14)] (aJw v18 v19 ((d1.getD v14.toNat (0,0,0)).1) ((d1.getD v14.toNat (0,0,0)).2.1) ((d1.getD v14.toNat (0,0,0)).2.2)) 3) (fun r19 h=> ?_) (fun r19 h=> ?_))
   ·refine aO h (fun hb31 h=> ?_) (fun hb31 h=> ?_)
    ·obtain⟨r18,q16,h⟩:=aG h
     obtain⟨c73,h⟩:=aS h
     have u_1:=(aAz q16)
     refine GD ⟨[],[(5,(oP u_1))]⟩ [(5,5,oc u_1),(8,8,oc c73)] (GCe 3 h (fun h=> ?_))
     exact eN h (gg [] [67,107,2])
    refine aB ?_
    exact eN h (gg [] [0,1,2])
   obtain⟨v18,v19⟩:=r19
   refine aA (GC 4 h (fun h=>aC ?_))
   obtain⟨c80,c81,h⟩:=g2 h
   refine GN a0 [(4,4,oc c80),(5,5,oc c81)] (bO h (fun v20=>aM [(0,.p β0 (.slice (.prod (.int .i32) Y2)) d1),(1,.p β1 (.slice (.int .u8)) i1),(2,.p β2 (.ptr P8) x1),(8,.sl 0),(9,.sl 1),(11,.adr 2 0 3 0),(12,.adr 0 ((IntKind.i64.wrap ((v18.length:Int) - 1)).toNat) 4 0),(13,.p β0 (.slice (.prod (.int .i32) Y2)) d1),(14,.i64 (d1.length:Int)),(15,.i64 v14)] (aJw v20 v19 ((d1.getD v14.toNat (0,0,0)).1) ((d1.getD v14.toNat (0,0,0)).2.1) ((d1.getD v14.toNat (0,0,0)).2.2)) 3) (fun v20 h=> ?_) (fun v20 h=> ?_))
   ·refine aO h (fun hb33 h=> ?_) (fun hb33 h=> ?_)
    ·refine GCe 3 h (fun h=> ?_)
     exact eN h (gg [] [0,1,2])
    refine aB ?_
    exact eN h (gg [] [0,1,2])
   refine aA ?_
   obtain⟨c88,c89,h⟩:=g2 h
   refine GD a0 [(3,3,oc c88),(9,9,oc c89)] ?_
   obtain⟨c92,h⟩:=aS h
   obtain⟨r21,q18,h⟩:=aG h
   obtain⟨c93,h⟩:=aS h
   have u_1:=(qI β2 q18)
   refine qA ⟨[],[(8,(oP u_1))]⟩ [(4,4,oc c92),(8,8,oc u_1),(13,13,oc c93)] (aK (aA (Ge ?_)))
   exact eB h (gg [] [0,1])
  refine aH (aY ?_)
  exact eX h (gg [] [0,1])
 obtain⟨v15,v16⟩:=r22
 refine aJ (aA (GC 5 h (fun h=>aL ?_)))
 obtain rfl:=sI h
 exact aD [(.slice cQ),(.slice (.int .i64))] (by kernel_rfl)
def cT(d1:List Z8)(x1:List Int)(x2:List Bool)(r4:List Int):rY→Option (rY⊕(List Int)):=fun(v13,v14) =>
 (if(decide (v14<(r4.length:Int)))=true then(if 0≤v14∧v14<(r4.length:Int)then(((if((r4.getD v14.toNat 0) == (d1.length:Int))=true then(if(v13.length+([2]:List Int).length)*1≤140737488355328∧v13.length+([2]:List Int).length≤9223372036854775807 then some ((v13++([2]:List Int)))else none)
 else(((if((r4.getD v14.toNat 0) == 0)=true then some (true)
 else some ((decide ((r4.getD v14.toNat 0)≥(x1.length:Int)))))).bind fun v19=>(if v19=true then(if(v13.length+([0]:List Int).length)*1≤140737488355328∧v13.length+([0]:List Int).length≤9223372036854775807 then some ((v13++([0]:List Int)))else none)
 else(((if 0≤(r4.getD v14.toNat 0)∧(r4.getD v14.toNat 0)<(x1.length:Int)then(if((x1.getD ((r4.getD v14.toNat 0).toNat) 0) == 0)=true then(if(decide ((r4.getD v14.toNat 0)<(x2.length:Int)))=true then(if 0≤(r4.getD v14.toNat 0)∧(r4.getD v14.toNat 0)<(x2.length:Int)then some ((x2.getD ((r4.getD v14.toNat 0).toNat) false))else none)
 else some (false))
 else some (false))else none)).bind fun v20=>(if v20=true then(if(v13.length+([3]:List Int).length)*1≤140737488355328∧v13.length+([3]:List Int).length≤9223372036854775807 then some ((v13++([3]:List Int)))else none)
 else(if 0≤(r4.getD v14.toNat 0)∧(r4.getD v14.toNat 0)<(x1.length:Int)then(if(v13.length+([(x1.getD ((r4.getD v14.toNat 0).toNat) 0)]:List Int).length)*1≤140737488355328∧v13.length+([(x1.getD ((r4.getD v14.toNat 0).toNat) 0)]:List Int).length≤9223372036854775807 then some ((v13++([(x1.getD ((r4.getD v14.toNat 0).toNat) 0)]:List Int)))else none)else none))))))).bind fun v18=>some (Sum.inl (v18,(IntKind.i64.wrap (v14+1)))))else none)
 else some (Sum.inr v13))
def iG(d1:List Z8)(i1 x1:List Int)(x2:List Bool)(x3:Option Z16):Option ((List Z2)×List Int) :=
 ((nM d1 i1 x3).bind fun(r3,r4) =>
 ((iter (cT d1 x1 x2 r4) (([]:List Int),0)).bind fun v15=>some (r3,v15)))
theorem aAG(β0 β1 β2 β3 β4:Bool){d1:List Z8}{i1:List Int}{x1:List Int}{x2:List Bool}{x3:Option Z16}{res:(List Z2)×List Int}(h:iG d1 i1 x1 x2 x3=some res):
  Pure Tryz.prog 67 [.p β0 (.slice (.prod (.int .i32) Y2)) d1,.p β1 (.slice (.int .u8)) i1,.p β2 (.slice (.int .u8)) x1,.p β3 (.slice .bool) x2,.p β4 (.ptr P8) x3] (aX (bJ false [⟨N6,res⟩])):=by
 refine Pure.of_body bB Tryz.func67 (by kernel_rfl) rfl (nl rfl) (fun Bw w0=> ?_) rfl
 unfold iG at h
 refine G ?_
 obtain⟨⟨r3,r4⟩,q2,h⟩:=aG h
 refine GP 3 (aAs β0 β1 β4 q2) (G (aC (G (aF (cW h (fun(v13,v14)=>aM [(0,.p β0 (.slice (.prod (.int .i32) Y2)) d1),(2,.p β2 (.slice (.int .u8)) x1),(3,.p β3 (.slice .bool) x2),(10,.adr 0 0 2 0),(13,.adr 1 0 2 0),(25,.p false (.slice (.int .i64)) r4),(26,.i64 (r4.length:Int)),(27,.i64 v14)] (aH2 r3 v13) 3) 0 (fun v15=>aM [(10,.adr 0 0 2 0),(13,.adr 1 0 2 0)] (aH2 r3 v15) 3) (gg [.nilC 96 1 136 71 (.int .u8)] [0,96,136]) (fun y o h=> ?_) (fun v15 h=> ?_))))))
 ·obtain⟨v13,v14⟩:=y
  unfold cT at h
  refine G (aC (aO h (fun hb51 h=> ?_) (fun hb51 h=> ?_)))
  ·refine aB (aA (aC (aF (GC 0 h (fun h=>aF (G (bO h (fun v18=>aM [(0,.p β0 (.slice (.prod (.int .i32) Y2)) d1),(2,.p β2 (.slice (.int .u8)) x1),(3,.p β3 (.slice .bool) x2),(10,.adr 0 0 2 0),(13,.adr 1 0 2 0),(25,.p false (.slice (.int .i64)) r4),(26,.i64 (r4.length:Int)),(27,.i64 v14)] (aH2 r3 v18) 3) (fun v18 h=> ?_) (fun v18 h=> ?_))))))))
   ·refine aO h (fun hb64 h=> ?_) (fun hb64 h=> ?_)
    ·refine GCe 3 h (fun h=> ?_)
     exact eN h (gg [] [0,1,99])
    refine aC (bO h (fun v19=>aM [(0,.p β0 (.slice (.prod (.int .i32) Y2)) d1),(2,.p β2 (.slice (.int .u8)) x1),(3,.p β3 (.slice .bool) x2),(10,.adr 0 0 2 0),(13,.adr 1 0 2 0),(15,.i64 (r4.getD v14.toNat 0)),(25,.p false (.slice (.int .i64)) r4),(26,.i64 (r4.length:Int)),(27,.i64 v14),(50,.bo v19)] (aH2 r3 v13) 3) (fun v19 h=> ?_) (fun v19 h=> ?_))
    ·rcases aW h with⟨hb67,h⟩ | ⟨hb67,h⟩
     ·refine bS ⟨[(2,true),(7,true)],[]⟩ [(3,7,oc hb67)] ?_
      exact eN h (gg [] [0,1,2])
     refine bS ⟨[(2,false),(7,false)],[]⟩ [(3,6,an hb67),(7,7,oc hb67)] ?_
     exact eN h (gg [] [0,1,2])
    refine aA (aO h (fun hb68 h=> ?_) (fun hb68 h=> ?_))
    ·refine GCe 3 h (fun h=> ?_)
     exact eN h (gg [] [0,1,27])
    refine aC (bO h (fun v20=>aM [(0,.p β0 (.slice (.prod (.int .i32) Y2)) d1),(2,.p β2 (.slice (.int .u8)) x1),(3,.p β3 (.slice .bool) x2),(10,.adr 0 0 2 0),(13,.adr 1 0 2 0),(15,.i64 (r4.getD v14.toNat 0)),(25,.p false (.slice (.int .i64)) r4),(26,.i64 (r4.length:Int)),(27,.i64 v14),(64,.bo v20)] (aH2 r3 v13) 3) (fun v20 h=> ?_) (fun v20 h=> ?_))
    ·obtain⟨c95,h⟩:=aS h
     rcases aW h with⟨hb73,h⟩ | ⟨hb73,h⟩
     ·rcases aW h with⟨hb74,h⟩ | ⟨hb74,h⟩
      ·obtain⟨c96,h⟩:=aS h
       refine bS ⟨[(5,true),(10,true),(11,true),(16,true)],[]⟩ [(2,2,oc c95),(6,9,an hb73),(10,10,oc hb73),(12,13,an hb74),(14,14,oc (And.intro hb74 c96)),(15,15,an hb74),(16,16,oc hb74)] ?_
       exact eN h (gg [] [0,1,2])
      refine bS ⟨[(5,true),(10,true),(11,false),(16,false)],[]⟩ [(2,2,oc c95),(6,9,an hb73),(10,10,oc hb73),(12,16,oc hb74)] ?_
      exact eN h (gg [] [0,1,2])
     refine bS ⟨[(5,false),(10,false)],[]⟩ [(2,2,oc c95),(6,10,oc hb73)] ?_
     exact eN h (gg [] [0,1,2])
    refine aA (aO h (fun hb75 h=> ?_) (fun hb75 h=> ?_))
    ·refine GCe 3 h (fun h=> ?_)
     exact eN h (gg [] [0,1,27])
    obtain⟨c101,c102,h⟩:=g2 h
    refine qA a0 [(4,4,oc c101),(7,7,oc c102)] ?_
    exact eN h (gg [] [0,1,59])
   refine aK (aK (aA (Ge ?_)))
   exact eB h (gg [] [0,1,2])
  refine aH (aY ?_)
  exact eX h (gg [] [0,1,2])
 refine aJ (aA (G (pV [.frzC 0 1] (by kernel_rfl) (aL ?_))))
 obtain rfl:=sI h
 exact aD [N6] (by kernel_rfl)
def bA(b1:Option Z1)(text1:List Int):Option (((List Z2)×List Int)×Int) :=
 (if b1.isNone=true then some ((([]:List Z2),([]:List Int)),1)
 else(if(decide ((text1.length:Int) > 4096))=true then some ((([]:List Z2),([]:List Int)),3)
 else((qD text1).bind fun r2 =>
 (if b1.isSome=true then(if b1.isSome=true then((cZ ((b1.getD (Ty.zero qJ)).2.2.1) r2).bind fun r9 =>
 ((fG ((b1.getD (Ty.zero qJ)).1) r9).bind fun r10 =>
 (if b1.isSome=true then(if b1.isSome=true then((cZ ((b1.getD (Ty.zero qJ)).2.2.2.1) r2).bind fun r11 =>
 ((fG ((b1.getD (Ty.zero qJ)).2.1) r11).bind fun r12 =>
 (if b1.isSome=true then((eM ((b1.getD (Ty.zero qJ)).2.2.2.2.2) r2).bind fun r13 =>
 (if b1.isSome=true then((iG r2 r10 r12 r13 ((b1.getD (Ty.zero qJ)).2.2.2.2.1)).bind fun r14 =>
 some ((r14.1,r14.2),0))else none))else none)))else none)else none)))else none)else none))))
theorem o9(β1:Bool){b1:Option Z1}{text1:List Int}{res:((List Z2)×List Int)×Int}(h:bA b1 text1=some res):
  Pure Tryz.prog 45 [.p false (.ptr qJ) b1,.p β1 (.slice (.int .u8)) text1] (aX (bJ false [⟨N6,res.1⟩,⟨(.int .i64),res.2⟩])):=by
 refine Pure.of_body bB Tryz.func45 (by kernel_rfl) rfl (nl rfl) (fun Bw w0=> ?_) rfl
 unfold bA at h
 refine G (aC (GN a0 [(1,1,⟨∃e,Tryz.prog.underlying 33=some (.pointer e),⟨_,rfl⟩⟩)] (aO h (fun hb1 h=> ?_) (fun hb1 h=> ?_))))
 ·refine G (aL (aE ?_))
  obtain rfl:=sI h
  exact aD [N6,(.int .i64)] (by kernel_rfl)
 refine aB (aA (aC (G (aO h (fun hb2 h=> ?_) (fun hb2 h=> ?_)))))
 ·refine G (aL (aE ?_))
  obtain rfl:=sI h
  exact aD [N6,(.int .i64)] (by kernel_rfl)
 refine aB (aA ?_)
 obtain⟨r2,q2,h⟩:=aG h
 refine GP 1 (J6 β1 q2) ?_
 obtain⟨c7,c8,h⟩:=g2 h
 obtain⟨r9,q9,h⟩:=aG h
 obtain⟨r10,q10,h⟩:=aG h
 obtain⟨c9,c10,h⟩:=g2 h
 obtain⟨r11,q11,h⟩:=aG h
 obtain⟨r12,q12,h⟩:=aG h
 obtain⟨c11,h⟩:=aS h
 obtain⟨r13,q13,h⟩:=aG h
 obtain⟨c12,h⟩:=aS h
 obtain⟨r14,q14,h⟩:=aG h
 have u_1:=(nX false false q9)
 have u_2:=(nD false false q10)
 have u_3:=(nX false false q11)
 have u_4:=(nD false false q12)
 have u_5:=(rA false q13)
 have u_6:=(aAG false false false false false q14)
 refine GD ⟨[],[(10,(oP u_1)),(11,(oP u_2)),(21,(oP u_3)),(22,(oP u_4)),(28,(oP u_5)),(33,(oP u_6))]⟩ [(2,2,oc c7),(6,6,oc c8),(10,10,oc u_1),(11,11,oc u_2),(13,13,oc c9),(17,17,oc c10),(21,21,oc u_3),(22,22,oc u_4),(24,24,oc c11),(28,28,oc u_5),(30,30,oc c12),(33,33,oc u_6)] (aL ?_)
 obtain rfl:=sI h
 exact aD [N6,(.int .i64)] (by kernel_rfl)
def fX(p2:List Int):rY→Option (rY⊕(List Int)):=fun(out4,v2) =>
 (if(decide (v2<(p2.length:Int)))=true then(if 0≤v2∧v2<(p2.length:Int)then(((if((p2.getD v2.toNat 0) == 2)=true then(if(out4.length+([v2]:List Int).length)*8≤140737488355328∧out4.length+([v2]:List Int).length≤9223372036854775807 then some ((out4++([v2]:List Int)))else none)
 else some (out4))).bind fun out6=>some (Sum.inl (out6,(IntKind.i64.wrap (v2+1)))))else none)
 else some (Sum.inr out4))
def lH(p1:List Z2)(p2:List Int):Option (List Int) :=
 ((iter (fX p2) (([]:List Int),0)).bind fun out5=>some out5)
theorem vO(β0 β1:Bool){p1:List Z2}{p2:List Int}{res:List Int}(h:lH p1 p2=some res):
  Pure Tryz.prog 61 [.agg [.p β0 (.slice cQ) p1,.p β1 (.slice (.int .u8)) p2]] (aX (bJ false [⟨(.slice (.int .i64)),res⟩])):=by
 refine Pure.of_body bB Tryz.func61 (by kernel_rfl) rfl (nl rfl) (fun Bw w0=> ?_) rfl
 unfold lH at h
 refine G (G (aC (G (aF (cW h (fun(out4,v2)=>aM [(3,.sl 0),(7,.p β1 (.slice (.int .u8)) p2),(8,.i64 (p2.length:Int)),(9,.i64 v2)] [(0,.arr 3 (.int .i64) out4)] 1) 0 (fun out5=>aM [(3,.sl 0)] [(0,.arr 3 (.int .i64) out5)] 1) (gg [.nilS 3 56 3 (.int .i64)] [56]) (fun y o h=> ?_) (fun out5 h=> ?_))))))
 ·obtain⟨out4,v2⟩:=y
  unfold fX at h
  refine G (aC (aO h (fun hb7 h=> ?_) (fun hb7 h=> ?_)))
  ·refine aB (aA (aC (aF (GC 1 h (fun h=>G (bO h (fun out6=>aM [(3,.sl 0),(7,.p β1 (.slice (.int .u8)) p2),(8,.i64 (p2.length:Int)),(9,.i64 v2)] [(0,.arr 3 (.int .i64) out6)] 1) (fun out6 h=> ?_) (fun out6 h=> ?_)))))))
   ·refine aO h (fun hb9 h=> ?_) (fun hb9 h=> ?_)
    ·refine GCe 3 h (fun h=> ?_)
     exact eN h (gg [] [89])
    refine aB ?_
    exact eN h (gg [] [0])
   refine aK (aA (Ge ?_))
   exact eB h (gg [] [0])
  refine aH (aY ?_)
  exact eX h (gg [] [0])
 refine aJ (aA (G (aL ?_)))
 obtain rfl:=sI h
 exact aD [(.slice (.int .i64))] (by kernel_rfl)
def jN(p1:List Z2)(p2:List Int)(to1:Int):rY→Option (rY⊕(List Int)):=fun(b2,i2) =>
 (if(decide (i2<to1))=true then(if 0≤i2∧i2<(p1.length:Int)then(if 0≤(4:Int)then(if 0≤(IntKind.i64.wrap (i2+1))∧(IntKind.i64.wrap (i2+1))<(p2.length:Int)then(if(b2.length+([(aT .or .u8 (IntKind.u8.wrap ((IntKind.u8.wrap ((p1.getD i2.toNat (0,0,0,0)).2.2.1))*2 ^ (min (4:Int).toNat IntKind.u8.bits))) ((p1.getD i2.toNat (0,0,0,0)).2.2.2)),(p2.getD ((IntKind.i64.wrap (i2+1)).toNat) 0)]:List Int).length)*1≤140737488355328∧b2.length+([(aT .or .u8 (IntKind.u8.wrap ((IntKind.u8.wrap ((p1.getD i2.toNat (0,0,0,0)).2.2.1))*2 ^ (min (4:Int).toNat IntKind.u8.bits))) ((p1.getD i2.toNat (0,0,0,0)).2.2.2)),(p2.getD ((IntKind.i64.wrap (i2+1)).toNat) 0)]:List Int).length≤9223372036854775807 then some (Sum.inl ((b2++([(aT .or .u8 (IntKind.u8.wrap ((IntKind.u8.wrap ((p1.getD i2.toNat (0,0,0,0)).2.2.1))*2 ^ (min (4:Int).toNat IntKind.u8.bits))) ((p1.getD i2.toNat (0,0,0,0)).2.2.2)),(p2.getD ((IntKind.i64.wrap (i2+1)).toNat) 0)]:List Int)),(IntKind.i64.wrap (i2+1))))else none)else none)else none)else none)
 else some (Sum.inr b2))
def tY(p1:List Z2)(p2:List Int)(from1 to1:Int):Option (List UInt8) :=
 (if 0≤(0:Int)∧0≤(IntKind.i64.wrap (2*(IntKind.i64.wrap (to1 - from1))))∧1*(IntKind.i64.wrap (2*(IntKind.i64.wrap (to1 - from1))))≤281474976710656∧(IntKind.i64.wrap (2*(IntKind.i64.wrap (to1 - from1))))≤9223372036854775807 then((iter (jN p1 p2 to1) ((List.replicate (0:Int).toNat (0:Int)),from1)).bind fun b3=>some (dG b3))else none)
theorem aDb(β0 β1:Bool){p1:List Z2}{p2:List Int}{from1:Int}{to1:Int}{res:List UInt8}(h:tY p1 p2 from1 to1=some res):
  Pure Tryz.prog 62 [.agg [.p β0 (.slice cQ) p1,.p β1 (.slice (.int .u8)) p2],.i64 from1,.i64 to1] (aX (bJ false [⟨.str,res⟩])):=by
 refine Pure.of_body bB Tryz.func62 (by kernel_rfl) rfl (nl rfl) (fun Bw w0=> ?_) rfl
 unfold tY at h
 refine G (GC 4 h (fun h=>aC (G (aF (cW h (fun(b2,i2)=>aM [(2,.i64 to1),(3,.adr 0 0 2 0),(7,.sl 1),(8,.i64 i2)] (aLA β0 p1 β1 p2 b2) 2) 0 (fun b3=>aM [(7,.sl 0)] [(0,.arr 5 (.int .u8) b3)] 1) (gg [] [0,48]) (fun y o h=> ?_) (fun b3 h=> ?_))))))
 ·obtain⟨b2,i2⟩:=y
  unfold jN at h
  refine aC (G (aO h (fun hb3 h=> ?_) (fun hb3 h=> ?_)))
  ·refine aB (aA (aC (aF (GC 3 h (fun h=> ?_)))))
   obtain⟨c24,c25,c26,h⟩:=g3 h
   refine qA a0 [(4,4,oc c24),(12,12,oc c25),(15,15,oc c26)] (aK (aA (Ge ?_)))
   exact eB h (gg [] [0,202])
  refine aH (aY ?_)
  exact eX h (gg [] [1])
 refine aJ (aA (G (aL ?_)))
 obtain rfl:=sI h
 exact aD [.str] (by kernel_rfl)
def kQ(c1 c2 c3 c4 col1 tab1:Int):Option (Int) :=
 (if(c4 == 2)=true then(if ¬tab1=0 then some (IntKind.i64.wrap ((IntKind.i64.wrap (col1+tab1)) - (Int.tmod col1 tab1)))else none)
 else some (IntKind.i64.wrap (col1+c3)))
theorem rB{c1:Int}{c2:Int}{c3:Int}{c4:Int}{col1:Int}{tab1:Int}{res:Int}(h:kQ c1 c2 c3 c4 col1 tab1=some res):
  Pure Tryz.prog 109 [.agg [.i64 c1,.i64 c2,.i64 c3,.u8 c4],.i64 col1,.i64 tab1] (aX (bJ false [⟨(.int .i64),res⟩])):=by
 refine Pure.of_body bB Tryz.func109 (by kernel_rfl) rfl (nl rfl) (fun Bw w0=> ?_) rfl
 unfold kQ at h
 refine G (aC (G (aO h (fun hb1 h=> ?_) (fun hb1 h=> ?_))))
 ·refine GC 5 h (fun h=>aL (aE ?_))
  obtain rfl:=sI h
  exact aD [(.int .i64)] (by kernel_rfl)
 refine aB (aA (G (aL ?_)))
 obtain rfl:=sI h
 exact aD [(.int .i64)] (by kernel_rfl)
def nP(c1 c2 c3 c4:Int):Option (Bool) :=
 (((if(c4 == 1)=true then some (true)
 else(if(c4 == 0)=true then some ((c3 == 0))
 else some (false)))).bind fun v1=>some v1)
theorem aAo{c1:Int}{c2:Int}{c3:Int}{c4:Int}{res:Bool}(h:nP c1 c2 c3 c4=some res):
  Pure Tryz.prog 159 [.agg [.i64 c1,.i64 c2,.i64 c3,.u8 c4]] (aX (bJ false [⟨.bool,res⟩])):=by
 refine Pure.of_body bB Tryz.func159 (by kernel_rfl) rfl (nl rfl) (fun Bw w0=> ?_) rfl
 unfold nP at h
 refine G (aC (bO h (fun v1=>aM [(2,.bo v1)] [] 0) (fun v1 h=> ?_) (fun v1 h=> ?_)))
 ·rcases aW h with⟨hb5,h⟩ | ⟨hb5,h⟩
  ·refine bS ⟨[(3,true),(12,true)],[]⟩ [(4,7,oc hb5),(11,12,oc hb5)] ?_
   exact eN h (gg [] [])
  rcases aW h with⟨hb6,h⟩ | ⟨hb6,h⟩
  ·refine bS ⟨[(3,false),(7,true),(11,true),(12,false)],[]⟩ [(4,7,an hb5),(8,10,an hb6),(11,11,oc (And.intro hb5 hb6)),(12,12,oc hb5)] ?_
   exact eN h (gg [] [])
  refine bS ⟨[(3,false),(7,false),(11,false),(12,false)],[]⟩ [(4,7,an hb5),(8,10,oc hb6),(11,11,oc (And.intro hb5 hb6)),(12,12,oc hb5)] ?_
  exact eN h (gg [] [])
 refine aA (aL ?_)
 obtain rfl:=sI h
 exact aD [.bool] (by kernel_rfl)
def fK(p1:List Z2)(from1:Int):(Int)→Option ((Int)⊕(Int)):=fun to3 =>
 (((if(decide (to3 > from1))=true then(if 0≤(IntKind.i64.wrap (to3 - 1))∧(IntKind.i64.wrap (to3 - 1))<(p1.length:Int)then((nP ((p1.getD ((IntKind.i64.wrap (to3 - 1)).toNat) (0,0,0,0)).1) ((p1.getD ((IntKind.i64.wrap (to3 - 1)).toNat) (0,0,0,0)).2.1) ((p1.getD ((IntKind.i64.wrap (to3 - 1)).toNat) (0,0,0,0)).2.2.1) ((p1.getD ((IntKind.i64.wrap (to3 - 1)).toNat) (0,0,0,0)).2.2.2)).bind fun r9 =>
 some (r9))else none)
 else some (false))).bind fun v3=>(if v3=true then some (Sum.inl (IntKind.i64.wrap (to3 - 1)))
 else some (Sum.inr to3)))
def gZ(p1:List Z2)(p2:List Int)(from1 to1:Int):Option (Int) :=
 ((iter (fK p1 from1) to1).bind fun to4=>some to4)
theorem sE(β0 β1:Bool){p1:List Z2}{p2:List Int}{from1:Int}{to1:Int}{res:Int}(h:gZ p1 p2 from1 to1=some res):
  Pure Tryz.prog 151 [.agg [.p β0 (.slice cQ) p1,.p β1 (.slice (.int .u8)) p2],.i64 from1,.i64 to1] (aX (bJ false [⟨(.int .i64),res⟩])):=by
 refine Pure.of_body bB Tryz.func151 (by kernel_rfl) rfl (nl rfl) (fun Bw w0=> ?_) rfl
 unfold gZ at h
 refine G (aC (aF (cW h (fun to3=>aM [(1,.i64 from1),(2,.i64 to3),(3,.adr 0 0 2 0)] (aK7 β0 p1 β1 p2) 1) 0 (fun to4=>aM [(2,.i64 to4)] [] 0) (gg [] [0]) (fun to3 o h=> ?_) (fun to4 h=> ?_))))
 ·unfold fK at h
  refine aC (aC (bO h (fun v3=>aM [(1,.i64 from1),(2,.i64 to3),(3,.adr 0 0 2 0),(18,.bo v3)] (aK7 β0 p1 β1 p2) 1) (fun v3 h=> ?_) (fun v3 h=> ?_)))
  ·rcases aW h with⟨hb11,h⟩ | ⟨hb11,h⟩
   ·obtain⟨c9,h⟩:=aS h
    obtain⟨r9,q9,h⟩:=aG h
    have u_1:=(aAo q9)
    refine bS ⟨[(3,true),(11,true)],[(10,(oP u_1))]⟩ [(4,7,an hb11),(8,8,oc (And.intro hb11 c9)),(9,9,an hb11),(10,10,oc (And.intro hb11 u_1)),(11,11,oc hb11)] ?_
    exact eN h (gg [] [0])
   refine bS ⟨[(3,false),(11,false)],[]⟩ [(4,11,oc hb11)] ?_
   exact eN h (gg [] [0])
  refine aA (aO h (fun hb12 h=> ?_) (fun hb12 h=> ?_))
  ·refine aB (aA (aF (Ge (aK ?_))))
   exact eB h (gg [] [0])
  refine aH (aY ?_)
  exact eX h (gg [] [])
 refine aJ (aA (G (aL ?_)))
 obtain rfl:=sI h
 exact aD [(.int .i64)] (by kernel_rfl)
def mX(p1:List Z2)(p2:List Int)(to1:Int):Option (Int×Bool) :=
 (if 0≤to1∧to1<(p2.length:Int)then(if 0≤to1∧to1<(p2.length:Int)then some ((p2.getD to1.toNat 0),((p2.getD to1.toNat 0) != 0))else none)else none)
theorem zN(β0 β1:Bool){p1:List Z2}{p2:List Int}{to1:Int}{res:Int×Bool}(h:mX p1 p2 to1=some res):
  Pure Tryz.prog 152 [.agg [.p β0 (.slice cQ) p1,.p β1 (.slice (.int .u8)) p2],.i64 to1] (aX (bJ false [⟨(.int .u8),res.1⟩,⟨.bool,res.2⟩])):=by
 refine Pure.of_body bB Tryz.func152 (by kernel_rfl) rfl (nl rfl) (fun Bw w0=> ?_) rfl
 unfold mX at h
 refine G ?_
 obtain⟨c3,c4,h⟩:=g2 h
 refine GD a0 [(3,3,oc c3),(8,8,oc c4)] (aL ?_)
 obtain rfl:=sI h
 exact aD [(.int .u8),.bool] (by kernel_rfl)
def C3(room1 gaps1:Int):Option (Option Nat) :=
 some (cC .quo (ofInt room1) (ofInt gaps1))
theorem aCG{room1:Int}{gaps1:Int}{res:Option Nat}(h:C3 room1 gaps1=some res):
  Pure Tryz.prog 160 [.i64 room1,.i64 gaps1] (aX (bJ false [⟨.flt,res⟩])):=by
 refine Pure.of_body bB Tryz.func160 (by kernel_rfl) rfl (nl rfl) (fun Bw w0=> ?_) rfl
 unfold C3 at h
 refine G (G (aL ?_))
 obtain rfl:=sI h
 exact aD [.flt] (by kernel_rfl)
def rT(r1 most1:Option Nat):Option (Bool) :=
 some (!(fGt r1 most1))
theorem aAy{r1:Option Nat}{most1:Option Nat}{res:Bool}(h:rT r1 most1=some res):
  Pure Tryz.prog 161 [.p false .flt r1,.p false .flt most1] (aX (bJ false [⟨.bool,res⟩])):=by
 refine Pure.of_body bB Tryz.func161 (by kernel_rfl) rfl (nl rfl) (fun Bw w0=> ?_) rfl
 unfold rT at h
 refine G (G (aL ?_))
 obtain rfl:=sI h
 exact aD [.bool] (by kernel_rfl)
def qR(f1:Option Nat):Option (Bool) :=
 some (!(fEq f1 f1))
theorem aAr{f1:Option Nat}{res:Bool}(h:qR f1=some res):
  Pure Tryz.prog 165 [.p false .flt f1] (aX (bJ false [⟨.bool,res⟩])):=by
 refine Pure.of_body bB Tryz.func165 (by kernel_rfl) rfl (nl rfl) (fun Bw w0=> ?_) rfl
 unfold qR at h
 refine G (G (aL ?_))
 obtain rfl:=sI h
 exact aD [.bool] (by kernel_rfl)
def X0(x1:Option Nat):Option (Option Nat):=some (S2 x1)
theorem R9(b:Nat)(w:World):
  Calls Tryz.prog 166 #[.float .f64 b] w fun e w'=>e = .returned (.float .f64 (b % 9223372036854775808))∧w'=w:=by
 have h1:∀w,(callFunc 169 #[.float .f64 b]).run Tryz.prog w = .ok (.value (.int .u64 b)) w:=fun w=>by
  rw[run_callFunc_extern (fn:=Tryz.f169) (e:=Extern.MathFloatBits.float64bits) Tryz.func169 (by kernel_rfl) rfl (by kernel_rfl) (by kernel_rfl)]
  rfl
 have h2:∀(n:Int) w,(callFunc 168 #[.int .u64 n]).run Tryz.prog w = .ok (.value (.float .f64 n.toNat)) w:=fun n w=>by
  rw[run_callFunc_extern (fn:=Tryz.f168) (e:=Extern.MathFloatBits.float64frombits) Tryz.func168 (by kernel_rfl) rfl (by kernel_rfl) (by kernel_rfl)]
  rfl
 go_enter Tryz.func166,Tryz.ntmps166
 go_wp2
 go_ret
 exact⟨by rw[←aIa];rfl,rfl⟩
theorem aDg{x1:Option Nat}{res:Option Nat}(h:X0 x1=some res):
  Pure Tryz.prog 166 [.p false .flt x1] (aX (bJ false [⟨.flt,res⟩])):=by
 obtain rfl:=sI h
 exact Pure.of_abs Tryz.func166 (by kernel_rfl) rfl (fun b w=>R9 b w)
def jE(r1:Option Nat):Option (Int) :=
 ((qR r1).bind fun r3 =>
 (if r3=true then some 0
 else((X0 r1).bind fun r5 =>
 (if(!(fLt (cC .mul (cC .mul (cC .mul (eK 4636737291354636288) r5) r5) r5) (eK 4666723172467343360)))=true then some 10000
 else(if(sZ (cC .mul (cC .mul (cC .mul (eK 4636737291354636288) r5) r5) r5)).isSome=true∧IntKind.i64.min≤(sZ (cC .mul (cC .mul (cC .mul (eK 4636737291354636288) r5) r5) r5)).getD 0∧(sZ (cC .mul (cC .mul (cC .mul (eK 4636737291354636288) r5) r5) r5)).getD 0≤IntKind.i64.max then some ((sZ (cC .mul (cC .mul (cC .mul (eK 4636737291354636288) r5) r5) r5)).getD 0)else none)))))
theorem D4{r1:Option Nat}{res:Int}(h:jE r1=some res):
  Pure Tryz.prog 162 [.p false .flt r1] (aX (bJ false [⟨(.int .i64),res⟩])):=by
 refine Pure.of_body bB Tryz.func162 (by kernel_rfl) rfl (nl rfl) (fun Bw w0=> ?_) rfl
 unfold jE at h
 refine G (aC ?_)
 obtain⟨r3,q2,h⟩:=aG h
 refine GP 1 (aAr q2) (aO h (fun hb1 h=> ?_) (fun hb1 h=> ?_))
 ·refine G (aL (aE ?_))
  obtain rfl:=sI h
  exact aD [(.int .i64)] (by kernel_rfl)
 refine aB (aA ?_)
 obtain⟨r5,q4,h⟩:=aG h
 refine GP 1 (aDg q4) (G (aC (G (aO h (fun hb2 h=> ?_) (fun hb2 h=> ?_)))))
 ·refine G (aL (aE ?_))
  obtain rfl:=sI h
  exact aD [(.int .i64)] (by kernel_rfl)
 refine aB (aA (GC 1 h (fun h=>aL ?_)))
 obtain rfl:=sI h
 exact aD [(.int .i64)] (by kernel_rfl)
def gF(p1:List Z2)(p2:List Int)(from1 end1 n1 gaps1:Int)(last1:Bool)(c1 c2 c3 c4 c5:Int)(c6:Option Nat):Option (Int×Bool) :=
 (if(decide (n1 > c1))=true then some (0,false)
 else(((if(!last1)=true then((C3 (IntKind.i64.wrap (c1 - n1)) gaps1).bind fun r10 =>
 ((rT r10 c6).bind fun r12 =>
 (if(!r12)=true then some ((Sum.inr (0,false)))
 else((jE r10).bind fun r14 =>
 some ((Sum.inl r14))))))
 else some ((Sum.inl 0)))).bind fun(r15:((Int)⊕(Int×Bool)))=>match r15 with
 | .inl bad1=>(((if(end1 == 3)=true then(if 0≤from1∧from1<(p2.length:Int)then(if((p2.getD from1.toNat 0) == 3)=true then some ((IntKind.i64.wrap ((IntKind.i64.wrap ((IntKind.i64.wrap ((IntKind.i64.wrap (10+bad1))*(IntKind.i64.wrap (10+bad1))))+c4))+c5)))
 else some ((IntKind.i64.wrap ((IntKind.i64.wrap ((IntKind.i64.wrap (10+bad1))*(IntKind.i64.wrap (10+bad1))))+c4))))else none)
 else some ((IntKind.i64.wrap ((IntKind.i64.wrap (10+bad1))*(IntKind.i64.wrap (10+bad1))))))).bind fun cost1=>some (cost1,true))
 | .inr ((r7,r8))=>some (r7,r8)))
theorem aAI(β0 β1:Bool){p1:List Z2}{p2:List Int}{from1:Int}{end1:Int}{n1:Int}{gaps1:Int}{last1:Bool}{c1:Int}{c2:Int}{c3:Int}{c4:Int}{c5:Int}{c6:Option Nat}{res:Int×Bool}(h:gF p1 p2 from1 end1 n1 gaps1 last1 c1 c2 c3 c4 c5 c6=some res):
  Pure Tryz.prog 153 [.agg [.p β0 (.slice cQ) p1,.p β1 (.slice (.int .u8)) p2],.i64 from1,.u8 end1,.i64 n1,.i64 gaps1,.bo last1,.agg [.i64 c1,.i64 c2,.u8 c3,.i64 c4,.i64 c5,.p false .flt c6]] (aX (bJ false [⟨(.int .i64),res.1⟩,⟨.bool,res.2⟩])):=by
 refine Pure.of_body bB Tryz.func153 (by kernel_rfl) rfl (nl rfl) (fun Bw w0=> ?_) rfl
 unfold gF at h
 refine G (aC (G (aO h (fun hb1 h=> ?_) (fun hb1 h=> ?_))))
 ·refine G (aL (aE ?_))
  obtain rfl:=sI h
  exact aD [(.int .i64),.bool] (by kernel_rfl)
 refine aB (aA (G (aC (G (aEl h (eI (sT Tryz.f153.ntmps (fun bad1=>aM [(1,.i64 from1),(2,.u8 end1),(7,.adr 0 0 2 0),(13,.adr 1 0 6 0),(16,.i64 bad1)] (aKn β0 p1 β1 p2 c1 c2 c3 c4 c5 c6) 2)) (iC tb Tryz.f153.results.toList (fun(r7,r8)=>[⟨(.int .i64),r7⟩,⟨.bool,r8⟩]))) (fun r15 h=> ?_) (fun r15 h e σ' hq=> ?_))))))
 ·refine aO h (fun hb4 h=> ?_) (fun hb4 h=> ?_)
  ·obtain⟨r10,q8,h⟩:=aG h
   refine GP 5 (aCG q8) (aC ?_)
   obtain⟨r12,q10,h⟩:=aG h
   refine GP 3 (aAy q10) (aO h (fun hb5 h=> ?_) (fun hb5 h=> ?_))
   ·refine G (aL ?_)
    obtain rfl:=sI h
    refine aE (aU ?_)
    exact bW (aD [(.int .i64),.bool] (by kernel_rfl))
   refine aB (aA ?_)
   obtain⟨r14,q12,h⟩:=aG h
   refine GPe 1 (D4 q12) ?_
   obtain rfl:=sI h
   refine bI ?_
   exact dI (gg [] [0,8])
  refine aB ?_
  obtain rfl:=sI h
  refine bI ?_
  exact dI (gg [] [0,8])
 rcases r15 with bad1 | ⟨r7,r8⟩
 ·obtain⟨rfl,hle⟩:=hq
  refine dH ?_ hle
  refine aA (G (aC (G (bO h (fun cost1=>aM [(18,.i64 cost1)] [] 0) (fun cost1 h=> ?_) (fun cost1 h=> ?_)))))
  ·refine aO h (fun hb8 h=> ?_) (fun hb8 h=> ?_)
   ·refine G (GC 3 h (fun h=>aO h (fun hb9 h=> ?_) (fun hb9 h=> ?_)))
    ·refine Ge ?_
     exact eN h (gg [] [])
    refine aB ?_
    exact eN h (gg [] [])
   refine aB ?_
   exact eN h (gg [] [])
  refine aA (G (aL ?_))
  obtain rfl:=sI h
  exact aD [(.int .i64),.bool] (by kernel_rfl)
 obtain⟨rfl,hr⟩:=hq
 refine aE ?_
 obtain rfl:=sI h
 exact hr
def fL(d1:List Z2)(d2:List Int)(i1 x1 x2:Int)(x3:List (Int×Int))(x4 x5 x6 x7 x8:Int)(x9:Option Nat):(Int×Int×Int×Int×Int×Int×Int)→Option ((Int×Int×Int×Int×Int×Int×Int)⊕(Int×Int)):=fun(v24,v25,v26,v27,v28,v29,v30) =>
 (if(decide (v30≤x2))=true then(if 0≤(IntKind.i64.wrap (v30 - 1))∧(IntKind.i64.wrap (v30 - 1))<(d1.length:Int)then((kQ ((d1.getD ((IntKind.i64.wrap (v30 - 1)).toNat) (0,0,0,0)).1) ((d1.getD ((IntKind.i64.wrap (v30 - 1)).toNat) (0,0,0,0)).2.1) ((d1.getD ((IntKind.i64.wrap (v30 - 1)).toNat) (0,0,0,0)).2.2.1) ((d1.getD ((IntKind.i64.wrap (v30 - 1)).toNat) (0,0,0,0)).2.2.2) v26 x5).bind fun r30 =>
 (((if(((d1.getD ((IntKind.i64.wrap (v30 - 1)).toNat) (0,0,0,0)).2.2.2) == 1)=true then some ((IntKind.i64.wrap (v28+1)))
 else some (v28))).bind fun v33=>((gZ d1 d2 (IntKind.i64.wrap (v30 - 1)) v30).bind fun r32 =>
 (((if(r32 == v30)=true then some ((r30,v33))
 else some ((v27,v29)))).bind fun(v34,v35)=>(if(decide (v34 > x4))=true then some (Sum.inr (v24,v25))
 else((mX d1 d2 v30).bind fun(r36,r37) =>
 (if 0≤(IntKind.i64.wrap (v30 - x1))∧(IntKind.i64.wrap (v30 - x1))<(x3.length:Int)then(((if(!r37)=true then some (true)
 else(if(decide (v30<x2))=true then some ((decide (((x3.getD ((IntKind.i64.wrap (v30 - x1)).toNat) (0,0)).2)<0)))
 else some (false)))).bind fun v36=>(if v36=true then some (Sum.inl (v24,v25,r30,v34,v33,v35,(IntKind.i64.wrap (v30+1))))
 else(((if(r36 == 3)=true then some ((IntKind.i64.wrap (v34+1)))
 else some (v34))).bind fun v37=>((gF d1 d2 i1 r36 v37 v35 (v30 == x2) x4 x5 x6 x7 x8 x9).bind fun(r40,r41) =>
 (((if r41=true then(if(decide (v25<0))=true then some (true)
 else some ((decide ((IntKind.i64.wrap (r40+((x3.getD ((IntKind.i64.wrap (v30 - x1)).toNat) (0,0)).1)))<v24))))
 else some (false))).bind fun v38=>(((if v38=true then some (((IntKind.i64.wrap (r40+((x3.getD ((IntKind.i64.wrap (v30 - x1)).toNat) (0,0)).1))),v30))
 else some ((v24,v25)))).bind fun(v39,v40)=>some (Sum.inl (v39,v40,r30,v34,v33,v35,(IntKind.i64.wrap (v30+1))))))))))else none)))))))else none)
 else some (Sum.inr (v24,v25)))
def p8(d1:List Z2)(d2:List Int)(i1 x1 x2:Int)(x3:List (Int×Int))(x4 x5 x6 x7 x8:Int)(x9:Option Nat):Option (Int×Int) :=
 ((iter (fL d1 d2 i1 x1 x2 x3 x4 x5 x6 x7 x8 x9) (0,(-1:Int),0,0,0,0,(IntKind.i64.wrap (i1+1)))).bind fun(v31,v32)=>some (v31,v32))
theorem aBu(β0 β1 β5:Bool){d1:List Z2}{d2:List Int}{i1:Int}{x1:Int}{x2:Int}{x3:List (Int×Int)}{x4:Int}{x5:Int}{x6:Int}{x7:Int}{x8:Int}{x9:Option Nat}{res:Int×Int}(h:p8 d1 d2 i1 x1 x2 x3 x4 x5 x6 x7 x8 x9=some res):
  Pure Tryz.prog 132 [.agg [.p β0 (.slice cQ) d1,.p β1 (.slice (.int .u8)) d2],.i64 i1,.i64 x1,.i64 x2,.p β5 (.slice Y2) x3,.agg [.i64 x4,.i64 x5,.u8 x6,.i64 x7,.i64 x8,.p false .flt x9]] (aX (bJ false [⟨Y2,res⟩])):=by
 refine Pure.of_body bB Tryz.func132 (by kernel_rfl) rfl (nl rfl) (fun Bw w0=> ?_) rfl
 unfold p8 at h
 refine G (G (G (aC (G (aF (cW h (fun(v24,v25,v26,v27,v28,v29,v30)=>aM [(1,.i64 i1),(2,.i64 x1),(3,.i64 x2),(4,.p β5 (.slice Y2) x3),(6,.adr 0 0 2 0),(11,.adr 1 0 6 0),(12,.adr 2 0 2 0),(13,.adr 3 0 2 0),(14,.i64 v26),(15,.i64 v27),(16,.i64 v28),(17,.i64 v29),(18,.i64 v30)] (aIo β0 d1 β1 d2 x4 x5 x6 x7 x8 x9 0 (0:Int) v24 v25) 4) 0 (fun(v31,v32)=>aM [(12,.adr 0 0 2 0),(13,.adr 1 0 2 0)] (aLk 0 (0:Int) v31 v32) 2) (gg [] [0,8,16,32]) (fun y o h=> ?_) (fun r43 h=> ?_)))))))
 ·obtain⟨v24,v25,v26,v27,v28,v29,v30⟩:=y
  unfold fL at h
  refine aC (G (aO h (fun hb47 h=> ?_) (fun hb47 h=> ?_)))
  ·refine aB (aA (aC (aF (GC 4 h (fun h=> ?_)))))
   obtain⟨r30,q18,h⟩:=aG h
   refine GP 4 (rB q18) (aC (G (bO h (fun v33=>aM [(1,.i64 i1),(2,.i64 x1),(3,.i64 x2),(4,.p β5 (.slice Y2) x3),(6,.adr 0 0 2 0),(11,.adr 1 0 6 0),(12,.adr 2 0 2 0),(13,.adr 3 0 2 0),(14,.i64 r30),(15,.i64 v27),(16,.i64 v33),(17,.i64 v29),(18,.i64 v30)] (aIo β0 d1 β1 d2 x4 x5 x6 x7 x8 x9 0 (0:Int) v24 v25) 4) (fun v33 h=> ?_) (fun v33 h=> ?_))))
   ·refine aO h (fun hb49 h=> ?_) (fun hb49 h=> ?_)
    ·refine Ge ?_
     exact eN h (gg [] [0,1,2,3])
    refine aB ?_
    exact eN h (gg [] [0,1,2,3])
   refine aA (aC ?_)
   obtain⟨r32,q20,h⟩:=aG h
   refine GP 4 (sE β0 β1 q20) (bO h (fun(v34,v35)=>aM [(1,.i64 i1),(2,.i64 x1),(3,.i64 x2),(4,.p β5 (.slice Y2) x3),(6,.adr 0 0 2 0),(11,.adr 1 0 6 0),(12,.adr 2 0 2 0),(13,.adr 3 0 2 0),(14,.i64 r30),(15,.i64 v34),(16,.i64 v33),(17,.i64 v35),(18,.i64 v30)] (aIo β0 d1 β1 d2 x4 x5 x6 x7 x8 x9 0 (0:Int) v24 v25) 4) (fun r33 h=> ?_) (fun r33 h=> ?_))
   ·refine aO h (fun hb51 h=> ?_) (fun hb51 h=> ?_)
    ·refine Ge ?_
     exact eN h (gg [] [0,1,2,3])
    refine aB ?_
    exact eN h (gg [] [0,1,2,3])
   obtain⟨v34,v35⟩:=r33
   refine aA (aC (G (aO h (fun hb52 h=> ?_) (fun hb52 h=> ?_))))
   ·refine aH (aY (kP rfl (aY ?_)))
    exact eX h (gg [] [2,3])
   refine aB (aA ?_)
   obtain⟨⟨r36,r37⟩,q22,h⟩:=aG h
   refine GP 2 (zN β0 β1 q22) (GC 4 h (fun h=>aC (aC (bO h (fun v36=>aM [(1,.i64 i1),(2,.i64 x1),(3,.i64 x2),(4,.p β5 (.slice Y2) x3),(6,.adr 0 0 2 0),(11,.adr 1 0 6 0),(12,.adr 2 0 2 0),(13,.adr 3 0 2 0),(14,.i64 r30),(15,.i64 v34),(16,.i64 v33),(17,.i64 v35),(18,.i64 v30),(20,.u8 r36),(22,.adr 4 0 2 0),(86,.bo v36)] (aJx β0 d1 β1 d2 x4 x5 x6 x7 x8 x9 0 (0:Int) v24 v25 ((x3.getD ((IntKind.i64.wrap (v30 - x1)).toNat) (0,0)).1) ((x3.getD ((IntKind.i64.wrap (v30 - x1)).toNat) (0,0)).2)) 5) (fun v36 h=> ?_) (fun v36 h=> ?_)))))
   ·rcases aW h with⟨hb57,h⟩ | ⟨hb57,h⟩
    ·refine bS ⟨[(2,true),(11,true)],[]⟩ [(3,6,oc hb57),(10,11,oc hb57)] ?_
     exact eN h (gg [] [0,1,2,3,148])
    rcases aW h with⟨hb58,h⟩ | ⟨hb58,h⟩
    ·refine bS ⟨[(2,false),(6,true),(10,true),(11,false)],[]⟩ [(3,6,an hb57),(7,9,an hb58),(10,10,oc (And.intro hb57 hb58)),(11,11,oc hb57)] ?_
     exact eN h (gg [] [0,1,2,3,148])
    refine bS ⟨[(2,false),(6,false),(10,false),(11,false)],[]⟩ [(3,6,an hb57),(7,9,oc hb58),(10,10,oc (And.intro hb57 hb58)),(11,11,oc hb57)] ?_
    exact eN h (gg [] [0,1,2,3,148])
   refine aA (aO h (fun hb59 h=> ?_) (fun hb59 h=> ?_))
   ·refine aH (aY (aJ (aA (Ge ?_))))
    exact eB h (gg [] [0,1,2,3])
   refine aB (aA (G (aC (G (bO h (fun v37=>aM [(1,.i64 i1),(2,.i64 x1),(3,.i64 x2),(4,.p β5 (.slice Y2) x3),(6,.adr 0 0 2 0),(11,.adr 1 0 6 0),(12,.adr 2 0 2 0),(13,.adr 3 0 2 0),(14,.i64 r30),(15,.i64 v34),(16,.i64 v33),(17,.i64 v35),(18,.i64 v30),(20,.u8 r36),(22,.adr 4 0 2 0),(23,.i64 v37)] (aJx β0 d1 β1 d2 x4 x5 x6 x7 x8 x9 0 (0:Int) v24 v25 ((x3.getD ((IntKind.i64.wrap (v30 - x1)).toNat) (0,0)).1) ((x3.getD ((IntKind.i64.wrap (v30 - x1)).toNat) (0,0)).2)) 5) (fun v37 h=> ?_) (fun v37 h=> ?_))))))
   ·refine aO h (fun hb61 h=> ?_) (fun hb61 h=> ?_)
    ·refine Ge ?_
     exact eN h (gg [] [0,1,2,3,4])
    refine aB ?_
    exact eN h (gg [] [0,1,2,3,4])
   refine aA ?_
   obtain⟨⟨r40,r41⟩,q24,h⟩:=aG h
   refine GP 9 (aAI β0 β1 q24) (aC (bO h (fun v38=>aM [(1,.i64 i1),(2,.i64 x1),(3,.i64 x2),(4,.p β5 (.slice Y2) x3),(6,.adr 0 0 2 0),(11,.adr 1 0 6 0),(12,.adr 2 0 2 0),(13,.adr 3 0 2 0),(14,.i64 r30),(15,.i64 v34),(16,.i64 v33),(17,.i64 v35),(18,.i64 v30),(22,.adr 4 0 2 0),(24,.i64 r40),(119,.bo v38)] (aJx β0 d1 β1 d2 x4 x5 x6 x7 x8 x9 0 (0:Int) v24 v25 ((x3.getD ((IntKind.i64.wrap (v30 - x1)).toNat) (0,0)).1) ((x3.getD ((IntKind.i64.wrap (v30 - x1)).toNat) (0,0)).2)) 5) (fun v38 h=> ?_) (fun v38 h=> ?_)))
   ·rcases aW h with⟨hb66,h⟩ | ⟨hb66,h⟩
    ·rcases aW h with⟨hb67,h⟩ | ⟨hb67,h⟩
     ·refine bS ⟨[(1,true),(5,true),(13,true),(14,true)],[]⟩ [(2,5,an hb66),(6,12,oc hb67),(13,13,oc (And.intro hb66 hb67)),(14,14,oc hb66)] ?_
      exact eN h (gg [] [0,1,2,3,4])
     refine bS ⟨[(1,true),(5,false),(13,false),(14,true)],[]⟩ [(2,5,an hb66),(6,12,an hb67),(13,13,oc (And.intro hb66 hb67)),(14,14,oc hb66)] ?_
     exact eN h (gg [] [0,1,2,3,4])
    refine bS ⟨[(1,false),(14,false)],[]⟩ [(2,5,oc hb66),(13,14,oc hb66)] ?_
    exact eN h (gg [] [0,1,2,3,4])
   refine aA (bO h (fun(v39,v40)=>aM [(1,.i64 i1),(2,.i64 x1),(3,.i64 x2),(4,.p β5 (.slice Y2) x3),(6,.adr 0 0 2 0),(11,.adr 1 0 6 0),(12,.adr 2 0 2 0),(13,.adr 3 0 2 0),(14,.i64 r30),(15,.i64 v34),(16,.i64 v33),(17,.i64 v35),(18,.i64 v30)] (aIo β0 d1 β1 d2 x4 x5 x6 x7 x8 x9 0 (0:Int) v39 v40) 4) (fun r42 h=> ?_) (fun r42 h=> ?_))
   ·refine aO h (fun hb69 h=> ?_) (fun hb69 h=> ?_)
    ·refine Ge ?_
     exact eN h (gg [] [0,1,2,3])
    refine aB ?_
    exact eN h (gg [] [0,1,2,3])
   obtain⟨v39,v40⟩:=r42
   refine aK (aA (Ge ?_))
   exact eB h (gg [] [0,1,2,3])
  refine aH (aY ?_)
  exact eX h (gg [] [2,3])
 obtain⟨v31,v32⟩:=r43
 refine aJ (aA (G (aL ?_)))
 obtain rfl:=sI h
 exact aD [Y2] (by kernel_rfl)
def gO(p1:List Z2)(to1 tab1:Int):rY→Option (rY⊕(List Int)):=fun(out2,i2) =>
 (if(decide (i2<to1))=true then(if 0≤i2∧i2<(p1.length:Int)then(if 0≤(IntKind.i64.wrap ((out2.length:Int) - 1))∧(IntKind.i64.wrap ((out2.length:Int) - 1))<(out2.length:Int)then(if(IntKind.i64.wrap ((out2.length:Int) - 1)).toNat<out2.length then((kQ ((p1.getD i2.toNat (0,0,0,0)).1) ((p1.getD i2.toNat (0,0,0,0)).2.1) ((p1.getD i2.toNat (0,0,0,0)).2.2.1) ((p1.getD i2.toNat (0,0,0,0)).2.2.2) (out2.getD ((IntKind.i64.wrap ((out2.length:Int) - 1)).toNat) 0) tab1).bind fun r6 =>
 (if(out2.length+([r6]:List Int).length)*8≤140737488355328∧out2.length+([r6]:List Int).length≤9223372036854775807 then some (Sum.inl ((out2++([r6]:List Int)),(IntKind.i64.wrap (i2+1))))else none))else none)else none)else none)
 else some (Sum.inr out2))
def jW(p1:List Z2)(p2:List Int)(from1 to1 tab1:Int):Option (List Int) :=
 ((iter (gO p1 to1 tab1) (([0]:List Int),from1)).bind fun out3=>some out3)
theorem sL(β0 β1:Bool){p1:List Z2}{p2:List Int}{from1:Int}{to1:Int}{tab1:Int}{res:List Int}(h:jW p1 p2 from1 to1 tab1=some res):
  Pure Tryz.prog 79 [.agg [.p β0 (.slice cQ) p1,.p β1 (.slice (.int .u8)) p2],.i64 from1,.i64 to1,.i64 tab1] (aX (bJ false [⟨(.slice (.int .i64)),res⟩])):=by
 refine Pure.of_body bB Tryz.func79 (by kernel_rfl) rfl (nl rfl) (fun Bw w0=> ?_) rfl
 unfold jW at h
 refine G (G (aC (G (aF (cW h (fun(out2,i2)=>aM [(2,.i64 to1),(3,.i64 tab1),(4,.adr 0 0 2 0),(9,.sl 1),(10,.i64 i2)] (aLE β0 p1 β1 p2 out2) 2) 0 (fun out3=>aM [(9,.sl 0)] [(0,.arr 3 (.int .i64) out3)] 1) (gg [] [0,16]) (fun y o h=> ?_) (fun out3 h=> ?_))))))
 ·obtain⟨out2,i2⟩:=y
  unfold gO at h
  refine aC (G (aO h (fun hb3 h=> ?_) (fun hb3 h=> ?_)))
  ·refine aB (aA (aC (aF ?_)))
   obtain⟨c21,c22,c23,h⟩:=g3 h
   obtain⟨r6,q6,h⟩:=aG h
   obtain⟨c24,h⟩:=aS h
   have u_1:=(rB q6)
   refine qA ⟨[],[(13,(oP u_1))]⟩ [(4,4,oc c21),(10,10,oc c22),(11,11,oc c23),(13,13,oc u_1),(15,15,oc c24)] (aK (aA (Ge ?_)))
   exact eB h (gg [] [0,146])
  refine aH (aY ?_)
  exact eX h (gg [] [1])
 refine aJ (aA (G (aL ?_)))
 obtain rfl:=sI h
 exact aD [(.slice (.int .i64))] (by kernel_rfl)
def qV(p1:List Z2)(p2:List Int)(from1 to1 end1 tab1:Int):Option (Int) :=
 ((gZ p1 p2 from1 to1).bind fun r3 =>
 ((jW p1 p2 from1 r3 tab1).bind fun r4 =>
 (if 0≤(IntKind.i64.wrap ((r4.length:Int) - 1))∧(IntKind.i64.wrap ((r4.length:Int) - 1))<(r4.length:Int)then(((if(end1 == 3)=true then some ((IntKind.i64.wrap ((r4.getD ((IntKind.i64.wrap ((r4.length:Int) - 1)).toNat) 0)+1)))
 else some ((r4.getD ((IntKind.i64.wrap ((r4.length:Int) - 1)).toNat) 0)))).bind fun n1=>some n1)else none)))
theorem aAv(β0 β1:Bool){p1:List Z2}{p2:List Int}{from1:Int}{to1:Int}{end1:Int}{tab1:Int}{res:Int}(h:qV p1 p2 from1 to1 end1 tab1=some res):
  Pure Tryz.prog 154 [.agg [.p β0 (.slice cQ) p1,.p β1 (.slice (.int .u8)) p2],.i64 from1,.i64 to1,.u8 end1,.i64 tab1] (aX (bJ false [⟨(.int .i64),res⟩])):=by
 refine Pure.of_body bB Tryz.func154 (by kernel_rfl) rfl (nl rfl) (fun Bw w0=> ?_) rfl
 unfold qV at h
 refine G ?_
 obtain⟨r3,q3,h⟩:=aG h
 obtain⟨r4,q4,h⟩:=aG h
 have u_1:=(sE β0 β1 q3)
 have u_2:=(sL β0 β1 q4)
 refine GD ⟨[],[(5,(oP u_1)),(7,(oP u_2))]⟩ [(5,5,oc u_1),(7,7,oc u_2)] (GC 4 h (fun h=>aC (G (bO h (fun n1=>aM [(12,.i64 n1)] [] 0) (fun n1 h=> ?_) (fun n1 h=> ?_)))))
 ·refine aO h (fun hb2 h=> ?_) (fun hb2 h=> ?_)
  ·refine Ge ?_
   exact eN h (gg [] [])
  refine aB ?_
  exact eN h (gg [] [])
 refine aA (G (aL ?_))
 obtain rfl:=sI h
 exact aD [(.int .i64)] (by kernel_rfl)
def kN(p1:List Z2)(p2:List Int)(from1 to1 end1 tab1:Int):Option Z2 :=
 ((qV p1 p2 from1 to1 end1 tab1).bind fun r2 =>
 some (from1,(to1,(r2,end1))))
theorem sA(β0 β1:Bool){p1:List Z2}{p2:List Int}{from1:Int}{to1:Int}{end1:Int}{tab1:Int}{res:Int×Int×Int×Int}(h:kN p1 p2 from1 to1 end1 tab1=some res):
  Pure Tryz.prog 133 [.agg [.p β0 (.slice cQ) p1,.p β1 (.slice (.int .u8)) p2],.i64 from1,.i64 to1,.u8 end1,.i64 tab1] (aX (bJ false [⟨cQ,res⟩])):=by
 refine Pure.of_body bB Tryz.func133 (by kernel_rfl) rfl (nl rfl) (fun Bw w0=> ?_) rfl
 unfold kN at h
 refine G ?_
 obtain⟨r2,q2,h⟩:=aG h
 refine GP 7 (aAv β0 β1 q2) (aL ?_)
 obtain rfl:=sI h
 exact aD [cQ] (by kernel_rfl)
end
end Go.Proofs.YtbedjpdfkmfplaaGreatDoor.T
