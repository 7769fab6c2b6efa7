/- Functions of the program as functions on data, and that the program's own come to them. -/
import Derived.Test.YtbedjpdfkmfplaaGreatDoorTvT21b0
import Derived.Test.YtbedjpdfkmfplaaGreatDoorTvT21ba
import Derived.Test.YtbedjpdfkmfplaaGreatDoorTvT21ba1
import Derived.Test.YtbedjpdfkmfplaaGreatDoorTvT21ba3
namespace Go.Proofs.YtbedjpdfkmfplaaGreatDoor.T
open Go Go.Tv Go.Proofs
noncomputable section
set_option maxRecDepth 100000
set_option maxHeartbeats 4000000
def mV(w1 w2 w3 w4 w5:Int)(w6:Option Nat):Option (Int×Int×Int×Int×Int×Option Nat) :=
 (if ¬(64:Int)=0 then(if ¬(2:Int)=0 then some ((IntKind.i64.wrap (1+(IntKind.i64.wrap w1))),((IntKind.i64.wrap (1+(IntKind.i64.wrap (Int.tmod w2 64)))),((Int.tmod w3 2),((IntKind.i64.wrap w4),((IntKind.i64.wrap w5),w6)))))else none)else none)
theorem rJ{w1:Int}{w2:Int}{w3:Int}{w4:Int}{w5:Int}{w6:Option Nat}{res:Int×Int×Int×Int×Int×Option Nat}(h:mV w1 w2 w3 w4 w5 w6=some res):
  Pure Tryz.prog 12 [.agg [.u8 w1,.u8 w2,.u8 w3,.p false (.int .u16) w4,.p false (.int .u16) w5,.p false .flt w6]] (aX (bJ false [⟨Y34,res⟩])):=by
 refine Pure.of_body bB Tryz.func12 (by kernel_rfl) rfl (nl rfl) (fun Bw w0=> ?_) rfl
 unfold mV at h
 refine G ?_
 obtain⟨c3,c4,h⟩:=g2 h
 refine GN a0 [(6,6,oc c3),(11,11,oc c4)] (aL ?_)
 obtain rfl:=sI h
 exact aD [Y34] (by kernel_rfl)
def cS(b1:List Int)(e1:Int):rY→Option (rY⊕(List Int)):=fun(out2,i2) =>
 (if(decide (i2<e1))=true then(if 0≤i2∧i2<(b1.length:Int)then(if(out2.length+([(b1.getD i2.toNat 0)]:List Int).length)*1≤140737488355328∧out2.length+([(b1.getD i2.toNat 0)]:List Int).length≤9223372036854775807 then some (Sum.inl ((out2++([(b1.getD i2.toNat 0)]:List Int)),(IntKind.i64.wrap (i2+1))))else none)else none)
 else some (Sum.inr out2))
def cR(b1:List Int):rY→Option (rY⊕(List Int)):=fun(out5,i4) =>
 (if(decide (i4<(b1.length:Int)))=true then(if 0≤i4∧i4<(b1.length:Int)then(if(out5.length+([(b1.getD i4.toNat 0)]:List Int).length)*1≤140737488355328∧out5.length+([(b1.getD i4.toNat 0)]:List Int).length≤9223372036854775807 then some (Sum.inl ((out5++([(b1.getD i4.toNat 0)]:List Int)),(IntKind.i64.wrap (i4+1))))else none)else none)
 else some (Sum.inr out5))
def gN(b1:List Int)(e1 e2:Int)(e3:List Int):Option (List Int) :=
 ((iter (cS b1 e1) (([]:List Int),0)).bind fun out3=>(if(out3.length+e3.length)*1≤140737488355328∧out3.length+e3.length≤9223372036854775807 then((iter (cR b1) ((out3++e3),(IntKind.i64.wrap (e1+e2)))).bind fun out6=>some out6)else none))
theorem tA(β0 β3:Bool){b1:List Int}{e1:Int}{e2:Int}{e3:List Int}{res:List Int}(h:gN b1 e1 e2 e3=some res):
  Pure Tryz.prog 44 [.p β0 (.slice (.int .u8)) b1,.agg [.i64 e1,.i64 e2,.p β3 (.slice (.int .u8)) e3]] (aX (bJ false [⟨(.slice (.int .u8)),res⟩])):=by
 refine Pure.of_body bB Tryz.func44 (by kernel_rfl) rfl (nl rfl) (fun Bw w0=> ?_) rfl
 unfold gN at h
 refine G (G (aC (G (aF (cW h (fun(out2,i2)=>aM [(0,.p β0 (.slice (.int .u8)) b1),(3,.adr 0 0 3 0),(5,.sl 1),(6,.i64 i2)] (aJk e1 e2 β3 e3 out2) 2) 0 (fun out3=>aM [(0,.p β0 (.slice (.int .u8)) b1),(3,.adr 0 0 3 0),(5,.sl 1)] (aJk e1 e2 β3 e3 out3) 2) (gg [.nilS 5 32 5 (.int .u8)] [0,32]) (fun y o h=> ?_) (fun out3 h=> ?_))))))
 ·obtain⟨out2,i2⟩:=y
  unfold cS at h
  refine aC (G (aO h (fun hb3 h=> ?_) (fun hb3 h=> ?_)))
  ·refine aB (aA (aC (aF ?_)))
   obtain⟨c11,c12,h⟩:=g2 h
   refine bS a0 [(3,3,oc c11),(6,6,oc c12)] (aK (aA (Ge ?_)))
   exact eB h (gg [] [0,82])
  refine aH (aY ?_)
  exact eX h (gg [] [0,1])
 refine aJ (aA (GC 3 h (fun h=>aC (G (aF (cW h (fun(out5,i4)=>aM [(0,.p β0 (.slice (.int .u8)) b1),(5,.sl 0),(7,.i64 i4)] [(0,.arr 5 (.int .u8) out5)] 1) 2 (fun out6=>aM [(5,.sl 0)] [(0,.arr 5 (.int .u8) out6)] 1) (gg [] [26]) (fun y o h=> ?_) (fun out6 h=> ?_)))))))
 ·obtain⟨out5,i4⟩:=y
  unfold cR at h
  refine aC (G (aO h (fun hb6 h=> ?_) (fun hb6 h=> ?_)))
  ·refine aB (aA (aC (aF ?_)))
   obtain⟨c25,c26,h⟩:=g2 h
   refine bS a0 [(3,3,oc c25),(6,6,oc c26)] (aK (aA (Ge ?_)))
   exact eB h (gg [] [81])
  refine aH (aY ?_)
  exact eX h (gg [] [0])
 refine aJ (aA (G (aL ?_)))
 obtain rfl:=sI h
 exact aD [(.slice (.int .u8))] (by kernel_rfl)
def dU(b1:List Int)(e1 e2:Int)(e3:List Int):Option (List Int) :=
 ((gN b1 e1 e2 e3).bind fun r2 =>
 some r2)
theorem kJ(β0 β3:Bool){b1:List Int}{e1:Int}{e2:Int}{e3:List Int}{res:List Int}(h:dU b1 e1 e2 e3=some res):
  Pure Tryz.prog 22 [.p β0 (.slice (.int .u8)) b1,.agg [.i64 e1,.i64 e2,.p β3 (.slice (.int .u8)) e3]] (aX (bJ false [⟨(.slice (.int .u8)),res⟩])):=by
 refine Pure.of_body bB Tryz.func22 (by kernel_rfl) rfl (nl rfl) (fun Bw w0=> ?_) rfl
 unfold dU at h
 refine G ?_
 obtain⟨r2,q2,h⟩:=aG h
 refine GP 2 (tA β0 β3 q2) (aL ?_)
 obtain rfl:=sI h
 exact aD [(.slice (.int .u8))] (by kernel_rfl)
def iA(p1:List Z2)(p2:List Int)(c1 c2 c3 c4 c5:Int)(c6:Option Nat)(r2:List Int):((List Z2)×Bool×Int×Int)→Option (((List Z2)×Bool×Int×Int)⊕((List Z2)×Bool)):=fun(out2,loose3,from2,v2) =>
 (if(decide (v2<(r2.length:Int)))=true then(if 0≤v2∧v2<(r2.length:Int)then((iD p1 p2 from2 (r2.getD v2.toNat 0) c1 c2 c3 c4 c5 c6).bind fun(r13,r14) =>
 (((if(out2.length+r13.length)*32≤140737488355328∧out2.length+r13.length≤9223372036854775807 then(if loose3=true then some (true)
 else some (r14))else none)).bind fun loose5=>some (Sum.inl ((out2++r13),loose5,(r2.getD v2.toNat 0),(IntKind.i64.wrap (v2+1))))))else none)
 else some (Sum.inr (out2,loose3)))
def lI(p1:List Z2)(p2:List Int)(c1 c2 c3 c4 c5:Int)(c6:Option Nat):Option ((List Z2)×Bool) :=
 ((lH p1 p2).bind fun r2 =>
 ((iter (iA p1 p2 c1 c2 c3 c4 c5 c6 r2) (([]:List Z2),false,0,0)).bind fun(out3,loose4)=>some (out3,loose4)))
theorem W6(β0 β1:Bool){p1:List Z2}{p2:List Int}{c1:Int}{c2:Int}{c3:Int}{c4:Int}{c5:Int}{c6:Option Nat}{res:(List Z2)×Bool}(h:lI p1 p2 c1 c2 c3 c4 c5 c6=some res):
  Pure Tryz.prog 46 [.agg [.p β0 (.slice cQ) p1,.p β1 (.slice (.int .u8)) p2],.agg [.i64 c1,.i64 c2,.u8 c3,.i64 c4,.i64 c5,.p false .flt c6]] (aX (bJ false [⟨(.slice cQ),res.1⟩,⟨.bool,res.2⟩])):=by
 refine Pure.of_body bB Tryz.func46 (by kernel_rfl) rfl (nl rfl) (fun Bw w0=> ?_) rfl
 unfold lI at h
 refine G (G (G (G (aC ?_))))
 obtain⟨r2,q2,h⟩:=aG h
 refine GP 1 (vO β0 β1 q2) (aF (cW h (fun(out2,loose3,from2,v2)=>aM [(2,.adr 0 0 2 0),(3,.adr 1 0 6 0),(6,.sl 2),(7,.bo loose3),(8,.i64 from2),(14,.p false (.slice (.int .i64)) r2),(15,.i64 (r2.length:Int)),(16,.i64 v2)] (aJu β0 p1 β1 p2 c1 c2 c3 c4 c5 c6 out2) 3) 0 (fun(out3,loose4)=>aM [(6,.sl 0),(7,.bo loose4)] [(0,.arr 181 cQ out3)] 1) (gg [.nilS 6 88 181 cQ] [0,8,88]) (fun y o h=> ?_) (fun r15 h=> ?_)))
 ·obtain⟨out2,loose3,from2,v2⟩:=y
  unfold iA at h
  refine G (aC (aO h (fun hb6 h=> ?_) (fun hb6 h=> ?_)))
  ·refine aB (aA (aC (aF (GC 0 h (fun h=> ?_)))))
   obtain⟨⟨r13,r14⟩,q8,h⟩:=aG h
   refine GP 4 (xM β0 β1 q8) (aC (bO h (fun loose5=>aM [(2,.adr 0 0 2 0),(3,.adr 1 0 6 0),(6,.sl 2),(7,.bo loose5),(10,.i64 (r2.getD v2.toNat 0)),(14,.p false (.slice (.int .i64)) r2),(15,.i64 (r2.length:Int)),(16,.i64 v2)] (aJu β0 p1 β1 p2 c1 c2 c3 c4 c5 c6 (out2++r13)) 3) (fun loose5 h=> ?_) (fun loose5 h=> ?_)))
   ·obtain⟨c14,h⟩:=aS h
    rcases aW h with⟨hb9,h⟩ | ⟨hb9,h⟩
    ·refine bS ⟨[(4,true),(6,true)],[]⟩ [(2,2,oc c14),(5,6,oc hb9)] ?_
     exact eN h (gg [] [0,1,131])
    refine bS ⟨[(4,false),(6,false)],[]⟩ [(2,2,oc c14),(5,5,an hb9),(6,6,oc hb9)] ?_
    exact eN h (gg [] [0,1,131])
   refine aA (Ge (aK (aA (Ge ?_))))
   exact eB h (gg [] [0,1,2])
  refine aH (aY ?_)
  exact eX h (gg [] [2])
 obtain⟨out3,loose4⟩:=r15
 refine aJ (aA (G (aL ?_)))
 obtain rfl:=sI h
 exact aD [(.slice cQ),.bool] (by kernel_rfl)
def eS(b1:Option Z1)(text1:List Int)(c1 c2 c3 c4 c5:Int)(c6:Option Nat):Option (((List Z2)×Bool)×Int) :=
 ((dZ c1 c2 c3 c4 c5 c6).bind fun r2 =>
 (if(!r2)=true then some ((([]:List Z2),false),40)
 else((bA b1 text1).bind fun(r5,r6) =>
 (if(r6 != 0)=true then some ((([]:List Z2),false),r6)
 else((lI r5.1 r5.2 c1 c2 c3 c4 c5 c6).bind fun(r9,r10) =>
 ((fA r5.1 r5.2 r9).bind fun r12 =>
 some ((r12,r10),0)))))))
theorem F1(β1:Bool){b1:Option Z1}{text1:List Int}{c1:Int}{c2:Int}{c3:Int}{c4:Int}{c5:Int}{c6:Option Nat}{res:((List Z2)×Bool)×Int}(h:eS b1 text1 c1 c2 c3 c4 c5 c6=some res):
  Pure Tryz.prog 23 [.p false (.ptr qJ) b1,.p β1 (.slice (.int .u8)) text1,.agg [.i64 c1,.i64 c2,.u8 c3,.i64 c4,.i64 c5,.p false .flt c6]] (aX (bJ false [⟨Y31,res.1⟩,⟨(.int .i64),res.2⟩])):=by
 refine Pure.of_body bB Tryz.func23 (by kernel_rfl) rfl (nl rfl) (fun Bw w0=> ?_) rfl
 unfold eS at h
 refine G (aC ?_)
 obtain⟨r2,q2,h⟩:=aG h
 refine GP 1 (xC q2) (aO h (fun hb1 h=> ?_) (fun hb1 h=> ?_))
 ·refine G (aL (aE ?_))
  obtain rfl:=sI h
  exact aD [Y31,(.int .i64)] (by kernel_rfl)
 refine aB (aA ?_)
 obtain⟨⟨r5,r6⟩,q4,h⟩:=aG h
 refine GP 2 (o9 β1 q4) (aC (G (aO h (fun hb2 h=> ?_) (fun hb2 h=> ?_))))
 ·refine G (aL (aE ?_))
  obtain rfl:=sI h
  exact aD [Y31,(.int .i64)] (by kernel_rfl)
 refine aB (aA ?_)
 obtain⟨⟨r9,r10⟩,q6,h⟩:=aG h
 refine GP 2 (W6 false false q6) ?_
 obtain⟨r12,q8,h⟩:=aG h
 refine GO 2 [] (w9 false false false q8) (pV [.frzC 8 0] (by kernel_rfl) (aL ?_))
 obtain rfl:=sI h
 exact aD [Y31,(.int .i64)] (by kernel_rfl)
def bU(a1 b1:List Z2):(Int)→Option ((Int)⊕((Unit)⊕(Bool))):=fun i2 =>
 (if(decide (i2<(a1.length:Int)))=true then(if 0≤i2∧i2<(a1.length:Int)then(if 0≤i2∧i2<(b1.length:Int)then(if(!((((a1.getD i2.toNat (0,0,0,0)).1) == ((b1.getD i2.toNat (0,0,0,0)).1)) && ((((a1.getD i2.toNat (0,0,0,0)).2.1) == ((b1.getD i2.toNat (0,0,0,0)).2.1)) && ((((a1.getD i2.toNat (0,0,0,0)).2.2.1) == ((b1.getD i2.toNat (0,0,0,0)).2.2.1)) && (((a1.getD i2.toNat (0,0,0,0)).2.2.2) == ((b1.getD i2.toNat (0,0,0,0)).2.2.2))))))=true then some (Sum.inr (Sum.inr false))
 else some (Sum.inl (IntKind.i64.wrap (i2+1))))else none)else none)
 else some (Sum.inr (Sum.inl ())))
def dD(a1:List Z2)(a2:Bool)(b1:List Z2)(b2:Bool):Option (Bool) :=
 (((if((a1.length:Int) != (b1.length:Int))=true then some (true)
 else some ((!(a2 == b2))))).bind fun v1=>(if v1=true then some false
 else((iter (bU a1 b1) (0:Int)).bind fun(r2:((Unit)⊕(Bool)))=>match r2 with
 | .inl _=>some true
 | .inr (r1)=>some r1)))
theorem nL(β0 β2:Bool){a1:List Z2}{a2:Bool}{b1:List Z2}{b2:Bool}{res:Bool}(h:dD a1 a2 b1 b2=some res):
  Pure Tryz.prog 16 [.agg [.p β0 (.slice cQ) a1,.bo a2],.agg [.p β2 (.slice cQ) b1,.bo b2]] (aX (bJ false [⟨.bool,res⟩])):=by
 refine Pure.of_body bB Tryz.func16 (by kernel_rfl) rfl (nl rfl) (fun Bw w0=> ?_) rfl
 unfold dD at h
 refine G (aC (aC (bO h (fun v1=>aM [(2,.adr 0 0 2 0),(3,.adr 1 0 2 0),(19,.bo v1)] (aI4 β0 a1 a2 β2 b1 b2) 2) (fun v1 h=> ?_) (fun v1 h=> ?_))))
 ·rcases aW h with⟨hb3,h⟩ | ⟨hb3,h⟩
  ·refine bS ⟨[(7,true),(13,true)],[]⟩ [(8,13,oc hb3)] ?_
   exact eN h (gg [] [0,8])
  refine bS ⟨[(7,false),(13,false)],[]⟩ [(8,12,an hb3),(13,13,oc hb3)] ?_
  exact eN h (gg [] [0,8])
 refine aA (aO h (fun hb4 h=> ?_) (fun hb4 h=> ?_))
 ·refine G (aL (aE ?_))
  obtain rfl:=sI h
  exact aD [.bool] (by kernel_rfl)
 refine aB (aA (aC (G (aF (mG h (fun i2=>aM [(2,.adr 0 0 2 0),(3,.adr 1 0 2 0),(5,.i64 i2)] (aI4 β0 a1 a2 β2 b1 b2) 2) (eI (fV Tryz.f16.ntmps 0 (fun _=>aM [] [] 0)) (iC tb Tryz.f16.results.toList (fun r1=>[⟨.bool,r1⟩]))) (gg [] [0,1]) (fun i2 o h=> ?_) (fun r2 h e σ' hq=> ?_))))))
 ·unfold bU at h
  refine aC (G (aO h (fun hb9 h=> ?_) (fun hb9 h=> ?_)))
  ·refine aB (aA (aC (aF ?_)))
   obtain⟨c11,c12,h⟩:=g2 h
   refine GD a0 [(3,3,oc c11),(8,8,oc c12),(10,10,oc aKa)] (aO h (fun hb10 h=> ?_) (fun hb10 h=> ?_))
   ·refine G (aL ?_)
    obtain rfl:=sI h
    refine aN (aE (bX (aU ?_)))
    exact bW (aD [.bool] (by kernel_rfl))
   refine aB (aK (aA (Ge ?_)))
   exact eB h (gg [] [0,1])
  refine aH (aY ?_)
  obtain rfl:=sI h
  refine eR (bI ?_)
  exact b8 (gg [] [])
 rcases r2 with _ | r1
 ·obtain⟨rfl,hle⟩:=hq
  refine dH ?_ hle
  refine aJ (aA (G (aL ?_)))
  obtain rfl:=sI h
  exact aD [.bool] (by kernel_rfl)
 obtain⟨rfl,hr⟩:=hq
 refine aN (aE ?_)
 obtain rfl:=sI h
 exact hr
def jZ(r10:List Int):rY→Option (rY⊕(Unit)):=fun(v4,v5) =>
 (if(decide (v5<((([]:List Int)++r10).length:Int)))=true then(if 0≤v5∧v5<(v4.length:Int)then(if v5.toNat<v4.length then(if 0≤v5∧v5<(v4.length:Int)then(if v5.toNat<v4.length then some (Sum.inl ((v4.set v5.toNat (aT .xor .u8 (v4.getD v5.toNat 0) (255:Int))),(IntKind.i64.wrap (v5+1))))else none)else none)else none)else none)
 else some (Sum.inr ()))
def gK(r10:List Int):rY→Option (rY⊕(Unit)):=fun(v8,v9) =>
 (if(decide (v9<((([]:List Int)++r10).length:Int)))=true then(if 0≤v9∧v9<(v8.length:Int)then(if v9.toNat<v8.length then(if 0≤v9∧v9<(v8.length:Int)then(if v9.toNat<v8.length then some (Sum.inl ((v8.set v9.toNat (aT .xor .u8 (v8.getD v9.toNat 0) (255:Int))),(IntKind.i64.wrap (v9+1))))else none)else none)else none)else none)
 else some (Sum.inr ()))
def cL(r38:List Int):rY→Option (rY⊕(Unit)):=fun(v12,v13) =>
 (if(decide (v13<(r38.length:Int)))=true then(if 0≤v13∧v13<(v12.length:Int)then(if v13.toNat<v12.length then(if 0≤v13∧v13<(v12.length:Int)then(if v13.toNat<v12.length then some (Sum.inl ((v12.set v13.toNat (aT .xor .u8 (v12.getD v13.toNat 0) (255:Int))),(IntKind.i64.wrap (v13+1))))else none)else none)else none)else none)
 else some (Sum.inr ()))
def gE(r60:List Int):rY→Option (rY⊕(Unit)):=fun(v16,v17) =>
 (if(decide (v17<(r60.length:Int)))=true then(if 0≤v17∧v17<(v16.length:Int)then(if v17.toNat<v16.length then(if 0≤v17∧v17<(v16.length:Int)then(if v17.toNat<v16.length then some (Sum.inl ((v16.set v17.toNat (aT .xor .u8 (v16.getD v17.toNat 0) (255:Int))),(IntKind.i64.wrap (v17+1))))else none)else none)else none)else none)
 else some (Sum.inr ()))
def cJ(r61:List Z2):((List Z2)×Int)→Option (((List Z2)×Int)⊕(Unit)):=fun(v20,v21) =>
 (if(decide (v21<(r61.length:Int)))=true then(if 0≤v21∧v21<(v20.length:Int)then(if v21.toNat<v20.length then some (Sum.inl ((v20.set v21.toNat (0,0,0,0)),(IntKind.i64.wrap (v21+1))))else none)else none)
 else some (Sum.inr ()))
def eO(d1 d2 d3 d4 d5:Int)(d6:Option Nat)(i1 x1:List Int)(x2:Int):Option (Bool) :=
 ((fH).bind fun r2 =>
 (if(!r2)=true then some false
 else(((if(decide ((i1.length:Int) > 100))=true then some (true)
 else some ((decide ((x1.length:Int) > 100))))).bind fun v1=>(if v1=true then some true
 else((fZ).bind fun r6 =>
 ((n4 r6.1 r6.2.1 r6.2.2.1 r6.2.2.2.1 r6.2.2.2.2.1 r6.2.2.2.2.2.1 r6.2.2.2.2.2.2.1 r6.2.2.2.2.2.2.2.1 r6.2.2.2.2.2.2.2.2).bind fun(r7,r8) =>
 (if(r8.1 != 0)=true then some false
 else((oE i1).bind fun r10 =>
 (if(([]:List Int).length+r10.length)*1≤140737488355328∧([]:List Int).length+r10.length≤9223372036854775807 then((mV d1 d2 d3 d4 d5 d6).bind fun r21 =>
 ((iH r7 r21.1 r21.2.1 r21.2.2.1 r21.2.2.2.1 r21.2.2.2.2.1 r21.2.2.2.2.2 (([]:List Int)++r10)).bind fun(z2:((Int)⊕Z13))=>match z2 with
 | .inl r22=>(if(r22 != 0)=true then some false
 else((iter (jZ r10) ((([]:List Int)++r10),0)).bind fun _=>(if ¬(IntKind.u64.wrap (IntKind.i64.wrap ((r10.length:Int)+1)))=0 then((oE x1).bind fun r25 =>
 ((dU r10 (IntKind.i64.wrap (Int.tmod (IntKind.u64.wrap x2) (IntKind.u64.wrap (IntKind.i64.wrap ((r10.length:Int)+1))))) (0:Int) r25).bind fun r27 =>
 none))else none)))
 | .inr (r28,r29,r30,r31,r32,r33,r34,r35)=>(if(r28 != 0)=true then some false
 else((iter (gK r10) ((([]:List Int)++r10),0)).bind fun _=>(if ¬(IntKind.u64.wrap (IntKind.i64.wrap ((r10.length:Int)+1)))=0 then((oE x1).bind fun r38 =>
 ((dU r10 (IntKind.i64.wrap (Int.tmod (IntKind.u64.wrap x2) (IntKind.u64.wrap (IntKind.i64.wrap ((r10.length:Int)+1))))) (0:Int) r38).bind fun r40 =>
 ((dM (IntKind.i64.wrap (Int.tmod (IntKind.u64.wrap x2) (IntKind.u64.wrap (IntKind.i64.wrap ((r10.length:Int)+1))))) (0:Int) r38 r29 r30 r7 r21.1 r21.2.1 r21.2.2.1 r21.2.2.2.1 r21.2.2.2.2.1 r21.2.2.2.2.2 r31 r32 r33 r34 r35).bind fun(r49,r50,r51,r52,r53,r54,r55,r56) =>
 (if(r49 != 0)=true then some false
 else((iter (cL r38) (r38,0)).bind fun _=>((eZ r50 r51 r7 r21.1 r21.2.1 r21.2.2.1 r21.2.2.2.1 r21.2.2.2.2.1 r21.2.2.2.2.2 r52 r53 r54 r55 r56).bind fun r60 =>
 ((dW r50 r51 r7 r21.1 r21.2.1 r21.2.2.1 r21.2.2.2.1 r21.2.2.2.2.1 r21.2.2.2.2.2 r52 r53 r54 r55 r56).bind fun r61 =>
 ((iter (gE r60) (r60,0)).bind fun _=>((iter (cJ r61) (r61,0)).bind fun _=>((mV d1 d2 d3 d4 d5 d6).bind fun r67 =>
 ((eS r7 r40 r67.1 r67.2.1 r67.2.2.1 r67.2.2.2.1 r67.2.2.2.2.1 r67.2.2.2.2.2).bind fun(r68,r69) =>
 (((if(r69 == 0)=true then((eZ r50 r51 r7 r21.1 r21.2.1 r21.2.2.1 r21.2.2.2.1 r21.2.2.2.2.1 r21.2.2.2.2.2 r52 r53 r54 r55 r56).bind fun r76 =>
 (if((dG r76) == (dG r40))=true then((dW r50 r51 r7 r21.1 r21.2.1 r21.2.2.1 r21.2.2.2.1 r21.2.2.2.2.1 r21.2.2.2.2.2 r52 r53 r54 r55 r56).bind fun r77 =>
 ((dD r77 r51 r68.1 r68.2).bind fun r78 =>
 some (r78)))
 else some (false)))
 else some (false))).bind fun v22=>some v22))))))))))))else none)))))else none)))))))))
theorem stanzalaw21_FlowOwn_ok(β6 β7:Bool){d1:Int}{d2:Int}{d3:Int}{d4:Int}{d5:Int}{d6:Option Nat}{i1:List Int}{x1:List Int}{x2:Int}{res:Bool}(h:eO d1 d2 d3 d4 d5 d6 i1 x1 x2=some res):
  Pure Tryz.prog 5 [.agg [.u8 d1,.u8 d2,.u8 d3,.p false (.int .u16) d4,.p false (.int .u16) d5,.p false .flt d6],.p β6 (.slice (.int .u8)) i1,.p β7 (.slice (.int .u8)) x1,.i64 x2] (aX (bJ false [⟨.bool,res⟩])):=by
 refine Pure.of_body bB Tryz.func5 (by kernel_rfl) rfl (nl rfl) (fun Bw w0=> ?_) rfl
 unfold eO at h
 refine G (aC ?_)
 obtain⟨r2,q2,h⟩:=aG h
 refine GP 0 (uD q2) (aO h (fun hb1 h=> ?_) (fun hb1 h=> ?_))
 ·refine G (aL (aE ?_))
  obtain rfl:=sI h
  exact aD [.bool] (by kernel_rfl)
 refine aB (aA (aC (aC (bO h (fun v1=>aM [(1,.p β6 (.slice (.int .u8)) i1),(2,.p β7 (.slice (.int .u8)) x1),(3,.i64 x2),(4,.adr 0 0 6 0),(34,.bo v1)] (aKl d1 d2 d3 d4 d5 d6) 1) (fun v1 h=> ?_) (fun v1 h=> ?_)))))
 ·rcases aW h with⟨hb4,h⟩ | ⟨hb4,h⟩
  ·refine bS ⟨[(3,true),(7,true)],[]⟩ [(4,7,oc hb4)] ?_
   exact eN h (gg [] [0])
  refine bS ⟨[(3,false),(7,false)],[]⟩ [(4,6,an hb4),(7,7,oc hb4)] ?_
  exact eN h (gg [] [0])
 refine aA (aO h (fun hb5 h=> ?_) (fun hb5 h=> ?_))
 ·refine G (aL (aE ?_))
  obtain rfl:=sI h
  exact aD [.bool] (by kernel_rfl)
 refine aB (aA ?_)
 obtain⟨r6,q5,h⟩:=aG h
 obtain⟨⟨r7,r8⟩,q6,h⟩:=aG h
 have u_1:=(mC q5)
 have u_2:=(J8 false false false false q6)
 refine GN ⟨[],[(0,(oP u_1)),(1,(oP u_2))]⟩ [(0,0,oc u_1),(1,1,oc u_2)] (aC (G (aO h (fun hb6 h=> ?_) (fun hb6 h=> ?_))))
 ·refine G (aL (aE ?_))
  obtain rfl:=sI h
  exact aD [.bool] (by kernel_rfl)
 refine aB (aA ?_)
 obtain⟨r10,q8,h⟩:=aG h
 refine GO 1 [] (u7 β6 q8) (GC 2 h (fun h=>aC ?_))
 obtain⟨r21,q11,h⟩:=aG h
 obtain⟨z2,q12,h⟩:=aG h
 rcases z2 with r22 | ⟨r28,r29,r30,r31,r32,r33,r34,r35⟩
 ·have u_1:=(rJ q11)
  have u_2:=(oK true q12)
  refine bS ⟨[],[(2,(oP u_1)),(4,(oO u_2 []))]⟩ [(2,2,oc u_1),(4,4,oc u_2)] (aA (aC (G (aO h (fun hb7 h=> ?_) (fun hb7 h=> ?_)))))
  ·refine G (aL (aE ?_))
   obtain rfl:=sI h
   exact aD [.bool] (by kernel_rfl)
  refine aB (aA (aC (G (aF (cW h (fun(v4,v5)=>aM [(2,.p β7 (.slice (.int .u8)) x1),(3,.i64 x2),(4,.adr 0 0 6 0),(9,.p false (.ptr qJ) r7),(11,.sl 1),(12,.sl 2),(13,.nilp),(59,.i64 ((([]:List Int)++r10).length:Int)),(60,.i64 v5)] (aKy d1 d2 d3 d4 d5 d6 r10 v4) 3) 0 (fun _=>aM [(2,.p β7 (.slice (.int .u8)) x1),(3,.i64 x2),(4,.adr 0 0 6 0),(9,.p false (.ptr qJ) r7),(11,.sl 1),(13,.nilp)] (aKC d1 d2 d3 d4 d5 d6 r10) 2) (gg [] [0,97,129]) (fun y o h=> ?_) (fun r23 h=> ?_))))))
  ·obtain⟨v4,v5⟩:=y
   unfold jZ at h
   refine G (aC (aO h (fun hb10 h=> ?_) (fun hb10 h=> ?_)))
   ·refine aB (aA (aC (aF (G ?_))))
    obtain⟨c23,c24,c25,c26,h⟩:=g4 h
    refine bS a0 [(2,2,oc c23),(3,3,oc c24),(5,5,oc c25),(6,6,oc c26)] (aK (aA (Ge ?_)))
    exact eB h (gg [] [0,1,2])
   refine aH (aY ?_)
   exact eX h (gg [] [0,1])
  refine aJ (aA ?_)
  obtain⟨c28,h⟩:=aS h
  obtain⟨r25,q14,h⟩:=aG h
  have u_1:=(u7 β7 q14)
  refine GD ⟨[],[(9,(oO u_1 []))]⟩ [(6,6,oc c28),(9,9,oc u_1)] ?_
  obtain⟨r27,q16,h⟩:=aG h
  refine GP 2 (kJ true true q16) (aC (aC ?_))
  cases h
 have u_1:=(rJ q11)
 have u_2:=(oK true q12)
 refine bS ⟨[],[(2,(oP u_1)),(4,(oO u_2 []))]⟩ [(2,2,oc u_1),(4,4,oc u_2)] (aA (aC (G (aO h (fun hb11 h=> ?_) (fun hb11 h=> ?_)))))
 ·refine G (aL (aE ?_))
  obtain rfl:=sI h
  exact aD [.bool] (by kernel_rfl)
 refine aB (aA (aC (G (aF (cW h (fun(v8,v9)=>aM [(2,.p β7 (.slice (.int .u8)) x1),(3,.i64 x2),(4,.adr 0 0 6 0),(9,.p false (.ptr qJ) r7),(11,.sl 1),(12,.sl 2),(13,.adr 3 0 14 0),(59,.i64 ((([]:List Int)++r10).length:Int)),(60,.i64 v9)] (aK5 d1 d2 d3 d4 d5 d6 r10 v8 r29 r30 r7 r21.1 r21.2.1 r21.2.2.1 r21.2.2.2.1 r21.2.2.2.2.1 r21.2.2.2.2.2 r31 r32 r33 r34 r35) 5) 0 (fun _=>aM [(2,.p β7 (.slice (.int .u8)) x1),(3,.i64 x2),(4,.adr 0 0 6 0),(9,.p false (.ptr qJ) r7),(11,.sl 1),(13,.adr 2 0 14 0)] (aKY d1 d2 d3 d4 d5 d6 r10 r29 r30 r7 r21.1 r21.2.1 r21.2.2.1 r21.2.2.2.1 r21.2.2.2.2.1 r21.2.2.2.2.2 r31 r32 r33 r34 r35) 4) (gg [] [0,97,129,177,178]) (fun y o h=> ?_) (fun r36 h=> ?_))))))
 ·obtain⟨v8,v9⟩:=y
  unfold gK at h
  refine G (aC (aO h (fun hb14 h=> ?_) (fun hb14 h=> ?_)))
  ·refine aB (aA (aC (aF (G ?_))))
   obtain⟨c49,c50,c51,c52,h⟩:=g4 h
   refine bS a0 [(2,2,oc c49),(3,3,oc c50),(5,5,oc c51),(6,6,oc c52)] (aK (aA (Ge ?_)))
   exact eB h (gg [] [0,1,2,3,4])
  refine aH (aY ?_)
  exact eX h (gg [] [0,1,3,4])
 refine aJ (aA ?_)
 obtain⟨c54,h⟩:=aS h
 obtain⟨r38,q18,h⟩:=aG h
 have u_1:=(u7 β7 q18)
 refine GD ⟨[],[(9,(oO u_1 []))]⟩ [(6,6,oc c54),(9,9,oc u_1)] ?_
 obtain⟨r40,q20,h⟩:=aG h
 refine GP 2 (kJ true true q20) (aC ?_)
 obtain⟨⟨r49,r50,r51,r52,r53,r54,r55,r56⟩,q22,h⟩:=aG h
 refine GO 2 [2,3] (oN true q22) (aO h (fun hb15 h=> ?_) (fun hb15 h=> ?_))
 ·refine G (aL (aE ?_))
  obtain rfl:=sI h
  exact aD [.bool] (by kernel_rfl)
 refine aB (aA (aC (G (aF (cW h (fun(v12,v13)=>aM [(4,.adr 0 0 6 0),(9,.p false (.ptr qJ) r7),(13,.adr 1 0 14 0),(16,.adr 3 0 3 0),(17,.p false (.slice (.int .u8)) r40),(90,.i64 (r38.length:Int)),(91,.i64 v13)] (aKq d1 d2 d3 d4 d5 d6 r50 r51 r7 r21.1 r21.2.1 r21.2.2.1 r21.2.2.2.1 r21.2.2.2.2.1 r21.2.2.2.2.2 r52 r53 r54 r55 r56 (IntKind.i64.wrap (Int.tmod (IntKind.u64.wrap x2) (IntKind.u64.wrap (IntKind.i64.wrap ((r10.length:Int)+1))))) (0:Int) v12) 5) 2 (fun _=>aM [(4,.adr 0 0 6 0),(9,.p false (.ptr qJ) r7),(13,.adr 1 0 14 0),(17,.p false (.slice (.int .u8)) r40)] (aJd d1 d2 d3 d4 d5 d6 r50 r51 r7 r21.1 r21.2.1 r21.2.2.1 r21.2.2.2.1 r21.2.2.2.2.1 r21.2.2.2.2.2 r52 r53 r54 r55 r56) 3) (gg [] [0,2,3,92,76]) (fun y o h=> ?_) (fun r57 h=> ?_))))))
 ·obtain⟨v12,v13⟩:=y
  unfold cL at h
  refine G (aC (aO h (fun hb18 h=> ?_) (fun hb18 h=> ?_)))
  ·refine aB (aA (aC (aF (G ?_))))
   obtain⟨c75,c76,c77,c78,h⟩:=g4 h
   refine bS a0 [(3,3,oc c75),(4,4,oc c76),(6,6,oc c77),(7,7,oc c78)] (aK (aA (Ge ?_)))
   exact eB h (gg [] [0,1,2,3,4])
  refine aH (aY ?_)
  exact eX h (gg [] [0,1,2])
 refine aJ (aA ?_)
 obtain⟨r60,q25,h⟩:=aG h
 obtain⟨r61,q26,h⟩:=aG h
 have u_1:=(hN q25)
 have u_2:=(iZ q26)
 refine GN ⟨[],[(1,(oO u_1 [1,2])),(3,(oO u_2 [1,2]))]⟩ [(1,1,oc u_1),(3,3,oc u_2)] (aC (G (aF (cW h (fun(v16,v17)=>aM [(4,.adr 0 0 6 0),(9,.p false (.ptr qJ) r7),(13,.adr 1 0 14 0),(17,.p false (.slice (.int .u8)) r40),(19,.sl 3),(20,.sl 4),(108,.i64 (r60.length:Int)),(109,.i64 v17)] (aKs d1 d2 d3 d4 d5 d6 r50 r51 r7 r21.1 r21.2.1 r21.2.2.1 r21.2.2.2.1 r21.2.2.2.2.1 r21.2.2.2.2.2 r52 r53 r54 r55 r56 v16 r61) 5) 4 (fun _=>aM [(4,.adr 0 0 6 0),(9,.p false (.ptr qJ) r7),(13,.adr 1 0 14 0),(17,.p false (.slice (.int .u8)) r40),(20,.sl 3)] (aJm d1 d2 d3 d4 d5 d6 r50 r51 r7 r21.1 r21.2.1 r21.2.2.1 r21.2.2.2.1 r21.2.2.2.2.1 r21.2.2.2.2.2 r52 r53 r54 r55 r56 r61) 4) (gg [] [0,1,2,11,27]) (fun y o h=> ?_) (fun r62 h=> ?_)))))
 ·obtain⟨v16,v17⟩:=y
  unfold gE at h
  refine G (aC (aO h (fun hb21 h=> ?_) (fun hb21 h=> ?_)))
  ·refine aB (aA (aC (aF (G ?_))))
   obtain⟨c99,c100,c101,c102,h⟩:=g4 h
   refine bS a0 [(2,2,oc c99),(3,3,oc c100),(5,5,oc c101),(6,6,oc c102)] (aK (aA (Ge ?_)))
   exact eB h (gg [] [0,1,2,3,4])
  refine aH (aY ?_)
  exact eX h (gg [] [0,1,2,4])
 refine aJ (aA (aC (G (aF (cW h (fun(v20,v21)=>aM [(4,.adr 0 0 6 0),(9,.p false (.ptr qJ) r7),(13,.adr 1 0 14 0),(17,.p false (.slice (.int .u8)) r40),(20,.sl 3),(120,.i64 (r61.length:Int)),(121,.i64 v21)] (aJm d1 d2 d3 d4 d5 d6 r50 r51 r7 r21.1 r21.2.1 r21.2.2.1 r21.2.2.2.1 r21.2.2.2.2.1 r21.2.2.2.2.2 r52 r53 r54 r55 r56 v20) 4) 6 (fun _=>aM [(4,.adr 0 0 6 0),(9,.p false (.ptr qJ) r7),(13,.adr 1 0 14 0),(17,.p false (.slice (.int .u8)) r40)] (aJd d1 d2 d3 d4 d5 d6 r50 r51 r7 r21.1 r21.2.1 r21.2.2.1 r21.2.2.2.1 r21.2.2.2.2.1 r21.2.2.2.2.2 r52 r53 r54 r55 r56) 3) (gg [] [0,1,2,3]) (fun y o h=> ?_) (fun r63 h=> ?_))))))
 ·obtain⟨v20,v21⟩:=y
  unfold cJ at h
  refine G (aC (aO h (fun hb24 h=> ?_) (fun hb24 h=> ?_)))
  ·refine aB (aA (aC (aF (G ?_))))
   obtain⟨c113,c114,h⟩:=g2 h
   refine bS a0 [(3,3,oc c113),(4,4,oc c114)] (aK (aA (Ge ?_)))
   exact eB h (gg [] [0,1,2,3])
  refine aH (aY ?_)
  exact eX h (gg [] [0,1,2])
 refine aJ (aA ?_)
 obtain⟨r67,q29,h⟩:=aG h
 obtain⟨⟨r68,r69⟩,q30,h⟩:=aG h
 have u_1:=(rJ q29)
 have u_2:=(F1 false q30)
 refine GN ⟨[],[(3,(oP u_1)),(4,(oP u_2))]⟩ [(3,3,oc u_1),(4,4,oc u_2)] (aC (bO h (fun v22=>aM [(8,.bo v22)] [] 0) (fun v22 h=> ?_) (fun v22 h=> ?_)))
 ·rcases aW h with⟨hb29,h⟩ | ⟨hb29,h⟩
  ·obtain⟨r76,q37,h⟩:=aG h
   rcases aW h with⟨hb30,h⟩ | ⟨hb30,h⟩
   ·obtain⟨r77,q38,h⟩:=aG h
    obtain⟨r78,q39,h⟩:=aG h
    have u_1:=(hN q37)
    have u_2:=(iZ q38)
    have u_3:=(nL true false q39)
    refine qA ⟨[(2,true),(9,true),(10,true),(15,true)],[(4,(oO u_1 [1,2])),(12,(oO u_2 [1,2])),(14,(oP u_3))]⟩ [(3,3,an hb29),(4,4,oc (And.intro hb29 u_1)),(5,8,an hb29),(9,9,oc hb29),(11,11,an hb30),(12,12,oc (And.intro hb30 u_2)),(13,13,an hb30),(14,14,oc (And.intro hb30 u_3)),(15,15,oc hb30)] ?_
    exact eN h (gg [] [])
   have u_1:=(hN q37)
   refine qA ⟨[(2,true),(9,true),(10,false),(15,false)],[(4,(oO u_1 [1,2]))]⟩ [(3,3,an hb29),(4,4,oc (And.intro hb29 u_1)),(5,8,an hb29),(9,9,oc hb29),(11,15,oc hb30)] ?_
   exact eN h (gg [] [])
  refine qA ⟨[(2,false),(9,false)],[]⟩ [(3,9,oc hb29)] ?_
  exact eN h (gg [] [])
 refine aA (aL ?_)
 obtain rfl:=sI h
 exact aD [.bool] (by kernel_rfl)
end
end Go.Proofs.YtbedjpdfkmfplaaGreatDoor.T
