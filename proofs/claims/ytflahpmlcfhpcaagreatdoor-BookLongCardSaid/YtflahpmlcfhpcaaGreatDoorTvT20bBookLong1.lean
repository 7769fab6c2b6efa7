/- Functions of the program as functions on data, and that the program's own come to them. -/
import Derived.Test.YtflahpmlcfhpcaaGreatDoorTvT20b0
namespace Go.Proofs.YtflahpmlcfhpcaaGreatDoor.T
open Go Go.Tv Go.Proofs
noncomputable section
set_option maxRecDepth 100000
set_option maxHeartbeats 4000000
def dA  : Option ((List Z7)×(List Z7)×(List Z7)×(List Z7)×(List UInt8)×(List UInt8)×(List UInt8)×Int×Int) :=
 some (([]:List Z7),(([((10:Int),((10:Int),(2:Int))),((32:Int),((32:Int),(1:Int)))]:List Z7),(([((32:Int),((126:Int),(1:Int)))]:List Z7),(([]:List Z7),(([99,108,97,115,115,32,79,59,32,109,97,121,32,79,32,47,32,79,59]:List UInt8),(([99,108,97,115,115,32,79,32,83,32,78,59,32,107,101,101,112,32,83,32,47,32,83,59,32,109,97,121,32,83,32,47,32,46,59,32,109,117,115,116,32,78,32,47,32,46,59,32,107,101,101,112,32,46,32,47,32,46,59]:List UInt8),(([]:List UInt8),((2:Int),(2:Int)))))))))
theorem gV{res:(List Z7)×(List Z7)×(List Z7)×(List Z7)×(List UInt8)×(List UInt8)×(List UInt8)×Int×Int}(h:dA=some res):
  Pure Tryz.prog 21 [] (aU (bN false [⟨Y7,res⟩])):=by
 refine Pure.of_body bA Tryz.func21 (by kernel_rfl) rfl (nl rfl) (fun Bw w0=> ?_) rfl
 unfold dA at h
 refine G (G (qQ [.frzC 0 1,.frzC 0 2] (by kernel_rfl) (aL ?_)))
 obtain rfl:=sI h
 exact aD [Y7] (by kernel_rfl)
def aAq(e1 at1:Int)(p1:List UInt8)(p2 p3 p4 p5 p6:Int)(o1:List Z4):Option ((Unit)⊕(Int×Int)):=some (Sum.inr (e1,at1))
theorem zV(v:Value)(e a:Int)(w:World):
  Calls Tryz.prog 85 #[v,.int .i64 e,.int .i64 a] w fun r w'=>r = .panicked [{ v:=aY 32 .i64 .i64 (e,a),recovered:=false }]∧w'=w:=by
 go_enter Tryz.func85,Tryz.ntmps85
 go_wp2
 exact⟨rfl,rfl,rfl⟩
theorem xK{e1:Int}{at1:Int}{p1:List UInt8}{p2:Int}{p3:Int}{p4:Int}{p5:Int}{p6:Int}{o1:List Z4}{res:(Unit)⊕(Int×Int)}(h:aAq e1 at1 p1 p2 p3 p4 p5 p6 o1=some res):
  Does Tryz.prog 85 [.adr 0 0 10 0,.i64 e1,.i64 at1] (ob2 p1 p2 p3 p4 p5 p6 o1) (jL (fun(q:Unit)=>(.tup [],[])) (aY 32 .i64 .i64) res):=by
 obtain rfl:=sI h
 exact Dies.of_calls Tryz.func85 (by kernel_rfl) rfl (fun v w=>zV v _ _ w)
def iA(s1:List UInt8)(c1:Int):Option (Int):=some (aBb s1 c1 0)
theorem j5(s:ByteArray)(c:Int)(w:World):
  Calls Tryz.prog 190 #[.string s,.int .u8 c] w fun e w'=>e = .returned (.int .i64 (Lib.indexByte s.data.toList c.toNat.toUInt8))∧w'=w:=by
 have hd:∀w,(callFunc 202 #[.string s,.int .u8 c]).run Tryz.prog w = .ok (.value (.int .i64 (Lib.indexByte s.data.toList c.toNat.toUInt8))) w:=fun w=>by
  rw[run_callFunc_extern (fn:=Tryz.f202) (e:=Extern.BytealgIndexByte.indexByte) Tryz.func202 (by kernel_rfl) rfl (by kernel_rfl) (by kernel_rfl),Lib.run_indexByteString]
  rfl
 go_enter Tryz.func190,Tryz.ntmps190
 go_wp2
 go_ret
 exact⟨rfl,rfl⟩
theorem lX{s1:List UInt8}{c1:Int}{res:Int}(h:iA s1 c1=some res):
  Pure Tryz.prog 190 [.st s1,.u8 c1] (aU (bN false [⟨(.int .i64),res⟩])):=by
 obtain rfl:=sI h
 exact Pure.of_idx Tryz.func190 (by kernel_rfl) rfl (fun s w=>j5 s _ w)
def fH(s1:List UInt8)(c1:Int):Option (Int) :=
 ((iA s1 c1).bind fun r2 =>
 some r2)
theorem jC{s1:List UInt8}{c1:Int}{res:Int}(h:fH s1 c1=some res):
  Pure Tryz.prog 167 [.st s1,.u8 c1] (aU (bN false [⟨(.int .i64),res⟩])):=by
 refine Pure.of_body bA Tryz.func167 (by kernel_rfl) rfl (nl rfl) (fun Bw w0=> ?_) rfl
 unfold fH at h
 refine G ?_
 obtain⟨r2,q2,h⟩:=aG h
 refine GP 2 (lX q2) (aL ?_)
 obtain rfl:=sI h
 exact aD [(.int .i64)] (by kernel_rfl)
def pC(c1:Int):Option (Bool) :=
 (((if(c1 == (32:Int))=true then some (true)
 else(if(c1 == (9:Int))=true then some (true)
 else(if(c1 == (10:Int))=true then some (true)
 else some ((c1 == (13:Int))))))).bind fun v1=>some v1)
theorem yA{c1:Int}{res:Bool}(h:pC c1=some res):
  Pure Tryz.prog 168 [.u8 c1] (aU (bN false [⟨.bool,res⟩])):=by
 refine Pure.of_body bA Tryz.func168 (by kernel_rfl) rfl (nl rfl) (fun Bw w0=> ?_) rfl
 unfold pC at h
 refine G (aC (bT h (fun v1=>aM [(2,.bo v1)] [] 0) (fun v1 h=> ?_) (fun v1 h=> ?_)))
 ·rcases aR h with⟨hb7,h⟩ | ⟨hb7,h⟩
  ·refine bO ⟨[(2,true),(5,true)],[]⟩ [(3,5,oc hb7)] ?_
   exact eN h (gg [] [])
  rcases aR h with⟨hb8,h⟩ | ⟨hb8,h⟩
  ·refine bO ⟨[(2,false),(5,false),(6,true),(9,true)],[]⟩ [(3,4,an hb7),(5,5,oc hb7),(7,9,oc hb8)] ?_
   exact eN h (gg [] [])
  rcases aR h with⟨hb9,h⟩ | ⟨hb9,h⟩
  ·refine bO ⟨[(2,false),(5,false),(6,false),(9,false),(10,true),(13,true)],[]⟩ [(3,4,an hb7),(5,5,oc hb7),(7,8,an hb8),(9,9,oc hb8),(11,13,oc hb9)] ?_
   exact eN h (gg [] [])
  refine bO ⟨[(2,false),(5,false),(6,false),(9,false),(10,false),(13,false)],[]⟩ [(3,4,an hb7),(5,5,oc hb7),(7,8,an hb8),(9,9,oc hb8),(11,12,an hb9),(13,13,oc hb9)] ?_
  exact eN h (gg [] [])
 refine aA (aL ?_)
 obtain rfl:=sI h
 exact aD [.bool] (by kernel_rfl)
def fW(c1:Int):Option (Bool) :=
 (((if(c1 == (95:Int))=true then some (true)
 else(if(decide (c1≥(97:Int)))=true then(if(decide (c1≤(122:Int)))=true then some (true)
 else(if(decide (c1≥(65:Int)))=true then(if(decide (c1≤(90:Int)))=true then some (true)
 else(if(decide (c1≥(48:Int)))=true then some ((decide (c1≤(57:Int))))
 else some (false)))
 else(if(decide (c1≥(48:Int)))=true then some ((decide (c1≤(57:Int))))
 else some (false))))
 else(if(decide (c1≥(65:Int)))=true then(if(decide (c1≤(90:Int)))=true then some (true)
 else(if(decide (c1≥(48:Int)))=true then some ((decide (c1≤(57:Int))))
 else some (false)))
 else(if(decide (c1≥(48:Int)))=true then some ((decide (c1≤(57:Int))))
 else some (false)))))).bind fun v1=>some v1)
theorem cQ{c1:Int}{res:Bool}(h:fW c1=some res):
  Pure Tryz.prog 169 [.u8 c1] (aU (bN false [⟨.bool,res⟩])):=by
 refine Pure.of_body bA Tryz.func169 (by kernel_rfl) rfl (nl rfl) (fun Bw w0=> ?_) rfl
 unfold fW at h
 refine G (aC (bT h (fun v1=>aM [(2,.bo v1)] [] 0) (fun v1 h=> ?_) (fun v1 h=> ?_)))
 ·rcases aR h with⟨hb23,h⟩ | ⟨hb23,h⟩
  ·refine bO ⟨[(2,true),(9,true)],[]⟩ [(3,5,oc hb23),(8,9,oc hb23)] ?_
   exact eN h (gg [] [])
  rcases aR h with⟨hb24,h⟩ | ⟨hb24,h⟩
  ·rcases aR h with⟨hb25,h⟩ | ⟨hb25,h⟩
   ·refine bO ⟨[(2,false),(5,true),(8,true),(9,false),(10,true),(17,true)],[]⟩ [(3,5,an hb23),(6,7,an hb24),(8,8,oc (And.intro hb23 hb24)),(9,9,oc hb23),(11,13,oc hb25),(16,17,oc hb25)] ?_
    exact eN h (gg [] [])
   rcases aR h with⟨hb26,h⟩ | ⟨hb26,h⟩
   ·rcases aR h with⟨hb27,h⟩ | ⟨hb27,h⟩
    ·refine bO ⟨[(2,false),(5,true),(8,true),(9,false),(10,false),(13,true),(16,true),(17,false),(18,true),(25,true)],[]⟩ [(3,5,an hb23),(6,7,an hb24),(8,8,oc (And.intro hb23 hb24)),(9,9,oc hb23),(11,13,an hb25),(14,15,an hb26),(16,16,oc (And.intro hb25 hb26)),(17,17,oc hb25),(19,21,oc hb27),(24,25,oc hb27)] ?_
     exact eN h (gg [] [])
    rcases aR h with⟨hb28,h⟩ | ⟨hb28,h⟩
    ·refine bO ⟨[(2,false),(5,true),(8,true),(9,false),(10,false),(13,true),(16,true),(17,false),(18,false),(21,true),(24,true),(25,false)],[]⟩ [(3,5,an hb23),(6,7,an hb24),(8,8,oc (And.intro hb23 hb24)),(9,9,oc hb23),(11,13,an hb25),(14,15,an hb26),(16,16,oc (And.intro hb25 hb26)),(17,17,oc hb25),(19,21,an hb27),(22,23,an hb28),(24,24,oc (And.intro hb27 hb28)),(25,25,oc hb27)] ?_
     exact eN h (gg [] [])
    refine bO ⟨[(2,false),(5,true),(8,true),(9,false),(10,false),(13,true),(16,true),(17,false),(18,false),(21,false),(24,false),(25,false)],[]⟩ [(3,5,an hb23),(6,7,an hb24),(8,8,oc (And.intro hb23 hb24)),(9,9,oc hb23),(11,13,an hb25),(14,15,an hb26),(16,16,oc (And.intro hb25 hb26)),(17,17,oc hb25),(19,21,an hb27),(22,23,oc hb28),(24,24,oc (And.intro hb27 hb28)),(25,25,oc hb27)] ?_
    exact eN h (gg [] [])
   rcases aR h with⟨hb29,h⟩ | ⟨hb29,h⟩
   ·refine bO ⟨[(2,false),(5,true),(8,true),(9,false),(10,false),(13,false),(16,false),(17,false),(21,true),(24,true)],[]⟩ [(3,5,an hb23),(6,7,an hb24),(8,8,oc (And.intro hb23 hb24)),(9,9,oc hb23),(11,13,an hb25),(14,15,oc hb26),(16,16,oc (And.intro hb25 hb26)),(17,17,oc hb25),(22,23,an hb29),(24,24,oc hb29)] ?_
    exact eN h (gg [] [])
   refine bO ⟨[(2,false),(5,true),(8,true),(9,false),(10,false),(13,false),(16,false),(17,false),(21,false),(24,false)],[]⟩ [(3,5,an hb23),(6,7,an hb24),(8,8,oc (And.intro hb23 hb24)),(9,9,oc hb23),(11,13,an hb25),(14,15,oc hb26),(16,16,oc (And.intro hb25 hb26)),(17,17,oc hb25),(22,24,oc hb29)] ?_
   exact eN h (gg [] [])
  rcases aR h with⟨hb30,h⟩ | ⟨hb30,h⟩
  ·rcases aR h with⟨hb31,h⟩ | ⟨hb31,h⟩
   ·refine bO ⟨[(2,false),(5,false),(8,false),(9,false),(13,true),(16,true),(18,true),(25,true)],[]⟩ [(3,5,an hb23),(6,7,oc hb24),(8,8,oc (And.intro hb23 hb24)),(9,9,oc hb23),(14,15,an hb30),(16,16,oc hb30),(19,21,oc hb31),(24,25,oc hb31)] ?_
    exact eN h (gg [] [])
   rcases aR h with⟨hb32,h⟩ | ⟨hb32,h⟩
   ·refine bO ⟨[(2,false),(5,false),(8,false),(9,false),(13,true),(16,true),(18,false),(21,true),(24,true),(25,false)],[]⟩ [(3,5,an hb23),(6,7,oc hb24),(8,8,oc (And.intro hb23 hb24)),(9,9,oc hb23),(14,15,an hb30),(16,16,oc hb30),(19,21,an hb31),(22,23,an hb32),(24,24,oc (And.intro hb31 hb32)),(25,25,oc hb31)] ?_
    exact eN h (gg [] [])
   refine bO ⟨[(2,false),(5,false),(8,false),(9,false),(13,true),(16,true),(18,false),(21,false),(24,false),(25,false)],[]⟩ [(3,5,an hb23),(6,7,oc hb24),(8,8,oc (And.intro hb23 hb24)),(9,9,oc hb23),(14,15,an hb30),(16,16,oc hb30),(19,21,an hb31),(22,23,oc hb32),(24,24,oc (And.intro hb31 hb32)),(25,25,oc hb31)] ?_
   exact eN h (gg [] [])
  rcases aR h with⟨hb33,h⟩ | ⟨hb33,h⟩
  ·refine bO ⟨[(2,false),(5,false),(8,false),(9,false),(13,false),(16,false),(21,true),(24,true)],[]⟩ [(3,5,an hb23),(6,7,oc hb24),(8,8,oc (And.intro hb23 hb24)),(9,9,oc hb23),(14,16,oc hb30),(22,23,an hb33),(24,24,oc hb33)] ?_
   exact eN h (gg [] [])
  refine bO ⟨[(2,false),(5,false),(8,false),(9,false),(13,false),(16,false),(21,false),(24,false)],[]⟩ [(3,5,an hb23),(6,7,oc hb24),(8,8,oc (And.intro hb23 hb24)),(9,9,oc hb23),(14,16,oc hb30),(22,24,oc hb33)] ?_
  exact eN h (gg [] [])
 refine aA (aL ?_)
 obtain rfl:=sI h
 exact aD [.bool] (by kernel_rfl)
def eI(s1:List (List UInt8))(v1:List UInt8):(Int)→Option ((Int)⊕((Unit)⊕(Int))):=fun v3 =>
 (if(decide (v3<(s1.length:Int)))=true then(if 0≤v3∧v3<(s1.length:Int)then(if(v1 == (s1.getD v3.toNat ([]:List UInt8)))=true then some (Sum.inr (Sum.inr v3))
 else some (Sum.inl (IntKind.i64.wrap (v3+(1:Int)))))else none)
 else some (Sum.inr (Sum.inl ())))
def dJ(s1:List (List UInt8))(v1:List UInt8):Option (Int) :=
 ((iter (eI s1 v1) (0:Int)).bind fun(r2:((Unit)⊕(Int)))=>match r2 with
 | .inl _=>some (-1:Int)
 | .inr (r1)=>some r1)
theorem iU(β0:Bool){s1:List (List UInt8)}{v1:List UInt8}{res:Int}(h:dJ s1 v1=some res):
  Pure Tryz.prog 189 [.p β0 (.slice .str) s1,.st v1] (aU (bN false [⟨(.int .i64),res⟩])):=by
 refine Pure.of_body bA Tryz.func189 (by kernel_rfl) rfl (nl rfl) (fun Bw w0=> ?_) rfl
 unfold dJ at h
 refine G (aC (G (aF (kT h (fun v3=>aM [(0,.p β0 (.slice .str) s1),(1,.st v1),(7,.i64 (s1.length:Int)),(8,.i64 v3)] [] 0) (dH (eJ Tryz.f189.ntmps 0 (fun _=>aM [] [] 0)) (gM tb Tryz.f189.results.toList (fun r1=>[⟨(.int .i64),r1⟩]))) (gg [] []) (fun v3 o h=> ?_) (fun r2 h e σ' hq=> ?_)))))
 ·unfold eI at h
  refine G (aC (aO h (fun hb5 h=> ?_) (fun hb5 h=> ?_)))
  ·refine aB (aA (aC (aF (G (GC 3 h (fun h=>aO h (fun hb6 h=> ?_) (fun hb6 h=> ?_)))))))
   ·refine G (aL ?_)
    obtain rfl:=sI h
    refine aK (aE (bW (aS ?_)))
    exact b0 (aD [(.int .i64)] (by kernel_rfl))
   refine aB (aJ (aA (Ge ?_)))
   exact eB h (gg [] [])
  refine aH (aX ?_)
  obtain rfl:=sI h
  refine dL (bL ?_)
  exact bZ (gg [] [])
 rcases r2 with _ | r1
 ·obtain⟨rfl,hle⟩:=hq
  refine cR ?_ hle
  refine aI (aA (G (aL ?_)))
  obtain rfl:=sI h
  exact aD [(.int .i64)] (by kernel_rfl)
 obtain⟨rfl,hr⟩:=hq
 refine aK (aE ?_)
 obtain rfl:=sI h
 exact hr
def cY(e1 at1:Int)(p1:List UInt8)(p2 p3 p4 p5 p6:Int)(o1:List (List UInt8))(o2:List Int)(o3:List Z6)(o4:List Z4):Option ((Unit)⊕(Int×Int)):=some (Sum.inr (e1,at1))
theorem uS(v:Value)(e a:Int)(w:World):
  Calls Tryz.prog 85 #[v,.int .i64 e,.int .i64 a] w fun r w'=>r = .panicked [{ v:=aY 32 .i64 .i64 (e,a),recovered:=false }]∧w'=w:=by
 go_enter Tryz.func85,Tryz.ntmps85
 go_wp2
 exact⟨rfl,rfl,rfl⟩
theorem cD{e1:Int}{at1:Int}{p1:List UInt8}{p2:Int}{p3:Int}{p4:Int}{p5:Int}{p6:Int}{o1:List (List UInt8)}{o2:List Int}{o3:List Z6}{o4:List Z4}{res:(Unit)⊕(Int×Int)}(h:cY e1 at1 p1 p2 p3 p4 p5 p6 o1 o2 o3 o4=some res):
  Does Tryz.prog 85 [.adr 0 0 10 0,.i64 e1,.i64 at1] (bS p1 p2 p3 p4 p5 p6 o1 o2 o3 o4) (jL (fun(q:Unit)=>(.tup [],[])) (aY 32 .i64 .i64) res):=by
 obtain rfl:=sI h
 exact Dies.of_calls Tryz.func85 (by kernel_rfl) rfl (fun v w=>uS v _ _ w)
def rP(d1:List UInt8)(d3 d4 d5 d6:Int)(o1:List (List UInt8))(o2:List Int)(o3:List Z6)(o4:List Z4):(Int)→Option ((Int)⊕((Int)⊕((Int×Int)⊕(Int×Int)))):=fun d10 =>
 (if(decide (d10<(d1.length:Int)))=true then(if 0≤d10∧d10<(d1.length:Int)then(if(((d1.getD d10.toNat 0).toNat:Int) == (35:Int))=true then(if 0≤d10∧d10≤(d1.length:Int)∧(d1.length:Int)≤(d1.length:Int)then((fH ((d1.take (d1.length:Int).toNat).drop d10.toNat) (10:Int)).bind fun r56 =>
 (((if(decide (r56<(0:Int)))=true then some ((IntKind.i64.wrap ((d1.length:Int) - d10)))
 else some (r56))).bind fun v14=>some (Sum.inl (IntKind.i64.wrap (d10+v14)))))else none)
 else((pC ((d1.getD d10.toNat 0).toNat:Int)).bind fun r58 =>
 (if r58=true then some (Sum.inl (IntKind.i64.wrap (d10+(1:Int))))
 else((((fW ((d1.getD d10.toNat 0).toNat:Int)).bind fun r63 =>
 (if(!r63)=true then((fH ([40,41,91,93,94,124,42,43,63,46,59,47,61]:List UInt8) ((d1.getD d10.toNat 0).toNat:Int)).bind fun r64 =>
 some ((decide (r64<(0:Int)))))
 else some (false)))).bind fun v15=>(if v15=true then((cY (20:Int) d10 d1 d10 d3 d4 d5 d6 o1 o2 o3 o4).bind fun(z12:(Unit)⊕(Int×Int))=>match z12 with
 | .inr (e27,e28)=>some (Sum.inr (Sum.inr (Sum.inl (e27,e28))))
 | .inl _=>none)
 else some (Sum.inr (Sum.inr (Sum.inr (((d1.getD d10.toNat 0).toNat:Int),d10)))))))))else none)
 else some (Sum.inr (Sum.inl d10)))
def eS(d1:List UInt8)(d2 d3 d4 d5 d6:Int)(o1:List (List UInt8))(o2:List Int)(o3:List Z6)(o4:List Z4):Option ((Int×Int)⊕(Int×Int)) :=
 ((iter (rP d1 d3 d4 d5 d6 o1 o2 o3 o4) d2).bind fun(r65:((Int)⊕((Int×Int)⊕(Int×Int))))=>match r65 with
 | .inl v13=>some (Sum.inl ((0:Int),v13))
 | .inr (.inl (e23,e24))=>some (Sum.inr (e23,e24))
 | .inr (.inr ((r53,r54)))=>some (Sum.inl (r53,r54)))
theorem bR{d1:List UInt8}{d2:Int}{d3:Int}{d4:Int}{d5:Int}{d6:Int}{o1:List (List UInt8)}{o2:List Int}{o3:List Z6}{o4:List Z4}{res:(Int×Int)⊕(Int×Int)}(h:eS d1 d2 d3 d4 d5 d6 o1 o2 o3 o4=some res):
  Does Tryz.prog 123 [.adr 0 0 10 0] (bS d1 d2 d3 d4 d5 d6 o1 o2 o3 o4) (jL (fun(q:Int×Int)=>(.u8 q.1,(bS d1 q.2 d3 d4 d5 d6 o1 o2 o3 o4))) (aY 32 .i64 .i64) res):=by
 refine Does.of_body bA Tryz.func123 (by kernel_rfl) rfl (nl rfl) (fun Bw w0=> ?_)
 unfold eS at h
 refine G (aC (aF (kT h (fun d10=>aM [(0,.adr 0 0 10 0)] (bS d1 d10 d3 d4 d5 d6 o1 o2 o3 o4) 5 5) (dH (eJ Tryz.f123.ntmps 0 (fun v13=>aM [] (bS d1 v13 d3 d4 d5 d6 o1 o2 o3 o4) 5 5)) (dH (tL (aY 32 .i64 .i64)) (U1 tb Tryz.f123.ntmps Tryz.f123.results.toList (fun(r53,r54)=>(.u8 r53,(bS d1 r54 d3 d4 d5 d6 o1 o2 o3 o4)))))) (gg [] [0,1,2,3,4]) (fun d10 o h=> ?_) (fun r65 h e σ' hq=> ?_))))
 ·unfold rP at h
  refine aC (GD a0 [] (aO h (fun hb46 h=> ?_) (fun hb46 h=> ?_)))
  ·refine aB (aA (aF ?_))
   obtain⟨c22,h⟩:=aQ h
   refine GD a0 [(8,8,oc c22)] (G (aO h (fun hb47 h=> ?_) (fun hb47 h=> ?_)))
   ·obtain⟨c24,h⟩:=aQ h
    obtain⟨r56,q62,h⟩:=aG h
    have u_1:=(jC q62)
    refine GD ⟨[],[(9,(oP u_1))]⟩ [(8,8,oc c24),(9,9,oc u_1)] (aC (G (bT h (fun v14=>aM [(0,.adr 0 0 10 0),(4,.i64 v14)] (bS d1 d10 d3 d4 d5 d6 o1 o2 o3 o4) 5 5) (fun v14 h=> ?_) (fun v14 h=> ?_))))
    ·refine aO h (fun hb49 h=> ?_) (fun hb49 h=> ?_)
     ·refine qY a0 [] ?_
      exact eN h (gg [] [0,1,2,3,4])
     refine aB ?_
     exact eN h (gg [] [0,1,2,3,4])
    refine aA (Ge (aJ ?_))
    exact eB h (gg [] [0,1,2,3,4])
   obtain⟨r58,q64,h⟩:=aG h
   refine GP 1 (yA q64) (aO h (fun hb50 h=> ?_) (fun hb50 h=> ?_))
   ·refine Ge (aJ ?_)
    exact eB h (gg [] [0,1,2,3,4])
   refine aC (aC (bT h (fun v15=>aM [(0,.adr 0 0 10 0),(3,.u8 ((d1.getD d10.toNat 0).toNat:Int)),(72,.bo v15)] (bS d1 d10 d3 d4 d5 d6 o1 o2 o3 o4) 5 5) (fun v15 h=> ?_) (fun v15 h=> ?_)))
   ·obtain⟨r63,q69,h⟩:=aG h
    rcases aR h with⟨hb53,h⟩ | ⟨hb53,h⟩
    ·obtain⟨r64,q70,h⟩:=aG h
     have u_1:=(cQ q69)
     have u_2:=(jC q70)
     refine bO ⟨[(3,true),(7,true)],[(1,(oP u_1)),(5,(oP u_2))]⟩ [(1,1,oc u_1),(4,4,an hb53),(5,5,oc (And.intro hb53 u_2)),(6,6,an hb53),(7,7,oc hb53)] ?_
     exact eN h (gg [] [0,1,2,3,4])
    have u_1:=(cQ q69)
    refine bO ⟨[(3,false),(7,false)],[(1,(oP u_1))]⟩ [(1,1,oc u_1),(4,7,oc hb53)] ?_
    exact eN h (gg [] [0,1,2,3,4])
   refine aA (aO h (fun hb54 h=> ?_) (fun hb54 h=> ?_))
   ·obtain⟨z12,q72,h⟩:=aG h
    rcases z12 with _ | ⟨e27,e28⟩
    ·cases h
    refine GX 5 [0,1,2,3,4] (cD q72) (fun _=> ?_)
    obtain rfl:=sI h
    refine aN (bF (bY (aS (S2 ?_))))
    exact rfl
   refine aB (aA (G (aL ?_)))
   obtain rfl:=sI h
   refine aK (bW (aS (aS ?_)))
   exact E9 (aT [some (.int .u8)] [] [0,1,2,3,4] [(2,.u8 ((d1.getD d10.toNat 0).toNat:Int))] (bS d1 d10 d3 d4 d5 d6 o1 o2 o3 o4) 5 5 (by kernel_rfl) (by kernel_rfl) (by kernel_rfl))
  refine aH (aX ?_)
  obtain rfl:=sI h
  refine dL (bL ?_)
  exact bZ (gg [] [0,1,2,3,4])
 rcases r65 with v13 | ⟨e23,e24⟩ | ⟨r53,r54⟩
 ·obtain⟨rfl,hle⟩:=hq
  refine cR ?_ hle
  refine aI (aA (G (aL ?_)))
  obtain rfl:=sI h
  exact aT [some (.int .u8)] [] [0,1,2,3,4] [(2,.u8 (0:Int))] (bS d1 v13 d3 d4 d5 d6 o1 o2 o3 o4) 5 5 (by kernel_rfl) (by kernel_rfl) (by kernel_rfl)
 ·obtain rfl:=hq
  refine bF (aN ?_)
  obtain rfl:=sI h
  exact rfl
 obtain⟨rfl,hr⟩:=hq
 refine aK (aE ?_)
 obtain rfl:=sI h
 exact hr
def rH(p1:List UInt8):(Int)→Option ((Int)⊕(Int)):=fun p11 =>
 (((if(decide (p11<(p1.length:Int)))=true then(if 0≤p11∧p11<(p1.length:Int)then((fW ((p1.getD p11.toNat 0).toNat:Int)).bind fun r32 =>
 some (r32))else none)
 else some (false))).bind fun v7=>(if v7=true then some (Sum.inl (IntKind.i64.wrap (p11+(1:Int))))
 else some (Sum.inr p11)))
def iK(p1:List UInt8)(p2 p3 p4 p5 p6:Int)(o1:List (List UInt8))(o2:List Int)(o3:List Z6)(o4:List Z4):Option (((List UInt8)×Int×Int)⊕(Int×Int)) :=
 ((eS p1 p2 p3 p4 p5 p6 o1 o2 o3 o4).bind fun(z6:(Int×Int)⊕(Int×Int))=>match z6 with
 | .inr (e11,e12)=>some (Sum.inr (e11,e12))
 | .inl (r21,r22)=>((fW r21).bind fun r23 =>
 (if(!r23)=true then((cY (21:Int) r22 p1 r22 p3 p4 p5 p6 o1 o2 o3 o4).bind fun(z8:(Unit)⊕(Int×Int))=>match z8 with
 | .inr (e15,e16)=>some (Sum.inr (e15,e16))
 | .inl _=>none)
 else((iter (rH p1) r22).bind fun p12=>(if 0≤r22∧r22≤p12∧p12≤(p1.length:Int)then some (Sum.inl (((p1.take p12.toNat).drop r22.toNat),r22,p12))else none)))))
theorem dF{p1:List UInt8}{p2:Int}{p3:Int}{p4:Int}{p5:Int}{p6:Int}{o1:List (List UInt8)}{o2:List Int}{o3:List Z6}{o4:List Z4}{res:((List UInt8)×Int×Int)⊕(Int×Int)}(h:iK p1 p2 p3 p4 p5 p6 o1 o2 o3 o4=some res):
  Does Tryz.prog 124 [.adr 0 0 10 0] (bS p1 p2 p3 p4 p5 p6 o1 o2 o3 o4) (jL (fun(q:(List UInt8)×Int×Int)=>(.tup [.st q.1,.i64 q.2.1],(bS p1 q.2.2 p3 p4 p5 p6 o1 o2 o3 o4))) (aY 32 .i64 .i64) res):=by
 refine Does.of_body bA Tryz.func124 (by kernel_rfl) rfl (nl rfl) (fun Bw w0=> ?_)
 unfold iK at h
 refine G (aC (aC ?_))
 obtain⟨z6,q18,h⟩:=aG h
 rcases z6 with⟨r21,r22⟩ | ⟨e11,e12⟩
 ·obtain⟨r23,q19,h⟩:=aG h
  have u_1:=(bR q18)
  have u_2:=(cQ q19)
  refine bO ⟨[],[(1,(oO u_1 [0,1,2,3,4])),(2,(oP u_2))]⟩ [(1,1,oc u_1),(2,2,oc u_2)] (aA (aO h (fun hb14 h=> ?_) (fun hb14 h=> ?_)))
  ·obtain⟨z8,q21,h⟩:=aG h
   rcases z8 with _ | ⟨e15,e16⟩
   ·cases h
   refine GX 5 [0,1,2,3,4] (cD q21) (fun _=>aN ?_)
   obtain rfl:=sI h
   exact rfl
  refine aB (aA (G (aC (aF (dC h (fun p11=>aM [(0,.adr 0 0 10 0),(4,.i64 r22)] (bS p1 p11 p3 p4 p5 p6 o1 o2 o3 o4) 5 5) 0 (fun p12=>aM [(0,.adr 0 0 10 0),(4,.i64 r22)] (bS p1 p12 p3 p4 p5 p6 o1 o2 o3 o4) 5 5) (gg [] [0,1,2,3,4]) (fun p11 o h=> ?_) (fun p12 h=> ?_))))))
  ·unfold rH at h
   refine aC (aC (bT h (fun v7=>aM [(0,.adr 0 0 10 0),(4,.i64 r22),(40,.bo v7)] (bS p1 p11 p3 p4 p5 p6 o1 o2 o3 o4) 5 5) (fun v7 h=> ?_) (fun v7 h=> ?_)))
   ·rcases aR h with⟨hb25,h⟩ | ⟨hb25,h⟩
    ·obtain⟨c20,h⟩:=aQ h
     obtain⟨r32,q30,h⟩:=aG h
     have u_1:=(cQ q30)
     refine qY ⟨[(10,true),(21,true)],[(20,(oP u_1))]⟩ [(11,18,an hb25),(19,19,oc (And.intro hb25 c20)),(20,20,oc (And.intro hb25 u_1)),(21,21,oc hb25)] ?_
     exact eN h (gg [] [0,1,2,3,4])
    refine qY ⟨[(10,false),(21,false)],[]⟩ [(11,21,oc hb25)] ?_
    exact eN h (gg [] [0,1,2,3,4])
   refine aA (aO h (fun hb26 h=> ?_) (fun hb26 h=> ?_))
   ·refine aB (aA (aF (Ge (aJ ?_))))
    exact eB h (gg [] [0,1,2,3,4])
   refine aH (aX ?_)
   exact eX h (gg [] [0,1,2,3,4])
  refine aI (aA ?_)
  obtain⟨c22,h⟩:=aQ h
  refine GD a0 [(9,9,oc c22)] (aL ?_)
  obtain rfl:=sI h
  exact aT [some .str,some (.int .i64)] [] [0,1,2,3,4] [(2,.st ((p1.take p12.toNat).drop r22.toNat)),(3,.i64 r22)] (bS p1 p12 p3 p4 p5 p6 o1 o2 o3 o4) 5 5 (by kernel_rfl) (by kernel_rfl) (by kernel_rfl)
 refine GX 1 [0,1,2,3,4] (bR q18) (fun _=>aN (aN ?_))
 obtain rfl:=sI h
 exact rfl
def dX(c1:Int)(p1:List UInt8)(p2 p3 p4 p5 p6:Int)(o1:List (List UInt8))(o2:List Int)(o3:List Z6)(o4:List Z4):Option ((Bool×Int)⊕(Int×Int)) :=
 ((eS p1 p2 p3 p4 p5 p6 o1 o2 o3 o4).bind fun(z4:(Int×Int)⊕(Int×Int))=>match z4 with
 | .inr (e7,e8)=>some (Sum.inr (e7,e8))
 | .inl (r8,r9)=>(if(r8 != c1)=true then some (Sum.inl (false,r9))
 else some (Sum.inl (true,(IntKind.i64.wrap (r9+(1:Int)))))))
theorem bJ{c1:Int}{p1:List UInt8}{p2:Int}{p3:Int}{p4:Int}{p5:Int}{p6:Int}{o1:List (List UInt8)}{o2:List Int}{o3:List Z6}{o4:List Z4}{res:(Bool×Int)⊕(Int×Int)}(h:dX c1 p1 p2 p3 p4 p5 p6 o1 o2 o3 o4=some res):
  Does Tryz.prog 162 [.adr 0 0 10 0,.u8 c1] (bS p1 p2 p3 p4 p5 p6 o1 o2 o3 o4) (jL (fun(q:Bool×Int)=>(.bo q.1,(bS p1 q.2 p3 p4 p5 p6 o1 o2 o3 o4))) (aY 32 .i64 .i64) res):=by
 refine Does.of_body bA Tryz.func162 (by kernel_rfl) rfl (nl rfl) (fun Bw w0=> ?_)
 unfold dX at h
 refine G (aC (aC ?_))
 obtain⟨z4,q4,h⟩:=aG h
 rcases z4 with⟨r8,r9⟩ | ⟨e7,e8⟩
 ·refine l4 1 [0,1,2,3,4] (bR q4) (aA (aO h (fun hb2 h=> ?_) (fun hb2 h=> ?_)))
  ·refine G (aL (aE ?_))
   obtain rfl:=sI h
   exact aT [some .bool] [] [0,1,2,3,4] [(4,.bo false)] (bS p1 r9 p3 p4 p5 p6 o1 o2 o3 o4) 5 5 (by kernel_rfl) (by kernel_rfl) (by kernel_rfl)
  refine aB (aA (G (G (aL ?_))))
  obtain rfl:=sI h
  exact aT [some .bool] [] [0,1,2,3,4] [(4,.bo true)] (bS p1 (IntKind.i64.wrap (r9+(1:Int))) p3 p4 p5 p6 o1 o2 o3 o4) 5 5 (by kernel_rfl) (by kernel_rfl) (by kernel_rfl)
 refine GX 1 [0,1,2,3,4] (bR q4) (fun _=>aN (aN ?_))
 obtain rfl:=sI h
 exact rfl
def kY(p1:List UInt8)(p2 p3 p4 p5 p6:Int)(o1:List (List UInt8))(o2:List Int)(o3:List Z6)(o4:List Z4):Option (Z4⊕(Int×Int)) :=
 ((iK p1 p2 p3 p4 p5 p6 o1 o2 o3 o4).bind fun(z6:((List UInt8)×Int×Int)⊕(Int×Int))=>match z6 with
 | .inr (e11,e12)=>some (Sum.inr (e11,e12))
 | .inl (r11,r12,r13)=>(if((cF .str o4 r11).isSome)=true then((cY (23:Int) r12 p1 r13 p3 p4 p5 p6 o1 o2 o3 o4).bind fun(z8:(Unit)⊕(Int×Int))=>match z8 with
 | .inr (e15,e16)=>some (Sum.inr (e15,e16))
 | .inl _=>none)
 else some (Sum.inl (r11,r13))))
theorem gT{p1:List UInt8}{p2:Int}{p3:Int}{p4:Int}{p5:Int}{p6:Int}{o1:List (List UInt8)}{o2:List Int}{o3:List Z6}{o4:List Z4}{res:Z4⊕(Int×Int)}(h:kY p1 p2 p3 p4 p5 p6 o1 o2 o3 o4=some res):
  Does Tryz.prog 163 [.adr 0 0 10 0] (bS p1 p2 p3 p4 p5 p6 o1 o2 o3 o4) (jL (fun(q:(List UInt8)×Int)=>(.st q.1,(bS p1 q.2 p3 p4 p5 p6 o1 o2 o3 o4))) (aY 32 .i64 .i64) res):=by
 refine Does.of_body bA Tryz.func163 (by kernel_rfl) rfl (nl rfl) (fun Bw w0=> ?_)
 unfold kY at h
 refine G (aC ?_)
 obtain⟨z6,q6,h⟩:=aG h
 rcases z6 with⟨r11,r12,r13⟩ | ⟨e11,e12⟩
 ·refine l4 1 [0,1,2,3,4] (dF q6) (aA (aC (G (G (aO h (fun hb2 h=> ?_) (fun hb2 h=> ?_))))))
  ·obtain⟨z8,q8,h⟩:=aG h
   rcases z8 with _ | ⟨e15,e16⟩
   ·cases h
   refine GX 2 [0,1,2,3,4] (cD q8) (fun _=>aN ?_)
   obtain rfl:=sI h
   exact rfl
  refine aB (aA (G (aL ?_)))
  obtain rfl:=sI h
  exact aT [some .str] [] [0,1,2,3,4] [(2,.st r11)] (bS p1 r13 p3 p4 p5 p6 o1 o2 o3 o4) 5 5 (by kernel_rfl) (by kernel_rfl) (by kernel_rfl)
 refine GX 1 [0,1,2,3,4] (dF q6) (fun _=>aN ?_)
 obtain rfl:=sI h
 exact rfl
def p7(d1:List UInt8)(d3 d4 d5 d6:Int)(o3:List Z6):(Int×(List (List UInt8))×(List Int)×List Z4)→Option ((Int×(List (List UInt8))×(List Int)×List Z4)⊕((Int×(List (List UInt8))×(List Int)×List Z4)⊕(Int×Int))):=fun(d19,d20,d21,d22) =>
 ((dX (59:Int) d1 d19 d3 d4 d5 d6 d20 d21 o3 d22).bind fun(z42:(Bool×Int)⊕(Int×Int))=>match z42 with
 | .inr (e87,e88)=>some (Sum.inr (Sum.inr (e87,e88)))
 | .inl (r64,r65)=>(if(!r64)=true then((eS d1 r65 d3 d4 d5 d6 d20 d21 o3 d22).bind fun(z44:(Int×Int)⊕(Int×Int))=>match z44 with
 | .inr (e91,e92)=>some (Sum.inr (Sum.inr (e91,e92)))
 | .inl (r68,r69)=>((kY d1 r69 d3 d4 d5 d6 d20 d21 o3 d22).bind fun(z46:Z4⊕(Int×Int))=>match z46 with
 | .inr (e95,e96)=>some (Sum.inr (Sum.inr (e95,e96)))
 | .inl (r72,r73)=>(if(decide ((d20.length:Int)≥(24:Int)))=true then((cY (24:Int) r69 d1 r73 d3 d4 d5 d6 d20 d21 o3 d22).bind fun(z48:(Unit)⊕(Int×Int))=>match z48 with
 | .inr (e99,e100)=>some (Sum.inr (Sum.inr (e99,e100)))
 | .inl _=>none)
 else(if 0≤(d20.length:Int)then(if(d21.length+([(d20.length:Int)]:List Int).length)*8≤140737488355328∧d21.length+([(d20.length:Int)]:List Int).length≤9223372036854775807 then(if(d20.length+([r72]:List (List UInt8)).length)*16≤140737488355328∧d20.length+([r72]:List (List UInt8)).length≤9223372036854775807 then some (Sum.inl (r73,(d20++([r72]:List (List UInt8))),(d21++([(d20.length:Int)]:List Int)),(fJ .str d22 r72 (IntKind.u32.wrap ((1:Int)*2 ^ (min (d20.length:Int).toNat IntKind.u32.bits))))))else none)else none)else none))))
 else some (Sum.inr (Sum.inl (r65,d20,d21,d22)))))
def pJ(d1:List UInt8)(d2 d3 d4 d5 d6:Int)(o1:List (List UInt8))(o2:List Int)(o3:List Z6)(o4:List Z4):Option ((Int×(List (List UInt8))×(List Int)×List Z4)⊕(Int×Int)) :=
 ((iter (p7 d1 d3 d4 d5 d6 o3) (d2,o1,o2,o4)).bind fun(r74:((Int×(List (List UInt8))×(List Int)×List Z4)⊕(Int×Int)))=>match r74 with
 | .inl (v9,v10,v11,v12)=>some (Sum.inl (v9,v10,v11,v12))
 | .inr ((e83,e84))=>some (Sum.inr (e83,e84)))
theorem oT{d1:List UInt8}{d2:Int}{d3:Int}{d4:Int}{d5:Int}{d6:Int}{o1:List (List UInt8)}{o2:List Int}{o3:List Z6}{o4:List Z4}{res:(Int×(List (List UInt8))×(List Int)×List Z4)⊕(Int×Int)}(h:pJ d1 d2 d3 d4 d5 d6 o1 o2 o3 o4=some res):
  Does Tryz.prog 119 [.adr 0 0 10 0] (bS d1 d2 d3 d4 d5 d6 o1 o2 o3 o4) (jL (fun(q:Int×(List (List UInt8))×(List Int)×List Z4)=>(.tup [],(aC4 d1 q.1 d3 d4 d5 d6 o3 q.2.2.2 q.2.1 q.2.2.1))) (aY 32 .i64 .i64) res):=by
 refine Does.of_body bA Tryz.func119 (by kernel_rfl) rfl (nl rfl) (fun Bw w0=> ?_)
 unfold pJ at h
 refine aF (kT h (fun(d19,d20,d21,d22)=>aM [(0,.adr 0 0 10 0)] (aC4 d1 d19 d3 d4 d5 d6 o3 d22 d20 d21) 7 5) (dH (eJ Tryz.f119.ntmps 0 (fun(v9,v10,v11,v12)=>aM [] (aC4 d1 v9 d3 d4 d5 d6 o3 v12 v10 v11) 7 5)) (tL (aY 32 .i64 .i64))) (gg [] [0,1,2,3,4,1,2]) (fun y o h=> ?_) (fun r74 h e σ' hq=> ?_))
 ·obtain⟨d19,d20,d21,d22⟩:=y
  unfold p7 at h
  refine aC (aC ?_)
  obtain⟨z42,q42,h⟩:=aG h
  rcases z42 with⟨r64,r65⟩ | ⟨e87,e88⟩
  ·refine l4 1 [0,5,6,3,4] (bJ q42) (aA (aO h (fun hb11 h=> ?_) (fun hb11 h=> ?_)))
   ·refine aB (aA (aF (aC ?_)))
    obtain⟨z44,q44,h⟩:=aG h
    rcases z44 with⟨r68,r69⟩ | ⟨e91,e92⟩
    ·refine l4 1 [0,5,6,3,4] (bR q44) (aA (G (aC ?_)))
     obtain⟨z46,q46,h⟩:=aG h
     rcases z46 with⟨r72,r73⟩ | ⟨e95,e96⟩
     ·refine l4 1 [0,5,6,3,4] (gT q46) (aA (aC (G (aO h (fun hb12 h=> ?_) (fun hb12 h=> ?_)))))
      ·obtain⟨z48,q48,h⟩:=aG h
       rcases z48 with _ | ⟨e99,e100⟩
       ·cases h
       refine GX 2 [0,5,6,3,4] (cD q48) (fun _=> ?_)
       obtain rfl:=sI h
       refine aN (bF (bY (aS ?_)))
       exact rfl
      refine aB (aA ?_)
      obtain⟨c32,h⟩:=aQ h
      refine GD a0 [(11,11,oc c32)] ?_
      obtain⟨c34,h⟩:=aQ h
      refine GD a0 [(13,13,oc c34)] (K5 8 h (fun h=>aJ ?_))
      exact eB h (gg [] [0,1,2,3,4,479,375])
     refine GX 1 [0,5,6,3,4] (gT q46) (fun _=> ?_)
     obtain rfl:=sI h
     refine aN (bF (bY (aS ?_)))
     exact rfl
    refine GX 1 [0,5,6,3,4] (bR q44) (fun _=> ?_)
    obtain rfl:=sI h
    refine aN (bF (bY (aS ?_)))
    exact rfl
   refine aH (aX ?_)
   obtain rfl:=sI h
   refine dL (bL ?_)
   exact bZ (gg [] [0,1,2,3,4,5,6])
  refine GX 1 [0,5,6,3,4] (bJ q42) (fun _=> ?_)
  obtain rfl:=sI h
  refine aN (aN (bY (aS ?_)))
  exact rfl
 rcases r74 with⟨v9,v10,v11,v12⟩ | ⟨e83,e84⟩
 ·obtain⟨rfl,hle⟩:=hq
  refine cR ?_ hle
  refine aI ?_
  obtain rfl:=sI h
  exact(aT [] [] [0,1,2,3,4,5,6] [] (aC4 d1 v9 d3 d4 d5 d6 o3 v12 v10 v11) 7 5 (by kernel_rfl) (by kernel_rfl) (by kernel_rfl)).normal
 obtain rfl:=hq
 refine bF ?_
 obtain rfl:=sI h
 exact rfl
def fN(c1:Int)(p1:List UInt8)(p2 p3 p4 p5 p6:Int)(o1:List (List UInt8))(o2:List Int)(o3:List Z6)(o4:List Z4):Option ((Int)⊕(Int×Int)) :=
 ((dX c1 p1 p2 p3 p4 p5 p6 o1 o2 o3 o4).bind fun(z6:(Bool×Int)⊕(Int×Int))=>match z6 with
 | .inr (e11,e12)=>some (Sum.inr (e11,e12))
 | .inl (r7,r8)=>(if(!r7)=true then((cY (21:Int) r8 p1 r8 p3 p4 p5 p6 o1 o2 o3 o4).bind fun(z8:(Unit)⊕(Int×Int))=>match z8 with
 | .inr (e15,e16)=>some (Sum.inr (e15,e16))
 | .inl _=>none)
 else some (Sum.inl r8)))
theorem b5{c1:Int}{p1:List UInt8}{p2:Int}{p3:Int}{p4:Int}{p5:Int}{p6:Int}{o1:List (List UInt8)}{o2:List Int}{o3:List Z6}{o4:List Z4}{res:(Int)⊕(Int×Int)}(h:fN c1 p1 p2 p3 p4 p5 p6 o1 o2 o3 o4=some res):
  Does Tryz.prog 164 [.adr 0 0 10 0,.u8 c1] (bS p1 p2 p3 p4 p5 p6 o1 o2 o3 o4) (jL (fun(q:Int)=>(.tup [],(bS p1 q p3 p4 p5 p6 o1 o2 o3 o4))) (aY 32 .i64 .i64) res):=by
 refine Does.of_body bA Tryz.func164 (by kernel_rfl) rfl (nl rfl) (fun Bw w0=> ?_)
 unfold fN at h
 refine aC ?_
 obtain⟨z6,q6,h⟩:=aG h
 rcases z6 with⟨r7,r8⟩ | ⟨e11,e12⟩
 ·refine l4 2 [0,1,2,3,4] (bJ q6) (aA (aO h (fun hb2 h=> ?_) (fun hb2 h=> ?_)))
  ·obtain⟨z8,q8,h⟩:=aG h
   rcases z8 with _ | ⟨e15,e16⟩
   ·cases h
   refine GX 5 [0,1,2,3,4] (cD q8) (fun _=> ?_)
   obtain rfl:=sI h
   exact rfl
  refine aB ?_
  obtain rfl:=sI h
  exact(aT [] [] [0,1,2,3,4] [] (bS p1 r8 p3 p4 p5 p6 o1 o2 o3 o4) 5 5 (by kernel_rfl) (by kernel_rfl) (by kernel_rfl)).normal
 refine GX 2 [0,1,2,3,4] (bJ q6) (fun _=>aN ?_)
 obtain rfl:=sI h
 exact rfl
def kZ(p1:List UInt8)(p2 p3 p4 p5 p6:Int)(o1:List (List UInt8))(o2:List Int)(o3:List Z6)(o4:List Z4):Option ((Int×Int)⊕(Int×Int)) :=
 ((iK p1 p2 p3 p4 p5 p6 o1 o2 o3 o4).bind fun(z6:((List UInt8)×Int×Int)⊕(Int×Int))=>match z6 with
 | .inr (e11,e12)=>some (Sum.inr (e11,e12))
 | .inl (r11,r12,r13)=>(if((cF .str o4 r11).isSome)=true then some (Sum.inl (((cF .str o4 r11).getD (0:Int)),r13))
 else((cY (22:Int) r12 p1 r13 p3 p4 p5 p6 o1 o2 o3 o4).bind fun(z8:(Unit)⊕(Int×Int))=>match z8 with
 | .inr (e15,e16)=>some (Sum.inr (e15,e16))
 | .inl _=>none)))
theorem gU{p1:List UInt8}{p2:Int}{p3:Int}{p4:Int}{p5:Int}{p6:Int}{o1:List (List UInt8)}{o2:List Int}{o3:List Z6}{o4:List Z4}{res:(Int×Int)⊕(Int×Int)}(h:kZ p1 p2 p3 p4 p5 p6 o1 o2 o3 o4=some res):
  Does Tryz.prog 188 [.adr 0 0 10 0] (bS p1 p2 p3 p4 p5 p6 o1 o2 o3 o4) (jL (fun(q:Int×Int)=>(.u32 q.1,(bS p1 q.2 p3 p4 p5 p6 o1 o2 o3 o4))) (aY 32 .i64 .i64) res):=by
 refine Does.of_body bA Tryz.func188 (by kernel_rfl) rfl (nl rfl) (fun Bw w0=> ?_)
 unfold kZ at h
 refine G (aC ?_)
 obtain⟨z6,q6,h⟩:=aG h
 rcases z6 with⟨r11,r12,r13⟩ | ⟨e11,e12⟩
 ·refine l4 1 [0,1,2,3,4] (dF q6) (aA (aC (G (G (aO h (fun hb2 h=> ?_) (fun hb2 h=> ?_))))))
  ·refine G (aL (aE ?_))
   obtain rfl:=sI h
   exact aT [some (.int .u32)] [] [0,1,2,3,4] [(2,.u32 ((cF .str o4 r11).getD (0:Int)))] (bS p1 r13 p3 p4 p5 p6 o1 o2 o3 o4) 5 5 (by kernel_rfl) (by kernel_rfl) (by kernel_rfl)
  refine aB (aA (aC ?_))
  obtain⟨z8,q8,h⟩:=aG h
  rcases z8 with _ | ⟨e15,e16⟩
  ·cases h
  refine GX 2 [0,1,2,3,4] (cD q8) (fun _=>aN ?_)
  obtain rfl:=sI h
  exact rfl
 refine GX 1 [0,1,2,3,4] (dF q6) (fun _=>aN ?_)
 obtain rfl:=sI h
 exact rfl
def mG(end1:Int)(p1:List UInt8)(p3 p4 p5 p6:Int)(o1:List (List UInt8))(o2:List Int)(o3:List Z6)(o4:List Z4):(Int×Int)→Option ((Int×Int)⊕((Int×Int)⊕(Int×Int))):=fun(p11,bits5) =>
 ((eS p1 p11 p3 p4 p5 p6 o1 o2 o3 o4).bind fun(z22:(Int×Int)⊕(Int×Int))=>match z22 with
 | .inr (e47,e48)=>some (Sum.inr (Sum.inr (e47,e48)))
 | .inl (r45,r46)=>(if(r45 != end1)=true then((kZ p1 r46 p3 p4 p5 p6 o1 o2 o3 o4).bind fun(z24:(Int×Int)⊕(Int×Int))=>match z24 with
 | .inr (e51,e52)=>some (Sum.inr (Sum.inr (e51,e52)))
 | .inl (r49,r50)=>some (Sum.inl (r50,(aZ .or .u32 bits5 r49))))
 else some (Sum.inr (Sum.inl (r46,bits5)))))
def eZ(end1:Int)(p1:List UInt8)(p2 p3 p4 p5 p6:Int)(o1:List (List UInt8))(o2:List Int)(o3:List Z6)(o4:List Z4):Option ((Int×Int)⊕(Int×Int)) :=
 ((iter (mG end1 p1 p3 p4 p5 p6 o1 o2 o3 o4) (p2,(0:Int))).bind fun(r51:((Int×Int)⊕(Int×Int)))=>match r51 with
 | .inl (p12,bits6)=>some (Sum.inl (bits6,(IntKind.i64.wrap (p12+(1:Int)))))
 | .inr ((e43,e44))=>some (Sum.inr (e43,e44)))
theorem bD{end1:Int}{p1:List UInt8}{p2:Int}{p3:Int}{p4:Int}{p5:Int}{p6:Int}{o1:List (List UInt8)}{o2:List Int}{o3:List Z6}{o4:List Z4}{res:(Int×Int)⊕(Int×Int)}(h:eZ end1 p1 p2 p3 p4 p5 p6 o1 o2 o3 o4=some res):
  Does Tryz.prog 165 [.adr 0 0 10 0,.u8 end1] (bS p1 p2 p3 p4 p5 p6 o1 o2 o3 o4) (jL (fun(q:Int×Int)=>(.u32 q.1,(bS p1 q.2 p3 p4 p5 p6 o1 o2 o3 o4))) (aY 32 .i64 .i64) res):=by
 refine Does.of_body bA Tryz.func165 (by kernel_rfl) rfl (nl rfl) (fun Bw w0=> ?_)
 unfold eZ at h
 refine G (G (aC (aF (kT h (fun(p11,bits5)=>aM [(0,.adr 0 0 10 0),(1,.u8 end1),(5,.u32 bits5)] (bS p1 p11 p3 p4 p5 p6 o1 o2 o3 o4) 5 5) (dH (eJ Tryz.f165.ntmps 0 (fun(p12,bits6)=>aM [(0,.adr 0 0 10 0),(5,.u32 bits6)] (bS p1 p12 p3 p4 p5 p6 o1 o2 o3 o4) 5 5)) (tL (aY 32 .i64 .i64))) (gg [] [0,1,2,3,4]) (fun y o h=> ?_) (fun r51 h e σ' hq=> ?_)))))
 ·obtain⟨p11,bits5⟩:=y
  unfold mG at h
  refine aC (aC ?_)
  obtain⟨z22,q22,h⟩:=aG h
  rcases z22 with⟨r45,r46⟩ | ⟨e47,e48⟩
  ·refine l4 1 [0,1,2,3,4] (bR q22) (aA (aO h (fun hb6 h=> ?_) (fun hb6 h=> ?_)))
   ·refine aB (aA (aF ?_))
    obtain⟨z24,q24,h⟩:=aG h
    rcases z24 with⟨r49,r50⟩ | ⟨e51,e52⟩
    ·refine l4 2 [0,1,2,3,4] (gU q24) (aJ ?_)
     exact eB h (gg [] [0,1,2,3,4])
    refine GX 2 [0,1,2,3,4] (gU q24) (fun _=> ?_)
    obtain rfl:=sI h
    refine bF (bY (aS ?_))
    exact rfl
   refine aH (aX ?_)
   obtain rfl:=sI h
   refine dL (bL ?_)
   exact bZ (gg [] [0,1,2,3,4])
  refine GX 1 [0,1,2,3,4] (bR q22) (fun _=> ?_)
  obtain rfl:=sI h
  refine aN (aN (bY (aS ?_)))
  exact rfl
 rcases r51 with⟨p12,bits6⟩ | ⟨e43,e44⟩
 ·obtain⟨rfl,hle⟩:=hq
  refine cR ?_ hle
  refine aI (aA (G (G (aL ?_))))
  obtain rfl:=sI h
  exact aT [some (.int .u32)] [] [0,1,2,3,4] [(4,.u32 bits6)] (bS p1 (IntKind.i64.wrap (p12+(1:Int))) p3 p4 p5 p6 o1 o2 o3 o4) 5 5 (by kernel_rfl) (by kernel_rfl) (by kernel_rfl)
 obtain rfl:=hq
 refine bF (aN ?_)
 obtain rfl:=sI h
 exact rfl
def u6(p1:List UInt8)(p2 p3 p4 p5 p6:Int)(o1:List (List UInt8))(o2:List Int)(o3:List Z6)(o4:List Z4):Option ((Int×List Z4)⊕(Int×Int)) :=
 ((kY p1 p2 p3 p4 p5 p6 o1 o2 o3 o4).bind fun(z8:Z4⊕(Int×Int))=>match z8 with
 | .inr (e15,e16)=>some (Sum.inr (e15,e16))
 | .inl (r13,r14)=>((fN (61:Int) p1 r14 p3 p4 p5 p6 o1 o2 o3 o4).bind fun(z10:(Int)⊕(Int×Int))=>match z10 with
 | .inr (e19,e20)=>some (Sum.inr (e19,e20))
 | .inl r16=>((eZ (59:Int) p1 r16 p3 p4 p5 p6 o1 o2 o3 o4).bind fun(z12:(Int×Int)⊕(Int×Int))=>match z12 with
 | .inr (e23,e24)=>some (Sum.inr (e23,e24))
 | .inl (r19,r20)=>some (Sum.inl (r20,(fJ .str o4 r13 r19))))))
theorem t5{p1:List UInt8}{p2:Int}{p3:Int}{p4:Int}{p5:Int}{p6:Int}{o1:List (List UInt8)}{o2:List Int}{o3:List Z6}{o4:List Z4}{res:(Int×List Z4)⊕(Int×Int)}(h:u6 p1 p2 p3 p4 p5 p6 o1 o2 o3 o4=some res):
  Does Tryz.prog 120 [.adr 0 0 10 0] (bS p1 p2 p3 p4 p5 p6 o1 o2 o3 o4) (jL (fun(q:Int×List Z4)=>(.tup [],(bS p1 q.1 p3 p4 p5 p6 o1 o2 o3 q.2))) (aY 32 .i64 .i64) res):=by
 refine Does.of_body bA Tryz.func120 (by kernel_rfl) rfl (nl rfl) (fun Bw w0=> ?_)
 unfold u6 at h
 refine aC ?_
 obtain⟨z8,q8,h⟩:=aG h
 rcases z8 with⟨r13,r14⟩ | ⟨e15,e16⟩
 ·refine l4 1 [0,1,2,3,4] (gT q8) (aA (aC ?_))
  obtain⟨z10,q10,h⟩:=aG h
  rcases z10 with r16 | ⟨e19,e20⟩
  ·refine l4 1 [0,1,2,3,4] (b5 q10) (aA ?_)
   obtain⟨z12,q12,h⟩:=aG h
   rcases z12 with⟨r19,r20⟩ | ⟨e23,e24⟩
   ·have u_1:=(bD q12)
    refine o5 bA rE ⟨[],[(6,(oO u_1 [0,1,2,3,4]))]⟩ (.one 0 (.one 1 (.one 2 (.one 4 (.one 5 (.two 3 (.one 6 (.one 7 (.leaf))) 6 (.one 3 (.one 7 (.leaf))))))))) [([],[]),([],[]),([],[]),([0],[]),([],[]),([],[]),([0,1,2,3,4],[0,1,2,3,4,93,94,95,96,97,98,99,100]),([4],[4])] 2 [] [] [0,1,2,3,4] [] (bS p1 r20 p3 p4 p5 p6 o1 o2 o3 (fJ .str o4 r13 r19)) 5 5 (Ts 6 ((pO u_1)::(pO u_1)::(Ts 3 []))) (by kernel_rfl) (by kernel_rfl) (tr 6 ⟨u_1,u_1,(tr 3 tt)⟩) (fun _=> ?_) (fun y hy=>by cases hy)
    obtain rfl:=sI h
    exact(aT [] [] [0,1,2,3,4] [] (bS p1 r20 p3 p4 p5 p6 o1 o2 o3 (fJ .str o4 r13 r19)) 5 5 (by kernel_rfl) (by kernel_rfl) (by kernel_rfl)).normal
   have u_1:=(bD q12)
   refine o5 bA rE ⟨[],[(6,(oD u_1 [0,1,2,3,4]))]⟩ (.one 0 (.one 1 (.one 2 (.one 4 (.one 5 (.twoD 3 (.dead 6) 6)))))) [([],[]),([],[]),([],[]),([0],[]),([],[]),([],[]),([0,1,2,3,4],[0,1,2,3,4,93,94,95,96,97,98,99,100]),([],[])] 0 [(aY 32 .i64 .i64 (e23,e24)),(aY 32 .i64 .i64 (e23,e24))] [] [0,1,2,3,4] [] [] 5 5 (Ts 6 [Dies Tryz.prog 165 [.adr 0 0 10 0,.u8 (59:Int)] (bS p1 r16 p3 p4 p5 p6 o1 o2 o3 o4) (aY 32 .i64 .i64 (e23,e24)),Dies Tryz.prog 165 [.adr 0 0 10 0,.u8 (59:Int)] (bS p1 r16 p3 p4 p5 p6 o1 o2 o3 o4) (aY 32 .i64 .i64 (e23,e24))]) (by kernel_rfl) (by kernel_rfl) (tr 6 ⟨(bD q12),(bD q12),tt⟩) (fun h0=>absurd rfl h0) (fun y hy σ1=> ?_)
   obtain rfl:y=(aY 32 .i64 .i64 (e23,e24)):=by simpa using hy
   obtain rfl:=sI h
   exact rfl
  refine GX 1 [0,1,2,3,4] (b5 q10) (fun _=>aN ?_)
  obtain rfl:=sI h
  exact rfl
 refine GX 1 [0,1,2,3,4] (gT q8) (fun _=>aN ?_)
 obtain rfl:=sI h
 exact rfl
def sB(p1:List UInt8)(p2 p3 p4 p5 p6:Int)(o1:List (List UInt8))(o2:List Int)(o3:List Z6)(o4:List Z4):Option (Z7⊕(Int×Int)) :=
 ((eZ (47:Int) p1 p2 p3 p4 p5 p6 o1 o2 o3 o4).bind fun(z6:(Int×Int)⊕(Int×Int))=>match z6 with
 | .inr (e11,e12)=>some (Sum.inr (e11,e12))
 | .inl (r11,r12)=>((eZ (59:Int) p1 r12 (aZ .or .u32 p3 r11) p4 p5 p6 o1 o2 o3 o4).bind fun(z8:(Int×Int)⊕(Int×Int))=>match z8 with
 | .inr (e15,e16)=>some (Sum.inr (e15,e16))
 | .inl (r15,r16)=>some (Sum.inl (r16,(aZ .or .u32 p3 r11),(aZ .or .u32 p4 r15)))))
theorem rK{p1:List UInt8}{p2:Int}{p3:Int}{p4:Int}{p5:Int}{p6:Int}{o1:List (List UInt8)}{o2:List Int}{o3:List Z6}{o4:List Z4}{res:Z7⊕(Int×Int)}(h:sB p1 p2 p3 p4 p5 p6 o1 o2 o3 o4=some res):
  Does Tryz.prog 121 [.adr 0 0 10 0] (bS p1 p2 p3 p4 p5 p6 o1 o2 o3 o4) (jL (fun(q:Int×Int×Int)=>(.tup [],(bS p1 q.1 q.2.1 q.2.2 p5 p6 o1 o2 o3 o4))) (aY 32 .i64 .i64) res):=by
 refine Does.of_body bA Tryz.func121 (by kernel_rfl) rfl (nl rfl) (fun Bw w0=> ?_)
 unfold sB at h
 refine aC ?_
 obtain⟨z6,q6,h⟩:=aG h
 rcases z6 with⟨r11,r12⟩ | ⟨e11,e12⟩
 ·have u_1:=(bD q6)
  refine o5 bA rE ⟨[],[(6,(oO u_1 [0,1,2,3,4]))]⟩ (.one 0 (.one 1 (.one 2 (.one 3 (.one 5 (.two 4 (.one 6 (.one 7 (.one 8 (.one 9 (.one 10 (.one 11 (.leaf))))))) 6 (.one 4 (.one 7 (.one 8 (.one 9 (.one 10 (.one 11 (.leaf))))))))))))) [([],[]),([],[]),([],[]),([],[]),([0],[]),([],[]),([0,1,2,3,4],[0,1,2,3,4,53,54,55,56,57,58,59,60]),([],[]),([],[]),([],[]),([],[]),([0],[0])] 2 [] [] [0,1,2,3,4] [(0,.adr 0 0 10 0)] (bS p1 r12 (aZ .or .u32 p3 r11) p4 p5 p6 o1 o2 o3 o4) 5 5 (Ts 6 ((pO u_1)::(pO u_1)::(Ts 11 []))) (by kernel_rfl) (by kernel_rfl) (tr 6 ⟨u_1,u_1,(tr 11 tt)⟩) (fun _=> ?_) (fun y hy=>by cases hy)
  refine aA ?_
  obtain⟨z8,q8,h⟩:=aG h
  rcases z8 with⟨r15,r16⟩ | ⟨e15,e16⟩
  ·have u_1:=(bD q8)
   refine o5 bA rE ⟨[],[(6,(oO u_1 [0,1,2,3,4]))]⟩ (.one 0 (.one 1 (.one 2 (.one 3 (.one 5 (.two 4 (.one 6 (.one 7 (.one 8 (.one 9 (.one 10 (.one 11 (.leaf))))))) 6 (.one 4 (.one 7 (.one 8 (.one 9 (.one 10 (.one 11 (.leaf))))))))))))) [([],[]),([],[]),([],[]),([],[]),([0],[]),([],[]),([0,1,2,3,4],[0,1,2,3,4,53,54,55,56,57,58,59,60]),([],[]),([],[]),([],[]),([],[]),([0],[0])] 2 [] [] [0,1,2,3,4] [] (bS p1 r16 (aZ .or .u32 p3 r11) (aZ .or .u32 p4 r15) p5 p6 o1 o2 o3 o4) 5 5 (Ts 6 ((pO u_1)::(pO u_1)::(Ts 11 []))) (by kernel_rfl) (by kernel_rfl) (tr 6 ⟨u_1,u_1,(tr 11 tt)⟩) (fun _=> ?_) (fun y hy=>by cases hy)
   obtain rfl:=sI h
   exact(aT [] [] [0,1,2,3,4] [] (bS p1 r16 (aZ .or .u32 p3 r11) (aZ .or .u32 p4 r15) p5 p6 o1 o2 o3 o4) 5 5 (by kernel_rfl) (by kernel_rfl) (by kernel_rfl)).normal
  have u_1:=(bD q8)
  refine o5 bA rE ⟨[],[(6,(oD u_1 [0,1,2,3,4]))]⟩ (.one 0 (.one 1 (.one 2 (.one 3 (.one 5 (.twoD 4 (.dead 6) 6)))))) [([],[]),([],[]),([],[]),([],[]),([0],[]),([],[]),([0,1,2,3,4],[0,1,2,3,4,53,54,55,56,57,58,59,60]),([],[]),([],[]),([],[]),([],[]),([],[])] 0 [(aY 32 .i64 .i64 (e15,e16)),(aY 32 .i64 .i64 (e15,e16))] [] [0,1,2,3,4] [] [] 5 5 (Ts 6 [Dies Tryz.prog 165 [.adr 0 0 10 0,.u8 (59:Int)] (bS p1 r12 (aZ .or .u32 p3 r11) p4 p5 p6 o1 o2 o3 o4) (aY 32 .i64 .i64 (e15,e16)),Dies Tryz.prog 165 [.adr 0 0 10 0,.u8 (59:Int)] (bS p1 r12 (aZ .or .u32 p3 r11) p4 p5 p6 o1 o2 o3 o4) (aY 32 .i64 .i64 (e15,e16))]) (by kernel_rfl) (by kernel_rfl) (tr 6 ⟨(bD q8),(bD q8),tt⟩) (fun h0=>absurd rfl h0) (fun y hy σ1=> ?_)
  obtain rfl:y=(aY 32 .i64 .i64 (e15,e16)):=by simpa using hy
  obtain rfl:=sI h
  exact rfl
 have u_1:=(bD q6)
 refine o5 bA rE ⟨[],[(6,(oD u_1 [0,1,2,3,4]))]⟩ (.one 0 (.one 1 (.one 2 (.one 3 (.one 5 (.twoD 4 (.dead 6) 6)))))) [([],[]),([],[]),([],[]),([],[]),([0],[]),([],[]),([0,1,2,3,4],[0,1,2,3,4,53,54,55,56,57,58,59,60]),([],[]),([],[]),([],[]),([],[]),([],[])] 0 [(aY 32 .i64 .i64 (e11,e12)),(aY 32 .i64 .i64 (e11,e12))] [] [0,1,2,3,4] [] [] 5 5 (Ts 6 [Dies Tryz.prog 165 [.adr 0 0 10 0,.u8 (47:Int)] (bS p1 p2 p3 p4 p5 p6 o1 o2 o3 o4) (aY 32 .i64 .i64 (e11,e12)),Dies Tryz.prog 165 [.adr 0 0 10 0,.u8 (47:Int)] (bS p1 p2 p3 p4 p5 p6 o1 o2 o3 o4) (aY 32 .i64 .i64 (e11,e12))]) (by kernel_rfl) (by kernel_rfl) (tr 6 ⟨(bD q6),(bD q6),tt⟩) (fun h0=>absurd rfl h0) (fun y hy σ1=> ?_)
 obtain rfl:y=(aY 32 .i64 .i64 (e11,e12)):=by simpa using hy
 refine aN ?_
 obtain rfl:=sI h
 exact rfl
def qI(p1:List UInt8)(p2 p3 p4 p5 p6:Int)(o1:List (List UInt8))(o2:List Int)(o3:List Z6)(o4:List Z4):Option ((Int×Int)⊕(Int×Int)) :=
 ((iK p1 p2 p3 p4 p5 p6 o1 o2 o3 o4).bind fun(z6:((List UInt8)×Int×Int)⊕(Int×Int))=>match z6 with
 | .inr (e11,e12)=>some (Sum.inr (e11,e12))
 | .inl (r13,r14,r15)=>((dJ o1 r13).bind fun r17 =>
 (if(decide (r17<(0:Int)))=true then((cY (22:Int) r14 p1 r15 p3 p4 p5 p6 o1 o2 o3 o4).bind fun(z8:(Unit)⊕(Int×Int))=>match z8 with
 | .inr (e15,e16)=>some (Sum.inr (e15,e16))
 | .inl _=>none)
 else some (Sum.inl (r17,r15)))))
theorem fQ{p1:List UInt8}{p2:Int}{p3:Int}{p4:Int}{p5:Int}{p6:Int}{o1:List (List UInt8)}{o2:List Int}{o3:List Z6}{o4:List Z4}{res:(Int×Int)⊕(Int×Int)}(h:qI p1 p2 p3 p4 p5 p6 o1 o2 o3 o4=some res):
  Does Tryz.prog 166 [.adr 0 0 10 0] (bS p1 p2 p3 p4 p5 p6 o1 o2 o3 o4) (jL (fun(q:Int×Int)=>(.i64 q.1,(bS p1 q.2 p3 p4 p5 p6 o1 o2 o3 o4))) (aY 32 .i64 .i64) res):=by
 refine Does.of_body bA Tryz.func166 (by kernel_rfl) rfl (nl rfl) (fun Bw w0=> ?_)
 unfold qI at h
 refine G (aC ?_)
 obtain⟨z6,q8,h⟩:=aG h
 rcases z6 with⟨r13,r14,r15⟩ | ⟨e11,e12⟩
 ·refine l4 1 [0,1,2,3,4] (dF q8) (aA ?_)
  obtain⟨r17,q10,h⟩:=aG h
  refine GP 6 (iU true q10) (aC (G (aO h (fun hb2 h=> ?_) (fun hb2 h=> ?_))))
  ·obtain⟨z8,q12,h⟩:=aG h
   rcases z8 with _ | ⟨e15,e16⟩
   ·cases h
   refine GX 2 [0,1,2,3,4] (cD q12) (fun _=>aN ?_)
   obtain rfl:=sI h
   exact rfl
  refine aB (aA (G (aL ?_)))
  obtain rfl:=sI h
  exact aT [some (.int .i64)] [] [0,1,2,3,4] [(2,.i64 r17)] (bS p1 r15 p3 p4 p5 p6 o1 o2 o3 o4) 5 5 (by kernel_rfl) (by kernel_rfl) (by kernel_rfl)
 refine GX 1 [0,1,2,3,4] (dF q8) (fun _=>aN ?_)
 obtain rfl:=sI h
 exact rfl
def pE(p1:List UInt8)(p2 p3 p4 p5 p6:Int)(o1:List (List UInt8))(o2:List Int)(o3:List Z6)(o4:List Z4):Option ((Int×List Int)⊕(Int×Int)) :=
 ((qI p1 p2 p3 p4 p5 p6 o1 o2 o3 o4).bind fun(z10:(Int×Int)⊕(Int×Int))=>match z10 with
 | .inr (e19,e20)=>some (Sum.inr (e19,e20))
 | .inl (r15,r16)=>((fN (61:Int) p1 r16 p3 p4 p5 p6 o1 o2 o3 o4).bind fun(z12:(Int)⊕(Int×Int))=>match z12 with
 | .inr (e23,e24)=>some (Sum.inr (e23,e24))
 | .inl r18=>((qI p1 r18 p3 p4 p5 p6 o1 o2 o3 o4).bind fun(z14:(Int×Int)⊕(Int×Int))=>match z14 with
 | .inr (e27,e28)=>some (Sum.inr (e27,e28))
 | .inl (r21,r22)=>(if 0≤r15∧r15<(o2.length:Int)then(if r15.toNat<o2.length then((fN (59:Int) p1 r22 p3 p4 p5 p6 o1 (o2.set r15.toNat r21) o3 o4).bind fun(z16:(Int)⊕(Int×Int))=>match z16 with
 | .inr (e31,e32)=>some (Sum.inr (e31,e32))
 | .inl r24=>some (Sum.inl (r24,(o2.set r15.toNat r21))))else none)else none))))
theorem pW{p1:List UInt8}{p2:Int}{p3:Int}{p4:Int}{p5:Int}{p6:Int}{o1:List (List UInt8)}{o2:List Int}{o3:List Z6}{o4:List Z4}{res:(Int×List Int)⊕(Int×Int)}(h:pE p1 p2 p3 p4 p5 p6 o1 o2 o3 o4=some res):
  Does Tryz.prog 122 [.adr 0 0 10 0] (bS p1 p2 p3 p4 p5 p6 o1 o2 o3 o4) (jL (fun(q:Int×List Int)=>(.tup [],(bS p1 q.1 p3 p4 p5 p6 o1 q.2 o3 o4))) (aY 32 .i64 .i64) res):=by
 refine Does.of_body bA Tryz.func122 (by kernel_rfl) rfl (nl rfl) (fun Bw w0=> ?_)
 unfold pE at h
 refine aC ?_
 obtain⟨z10,q10,h⟩:=aG h
 rcases z10 with⟨r15,r16⟩ | ⟨e19,e20⟩
 ·refine l4 1 [0,1,2,3,4] (fQ q10) (aA (aC ?_))
  obtain⟨z12,q12,h⟩:=aG h
  rcases z12 with r18 | ⟨e23,e24⟩
  ·refine l4 1 [0,1,2,3,4] (b5 q12) (aA (aC ?_))
   obtain⟨z14,q14,h⟩:=aG h
   rcases z14 with⟨r21,r22⟩ | ⟨e27,e28⟩
   ·obtain⟨c7,c8,h⟩:=g2 h
    have u_1:=(fQ q14)
    refine o5 bA rE ⟨[],[(7,(oO u_1 [0,1,2,3,4]))]⟩ (.one 0 (.one 1 (.one 2 (.one 3 (.one 5 (.one 6 (.two 4 (.one 7 (.one 8 (.one 9 (.leaf)))) 7 (.one 4 (.one 8 (.one 9 (.leaf))))))))))) [([],[]),([],[]),([],[]),([],[]),([0],[]),([],[]),([],[]),([0,1,2,3,4],[0,1,2,3,4,101,102,103,104,105,106,107,108]),([2],[]),([2],[2])] 2 [] [] [0,1,2,3,4] [(0,.adr 0 0 10 0)] (bS p1 r22 p3 p4 p5 p6 o1 (o2.set r15.toNat r21) o3 o4) 5 5 (Ts 7 [pO u_1,pO u_1,0≤r15∧r15<(o2.length:Int),r15.toNat<o2.length,True,0≤r15∧r15<(o2.length:Int),r15.toNat<o2.length]) (by kernel_rfl) (by kernel_rfl) (tr 7 ⟨u_1,u_1,c7,c8,tt,c7,c8,tt⟩) (fun _=> ?_) (fun y hy=>by cases hy)
    refine aA ?_
    obtain⟨z16,q16,h⟩:=aG h
    rcases z16 with r24 | ⟨e31,e32⟩
    ·refine l4 1 [0,1,2,3,4] (b5 q16) ?_
     obtain rfl:=sI h
     exact(aT [] [] [0,1,2,3,4] [] (bS p1 r24 p3 p4 p5 p6 o1 (o2.set r15.toNat r21) o3 o4) 5 5 (by kernel_rfl) (by kernel_rfl) (by kernel_rfl)).normal
    refine GX 1 [0,1,2,3,4] (b5 q16) (fun _=> ?_)
    obtain rfl:=sI h
    exact rfl
   have u_1:=(fQ q14)
   refine o5 bA rE ⟨[],[(7,(oD u_1 [0,1,2,3,4]))]⟩ (.one 0 (.one 1 (.one 2 (.one 3 (.one 5 (.one 6 (.twoD 4 (.dead 7) 7))))))) [([],[]),([],[]),([],[]),([],[]),([0],[]),([],[]),([],[]),([0,1,2,3,4],[0,1,2,3,4,101,102,103,104,105,106,107,108]),([],[]),([],[])] 0 [(aY 32 .i64 .i64 (e27,e28)),(aY 32 .i64 .i64 (e27,e28))] [] [0,1,2,3,4] [] [] 5 5 (Ts 7 [Dies Tryz.prog 166 [.adr 0 0 10 0] (bS p1 r18 p3 p4 p5 p6 o1 o2 o3 o4) (aY 32 .i64 .i64 (e27,e28)),Dies Tryz.prog 166 [.adr 0 0 10 0] (bS p1 r18 p3 p4 p5 p6 o1 o2 o3 o4) (aY 32 .i64 .i64 (e27,e28))]) (by kernel_rfl) (by kernel_rfl) (tr 7 ⟨(fQ q14),(fQ q14),tt⟩) (fun h0=>absurd rfl h0) (fun y hy σ1=> ?_)
   obtain rfl:y=(aY 32 .i64 .i64 (e27,e28)):=by simpa using hy
   refine aN ?_
   obtain rfl:=sI h
   exact rfl
  refine GX 1 [0,1,2,3,4] (b5 q12) (fun _=>aN ?_)
  obtain rfl:=sI h
  exact rfl
 refine GX 1 [0,1,2,3,4] (fQ q10) (fun _=>aN ?_)
 obtain rfl:=sI h
 exact rfl
def pF(rec_pq_either_v1:(List UInt8)→Int→Int→Int→Int→Int→(List (List UInt8))→(List Int)→(List Z6)→(List Z4)→Option (qS⊕(Int×Int)))(d1:List UInt8)(d2 d3 d4 d5 d6:Int)(o1:List (List UInt8))(o2:List Int)(o3:List Z6)(o4:List Z4):Option (qS⊕(Int×Int)) :=
 ((dX (40:Int) d1 d2 d3 d4 d5 d6 o1 o2 o3 o4).bind fun(z30:(Bool×Int)⊕(Int×Int))=>match z30 with
 | .inr (e61,e62)=>some (Sum.inr (e61,e62))
 | .inl (r55,r56)=>(if r55=true then(if(decide ((IntKind.i64.wrap (d6+(1:Int))) > (16:Int)))=true then((cY (25:Int) d2 d1 r56 d3 d4 d5 (IntKind.i64.wrap (d6+(1:Int))) o1 o2 o3 o4).bind fun(z32:(Unit)⊕(Int×Int))=>match z32 with
 | .inr (e65,e66)=>some (Sum.inr (e65,e66))
 | .inl _=>none)
 else((rec_pq_either_v1 d1 r56 d3 d4 d5 (IntKind.i64.wrap (d6+(1:Int))) o1 o2 o3 o4).bind fun(z34:qS⊕(Int×Int))=>match z34 with
 | .inr (e69,e70)=>some (Sum.inr (e69,e70))
 | .inl (r61,r62,r63,r64)=>((fN (41:Int) d1 r62 d3 d4 r63 r64 o1 o2 o3 o4).bind fun(z36:(Int)⊕(Int×Int))=>match z36 with
 | .inr (e73,e74)=>some (Sum.inr (e73,e74))
 | .inl r66=>some (Sum.inl ((Tree.node r61.op r61.set r61.kids),r66,r63,(IntKind.i64.wrap (r64 - (1:Int))))))))
 else(if(decide ((IntKind.i64.wrap (d5+(1:Int))) > (200:Int)))=true then((cY (26:Int) d2 d1 r56 d3 d4 (IntKind.i64.wrap (d5+(1:Int))) d6 o1 o2 o3 o4).bind fun(z38:(Unit)⊕(Int×Int))=>match z38 with
 | .inr (e77,e78)=>some (Sum.inr (e77,e78))
 | .inl _=>none)
 else(if 0≤(o1.length:Int)then((dX (46:Int) d1 r56 d3 d4 (IntKind.i64.wrap (d5+(1:Int))) d6 o1 o2 o3 o4).bind fun(z40:(Bool×Int)⊕(Int×Int))=>match z40 with
 | .inr (e81,e82)=>some (Sum.inr (e81,e82))
 | .inl (r69,r70)=>(((if r69=true then some ((Sum.inl ((IntKind.u32.wrap ((IntKind.u32.wrap ((1:Int)*2 ^ (min (o1.length:Int).toNat IntKind.u32.bits))) - (1:Int))),r70)))
 else((dX (91:Int) d1 r70 d3 d4 (IntKind.i64.wrap (d5+(1:Int))) d6 o1 o2 o3 o4).bind fun(z50:(Bool×Int)⊕(Int×Int))=>match z50 with
 | .inr (e103,e104)=>some ((Sum.inr (e103,e104)))
 | .inl (r89,r90)=>(if r89=true then((dX (94:Int) d1 r90 d3 d4 (IntKind.i64.wrap (d5+(1:Int))) d6 o1 o2 o3 o4).bind fun(z52:(Bool×Int)⊕(Int×Int))=>match z52 with
 | .inr (e107,e108)=>some ((Sum.inr (e107,e108)))
 | .inl (r93,r94)=>((eZ (93:Int) d1 r94 d3 d4 (IntKind.i64.wrap (d5+(1:Int))) d6 o1 o2 o3 o4).bind fun(z54:(Int×Int)⊕(Int×Int))=>match z54 with
 | .inr (e111,e112)=>some ((Sum.inr (e111,e112)))
 | .inl (r97,r98)=>(if r93=true then some ((Sum.inl ((aZ .andNot .u32 (IntKind.u32.wrap ((IntKind.u32.wrap ((1:Int)*2 ^ (min (o1.length:Int).toNat IntKind.u32.bits))) - (1:Int))) r97),r98)))
 else some ((Sum.inl (r97,r98))))))
 else((kZ d1 r90 d3 d4 (IntKind.i64.wrap (d5+(1:Int))) d6 o1 o2 o3 o4).bind fun(z56:(Int×Int)⊕(Int×Int))=>match z56 with
 | .inr (e115,e116)=>some ((Sum.inr (e115,e116)))
 | .inl (r101,r102)=>some ((Sum.inl (r101,r102)))))))).bind fun(r103:((Int×Int)⊕(Int×Int)))=>match r103 with
 | .inl (v6,v7)=>some (Sum.inl ((Tree.node (1:Int) v6 ([]:List Tree)),v7,(IntKind.i64.wrap (d5+(1:Int))),d6))
 | .inr ((e99,e100))=>some (Sum.inr (e99,e100))))else none))))
theorem qD(rec_pq_either_v1:(List UInt8)→Int→Int→Int→Int→Int→(List (List UInt8))→(List Int)→(List Z6)→(List Z4)→Option (qS⊕(Int×Int)))(hrec_pq_either_v1:∀ {p1:List UInt8} {p2:Int} {p3:Int} {p4:Int} {p5:Int} {p6:Int} {o1:List (List UInt8)} {o2:List Int} {o3:List Z6} {o4:List Z4} {res:qS⊕(Int×Int)},rec_pq_either_v1 p1 p2 p3 p4 p5 p6 o1 o2 o3 o4=some res→Does Tryz.prog 170 [.adr 0 0 10 0] (bS p1 p2 p3 p4 p5 p6 o1 o2 o3 o4) (jL (fun(q:Tree×Int×Int×Int)=>(.agg [.u8 q.1.op,.u32 q.1.set,.p false (.slice (.tree .u8 .u32)) q.1.kids],(bS p1 q.2.1 p3 p4 q.2.2.1 q.2.2.2 o1 o2 o3 o4))) (aY 32 .i64 .i64) res)){d1:List UInt8}{d2:Int}{d3:Int}{d4:Int}{d5:Int}{d6:Int}{o1:List (List UInt8)}{o2:List Int}{o3:List Z6}{o4:List Z4}{res:qS⊕(Int×Int)}(h:pF rec_pq_either_v1 d1 d2 d3 d4 d5 d6 o1 o2 o3 o4=some res):
  Does Tryz.prog 208 [.adr 0 0 10 0] (bS d1 d2 d3 d4 d5 d6 o1 o2 o3 o4) (jL (fun(q:Tree×Int×Int×Int)=>(.agg [.u8 q.1.op,.u32 q.1.set,.p false (.slice (.tree .u8 .u32)) q.1.kids],(bS d1 q.2.1 d3 d4 q.2.2.1 q.2.2.2 o1 o2 o3 o4))) (aY 32 .i64 .i64) res):=by
 refine Does.of_body bA Tryz.func208 (by kernel_rfl) rfl (nl rfl) (fun Bw w0=> ?_)
 unfold pF at h
 refine G (G (aC (aC ?_)))
 obtain⟨z30,q30,h⟩:=aG h
 rcases z30 with⟨r55,r56⟩ | ⟨e61,e62⟩
 ·refine l4 1 [0,1,2,3,4] (bJ q30) (aA (aO h (fun hb10 h=> ?_) (fun hb10 h=> ?_)))
  ·refine aC (G (G (aO h (fun hb11 h=> ?_) (fun hb11 h=> ?_))))
   ·obtain⟨z32,q32,h⟩:=aG h
    rcases z32 with _ | ⟨e65,e66⟩
    ·cases h
    refine GX 2 [0,1,2,3,4] (cD q32) (fun _=>aN (aN ?_))
    obtain rfl:=sI h
    exact rfl
   refine aB (aA (aC ?_))
   obtain⟨z34,q34,h⟩:=aG h
   rcases z34 with⟨r61,r62,r63,r64⟩ | ⟨e69,e70⟩
   ·refine l4 1 [0,1,2,3,4] (hrec_pq_either_v1 q34) (aA (aC ?_))
    obtain⟨z36,q36,h⟩:=aG h
    rcases z36 with r66 | ⟨e73,e74⟩
    ·refine l4 1 [0,1,2,3,4] (b5 q36) (aA (G (G (aL (aE ?_)))))
     obtain rfl:=sI h
     exact aT [some (.tree .u8 .u32)] [] [0,1,2,3,4,5] [(2,.adr 5 0 3 0)] (V7 d1 r66 d3 d4 r63 (IntKind.i64.wrap (r64 - (1:Int))) o1 o2 o3 o4 r61.op r61.set r61.kids) 6 5 (by kernel_rfl) (by kernel_rfl) (by kernel_rfl)
    refine GX 1 [0,1,2,3,4] (b5 q36) (fun _=>aN (aN ?_))
    obtain rfl:=sI h
    exact rfl
   refine GX 1 [0,1,2,3,4] (hrec_pq_either_v1 q34) (fun _=>aN (aN ?_))
   obtain rfl:=sI h
   exact rfl
  refine aB (aA (aC (G (G (aO h (fun hb12 h=> ?_) (fun hb12 h=> ?_))))))
  ·obtain⟨z38,q38,h⟩:=aG h
   rcases z38 with _ | ⟨e77,e78⟩
   ·cases h
   refine GX 2 [0,1,2,3,4] (cD q38) (fun _=>aN ?_)
   obtain rfl:=sI h
   exact rfl
  refine aB (aA (G (GC 6 h (fun h=>aC (aF (aC ?_))))))
  obtain⟨z40,q40,h⟩:=aG h
  rcases z40 with⟨r69,r70⟩ | ⟨e81,e82⟩
  ·refine l4 1 [0,1,2,3,4] (bJ q40) (aA (aCb h (dH (rF Tryz.f208.ntmps (fun(v6,v7)=>aM [(2,.adr 5 0 3 0),(5,.adr 6 0 3 0)] (aF3 d1 v7 d3 d4 (IntKind.i64.wrap (d5+(1:Int))) d6 o1 o2 o3 o4 (0:Int) (0:Int) (1:Int) v6) 7 5)) (tL (aY 32 .i64 .i64))) (fun r103 h=> ?_) (fun r103 h e σ' hq=> ?_)))
   ·refine aO h (fun hb16 h=> ?_) (fun hb16 h=> ?_)
    ·refine Ge ?_
     obtain rfl:=sI h
     refine bL ?_
     exact dI (gg [] [0,1,2,3,4,5,181])
    refine aC ?_
    obtain⟨z50,q50,h⟩:=aG h
    rcases z50 with⟨r89,r90⟩ | ⟨e103,e104⟩
    ·refine l4 1 [0,1,2,3,4] (bJ q50) (aA (aO h (fun hb17 h=> ?_) (fun hb17 h=> ?_)))
     ·refine aC ?_
      obtain⟨z52,q52,h⟩:=aG h
      rcases z52 with⟨r93,r94⟩ | ⟨e107,e108⟩
      ·refine l4 1 [0,1,2,3,4] (bJ q52) (aA (aC ?_))
       obtain⟨z54,q54,h⟩:=aG h
       rcases z54 with⟨r97,r98⟩ | ⟨e111,e112⟩
       ·refine l4 1 [0,1,2,3,4] (bD q54) (aA (G (aO h (fun hb18 h=> ?_) (fun hb18 h=> ?_))))
        ·refine Ge ?_
         obtain rfl:=sI h
         refine bL ?_
         exact dI (gg [] [0,1,2,3,4,5,181])
        refine aB ?_
        obtain rfl:=sI h
        refine bL ?_
        exact dI (gg [] [0,1,2,3,4,5,181])
       refine GX 1 [0,1,2,3,4] (bD q54) (fun _=> ?_)
       obtain rfl:=sI h
       refine aN (aS ?_)
       exact rfl
      refine GX 1 [0,1,2,3,4] (bJ q52) (fun _=> ?_)
      obtain rfl:=sI h
      refine aN (aS ?_)
      exact rfl
     obtain⟨z56,q56,h⟩:=aG h
     rcases z56 with⟨r101,r102⟩ | ⟨e115,e116⟩
     ·refine l4 1 [0,1,2,3,4] (gU q56) ?_
      obtain rfl:=sI h
      refine bL ?_
      exact dI (gg [] [0,1,2,3,4,5,181])
     refine GX 1 [0,1,2,3,4] (gU q56) (fun _=> ?_)
     obtain rfl:=sI h
     refine aS ?_
     exact rfl
    refine GX 1 [0,1,2,3,4] (bJ q50) (fun _=> ?_)
    obtain rfl:=sI h
    refine aN (aS ?_)
    exact rfl
   rcases r103 with⟨v6,v7⟩ | ⟨e99,e100⟩
   ·obtain⟨rfl,hle⟩:=hq
    refine cR ?_ hle
    refine aJ (aA (G (aL ?_)))
    obtain rfl:=sI h
    exact aT [some (.tree .u8 .u32)] [] [0,1,2,3,4,5] [(2,.adr 5 0 3 0)] (aEk d1 v7 d3 d4 (IntKind.i64.wrap (d5+(1:Int))) d6 o1 o2 o3 o4 (1:Int) v6) 6 5 (by kernel_rfl) (by kernel_rfl) (by kernel_rfl)
   obtain rfl:=hq
   refine bF (aN ?_)
   obtain rfl:=sI h
   exact rfl
  refine GX 1 [0,1,2,3,4] (bJ q40) (fun _=>aN (bF (aN ?_)))
  obtain rfl:=sI h
  exact rfl
 refine GX 1 [0,1,2,3,4] (bJ q30) (fun _=>aN (aN ?_))
 obtain rfl:=sI h
 exact rfl
def oE(p1:List UInt8)(p3 p4:Int)(o1:List (List UInt8))(o2:List Int)(o3:List Z6)(o4:List Z4)(r36:Tree)(r38 r39:Int):(Int×Int)→Option ((Int×Int)⊕((Int)⊕((Int×Int)⊕qS))):=fun(p15,v13) =>
 (if(decide (v13<(7:Int)))=true then(if 0≤v13∧v13<((7:Nat):Int)then(((if((([(0:Int),(0:Int),(0:Int),(0:Int),(42:Int),(43:Int),(63:Int)]:List Int).getD v13.toNat 0) != (0:Int))=true then((dX (([(0:Int),(0:Int),(0:Int),(0:Int),(42:Int),(43:Int),(63:Int)]:List Int).getD v13.toNat 0) p1 p15 p3 p4 r38 r39 o1 o2 o3 o4).bind fun(z22:(Bool×Int)⊕(Int×Int))=>match z22 with
 | .inr (e59,e60)=>some ((Sum.inr (e59,e60)))
 | .inl (r62,r63)=>some ((Sum.inl (r63,r62))))
 else some ((Sum.inl (p15,false))))).bind fun(r64:((Int×Bool)⊕(Int×Int)))=>match r64 with
 | .inl (p16,v15)=>(if v15=true then some (Sum.inr (Sum.inr (Sum.inr ((Tree.node (IntKind.u8.wrap v13) (0:Int) ([(Tree.node r36.op r36.set r36.kids)]:List Tree)),p16,r38,r39))))
 else some (Sum.inl (p16,(IntKind.i64.wrap (v13+(1:Int))))))
 | .inr ((e57,e58))=>some (Sum.inr (Sum.inr (Sum.inl (e57,e58)))))else none)
 else some (Sum.inr (Sum.inl p15)))
def oS(rec_pq_either_v1:(List UInt8)→Int→Int→Int→Int→Int→(List (List UInt8))→(List Int)→(List Z6)→(List Z4)→Option (qS⊕(Int×Int)))(p1:List UInt8)(p2 p3 p4 p5 p6:Int)(o1:List (List UInt8))(o2:List Int)(o3:List Z6)(o4:List Z4):Option (qS⊕(Int×Int)) :=
 ((pF rec_pq_either_v1 p1 p2 p3 p4 p5 p6 o1 o2 o3 o4).bind fun(z13:qS⊕(Int×Int))=>match z13 with
 | .inr (e33,e34)=>some (Sum.inr (e33,e34))
 | .inl (r36,r37,r38,r39)=>((iter (oE p1 p3 p4 o1 o2 o3 o4 r36 r38 r39) (r37,(0:Int))).bind fun(r65:((Int)⊕((Int×Int)⊕qS)))=>match r65 with
 | .inl v14=>some (Sum.inl ((Tree.node r36.op r36.set r36.kids),v14,r38,r39))
 | .inr (.inl (e51,e52))=>some (Sum.inr (e51,e52))
 | .inr (.inr ((r54,r55,r56,r57)))=>some (Sum.inl (r54,r55,r56,r57))))
theorem pN(rec_pq_either_v1:(List UInt8)→Int→Int→Int→Int→Int→(List (List UInt8))→(List Int)→(List Z6)→(List Z4)→Option (qS⊕(Int×Int)))(hrec_pq_either_v1:∀ {p1:List UInt8} {p2:Int} {p3:Int} {p4:Int} {p5:Int} {p6:Int} {o1:List (List UInt8)} {o2:List Int} {o3:List Z6} {o4:List Z4} {res:qS⊕(Int×Int)},rec_pq_either_v1 p1 p2 p3 p4 p5 p6 o1 o2 o3 o4=some res→Does Tryz.prog 170 [.adr 0 0 10 0] (bS p1 p2 p3 p4 p5 p6 o1 o2 o3 o4) (jL (fun(q:Tree×Int×Int×Int)=>(.agg [.u8 q.1.op,.u32 q.1.set,.p false (.slice (.tree .u8 .u32)) q.1.kids],(bS p1 q.2.1 p3 p4 q.2.2.1 q.2.2.2 o1 o2 o3 o4))) (aY 32 .i64 .i64) res)){p1:List UInt8}{p2:Int}{p3:Int}{p4:Int}{p5:Int}{p6:Int}{o1:List (List UInt8)}{o2:List Int}{o3:List Z6}{o4:List Z4}{res:qS⊕(Int×Int)}(h:oS rec_pq_either_v1 p1 p2 p3 p4 p5 p6 o1 o2 o3 o4=some res):
  Does Tryz.prog 203 [.adr 0 0 10 0] (bS p1 p2 p3 p4 p5 p6 o1 o2 o3 o4) (jL (fun(q:Tree×Int×Int×Int)=>(.agg [.u8 q.1.op,.u32 q.1.set,.p false (.slice (.tree .u8 .u32)) q.1.kids],(bS p1 q.2.1 p3 p4 q.2.2.1 q.2.2.2 o1 o2 o3 o4))) (aY 32 .i64 .i64) res):=by
 refine Does.of_body bA Tryz.func203 (by kernel_rfl) rfl (nl rfl) (fun Bw w0=> ?_)
 unfold oS at h
 refine G (aC ?_)
 obtain⟨z13,q13,h⟩:=aG h
 rcases z13 with⟨r36,r37,r38,r39⟩ | ⟨e33,e34⟩
 ·refine l4 1 [0,1,2,3,4] (qD rec_pq_either_v1 hrec_pq_either_v1 q13) (aA (aC (G (aF ?_))))
  refine kT h (fun(p15,v13)=>aM [(0,.adr 0 0 10 0),(2,.adr 5 0 3 0),(3,.adr 6 0 3 0),(8,.agg [.u8 (0:Int),.u8 (0:Int),.u8 (0:Int),.u8 (0:Int),.u8 (42:Int),.u8 (43:Int),.u8 (63:Int)]),(9,.i64 v13)] (aDS p1 p15 p3 p4 r38 r39 o1 o2 o3 o4 (0:Int) (0:Int) r36.op r36.set r36.kids) 7 5) (dH (eJ Tryz.f203.ntmps 0 (fun v14=>aM [(2,.adr 5 0 3 0),(3,.adr 6 0 3 0)] (aDS p1 v14 p3 p4 r38 r39 o1 o2 o3 o4 (0:Int) (0:Int) r36.op r36.set r36.kids) 7 5)) (dH (tL (aY 32 .i64 .i64)) (U1 tb Tryz.f203.ntmps Tryz.f203.results.toList (fun(r54,r55,r56,r57)=>(.agg [.u8 r54.op,.u32 r54.set,.p false (.slice (.tree .u8 .u32)) r54.kids],(bS p1 r55 p3 p4 r56 r57 o1 o2 o3 o4)))))) (gg [] [0,1,2,3,4,5,29]) (fun y o h=> ?_) (fun r65 h e σ' hq=> ?_)
  ·obtain⟨p15,v13⟩:=y
   unfold oE at h
   refine G (aC (aO h (fun hb26 h=> ?_) (fun hb26 h=> ?_)))
   ·refine aB (aA (aC (aF (GC 1 h (fun h=>aC (aCb h (dH (rF Tryz.f203.ntmps (fun(p16,v15)=>aM [(0,.adr 0 0 10 0),(2,.adr 5 0 3 0),(3,.adr 6 0 3 0),(4,.i64 v13),(8,.agg [.u8 (0:Int),.u8 (0:Int),.u8 (0:Int),.u8 (0:Int),.u8 (42:Int),.u8 (43:Int),.u8 (63:Int)]),(9,.i64 v13),(19,.bo v15)] (aDS p1 p16 p3 p4 r38 r39 o1 o2 o3 o4 (0:Int) (0:Int) r36.op r36.set r36.kids) 7 5)) (tL (aY 32 .i64 .i64))) (fun r64 h=> ?_) (fun r64 h e σ' hq=> ?_)))))))
    ·rcases aR h with⟨hb29,h⟩ | ⟨hb29,h⟩
     ·obtain⟨z22,q22,h⟩:=aG h
      rcases z22 with⟨r62,r63⟩ | ⟨e59,e60⟩
      ·have u_1:=(bJ q22)
       refine bO ⟨[(2,true),(6,true)],[(5,(oO u_1 [0,1,2,3,4]))]⟩ [(3,4,an hb29),(5,5,oc (And.intro hb29 u_1)),(6,6,oc hb29)] ?_
       obtain rfl:=sI h
       refine bL ?_
       exact dI (gg [] [0,1,2,3,4,5,6])
      have u_1:=(bJ q22)
      refine GXn u_1 ⟨[(2,true)],[(5,(oD u_1 [0,1,2,3,4]))]⟩ 5 [(3,4,an hb29),(5,5,oc (And.intro hb29 u_1))] (fun _=> ?_)
      obtain rfl:=sI h
      refine aS ?_
      exact rfl
     refine bO ⟨[(2,false),(6,false)],[]⟩ [(3,6,oc hb29)] ?_
     obtain rfl:=sI h
     refine bL ?_
     exact dI (gg [] [0,1,2,3,4,5,6])
    rcases r64 with⟨p16,v15⟩ | ⟨e57,e58⟩
    ·obtain⟨rfl,hle⟩:=hq
     refine cR ?_ hle
     refine aA (aO h (fun hb30 h=> ?_) (fun hb30 h=> ?_))
     ·refine G (qQ [.frzC 5 2] (by kernel_rfl) (aL ?_))
      obtain rfl:=sI h
      refine aK (aE (bW (aS (aS ?_))))
      exact E9 (aT [some (.tree .u8 .u32)] [] [0,1,2,3,4,5] [(2,.adr 5 0 3 0)] (V7 p1 p16 p3 p4 r38 r39 o1 o2 o3 o4 (IntKind.u8.wrap v13) (0:Int) ([(Tree.node r36.op r36.set r36.kids)]:List Tree)) 6 5 (by kernel_rfl) (by kernel_rfl) (by kernel_rfl))
     refine aB (aJ (aA (Ge ?_)))
     exact eB h (gg [] [0,1,2,3,4,5,6])
    obtain rfl:=hq
    obtain rfl:=sI h
    refine aN (bF (aN (bY (aS (S2 ?_)))))
    exact rfl
   refine aH (aX ?_)
   obtain rfl:=sI h
   refine dL (bL ?_)
   exact bZ (gg [] [0,1,2,3,4,5,6])
  rcases r65 with v14 | ⟨e51,e52⟩ | ⟨r54,r55,r56,r57⟩
  ·obtain⟨rfl,hle⟩:=hq
   refine cR ?_ hle
   refine aI (aA (G (aL ?_)))
   obtain rfl:=sI h
   exact aT [some (.tree .u8 .u32)] [] [0,1,2,3,4,5] [(2,.adr 5 0 3 0)] (V7 p1 v14 p3 p4 r38 r39 o1 o2 o3 o4 r36.op r36.set r36.kids) 6 5 (by kernel_rfl) (by kernel_rfl) (by kernel_rfl)
  ·obtain rfl:=hq
   refine bF (aN ?_)
   obtain rfl:=sI h
   exact rfl
  obtain⟨rfl,hr⟩:=hq
  refine aK (aE ?_)
  obtain rfl:=sI h
  exact hr
 refine GX 1 [0,1,2,3,4] (qD rec_pq_either_v1 hrec_pq_either_v1 q13) (fun _=>aN ?_)
 obtain rfl:=sI h
 exact rfl
def t9(p1:List UInt8)(p3 p4:Int)(o1:List (List UInt8))(o2:List Int)(o3:List Z6)(o4:List Z4)(rec_pq_either_v1:(List UInt8)→Int→Int→Int→Int→Int→(List (List UInt8))→(List Int)→(List Z6)→(List Z4)→Option (qS⊕(Int×Int))):(Int×Int×Int×(List Tree)×Int)→Option ((Int×Int×Int×(List Tree)×Int)⊕(((List Tree)×Int×Int×Int)⊕(Int×Int))):=fun(p16,p17,p18,l5,c4) =>
 ((((fW c4).bind fun r88 =>
 (if r88=true then some (true)
 else(if(c4 == (40:Int))=true then some (true)
 else(if(c4 == (91:Int))=true then some (true)
 else some ((c4 == (46:Int)))))))).bind fun v15=>(if v15=true then((oS rec_pq_either_v1 p1 p16 p3 p4 p17 p18 o1 o2 o3 o4).bind fun(z26:qS⊕(Int×Int))=>match z26 with
 | .inr (e55,e56)=>some (Sum.inr (Sum.inr (e55,e56)))
 | .inl (r93,r94,r95,r96)=>(if(l5.length+([(Tree.node r93.op r93.set r93.kids)]:List Tree).length)*32≤140737488355328∧l5.length+([(Tree.node r93.op r93.set r93.kids)]:List Tree).length≤9223372036854775807 then((eS p1 r94 p3 p4 r95 r96 o1 o2 o3 o4).bind fun(z28:(Int×Int)⊕(Int×Int))=>match z28 with
 | .inr (e59,e60)=>some (Sum.inr (Sum.inr (e59,e60)))
 | .inl (r99,r100)=>some (Sum.inl (r100,r95,r96,(l5++([(Tree.node r93.op r93.set r93.kids)]:List Tree)),r99)))else none))
 else some (Sum.inr (Sum.inl (l5,p16,p17,p18)))))
def qP(rec_pq_either_v1:(List UInt8)→Int→Int→Int→Int→Int→(List (List UInt8))→(List Int)→(List Z6)→(List Z4)→Option (qS⊕(Int×Int)))(p1:List UInt8)(p2 p3 p4 p5 p6:Int)(o1:List (List UInt8))(o2:List Int)(o3:List Z6)(o4:List Z4):Option (qS⊕(Int×Int)) :=
 ((eS p1 p2 p3 p4 p5 p6 o1 o2 o3 o4).bind fun(z16:(Int×Int)⊕(Int×Int))=>match z16 with
 | .inr (e33,e34)=>some (Sum.inr (e33,e34))
 | .inl (r54,r55)=>((iter (t9 p1 p3 p4 o1 o2 o3 o4 rec_pq_either_v1) (r55,p5,p6,([]:List Tree),r54)).bind fun(r101:(((List Tree)×Int×Int×Int)⊕(Int×Int)))=>match r101 with
 | .inl (l6,v12,v13,v14)=>(if((l6.length:Int) == (0:Int))=true then some (Sum.inl ((Tree.node (0:Int) (0:Int) ([]:List Tree)),v12,v13,v14))
 else(if((l6.length:Int) == (1:Int))=true then(if 0≤(0:Int)∧(0:Int)<(l6.length:Int)then(if(0:Int).toNat<l6.length then some (Sum.inl ((Tree.node ((l6.getD ((0:Int).toNat) (Tree.node 0 0 [])).op) ((l6.getD ((0:Int).toNat) (Tree.node 0 0 [])).set) ((l6.getD ((0:Int).toNat) (Tree.node 0 0 [])).kids)),v12,v13,v14))else none)else none)
 else some (Sum.inl ((Tree.node (2:Int) (0:Int) l6),v12,v13,v14))))
 | .inr ((e51,e52))=>some (Sum.inr (e51,e52))))
theorem jV(rec_pq_either_v1:(List UInt8)→Int→Int→Int→Int→Int→(List (List UInt8))→(List Int)→(List Z6)→(List Z4)→Option (qS⊕(Int×Int)))(hrec_pq_either_v1:∀ {p1:List UInt8} {p2:Int} {p3:Int} {p4:Int} {p5:Int} {p6:Int} {o1:List (List UInt8)} {o2:List Int} {o3:List Z6} {o4:List Z4} {res:qS⊕(Int×Int)},rec_pq_either_v1 p1 p2 p3 p4 p5 p6 o1 o2 o3 o4=some res→Does Tryz.prog 170 [.adr 0 0 10 0] (bS p1 p2 p3 p4 p5 p6 o1 o2 o3 o4) (jL (fun(q:Tree×Int×Int×Int)=>(.agg [.u8 q.1.op,.u32 q.1.set,.p false (.slice (.tree .u8 .u32)) q.1.kids],(bS p1 q.2.1 p3 p4 q.2.2.1 q.2.2.2 o1 o2 o3 o4))) (aY 32 .i64 .i64) res)){p1:List UInt8}{p2:Int}{p3:Int}{p4:Int}{p5:Int}{p6:Int}{o1:List (List UInt8)}{o2:List Int}{o3:List Z6}{o4:List Z4}{res:qS⊕(Int×Int)}(h:qP rec_pq_either_v1 p1 p2 p3 p4 p5 p6 o1 o2 o3 o4=some res):
  Does Tryz.prog 191 [.adr 0 0 10 0] (bS p1 p2 p3 p4 p5 p6 o1 o2 o3 o4) (jL (fun(q:Tree×Int×Int×Int)=>(.agg [.u8 q.1.op,.u32 q.1.set,.p false (.slice (.tree .u8 .u32)) q.1.kids],(bS p1 q.2.1 p3 p4 q.2.2.1 q.2.2.2 o1 o2 o3 o4))) (aY 32 .i64 .i64) res):=by
 refine Does.of_body bA Tryz.func191 (by kernel_rfl) rfl (nl rfl) (fun Bw w0=> ?_)
 unfold qP at h
 refine G (G (aC (aC ?_)))
 obtain⟨z16,q25,h⟩:=aG h
 rcases z16 with⟨r54,r55⟩ | ⟨e33,e34⟩
 ·refine l4 1 [0,1,2,3,4] (bR q25) (aA (aF (kT h (fun(p16,p17,p18,l5,c4)=>aM [(0,.adr 0 0 10 0),(2,.adr 5 0 3 0),(3,.sl 6),(4,.u8 c4)] (aB5 p1 p16 p3 p4 p17 p18 o1 o2 o3 o4 (0:Int) (0:Int) l5) 7 5) (dH (eJ Tryz.f191.ntmps 0 (fun(l6,v12,v13,v14)=>aM [(2,.adr 5 0 3 0),(3,.sl 6)] (aB5 p1 v12 p3 p4 v13 v14 o1 o2 o3 o4 (0:Int) (0:Int) l6) 7 5)) (tL (aY 32 .i64 .i64))) (gg [.nilS 3 45 183 (.tree .u8 .u32)] [0,1,2,3,4,5,45]) (fun y o h=> ?_) (fun r101 h e σ' hq=> ?_))))
  ·obtain⟨p16,p17,p18,l5,c4⟩:=y
   unfold t9 at h
   refine aC (aC (bT h (fun v15=>aM [(0,.adr 0 0 10 0),(2,.adr 5 0 3 0),(3,.sl 6),(20,.bo v15)] (aB5 p1 p16 p3 p4 p17 p18 o1 o2 o3 o4 (0:Int) (0:Int) l5) 7 5) (fun v15 h=> ?_) (fun v15 h=> ?_)))
   ·obtain⟨r88,q42,h⟩:=aG h
    rcases aR h with⟨hb59,h⟩ | ⟨hb59,h⟩
    ·have u_1:=(cQ q42)
     refine bO ⟨[(2,true),(5,true)],[(1,(oP u_1))]⟩ [(1,1,oc u_1),(3,5,oc hb59)] ?_
     exact eN h (gg [] [0,1,2,3,4,5,6])
    rcases aR h with⟨hb60,h⟩ | ⟨hb60,h⟩
    ·have u_1:=(cQ q42)
     refine bO ⟨[(2,false),(5,false),(6,true),(9,true)],[(1,(oP u_1))]⟩ [(1,1,oc u_1),(3,4,an hb59),(5,5,oc hb59),(7,9,oc hb60)] ?_
     exact eN h (gg [] [0,1,2,3,4,5,6])
    rcases aR h with⟨hb61,h⟩ | ⟨hb61,h⟩
    ·have u_1:=(cQ q42)
     refine bO ⟨[(2,false),(5,false),(6,false),(9,false),(10,true),(13,true)],[(1,(oP u_1))]⟩ [(1,1,oc u_1),(3,4,an hb59),(5,5,oc hb59),(7,8,an hb60),(9,9,oc hb60),(11,13,oc hb61)] ?_
     exact eN h (gg [] [0,1,2,3,4,5,6])
    have u_1:=(cQ q42)
    refine bO ⟨[(2,false),(5,false),(6,false),(9,false),(10,false),(13,false)],[(1,(oP u_1))]⟩ [(1,1,oc u_1),(3,4,an hb59),(5,5,oc hb59),(7,8,an hb60),(9,9,oc hb60),(11,12,an hb61),(13,13,oc hb61)] ?_
    exact eN h (gg [] [0,1,2,3,4,5,6])
   refine aA (aO h (fun hb62 h=> ?_) (fun hb62 h=> ?_))
   ·refine aB (aA (aC (aF ?_)))
    obtain⟨z26,q44,h⟩:=aG h
    rcases z26 with⟨r93,r94,r95,r96⟩ | ⟨e55,e56⟩
    ·obtain⟨c16,h⟩:=aQ h
     have u_1:=(pN rec_pq_either_v1 hrec_pq_either_v1 q44)
     refine bO ⟨[],[(2,(oO u_1 [0,1,2,3,4]))]⟩ [(2,2,oc u_1),(4,4,oc c16)] (aJ (aA ?_))
     obtain⟨z28,q46,h⟩:=aG h
     rcases z28 with⟨r99,r100⟩ | ⟨e59,e60⟩
     ·refine l4 1 [0,1,2,3,4] (bR q46) ?_
      exact eB h (gg [] [0,1,2,3,4,5,39])
     refine GX 1 [0,1,2,3,4] (bR q46) (fun _=> ?_)
     obtain rfl:=sI h
     refine bY (aS ?_)
     exact rfl
    refine GX 2 [0,1,2,3,4] (pN rec_pq_either_v1 hrec_pq_either_v1 q44) (fun _=> ?_)
    obtain rfl:=sI h
    refine bF (aN (bY (aS ?_)))
    exact rfl
   refine aH (aX ?_)
   obtain rfl:=sI h
   refine dL (bL ?_)
   exact bZ (gg [] [0,1,2,3,4,5,6])
  rcases r101 with⟨l6,v12,v13,v14⟩ | ⟨e51,e52⟩
  ·obtain⟨rfl,hle⟩:=hq
   refine cR ?_ hle
   refine aI (aA (aC (G (aF (G (aO h (fun hb63 h=> ?_) (fun hb63 h=> ?_)))))))
   ·refine G (aL (aK (aE ?_)))
    obtain rfl:=sI h
    exact aT [some (.tree .u8 .u32)] [] [0,1,2,3,4,5] [(2,.adr 5 0 3 0)] (aEk p1 v12 p3 p4 v13 v14 o1 o2 o3 o4 (0:Int) (0:Int)) 6 5 (by kernel_rfl) (by kernel_rfl) (by kernel_rfl)
   refine G (aO h (fun hb64 h=> ?_) (fun hb64 h=> ?_))
   ·obtain⟨c19,c20,h⟩:=g2 h
    refine GN a0 [(1,1,oc c19),(2,2,oc c20)] (aL (aK (aE ?_)))
    obtain rfl:=sI h
    exact aT [some (.tree .u8 .u32)] [] [0,1,2,3,4,5] [(2,.adr 5 0 3 0)] (V7 p1 v12 p3 p4 v13 v14 o1 o2 o3 o4 ((l6.getD ((0:Int).toNat) (Tree.node 0 0 [])).op) ((l6.getD ((0:Int).toNat) (Tree.node 0 0 [])).set) ((l6.getD ((0:Int).toNat) (Tree.node 0 0 [])).kids)) 6 5 (by kernel_rfl) (by kernel_rfl) (by kernel_rfl)
   refine aB (aJ (aA (G (qQ [.frzC 5 2] (by kernel_rfl) (aL ?_)))))
   obtain rfl:=sI h
   exact aT [some (.tree .u8 .u32)] [] [0,1,2,3,4,5] [(2,.adr 5 0 3 0)] (V7 p1 v12 p3 p4 v13 v14 o1 o2 o3 o4 (2:Int) (0:Int) l6) 6 5 (by kernel_rfl) (by kernel_rfl) (by kernel_rfl)
  obtain rfl:=hq
  refine bF (aN ?_)
  obtain rfl:=sI h
  exact rfl
 refine GX 1 [0,1,2,3,4] (bR q25) (fun _=>aN (aN ?_))
 obtain rfl:=sI h
 exact rfl
def nY(p1:List UInt8)(p3 p4:Int)(o1:List (List UInt8))(o2:List Int)(o3:List Z6)(o4:List Z4)(rec_pq_either_v1:(List UInt8)→Int→Int→Int→Int→Int→(List (List UInt8))→(List Int)→(List Z6)→(List Z4)→Option (qS⊕(Int×Int))):(Int×Int×Int×List Tree)→Option ((Int×Int×Int×List Tree)⊕(((List Tree)×Int×Int×Int)⊕(Int×Int))):=fun(p26,p27,p28,l11) =>
 ((dX (124:Int) p1 p26 p3 p4 p27 p28 o1 o2 o3 o4).bind fun(z54:(Bool×Int)⊕(Int×Int))=>match z54 with
 | .inr (e115,e116)=>some (Sum.inr (Sum.inr (e115,e116)))
 | .inl (r165,r166)=>(if r165=true then((qP rec_pq_either_v1 p1 r166 p3 p4 p27 p28 o1 o2 o3 o4).bind fun(z56:qS⊕(Int×Int))=>match z56 with
 | .inr (e119,e120)=>some (Sum.inr (Sum.inr (e119,e120)))
 | .inl (r171,r172,r173,r174)=>(if(l11.length+([(Tree.node r171.op r171.set r171.kids)]:List Tree).length)*32≤140737488355328∧l11.length+([(Tree.node r171.op r171.set r171.kids)]:List Tree).length≤9223372036854775807 then some (Sum.inl (r172,r173,r174,(l11++([(Tree.node r171.op r171.set r171.kids)]:List Tree))))else none))
 else some (Sum.inr (Sum.inl (l11,r166,p27,p28)))))
def kW(rec_pq_either_v1:(List UInt8)→Int→Int→Int→Int→Int→(List (List UInt8))→(List Int)→(List Z6)→(List Z4)→Option (qS⊕(Int×Int)))(p1:List UInt8)(p2 p3 p4 p5 p6:Int)(o1:List (List UInt8))(o2:List Int)(o3:List Z6)(o4:List Z4):Option (qS⊕(Int×Int)) :=
 ((qP rec_pq_either_v1 p1 p2 p3 p4 p5 p6 o1 o2 o3 o4).bind fun(z44:qS⊕(Int×Int))=>match z44 with
 | .inr (e93,e94)=>some (Sum.inr (e93,e94))
 | .inl (r135,r136,r137,r138)=>((iter (nY p1 p3 p4 o1 o2 o3 o4 rec_pq_either_v1) (r136,r137,r138,([(Tree.node r135.op r135.set r135.kids)]:List Tree))).bind fun(r175:(((List Tree)×Int×Int×Int)⊕(Int×Int)))=>match r175 with
 | .inl (l12,v17,v18,v19)=>(if((l12.length:Int) == (1:Int))=true then(if 0≤(0:Int)∧(0:Int)<(l12.length:Int)then(if(0:Int).toNat<l12.length then some (Sum.inl ((Tree.node ((l12.getD ((0:Int).toNat) (Tree.node 0 0 [])).op) ((l12.getD ((0:Int).toNat) (Tree.node 0 0 [])).set) ((l12.getD ((0:Int).toNat) (Tree.node 0 0 [])).kids)),v17,v18,v19))else none)else none)
 else some (Sum.inl ((Tree.node (3:Int) (0:Int) l12),v17,v18,v19)))
 | .inr ((e111,e112))=>some (Sum.inr (e111,e112))))
def gX:Nat→(List UInt8)→Int→Int→Int→Int→Int→(List (List UInt8))→(List Int)→(List Z6)→(List Z4)→Option (qS⊕(Int×Int))
 | 0=>fun _ _ _ _ _ _ _ _ _ _=>none
 | n+1=>kW (gX n)
theorem uF(rec_pq_either_v1:(List UInt8)→Int→Int→Int→Int→Int→(List (List UInt8))→(List Int)→(List Z6)→(List Z4)→Option (qS⊕(Int×Int)))(hrec_pq_either_v1:∀ {p1:List UInt8} {p2:Int} {p3:Int} {p4:Int} {p5:Int} {p6:Int} {o1:List (List UInt8)} {o2:List Int} {o3:List Z6} {o4:List Z4} {res:qS⊕(Int×Int)},rec_pq_either_v1 p1 p2 p3 p4 p5 p6 o1 o2 o3 o4=some res→Does Tryz.prog 170 [.adr 0 0 10 0] (bS p1 p2 p3 p4 p5 p6 o1 o2 o3 o4) (jL (fun(q:Tree×Int×Int×Int)=>(.agg [.u8 q.1.op,.u32 q.1.set,.p false (.slice (.tree .u8 .u32)) q.1.kids],(bS p1 q.2.1 p3 p4 q.2.2.1 q.2.2.2 o1 o2 o3 o4))) (aY 32 .i64 .i64) res)){p1:List UInt8}{p2:Int}{p3:Int}{p4:Int}{p5:Int}{p6:Int}{o1:List (List UInt8)}{o2:List Int}{o3:List Z6}{o4:List Z4}{res:qS⊕(Int×Int)}(h:kW rec_pq_either_v1 p1 p2 p3 p4 p5 p6 o1 o2 o3 o4=some res):
  Does Tryz.prog 170 [.adr 0 0 10 0] (bS p1 p2 p3 p4 p5 p6 o1 o2 o3 o4) (jL (fun(q:Tree×Int×Int×Int)=>(.agg [.u8 q.1.op,.u32 q.1.set,.p false (.slice (.tree .u8 .u32)) q.1.kids],(bS p1 q.2.1 p3 p4 q.2.2.1 q.2.2.2 o1 o2 o3 o4))) (aY 32 .i64 .i64) res):=by
 refine Does.of_body bA Tryz.func170 (by kernel_rfl) rfl (nl rfl) (fun Bw w0=> ?_)
 unfold kW at h
 refine G (aC ?_)
 obtain⟨z44,q44,h⟩:=aG h
 rcases z44 with⟨r135,r136,r137,r138⟩ | ⟨e93,e94⟩
 ·refine l4 1 [0,1,2,3,4] (jV rec_pq_either_v1 hrec_pq_either_v1 q44) (aA (aC (aF (kT h (fun(p26,p27,p28,l11)=>aM [(0,.adr 0 0 10 0),(2,.adr 5 0 3 0),(3,.sl 6)] (aB5 p1 p26 p3 p4 p27 p28 o1 o2 o3 o4 (0:Int) (0:Int) l11) 7 5) (dH (eJ Tryz.f170.ntmps 0 (fun(l12,v17,v18,v19)=>aM [(2,.adr 5 0 3 0),(3,.sl 6)] (aB5 p1 v17 p3 p4 v18 v19 o1 o2 o3 o4 (0:Int) (0:Int) l12) 7 5)) (tL (aY 32 .i64 .i64))) (gg [] [0,1,2,3,4,5,29]) (fun y o h=> ?_) (fun r175 h e σ' hq=> ?_)))))
  ·obtain⟨p26,p27,p28,l11⟩:=y
   unfold nY at h
   refine aC (aC ?_)
   obtain⟨z54,q54,h⟩:=aG h
   rcases z54 with⟨r165,r166⟩ | ⟨e115,e116⟩
   ·refine l4 1 [0,1,2,3,4] (bJ q54) (aA (aO h (fun hb15 h=> ?_) (fun hb15 h=> ?_)))
    ·refine aB (aA (aF ?_))
     obtain⟨z56,q56,h⟩:=aG h
     rcases z56 with⟨r171,r172,r173,r174⟩ | ⟨e119,e120⟩
     ·obtain⟨c36,h⟩:=aQ h
      have u_1:=(jV rec_pq_either_v1 hrec_pq_either_v1 q56)
      refine bO ⟨[],[(2,(oO u_1 [0,1,2,3,4]))]⟩ [(2,2,oc u_1),(4,4,oc c36)] (aJ ?_)
      exact eB h (gg [] [0,1,2,3,4,5,55])
     refine GX 2 [0,1,2,3,4] (jV rec_pq_either_v1 hrec_pq_either_v1 q56) (fun _=> ?_)
     obtain rfl:=sI h
     refine bF (bY (aS ?_))
     exact rfl
    refine aH (aX ?_)
    obtain rfl:=sI h
    refine dL (bL ?_)
    exact bZ (gg [] [0,1,2,3,4,5,6])
   refine GX 1 [0,1,2,3,4] (bJ q54) (fun _=> ?_)
   obtain rfl:=sI h
   refine aN (aN (bY (aS ?_)))
   exact rfl
  rcases r175 with⟨l12,v17,v18,v19⟩ | ⟨e111,e112⟩
  ·obtain⟨rfl,hle⟩:=hq
   refine cR ?_ hle
   refine aI (aA (aC (G (aO h (fun hb16 h=> ?_) (fun hb16 h=> ?_)))))
   ·obtain⟨c39,c40,h⟩:=g2 h
    refine GN a0 [(1,1,oc c39),(2,2,oc c40)] (aL (aE ?_))
    obtain rfl:=sI h
    exact aT [some (.tree .u8 .u32)] [] [0,1,2,3,4,5] [(2,.adr 5 0 3 0)] (V7 p1 v17 p3 p4 v18 v19 o1 o2 o3 o4 ((l12.getD ((0:Int).toNat) (Tree.node 0 0 [])).op) ((l12.getD ((0:Int).toNat) (Tree.node 0 0 [])).set) ((l12.getD ((0:Int).toNat) (Tree.node 0 0 [])).kids)) 6 5 (by kernel_rfl) (by kernel_rfl) (by kernel_rfl)
   refine aB (aA (G (qQ [.frzC 5 2] (by kernel_rfl) (aL ?_))))
   obtain rfl:=sI h
   exact aT [some (.tree .u8 .u32)] [] [0,1,2,3,4,5] [(2,.adr 5 0 3 0)] (V7 p1 v17 p3 p4 v18 v19 o1 o2 o3 o4 (3:Int) (0:Int) l12) 6 5 (by kernel_rfl) (by kernel_rfl) (by kernel_rfl)
  obtain rfl:=hq
  refine bF (aN ?_)
  obtain rfl:=sI h
  exact rfl
 refine GX 1 [0,1,2,3,4] (jV rec_pq_either_v1 hrec_pq_either_v1 q44) (fun _=>aN ?_)
 obtain rfl:=sI h
 exact rfl
theorem eT:∀(n:Nat) {p1:List UInt8} {p2:Int} {p3:Int} {p4:Int} {p5:Int} {p6:Int} {o1:List (List UInt8)} {o2:List Int} {o3:List Z6} {o4:List Z4} {res:qS⊕(Int×Int)},gX n p1 p2 p3 p4 p5 p6 o1 o2 o3 o4=some res→Does Tryz.prog 170 [.adr 0 0 10 0] (bS p1 p2 p3 p4 p5 p6 o1 o2 o3 o4) (jL (fun(q:Tree×Int×Int×Int)=>(.agg [.u8 q.1.op,.u32 q.1.set,.p false (.slice (.tree .u8 .u32)) q.1.kids],(bS p1 q.2.1 p3 p4 q.2.2.1 q.2.2.2 o1 o2 o3 o4))) (aY 32 .i64 .i64) res)
 | 0,_,_,_,_,_,_,_,_,_,_,_,h=>by cases h
 | n+1,p1,p2,p3,p4,p5,p6,o1,o2,o3,o4,res,h=>uF (gX n) (eT n)  h
def rY(does1 at1:Int)(p1:List UInt8)(p2 p3 p4 p5 p6:Int)(o1:List (List UInt8))(o2:List Int)(o3:List Z6)(o4:List Z4):Option ((Int×(List Z6)×Int×Int)⊕(Int×Int)) :=
 (if(decide ((o3.length:Int)≥(24:Int)))=true then((cY (24:Int) at1 p1 p2 p3 p4 p5 p6 o1 o2 o3 o4).bind fun(z12:(Unit)⊕(Int×Int))=>match z12 with
 | .inr (e23,e24)=>some (Sum.inr (e23,e24))
 | .inl _=>none)
 else((gX 1000 p1 p2 p3 p4 p5 p6 o1 o2 o3 o4).bind fun(z14:qS⊕(Int×Int))=>match z14 with
 | .inr (e27,e28)=>some (Sum.inr (e27,e28))
 | .inl (r25,r26,r27,r28)=>((fN (47:Int) p1 r26 p3 p4 r27 r28 o1 o2 o3 o4).bind fun(z16:(Int)⊕(Int×Int))=>match z16 with
 | .inr (e31,e32)=>some (Sum.inr (e31,e32))
 | .inl r30=>((gX 1000 p1 r30 p3 p4 r27 r28 o1 o2 o3 o4).bind fun(z18:qS⊕(Int×Int))=>match z18 with
 | .inr (e35,e36)=>some (Sum.inr (e35,e36))
 | .inl (r35,r36,r37,r38)=>((fN (59:Int) p1 r36 p3 p4 r37 r38 o1 o2 o3 o4).bind fun(z20:(Int)⊕(Int×Int))=>match z20 with
 | .inr (e39,e40)=>some (Sum.inr (e39,e40))
 | .inl r40=>(if(o3.length+([(does1,((Tree.node r25.op r25.set r25.kids),(Tree.node r35.op r35.set r35.kids)))]:List Z6).length)*72≤140737488355328∧o3.length+([(does1,((Tree.node r25.op r25.set r25.kids),(Tree.node r35.op r35.set r35.kids)))]:List Z6).length≤9223372036854775807 then some (Sum.inl (r40,(o3++([(does1,((Tree.node r25.op r25.set r25.kids),(Tree.node r35.op r35.set r35.kids)))]:List Z6)),r37,r38))else none))))))
theorem rT{does1:Int}{at1:Int}{p1:List UInt8}{p2:Int}{p3:Int}{p4:Int}{p5:Int}{p6:Int}{o1:List (List UInt8)}{o2:List Int}{o3:List Z6}{o4:List Z4}{res:(Int×(List Z6)×Int×Int)⊕(Int×Int)}(h:rY does1 at1 p1 p2 p3 p4 p5 p6 o1 o2 o3 o4=some res):
  Does Tryz.prog 125 [.adr 0 0 10 0,.u8 does1,.i64 at1] (bS p1 p2 p3 p4 p5 p6 o1 o2 o3 o4) (jL (fun(q:Int×(List Z6)×Int×Int)=>(.tup [],(aER p1 q.1 p3 p4 q.2.2.1 q.2.2.2 o1 o2 o4 q.2.1))) (aY 32 .i64 .i64) res):=by
 refine Does.of_body bA Tryz.func125 (by kernel_rfl) rfl (nl rfl) (fun Bw w0=> ?_)
 unfold rY at h
 refine aC (G (aO h (fun hb2 h=> ?_) (fun hb2 h=> ?_)))
 ·obtain⟨z12,q12,h⟩:=aG h
  rcases z12 with _ | ⟨e23,e24⟩
  ·cases h
  refine GX 2 [0,1,2,3,4] (cD q12) (fun _=>aN ?_)
  obtain rfl:=sI h
  exact rfl
 refine aB (aA (G (aC ?_)))
 obtain⟨z14,q14,h⟩:=aG h
 rcases z14 with⟨r25,r26,r27,r28⟩ | ⟨e27,e28⟩
 ·refine l4 1 [0,1,2,3,4] (eT 1000 q14) (aA (aC ?_))
  obtain⟨z16,q16,h⟩:=aG h
  rcases z16 with r30 | ⟨e31,e32⟩
  ·refine l4 1 [0,1,2,3,4] (b5 q16) (aA (aC ?_))
   obtain⟨z18,q18,h⟩:=aG h
   rcases z18 with⟨r35,r36,r37,r38⟩ | ⟨e35,e36⟩
   ·refine l4 1 [0,1,2,3,4] (eT 1000 q18) (aA (aC ?_))
    obtain⟨z20,q20,h⟩:=aG h
    rcases z20 with r40 | ⟨e39,e40⟩
    ·refine l4 1 [0,1,2,3,4] (b5 q20) (aA ?_)
     obtain⟨c4,h⟩:=aQ h
     refine qY a0 [(8,8,oc c4)] ?_
     obtain rfl:=sI h
     exact(aT [] [] [0,1,2,3,4,253] [] (aER p1 r40 p3 p4 r37 r38 o1 o2 o4 (o3++([(does1,((Tree.node r25.op r25.set r25.kids),(Tree.node r35.op r35.set r35.kids)))]:List Z6))) 6 5 (by kernel_rfl) (by kernel_rfl) (by kernel_rfl)).normal
    refine GX 1 [0,1,2,3,4] (b5 q20) (fun _=>aN ?_)
    obtain rfl:=sI h
    exact rfl
   refine GX 1 [0,1,2,3,4] (eT 1000 q18) (fun _=>aN ?_)
   obtain rfl:=sI h
   exact rfl
  refine GX 1 [0,1,2,3,4] (b5 q16) (fun _=>aN ?_)
  obtain rfl:=sI h
  exact rfl
 refine GX 1 [0,1,2,3,4] (eT 1000 q14) (fun _=>aN ?_)
 obtain rfl:=sI h
 exact rfl
def D1(p1:List UInt8):Z11→Option (Z11⊕(Z11⊕(Int×Int))):=fun(p34,p35,p36,p37,p38,p39,p40,p41,p42) =>
 ((eS p1 p34 p36 p37 p41 p42 p35 p38 p39 p40).bind fun(z78:(Int×Int)⊕(Int×Int))=>match z78 with
 | .inr (e159,e160)=>some (Sum.inr (Sum.inr (e159,e160)))
 | .inl (r196,r197)=>(if(r196 != (0:Int))=true then((iK p1 r197 p36 p37 p41 p42 p35 p38 p39 p40).bind fun(z80:((List UInt8)×Int×Int)⊕(Int×Int))=>match z80 with
 | .inr (e163,e164)=>some (Sum.inr (Sum.inr (e163,e164)))
 | .inl (r201,r202,r203)=>(if(mN .str ([99,108,97,115,115]:List UInt8) r201)=true then((pJ p1 r203 p36 p37 p41 p42 p35 p38 p39 p40).bind fun(z82:(Int×(List (List UInt8))×(List Int)×List Z4)⊕(Int×Int))=>match z82 with
 | .inr (e167,e168)=>some (Sum.inr (Sum.inr (e167,e168)))
 | .inl (r208,r209,r210,r211)=>some (Sum.inl (r208,r209,p36,p37,r210,p39,r211,p41,p42)))
 else(if(mN .str ([115,101,116]:List UInt8) r201)=true then((u6 p1 r203 p36 p37 p41 p42 p35 p38 p39 p40).bind fun(z84:(Int×List Z4)⊕(Int×Int))=>match z84 with
 | .inr (e171,e172)=>some (Sum.inr (Sum.inr (e171,e172)))
 | .inl (r214,r215)=>some (Sum.inl (r214,p35,p36,p37,p38,p39,r215,p41,p42)))
 else(if(mN .str ([106,111,105,110]:List UInt8) r201)=true then((sB p1 r203 p36 p37 p41 p42 p35 p38 p39 p40).bind fun(z86:Z7⊕(Int×Int))=>match z86 with
 | .inr (e175,e176)=>some (Sum.inr (Sum.inr (e175,e176)))
 | .inl (r219,r220,r221)=>some (Sum.inl (r219,p35,r220,r221,p38,p39,p40,p41,p42)))
 else(if(mN .str ([116,114,101,97,116]:List UInt8) r201)=true then((pE p1 r203 p36 p37 p41 p42 p35 p38 p39 p40).bind fun(z88:(Int×List Int)⊕(Int×Int))=>match z88 with
 | .inr (e179,e180)=>some (Sum.inr (Sum.inr (e179,e180)))
 | .inl (r224,r225)=>some (Sum.inl (r224,p35,p36,p37,r225,p39,p40,p41,p42)))
 else(if((cF .str (fJ .str (fJ .str (fJ .str ([]:List Z4) ([107,101,101,112]:List UInt8) (0:Int)) ([109,97,121]:List UInt8) (1:Int)) ([109,117,115,116]:List UInt8) (2:Int)) r201).isSome)=true then((rY ((cF .str (fJ .str (fJ .str (fJ .str ([]:List Z4) ([107,101,101,112]:List UInt8) (0:Int)) ([109,97,121]:List UInt8) (1:Int)) ([109,117,115,116]:List UInt8) (2:Int)) r201).getD (0:Int)) r202 p1 r203 p36 p37 p41 p42 p35 p38 p39 p40).bind fun(z90:(Int×(List Z6)×Int×Int)⊕(Int×Int))=>match z90 with
 | .inr (e183,e184)=>some (Sum.inr (Sum.inr (e183,e184)))
 | .inl (r230,r231,r232,r233)=>some (Sum.inl (r230,p35,p36,p37,p38,r231,p40,r232,r233)))
 else((cY (21:Int) r202 p1 r203 p36 p37 p41 p42 p35 p38 p39 p40).bind fun(z92:(Unit)⊕(Int×Int))=>match z92 with
 | .inr (e187,e188)=>some (Sum.inr (Sum.inr (e187,e188)))
 | .inl _=>none)))))))
 else some (Sum.inr (Sum.inl (r197,p35,p36,p37,p38,p39,p40,p41,p42)))))
def T9(p1:List UInt8)(p2 p3 p4 p5 p6:Int)(o1:List Z4):Option (Z11⊕(Int×Int)) :=
 ((iter (D1 p1) (p2,([]:List (List UInt8)),p3,p4,([]:List Int),([]:List Z6),o1,p5,p6)).bind fun(r234:(Z11⊕(Int×Int)))=>match r234 with
 | .inl (v19,v20,v21,v22,v23,v24,v25,v26,v27)=>some (Sum.inl (v19,v20,v21,v22,v23,v24,v25,v26,v27))
 | .inr ((e155,e156))=>some (Sum.inr (e155,e156)))
theorem uZ{p1:List UInt8}{p2:Int}{p3:Int}{p4:Int}{p5:Int}{p6:Int}{o1:List Z4}{res:Z11⊕(Int×Int)}(h:T9 p1 p2 p3 p4 p5 p6 o1=some res):
  Does Tryz.prog 86 [.adr 0 0 10 0] (ob2 p1 p2 p3 p4 p5 p6 o1) (jL (fun(q:Int×(List (List UInt8))×Int×Int×(List Int)×(List Z6)×(List Z4)×Int×Int)=>(.tup [],(aDz p1 q.1 q.2.2.1 q.2.2.2.1 q.2.2.2.2.2.2.2.1 q.2.2.2.2.2.2.2.2 q.2.2.2.2.2.2.1 q.2.1 q.2.2.2.2.1 q.2.2.2.2.2.1))) (aY 32 .i64 .i64) res):=by
 refine Does.of_body bA Tryz.func86 (by kernel_rfl) rfl (nl rfl) (fun Bw w0=> ?_)
 unfold T9 at h
 refine G (G (aF (kT h (fun(p34,p35,p36,p37,p38,p39,p40,p41,p42)=>aM [(0,.adr 0 0 10 0),(2,.mp 5),(3,.mp 6)] (aGv p1 p34 p36 p37 p41 p42 p40 p35 p38 p39 (fJ .str (fJ .str (fJ .str ([]:List Z4) ([107,101,101,112]:List UInt8) (0:Int)) ([109,97,121]:List UInt8) (1:Int)) ([109,117,115,116]:List UInt8) (2:Int))) 7 2) (dH (eJ Tryz.f86.ntmps 0 (fun(v19,v20,v21,v22,v23,v24,v25,v26,v27)=>aM [] (aDz p1 v19 v21 v22 v26 v27 v25 v20 v23 v24) 5 2)) (tL (aY 32 .i64 .i64))) (gg [.nilC 0 2 106 9 .str,.nilC 0 5 107 3 (.int .i64),.nilC 0 6 108 185 (.prod (.int .u8) Y8)] [0,1,106,107,108,2,58]) (fun y o h=> ?_) (fun r234 h e σ' hq=> ?_))))
 ·obtain⟨p34,p35,p36,p37,p38,p39,p40,p41,p42⟩:=y
  unfold D1 at h
  refine aC (aC ?_)
  obtain⟨z78,q78,h⟩:=aG h
  rcases z78 with⟨r196,r197⟩ | ⟨e159,e160⟩
  ·refine l4 1 [0,2,3,4,1] (bR q78) (aA (aO h (fun hb76 h=> ?_) (fun hb76 h=> ?_)))
   ·refine aB (aA (aF (aC ?_)))
    obtain⟨z80,q80,h⟩:=aG h
    rcases z80 with⟨r201,r202,r203⟩ | ⟨e163,e164⟩
    ·refine l4 1 [0,2,3,4,1] (dF q80) (aA (aC ?_))
     rcases aR h with⟨hb81,h⟩ | ⟨hb81,h⟩
     ·refine bO ⟨[],[(2,⟨.unk,[],false,[],[0],[],none⟩)]⟩ [(2,2,oc (And.intro tt hb81))] (aA (G (F6 rfl ?_)))
      obtain⟨z82,q82,h⟩:=aG h
      rcases z82 with⟨r208,r209,r210,r211⟩ | ⟨e167,e168⟩
      ·refine l4 2 [0,2,3,4,1] (oT q82) (aJ ?_)
       exact eB h (gg [] [0,1,175,176,4,5,6])
      refine GX 2 [0,2,3,4,1] (oT q82) (fun _=> ?_)
      obtain rfl:=sI h
      refine bF (bY (aS ?_))
      exact rfl
     rcases aR h with⟨hb83,h⟩ | ⟨hb83,h⟩
     ·refine bO ⟨[],[(2,⟨.unk,[],false,[],[1],[],none⟩)]⟩ [(2,2,⟨True∧tD .str [(([99,108,97,115,115]:List UInt8),(C3 119)),(([115,101,116]:List UInt8),(C3 120)),(([106,111,105,110]:List UInt8),(C3 121)),(([116,114,101,97,116]:List UInt8),(C3 122))] r201 1,⟨trivial,⟨hb81,hb83⟩⟩⟩)] (aA (G (F6 rfl ?_)))
      obtain⟨z84,q84,h⟩:=aG h
      rcases z84 with⟨r214,r215⟩ | ⟨e171,e172⟩
      ·refine l4 2 [0,2,3,4,1] (t5 q84) (aJ ?_)
       exact eB h (gg [] [0,1,2,3,4,5,6])
      refine GX 2 [0,2,3,4,1] (t5 q84) (fun _=> ?_)
      obtain rfl:=sI h
      refine bF (bY (aS ?_))
      exact rfl
     rcases aR h with⟨hb85,h⟩ | ⟨hb85,h⟩
     ·refine bO ⟨[],[(2,⟨.unk,[],false,[],[2],[],none⟩)]⟩ [(2,2,⟨True∧tD .str [(([99,108,97,115,115]:List UInt8),(C3 119)),(([115,101,116]:List UInt8),(C3 120)),(([106,111,105,110]:List UInt8),(C3 121)),(([116,114,101,97,116]:List UInt8),(C3 122))] r201 2,⟨trivial,⟨hb81,⟨hb83,hb85⟩⟩⟩⟩)] (aA (G (F6 rfl ?_)))
      obtain⟨z86,q86,h⟩:=aG h
      rcases z86 with⟨r219,r220,r221⟩ | ⟨e175,e176⟩
      ·refine l4 2 [0,2,3,4,1] (rK q86) (aJ ?_)
       exact eB h (gg [] [0,1,2,3,4,5,6])
      refine GX 2 [0,2,3,4,1] (rK q86) (fun _=> ?_)
      obtain rfl:=sI h
      refine bF (bY (aS ?_))
      exact rfl
     rcases aR h with⟨hb87,h⟩ | ⟨hb87,h⟩
     ·refine bO ⟨[],[(2,⟨.unk,[],false,[],[3],[],none⟩)]⟩ [(2,2,⟨True∧tD .str [(([99,108,97,115,115]:List UInt8),(C3 119)),(([115,101,116]:List UInt8),(C3 120)),(([106,111,105,110]:List UInt8),(C3 121)),(([116,114,101,97,116]:List UInt8),(C3 122))] r201 3,⟨trivial,⟨hb81,⟨hb83,⟨hb85,hb87⟩⟩⟩⟩⟩)] (aA (G (F6 rfl ?_)))
      obtain⟨z88,q88,h⟩:=aG h
      rcases z88 with⟨r224,r225⟩ | ⟨e179,e180⟩
      ·refine l4 2 [0,2,3,4,1] (pW q88) (aJ ?_)
       exact eB h (gg [] [0,1,2,3,4,5,6])
      refine GX 2 [0,2,3,4,1] (pW q88) (fun _=> ?_)
      obtain rfl:=sI h
      refine bF (bY (aS ?_))
      exact rfl
     refine bO ⟨[],[(2,⟨.unk,[],false,[],[4],[],none⟩)]⟩ [(2,2,⟨True∧tD .str [(([99,108,97,115,115]:List UInt8),(C3 119)),(([115,101,116]:List UInt8),(C3 120)),(([106,111,105,110]:List UInt8),(C3 121)),(([116,114,101,97,116]:List UInt8),(C3 122))] r201 4,⟨trivial,⟨hb81,⟨hb83,⟨hb85,⟨hb87,trivial⟩⟩⟩⟩⟩⟩)] (aA (G (aCw rfl (G (G (aO h (fun hb89 h=> ?_) (fun hb89 h=> ?_)))))))
     ·obtain⟨z90,q90,h⟩:=aG h
      rcases z90 with⟨r230,r231,r232,r233⟩ | ⟨e183,e184⟩
      ·refine l4 3 [0,2,3,4,1] (rT q90) (aJ ?_)
       exact eB h (gg [] [0,1,2,3,255,5,6])
      refine GX 3 [0,2,3,4,1] (rT q90) (fun _=> ?_)
      obtain rfl:=sI h
      refine bF (bY (aS ?_))
      exact rfl
     obtain⟨z92,q92,h⟩:=aG h
     rcases z92 with _ | ⟨e187,e188⟩
     ·cases h
     refine GX 2 [0,2,3,4,1] (cD q92) (fun _=> ?_)
     obtain rfl:=sI h
     refine bF (bY (aS ?_))
     exact rfl
    refine GX 1 [0,2,3,4,1] (dF q80) (fun _=> ?_)
    obtain rfl:=sI h
    refine aN (bF (bY (aS ?_)))
    exact rfl
   refine aH (aX ?_)
   obtain rfl:=sI h
   refine dL (bL ?_)
   exact bZ (gg [] [0,1,2,3,4])
  refine GX 1 [0,2,3,4,1] (bR q78) (fun _=> ?_)
  obtain rfl:=sI h
  refine aN (aN (bY (aS ?_)))
  exact rfl
 rcases r234 with⟨v19,v20,v21,v22,v23,v24,v25,v26,v27⟩ | ⟨e155,e156⟩
 ·obtain⟨rfl,hle⟩:=hq
  refine cR ?_ hle
  refine aI ?_
  obtain rfl:=sI h
  exact(aT [] [] [0,1,2,3,4] [] (aDz p1 v19 v21 v22 v26 v27 v25 v20 v23 v24) 5 2 (by kernel_rfl) (by kernel_rfl) (by kernel_rfl)).normal
 obtain rfl:=hq
 refine bF ?_
 obtain rfl:=sI h
 exact rfl
theorem tG(e1 e2:Int):Catches Tryz.prog 84 [.adr 0 0 5 0,.adr 1 0 2 0] (ob3 (0:Int) (0:Int) (0:Int) (0:Int)) (ob3 (0:Int) (0:Int) e1 e2) (aY 32 .i64 .i64 (e1,e2)):=by
 refine Catches.of_body (nx:=2) (pn:=2) Tryz.func84 rfl rfl rfl rfl rfl rfl rfl rfl (by kernel_rfl) rfl (fun Bw w0=> ?_)
 have h:some ()=some ():=rfl
 refine GN a0 [(1,1,⟨∃ms,Tryz.prog.underlying 20=some (.interface ms),⟨_,rfl⟩⟩)] (F6 rfl (GN a0 [(1,1,⟨∃d,Tryz.prog.underlying 32=some d∧(match d with | .interface _=>false | _=>true)=true,⟨_,rfl,rfl⟩⟩)] (aC (G (aCw rfl (aB (aA (qY a0 [] ?_))))))))
 exact eN h (gg [] [0,1])
theorem t0:aDa Tryz.prog 84 2:=by
 intro vals w hv
 obtain⟨v2,v3,rfl⟩:∃v2 v3,vals = #[v2,v3]:=by
  match hq:vals.toList with
  | [a,b]=>exact⟨a,b,Array.ext' hq⟩
  | []=>have:=congrArg List.length hq;simp[hv]at this
  | [_]=>have:=congrArg List.length hq;simp[hv]at this
  | _::_::_::_=>have:=congrArg List.length hq;simp[hv]at this
 refine callsD_of_wpS Tryz.func84 rfl fun c₀ cs hu=> ?_
 apply wpS_seq
 apply wpS_region
 simp[wpOpsS,go_sem,recoverD,hu,Tryz.ntmps84,Exit.thenS]
 apply wpS_seq
 apply wpS_region
 simp[wpOpsS,go_sem,Exit.thenS,Act.eval,Act.put]
 refine wpS_cond (t:=false) (by simp[Act.eval,Array.replicate]) ?_
 simp only[Bool.false_eq_true,if_false]
 refine wpS_of_wp (wp_skip ?_)
 cases c₀
 simp_all [bodyPostS,results,Tryz.results84]
def lU(text1:List UInt8):Option ((Z14×Int×Int)⊕(Int×Int)) :=
 (if(decide ((text1.length:Int) > (4096:Int)))=true then((aAq (24:Int) (4096:Int) text1 (0:Int) (0:Int) (0:Int) (0:Int) (0:Int) ([]:List Z4)).bind fun(z2:(Unit)⊕(Int×Int))=>match z2 with
 | .inr (e3,e4)=>some (Sum.inr (e3,e4))
 | .inl _=>none)
 else((T9 text1 (0:Int) (0:Int) (0:Int) (0:Int) (0:Int) ([]:List Z4)).bind fun(z4:Z11⊕(Int×Int))=>match z4 with
 | .inr (e7,e8)=>some (Sum.inr (e7,e8))
 | .inl (r10,r11,r12,r13,r14,r15,r16,r17,r18)=>some (Sum.inl ((r11,(r12,(r13,(r14,r15)))),((0:Int),(0:Int))))))
def yC:(Z14×Int×Int)⊕(Int×Int)→Z14×Int×Int
 | .inl x=>x
 | .inr e=>((([]:List (List UInt8)),((0:Int),((0:Int),(([]:List Int),([]:List Z6))))),(e.1,e.2))
def pA(text1:List UInt8):Option (Z14×Int×Int):=(lU text1).map yC
theorem wZ(text1:List UInt8)(res:(Z14×Int×Int)⊕(Int×Int))(h:lU text1=some res):
  Pure Tryz.prog 51 [.st text1] (aU (bN false (aDl (fun(q:Z14×Int×Int)=>([⟨Y11,q.1⟩,⟨Y2,q.2⟩]:List (Σ T:Ty,T.den))) (fun(e:Int×Int)=>([⟨Y11,(([]:List (List UInt8)),((0:Int),((0:Int),(([]:List Int),([]:List Z6)))))⟩,⟨Y2,(e.1,e.2)⟩]:List (Σ T:Ty,T.den))) res))):=by
 refine Pure.of_defer (args:=[.st text1]) (gd:=84) (fnd:=Tryz.f84) (l:=[(0,.st text1),(2,.adr 0 0 5 0),(3,.adr 1 0 2 0),(4,.adr 2 0 10 0)]) (m:=(ob1 (0:Int) (0:Int) (0:Int) (0:Int) text1 (0:Int) (0:Int) (0:Int) (0:Int) (0:Int) ([]:List Z4))) (nx:=4) (s2:=5) (s3:=2) (lp:=[(2,.adr 0 0 5 0),(3,.adr 1 0 2 0)]) (mp:=(ob3 (0:Int) (0:Int) (0:Int) (0:Int))) (nxp:=2) (fv:=aY 32 .i64 .i64) (hin:=(ob3 (0:Int) (0:Int) (0:Int) (0:Int))) (hout:=fun e=>(ob3 (0:Int) (0:Int) e.1 e.2)) (t2:=2) (t3:=3) (d:=9) bA Tryz.func51 (by kernel_rfl) Tryz.func84 (by kernel_rfl) rfl rfl rfl rfl rfl rfl rfl rfl (nl rfl) rfl rfl (by decide) rfl rfl (by decide) (fun Bw w0=> ?_) (fun Bw w0 D=> ?_) t0 (fun e=>tG e.1 e.2) (by kernel_rfl) (fun e=>by kernel_rfl) [Y11,Y2] (fun e=>by kernel_rfl)
 ·clear h
  have h:some ()=some ():=rfl
  refine Ge (aA (Ge ?_))
  exact eN h (gg [] [0,8,40,24])
 unfold lU at h
 refine aC (G (aO h (fun hb1 h=> ?_) (fun hb1 h=> ?_)))
 ·obtain⟨z2,q2,h⟩:=aG h
  rcases z2 with _ | ⟨e3,e4⟩
  ·cases h
  have u_1:=(xK q2)
  refine aDf bA ⟨[],[(1,(oD u_1 [2,3]))]⟩ 1 (aY 32 .i64 .i64 (e3,e4)) [] [0,1] [(2,.adr 0 0 5 0),(3,.adr 1 0 2 0)] (ob3 (0:Int) (0:Int) (0:Int) (0:Int)) 2 2 [True,Dies Tryz.prog 85 [.adr 0 0 10 0,.i64 (24:Int),.i64 (4096:Int)] (ob2 text1 (0:Int) (0:Int) (0:Int) (0:Int) (0:Int) ([]:List Z4)) (aY 32 .i64 .i64 (e3,e4))] (by kernel_rfl) (by kernel_rfl) ⟨tt,(xK q2),tt⟩ (fun σ1 hle=>aN ?_)
  obtain rfl:=sI h
  exact⟨rfl,hle⟩
 refine aB (aA (aC ?_))
 obtain⟨z4,q4,h⟩:=aG h
 rcases z4 with⟨r10,r11,r12,r13,r14,r15,r16,r17,r18⟩ | ⟨e7,e8⟩
 ·refine l4 1 [2,3] (uZ q4) (aA (G (qQ [.frzC 0 0,.frzC 0 3,.frzC 0 4] (by kernel_rfl) (aL ?_))))
  obtain rfl:=sI h
  exact⟨rfl,aD [Y11,Y2] (by kernel_rfl)⟩
 have u_1:=(uZ q4)
 refine aDf bA ⟨[],[(1,(oD u_1 [2,3]))]⟩ 1 (aY 32 .i64 .i64 (e7,e8)) [] [0,1] [(2,.adr 0 0 5 0),(3,.adr 1 0 2 0)] (ob3 (0:Int) (0:Int) (0:Int) (0:Int)) 2 2 [True,Dies Tryz.prog 86 [.adr 0 0 10 0] (ob2 text1 (0:Int) (0:Int) (0:Int) (0:Int) (0:Int) ([]:List Z4)) (aY 32 .i64 .i64 (e7,e8))] (by kernel_rfl) (by kernel_rfl) ⟨tt,(uZ q4),tt⟩ (fun σ1 hle=>aN ?_)
 obtain rfl:=sI h
 exact⟨rfl,hle⟩
theorem zP{text1:List UInt8}{res:Z14×Int×Int}(h:pA text1=some res):
  Pure Tryz.prog 51 [.st text1] (aU (bN false [⟨Y11,res.1⟩,⟨Y2,res.2⟩])):=by
 unfold pA at h
 obtain⟨r,hr,rfl⟩:=Option.map_eq_some_iff.1 h
 have:=wZ  text1 r hr
 cases r with
 | inl x=>exact this
 | inr e=>exact this
def t6(e1:Int)(e3:List Tree)(rec_auto_Turn:Int→Int→(List Tree)→Option (Tree)):((List Tree)×Int)→Option (((List Tree)×Int)⊕(List Tree)):=fun(out2,v2) =>
 (if(decide (v2<(e3.length:Int)))=true then(if 0≤v2∧v2<(e3.length:Int)then(((if(e1 == (2:Int))=true then(if 0≤(IntKind.i64.wrap ((IntKind.i64.wrap ((e3.length:Int) - (1:Int))) - v2))∧(IntKind.i64.wrap ((IntKind.i64.wrap ((e3.length:Int) - (1:Int))) - v2))<(e3.length:Int)then some (((e3.getD ((IntKind.i64.wrap ((IntKind.i64.wrap ((e3.length:Int) - (1:Int))) - v2)).toNat) (Tree.node 0 0 [])).op,(e3.getD ((IntKind.i64.wrap ((IntKind.i64.wrap ((e3.length:Int) - (1:Int))) - v2)).toNat) (Tree.node 0 0 [])).set,(e3.getD ((IntKind.i64.wrap ((IntKind.i64.wrap ((e3.length:Int) - (1:Int))) - v2)).toNat) (Tree.node 0 0 [])).kids))else none)
 else some (((e3.getD v2.toNat (Tree.node 0 0 [])).op,(e3.getD v2.toNat (Tree.node 0 0 [])).set,(e3.getD v2.toNat (Tree.node 0 0 [])).kids)))).bind fun(k7,k8,k9)=>((rec_auto_Turn k7 k8 k9).bind fun r9 =>
 (if(out2.length+([(Tree.node r9.op r9.set r9.kids)]:List Tree).length)*32≤140737488355328∧out2.length+([(Tree.node r9.op r9.set r9.kids)]:List Tree).length≤9223372036854775807 then some (Sum.inl ((out2++([(Tree.node r9.op r9.set r9.kids)]:List Tree)),(IntKind.i64.wrap (v2+(1:Int)))))else none)))else none)
 else some (Sum.inr out2))
def qA(rec_auto_Turn:Int→Int→(List Tree)→Option (Tree))(e1 e2:Int)(e3:List Tree):Option (Tree) :=
 ((iter (t6 e1 e3 rec_auto_Turn) (([]:List Tree),(0:Int))).bind fun out3=>some (Tree.node e1 e2 out3))
def qM:Nat→Int→Int→(List Tree)→Option (Tree)
 | 0=>fun _ _ _=>none
 | n+1=>qA (qM n)
theorem zJ(rec_auto_Turn:Int→Int→(List Tree)→Option (Tree))(hrec_auto_Turn:∀(β2:Bool) {e1:Int} {e2:Int} {e3:List Tree} {res:Tree},rec_auto_Turn e1 e2 e3=some res→Pure Tryz.prog 87 [.agg [.u8 e1,.u32 e2,.p β2 (.slice (.tree .u8 .u32)) e3]] (aU (bN false [⟨(.tree .u8 .u32),res⟩])))(β2:Bool){e1:Int}{e2:Int}{e3:List Tree}{res:Tree}(h:qA rec_auto_Turn e1 e2 e3=some res):
  Pure Tryz.prog 87 [.agg [.u8 e1,.u32 e2,.p β2 (.slice (.tree .u8 .u32)) e3]] (aU (bN false [⟨(.tree .u8 .u32),res⟩])):=by
 refine Pure.of_body bA Tryz.func87 (by kernel_rfl) rfl (nl rfl) (fun Bw w0=> ?_) rfl
 unfold qA at h
 refine G (G (aC (G (aF (dC h (fun(out2,v2)=>aM [(1,.adr 0 0 3 0),(2,.adr 1 0 3 0),(3,.adr 2 0 3 0),(13,.i64 (e3.length:Int)),(14,.i64 v2)] (aGk e1 e2 β2 e3 (0:Int) (0:Int) e1 e2 out2) 4) 0 (fun out3=>aM [(2,.adr 0 0 3 0),(3,.adr 1 0 3 0)] (aGG (0:Int) (0:Int) e1 e2 out3) 3) (gg [.nilC 56 2 104 183 (.tree .u8 .u32)] [0,8,56,104]) (fun y o h=> ?_) (fun out3 h=> ?_))))))
 ·obtain⟨out2,v2⟩:=y
  unfold t6 at h
  refine G (aC (aO h (fun hb7 h=> ?_) (fun hb7 h=> ?_)))
  ·refine aB (aA (aC (aF (G (GC 3 h (fun h=>aC (G (bT h (fun(k7,k8,k9)=>aM [(1,.adr 0 0 3 0),(2,.adr 1 0 3 0),(3,.adr 2 0 3 0),(5,.adr 4 0 3 0),(13,.i64 (e3.length:Int)),(14,.i64 v2)] (aFW e1 e2 β2 e3 (0:Int) (0:Int) e1 e2 out2 k7 k8 β2 k9) 5) (fun r7 h=> ?_) (fun r7 h=> ?_)))))))))
   ·refine aO h (fun hb9 h=> ?_) (fun hb9 h=> ?_)
    ·refine K5 8 h (fun h=> ?_)
     exact eN h (gg [] [0,1,2,3,68])
    refine aB ?_
    exact eN h (gg [] [0,1,2,3,68])
   obtain⟨k7,k8,k9⟩:=r7
   refine aA ?_
   obtain⟨r9,q6,h⟩:=aG h
   obtain⟨c24,h⟩:=aQ h
   have u_1:=(hrec_auto_Turn β2 q6)
   refine qY ⟨[],[(3,(oP u_1))]⟩ [(3,3,oc u_1),(5,5,oc c24)] (aJ (aA (Ge ?_)))
   exact eB h (gg [] [0,1,2,45])
  refine aH (aX ?_)
  exact eX h (gg [] [1,2,3])
 refine aI (aA (G (qQ [.frzC 0 2] (by kernel_rfl) (aL ?_))))
 obtain rfl:=sI h
 exact aD [(.tree .u8 .u32)] (by kernel_rfl)
theorem sY:∀(n:Nat) (β2:Bool) {e1:Int} {e2:Int} {e3:List Tree} {res:Tree},qM n e1 e2 e3=some res→Pure Tryz.prog 87 [.agg [.u8 e1,.u32 e2,.p β2 (.slice (.tree .u8 .u32)) e3]] (aU (bN false [⟨(.tree .u8 .u32),res⟩]))
 | 0,_,_,_,_,_,h=>by cases h
 | n+1,β2,e1,e2,e3,res,h=>zJ (qM n) (sY n) β2 h
def jE(i1:Int)(s1:Bool)(s2 s3 s4 s5 s6 s7 s8 s9:Int):Option Z2 :=
 (if ¬(64:Int)=0 then(if 0≤(IntKind.i64.wrap (Int.tdiv i1 (64:Int)))∧(IntKind.i64.wrap (Int.tdiv i1 (64:Int)))<((4:Nat):Int)then(if ¬(64:Int)=0 then(if 0≤(Int.tmod i1 (64:Int))then(if 0≤(IntKind.i64.wrap (Int.tdiv i1 (64:Int)))∧(IntKind.i64.wrap (Int.tdiv i1 (64:Int)))<((4:Nat):Int)then some ((if(IntKind.i64.wrap (Int.tdiv i1 (64:Int))).toNat=0 then(aZ .or .u64 (([s2,s3,s4,s5]:List Int).getD ((IntKind.i64.wrap (Int.tdiv i1 (64:Int))).toNat) 0) (IntKind.u64.wrap ((1:Int)*2 ^ (min (Int.tmod i1 (64:Int)).toNat IntKind.u64.bits))))else s2),(if(IntKind.i64.wrap (Int.tdiv i1 (64:Int))).toNat=1 then(aZ .or .u64 (([s2,s3,s4,s5]:List Int).getD ((IntKind.i64.wrap (Int.tdiv i1 (64:Int))).toNat) 0) (IntKind.u64.wrap ((1:Int)*2 ^ (min (Int.tmod i1 (64:Int)).toNat IntKind.u64.bits))))else s3),(if(IntKind.i64.wrap (Int.tdiv i1 (64:Int))).toNat=2 then(aZ .or .u64 (([s2,s3,s4,s5]:List Int).getD ((IntKind.i64.wrap (Int.tdiv i1 (64:Int))).toNat) 0) (IntKind.u64.wrap ((1:Int)*2 ^ (min (Int.tmod i1 (64:Int)).toNat IntKind.u64.bits))))else s4),(if(IntKind.i64.wrap (Int.tdiv i1 (64:Int))).toNat=3 then(aZ .or .u64 (([s2,s3,s4,s5]:List Int).getD ((IntKind.i64.wrap (Int.tdiv i1 (64:Int))).toNat) 0) (IntKind.u64.wrap ((1:Int)*2 ^ (min (Int.tmod i1 (64:Int)).toNat IntKind.u64.bits))))else s5))else none)else none)else none)else none)else none)
theorem sO{i1:Int}{s1:Bool}{s2:Int}{s3:Int}{s4:Int}{s5:Int}{s6:Int}{s7:Int}{s8:Int}{s9:Int}{res:Int×Int×Int×Int}(h:jE i1 s1 s2 s3 s4 s5 s6 s7 s8 s9=some res):
  Owns Tryz.prog 130 [.adr 0 0 9 1,.i64 i1] (aDE s1 s2 s3 s4 s5 s6 s7 s8 s9) (.tup []) (aDE s1 res.1 res.2.1 res.2.2.1 res.2.2.2 s6 s7 s8 s9):=by
 refine Owns.of_body bA Tryz.func130 (by kernel_rfl) rfl (nl rfl) (fun Bw w0=> ?_)
 unfold jE at h
 obtain⟨c16,c17,c18,c19,h⟩:=g4 h
 obtain⟨c20,h⟩:=aQ h
 refine qY a0 [(2,2,oc c16),(4,4,oc c17),(7,7,oc c18),(8,8,oc c19),(11,11,oc c20)] ?_
 obtain rfl:=sI h
 exact(aT [] [] [0] [] (aDE s1 (if(IntKind.i64.wrap (Int.tdiv i1 (64:Int))).toNat=0 then(aZ .or .u64 (([s2,s3,s4,s5]:List Int).getD ((IntKind.i64.wrap (Int.tdiv i1 (64:Int))).toNat) 0) (IntKind.u64.wrap ((1:Int)*2 ^ (min (Int.tmod i1 (64:Int)).toNat IntKind.u64.bits))))else s2) (if(IntKind.i64.wrap (Int.tdiv i1 (64:Int))).toNat=1 then(aZ .or .u64 (([s2,s3,s4,s5]:List Int).getD ((IntKind.i64.wrap (Int.tdiv i1 (64:Int))).toNat) 0) (IntKind.u64.wrap ((1:Int)*2 ^ (min (Int.tmod i1 (64:Int)).toNat IntKind.u64.bits))))else s3) (if(IntKind.i64.wrap (Int.tdiv i1 (64:Int))).toNat=2 then(aZ .or .u64 (([s2,s3,s4,s5]:List Int).getD ((IntKind.i64.wrap (Int.tdiv i1 (64:Int))).toNat) 0) (IntKind.u64.wrap ((1:Int)*2 ^ (min (Int.tmod i1 (64:Int)).toNat IntKind.u64.bits))))else s4) (if(IntKind.i64.wrap (Int.tdiv i1 (64:Int))).toNat=3 then(aZ .or .u64 (([s2,s3,s4,s5]:List Int).getD ((IntKind.i64.wrap (Int.tdiv i1 (64:Int))).toNat) 0) (IntKind.u64.wrap ((1:Int)*2 ^ (min (Int.tmod i1 (64:Int)).toNat IntKind.u64.bits))))else s5) s6 s7 s8 s9) 1 1 (by kernel_rfl) (by kernel_rfl) (by kernel_rfl)).normal
def hN(s1 s2 s3 s4 i1:Int):Option (Bool) :=
 (if ¬(64:Int)=0 then(if 0≤(IntKind.i64.wrap (Int.tdiv i1 (64:Int)))∧(IntKind.i64.wrap (Int.tdiv i1 (64:Int)))<((4:Nat):Int)then(if ¬(64:Int)=0 then(if 0≤(Int.tmod i1 (64:Int))then some ((aZ .and .u64 (Int.fdiv (([s1,s2,s3,s4]:List Int).getD ((IntKind.i64.wrap (Int.tdiv i1 (64:Int))).toNat) 0) (2 ^ (min (Int.tmod i1 (64:Int)).toNat IntKind.u64.bits))) (1:Int)) == (1:Int))else none)else none)else none)else none)
theorem gG{s1:Int}{s2:Int}{s3:Int}{s4:Int}{i1:Int}{res:Bool}(h:hN s1 s2 s3 s4 i1=some res):
  Pure Tryz.prog 128 [.agg [.u64 s1,.u64 s2,.u64 s3,.u64 s4],.i64 i1] (aU (bN false [⟨.bool,res⟩])):=by
 refine Pure.of_body bA Tryz.func128 (by kernel_rfl) rfl (nl rfl) (fun Bw w0=> ?_) rfl
 unfold hN at h
 refine G ?_
 obtain⟨c5,c6,c7,c8,h⟩:=g4 h
 refine GN a0 [(1,1,oc c5),(2,2,oc c6),(5,5,oc c7),(6,6,oc c8)] (aL ?_)
 obtain rfl:=sI h
 exact aD [.bool] (by kernel_rfl)
def pP(o1 o2 o3 o4:Int):(Int×Int×Int×Int×Int)→Option ((Int×Int×Int×Int×Int)⊕Z2):=fun(s9,s10,s11,s12,v2) =>
 (if(decide (v2<(4:Int)))=true then(if 0≤v2∧v2<((4:Nat):Int)then(if 0≤v2∧v2<((4:Nat):Int)then(if 0≤v2∧v2<((4:Nat):Int)then some (Sum.inl ((if v2.toNat=0 then(aZ .or .u64 (([s9,s10,s11,s12]:List Int).getD v2.toNat 0) (([o1,o2,o3,o4]:List Int).getD v2.toNat 0))else s9),(if v2.toNat=1 then(aZ .or .u64 (([s9,s10,s11,s12]:List Int).getD v2.toNat 0) (([o1,o2,o3,o4]:List Int).getD v2.toNat 0))else s10),(if v2.toNat=2 then(aZ .or .u64 (([s9,s10,s11,s12]:List Int).getD v2.toNat 0) (([o1,o2,o3,o4]:List Int).getD v2.toNat 0))else s11),(if v2.toNat=3 then(aZ .or .u64 (([s9,s10,s11,s12]:List Int).getD v2.toNat 0) (([o1,o2,o3,o4]:List Int).getD v2.toNat 0))else s12),(IntKind.i64.wrap (v2+(1:Int)))))else none)else none)else none)
 else some (Sum.inr (s9,s10,s11,s12)))
def cW(s1 s2 s3 s4 o1 o2 o3 o4:Int):Option Z2 :=
 ((iter (pP o1 o2 o3 o4) (s1,s2,s3,s4,(0:Int))).bind fun(s13,s14,s15,s16)=>some (s13,(s14,(s15,s16))))
theorem cL{s1:Int}{s2:Int}{s3:Int}{s4:Int}{o1:Int}{o2:Int}{o3:Int}{o4:Int}{res:Int×Int×Int×Int}(h:cW s1 s2 s3 s4 o1 o2 o3 o4=some res):
  Pure Tryz.prog 127 [.agg [.u64 s1,.u64 s2,.u64 s3,.u64 s4],.agg [.u64 o1,.u64 o2,.u64 o3,.u64 o4]] (aU (bN false [⟨kX,res⟩])):=by
 refine Pure.of_body bA Tryz.func127 (by kernel_rfl) rfl (nl rfl) (fun Bw w0=> ?_) rfl
 unfold cW at h
 refine G (aC (G (aF (dC h (fun(s9,s10,s11,s12,v2)=>aM [(2,.adr 0 0 4 0),(3,.adr 1 0 4 0),(4,.adr 2 0 4 0),(6,.i64 v2)] (aGM s9 s10 s11 s12 o1 o2 o3 o4 (0:Int) (0:Int) (0:Int) (0:Int)) 3) 0 (fun(s13,s14,s15,s16)=>aM [(2,.adr 0 0 4 0),(4,.adr 1 0 4 0)] (aEY s13 s14 s15 s16 (0:Int) (0:Int) (0:Int) (0:Int)) 2) (gg [] [0,8,16]) (fun y o h=> ?_) (fun r1 h=> ?_)))))
 ·obtain⟨s9,s10,s11,s12,v2⟩:=y
  unfold pP at h
  refine G (aC (aO h (fun hb3 h=> ?_) (fun hb3 h=> ?_)))
  ·refine aB (aA (aC (aF (G ?_))))
   obtain⟨c16,c17,c18,h⟩:=g3 h
   refine qY a0 [(1,1,oc c16),(4,4,oc c17),(7,7,oc c18)] (aJ (aA (Ge ?_)))
   exact eB h (gg [] [0,1,2])
  refine aH (aX ?_)
  exact eX h (gg [] [0,2])
 obtain⟨s13,s14,s15,s16⟩:=r1
 refine aI (aA (G (aL ?_)))
 obtain rfl:=sI h
 exact aD [kX] (by kernel_rfl)
def hZ(from1 from2 from3 from4 to1 to2 to3 to4:Int)(o2:List Z2):((List Z2)×Int)→Option (((List Z2)×Int)⊕(List Z2)):=fun(m10,v6) =>
 (if(decide (v6<(o2.length:Int)))=true then((hN from1 from2 from3 from4 v6).bind fun r32 =>
 (((if r32=true then(if 0≤v6∧v6<(m10.length:Int)then(if v6.toNat<m10.length then((cW ((m10.getD v6.toNat ((0:Int),((0:Int),((0:Int),(0:Int))))).1) ((m10.getD v6.toNat ((0:Int),((0:Int),((0:Int),(0:Int))))).2.1) ((m10.getD v6.toNat ((0:Int),((0:Int),((0:Int),(0:Int))))).2.2.1) ((m10.getD v6.toNat ((0:Int),((0:Int),((0:Int),(0:Int))))).2.2.2) to1 to2 to3 to4).bind fun r36 =>
 (if 0≤v6∧v6<(m10.length:Int)then(if v6.toNat<m10.length then some ((m10.set v6.toNat (r36.1,(r36.2.1,(r36.2.2.1,r36.2.2.2)))))else none)else none))else none)else none)
 else some (m10))).bind fun m11=>some (Sum.inl (m11,(IntKind.i64.wrap (v6+(1:Int)))))))
 else some (Sum.inr m10))
def eR(from1 from2 from3 from4 to1 to2 to3 to4:Int)(m1:Bool)(o1:List Int)(o2:List Z2):Option (List Z2) :=
 ((iter (hZ from1 from2 from3 from4 to1 to2 to3 to4 o2) (o2,(0:Int))).bind fun v7=>some v7)
theorem hY{from1:Int}{from2:Int}{from3:Int}{from4:Int}{to1:Int}{to2:Int}{to3:Int}{to4:Int}{m1:Bool}{o1:List Int}{o2:List Z2}{res:List Z2}(h:eR from1 from2 from3 from4 to1 to2 to3 to4 m1 o1 o2=some res):
  Owns Tryz.prog 171 [.adr 0 0 3 0,.agg [.u64 from1,.u64 from2,.u64 from3,.u64 from4],.agg [.u64 to1,.u64 to2,.u64 to3,.u64 to4]] (W6 m1 o1 o2) (.tup []) (W6 m1 o1 res):=by
 refine Owns.of_body bA Tryz.func171 (by kernel_rfl) rfl (nl rfl) (fun Bw w0=> ?_)
 unfold eR at h
 refine G (G (aF (dC h (fun(m10,v6)=>aM [(0,.adr 0 0 3 0),(4,.adr 3 0 4 0),(5,.adr 4 0 4 0),(11,.i64 (o2.length:Int)),(12,.i64 v6)] (aFk m1 o1 m10 from1 from2 from3 from4 to1 to2 to3 to4) 5 3) 0 (fun v7=>aM [] (W6 m1 o1 v7) 3 3) (gg [] [0,1,2,3,11]) (fun y o h=> ?_) (fun v7 h=> ?_))))
 ·obtain⟨m10,v6⟩:=y
  unfold hZ at h
  refine G (aC (aO h (fun hb16 h=> ?_) (fun hb16 h=> ?_)))
  ·refine aB (aA (aC (aF (G ?_))))
   obtain⟨r32,q32,h⟩:=aG h
   refine GP 2 (gG q32) (bT h (fun m11=>aM [(0,.adr 0 0 3 0),(4,.adr 3 0 4 0),(5,.adr 4 0 4 0),(11,.i64 (o2.length:Int)),(12,.i64 v6)] (aFk m1 o1 m11 from1 from2 from3 from4 to1 to2 to3 to4) 5 3) (fun m11 h=> ?_) (fun m11 h=> ?_))
   ·refine aO h (fun hb18 h=> ?_) (fun hb18 h=> ?_)
    ·obtain⟨c93,c94,h⟩:=g2 h
     obtain⟨r36,q36,h⟩:=aG h
     obtain⟨c95,c96,h⟩:=g2 h
     have u_1:=(cL q36)
     refine qY ⟨[],[(13,(oP u_1))]⟩ [(10,10,oc c93),(11,11,oc c94),(13,13,oc u_1),(14,14,oc c95),(15,15,oc c96)] ?_
     exact eN h (gg [] [0,1,2,3,4])
    refine aB ?_
    exact eN h (gg [] [0,1,2,3,4])
   refine aJ (aA (Ge ?_))
   exact eB h (gg [] [0,1,2,3,4])
  refine aH (aX ?_)
  exact eX h (gg [] [0,1,2])
 refine aI ?_
 obtain rfl:=sI h
 exact(aT [] [] [0,1,2] [] (W6 m1 o1 v7) 3 3 (by kernel_rfl) (by kernel_rfl) (by kernel_rfl)).normal
def jN(i3:List Tree)(rec_auto_maker_of_v3:Int→Int→(List Tree)→Bool→(List Int)→(List Z2)→Option (Z9×(List Int)×(List Z2)×Bool)):((List Int)×(List Z2)×Bool×Bool×Int×Int×Int×Int×Int×Int×Int×Int×Int)→Option (((List Int)×(List Z2)×Bool×Bool×Int×Int×Int×Int×Int×Int×Int×Int×Int)⊕(Bool×Int×Int×Int×Int×Int×Int×Int×Int×(List Int)×(List Z2)×Bool)):=fun(d20,d21,d22,v148,v149,v150,v151,v152,v153,v154,v155,v156,v157) =>
 (if(decide (v157<(i3.length:Int)))=true then(if 0≤v157∧v157<(i3.length:Int)then((rec_auto_maker_of_v3 ((i3.getD v157.toNat (Tree.node 0 0 [])).op) ((i3.getD v157.toNat (Tree.node 0 0 [])).set) ((i3.getD v157.toNat (Tree.node 0 0 [])).kids) d22 d20 d21).bind fun(r209,r210,r211,r212) =>
 ((eR v153 v154 v155 v156 r209.2.1.1 r209.2.1.2.1 r209.2.1.2.2.1 r209.2.1.2.2.2 r212 r210 r211).bind fun r214 =>
 (((if v148=true then((cW v149 v150 v151 v152 r209.2.1.1 r209.2.1.2.1 r209.2.1.2.2.1 r209.2.1.2.2.2).bind fun r218 =>
 some ((r218.1,r218.2.1,r218.2.2.1,r218.2.2.2)))
 else some ((v149,v150,v151,v152)))).bind fun(v170,v171,v172,v173)=>(((if r209.1=true then((cW r209.2.2.1 r209.2.2.2.1 r209.2.2.2.2.1 r209.2.2.2.2.2 v153 v154 v155 v156).bind fun r223 =>
 some ((r223.1,r223.2.1,r223.2.2.1,r223.2.2.2)))
 else some ((r209.2.2.1,r209.2.2.2.1,r209.2.2.2.2.1,r209.2.2.2.2.2)))).bind fun(v174,v175,v176,v177)=>(((if v148=true then some (r209.1)
 else some (false))).bind fun v178=>some (Sum.inl (r210,r214,r212,v178,v170,v171,v172,v173,v174,v175,v176,v177,(IntKind.i64.wrap (v157+(1:Int))))))))))else none)
 else some (Sum.inr (v148,v149,v150,v151,v152,v153,v154,v155,v156,d20,d21,d22)))
def jP(i3:List Tree)(rec_auto_maker_of_v3:Int→Int→(List Tree)→Bool→(List Int)→(List Z2)→Option (Z9×(List Int)×(List Z2)×Bool)):((List Int)×(List Z2)×Bool×Bool×Int×Int×Int×Int×Int×Int×Int×Int×Int)→Option (((List Int)×(List Z2)×Bool×Bool×Int×Int×Int×Int×Int×Int×Int×Int×Int)⊕(Bool×Int×Int×Int×Int×Int×Int×Int×Int×(List Int)×(List Z2)×Bool)):=fun(d26,d27,d28,v198,v199,v200,v201,v202,v203,v204,v205,v206,v207) =>
 (if(decide (v207<(i3.length:Int)))=true then(if 0≤v207∧v207<(i3.length:Int)then((rec_auto_maker_of_v3 ((i3.getD v207.toNat (Tree.node 0 0 [])).op) ((i3.getD v207.toNat (Tree.node 0 0 [])).set) ((i3.getD v207.toNat (Tree.node 0 0 [])).kids) d28 d26 d27).bind fun(r263,r264,r265,r266) =>
 (((if v198=true then((cW v199 v200 v201 v202 r263.2.1.1 r263.2.1.2.1 r263.2.1.2.2.1 r263.2.1.2.2.2).bind fun r275 =>
 ((cW v203 v204 v205 v206 r263.2.2.1 r263.2.2.2.1 r263.2.2.2.2.1 r263.2.2.2.2.2).bind fun r276 =>
 some ((true,r275.1,r275.2.1,r275.2.2.1,r275.2.2.2,r276.1,r276.2.1,r276.2.2.1,r276.2.2.2))))
 else((cW v199 v200 v201 v202 r263.2.1.1 r263.2.1.2.1 r263.2.1.2.2.1 r263.2.1.2.2.2).bind fun r277 =>
 ((cW v203 v204 v205 v206 r263.2.2.1 r263.2.2.2.1 r263.2.2.2.2.1 r263.2.2.2.2.2).bind fun r278 =>
 some ((r263.1,r277.1,r277.2.1,r277.2.2.1,r277.2.2.2,r278.1,r278.2.1,r278.2.2.1,r278.2.2.2)))))).bind fun(v220,v221,v222,v223,v224,v225,v226,v227,v228)=>some (Sum.inl (r264,r265,r266,v220,v221,v222,v223,v224,v225,v226,v227,v228,(IntKind.i64.wrap (v207+(1:Int)))))))else none)
 else some (Sum.inr (v198,v199,v200,v201,v202,v203,v204,v205,v206,d26,d27,d28)))
def gI(rec_auto_maker_of_v3:Int→Int→(List Tree)→Bool→(List Int)→(List Z2)→Option (Z9×(List Int)×(List Z2)×Bool))(i1 i2:Int)(i3:List Tree)(d1:Bool)(o1:List Int)(o2:List Z2):Option (Z9×(List Int)×(List Z2)×Bool) :=
 (if(i1 == (1:Int))=true then(if(decide ((o1.length:Int)≥(200:Int)))=true then some ((false,(((0:Int),((0:Int),((0:Int),(0:Int)))),((0:Int),((0:Int),((0:Int),(0:Int)))))),o1,o2,true)
 else((jE (o1.length:Int) false (0:Int) (0:Int) (0:Int) (0:Int) (0:Int) (0:Int) (0:Int) (0:Int)).bind fun(r164,r165,r166,r167) =>
 (if(o1.length+([i2]:List Int).length)*4≤140737488355328∧o1.length+([i2]:List Int).length≤9223372036854775807 then(if(o2.length+([((0:Int),((0:Int),((0:Int),(0:Int))))]:List Z2).length)*32≤140737488355328∧o2.length+([((0:Int),((0:Int),((0:Int),(0:Int))))]:List Z2).length≤9223372036854775807 then some ((false,((r164,(r165,(r166,r167))),(r164,(r165,(r166,r167))))),(o1++([i2]:List Int)),(o2++([((0:Int),((0:Int),((0:Int),(0:Int))))]:List Z2)),d1)else none)else none)))
 else(if(i1 == (2:Int))=true then((iter (jN i3 rec_auto_maker_of_v3) (o1,o2,d1,true,(0:Int),(0:Int),(0:Int),(0:Int),(0:Int),(0:Int),(0:Int),(0:Int),(0:Int))).bind fun(v158,v159,v160,v161,v162,v163,v164,v165,v166,v167,v168,v169)=>some ((v158,((v159,(v160,(v161,v162))),(v163,(v164,(v165,v166))))),v167,v168,v169))
 else(if(i1 == (3:Int))=true then((iter (jP i3 rec_auto_maker_of_v3) (o1,o2,d1,false,(0:Int),(0:Int),(0:Int),(0:Int),(0:Int),(0:Int),(0:Int),(0:Int),(0:Int))).bind fun(v208,v209,v210,v211,v212,v213,v214,v215,v216,v217,v218,v219)=>some ((v208,((v209,(v210,(v211,v212))),(v213,(v214,(v215,v216))))),v217,v218,v219))
 else(((if(i1 == (4:Int))=true then some ((i1 == (4:Int)))
 else(if(i1 == (5:Int))=true then some ((i1 == (5:Int)))
 else some ((i1 == (6:Int)))))).bind fun v229=>(if v229=true then(((if(decide ((i3.length:Int) > (0:Int)))=true then(if 0≤(0:Int)∧(0:Int)<(i3.length:Int)then((rec_auto_maker_of_v3 ((i3.getD ((0:Int).toNat) (Tree.node 0 0 [])).op) ((i3.getD ((0:Int).toNat) (Tree.node 0 0 [])).set) ((i3.getD ((0:Int).toNat) (Tree.node 0 0 [])).kids) d1 o1 o2).bind fun(r293,r294,r295,r296) =>
 some ((r294,r295,r296,r293.1,r293.2.1.1,r293.2.1.2.1,r293.2.1.2.2.1,r293.2.1.2.2.2,r293.2.2.1,r293.2.2.2.1,r293.2.2.2.2.1,r293.2.2.2.2.2)))else none)
 else some ((o1,o2,d1,false,(0:Int),(0:Int),(0:Int),(0:Int),(0:Int),(0:Int),(0:Int),(0:Int))))).bind fun(d29,d30,d31,v230,v231,v232,v233,v234,v235,v236,v237,v238)=>(((if(i1 != (6:Int))=true then((eR v235 v236 v237 v238 v231 v232 v233 v234 d31 d29 d30).bind fun r301 =>
 some (r301))
 else some (d30))).bind fun v239=>(((if v230=true then some (true)
 else some ((i1 != (5:Int))))).bind fun v240=>some ((v240,((v231,(v232,(v233,v234))),(v235,(v236,(v237,v238))))),d29,v239,d31))))
 else some ((true,(((0:Int),((0:Int),((0:Int),(0:Int)))),((0:Int),((0:Int),((0:Int),(0:Int)))))),o1,o2,d1))))))
def fX:Nat→Int→Int→(List Tree)→Bool→(List Int)→(List Z2)→Option (Z9×(List Int)×(List Z2)×Bool)
 | 0=>fun _ _ _ _ _ _=>none
 | n+1=>gI (fX n)
theorem oC(rec_auto_maker_of_v3:Int→Int→(List Tree)→Bool→(List Int)→(List Z2)→Option (Z9×(List Int)×(List Z2)×Bool))(hrec_auto_maker_of_v3:∀(β2:Bool) {i1:Int} {i2:Int} {i3:List Tree} {d1:Bool} {o1:List Int} {o2:List Z2} {res:Z9×(List Int)×(List Z2)×Bool},rec_auto_maker_of_v3 i1 i2 i3 d1 o1 o2=some res→Owns Tryz.prog 126 [.adr 0 0 3 0,.agg [.u8 i1,.u32 i2,.p β2 (.slice (.tree .u8 .u32)) i3]] (W6 d1 o1 o2) (.agg [.bo res.1.1,.u64 res.1.2.1.1,.u64 res.1.2.1.2.1,.u64 res.1.2.1.2.2.1,.u64 res.1.2.1.2.2.2,.u64 res.1.2.2.1,.u64 res.1.2.2.2.1,.u64 res.1.2.2.2.2.1,.u64 res.1.2.2.2.2.2]) (aDu res.2.2.2 res.2.1 res.2.2.1))(β2:Bool){i1:Int}{i2:Int}{i3:List Tree}{d1:Bool}{o1:List Int}{o2:List Z2}{res:Z9×(List Int)×(List Z2)×Bool}(h:gI rec_auto_maker_of_v3 i1 i2 i3 d1 o1 o2=some res):
  Owns Tryz.prog 126 [.adr 0 0 3 0,.agg [.u8 i1,.u32 i2,.p β2 (.slice (.tree .u8 .u32)) i3]] (W6 d1 o1 o2) (.agg [.bo res.1.1,.u64 res.1.2.1.1,.u64 res.1.2.1.2.1,.u64 res.1.2.1.2.2.1,.u64 res.1.2.1.2.2.2,.u64 res.1.2.2.1,.u64 res.1.2.2.2.1,.u64 res.1.2.2.2.2.1,.u64 res.1.2.2.2.2.2]) (aDu res.2.2.2 res.2.1 res.2.2.1):=by
 refine Owns.of_body bA Tryz.func126 (by kernel_rfl) rfl (nl rfl) (fun Bw w0=> ?_)
 unfold gI at h
 refine G (aC (G (aF (G (aO h (fun hb63 h=> ?_) (fun hb63 h=> ?_))))))
 ·refine aC (G (aO h (fun hb64 h=> ?_) (fun hb64 h=> ?_)))
  ·refine G (G (aL (aE (aK (aE ?_)))))
   obtain rfl:=sI h
   exact aT [some G1] [] [0,1,2,1,2,11] [(4,.adr 5 0 9 0)] (aAD true o1 o2 false (0:Int) (0:Int) (0:Int) (0:Int) (0:Int) (0:Int) (0:Int) (0:Int)) 6 3 (by kernel_rfl) (by kernel_rfl) (by kernel_rfl)
  refine aB (aA (G ?_))
  obtain⟨⟨r164,r165,r166,r167⟩,q86,h⟩:=aG h
  refine GO 6 [99] (sO q86) (G ?_)
  obtain⟨c38,h⟩:=aQ h
  refine GD a0 [(8,8,oc c38)] (GC 7 h (fun h=>G (aL (aK (aE ?_)))))
  obtain rfl:=sI h
  exact aT [some G1] [] [0,1,2,259,347,11] [(4,.adr 5 0 9 0)] (aAD d1 (o1++([i2]:List Int)) (o2++([((0:Int),((0:Int),((0:Int),(0:Int))))]:List Z2)) false r164 r165 r166 r167 r164 r165 r166 r167) 6 3 (by kernel_rfl) (by kernel_rfl) (by kernel_rfl)
 refine G (aO h (fun hb65 h=> ?_) (fun hb65 h=> ?_))
 ·refine G (aC (G (aF (dC h (fun(d20,d21,d22,v148,v149,v150,v151,v152,v153,v154,v155,v156,v157)=>aM [(0,.adr 0 0 3 0),(4,.adr 5 0 9 0),(6,.adr 6 0 9 0),(65,.p β2 (.slice (.tree .u8 .u32)) i3),(66,.i64 (i3.length:Int)),(67,.i64 v157)] (aCy d22 d20 d21 false (0:Int) (0:Int) (0:Int) (0:Int) (0:Int) (0:Int) (0:Int) (0:Int) v148 v149 v150 v151 v152 v153 v154 v155 v156) 7 3) 1 (fun(v158,v159,v160,v161,v162,v163,v164,v165,v166,v167,v168,v169)=>aM [(4,.adr 3 0 9 0),(6,.adr 4 0 9 0)] (aDG v169 false (0:Int) (0:Int) (0:Int) (0:Int) (0:Int) (0:Int) (0:Int) (0:Int) v158 v159 v160 v161 v162 v163 v164 v165 v166 v167 v168) 7 3) (gg [] [0,1,2,1,2,11,75]) (fun y o h=> ?_) (fun r225 h=> ?_)))))
  ·obtain⟨d20,d21,d22,v148,v149,v150,v151,v152,v153,v154,v155,v156,v157⟩:=y
   unfold jN at h
   refine G (aC (aO h (fun hb78 h=> ?_) (fun hb78 h=> ?_)))
   ·refine aB (aA (aC (aF (GC 0 h (fun h=> ?_)))))
    obtain⟨⟨r209,r210,r211,r212⟩,q110,h⟩:=aG h
    refine GO 2 [0,3,4] (hrec_auto_maker_of_v3 β2 q110) ?_
    obtain⟨r214,q112,h⟩:=aG h
    refine GO 5 [0,63,64] (hY q112) (aC (G (bT h (fun(v170,v171,v172,v173)=>aM [(0,.adr 0 0 3 0),(4,.adr 5 0 9 0),(6,.adr 6 0 9 0),(9,.adr 7 0 9 0),(65,.p β2 (.slice (.tree .u8 .u32)) i3),(66,.i64 (i3.length:Int)),(67,.i64 v157)] (aFD r212 r210 r214 false (0:Int) (0:Int) (0:Int) (0:Int) (0:Int) (0:Int) (0:Int) (0:Int) v148 v170 v171 v172 v173 v153 v154 v155 v156 r209.1 r209.2.1.1 r209.2.1.2.1 r209.2.1.2.2.1 r209.2.1.2.2.2 r209.2.2.1 r209.2.2.2.1 r209.2.2.2.2.1 r209.2.2.2.2.2) 8 3) (fun r219 h=> ?_) (fun r219 h=> ?_))))
    ·refine aO h (fun hb80 h=> ?_) (fun hb80 h=> ?_)
     ·obtain⟨r218,q116,h⟩:=aG h
      refine GPe 4 (cL q116) ?_
      exact eN h (gg [] [0,1,2,63,64,5,6,71])
     refine aB ?_
     exact eN h (gg [] [0,1,2,63,64,5,6,71])
    obtain⟨v170,v171,v172,v173⟩:=r219
    refine aA (aC (G (bT h (fun(v174,v175,v176,v177)=>aM [(0,.adr 0 0 3 0),(4,.adr 5 0 9 0),(6,.adr 6 0 9 0),(9,.adr 7 0 9 0),(65,.p β2 (.slice (.tree .u8 .u32)) i3),(66,.i64 (i3.length:Int)),(67,.i64 v157)] (aFD r212 r210 r214 false (0:Int) (0:Int) (0:Int) (0:Int) (0:Int) (0:Int) (0:Int) (0:Int) v148 v170 v171 v172 v173 v153 v154 v155 v156 r209.1 r209.2.1.1 r209.2.1.2.1 r209.2.1.2.2.1 r209.2.1.2.2.2 v174 v175 v176 v177) 8 3) (fun r224 h=> ?_) (fun r224 h=> ?_))))
    ·refine aO h (fun hb82 h=> ?_) (fun hb82 h=> ?_)
     ·obtain⟨r223,q120,h⟩:=aG h
      refine GPe 4 (cL q120) ?_
      exact eN h (gg [] [0,1,2,3,4,5,6,7])
     refine aB ?_
     exact eN h (gg [] [0,1,2,3,4,5,6,7])
    obtain⟨v174,v175,v176,v177⟩:=r224
    refine aA (bT h (fun v178=>aM [(0,.adr 0 0 3 0),(4,.adr 5 0 9 0),(6,.adr 6 0 9 0),(65,.p β2 (.slice (.tree .u8 .u32)) i3),(66,.i64 (i3.length:Int)),(67,.i64 v157)] (aCy r212 r210 r214 false (0:Int) (0:Int) (0:Int) (0:Int) (0:Int) (0:Int) (0:Int) (0:Int) v178 v170 v171 v172 v173 v174 v175 v176 v177) 7 3) (fun v178 h=> ?_) (fun v178 h=> ?_))
    ·rcases aR h with⟨hb85,h⟩ | ⟨hb85,h⟩
     ·refine qY ⟨[(2,true),(5,true)],[]⟩ [(3,4,an hb85),(5,5,oc hb85)] ?_
      exact eN h (gg [] [0,1,2,3,4,5,6])
     refine qY ⟨[(2,false),(5,false)],[]⟩ [(3,5,oc hb85)] ?_
     exact eN h (gg [] [0,1,2,3,4,5,6])
    refine aJ (aA (Ge ?_))
    exact eB h (gg [] [0,1,2,3,4,5,6])
   refine aH (aX ?_)
   exact eX h (gg [] [0,1,2,5,6,3,4])
  obtain⟨v158,v159,v160,v161,v162,v163,v164,v165,v166,v167,v168,v169⟩:=r225
  refine aI (aA (G (aL (aK (aE ?_)))))
  obtain rfl:=sI h
  exact aT [some G1] [] [0,1,2,5,6,3] [(4,.adr 5 0 9 0)] (aAD v169 v167 v168 v158 v159 v160 v161 v162 v163 v164 v165 v166) 6 3 (by kernel_rfl) (by kernel_rfl) (by kernel_rfl)
 refine G (aO h (fun hb86 h=> ?_) (fun hb86 h=> ?_))
 ·refine G (aC (G (aF (dC h (fun(d26,d27,d28,v198,v199,v200,v201,v202,v203,v204,v205,v206,v207)=>aM [(0,.adr 0 0 3 0),(4,.adr 5 0 9 0),(10,.adr 6 0 9 0),(111,.p β2 (.slice (.tree .u8 .u32)) i3),(112,.i64 (i3.length:Int)),(113,.i64 v207)] (aCy d28 d26 d27 false (0:Int) (0:Int) (0:Int) (0:Int) (0:Int) (0:Int) (0:Int) (0:Int) v198 v199 v200 v201 v202 v203 v204 v205 v206) 7 3) 3 (fun(v208,v209,v210,v211,v212,v213,v214,v215,v216,v217,v218,v219)=>aM [(4,.adr 3 0 9 0),(10,.adr 4 0 9 0)] (aDG v219 false (0:Int) (0:Int) (0:Int) (0:Int) (0:Int) (0:Int) (0:Int) (0:Int) v208 v209 v210 v211 v212 v213 v214 v215 v216 v217 v218) 7 3) (gg [] [0,1,2,1,2,11,83]) (fun y o h=> ?_) (fun r280 h=> ?_)))))
  ·obtain⟨d26,d27,d28,v198,v199,v200,v201,v202,v203,v204,v205,v206,v207⟩:=y
   unfold jP at h
   refine G (aC (aO h (fun hb92 h=> ?_) (fun hb92 h=> ?_)))
   ·refine aB (aA (aC (aF (GC 0 h (fun h=> ?_)))))
    obtain⟨⟨r263,r264,r265,r266⟩,q142,h⟩:=aG h
    refine GO 2 [0,3,4] (hrec_auto_maker_of_v3 β2 q142) (bT h (fun(v220,v221,v222,v223,v224,v225,v226,v227,v228)=>aM [(0,.adr 0 0 3 0),(4,.adr 5 0 9 0),(10,.adr 6 0 9 0),(111,.p β2 (.slice (.tree .u8 .u32)) i3),(112,.i64 (i3.length:Int)),(113,.i64 v207)] (aCy r266 r264 r265 false (0:Int) (0:Int) (0:Int) (0:Int) (0:Int) (0:Int) (0:Int) (0:Int) v220 v221 v222 v223 v224 v225 v226 v227 v228) 7 3) (fun r279 h=> ?_) (fun r279 h=> ?_))
    ·rcases aR h with⟨hb95,h⟩ | ⟨hb95,h⟩
     ·obtain⟨r275,q151,h⟩:=aG h
      obtain⟨r276,q152,h⟩:=aG h
      have u_1:=(cL q151)
      have u_2:=(cL q152)
      refine qY ⟨[(2,true),(5,true)],[(10,(oP u_1)),(15,(oP u_2))]⟩ [(3,5,oc hb95),(10,10,oc u_1),(15,15,oc u_2)] ?_
      exact eN h (gg [] [0,1,2,63,64,5,6])
     obtain⟨r277,q153,h⟩:=aG h
     obtain⟨r278,q154,h⟩:=aG h
     have u_1:=(cL q153)
     have u_2:=(cL q154)
     refine qY ⟨[(2,false),(5,false)],[(10,(oP u_1)),(15,(oP u_2))]⟩ [(3,4,an hb95),(5,5,oc hb95),(10,10,oc u_1),(15,15,oc u_2)] ?_
     exact eN h (gg [] [0,1,2,63,64,5,6])
    obtain⟨v220,v221,v222,v223,v224,v225,v226,v227,v228⟩:=r279
    refine aJ (aA (Ge ?_))
    exact eB h (gg [] [0,1,2,3,4,5,6])
   refine aH (aX ?_)
   exact eX h (gg [] [0,1,2,5,6,3,4])
  obtain⟨v208,v209,v210,v211,v212,v213,v214,v215,v216,v217,v218,v219⟩:=r280
  refine aI (aA (G (aL (aK (aE ?_)))))
  obtain rfl:=sI h
  exact aT [some G1] [] [0,1,2,5,6,3] [(4,.adr 5 0 9 0)] (aAD v219 v217 v218 v208 v209 v210 v211 v212 v213 v214 v215 v216) 6 3 (by kernel_rfl) (by kernel_rfl) (by kernel_rfl)
 refine aC (G (bT h (fun v229=>aM [(0,.adr 0 0 3 0),(3,.adr 3 0 3 0),(4,.adr 4 0 9 0),(139,.bo v229)] (aGE d1 o1 o2 i1 i2 β2 i3 false (0:Int) (0:Int) (0:Int) (0:Int) (0:Int) (0:Int) (0:Int) (0:Int)) 5 3) (fun v229 h=> ?_) (fun v229 h=> ?_)))
 ·refine aO h (fun hb98 h=> ?_) (fun hb98 h=> ?_)
  ·refine aB ?_
   exact eN h (gg [] [0,1,2,3,11])
  refine G (aO h (fun hb99 h=> ?_) (fun hb99 h=> ?_))
  ·refine aB ?_
   exact eN h (gg [] [0,1,2,3,11])
  refine Ge ?_
  exact eN h (gg [] [0,1,2,3,11])
 refine aA (aO h (fun hb100 h=> ?_) (fun hb100 h=> ?_))
 ·refine G (aC (G (bT h (fun(d29,d30,d31,v230,v231,v232,v233,v234,v235,v236,v237,v238)=>aM [(0,.adr 0 0 3 0),(3,.adr 5 0 3 0),(4,.adr 6 0 9 0),(14,.adr 7 0 9 0)] (aFO d31 d29 d30 i1 i2 β2 i3 false (0:Int) (0:Int) (0:Int) (0:Int) (0:Int) (0:Int) (0:Int) (0:Int) v230 v231 v232 v233 v234 v235 v236 v237 v238) 8 3) (fun r297 h=> ?_) (fun r297 h=> ?_))))
  ·refine aO h (fun hb102 h=> ?_) (fun hb102 h=> ?_)
   ·obtain⟨c56,h⟩:=aQ h
    obtain⟨⟨r293,r294,r295,r296⟩,q158,h⟩:=aG h
    have u_1:=(hrec_auto_maker_of_v3 β2 q158)
    refine bO ⟨[],[(5,(oO u_1 [0,1,2]))]⟩ [(3,3,oc c56),(5,5,oc u_1)] ?_
    exact eN h (gg [] [0,1,2,85,86,3,4,5])
   refine aB ?_
   exact eN h (gg [] [0,1,2,1,2,3,4,5])
  obtain⟨d29,d30,d31,v230,v231,v232,v233,v234,v235,v236,v237,v238⟩:=r297
  refine aA (aC (G (bT h (fun v239=>aM [(3,.adr 3 0 3 0),(4,.adr 4 0 9 0),(14,.adr 5 0 9 0)] (aGL d31 i1 i2 β2 i3 false (0:Int) (0:Int) (0:Int) (0:Int) (0:Int) (0:Int) (0:Int) (0:Int) v230 v231 v232 v233 v234 v235 v236 v237 v238 d29 v239) 8 3) (fun v239 h=> ?_) (fun v239 h=> ?_))))
  ·refine aO h (fun hb104 h=> ?_) (fun hb104 h=> ?_)
   ·obtain⟨r301,q162,h⟩:=aG h
    refine l4 5 [0,3,4] (hY q162) ?_
    exact eN h (gg [] [0,1,2,5,6,7,3,4])
   refine aB ?_
   exact eN h (gg [] [0,1,2,5,6,7,3,4])
  refine aA (aC (bT h (fun v240=>aM [(4,.adr 3 0 9 0),(14,.adr 4 0 9 0)] (aDG d31 false (0:Int) (0:Int) (0:Int) (0:Int) (0:Int) (0:Int) (0:Int) (0:Int) v240 v231 v232 v233 v234 v235 v236 v237 v238 d29 v239) 7 3) (fun v240 h=> ?_) (fun v240 h=> ?_)))
  ·rcases aR h with⟨hb107,h⟩ | ⟨hb107,h⟩
   ·refine bO ⟨[(2,true),(6,true)],[]⟩ [(3,6,oc hb107)] ?_
    exact eN h (gg [] [0,1,2,4,5,6,7])
   refine bO ⟨[(2,false),(6,false)],[]⟩ [(3,5,an hb107),(6,6,oc hb107)] ?_
   exact eN h (gg [] [0,1,2,4,5,6,7])
  refine aA (G (aL (aK (aE ?_))))
  obtain rfl:=sI h
  exact aT [some G1] [] [0,1,2,5,6,3] [(4,.adr 5 0 9 0)] (aAD d31 d29 v239 v240 v231 v232 v233 v234 v235 v236 v237 v238) 6 3 (by kernel_rfl) (by kernel_rfl) (by kernel_rfl)
 refine aB (aJ (aA (G (aL ?_))))
 obtain rfl:=sI h
 exact aT [some G1] [] [0,1,2,1,2,4] [(4,.adr 5 0 9 0)] (aAD d1 o1 o2 true (0:Int) (0:Int) (0:Int) (0:Int) (0:Int) (0:Int) (0:Int) (0:Int)) 6 3 (by kernel_rfl) (by kernel_rfl) (by kernel_rfl)
theorem jS:∀(n:Nat) (β2:Bool) {i1:Int} {i2:Int} {i3:List Tree} {d1:Bool} {o1:List Int} {o2:List Z2} {res:Z9×(List Int)×(List Z2)×Bool},fX n i1 i2 i3 d1 o1 o2=some res→Owns Tryz.prog 126 [.adr 0 0 3 0,.agg [.u8 i1,.u32 i2,.p β2 (.slice (.tree .u8 .u32)) i3]] (W6 d1 o1 o2) (.agg [.bo res.1.1,.u64 res.1.2.1.1,.u64 res.1.2.1.2.1,.u64 res.1.2.1.2.2.1,.u64 res.1.2.1.2.2.2,.u64 res.1.2.2.1,.u64 res.1.2.2.2.1,.u64 res.1.2.2.2.2.1,.u64 res.1.2.2.2.2.2]) (aDu res.2.2.2 res.2.1 res.2.2.1)
 | 0,_,_,_,_,_,_,_,_,h=>by cases h
 | n+1,β2,i1,i2,i3,d1,o1,o2,res,h=>oC (fX n) (jS n) β2 h
def rM(a1 a2 a3 a4 b1 b2 b3 b4:Int):(Int)→Option ((Int)⊕((Unit)⊕(Bool))):=fun v2 =>
 (if(decide (v2<(4:Int)))=true then(if 0≤v2∧v2<((4:Nat):Int)then(if 0≤v2∧v2<((4:Nat):Int)then(if((aZ .and .u64 (([a1,a2,a3,a4]:List Int).getD v2.toNat 0) (([b1,b2,b3,b4]:List Int).getD v2.toNat 0)) != (0:Int))=true then some (Sum.inr (Sum.inr true))
 else some (Sum.inl (IntKind.i64.wrap (v2+(1:Int)))))else none)else none)
 else some (Sum.inr (Sum.inl ())))
def sF(a1 a2 a3 a4 b1 b2 b3 b4:Int):Option (Bool) :=
 ((iter (rM a1 a2 a3 a4 b1 b2 b3 b4) (0:Int)).bind fun(r2:((Unit)⊕(Bool)))=>match r2 with
 | .inl _=>some false
 | .inr (r1)=>some r1)
theorem A9{a1:Int}{a2:Int}{a3:Int}{a4:Int}{b1:Int}{b2:Int}{b3:Int}{b4:Int}{res:Bool}(h:sF a1 a2 a3 a4 b1 b2 b3 b4=some res):
  Pure Tryz.prog 129 [.agg [.u64 a1,.u64 a2,.u64 a3,.u64 a4],.agg [.u64 b1,.u64 b2,.u64 b3,.u64 b4]] (aU (bN false [⟨.bool,res⟩])):=by
 refine Pure.of_body bA Tryz.func129 (by kernel_rfl) rfl (nl rfl) (fun Bw w0=> ?_) rfl
 unfold sF at h
 refine G (aC (G (aF (kT h (fun v2=>aM [(2,.adr 0 0 4 0),(3,.adr 1 0 4 0),(6,.i64 v2)] (aEY a1 a2 a3 a4 b1 b2 b3 b4) 2) (dH (eJ Tryz.f129.ntmps 0 (fun _=>aM [] [] 0)) (gM tb Tryz.f129.results.toList (fun r1=>[⟨.bool,r1⟩]))) (gg [] [0,8]) (fun v2 o h=> ?_) (fun r2 h e σ' hq=> ?_)))))
 ·unfold rM at h
  refine G (aC (aO h (fun hb5 h=> ?_) (fun hb5 h=> ?_)))
  ·refine aB (aA (aC (aF (G ?_))))
   obtain⟨c11,c12,h⟩:=g2 h
   refine GD a0 [(1,1,oc c11),(4,4,oc c12)] (aO h (fun hb6 h=> ?_) (fun hb6 h=> ?_))
   ·refine G (aL ?_)
    obtain rfl:=sI h
    refine aK (aE (bW (aS ?_)))
    exact b0 (aD [.bool] (by kernel_rfl))
   refine aB (aJ (aA (Ge ?_)))
   exact eB h (gg [] [0,1])
  refine aH (aX ?_)
  obtain rfl:=sI h
  refine dL (bL ?_)
  exact bZ (gg [] [])
 rcases r2 with _ | r1
 ·obtain⟨rfl,hle⟩:=hq
  refine cR ?_ hle
  refine aI (aA (G (aL ?_)))
  obtain rfl:=sI h
  exact aD [.bool] (by kernel_rfl)
 obtain⟨rfl,hr⟩:=hq
 refine aK (aE ?_)
 obtain rfl:=sI h
 exact hr
end
end Go.Proofs.YtflahpmlcfhpcaaGreatDoor.T
