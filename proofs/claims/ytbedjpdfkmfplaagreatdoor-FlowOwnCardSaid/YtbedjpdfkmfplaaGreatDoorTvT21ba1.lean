/- Functions of the program as functions on data, and that the program's own come to them. -/
import Derived.Test.YtbedjpdfkmfplaaGreatDoorTvT21b0
namespace Go.Proofs.YtbedjpdfkmfplaaGreatDoor.T
open Go Go.Tv Go.Proofs
noncomputable section
set_option maxRecDepth 100000
set_option maxHeartbeats 4000000
def fZ  : Option ((List Z8)×(List Z8)×(List Z8)×(List Z8)×(List UInt8)×(List UInt8)×(List UInt8)×Int×Int) :=
 some (([]:List Z8),(([(10,(10,2)),(32,(32,1))]:List Z8),(([(32,(126,1))]:List Z8),(([]:List Z8),(([99,108,97,115,115,32,79,59,32,109,97,121,32,79,32,47,32,79,59]:List UInt8),(([99,108,97,115,115,32,79,32,83,32,78,59,32,107,101,101,112,32,83,32,47,32,83,59,32,109,97,121,32,83,32,47,32,46,59,32,109,117,115,116,32,78,32,47,32,46,59,32,107,101,101,112,32,46,32,47,32,46,59]:List UInt8),(([]:List UInt8),(2,2))))))))
theorem mC{res:(List Z8)×(List Z8)×(List Z8)×(List Z8)×(List UInt8)×(List UInt8)×(List UInt8)×Int×Int}(h:fZ=some res):
  Pure Tryz.prog 21 [] (aX (bJ false [⟨Y7,res⟩])):=by
 refine Pure.of_body bB Tryz.func21 (by kernel_rfl) rfl (nl rfl) (fun Bw w0=> ?_) rfl
 unfold fZ at h
 refine G (G (pV [.frzC 0 1,.frzC 0 2] (by kernel_rfl) (aL ?_)))
 obtain rfl:=sI h
 exact aD [Y7] (by kernel_rfl)
def aFu(e1 at1:Int)(p1:List UInt8)(p2 p3 p4 p5 p6:Int)(o1:List Z4):Option ((Unit)⊕(Int×Int)):=some (Sum.inr (e1,at1))
theorem X9(v:Value)(e a:Int)(w:World):
  Calls Tryz.prog 81 #[v,.int .i64 e,.int .i64 a] w fun r w'=>r = .panicked [{ v:=bC 36 .i64 .i64 (e,a),recovered:=false }]∧w'=w:=by
 go_enter Tryz.func81,Tryz.ntmps81
 go_wp2
 exact⟨rfl,rfl,rfl⟩
theorem V4{e1:Int}{at1:Int}{p1:List UInt8}{p2:Int}{p3:Int}{p4:Int}{p5:Int}{p6:Int}{o1:List Z4}{res:(Unit)⊕(Int×Int)}(h:aFu e1 at1 p1 p2 p3 p4 p5 p6 o1=some res):
  Does Tryz.prog 81 [.adr 0 0 10 0,.i64 e1,.i64 at1] (ob2 p1 p2 p3 p4 p5 p6 o1) (l0 (fun(q:Unit)=>(.tup [],[])) (bC 36 .i64 .i64) res):=by
 obtain rfl:=sI h
 exact Dies.of_calls Tryz.func81 (by kernel_rfl) rfl (fun v w=>X9 v _ _ w)
def kH(s1:List UInt8)(c1:Int):Option (Int):=some (aF7 s1 c1 0)
theorem mI(s:ByteArray)(c:Int)(w:World):
  Calls Tryz.prog 157 #[.string s,.int .u8 c] w fun e w'=>e = .returned (.int .i64 (Lib.indexByte s.data.toList c.toNat.toUInt8))∧w'=w:=by
 have hd:∀w,(callFunc 163 #[.string s,.int .u8 c]).run Tryz.prog w = .ok (.value (.int .i64 (Lib.indexByte s.data.toList c.toNat.toUInt8))) w:=fun w=>by
  rw[run_callFunc_extern (fn:=Tryz.f163) (e:=Extern.BytealgIndexByte.indexByte) Tryz.func163 (by kernel_rfl) rfl (by kernel_rfl) (by kernel_rfl),Lib.run_indexByteString]
  rfl
 go_enter Tryz.func157,Tryz.ntmps157
 go_wp2
 go_ret
 exact⟨rfl,rfl⟩
theorem pM{s1:List UInt8}{c1:Int}{res:Int}(h:kH s1 c1=some res):
  Pure Tryz.prog 157 [.st s1,.u8 c1] (aX (bJ false [⟨(.int .i64),res⟩])):=by
 obtain rfl:=sI h
 exact Pure.of_idx Tryz.func157 (by kernel_rfl) rfl (fun s w=>mI s _ w)
def hD(s1:List UInt8)(c1:Int):Option (Int) :=
 ((kH s1 c1).bind fun r2 =>
 some r2)
theorem lB{s1:List UInt8}{c1:Int}{res:Int}(h:hD s1 c1=some res):
  Pure Tryz.prog 145 [.st s1,.u8 c1] (aX (bJ false [⟨(.int .i64),res⟩])):=by
 refine Pure.of_body bB Tryz.func145 (by kernel_rfl) rfl (nl rfl) (fun Bw w0=> ?_) rfl
 unfold hD at h
 refine G ?_
 obtain⟨r2,q2,h⟩:=aG h
 refine GP 2 (pM q2) (aL ?_)
 obtain rfl:=sI h
 exact aD [(.int .i64)] (by kernel_rfl)
def uL(c1:Int):Option (Bool) :=
 (((if(c1 == 32)=true then some (true)
 else(if(c1 == 9)=true then some (true)
 else(if(c1 == 10)=true then some (true)
 else some ((c1 == 13)))))).bind fun v1=>some v1)
theorem T7{c1:Int}{res:Bool}(h:uL c1=some res):
  Pure Tryz.prog 146 [.u8 c1] (aX (bJ false [⟨.bool,res⟩])):=by
 refine Pure.of_body bB Tryz.func146 (by kernel_rfl) rfl (nl rfl) (fun Bw w0=> ?_) rfl
 unfold uL at h
 refine G (aC (bO h (fun v1=>aM [(2,.bo v1)] [] 0) (fun v1 h=> ?_) (fun v1 h=> ?_)))
 ·rcases aW h with⟨hb7,h⟩ | ⟨hb7,h⟩
  ·refine bS ⟨[(2,true),(5,true)],[]⟩ [(3,5,oc hb7)] ?_
   exact eN h (gg [] [])
  rcases aW h with⟨hb8,h⟩ | ⟨hb8,h⟩
  ·refine bS ⟨[(2,false),(5,false),(6,true),(9,true)],[]⟩ [(3,4,an hb7),(5,5,oc hb7),(7,9,oc hb8)] ?_
   exact eN h (gg [] [])
  rcases aW h with⟨hb9,h⟩ | ⟨hb9,h⟩
  ·refine bS ⟨[(2,false),(5,false),(6,false),(9,false),(10,true),(13,true)],[]⟩ [(3,4,an hb7),(5,5,oc hb7),(7,8,an hb8),(9,9,oc hb8),(11,13,oc hb9)] ?_
   exact eN h (gg [] [])
  refine bS ⟨[(2,false),(5,false),(6,false),(9,false),(10,false),(13,false)],[]⟩ [(3,4,an hb7),(5,5,oc hb7),(7,8,an hb8),(9,9,oc hb8),(11,12,an hb9),(13,13,oc hb9)] ?_
  exact eN h (gg [] [])
 refine aA (aL ?_)
 obtain rfl:=sI h
 exact aD [.bool] (by kernel_rfl)
def iW(c1:Int):Option (Bool) :=
 (((if(c1 == 95)=true then some (true)
 else(if(decide (c1≥97))=true then(if(decide (c1≤122))=true then some (true)
 else(if(decide (c1≥65))=true then(if(decide (c1≤90))=true then some (true)
 else(if(decide (c1≥48))=true then some ((decide (c1≤57)))
 else some (false)))
 else(if(decide (c1≥48))=true then some ((decide (c1≤57)))
 else some (false))))
 else(if(decide (c1≥65))=true then(if(decide (c1≤90))=true then some (true)
 else(if(decide (c1≥48))=true then some ((decide (c1≤57)))
 else some (false)))
 else(if(decide (c1≥48))=true then some ((decide (c1≤57)))
 else some (false)))))).bind fun v1=>some v1)
theorem dR{c1:Int}{res:Bool}(h:iW c1=some res):
  Pure Tryz.prog 147 [.u8 c1] (aX (bJ false [⟨.bool,res⟩])):=by
 refine Pure.of_body bB Tryz.func147 (by kernel_rfl) rfl (nl rfl) (fun Bw w0=> ?_) rfl
 unfold iW at h
 refine G (aC (bO h (fun v1=>aM [(2,.bo v1)] [] 0) (fun v1 h=> ?_) (fun v1 h=> ?_)))
 ·rcases aW h with⟨hb23,h⟩ | ⟨hb23,h⟩
  ·refine bS ⟨[(2,true),(9,true)],[]⟩ [(3,5,oc hb23),(8,9,oc hb23)] ?_
   exact eN h (gg [] [])
  rcases aW h with⟨hb24,h⟩ | ⟨hb24,h⟩
  ·rcases aW h with⟨hb25,h⟩ | ⟨hb25,h⟩
   ·refine bS ⟨[(2,false),(5,true),(8,true),(9,false),(10,true),(17,true)],[]⟩ [(3,5,an hb23),(6,7,an hb24),(8,8,oc (And.intro hb23 hb24)),(9,9,oc hb23),(11,13,oc hb25),(16,17,oc hb25)] ?_
    exact eN h (gg [] [])
   rcases aW h with⟨hb26,h⟩ | ⟨hb26,h⟩
   ·rcases aW h with⟨hb27,h⟩ | ⟨hb27,h⟩
    ·refine bS ⟨[(2,false),(5,true),(8,true),(9,false),(10,false),(13,true),(16,true),(17,false),(18,true),(25,true)],[]⟩ [(3,5,an hb23),(6,7,an hb24),(8,8,oc (And.intro hb23 hb24)),(9,9,oc hb23),(11,13,an hb25),(14,15,an hb26),(16,16,oc (And.intro hb25 hb26)),(17,17,oc hb25),(19,21,oc hb27),(24,25,oc hb27)] ?_
     exact eN h (gg [] [])
    rcases aW h with⟨hb28,h⟩ | ⟨hb28,h⟩
    ·refine bS ⟨[(2,false),(5,true),(8,true),(9,false),(10,false),(13,true),(16,true),(17,false),(18,false),(21,true),(24,true),(25,false)],[]⟩ [(3,5,an hb23),(6,7,an hb24),(8,8,oc (And.intro hb23 hb24)),(9,9,oc hb23),(11,13,an hb25),(14,15,an hb26),(16,16,oc (And.intro hb25 hb26)),(17,17,oc hb25),(19,21,an hb27),(22,23,an hb28),(24,24,oc (And.intro hb27 hb28)),(25,25,oc hb27)] ?_
     exact eN h (gg [] [])
    refine bS ⟨[(2,false),(5,true),(8,true),(9,false),(10,false),(13,true),(16,true),(17,false),(18,false),(21,false),(24,false),(25,false)],[]⟩ [(3,5,an hb23),(6,7,an hb24),(8,8,oc (And.intro hb23 hb24)),(9,9,oc hb23),(11,13,an hb25),(14,15,an hb26),(16,16,oc (And.intro hb25 hb26)),(17,17,oc hb25),(19,21,an hb27),(22,23,oc hb28),(24,24,oc (And.intro hb27 hb28)),(25,25,oc hb27)] ?_
    exact eN h (gg [] [])
   rcases aW h with⟨hb29,h⟩ | ⟨hb29,h⟩
   ·refine bS ⟨[(2,false),(5,true),(8,true),(9,false),(10,false),(13,false),(16,false),(17,false),(21,true),(24,true)],[]⟩ [(3,5,an hb23),(6,7,an hb24),(8,8,oc (And.intro hb23 hb24)),(9,9,oc hb23),(11,13,an hb25),(14,15,oc hb26),(16,16,oc (And.intro hb25 hb26)),(17,17,oc hb25),(22,23,an hb29),(24,24,oc hb29)] ?_
    exact eN h (gg [] [])
   refine bS ⟨[(2,false),(5,true),(8,true),(9,false),(10,false),(13,false),(16,false),(17,false),(21,false),(24,false)],[]⟩ [(3,5,an hb23),(6,7,an hb24),(8,8,oc (And.intro hb23 hb24)),(9,9,oc hb23),(11,13,an hb25),(14,15,oc hb26),(16,16,oc (And.intro hb25 hb26)),(17,17,oc hb25),(22,24,oc hb29)] ?_
   exact eN h (gg [] [])
  rcases aW h with⟨hb30,h⟩ | ⟨hb30,h⟩
  ·rcases aW h with⟨hb31,h⟩ | ⟨hb31,h⟩
   ·refine bS ⟨[(2,false),(5,false),(8,false),(9,false),(13,true),(16,true),(18,true),(25,true)],[]⟩ [(3,5,an hb23),(6,7,oc hb24),(8,8,oc (And.intro hb23 hb24)),(9,9,oc hb23),(14,15,an hb30),(16,16,oc hb30),(19,21,oc hb31),(24,25,oc hb31)] ?_
    exact eN h (gg [] [])
   rcases aW h with⟨hb32,h⟩ | ⟨hb32,h⟩
   ·refine bS ⟨[(2,false),(5,false),(8,false),(9,false),(13,true),(16,true),(18,false),(21,true),(24,true),(25,false)],[]⟩ [(3,5,an hb23),(6,7,oc hb24),(8,8,oc (And.intro hb23 hb24)),(9,9,oc hb23),(14,15,an hb30),(16,16,oc hb30),(19,21,an hb31),(22,23,an hb32),(24,24,oc (And.intro hb31 hb32)),(25,25,oc hb31)] ?_
    exact eN h (gg [] [])
   refine bS ⟨[(2,false),(5,false),(8,false),(9,false),(13,true),(16,true),(18,false),(21,false),(24,false),(25,false)],[]⟩ [(3,5,an hb23),(6,7,oc hb24),(8,8,oc (And.intro hb23 hb24)),(9,9,oc hb23),(14,15,an hb30),(16,16,oc hb30),(19,21,an hb31),(22,23,oc hb32),(24,24,oc (And.intro hb31 hb32)),(25,25,oc hb31)] ?_
   exact eN h (gg [] [])
  rcases aW h with⟨hb33,h⟩ | ⟨hb33,h⟩
  ·refine bS ⟨[(2,false),(5,false),(8,false),(9,false),(13,false),(16,false),(21,true),(24,true)],[]⟩ [(3,5,an hb23),(6,7,oc hb24),(8,8,oc (And.intro hb23 hb24)),(9,9,oc hb23),(14,16,oc hb30),(22,23,an hb33),(24,24,oc hb33)] ?_
   exact eN h (gg [] [])
  refine bS ⟨[(2,false),(5,false),(8,false),(9,false),(13,false),(16,false),(21,false),(24,false)],[]⟩ [(3,5,an hb23),(6,7,oc hb24),(8,8,oc (And.intro hb23 hb24)),(9,9,oc hb23),(14,16,oc hb30),(22,24,oc hb33)] ?_
  exact eN h (gg [] [])
 refine aA (aL ?_)
 obtain rfl:=sI h
 exact aD [.bool] (by kernel_rfl)
def gC(s1:List (List UInt8))(v1:List UInt8):(Int)→Option ((Int)⊕((Unit)⊕(Int))):=fun v3 =>
 (if(decide (v3<(s1.length:Int)))=true then(if 0≤v3∧v3<(s1.length:Int)then(if(v1 == (s1.getD v3.toNat ([]:List UInt8)))=true then some (Sum.inr (Sum.inr v3))
 else some (Sum.inl (IntKind.i64.wrap (v3+1))))else none)
 else some (Sum.inr (Sum.inl ())))
def fC(s1:List (List UInt8))(v1:List UInt8):Option (Int) :=
 ((iter (gC s1 v1) (0:Int)).bind fun(r2:((Unit)⊕(Int)))=>match r2 with
 | .inl _=>some (-1:Int)
 | .inr (r1)=>some r1)
theorem lQ(β0:Bool){s1:List (List UInt8)}{v1:List UInt8}{res:Int}(h:fC s1 v1=some res):
  Pure Tryz.prog 156 [.p β0 (.slice .str) s1,.st v1] (aX (bJ false [⟨(.int .i64),res⟩])):=by
 refine Pure.of_body bB Tryz.func156 (by kernel_rfl) rfl (nl rfl) (fun Bw w0=> ?_) rfl
 unfold fC at h
 refine G (aC (G (aF (mG h (fun v3=>aM [(0,.p β0 (.slice .str) s1),(1,.st v1),(7,.i64 (s1.length:Int)),(8,.i64 v3)] [] 0) (eI (fV Tryz.f156.ntmps 0 (fun _=>aM [] [] 0)) (iC tb Tryz.f156.results.toList (fun r1=>[⟨(.int .i64),r1⟩]))) (gg [] []) (fun v3 o h=> ?_) (fun r2 h e σ' hq=> ?_)))))
 ·unfold gC at h
  refine G (aC (aO h (fun hb5 h=> ?_) (fun hb5 h=> ?_)))
  ·refine aB (aA (aC (aF (G (GC 3 h (fun h=>aO h (fun hb6 h=> ?_) (fun hb6 h=> ?_)))))))
   ·refine G (aL ?_)
    obtain rfl:=sI h
    refine aN (aE (bX (aU ?_)))
    exact bW (aD [(.int .i64)] (by kernel_rfl))
   refine aB (aK (aA (Ge ?_)))
   exact eB h (gg [] [])
  refine aH (aY ?_)
  obtain rfl:=sI h
  refine eR (bI ?_)
  exact b8 (gg [] [])
 rcases r2 with _ | r1
 ·obtain⟨rfl,hle⟩:=hq
  refine dH ?_ hle
  refine aJ (aA (G (aL ?_)))
  obtain rfl:=sI h
  exact aD [(.int .i64)] (by kernel_rfl)
 obtain⟨rfl,hr⟩:=hq
 refine aN (aE ?_)
 obtain rfl:=sI h
 exact hr
def eL(e1 at1:Int)(p1:List UInt8)(p2 p3 p4 p5 p6:Int)(o1:List (List UInt8))(o2:List Int)(o3:List Z7)(o4:List Z4):Option ((Unit)⊕(Int×Int)):=some (Sum.inr (e1,at1))
theorem E9(v:Value)(e a:Int)(w:World):
  Calls Tryz.prog 81 #[v,.int .i64 e,.int .i64 a] w fun r w'=>r = .panicked [{ v:=bC 36 .i64 .i64 (e,a),recovered:=false }]∧w'=w:=by
 go_enter Tryz.func81,Tryz.ntmps81
 go_wp2
 exact⟨rfl,rfl,rfl⟩
theorem cU{e1:Int}{at1:Int}{p1:List UInt8}{p2:Int}{p3:Int}{p4:Int}{p5:Int}{p6:Int}{o1:List (List UInt8)}{o2:List Int}{o3:List Z7}{o4:List Z4}{res:(Unit)⊕(Int×Int)}(h:eL e1 at1 p1 p2 p3 p4 p5 p6 o1 o2 o3 o4=some res):
  Does Tryz.prog 81 [.adr 0 0 10 0,.i64 e1,.i64 at1] (bY p1 p2 p3 p4 p5 p6 o1 o2 o3 o4) (l0 (fun(q:Unit)=>(.tup [],[])) (bC 36 .i64 .i64) res):=by
 obtain rfl:=sI h
 exact Dies.of_calls Tryz.func81 (by kernel_rfl) rfl (fun v w=>E9 v _ _ w)
def xL(d1:List UInt8)(d3 d4 d5 d6:Int)(o1:List (List UInt8))(o2:List Int)(o3:List Z7)(o4:List Z4):(Int)→Option ((Int)⊕((Int)⊕((Int×Int)⊕(Int×Int)))):=fun d10 =>
 (if(decide (d10<(d1.length:Int)))=true then(if 0≤d10∧d10<(d1.length:Int)then(if(((d1.getD d10.toNat 0).toNat:Int) == 35)=true then(if 0≤d10∧d10≤(d1.length:Int)∧(d1.length:Int)≤(d1.length:Int)then((hD ((d1.take (d1.length:Int).toNat).drop d10.toNat) 10).bind fun r56 =>
 (((if(decide (r56<0))=true then some ((IntKind.i64.wrap ((d1.length:Int) - d10)))
 else some (r56))).bind fun v14=>some (Sum.inl (IntKind.i64.wrap (d10+v14)))))else none)
 else((uL ((d1.getD d10.toNat 0).toNat:Int)).bind fun r58 =>
 (if r58=true then some (Sum.inl (IntKind.i64.wrap (d10+1)))
 else((((iW ((d1.getD d10.toNat 0).toNat:Int)).bind fun r63 =>
 (if(!r63)=true then((hD ([40,41,91,93,94,124,42,43,63,46,59,47,61]:List UInt8) ((d1.getD d10.toNat 0).toNat:Int)).bind fun r64 =>
 some ((decide (r64<0))))
 else some (false)))).bind fun v15=>(if v15=true then((eL 20 d10 d1 d10 d3 d4 d5 d6 o1 o2 o3 o4).bind fun(z12:(Unit)⊕(Int×Int))=>match z12 with
 | .inr (e27,e28)=>some (Sum.inr (Sum.inr (Sum.inl (e27,e28))))
 | .inl _=>none)
 else some (Sum.inr (Sum.inr (Sum.inr (((d1.getD d10.toNat 0).toNat:Int),d10)))))))))else none)
 else some (Sum.inr (Sum.inl d10)))
def gD(d1:List UInt8)(d2 d3 d4 d5 d6:Int)(o1:List (List UInt8))(o2:List Int)(o3:List Z7)(o4:List Z4):Option ((Int×Int)⊕(Int×Int)) :=
 ((iter (xL d1 d3 d4 d5 d6 o1 o2 o3 o4) d2).bind fun(r65:((Int)⊕((Int×Int)⊕(Int×Int))))=>match r65 with
 | .inl v13=>some (Sum.inl (0,v13))
 | .inr (.inl (e23,e24))=>some (Sum.inr (e23,e24))
 | .inr (.inr ((r53,r54)))=>some (Sum.inl (r53,r54)))
theorem bV{d1:List UInt8}{d2:Int}{d3:Int}{d4:Int}{d5:Int}{d6:Int}{o1:List (List UInt8)}{o2:List Int}{o3:List Z7}{o4:List Z4}{res:(Int×Int)⊕(Int×Int)}(h:gD d1 d2 d3 d4 d5 d6 o1 o2 o3 o4=some res):
  Does Tryz.prog 114 [.adr 0 0 10 0] (bY d1 d2 d3 d4 d5 d6 o1 o2 o3 o4) (l0 (fun(q:Int×Int)=>(.u8 q.1,(bY d1 q.2 d3 d4 d5 d6 o1 o2 o3 o4))) (bC 36 .i64 .i64) res):=by
 refine Does.of_body bB Tryz.func114 (by kernel_rfl) rfl (nl rfl) (fun Bw w0=> ?_)
 unfold gD at h
 refine G (aC (aF (mG h (fun d10=>aM [(0,.adr 0 0 10 0)] (bY d1 d10 d3 d4 d5 d6 o1 o2 o3 o4) 5 5) (eI (fV Tryz.f114.ntmps 0 (fun v13=>aM [] (bY d1 v13 d3 d4 d5 d6 o1 o2 o3 o4) 5 5)) (eI (yV (bC 36 .i64 .i64)) (aEy tb Tryz.f114.ntmps Tryz.f114.results.toList (fun(r53,r54)=>(.u8 r53,(bY d1 r54 d3 d4 d5 d6 o1 o2 o3 o4)))))) (gg [] [0,1,2,3,4]) (fun d10 o h=> ?_) (fun r65 h e σ' hq=> ?_))))
 ·unfold xL at h
  refine aC (GD a0 [] (aO h (fun hb46 h=> ?_) (fun hb46 h=> ?_)))
  ·refine aB (aA (aF ?_))
   obtain⟨c22,h⟩:=aS h
   refine GD a0 [(8,8,oc c22)] (G (aO h (fun hb47 h=> ?_) (fun hb47 h=> ?_)))
   ·obtain⟨c24,h⟩:=aS h
    obtain⟨r56,q62,h⟩:=aG h
    have u_1:=(lB q62)
    refine GD ⟨[],[(9,(oP u_1))]⟩ [(8,8,oc c24),(9,9,oc u_1)] (aC (G (bO h (fun v14=>aM [(0,.adr 0 0 10 0),(4,.i64 v14)] (bY d1 d10 d3 d4 d5 d6 o1 o2 o3 o4) 5 5) (fun v14 h=> ?_) (fun v14 h=> ?_))))
    ·refine aO h (fun hb49 h=> ?_) (fun hb49 h=> ?_)
     ·refine qA a0 [] ?_
      exact eN h (gg [] [0,1,2,3,4])
     refine aB ?_
     exact eN h (gg [] [0,1,2,3,4])
    refine aA (Ge (aK ?_))
    exact eB h (gg [] [0,1,2,3,4])
   obtain⟨r58,q64,h⟩:=aG h
   refine GP 1 (T7 q64) (aO h (fun hb50 h=> ?_) (fun hb50 h=> ?_))
   ·refine Ge (aK ?_)
    exact eB h (gg [] [0,1,2,3,4])
   refine aC (aC (bO h (fun v15=>aM [(0,.adr 0 0 10 0),(3,.u8 ((d1.getD d10.toNat 0).toNat:Int)),(72,.bo v15)] (bY d1 d10 d3 d4 d5 d6 o1 o2 o3 o4) 5 5) (fun v15 h=> ?_) (fun v15 h=> ?_)))
   ·obtain⟨r63,q69,h⟩:=aG h
    rcases aW h with⟨hb53,h⟩ | ⟨hb53,h⟩
    ·obtain⟨r64,q70,h⟩:=aG h
     have u_1:=(dR q69)
     have u_2:=(lB q70)
     refine bS ⟨[(3,true),(7,true)],[(1,(oP u_1)),(5,(oP u_2))]⟩ [(1,1,oc u_1),(4,4,an hb53),(5,5,oc (And.intro hb53 u_2)),(6,6,an hb53),(7,7,oc hb53)] ?_
     exact eN h (gg [] [0,1,2,3,4])
    have u_1:=(dR q69)
    refine bS ⟨[(3,false),(7,false)],[(1,(oP u_1))]⟩ [(1,1,oc u_1),(4,7,oc hb53)] ?_
    exact eN h (gg [] [0,1,2,3,4])
   refine aA (aO h (fun hb54 h=> ?_) (fun hb54 h=> ?_))
   ·obtain⟨z12,q72,h⟩:=aG h
    rcases z12 with _ | ⟨e27,e28⟩
    ·cases h
    refine GX 5 [0,1,2,3,4] (cU q72) (fun _=> ?_)
    obtain rfl:=sI h
    refine aQ (bN (b9 (aU (aDH ?_))))
    exact rfl
   refine aB (aA (G (aL ?_)))
   obtain rfl:=sI h
   refine aN (bX (aU (aU ?_)))
   exact aBf (aR [some (.int .u8)] [] [0,1,2,3,4] [(2,.u8 ((d1.getD d10.toNat 0).toNat:Int))] (bY d1 d10 d3 d4 d5 d6 o1 o2 o3 o4) 5 5 (by kernel_rfl) (by kernel_rfl) (by kernel_rfl))
  refine aH (aY ?_)
  obtain rfl:=sI h
  refine eR (bI ?_)
  exact b8 (gg [] [0,1,2,3,4])
 rcases r65 with v13 | ⟨e23,e24⟩ | ⟨r53,r54⟩
 ·obtain⟨rfl,hle⟩:=hq
  refine dH ?_ hle
  refine aJ (aA (G (aL ?_)))
  obtain rfl:=sI h
  exact aR [some (.int .u8)] [] [0,1,2,3,4] [(2,.u8 0)] (bY d1 v13 d3 d4 d5 d6 o1 o2 o3 o4) 5 5 (by kernel_rfl) (by kernel_rfl) (by kernel_rfl)
 ·obtain rfl:=hq
  refine bN (aQ ?_)
  obtain rfl:=sI h
  exact rfl
 obtain⟨rfl,hr⟩:=hq
 refine aN (aE ?_)
 obtain rfl:=sI h
 exact hr
def wS(p1:List UInt8):(Int)→Option ((Int)⊕(Int)):=fun p11 =>
 (((if(decide (p11<(p1.length:Int)))=true then(if 0≤p11∧p11<(p1.length:Int)then((iW ((p1.getD p11.toNat 0).toNat:Int)).bind fun r32 =>
 some (r32))else none)
 else some (false))).bind fun v7=>(if v7=true then some (Sum.inl (IntKind.i64.wrap (p11+1)))
 else some (Sum.inr p11)))
def kV(p1:List UInt8)(p2 p3 p4 p5 p6:Int)(o1:List (List UInt8))(o2:List Int)(o3:List Z7)(o4:List Z4):Option (((List UInt8)×Int×Int)⊕(Int×Int)) :=
 ((gD p1 p2 p3 p4 p5 p6 o1 o2 o3 o4).bind fun(z6:(Int×Int)⊕(Int×Int))=>match z6 with
 | .inr (e11,e12)=>some (Sum.inr (e11,e12))
 | .inl (r21,r22)=>((iW r21).bind fun r23 =>
 (if(!r23)=true then((eL 21 r22 p1 r22 p3 p4 p5 p6 o1 o2 o3 o4).bind fun(z8:(Unit)⊕(Int×Int))=>match z8 with
 | .inr (e15,e16)=>some (Sum.inr (e15,e16))
 | .inl _=>none)
 else((iter (wS p1) r22).bind fun p12=>(if 0≤r22∧r22≤p12∧p12≤(p1.length:Int)then some (Sum.inl (((p1.take p12.toNat).drop r22.toNat),r22,p12))else none)))))
theorem eV{p1:List UInt8}{p2:Int}{p3:Int}{p4:Int}{p5:Int}{p6:Int}{o1:List (List UInt8)}{o2:List Int}{o3:List Z7}{o4:List Z4}{res:((List UInt8)×Int×Int)⊕(Int×Int)}(h:kV p1 p2 p3 p4 p5 p6 o1 o2 o3 o4=some res):
  Does Tryz.prog 115 [.adr 0 0 10 0] (bY p1 p2 p3 p4 p5 p6 o1 o2 o3 o4) (l0 (fun(q:(List UInt8)×Int×Int)=>(.tup [.st q.1,.i64 q.2.1],(bY p1 q.2.2 p3 p4 p5 p6 o1 o2 o3 o4))) (bC 36 .i64 .i64) res):=by
 refine Does.of_body bB Tryz.func115 (by kernel_rfl) rfl (nl rfl) (fun Bw w0=> ?_)
 unfold kV at h
 refine G (aC (aC ?_))
 obtain⟨z6,q18,h⟩:=aG h
 rcases z6 with⟨r21,r22⟩ | ⟨e11,e12⟩
 ·obtain⟨r23,q19,h⟩:=aG h
  have u_1:=(bV q18)
  have u_2:=(dR q19)
  refine bS ⟨[],[(1,(oO u_1 [0,1,2,3,4])),(2,(oP u_2))]⟩ [(1,1,oc u_1),(2,2,oc u_2)] (aA (aO h (fun hb14 h=> ?_) (fun hb14 h=> ?_)))
  ·obtain⟨z8,q21,h⟩:=aG h
   rcases z8 with _ | ⟨e15,e16⟩
   ·cases h
   refine GX 5 [0,1,2,3,4] (cU q21) (fun _=>aQ ?_)
   obtain rfl:=sI h
   exact rfl
  refine aB (aA (G (aC (aF (cW h (fun p11=>aM [(0,.adr 0 0 10 0),(4,.i64 r22)] (bY p1 p11 p3 p4 p5 p6 o1 o2 o3 o4) 5 5) 0 (fun p12=>aM [(0,.adr 0 0 10 0),(4,.i64 r22)] (bY p1 p12 p3 p4 p5 p6 o1 o2 o3 o4) 5 5) (gg [] [0,1,2,3,4]) (fun p11 o h=> ?_) (fun p12 h=> ?_))))))
  ·unfold wS at h
   refine aC (aC (bO h (fun v7=>aM [(0,.adr 0 0 10 0),(4,.i64 r22),(40,.bo v7)] (bY p1 p11 p3 p4 p5 p6 o1 o2 o3 o4) 5 5) (fun v7 h=> ?_) (fun v7 h=> ?_)))
   ·rcases aW h with⟨hb25,h⟩ | ⟨hb25,h⟩
    ·obtain⟨c20,h⟩:=aS h
     obtain⟨r32,q30,h⟩:=aG h
     have u_1:=(dR q30)
     refine qA ⟨[(10,true),(21,true)],[(20,(oP u_1))]⟩ [(11,18,an hb25),(19,19,oc (And.intro hb25 c20)),(20,20,oc (And.intro hb25 u_1)),(21,21,oc hb25)] ?_
     exact eN h (gg [] [0,1,2,3,4])
    refine qA ⟨[(10,false),(21,false)],[]⟩ [(11,21,oc hb25)] ?_
    exact eN h (gg [] [0,1,2,3,4])
   refine aA (aO h (fun hb26 h=> ?_) (fun hb26 h=> ?_))
   ·refine aB (aA (aF (Ge (aK ?_))))
    exact eB h (gg [] [0,1,2,3,4])
   refine aH (aY ?_)
   exact eX h (gg [] [0,1,2,3,4])
  refine aJ (aA ?_)
  obtain⟨c22,h⟩:=aS h
  refine GD a0 [(9,9,oc c22)] (aL ?_)
  obtain rfl:=sI h
  exact aR [some .str,some (.int .i64)] [] [0,1,2,3,4] [(2,.st ((p1.take p12.toNat).drop r22.toNat)),(3,.i64 r22)] (bY p1 p12 p3 p4 p5 p6 o1 o2 o3 o4) 5 5 (by kernel_rfl) (by kernel_rfl) (by kernel_rfl)
 refine GX 1 [0,1,2,3,4] (bV q18) (fun _=>aQ (aQ ?_))
 obtain rfl:=sI h
 exact rfl
def fO(c1:Int)(p1:List UInt8)(p2 p3 p4 p5 p6:Int)(o1:List (List UInt8))(o2:List Int)(o3:List Z7)(o4:List Z4):Option ((Bool×Int)⊕(Int×Int)) :=
 ((gD p1 p2 p3 p4 p5 p6 o1 o2 o3 o4).bind fun(z4:(Int×Int)⊕(Int×Int))=>match z4 with
 | .inr (e7,e8)=>some (Sum.inr (e7,e8))
 | .inl (r8,r9)=>(if(r8 != c1)=true then some (Sum.inl (false,r9))
 else some (Sum.inl (true,(IntKind.i64.wrap (r9+1))))))
theorem bR{c1:Int}{p1:List UInt8}{p2:Int}{p3:Int}{p4:Int}{p5:Int}{p6:Int}{o1:List (List UInt8)}{o2:List Int}{o3:List Z7}{o4:List Z4}{res:(Bool×Int)⊕(Int×Int)}(h:fO c1 p1 p2 p3 p4 p5 p6 o1 o2 o3 o4=some res):
  Does Tryz.prog 140 [.adr 0 0 10 0,.u8 c1] (bY p1 p2 p3 p4 p5 p6 o1 o2 o3 o4) (l0 (fun(q:Bool×Int)=>(.bo q.1,(bY p1 q.2 p3 p4 p5 p6 o1 o2 o3 o4))) (bC 36 .i64 .i64) res):=by
 refine Does.of_body bB Tryz.func140 (by kernel_rfl) rfl (nl rfl) (fun Bw w0=> ?_)
 unfold fO at h
 refine G (aC (aC ?_))
 obtain⟨z4,q4,h⟩:=aG h
 rcases z4 with⟨r8,r9⟩ | ⟨e7,e8⟩
 ·refine pP 1 [0,1,2,3,4] (bV q4) (aA (aO h (fun hb2 h=> ?_) (fun hb2 h=> ?_)))
  ·refine G (aL (aE ?_))
   obtain rfl:=sI h
   exact aR [some .bool] [] [0,1,2,3,4] [(4,.bo false)] (bY p1 r9 p3 p4 p5 p6 o1 o2 o3 o4) 5 5 (by kernel_rfl) (by kernel_rfl) (by kernel_rfl)
  refine aB (aA (G (G (aL ?_))))
  obtain rfl:=sI h
  exact aR [some .bool] [] [0,1,2,3,4] [(4,.bo true)] (bY p1 (IntKind.i64.wrap (r9+1)) p3 p4 p5 p6 o1 o2 o3 o4) 5 5 (by kernel_rfl) (by kernel_rfl) (by kernel_rfl)
 refine GX 1 [0,1,2,3,4] (bV q4) (fun _=>aQ (aQ ?_))
 obtain rfl:=sI h
 exact rfl
def oM(p1:List UInt8)(p2 p3 p4 p5 p6:Int)(o1:List (List UInt8))(o2:List Int)(o3:List Z7)(o4:List Z4):Option (Z4⊕(Int×Int)) :=
 ((kV p1 p2 p3 p4 p5 p6 o1 o2 o3 o4).bind fun(z6:((List UInt8)×Int×Int)⊕(Int×Int))=>match z6 with
 | .inr (e11,e12)=>some (Sum.inr (e11,e12))
 | .inl (r11,r12,r13)=>(if((bG .str o4 r11).isSome)=true then((eL 23 r12 p1 r13 p3 p4 p5 p6 o1 o2 o3 o4).bind fun(z8:(Unit)⊕(Int×Int))=>match z8 with
 | .inr (e15,e16)=>some (Sum.inr (e15,e16))
 | .inl _=>none)
 else some (Sum.inl (r11,r13))))
theorem kD{p1:List UInt8}{p2:Int}{p3:Int}{p4:Int}{p5:Int}{p6:Int}{o1:List (List UInt8)}{o2:List Int}{o3:List Z7}{o4:List Z4}{res:Z4⊕(Int×Int)}(h:oM p1 p2 p3 p4 p5 p6 o1 o2 o3 o4=some res):
  Does Tryz.prog 141 [.adr 0 0 10 0] (bY p1 p2 p3 p4 p5 p6 o1 o2 o3 o4) (l0 (fun(q:(List UInt8)×Int)=>(.st q.1,(bY p1 q.2 p3 p4 p5 p6 o1 o2 o3 o4))) (bC 36 .i64 .i64) res):=by
 refine Does.of_body bB Tryz.func141 (by kernel_rfl) rfl (nl rfl) (fun Bw w0=> ?_)
 unfold oM at h
 refine G (aC ?_)
 obtain⟨z6,q6,h⟩:=aG h
 rcases z6 with⟨r11,r12,r13⟩ | ⟨e11,e12⟩
 ·refine pP 1 [0,1,2,3,4] (eV q6) (aA (aC (G (G (aO h (fun hb2 h=> ?_) (fun hb2 h=> ?_))))))
  ·obtain⟨z8,q8,h⟩:=aG h
   rcases z8 with _ | ⟨e15,e16⟩
   ·cases h
   refine GX 2 [0,1,2,3,4] (cU q8) (fun _=>aQ ?_)
   obtain rfl:=sI h
   exact rfl
  refine aB (aA (G (aL ?_)))
  obtain rfl:=sI h
  exact aR [some .str] [] [0,1,2,3,4] [(2,.st r11)] (bY p1 r13 p3 p4 p5 p6 o1 o2 o3 o4) 5 5 (by kernel_rfl) (by kernel_rfl) (by kernel_rfl)
 refine GX 1 [0,1,2,3,4] (eV q6) (fun _=>aQ ?_)
 obtain rfl:=sI h
 exact rfl
def vC(d1:List UInt8)(d3 d4 d5 d6:Int)(o3:List Z7):(Int×(List (List UInt8))×(List Int)×List Z4)→Option ((Int×(List (List UInt8))×(List Int)×List Z4)⊕((Int×(List (List UInt8))×(List Int)×List Z4)⊕(Int×Int))):=fun(d19,d20,d21,d22) =>
 ((fO 59 d1 d19 d3 d4 d5 d6 d20 d21 o3 d22).bind fun(z42:(Bool×Int)⊕(Int×Int))=>match z42 with
 | .inr (e87,e88)=>some (Sum.inr (Sum.inr (e87,e88)))
 | .inl (r64,r65)=>(if(!r64)=true then((gD d1 r65 d3 d4 d5 d6 d20 d21 o3 d22).bind fun(z44:(Int×Int)⊕(Int×Int))=>match z44 with
 | .inr (e91,e92)=>some (Sum.inr (Sum.inr (e91,e92)))
 | .inl (r68,r69)=>((oM d1 r69 d3 d4 d5 d6 d20 d21 o3 d22).bind fun(z46:Z4⊕(Int×Int))=>match z46 with
 | .inr (e95,e96)=>some (Sum.inr (Sum.inr (e95,e96)))
 | .inl (r72,r73)=>(if(decide ((d20.length:Int)≥24))=true then((eL 24 r69 d1 r73 d3 d4 d5 d6 d20 d21 o3 d22).bind fun(z48:(Unit)⊕(Int×Int))=>match z48 with
 | .inr (e99,e100)=>some (Sum.inr (Sum.inr (e99,e100)))
 | .inl _=>none)
 else(if 0≤(d20.length:Int)then(if(d21.length+([(d20.length:Int)]:List Int).length)*8≤140737488355328∧d21.length+([(d20.length:Int)]:List Int).length≤9223372036854775807 then(if(d20.length+([r72]:List (List UInt8)).length)*16≤140737488355328∧d20.length+([r72]:List (List UInt8)).length≤9223372036854775807 then some (Sum.inl (r73,(d20++([r72]:List (List UInt8))),(d21++([(d20.length:Int)]:List Int)),(fF .str d22 r72 (IntKind.u32.wrap (1*2 ^ (min (d20.length:Int).toNat IntKind.u32.bits))))))else none)else none)else none))))
 else some (Sum.inr (Sum.inl (r65,d20,d21,d22)))))
def vN(d1:List UInt8)(d2 d3 d4 d5 d6:Int)(o1:List (List UInt8))(o2:List Int)(o3:List Z7)(o4:List Z4):Option ((Int×(List (List UInt8))×(List Int)×List Z4)⊕(Int×Int)) :=
 ((iter (vC d1 d3 d4 d5 d6 o3) (d2,o1,o2,o4)).bind fun(r74:((Int×(List (List UInt8))×(List Int)×List Z4)⊕(Int×Int)))=>match r74 with
 | .inl (v9,v10,v11,v12)=>some (Sum.inl (v9,v10,v11,v12))
 | .inr ((e83,e84))=>some (Sum.inr (e83,e84)))
theorem tV{d1:List UInt8}{d2:Int}{d3:Int}{d4:Int}{d5:Int}{d6:Int}{o1:List (List UInt8)}{o2:List Int}{o3:List Z7}{o4:List Z4}{res:(Int×(List (List UInt8))×(List Int)×List Z4)⊕(Int×Int)}(h:vN d1 d2 d3 d4 d5 d6 o1 o2 o3 o4=some res):
  Does Tryz.prog 110 [.adr 0 0 10 0] (bY d1 d2 d3 d4 d5 d6 o1 o2 o3 o4) (l0 (fun(q:Int×(List (List UInt8))×(List Int)×List Z4)=>(.tup [],(aIX d1 q.1 d3 d4 d5 d6 o3 q.2.2.2 q.2.1 q.2.2.1))) (bC 36 .i64 .i64) res):=by
 refine Does.of_body bB Tryz.func110 (by kernel_rfl) rfl (nl rfl) (fun Bw w0=> ?_)
 unfold vN at h
 refine aF (mG h (fun(d19,d20,d21,d22)=>aM [(0,.adr 0 0 10 0)] (aIX d1 d19 d3 d4 d5 d6 o3 d22 d20 d21) 7 5) (eI (fV Tryz.f110.ntmps 0 (fun(v9,v10,v11,v12)=>aM [] (aIX d1 v9 d3 d4 d5 d6 o3 v12 v10 v11) 7 5)) (yV (bC 36 .i64 .i64))) (gg [] [0,1,2,3,4,1,2]) (fun y o h=> ?_) (fun r74 h e σ' hq=> ?_))
 ·obtain⟨d19,d20,d21,d22⟩:=y
  unfold vC at h
  refine aC (aC ?_)
  obtain⟨z42,q42,h⟩:=aG h
  rcases z42 with⟨r64,r65⟩ | ⟨e87,e88⟩
  ·refine pP 1 [0,5,6,3,4] (bR q42) (aA (aO h (fun hb11 h=> ?_) (fun hb11 h=> ?_)))
   ·refine aB (aA (aF (aC ?_)))
    obtain⟨z44,q44,h⟩:=aG h
    rcases z44 with⟨r68,r69⟩ | ⟨e91,e92⟩
    ·refine pP 1 [0,5,6,3,4] (bV q44) (aA (G (aC ?_)))
     obtain⟨z46,q46,h⟩:=aG h
     rcases z46 with⟨r72,r73⟩ | ⟨e95,e96⟩
     ·refine pP 1 [0,5,6,3,4] (kD q46) (aA (aC (G (aO h (fun hb12 h=> ?_) (fun hb12 h=> ?_)))))
      ·obtain⟨z48,q48,h⟩:=aG h
       rcases z48 with _ | ⟨e99,e100⟩
       ·cases h
       refine GX 2 [0,5,6,3,4] (cU q48) (fun _=> ?_)
       obtain rfl:=sI h
       refine aQ (bN (b9 (aU ?_)))
       exact rfl
      refine aB (aA ?_)
      obtain⟨c32,h⟩:=aS h
      refine GD a0 [(11,11,oc c32)] ?_
      obtain⟨c34,h⟩:=aS h
      refine GD a0 [(13,13,oc c34)] (GCe 8 h (fun h=>aK ?_))
      exact eB h (gg [] [0,1,2,3,4,479,375])
     refine GX 1 [0,5,6,3,4] (kD q46) (fun _=> ?_)
     obtain rfl:=sI h
     refine aQ (bN (b9 (aU ?_)))
     exact rfl
    refine GX 1 [0,5,6,3,4] (bV q44) (fun _=> ?_)
    obtain rfl:=sI h
    refine aQ (bN (b9 (aU ?_)))
    exact rfl
   refine aH (aY ?_)
   obtain rfl:=sI h
   refine eR (bI ?_)
   exact b8 (gg [] [0,1,2,3,4,5,6])
  refine GX 1 [0,5,6,3,4] (bR q42) (fun _=> ?_)
  obtain rfl:=sI h
  refine aQ (aQ (b9 (aU ?_)))
  exact rfl
 rcases r74 with⟨v9,v10,v11,v12⟩ | ⟨e83,e84⟩
 ·obtain⟨rfl,hle⟩:=hq
  refine dH ?_ hle
  refine aJ ?_
  obtain rfl:=sI h
  exact(aR [] [] [0,1,2,3,4,5,6] [] (aIX d1 v9 d3 d4 d5 d6 o3 v12 v10 v11) 7 5 (by kernel_rfl) (by kernel_rfl) (by kernel_rfl)).normal
 obtain rfl:=hq
 refine bN ?_
 obtain rfl:=sI h
 exact rfl
def iE(c1:Int)(p1:List UInt8)(p2 p3 p4 p5 p6:Int)(o1:List (List UInt8))(o2:List Int)(o3:List Z7)(o4:List Z4):Option ((Int)⊕(Int×Int)) :=
 ((fO c1 p1 p2 p3 p4 p5 p6 o1 o2 o3 o4).bind fun(z6:(Bool×Int)⊕(Int×Int))=>match z6 with
 | .inr (e11,e12)=>some (Sum.inr (e11,e12))
 | .inl (r7,r8)=>(if(!r7)=true then((eL 21 r8 p1 r8 p3 p4 p5 p6 o1 o2 o3 o4).bind fun(z8:(Unit)⊕(Int×Int))=>match z8 with
 | .inr (e15,e16)=>some (Sum.inr (e15,e16))
 | .inl _=>none)
 else some (Sum.inl r8)))
theorem cH{c1:Int}{p1:List UInt8}{p2:Int}{p3:Int}{p4:Int}{p5:Int}{p6:Int}{o1:List (List UInt8)}{o2:List Int}{o3:List Z7}{o4:List Z4}{res:(Int)⊕(Int×Int)}(h:iE c1 p1 p2 p3 p4 p5 p6 o1 o2 o3 o4=some res):
  Does Tryz.prog 142 [.adr 0 0 10 0,.u8 c1] (bY p1 p2 p3 p4 p5 p6 o1 o2 o3 o4) (l0 (fun(q:Int)=>(.tup [],(bY p1 q p3 p4 p5 p6 o1 o2 o3 o4))) (bC 36 .i64 .i64) res):=by
 refine Does.of_body bB Tryz.func142 (by kernel_rfl) rfl (nl rfl) (fun Bw w0=> ?_)
 unfold iE at h
 refine aC ?_
 obtain⟨z6,q6,h⟩:=aG h
 rcases z6 with⟨r7,r8⟩ | ⟨e11,e12⟩
 ·refine pP 2 [0,1,2,3,4] (bR q6) (aA (aO h (fun hb2 h=> ?_) (fun hb2 h=> ?_)))
  ·obtain⟨z8,q8,h⟩:=aG h
   rcases z8 with _ | ⟨e15,e16⟩
   ·cases h
   refine GX 5 [0,1,2,3,4] (cU q8) (fun _=> ?_)
   obtain rfl:=sI h
   exact rfl
  refine aB ?_
  obtain rfl:=sI h
  exact(aR [] [] [0,1,2,3,4] [] (bY p1 r8 p3 p4 p5 p6 o1 o2 o3 o4) 5 5 (by kernel_rfl) (by kernel_rfl) (by kernel_rfl)).normal
 refine GX 2 [0,1,2,3,4] (bR q6) (fun _=>aQ ?_)
 obtain rfl:=sI h
 exact rfl
def oW(p1:List UInt8)(p2 p3 p4 p5 p6:Int)(o1:List (List UInt8))(o2:List Int)(o3:List Z7)(o4:List Z4):Option ((Int×Int)⊕(Int×Int)) :=
 ((kV p1 p2 p3 p4 p5 p6 o1 o2 o3 o4).bind fun(z6:((List UInt8)×Int×Int)⊕(Int×Int))=>match z6 with
 | .inr (e11,e12)=>some (Sum.inr (e11,e12))
 | .inl (r11,r12,r13)=>(if((bG .str o4 r11).isSome)=true then some (Sum.inl (((bG .str o4 r11).getD 0),r13))
 else((eL 22 r12 p1 r13 p3 p4 p5 p6 o1 o2 o3 o4).bind fun(z8:(Unit)⊕(Int×Int))=>match z8 with
 | .inr (e15,e16)=>some (Sum.inr (e15,e16))
 | .inl _=>none)))
theorem kE{p1:List UInt8}{p2:Int}{p3:Int}{p4:Int}{p5:Int}{p6:Int}{o1:List (List UInt8)}{o2:List Int}{o3:List Z7}{o4:List Z4}{res:(Int×Int)⊕(Int×Int)}(h:oW p1 p2 p3 p4 p5 p6 o1 o2 o3 o4=some res):
  Does Tryz.prog 155 [.adr 0 0 10 0] (bY p1 p2 p3 p4 p5 p6 o1 o2 o3 o4) (l0 (fun(q:Int×Int)=>(.u32 q.1,(bY p1 q.2 p3 p4 p5 p6 o1 o2 o3 o4))) (bC 36 .i64 .i64) res):=by
 refine Does.of_body bB Tryz.func155 (by kernel_rfl) rfl (nl rfl) (fun Bw w0=> ?_)
 unfold oW at h
 refine G (aC ?_)
 obtain⟨z6,q6,h⟩:=aG h
 rcases z6 with⟨r11,r12,r13⟩ | ⟨e11,e12⟩
 ·refine pP 1 [0,1,2,3,4] (eV q6) (aA (aC (G (G (aO h (fun hb2 h=> ?_) (fun hb2 h=> ?_))))))
  ·refine G (aL (aE ?_))
   obtain rfl:=sI h
   exact aR [some (.int .u32)] [] [0,1,2,3,4] [(2,.u32 ((bG .str o4 r11).getD 0))] (bY p1 r13 p3 p4 p5 p6 o1 o2 o3 o4) 5 5 (by kernel_rfl) (by kernel_rfl) (by kernel_rfl)
  refine aB (aA (aC ?_))
  obtain⟨z8,q8,h⟩:=aG h
  rcases z8 with _ | ⟨e15,e16⟩
  ·cases h
  refine GX 2 [0,1,2,3,4] (cU q8) (fun _=>aQ ?_)
  obtain rfl:=sI h
  exact rfl
 refine GX 1 [0,1,2,3,4] (eV q6) (fun _=>aQ ?_)
 obtain rfl:=sI h
 exact rfl
def qH(end1:Int)(p1:List UInt8)(p3 p4 p5 p6:Int)(o1:List (List UInt8))(o2:List Int)(o3:List Z7)(o4:List Z4):(Int×Int)→Option ((Int×Int)⊕((Int×Int)⊕(Int×Int))):=fun(p11,bits5) =>
 ((gD p1 p11 p3 p4 p5 p6 o1 o2 o3 o4).bind fun(z22:(Int×Int)⊕(Int×Int))=>match z22 with
 | .inr (e47,e48)=>some (Sum.inr (Sum.inr (e47,e48)))
 | .inl (r45,r46)=>(if(r45 != end1)=true then((oW p1 r46 p3 p4 p5 p6 o1 o2 o3 o4).bind fun(z24:(Int×Int)⊕(Int×Int))=>match z24 with
 | .inr (e51,e52)=>some (Sum.inr (Sum.inr (e51,e52)))
 | .inl (r49,r50)=>some (Sum.inl (r50,(aT .or .u32 bits5 r49))))
 else some (Sum.inr (Sum.inl (r46,bits5)))))
def gX(end1:Int)(p1:List UInt8)(p2 p3 p4 p5 p6:Int)(o1:List (List UInt8))(o2:List Int)(o3:List Z7)(o4:List Z4):Option ((Int×Int)⊕(Int×Int)) :=
 ((iter (qH end1 p1 p3 p4 p5 p6 o1 o2 o3 o4) (p2,0)).bind fun(r51:((Int×Int)⊕(Int×Int)))=>match r51 with
 | .inl (p12,bits6)=>some (Sum.inl (bits6,(IntKind.i64.wrap (p12+1))))
 | .inr ((e43,e44))=>some (Sum.inr (e43,e44)))
theorem bH{end1:Int}{p1:List UInt8}{p2:Int}{p3:Int}{p4:Int}{p5:Int}{p6:Int}{o1:List (List UInt8)}{o2:List Int}{o3:List Z7}{o4:List Z4}{res:(Int×Int)⊕(Int×Int)}(h:gX end1 p1 p2 p3 p4 p5 p6 o1 o2 o3 o4=some res):
  Does Tryz.prog 143 [.adr 0 0 10 0,.u8 end1] (bY p1 p2 p3 p4 p5 p6 o1 o2 o3 o4) (l0 (fun(q:Int×Int)=>(.u32 q.1,(bY p1 q.2 p3 p4 p5 p6 o1 o2 o3 o4))) (bC 36 .i64 .i64) res):=by
 refine Does.of_body bB Tryz.func143 (by kernel_rfl) rfl (nl rfl) (fun Bw w0=> ?_)
 unfold gX at h
 refine G (G (aC (aF (mG h (fun(p11,bits5)=>aM [(0,.adr 0 0 10 0),(1,.u8 end1),(5,.u32 bits5)] (bY p1 p11 p3 p4 p5 p6 o1 o2 o3 o4) 5 5) (eI (fV Tryz.f143.ntmps 0 (fun(p12,bits6)=>aM [(0,.adr 0 0 10 0),(5,.u32 bits6)] (bY p1 p12 p3 p4 p5 p6 o1 o2 o3 o4) 5 5)) (yV (bC 36 .i64 .i64))) (gg [] [0,1,2,3,4]) (fun y o h=> ?_) (fun r51 h e σ' hq=> ?_)))))
 ·obtain⟨p11,bits5⟩:=y
  unfold qH at h
  refine aC (aC ?_)
  obtain⟨z22,q22,h⟩:=aG h
  rcases z22 with⟨r45,r46⟩ | ⟨e47,e48⟩
  ·refine pP 1 [0,1,2,3,4] (bV q22) (aA (aO h (fun hb6 h=> ?_) (fun hb6 h=> ?_)))
   ·refine aB (aA (aF ?_))
    obtain⟨z24,q24,h⟩:=aG h
    rcases z24 with⟨r49,r50⟩ | ⟨e51,e52⟩
    ·refine pP 2 [0,1,2,3,4] (kE q24) (aK ?_)
     exact eB h (gg [] [0,1,2,3,4])
    refine GX 2 [0,1,2,3,4] (kE q24) (fun _=> ?_)
    obtain rfl:=sI h
    refine bN (b9 (aU ?_))
    exact rfl
   refine aH (aY ?_)
   obtain rfl:=sI h
   refine eR (bI ?_)
   exact b8 (gg [] [0,1,2,3,4])
  refine GX 1 [0,1,2,3,4] (bV q22) (fun _=> ?_)
  obtain rfl:=sI h
  refine aQ (aQ (b9 (aU ?_)))
  exact rfl
 rcases r51 with⟨p12,bits6⟩ | ⟨e43,e44⟩
 ·obtain⟨rfl,hle⟩:=hq
  refine dH ?_ hle
  refine aJ (aA (G (G (aL ?_))))
  obtain rfl:=sI h
  exact aR [some (.int .u32)] [] [0,1,2,3,4] [(4,.u32 bits6)] (bY p1 (IntKind.i64.wrap (p12+1)) p3 p4 p5 p6 o1 o2 o3 o4) 5 5 (by kernel_rfl) (by kernel_rfl) (by kernel_rfl)
 obtain rfl:=hq
 refine bN (aQ ?_)
 obtain rfl:=sI h
 exact rfl
def C7(p1:List UInt8)(p2 p3 p4 p5 p6:Int)(o1:List (List UInt8))(o2:List Int)(o3:List Z7)(o4:List Z4):Option ((Int×List Z4)⊕(Int×Int)) :=
 ((oM p1 p2 p3 p4 p5 p6 o1 o2 o3 o4).bind fun(z8:Z4⊕(Int×Int))=>match z8 with
 | .inr (e15,e16)=>some (Sum.inr (e15,e16))
 | .inl (r13,r14)=>((iE 61 p1 r14 p3 p4 p5 p6 o1 o2 o3 o4).bind fun(z10:(Int)⊕(Int×Int))=>match z10 with
 | .inr (e19,e20)=>some (Sum.inr (e19,e20))
 | .inl r16=>((gX 59 p1 r16 p3 p4 p5 p6 o1 o2 o3 o4).bind fun(z12:(Int×Int)⊕(Int×Int))=>match z12 with
 | .inr (e23,e24)=>some (Sum.inr (e23,e24))
 | .inl (r19,r20)=>some (Sum.inl (r20,(fF .str o4 r13 r19))))))
theorem zV{p1:List UInt8}{p2:Int}{p3:Int}{p4:Int}{p5:Int}{p6:Int}{o1:List (List UInt8)}{o2:List Int}{o3:List Z7}{o4:List Z4}{res:(Int×List Z4)⊕(Int×Int)}(h:C7 p1 p2 p3 p4 p5 p6 o1 o2 o3 o4=some res):
  Does Tryz.prog 111 [.adr 0 0 10 0] (bY p1 p2 p3 p4 p5 p6 o1 o2 o3 o4) (l0 (fun(q:Int×List Z4)=>(.tup [],(bY p1 q.1 p3 p4 p5 p6 o1 o2 o3 q.2))) (bC 36 .i64 .i64) res):=by
 refine Does.of_body bB Tryz.func111 (by kernel_rfl) rfl (nl rfl) (fun Bw w0=> ?_)
 unfold C7 at h
 refine aC ?_
 obtain⟨z8,q8,h⟩:=aG h
 rcases z8 with⟨r13,r14⟩ | ⟨e15,e16⟩
 ·refine pP 1 [0,1,2,3,4] (kD q8) (aA (aC ?_))
  obtain⟨z10,q10,h⟩:=aG h
  rcases z10 with r16 | ⟨e19,e20⟩
  ·refine pP 1 [0,1,2,3,4] (cH q10) (aA ?_)
   obtain⟨z12,q12,h⟩:=aG h
   rcases z12 with⟨r19,r20⟩ | ⟨e23,e24⟩
   ·have u_1:=(bH q12)
    refine uU bB xG ⟨[],[(6,(oO u_1 [0,1,2,3,4]))]⟩ (.one 0 (.one 1 (.one 2 (.one 4 (.one 5 (.two 3 (.one 6 (.one 7 (.leaf))) 6 (.one 3 (.one 7 (.leaf))))))))) [([],[]),([],[]),([],[]),([0],[]),([],[]),([],[]),([0,1,2,3,4],[0,1,2,3,4,93,94,95,96,97,98,99,100]),([4],[4])] 2 [] [] [0,1,2,3,4] [] (bY p1 r20 p3 p4 p5 p6 o1 o2 o3 (fF .str o4 r13 r19)) 5 5 (Ts 6 ((pO u_1)::(pO u_1)::(Ts 3 []))) (by kernel_rfl) (by kernel_rfl) (tr 6 ⟨u_1,u_1,(tr 3 tt)⟩) (fun _=> ?_) (fun y hy=>by cases hy)
    obtain rfl:=sI h
    exact(aR [] [] [0,1,2,3,4] [] (bY p1 r20 p3 p4 p5 p6 o1 o2 o3 (fF .str o4 r13 r19)) 5 5 (by kernel_rfl) (by kernel_rfl) (by kernel_rfl)).normal
   have u_1:=(bH q12)
   refine uU bB xG ⟨[],[(6,(oD u_1 [0,1,2,3,4]))]⟩ (.one 0 (.one 1 (.one 2 (.one 4 (.one 5 (.twoD 3 (.dead 6) 6)))))) [([],[]),([],[]),([],[]),([0],[]),([],[]),([],[]),([0,1,2,3,4],[0,1,2,3,4,93,94,95,96,97,98,99,100]),([],[])] 0 [(bC 36 .i64 .i64 (e23,e24)),(bC 36 .i64 .i64 (e23,e24))] [] [0,1,2,3,4] [] [] 5 5 (Ts 6 [Dies Tryz.prog 143 [.adr 0 0 10 0,.u8 59] (bY p1 r16 p3 p4 p5 p6 o1 o2 o3 o4) (bC 36 .i64 .i64 (e23,e24)),Dies Tryz.prog 143 [.adr 0 0 10 0,.u8 59] (bY p1 r16 p3 p4 p5 p6 o1 o2 o3 o4) (bC 36 .i64 .i64 (e23,e24))]) (by kernel_rfl) (by kernel_rfl) (tr 6 ⟨(bH q12),(bH q12),tt⟩) (fun h0=>absurd rfl h0) (fun y hy σ1=> ?_)
   obtain rfl:y=(bC 36 .i64 .i64 (e23,e24)):=by simpa using hy
   obtain rfl:=sI h
   exact rfl
  refine GX 1 [0,1,2,3,4] (cH q10) (fun _=>aQ ?_)
  obtain rfl:=sI h
  exact rfl
 refine GX 1 [0,1,2,3,4] (kD q8) (fun _=>aQ ?_)
 obtain rfl:=sI h
 exact rfl
def xY(p1:List UInt8)(p2 p3 p4 p5 p6:Int)(o1:List (List UInt8))(o2:List Int)(o3:List Z7)(o4:List Z4):Option (Z8⊕(Int×Int)) :=
 ((gX 47 p1 p2 p3 p4 p5 p6 o1 o2 o3 o4).bind fun(z6:(Int×Int)⊕(Int×Int))=>match z6 with
 | .inr (e11,e12)=>some (Sum.inr (e11,e12))
 | .inl (r11,r12)=>((gX 59 p1 r12 (aT .or .u32 p3 r11) p4 p5 p6 o1 o2 o3 o4).bind fun(z8:(Int×Int)⊕(Int×Int))=>match z8 with
 | .inr (e15,e16)=>some (Sum.inr (e15,e16))
 | .inl (r15,r16)=>some (Sum.inl (r16,(aT .or .u32 p3 r11),(aT .or .u32 p4 r15)))))
theorem xI{p1:List UInt8}{p2:Int}{p3:Int}{p4:Int}{p5:Int}{p6:Int}{o1:List (List UInt8)}{o2:List Int}{o3:List Z7}{o4:List Z4}{res:Z8⊕(Int×Int)}(h:xY p1 p2 p3 p4 p5 p6 o1 o2 o3 o4=some res):
  Does Tryz.prog 112 [.adr 0 0 10 0] (bY p1 p2 p3 p4 p5 p6 o1 o2 o3 o4) (l0 (fun(q:Int×Int×Int)=>(.tup [],(bY p1 q.1 q.2.1 q.2.2 p5 p6 o1 o2 o3 o4))) (bC 36 .i64 .i64) res):=by
 refine Does.of_body bB Tryz.func112 (by kernel_rfl) rfl (nl rfl) (fun Bw w0=> ?_)
 unfold xY at h
 refine aC ?_
 obtain⟨z6,q6,h⟩:=aG h
 rcases z6 with⟨r11,r12⟩ | ⟨e11,e12⟩
 ·have u_1:=(bH q6)
  refine uU bB xG ⟨[],[(6,(oO u_1 [0,1,2,3,4]))]⟩ (.one 0 (.one 1 (.one 2 (.one 3 (.one 5 (.two 4 (.one 6 (.one 7 (.one 8 (.one 9 (.one 10 (.one 11 (.leaf))))))) 6 (.one 4 (.one 7 (.one 8 (.one 9 (.one 10 (.one 11 (.leaf))))))))))))) [([],[]),([],[]),([],[]),([],[]),([0],[]),([],[]),([0,1,2,3,4],[0,1,2,3,4,53,54,55,56,57,58,59,60]),([],[]),([],[]),([],[]),([],[]),([0],[0])] 2 [] [] [0,1,2,3,4] [(0,.adr 0 0 10 0)] (bY p1 r12 (aT .or .u32 p3 r11) p4 p5 p6 o1 o2 o3 o4) 5 5 (Ts 6 ((pO u_1)::(pO u_1)::(Ts 11 []))) (by kernel_rfl) (by kernel_rfl) (tr 6 ⟨u_1,u_1,(tr 11 tt)⟩) (fun _=> ?_) (fun y hy=>by cases hy)
  refine aA ?_
  obtain⟨z8,q8,h⟩:=aG h
  rcases z8 with⟨r15,r16⟩ | ⟨e15,e16⟩
  ·have u_1:=(bH q8)
   refine uU bB xG ⟨[],[(6,(oO u_1 [0,1,2,3,4]))]⟩ (.one 0 (.one 1 (.one 2 (.one 3 (.one 5 (.two 4 (.one 6 (.one 7 (.one 8 (.one 9 (.one 10 (.one 11 (.leaf))))))) 6 (.one 4 (.one 7 (.one 8 (.one 9 (.one 10 (.one 11 (.leaf))))))))))))) [([],[]),([],[]),([],[]),([],[]),([0],[]),([],[]),([0,1,2,3,4],[0,1,2,3,4,53,54,55,56,57,58,59,60]),([],[]),([],[]),([],[]),([],[]),([0],[0])] 2 [] [] [0,1,2,3,4] [] (bY p1 r16 (aT .or .u32 p3 r11) (aT .or .u32 p4 r15) p5 p6 o1 o2 o3 o4) 5 5 (Ts 6 ((pO u_1)::(pO u_1)::(Ts 11 []))) (by kernel_rfl) (by kernel_rfl) (tr 6 ⟨u_1,u_1,(tr 11 tt)⟩) (fun _=> ?_) (fun y hy=>by cases hy)
   obtain rfl:=sI h
   exact(aR [] [] [0,1,2,3,4] [] (bY p1 r16 (aT .or .u32 p3 r11) (aT .or .u32 p4 r15) p5 p6 o1 o2 o3 o4) 5 5 (by kernel_rfl) (by kernel_rfl) (by kernel_rfl)).normal
  have u_1:=(bH q8)
  refine uU bB xG ⟨[],[(6,(oD u_1 [0,1,2,3,4]))]⟩ (.one 0 (.one 1 (.one 2 (.one 3 (.one 5 (.twoD 4 (.dead 6) 6)))))) [([],[]),([],[]),([],[]),([],[]),([0],[]),([],[]),([0,1,2,3,4],[0,1,2,3,4,53,54,55,56,57,58,59,60]),([],[]),([],[]),([],[]),([],[]),([],[])] 0 [(bC 36 .i64 .i64 (e15,e16)),(bC 36 .i64 .i64 (e15,e16))] [] [0,1,2,3,4] [] [] 5 5 (Ts 6 [Dies Tryz.prog 143 [.adr 0 0 10 0,.u8 59] (bY p1 r12 (aT .or .u32 p3 r11) p4 p5 p6 o1 o2 o3 o4) (bC 36 .i64 .i64 (e15,e16)),Dies Tryz.prog 143 [.adr 0 0 10 0,.u8 59] (bY p1 r12 (aT .or .u32 p3 r11) p4 p5 p6 o1 o2 o3 o4) (bC 36 .i64 .i64 (e15,e16))]) (by kernel_rfl) (by kernel_rfl) (tr 6 ⟨(bH q8),(bH q8),tt⟩) (fun h0=>absurd rfl h0) (fun y hy σ1=> ?_)
  obtain rfl:y=(bC 36 .i64 .i64 (e15,e16)):=by simpa using hy
  obtain rfl:=sI h
  exact rfl
 have u_1:=(bH q6)
 refine uU bB xG ⟨[],[(6,(oD u_1 [0,1,2,3,4]))]⟩ (.one 0 (.one 1 (.one 2 (.one 3 (.one 5 (.twoD 4 (.dead 6) 6)))))) [([],[]),([],[]),([],[]),([],[]),([0],[]),([],[]),([0,1,2,3,4],[0,1,2,3,4,53,54,55,56,57,58,59,60]),([],[]),([],[]),([],[]),([],[]),([],[])] 0 [(bC 36 .i64 .i64 (e11,e12)),(bC 36 .i64 .i64 (e11,e12))] [] [0,1,2,3,4] [] [] 5 5 (Ts 6 [Dies Tryz.prog 143 [.adr 0 0 10 0,.u8 47] (bY p1 p2 p3 p4 p5 p6 o1 o2 o3 o4) (bC 36 .i64 .i64 (e11,e12)),Dies Tryz.prog 143 [.adr 0 0 10 0,.u8 47] (bY p1 p2 p3 p4 p5 p6 o1 o2 o3 o4) (bC 36 .i64 .i64 (e11,e12))]) (by kernel_rfl) (by kernel_rfl) (tr 6 ⟨(bH q6),(bH q6),tt⟩) (fun h0=>absurd rfl h0) (fun y hy σ1=> ?_)
 obtain rfl:y=(bC 36 .i64 .i64 (e11,e12)):=by simpa using hy
 refine aQ ?_
 obtain rfl:=sI h
 exact rfl
def wF(p1:List UInt8)(p2 p3 p4 p5 p6:Int)(o1:List (List UInt8))(o2:List Int)(o3:List Z7)(o4:List Z4):Option ((Int×Int)⊕(Int×Int)) :=
 ((kV p1 p2 p3 p4 p5 p6 o1 o2 o3 o4).bind fun(z6:((List UInt8)×Int×Int)⊕(Int×Int))=>match z6 with
 | .inr (e11,e12)=>some (Sum.inr (e11,e12))
 | .inl (r13,r14,r15)=>((fC o1 r13).bind fun r17 =>
 (if(decide (r17<0))=true then((eL 22 r14 p1 r15 p3 p4 p5 p6 o1 o2 o3 o4).bind fun(z8:(Unit)⊕(Int×Int))=>match z8 with
 | .inr (e15,e16)=>some (Sum.inr (e15,e16))
 | .inl _=>none)
 else some (Sum.inl (r17,r15)))))
theorem iV{p1:List UInt8}{p2:Int}{p3:Int}{p4:Int}{p5:Int}{p6:Int}{o1:List (List UInt8)}{o2:List Int}{o3:List Z7}{o4:List Z4}{res:(Int×Int)⊕(Int×Int)}(h:wF p1 p2 p3 p4 p5 p6 o1 o2 o3 o4=some res):
  Does Tryz.prog 144 [.adr 0 0 10 0] (bY p1 p2 p3 p4 p5 p6 o1 o2 o3 o4) (l0 (fun(q:Int×Int)=>(.i64 q.1,(bY p1 q.2 p3 p4 p5 p6 o1 o2 o3 o4))) (bC 36 .i64 .i64) res):=by
 refine Does.of_body bB Tryz.func144 (by kernel_rfl) rfl (nl rfl) (fun Bw w0=> ?_)
 unfold wF at h
 refine G (aC ?_)
 obtain⟨z6,q8,h⟩:=aG h
 rcases z6 with⟨r13,r14,r15⟩ | ⟨e11,e12⟩
 ·refine pP 1 [0,1,2,3,4] (eV q8) (aA ?_)
  obtain⟨r17,q10,h⟩:=aG h
  refine GP 6 (lQ true q10) (aC (G (aO h (fun hb2 h=> ?_) (fun hb2 h=> ?_))))
  ·obtain⟨z8,q12,h⟩:=aG h
   rcases z8 with _ | ⟨e15,e16⟩
   ·cases h
   refine GX 2 [0,1,2,3,4] (cU q12) (fun _=>aQ ?_)
   obtain rfl:=sI h
   exact rfl
  refine aB (aA (G (aL ?_)))
  obtain rfl:=sI h
  exact aR [some (.int .i64)] [] [0,1,2,3,4] [(2,.i64 r17)] (bY p1 r15 p3 p4 p5 p6 o1 o2 o3 o4) 5 5 (by kernel_rfl) (by kernel_rfl) (by kernel_rfl)
 refine GX 1 [0,1,2,3,4] (eV q8) (fun _=>aQ ?_)
 obtain rfl:=sI h
 exact rfl
def vS(p1:List UInt8)(p2 p3 p4 p5 p6:Int)(o1:List (List UInt8))(o2:List Int)(o3:List Z7)(o4:List Z4):Option ((Int×List Int)⊕(Int×Int)) :=
 ((wF p1 p2 p3 p4 p5 p6 o1 o2 o3 o4).bind fun(z10:(Int×Int)⊕(Int×Int))=>match z10 with
 | .inr (e19,e20)=>some (Sum.inr (e19,e20))
 | .inl (r15,r16)=>((iE 61 p1 r16 p3 p4 p5 p6 o1 o2 o3 o4).bind fun(z12:(Int)⊕(Int×Int))=>match z12 with
 | .inr (e23,e24)=>some (Sum.inr (e23,e24))
 | .inl r18=>((wF p1 r18 p3 p4 p5 p6 o1 o2 o3 o4).bind fun(z14:(Int×Int)⊕(Int×Int))=>match z14 with
 | .inr (e27,e28)=>some (Sum.inr (e27,e28))
 | .inl (r21,r22)=>(if 0≤r15∧r15<(o2.length:Int)then(if r15.toNat<o2.length then((iE 59 p1 r22 p3 p4 p5 p6 o1 (o2.set r15.toNat r21) o3 o4).bind fun(z16:(Int)⊕(Int×Int))=>match z16 with
 | .inr (e31,e32)=>some (Sum.inr (e31,e32))
 | .inl r24=>some (Sum.inl (r24,(o2.set r15.toNat r21))))else none)else none))))
theorem tD{p1:List UInt8}{p2:Int}{p3:Int}{p4:Int}{p5:Int}{p6:Int}{o1:List (List UInt8)}{o2:List Int}{o3:List Z7}{o4:List Z4}{res:(Int×List Int)⊕(Int×Int)}(h:vS p1 p2 p3 p4 p5 p6 o1 o2 o3 o4=some res):
  Does Tryz.prog 113 [.adr 0 0 10 0] (bY p1 p2 p3 p4 p5 p6 o1 o2 o3 o4) (l0 (fun(q:Int×List Int)=>(.tup [],(bY p1 q.1 p3 p4 p5 p6 o1 q.2 o3 o4))) (bC 36 .i64 .i64) res):=by
 refine Does.of_body bB Tryz.func113 (by kernel_rfl) rfl (nl rfl) (fun Bw w0=> ?_)
 unfold vS at h
 refine aC ?_
 obtain⟨z10,q10,h⟩:=aG h
 rcases z10 with⟨r15,r16⟩ | ⟨e19,e20⟩
 ·refine pP 1 [0,1,2,3,4] (iV q10) (aA (aC ?_))
  obtain⟨z12,q12,h⟩:=aG h
  rcases z12 with r18 | ⟨e23,e24⟩
  ·refine pP 1 [0,1,2,3,4] (cH q12) (aA (aC ?_))
   obtain⟨z14,q14,h⟩:=aG h
   rcases z14 with⟨r21,r22⟩ | ⟨e27,e28⟩
   ·obtain⟨c7,c8,h⟩:=g2 h
    have u_1:=(iV q14)
    refine uU bB xG ⟨[],[(7,(oO u_1 [0,1,2,3,4]))]⟩ (.one 0 (.one 1 (.one 2 (.one 3 (.one 5 (.one 6 (.two 4 (.one 7 (.one 8 (.one 9 (.leaf)))) 7 (.one 4 (.one 8 (.one 9 (.leaf))))))))))) [([],[]),([],[]),([],[]),([],[]),([0],[]),([],[]),([],[]),([0,1,2,3,4],[0,1,2,3,4,101,102,103,104,105,106,107,108]),([2],[]),([2],[2])] 2 [] [] [0,1,2,3,4] [(0,.adr 0 0 10 0)] (bY p1 r22 p3 p4 p5 p6 o1 (o2.set r15.toNat r21) o3 o4) 5 5 (Ts 7 [pO u_1,pO u_1,0≤r15∧r15<(o2.length:Int),r15.toNat<o2.length,True,0≤r15∧r15<(o2.length:Int),r15.toNat<o2.length]) (by kernel_rfl) (by kernel_rfl) (tr 7 ⟨u_1,u_1,c7,c8,tt,c7,c8,tt⟩) (fun _=> ?_) (fun y hy=>by cases hy)
    refine aA ?_
    obtain⟨z16,q16,h⟩:=aG h
    rcases z16 with r24 | ⟨e31,e32⟩
    ·refine pP 1 [0,1,2,3,4] (cH q16) ?_
     obtain rfl:=sI h
     exact(aR [] [] [0,1,2,3,4] [] (bY p1 r24 p3 p4 p5 p6 o1 (o2.set r15.toNat r21) o3 o4) 5 5 (by kernel_rfl) (by kernel_rfl) (by kernel_rfl)).normal
    refine GX 1 [0,1,2,3,4] (cH q16) (fun _=> ?_)
    obtain rfl:=sI h
    exact rfl
   have u_1:=(iV q14)
   refine uU bB xG ⟨[],[(7,(oD u_1 [0,1,2,3,4]))]⟩ (.one 0 (.one 1 (.one 2 (.one 3 (.one 5 (.one 6 (.twoD 4 (.dead 7) 7))))))) [([],[]),([],[]),([],[]),([],[]),([0],[]),([],[]),([],[]),([0,1,2,3,4],[0,1,2,3,4,101,102,103,104,105,106,107,108]),([],[]),([],[])] 0 [(bC 36 .i64 .i64 (e27,e28)),(bC 36 .i64 .i64 (e27,e28))] [] [0,1,2,3,4] [] [] 5 5 (Ts 7 [Dies Tryz.prog 144 [.adr 0 0 10 0] (bY p1 r18 p3 p4 p5 p6 o1 o2 o3 o4) (bC 36 .i64 .i64 (e27,e28)),Dies Tryz.prog 144 [.adr 0 0 10 0] (bY p1 r18 p3 p4 p5 p6 o1 o2 o3 o4) (bC 36 .i64 .i64 (e27,e28))]) (by kernel_rfl) (by kernel_rfl) (tr 7 ⟨(iV q14),(iV q14),tt⟩) (fun h0=>absurd rfl h0) (fun y hy σ1=> ?_)
   obtain rfl:y=(bC 36 .i64 .i64 (e27,e28)):=by simpa using hy
   refine aQ ?_
   obtain rfl:=sI h
   exact rfl
  refine GX 1 [0,1,2,3,4] (cH q12) (fun _=>aQ ?_)
  obtain rfl:=sI h
  exact rfl
 refine GX 1 [0,1,2,3,4] (iV q10) (fun _=>aQ ?_)
 obtain rfl:=sI h
 exact rfl
def vE(rec_pq_either_v1:(List UInt8)→Int→Int→Int→Int→Int→(List (List UInt8))→(List Int)→(List Z7)→(List Z4)→Option (wO⊕(Int×Int)))(d1:List UInt8)(d2 d3 d4 d5 d6:Int)(o1:List (List UInt8))(o2:List Int)(o3:List Z7)(o4:List Z4):Option (wO⊕(Int×Int)) :=
 ((fO 40 d1 d2 d3 d4 d5 d6 o1 o2 o3 o4).bind fun(z30:(Bool×Int)⊕(Int×Int))=>match z30 with
 | .inr (e61,e62)=>some (Sum.inr (e61,e62))
 | .inl (r55,r56)=>(if r55=true then(if(decide ((IntKind.i64.wrap (d6+1)) > 16))=true then((eL 25 d2 d1 r56 d3 d4 d5 (IntKind.i64.wrap (d6+1)) o1 o2 o3 o4).bind fun(z32:(Unit)⊕(Int×Int))=>match z32 with
 | .inr (e65,e66)=>some (Sum.inr (e65,e66))
 | .inl _=>none)
 else((rec_pq_either_v1 d1 r56 d3 d4 d5 (IntKind.i64.wrap (d6+1)) o1 o2 o3 o4).bind fun(z34:wO⊕(Int×Int))=>match z34 with
 | .inr (e69,e70)=>some (Sum.inr (e69,e70))
 | .inl (r61,r62,r63,r64)=>((iE 41 d1 r62 d3 d4 r63 r64 o1 o2 o3 o4).bind fun(z36:(Int)⊕(Int×Int))=>match z36 with
 | .inr (e73,e74)=>some (Sum.inr (e73,e74))
 | .inl r66=>some (Sum.inl ((Tree.node r61.op r61.set r61.kids),r66,r63,(IntKind.i64.wrap (r64 - 1)))))))
 else(if(decide ((IntKind.i64.wrap (d5+1)) > 200))=true then((eL 26 d2 d1 r56 d3 d4 (IntKind.i64.wrap (d5+1)) d6 o1 o2 o3 o4).bind fun(z38:(Unit)⊕(Int×Int))=>match z38 with
 | .inr (e77,e78)=>some (Sum.inr (e77,e78))
 | .inl _=>none)
 else(if 0≤(o1.length:Int)then((fO 46 d1 r56 d3 d4 (IntKind.i64.wrap (d5+1)) d6 o1 o2 o3 o4).bind fun(z40:(Bool×Int)⊕(Int×Int))=>match z40 with
 | .inr (e81,e82)=>some (Sum.inr (e81,e82))
 | .inl (r69,r70)=>(((if r69=true then some ((Sum.inl ((IntKind.u32.wrap ((IntKind.u32.wrap (1*2 ^ (min (o1.length:Int).toNat IntKind.u32.bits))) - 1)),r70)))
 else((fO 91 d1 r70 d3 d4 (IntKind.i64.wrap (d5+1)) d6 o1 o2 o3 o4).bind fun(z50:(Bool×Int)⊕(Int×Int))=>match z50 with
 | .inr (e103,e104)=>some ((Sum.inr (e103,e104)))
 | .inl (r89,r90)=>(if r89=true then((fO 94 d1 r90 d3 d4 (IntKind.i64.wrap (d5+1)) d6 o1 o2 o3 o4).bind fun(z52:(Bool×Int)⊕(Int×Int))=>match z52 with
 | .inr (e107,e108)=>some ((Sum.inr (e107,e108)))
 | .inl (r93,r94)=>((gX 93 d1 r94 d3 d4 (IntKind.i64.wrap (d5+1)) d6 o1 o2 o3 o4).bind fun(z54:(Int×Int)⊕(Int×Int))=>match z54 with
 | .inr (e111,e112)=>some ((Sum.inr (e111,e112)))
 | .inl (r97,r98)=>(if r93=true then some ((Sum.inl ((aT .andNot .u32 (IntKind.u32.wrap ((IntKind.u32.wrap (1*2 ^ (min (o1.length:Int).toNat IntKind.u32.bits))) - 1)) r97),r98)))
 else some ((Sum.inl (r97,r98))))))
 else((oW d1 r90 d3 d4 (IntKind.i64.wrap (d5+1)) d6 o1 o2 o3 o4).bind fun(z56:(Int×Int)⊕(Int×Int))=>match z56 with
 | .inr (e115,e116)=>some ((Sum.inr (e115,e116)))
 | .inl (r101,r102)=>some ((Sum.inl (r101,r102)))))))).bind fun(r103:((Int×Int)⊕(Int×Int)))=>match r103 with
 | .inl (v6,v7)=>some (Sum.inl ((Tree.node 1 v6 ([]:List Tree)),v7,(IntKind.i64.wrap (d5+1)),d6))
 | .inr ((e99,e100))=>some (Sum.inr (e99,e100))))else none))))
theorem uI(rec_pq_either_v1:(List UInt8)→Int→Int→Int→Int→Int→(List (List UInt8))→(List Int)→(List Z7)→(List Z4)→Option (wO⊕(Int×Int)))(hrec_pq_either_v1:∀ {p1:List UInt8} {p2:Int} {p3:Int} {p4:Int} {p5:Int} {p6:Int} {o1:List (List UInt8)} {o2:List Int} {o3:List Z7} {o4:List Z4} {res:wO⊕(Int×Int)},rec_pq_either_v1 p1 p2 p3 p4 p5 p6 o1 o2 o3 o4=some res→Does Tryz.prog 148 [.adr 0 0 10 0] (bY p1 p2 p3 p4 p5 p6 o1 o2 o3 o4) (l0 (fun(q:Tree×Int×Int×Int)=>(.agg [.u8 q.1.op,.u32 q.1.set,.p false (.slice (.tree .u8 .u32)) q.1.kids],(bY p1 q.2.1 p3 p4 q.2.2.1 q.2.2.2 o1 o2 o3 o4))) (bC 36 .i64 .i64) res)){d1:List UInt8}{d2:Int}{d3:Int}{d4:Int}{d5:Int}{d6:Int}{o1:List (List UInt8)}{o2:List Int}{o3:List Z7}{o4:List Z4}{res:wO⊕(Int×Int)}(h:vE rec_pq_either_v1 d1 d2 d3 d4 d5 d6 o1 o2 o3 o4=some res):
  Does Tryz.prog 167 [.adr 0 0 10 0] (bY d1 d2 d3 d4 d5 d6 o1 o2 o3 o4) (l0 (fun(q:Tree×Int×Int×Int)=>(.agg [.u8 q.1.op,.u32 q.1.set,.p false (.slice (.tree .u8 .u32)) q.1.kids],(bY d1 q.2.1 d3 d4 q.2.2.1 q.2.2.2 o1 o2 o3 o4))) (bC 36 .i64 .i64) res):=by
 refine Does.of_body bB Tryz.func167 (by kernel_rfl) rfl (nl rfl) (fun Bw w0=> ?_)
 unfold vE at h
 refine G (G (aC (aC ?_)))
 obtain⟨z30,q30,h⟩:=aG h
 rcases z30 with⟨r55,r56⟩ | ⟨e61,e62⟩
 ·refine pP 1 [0,1,2,3,4] (bR q30) (aA (aO h (fun hb10 h=> ?_) (fun hb10 h=> ?_)))
  ·refine aC (G (G (aO h (fun hb11 h=> ?_) (fun hb11 h=> ?_))))
   ·obtain⟨z32,q32,h⟩:=aG h
    rcases z32 with _ | ⟨e65,e66⟩
    ·cases h
    refine GX 2 [0,1,2,3,4] (cU q32) (fun _=>aQ (aQ ?_))
    obtain rfl:=sI h
    exact rfl
   refine aB (aA (aC ?_))
   obtain⟨z34,q34,h⟩:=aG h
   rcases z34 with⟨r61,r62,r63,r64⟩ | ⟨e69,e70⟩
   ·refine pP 1 [0,1,2,3,4] (hrec_pq_either_v1 q34) (aA (aC ?_))
    obtain⟨z36,q36,h⟩:=aG h
    rcases z36 with r66 | ⟨e73,e74⟩
    ·refine pP 1 [0,1,2,3,4] (cH q36) (aA (G (G (aL (aE ?_)))))
     obtain rfl:=sI h
     exact aR [some (.tree .u8 .u32)] [] [0,1,2,3,4,5] [(2,.adr 5 0 3 0)] (aE1 d1 r66 d3 d4 r63 (IntKind.i64.wrap (r64 - 1)) o1 o2 o3 o4 r61.op r61.set r61.kids) 6 5 (by kernel_rfl) (by kernel_rfl) (by kernel_rfl)
    refine GX 1 [0,1,2,3,4] (cH q36) (fun _=>aQ (aQ ?_))
    obtain rfl:=sI h
    exact rfl
   refine GX 1 [0,1,2,3,4] (hrec_pq_either_v1 q34) (fun _=>aQ (aQ ?_))
   obtain rfl:=sI h
   exact rfl
  refine aB (aA (aC (G (G (aO h (fun hb12 h=> ?_) (fun hb12 h=> ?_))))))
  ·obtain⟨z38,q38,h⟩:=aG h
   rcases z38 with _ | ⟨e77,e78⟩
   ·cases h
   refine GX 2 [0,1,2,3,4] (cU q38) (fun _=>aQ ?_)
   obtain rfl:=sI h
   exact rfl
  refine aB (aA (G (GC 6 h (fun h=>aC (aF (aC ?_))))))
  obtain⟨z40,q40,h⟩:=aG h
  rcases z40 with⟨r69,r70⟩ | ⟨e81,e82⟩
  ·refine pP 1 [0,1,2,3,4] (bR q40) (aA (aEl h (eI (sT Tryz.f167.ntmps (fun(v6,v7)=>aM [(2,.adr 5 0 3 0),(5,.adr 6 0 3 0)] (aLQ d1 v7 d3 d4 (IntKind.i64.wrap (d5+1)) d6 o1 o2 o3 o4 0 (0:Int) (1:Int) v6) 7 5)) (yV (bC 36 .i64 .i64))) (fun r103 h=> ?_) (fun r103 h e σ' hq=> ?_)))
   ·refine aO h (fun hb16 h=> ?_) (fun hb16 h=> ?_)
    ·refine Ge ?_
     obtain rfl:=sI h
     refine bI ?_
     exact dI (gg [] [0,1,2,3,4,5,181])
    refine aC ?_
    obtain⟨z50,q50,h⟩:=aG h
    rcases z50 with⟨r89,r90⟩ | ⟨e103,e104⟩
    ·refine pP 1 [0,1,2,3,4] (bR q50) (aA (aO h (fun hb17 h=> ?_) (fun hb17 h=> ?_)))
     ·refine aC ?_
      obtain⟨z52,q52,h⟩:=aG h
      rcases z52 with⟨r93,r94⟩ | ⟨e107,e108⟩
      ·refine pP 1 [0,1,2,3,4] (bR q52) (aA (aC ?_))
       obtain⟨z54,q54,h⟩:=aG h
       rcases z54 with⟨r97,r98⟩ | ⟨e111,e112⟩
       ·refine pP 1 [0,1,2,3,4] (bH q54) (aA (G (aO h (fun hb18 h=> ?_) (fun hb18 h=> ?_))))
        ·refine Ge ?_
         obtain rfl:=sI h
         refine bI ?_
         exact dI (gg [] [0,1,2,3,4,5,181])
        refine aB ?_
        obtain rfl:=sI h
        refine bI ?_
        exact dI (gg [] [0,1,2,3,4,5,181])
       refine GX 1 [0,1,2,3,4] (bH q54) (fun _=> ?_)
       obtain rfl:=sI h
       refine aQ (aU ?_)
       exact rfl
      refine GX 1 [0,1,2,3,4] (bR q52) (fun _=> ?_)
      obtain rfl:=sI h
      refine aQ (aU ?_)
      exact rfl
     obtain⟨z56,q56,h⟩:=aG h
     rcases z56 with⟨r101,r102⟩ | ⟨e115,e116⟩
     ·refine pP 1 [0,1,2,3,4] (kE q56) ?_
      obtain rfl:=sI h
      refine bI ?_
      exact dI (gg [] [0,1,2,3,4,5,181])
     refine GX 1 [0,1,2,3,4] (kE q56) (fun _=> ?_)
     obtain rfl:=sI h
     refine aU ?_
     exact rfl
    refine GX 1 [0,1,2,3,4] (bR q50) (fun _=> ?_)
    obtain rfl:=sI h
    refine aQ (aU ?_)
    exact rfl
   rcases r103 with⟨v6,v7⟩ | ⟨e99,e100⟩
   ·obtain⟨rfl,hle⟩:=hq
    refine dH ?_ hle
    refine aK (aA (G (aL ?_)))
    obtain rfl:=sI h
    exact aR [some (.tree .u8 .u32)] [] [0,1,2,3,4,5] [(2,.adr 5 0 3 0)] (aKM d1 v7 d3 d4 (IntKind.i64.wrap (d5+1)) d6 o1 o2 o3 o4 1 v6) 6 5 (by kernel_rfl) (by kernel_rfl) (by kernel_rfl)
   obtain rfl:=hq
   refine bN (aQ ?_)
   obtain rfl:=sI h
   exact rfl
  refine GX 1 [0,1,2,3,4] (bR q40) (fun _=>aQ (bN (aQ ?_)))
  obtain rfl:=sI h
  exact rfl
 refine GX 1 [0,1,2,3,4] (bR q30) (fun _=>aQ (aQ ?_))
 obtain rfl:=sI h
 exact rfl
def vQ(p1:List UInt8)(p3 p4:Int)(o1:List (List UInt8))(o2:List Int)(o3:List Z7)(o4:List Z4)(r36:Tree)(r38 r39:Int):(Int×Int)→Option ((Int×Int)⊕((Int)⊕((Int×Int)⊕wO))):=fun(p15,v13) =>
 (if(decide (v13<7))=true then(if 0≤v13∧v13<((7:Nat):Int)then(((if((([0,0,0,0,42,43,63]:List Int).getD v13.toNat 0) != 0)=true then((fO (([0,0,0,0,42,43,63]:List Int).getD v13.toNat 0) p1 p15 p3 p4 r38 r39 o1 o2 o3 o4).bind fun(z22:(Bool×Int)⊕(Int×Int))=>match z22 with
 | .inr (e59,e60)=>some ((Sum.inr (e59,e60)))
 | .inl (r62,r63)=>some ((Sum.inl (r63,r62))))
 else some ((Sum.inl (p15,false))))).bind fun(r64:((Int×Bool)⊕(Int×Int)))=>match r64 with
 | .inl (p16,v15)=>(if v15=true then some (Sum.inr (Sum.inr (Sum.inr ((Tree.node (IntKind.u8.wrap v13) (0:Int) ([(Tree.node r36.op r36.set r36.kids)]:List Tree)),p16,r38,r39))))
 else some (Sum.inl (p16,(IntKind.i64.wrap (v13+1)))))
 | .inr ((e57,e58))=>some (Sum.inr (Sum.inr (Sum.inl (e57,e58)))))else none)
 else some (Sum.inr (Sum.inl p15)))
def uO(rec_pq_either_v1:(List UInt8)→Int→Int→Int→Int→Int→(List (List UInt8))→(List Int)→(List Z7)→(List Z4)→Option (wO⊕(Int×Int)))(p1:List UInt8)(p2 p3 p4 p5 p6:Int)(o1:List (List UInt8))(o2:List Int)(o3:List Z7)(o4:List Z4):Option (wO⊕(Int×Int)) :=
 ((vE rec_pq_either_v1 p1 p2 p3 p4 p5 p6 o1 o2 o3 o4).bind fun(z13:wO⊕(Int×Int))=>match z13 with
 | .inr (e33,e34)=>some (Sum.inr (e33,e34))
 | .inl (r36,r37,r38,r39)=>((iter (vQ p1 p3 p4 o1 o2 o3 o4 r36 r38 r39) (r37,0)).bind fun(r65:((Int)⊕((Int×Int)⊕wO)))=>match r65 with
 | .inl v14=>some (Sum.inl ((Tree.node r36.op r36.set r36.kids),v14,r38,r39))
 | .inr (.inl (e51,e52))=>some (Sum.inr (e51,e52))
 | .inr (.inr ((r54,r55,r56,r57)))=>some (Sum.inl (r54,r55,r56,r57))))
theorem vA(rec_pq_either_v1:(List UInt8)→Int→Int→Int→Int→Int→(List (List UInt8))→(List Int)→(List Z7)→(List Z4)→Option (wO⊕(Int×Int)))(hrec_pq_either_v1:∀ {p1:List UInt8} {p2:Int} {p3:Int} {p4:Int} {p5:Int} {p6:Int} {o1:List (List UInt8)} {o2:List Int} {o3:List Z7} {o4:List Z4} {res:wO⊕(Int×Int)},rec_pq_either_v1 p1 p2 p3 p4 p5 p6 o1 o2 o3 o4=some res→Does Tryz.prog 148 [.adr 0 0 10 0] (bY p1 p2 p3 p4 p5 p6 o1 o2 o3 o4) (l0 (fun(q:Tree×Int×Int×Int)=>(.agg [.u8 q.1.op,.u32 q.1.set,.p false (.slice (.tree .u8 .u32)) q.1.kids],(bY p1 q.2.1 p3 p4 q.2.2.1 q.2.2.2 o1 o2 o3 o4))) (bC 36 .i64 .i64) res)){p1:List UInt8}{p2:Int}{p3:Int}{p4:Int}{p5:Int}{p6:Int}{o1:List (List UInt8)}{o2:List Int}{o3:List Z7}{o4:List Z4}{res:wO⊕(Int×Int)}(h:uO rec_pq_either_v1 p1 p2 p3 p4 p5 p6 o1 o2 o3 o4=some res):
  Does Tryz.prog 164 [.adr 0 0 10 0] (bY p1 p2 p3 p4 p5 p6 o1 o2 o3 o4) (l0 (fun(q:Tree×Int×Int×Int)=>(.agg [.u8 q.1.op,.u32 q.1.set,.p false (.slice (.tree .u8 .u32)) q.1.kids],(bY p1 q.2.1 p3 p4 q.2.2.1 q.2.2.2 o1 o2 o3 o4))) (bC 36 .i64 .i64) res):=by
 refine Does.of_body bB Tryz.func164 (by kernel_rfl) rfl (nl rfl) (fun Bw w0=> ?_)
 unfold uO at h
 refine G (aC ?_)
 obtain⟨z13,q13,h⟩:=aG h
 rcases z13 with⟨r36,r37,r38,r39⟩ | ⟨e33,e34⟩
 ·refine pP 1 [0,1,2,3,4] (uI rec_pq_either_v1 hrec_pq_either_v1 q13) (aA (aC (G (aF ?_))))
  refine mG h (fun(p15,v13)=>aM [(0,.adr 0 0 10 0),(2,.adr 5 0 3 0),(3,.adr 6 0 3 0),(8,.agg [.u8 0,.u8 0,.u8 0,.u8 0,.u8 42,.u8 43,.u8 63]),(9,.i64 v13)] (aJN p1 p15 p3 p4 r38 r39 o1 o2 o3 o4 0 (0:Int) r36.op r36.set r36.kids) 7 5) (eI (fV Tryz.f164.ntmps 0 (fun v14=>aM [(2,.adr 5 0 3 0),(3,.adr 6 0 3 0)] (aJN p1 v14 p3 p4 r38 r39 o1 o2 o3 o4 0 (0:Int) r36.op r36.set r36.kids) 7 5)) (eI (yV (bC 36 .i64 .i64)) (aEy tb Tryz.f164.ntmps Tryz.f164.results.toList (fun(r54,r55,r56,r57)=>(.agg [.u8 r54.op,.u32 r54.set,.p false (.slice (.tree .u8 .u32)) r54.kids],(bY p1 r55 p3 p4 r56 r57 o1 o2 o3 o4)))))) (gg [] [0,1,2,3,4,5,29]) (fun y o h=> ?_) (fun r65 h e σ' hq=> ?_)
  ·obtain⟨p15,v13⟩:=y
   unfold vQ at h
   refine G (aC (aO h (fun hb26 h=> ?_) (fun hb26 h=> ?_)))
   ·refine aB (aA (aC (aF (GC 1 h (fun h=>aC (aEl h (eI (sT Tryz.f164.ntmps (fun(p16,v15)=>aM [(0,.adr 0 0 10 0),(2,.adr 5 0 3 0),(3,.adr 6 0 3 0),(4,.i64 v13),(8,.agg [.u8 0,.u8 0,.u8 0,.u8 0,.u8 42,.u8 43,.u8 63]),(9,.i64 v13),(19,.bo v15)] (aJN p1 p16 p3 p4 r38 r39 o1 o2 o3 o4 0 (0:Int) r36.op r36.set r36.kids) 7 5)) (yV (bC 36 .i64 .i64))) (fun r64 h=> ?_) (fun r64 h e σ' hq=> ?_)))))))
    ·rcases aW h with⟨hb29,h⟩ | ⟨hb29,h⟩
     ·obtain⟨z22,q22,h⟩:=aG h
      rcases z22 with⟨r62,r63⟩ | ⟨e59,e60⟩
      ·have u_1:=(bR q22)
       refine bS ⟨[(2,true),(6,true)],[(5,(oO u_1 [0,1,2,3,4]))]⟩ [(3,4,an hb29),(5,5,oc (And.intro hb29 u_1)),(6,6,oc hb29)] ?_
       obtain rfl:=sI h
       refine bI ?_
       exact dI (gg [] [0,1,2,3,4,5,6])
      have u_1:=(bR q22)
      refine GXn u_1 ⟨[(2,true)],[(5,(oD u_1 [0,1,2,3,4]))]⟩ 5 [(3,4,an hb29),(5,5,oc (And.intro hb29 u_1))] (fun _=> ?_)
      obtain rfl:=sI h
      refine aU ?_
      exact rfl
     refine bS ⟨[(2,false),(6,false)],[]⟩ [(3,6,oc hb29)] ?_
     obtain rfl:=sI h
     refine bI ?_
     exact dI (gg [] [0,1,2,3,4,5,6])
    rcases r64 with⟨p16,v15⟩ | ⟨e57,e58⟩
    ·obtain⟨rfl,hle⟩:=hq
     refine dH ?_ hle
     refine aA (aO h (fun hb30 h=> ?_) (fun hb30 h=> ?_))
     ·refine G (pV [.frzC 5 2] (by kernel_rfl) (aL ?_))
      obtain rfl:=sI h
      refine aN (aE (bX (aU (aU ?_))))
      exact aBf (aR [some (.tree .u8 .u32)] [] [0,1,2,3,4,5] [(2,.adr 5 0 3 0)] (aE1 p1 p16 p3 p4 r38 r39 o1 o2 o3 o4 (IntKind.u8.wrap v13) (0:Int) ([(Tree.node r36.op r36.set r36.kids)]:List Tree)) 6 5 (by kernel_rfl) (by kernel_rfl) (by kernel_rfl))
     refine aB (aK (aA (Ge ?_)))
     exact eB h (gg [] [0,1,2,3,4,5,6])
    obtain rfl:=hq
    obtain rfl:=sI h
    refine aQ (bN (aQ (b9 (aU (aDH ?_)))))
    exact rfl
   refine aH (aY ?_)
   obtain rfl:=sI h
   refine eR (bI ?_)
   exact b8 (gg [] [0,1,2,3,4,5,6])
  rcases r65 with v14 | ⟨e51,e52⟩ | ⟨r54,r55,r56,r57⟩
  ·obtain⟨rfl,hle⟩:=hq
   refine dH ?_ hle
   refine aJ (aA (G (aL ?_)))
   obtain rfl:=sI h
   exact aR [some (.tree .u8 .u32)] [] [0,1,2,3,4,5] [(2,.adr 5 0 3 0)] (aE1 p1 v14 p3 p4 r38 r39 o1 o2 o3 o4 r36.op r36.set r36.kids) 6 5 (by kernel_rfl) (by kernel_rfl) (by kernel_rfl)
  ·obtain rfl:=hq
   refine bN (aQ ?_)
   obtain rfl:=sI h
   exact rfl
  obtain⟨rfl,hr⟩:=hq
  refine aN (aE ?_)
  obtain rfl:=sI h
  exact hr
 refine GX 1 [0,1,2,3,4] (uI rec_pq_either_v1 hrec_pq_either_v1 q13) (fun _=>aQ ?_)
 obtain rfl:=sI h
 exact rfl
def A7(p1:List UInt8)(p3 p4:Int)(o1:List (List UInt8))(o2:List Int)(o3:List Z7)(o4:List Z4)(rec_pq_either_v1:(List UInt8)→Int→Int→Int→Int→Int→(List (List UInt8))→(List Int)→(List Z7)→(List Z4)→Option (wO⊕(Int×Int))):(Int×Int×Int×(List Tree)×Int)→Option ((Int×Int×Int×(List Tree)×Int)⊕(((List Tree)×Int×Int×Int)⊕(Int×Int))):=fun(p16,p17,p18,l5,c4) =>
 ((((iW c4).bind fun r88 =>
 (if r88=true then some (true)
 else(if(c4 == 40)=true then some (true)
 else(if(c4 == 91)=true then some (true)
 else some ((c4 == 46))))))).bind fun v15=>(if v15=true then((uO rec_pq_either_v1 p1 p16 p3 p4 p17 p18 o1 o2 o3 o4).bind fun(z26:wO⊕(Int×Int))=>match z26 with
 | .inr (e55,e56)=>some (Sum.inr (Sum.inr (e55,e56)))
 | .inl (r93,r94,r95,r96)=>(if(l5.length+([(Tree.node r93.op r93.set r93.kids)]:List Tree).length)*32≤140737488355328∧l5.length+([(Tree.node r93.op r93.set r93.kids)]:List Tree).length≤9223372036854775807 then((gD p1 r94 p3 p4 r95 r96 o1 o2 o3 o4).bind fun(z28:(Int×Int)⊕(Int×Int))=>match z28 with
 | .inr (e59,e60)=>some (Sum.inr (Sum.inr (e59,e60)))
 | .inl (r99,r100)=>some (Sum.inl (r100,r95,r96,(l5++([(Tree.node r93.op r93.set r93.kids)]:List Tree)),r99)))else none))
 else some (Sum.inr (Sum.inl (l5,p16,p17,p18)))))
def vY(rec_pq_either_v1:(List UInt8)→Int→Int→Int→Int→Int→(List (List UInt8))→(List Int)→(List Z7)→(List Z4)→Option (wO⊕(Int×Int)))(p1:List UInt8)(p2 p3 p4 p5 p6:Int)(o1:List (List UInt8))(o2:List Int)(o3:List Z7)(o4:List Z4):Option (wO⊕(Int×Int)) :=
 ((gD p1 p2 p3 p4 p5 p6 o1 o2 o3 o4).bind fun(z16:(Int×Int)⊕(Int×Int))=>match z16 with
 | .inr (e33,e34)=>some (Sum.inr (e33,e34))
 | .inl (r54,r55)=>((iter (A7 p1 p3 p4 o1 o2 o3 o4 rec_pq_either_v1) (r55,p5,p6,([]:List Tree),r54)).bind fun(r101:(((List Tree)×Int×Int×Int)⊕(Int×Int)))=>match r101 with
 | .inl (l6,v12,v13,v14)=>(if((l6.length:Int) == 0)=true then some (Sum.inl ((Tree.node 0 (0:Int) ([]:List Tree)),v12,v13,v14))
 else(if((l6.length:Int) == 1)=true then(if 0≤(0:Int)∧0<(l6.length:Int)then(if(0:Int).toNat<l6.length then some (Sum.inl ((Tree.node ((l6.getD ((0:Int).toNat) (Tree.node 0 0 [])).op) ((l6.getD ((0:Int).toNat) (Tree.node 0 0 [])).set) ((l6.getD ((0:Int).toNat) (Tree.node 0 0 [])).kids)),v12,v13,v14))else none)else none)
 else some (Sum.inl ((Tree.node 2 (0:Int) l6),v12,v13,v14))))
 | .inr ((e51,e52))=>some (Sum.inr (e51,e52))))
theorem mO(rec_pq_either_v1:(List UInt8)→Int→Int→Int→Int→Int→(List (List UInt8))→(List Int)→(List Z7)→(List Z4)→Option (wO⊕(Int×Int)))(hrec_pq_either_v1:∀ {p1:List UInt8} {p2:Int} {p3:Int} {p4:Int} {p5:Int} {p6:Int} {o1:List (List UInt8)} {o2:List Int} {o3:List Z7} {o4:List Z4} {res:wO⊕(Int×Int)},rec_pq_either_v1 p1 p2 p3 p4 p5 p6 o1 o2 o3 o4=some res→Does Tryz.prog 148 [.adr 0 0 10 0] (bY p1 p2 p3 p4 p5 p6 o1 o2 o3 o4) (l0 (fun(q:Tree×Int×Int×Int)=>(.agg [.u8 q.1.op,.u32 q.1.set,.p false (.slice (.tree .u8 .u32)) q.1.kids],(bY p1 q.2.1 p3 p4 q.2.2.1 q.2.2.2 o1 o2 o3 o4))) (bC 36 .i64 .i64) res)){p1:List UInt8}{p2:Int}{p3:Int}{p4:Int}{p5:Int}{p6:Int}{o1:List (List UInt8)}{o2:List Int}{o3:List Z7}{o4:List Z4}{res:wO⊕(Int×Int)}(h:vY rec_pq_either_v1 p1 p2 p3 p4 p5 p6 o1 o2 o3 o4=some res):
  Does Tryz.prog 158 [.adr 0 0 10 0] (bY p1 p2 p3 p4 p5 p6 o1 o2 o3 o4) (l0 (fun(q:Tree×Int×Int×Int)=>(.agg [.u8 q.1.op,.u32 q.1.set,.p false (.slice (.tree .u8 .u32)) q.1.kids],(bY p1 q.2.1 p3 p4 q.2.2.1 q.2.2.2 o1 o2 o3 o4))) (bC 36 .i64 .i64) res):=by
 refine Does.of_body bB Tryz.func158 (by kernel_rfl) rfl (nl rfl) (fun Bw w0=> ?_)
 unfold vY at h
 refine G (G (aC (aC ?_)))
 obtain⟨z16,q25,h⟩:=aG h
 rcases z16 with⟨r54,r55⟩ | ⟨e33,e34⟩
 ·refine pP 1 [0,1,2,3,4] (bV q25) (aA (aF (mG h (fun(p16,p17,p18,l5,c4)=>aM [(0,.adr 0 0 10 0),(2,.adr 5 0 3 0),(3,.sl 6),(4,.u8 c4)] (aHR p1 p16 p3 p4 p17 p18 o1 o2 o3 o4 0 (0:Int) l5) 7 5) (eI (fV Tryz.f158.ntmps 0 (fun(l6,v12,v13,v14)=>aM [(2,.adr 5 0 3 0),(3,.sl 6)] (aHR p1 v12 p3 p4 v13 v14 o1 o2 o3 o4 0 (0:Int) l6) 7 5)) (yV (bC 36 .i64 .i64))) (gg [.nilS 3 45 210 (.tree .u8 .u32)] [0,1,2,3,4,5,45]) (fun y o h=> ?_) (fun r101 h e σ' hq=> ?_))))
  ·obtain⟨p16,p17,p18,l5,c4⟩:=y
   unfold A7 at h
   refine aC (aC (bO h (fun v15=>aM [(0,.adr 0 0 10 0),(2,.adr 5 0 3 0),(3,.sl 6),(20,.bo v15)] (aHR p1 p16 p3 p4 p17 p18 o1 o2 o3 o4 0 (0:Int) l5) 7 5) (fun v15 h=> ?_) (fun v15 h=> ?_)))
   ·obtain⟨r88,q42,h⟩:=aG h
    rcases aW h with⟨hb59,h⟩ | ⟨hb59,h⟩
    ·have u_1:=(dR q42)
     refine bS ⟨[(2,true),(5,true)],[(1,(oP u_1))]⟩ [(1,1,oc u_1),(3,5,oc hb59)] ?_
     exact eN h (gg [] [0,1,2,3,4,5,6])
    rcases aW h with⟨hb60,h⟩ | ⟨hb60,h⟩
    ·have u_1:=(dR q42)
     refine bS ⟨[(2,false),(5,false),(6,true),(9,true)],[(1,(oP u_1))]⟩ [(1,1,oc u_1),(3,4,an hb59),(5,5,oc hb59),(7,9,oc hb60)] ?_
     exact eN h (gg [] [0,1,2,3,4,5,6])
    rcases aW h with⟨hb61,h⟩ | ⟨hb61,h⟩
    ·have u_1:=(dR q42)
     refine bS ⟨[(2,false),(5,false),(6,false),(9,false),(10,true),(13,true)],[(1,(oP u_1))]⟩ [(1,1,oc u_1),(3,4,an hb59),(5,5,oc hb59),(7,8,an hb60),(9,9,oc hb60),(11,13,oc hb61)] ?_
     exact eN h (gg [] [0,1,2,3,4,5,6])
    have u_1:=(dR q42)
    refine bS ⟨[(2,false),(5,false),(6,false),(9,false),(10,false),(13,false)],[(1,(oP u_1))]⟩ [(1,1,oc u_1),(3,4,an hb59),(5,5,oc hb59),(7,8,an hb60),(9,9,oc hb60),(11,12,an hb61),(13,13,oc hb61)] ?_
    exact eN h (gg [] [0,1,2,3,4,5,6])
   refine aA (aO h (fun hb62 h=> ?_) (fun hb62 h=> ?_))
   ·refine aB (aA (aC (aF ?_)))
    obtain⟨z26,q44,h⟩:=aG h
    rcases z26 with⟨r93,r94,r95,r96⟩ | ⟨e55,e56⟩
    ·obtain⟨c16,h⟩:=aS h
     have u_1:=(vA rec_pq_either_v1 hrec_pq_either_v1 q44)
     refine bS ⟨[],[(2,(oO u_1 [0,1,2,3,4]))]⟩ [(2,2,oc u_1),(4,4,oc c16)] (aK (aA ?_))
     obtain⟨z28,q46,h⟩:=aG h
     rcases z28 with⟨r99,r100⟩ | ⟨e59,e60⟩
     ·refine pP 1 [0,1,2,3,4] (bV q46) ?_
      exact eB h (gg [] [0,1,2,3,4,5,39])
     refine GX 1 [0,1,2,3,4] (bV q46) (fun _=> ?_)
     obtain rfl:=sI h
     refine b9 (aU ?_)
     exact rfl
    refine GX 2 [0,1,2,3,4] (vA rec_pq_either_v1 hrec_pq_either_v1 q44) (fun _=> ?_)
    obtain rfl:=sI h
    refine bN (aQ (b9 (aU ?_)))
    exact rfl
   refine aH (aY ?_)
   obtain rfl:=sI h
   refine eR (bI ?_)
   exact b8 (gg [] [0,1,2,3,4,5,6])
  rcases r101 with⟨l6,v12,v13,v14⟩ | ⟨e51,e52⟩
  ·obtain⟨rfl,hle⟩:=hq
   refine dH ?_ hle
   refine aJ (aA (aC (G (aF (G (aO h (fun hb63 h=> ?_) (fun hb63 h=> ?_)))))))
   ·refine G (aL (aN (aE ?_)))
    obtain rfl:=sI h
    exact aR [some (.tree .u8 .u32)] [] [0,1,2,3,4,5] [(2,.adr 5 0 3 0)] (aKM p1 v12 p3 p4 v13 v14 o1 o2 o3 o4 0 (0:Int)) 6 5 (by kernel_rfl) (by kernel_rfl) (by kernel_rfl)
   refine G (aO h (fun hb64 h=> ?_) (fun hb64 h=> ?_))
   ·obtain⟨c19,c20,h⟩:=g2 h
    refine GN a0 [(1,1,oc c19),(2,2,oc c20)] (aL (aN (aE ?_)))
    obtain rfl:=sI h
    exact aR [some (.tree .u8 .u32)] [] [0,1,2,3,4,5] [(2,.adr 5 0 3 0)] (aE1 p1 v12 p3 p4 v13 v14 o1 o2 o3 o4 ((l6.getD ((0:Int).toNat) (Tree.node 0 0 [])).op) ((l6.getD ((0:Int).toNat) (Tree.node 0 0 [])).set) ((l6.getD ((0:Int).toNat) (Tree.node 0 0 [])).kids)) 6 5 (by kernel_rfl) (by kernel_rfl) (by kernel_rfl)
   refine aB (aK (aA (G (pV [.frzC 5 2] (by kernel_rfl) (aL ?_)))))
   obtain rfl:=sI h
   exact aR [some (.tree .u8 .u32)] [] [0,1,2,3,4,5] [(2,.adr 5 0 3 0)] (aE1 p1 v12 p3 p4 v13 v14 o1 o2 o3 o4 2 (0:Int) l6) 6 5 (by kernel_rfl) (by kernel_rfl) (by kernel_rfl)
  obtain rfl:=hq
  refine bN (aQ ?_)
  obtain rfl:=sI h
  exact rfl
 refine GX 1 [0,1,2,3,4] (bV q25) (fun _=>aQ (aQ ?_))
 obtain rfl:=sI h
 exact rfl
def sR(p1:List UInt8)(p3 p4:Int)(o1:List (List UInt8))(o2:List Int)(o3:List Z7)(o4:List Z4)(rec_pq_either_v1:(List UInt8)→Int→Int→Int→Int→Int→(List (List UInt8))→(List Int)→(List Z7)→(List Z4)→Option (wO⊕(Int×Int))):(Int×Int×Int×List Tree)→Option ((Int×Int×Int×List Tree)⊕(((List Tree)×Int×Int×Int)⊕(Int×Int))):=fun(p26,p27,p28,l11) =>
 ((fO 124 p1 p26 p3 p4 p27 p28 o1 o2 o3 o4).bind fun(z54:(Bool×Int)⊕(Int×Int))=>match z54 with
 | .inr (e115,e116)=>some (Sum.inr (Sum.inr (e115,e116)))
 | .inl (r165,r166)=>(if r165=true then((vY rec_pq_either_v1 p1 r166 p3 p4 p27 p28 o1 o2 o3 o4).bind fun(z56:wO⊕(Int×Int))=>match z56 with
 | .inr (e119,e120)=>some (Sum.inr (Sum.inr (e119,e120)))
 | .inl (r171,r172,r173,r174)=>(if(l11.length+([(Tree.node r171.op r171.set r171.kids)]:List Tree).length)*32≤140737488355328∧l11.length+([(Tree.node r171.op r171.set r171.kids)]:List Tree).length≤9223372036854775807 then some (Sum.inl (r172,r173,r174,(l11++([(Tree.node r171.op r171.set r171.kids)]:List Tree))))else none))
 else some (Sum.inr (Sum.inl (l11,r166,p27,p28)))))
def nC(rec_pq_either_v1:(List UInt8)→Int→Int→Int→Int→Int→(List (List UInt8))→(List Int)→(List Z7)→(List Z4)→Option (wO⊕(Int×Int)))(p1:List UInt8)(p2 p3 p4 p5 p6:Int)(o1:List (List UInt8))(o2:List Int)(o3:List Z7)(o4:List Z4):Option (wO⊕(Int×Int)) :=
 ((vY rec_pq_either_v1 p1 p2 p3 p4 p5 p6 o1 o2 o3 o4).bind fun(z44:wO⊕(Int×Int))=>match z44 with
 | .inr (e93,e94)=>some (Sum.inr (e93,e94))
 | .inl (r135,r136,r137,r138)=>((iter (sR p1 p3 p4 o1 o2 o3 o4 rec_pq_either_v1) (r136,r137,r138,([(Tree.node r135.op r135.set r135.kids)]:List Tree))).bind fun(r175:(((List Tree)×Int×Int×Int)⊕(Int×Int)))=>match r175 with
 | .inl (l12,v17,v18,v19)=>(if((l12.length:Int) == 1)=true then(if 0≤(0:Int)∧0<(l12.length:Int)then(if(0:Int).toNat<l12.length then some (Sum.inl ((Tree.node ((l12.getD ((0:Int).toNat) (Tree.node 0 0 [])).op) ((l12.getD ((0:Int).toNat) (Tree.node 0 0 [])).set) ((l12.getD ((0:Int).toNat) (Tree.node 0 0 [])).kids)),v17,v18,v19))else none)else none)
 else some (Sum.inl ((Tree.node 3 (0:Int) l12),v17,v18,v19)))
 | .inr ((e111,e112))=>some (Sum.inr (e111,e112))))
def kB:Nat→(List UInt8)→Int→Int→Int→Int→Int→(List (List UInt8))→(List Int)→(List Z7)→(List Z4)→Option (wO⊕(Int×Int))
 | 0=>fun _ _ _ _ _ _ _ _ _ _=>none
 | n+1=>nC (kB n)
theorem z5(rec_pq_either_v1:(List UInt8)→Int→Int→Int→Int→Int→(List (List UInt8))→(List Int)→(List Z7)→(List Z4)→Option (wO⊕(Int×Int)))(hrec_pq_either_v1:∀ {p1:List UInt8} {p2:Int} {p3:Int} {p4:Int} {p5:Int} {p6:Int} {o1:List (List UInt8)} {o2:List Int} {o3:List Z7} {o4:List Z4} {res:wO⊕(Int×Int)},rec_pq_either_v1 p1 p2 p3 p4 p5 p6 o1 o2 o3 o4=some res→Does Tryz.prog 148 [.adr 0 0 10 0] (bY p1 p2 p3 p4 p5 p6 o1 o2 o3 o4) (l0 (fun(q:Tree×Int×Int×Int)=>(.agg [.u8 q.1.op,.u32 q.1.set,.p false (.slice (.tree .u8 .u32)) q.1.kids],(bY p1 q.2.1 p3 p4 q.2.2.1 q.2.2.2 o1 o2 o3 o4))) (bC 36 .i64 .i64) res)){p1:List UInt8}{p2:Int}{p3:Int}{p4:Int}{p5:Int}{p6:Int}{o1:List (List UInt8)}{o2:List Int}{o3:List Z7}{o4:List Z4}{res:wO⊕(Int×Int)}(h:nC rec_pq_either_v1 p1 p2 p3 p4 p5 p6 o1 o2 o3 o4=some res):
  Does Tryz.prog 148 [.adr 0 0 10 0] (bY p1 p2 p3 p4 p5 p6 o1 o2 o3 o4) (l0 (fun(q:Tree×Int×Int×Int)=>(.agg [.u8 q.1.op,.u32 q.1.set,.p false (.slice (.tree .u8 .u32)) q.1.kids],(bY p1 q.2.1 p3 p4 q.2.2.1 q.2.2.2 o1 o2 o3 o4))) (bC 36 .i64 .i64) res):=by
 refine Does.of_body bB Tryz.func148 (by kernel_rfl) rfl (nl rfl) (fun Bw w0=> ?_)
 unfold nC at h
 refine G (aC ?_)
 obtain⟨z44,q44,h⟩:=aG h
 rcases z44 with⟨r135,r136,r137,r138⟩ | ⟨e93,e94⟩
 ·refine pP 1 [0,1,2,3,4] (mO rec_pq_either_v1 hrec_pq_either_v1 q44) (aA (aC (aF (mG h (fun(p26,p27,p28,l11)=>aM [(0,.adr 0 0 10 0),(2,.adr 5 0 3 0),(3,.sl 6)] (aHR p1 p26 p3 p4 p27 p28 o1 o2 o3 o4 0 (0:Int) l11) 7 5) (eI (fV Tryz.f148.ntmps 0 (fun(l12,v17,v18,v19)=>aM [(2,.adr 5 0 3 0),(3,.sl 6)] (aHR p1 v17 p3 p4 v18 v19 o1 o2 o3 o4 0 (0:Int) l12) 7 5)) (yV (bC 36 .i64 .i64))) (gg [] [0,1,2,3,4,5,29]) (fun y o h=> ?_) (fun r175 h e σ' hq=> ?_)))))
  ·obtain⟨p26,p27,p28,l11⟩:=y
   unfold sR at h
   refine aC (aC ?_)
   obtain⟨z54,q54,h⟩:=aG h
   rcases z54 with⟨r165,r166⟩ | ⟨e115,e116⟩
   ·refine pP 1 [0,1,2,3,4] (bR q54) (aA (aO h (fun hb15 h=> ?_) (fun hb15 h=> ?_)))
    ·refine aB (aA (aF ?_))
     obtain⟨z56,q56,h⟩:=aG h
     rcases z56 with⟨r171,r172,r173,r174⟩ | ⟨e119,e120⟩
     ·obtain⟨c36,h⟩:=aS h
      have u_1:=(mO rec_pq_either_v1 hrec_pq_either_v1 q56)
      refine bS ⟨[],[(2,(oO u_1 [0,1,2,3,4]))]⟩ [(2,2,oc u_1),(4,4,oc c36)] (aK ?_)
      exact eB h (gg [] [0,1,2,3,4,5,55])
     refine GX 2 [0,1,2,3,4] (mO rec_pq_either_v1 hrec_pq_either_v1 q56) (fun _=> ?_)
     obtain rfl:=sI h
     refine bN (b9 (aU ?_))
     exact rfl
    refine aH (aY ?_)
    obtain rfl:=sI h
    refine eR (bI ?_)
    exact b8 (gg [] [0,1,2,3,4,5,6])
   refine GX 1 [0,1,2,3,4] (bR q54) (fun _=> ?_)
   obtain rfl:=sI h
   refine aQ (aQ (b9 (aU ?_)))
   exact rfl
  rcases r175 with⟨l12,v17,v18,v19⟩ | ⟨e111,e112⟩
  ·obtain⟨rfl,hle⟩:=hq
   refine dH ?_ hle
   refine aJ (aA (aC (G (aO h (fun hb16 h=> ?_) (fun hb16 h=> ?_)))))
   ·obtain⟨c39,c40,h⟩:=g2 h
    refine GN a0 [(1,1,oc c39),(2,2,oc c40)] (aL (aE ?_))
    obtain rfl:=sI h
    exact aR [some (.tree .u8 .u32)] [] [0,1,2,3,4,5] [(2,.adr 5 0 3 0)] (aE1 p1 v17 p3 p4 v18 v19 o1 o2 o3 o4 ((l12.getD ((0:Int).toNat) (Tree.node 0 0 [])).op) ((l12.getD ((0:Int).toNat) (Tree.node 0 0 [])).set) ((l12.getD ((0:Int).toNat) (Tree.node 0 0 [])).kids)) 6 5 (by kernel_rfl) (by kernel_rfl) (by kernel_rfl)
   refine aB (aA (G (pV [.frzC 5 2] (by kernel_rfl) (aL ?_))))
   obtain rfl:=sI h
   exact aR [some (.tree .u8 .u32)] [] [0,1,2,3,4,5] [(2,.adr 5 0 3 0)] (aE1 p1 v17 p3 p4 v18 v19 o1 o2 o3 o4 3 (0:Int) l12) 6 5 (by kernel_rfl) (by kernel_rfl) (by kernel_rfl)
  obtain rfl:=hq
  refine bN (aQ ?_)
  obtain rfl:=sI h
  exact rfl
 refine GX 1 [0,1,2,3,4] (mO rec_pq_either_v1 hrec_pq_either_v1 q44) (fun _=>aQ ?_)
 obtain rfl:=sI h
 exact rfl
theorem gP:∀(n:Nat) {p1:List UInt8} {p2:Int} {p3:Int} {p4:Int} {p5:Int} {p6:Int} {o1:List (List UInt8)} {o2:List Int} {o3:List Z7} {o4:List Z4} {res:wO⊕(Int×Int)},kB n p1 p2 p3 p4 p5 p6 o1 o2 o3 o4=some res→Does Tryz.prog 148 [.adr 0 0 10 0] (bY p1 p2 p3 p4 p5 p6 o1 o2 o3 o4) (l0 (fun(q:Tree×Int×Int×Int)=>(.agg [.u8 q.1.op,.u32 q.1.set,.p false (.slice (.tree .u8 .u32)) q.1.kids],(bY p1 q.2.1 p3 p4 q.2.2.1 q.2.2.2 o1 o2 o3 o4))) (bC 36 .i64 .i64) res)
 | 0,_,_,_,_,_,_,_,_,_,_,_,h=>by cases h
 | n+1,p1,p2,p3,p4,p5,p6,o1,o2,o3,o4,res,h=>z5 (kB n) (gP n)  h
def yA(does1 at1:Int)(p1:List UInt8)(p2 p3 p4 p5 p6:Int)(o1:List (List UInt8))(o2:List Int)(o3:List Z7)(o4:List Z4):Option ((Int×(List Z7)×Int×Int)⊕(Int×Int)) :=
 (if(decide ((o3.length:Int)≥24))=true then((eL 24 at1 p1 p2 p3 p4 p5 p6 o1 o2 o3 o4).bind fun(z12:(Unit)⊕(Int×Int))=>match z12 with
 | .inr (e23,e24)=>some (Sum.inr (e23,e24))
 | .inl _=>none)
 else((kB 1000 p1 p2 p3 p4 p5 p6 o1 o2 o3 o4).bind fun(z14:wO⊕(Int×Int))=>match z14 with
 | .inr (e27,e28)=>some (Sum.inr (e27,e28))
 | .inl (r25,r26,r27,r28)=>((iE 47 p1 r26 p3 p4 r27 r28 o1 o2 o3 o4).bind fun(z16:(Int)⊕(Int×Int))=>match z16 with
 | .inr (e31,e32)=>some (Sum.inr (e31,e32))
 | .inl r30=>((kB 1000 p1 r30 p3 p4 r27 r28 o1 o2 o3 o4).bind fun(z18:wO⊕(Int×Int))=>match z18 with
 | .inr (e35,e36)=>some (Sum.inr (e35,e36))
 | .inl (r35,r36,r37,r38)=>((iE 59 p1 r36 p3 p4 r37 r38 o1 o2 o3 o4).bind fun(z20:(Int)⊕(Int×Int))=>match z20 with
 | .inr (e39,e40)=>some (Sum.inr (e39,e40))
 | .inl r40=>(if(o3.length+([(does1,((Tree.node r25.op r25.set r25.kids),(Tree.node r35.op r35.set r35.kids)))]:List Z7).length)*72≤140737488355328∧o3.length+([(does1,((Tree.node r25.op r25.set r25.kids),(Tree.node r35.op r35.set r35.kids)))]:List Z7).length≤9223372036854775807 then some (Sum.inl (r40,(o3++([(does1,((Tree.node r25.op r25.set r25.kids),(Tree.node r35.op r35.set r35.kids)))]:List Z7)),r37,r38))else none))))))
theorem wR{does1:Int}{at1:Int}{p1:List UInt8}{p2:Int}{p3:Int}{p4:Int}{p5:Int}{p6:Int}{o1:List (List UInt8)}{o2:List Int}{o3:List Z7}{o4:List Z4}{res:(Int×(List Z7)×Int×Int)⊕(Int×Int)}(h:yA does1 at1 p1 p2 p3 p4 p5 p6 o1 o2 o3 o4=some res):
  Does Tryz.prog 116 [.adr 0 0 10 0,.u8 does1,.i64 at1] (bY p1 p2 p3 p4 p5 p6 o1 o2 o3 o4) (l0 (fun(q:Int×(List Z7)×Int×Int)=>(.tup [],(aKZ p1 q.1 p3 p4 q.2.2.1 q.2.2.2 o1 o2 o4 q.2.1))) (bC 36 .i64 .i64) res):=by
 refine Does.of_body bB Tryz.func116 (by kernel_rfl) rfl (nl rfl) (fun Bw w0=> ?_)
 unfold yA at h
 refine aC (G (aO h (fun hb2 h=> ?_) (fun hb2 h=> ?_)))
 ·obtain⟨z12,q12,h⟩:=aG h
  rcases z12 with _ | ⟨e23,e24⟩
  ·cases h
  refine GX 2 [0,1,2,3,4] (cU q12) (fun _=>aQ ?_)
  obtain rfl:=sI h
  exact rfl
 refine aB (aA (G (aC ?_)))
 obtain⟨z14,q14,h⟩:=aG h
 rcases z14 with⟨r25,r26,r27,r28⟩ | ⟨e27,e28⟩
 ·refine pP 1 [0,1,2,3,4] (gP 1000 q14) (aA (aC ?_))
  obtain⟨z16,q16,h⟩:=aG h
  rcases z16 with r30 | ⟨e31,e32⟩
  ·refine pP 1 [0,1,2,3,4] (cH q16) (aA (aC ?_))
   obtain⟨z18,q18,h⟩:=aG h
   rcases z18 with⟨r35,r36,r37,r38⟩ | ⟨e35,e36⟩
   ·refine pP 1 [0,1,2,3,4] (gP 1000 q18) (aA (aC ?_))
    obtain⟨z20,q20,h⟩:=aG h
    rcases z20 with r40 | ⟨e39,e40⟩
    ·refine pP 1 [0,1,2,3,4] (cH q20) (aA ?_)
     obtain⟨c4,h⟩:=aS h
     refine qA a0 [(8,8,oc c4)] ?_
     obtain rfl:=sI h
     exact(aR [] [] [0,1,2,3,4,253] [] (aKZ p1 r40 p3 p4 r37 r38 o1 o2 o4 (o3++([(does1,((Tree.node r25.op r25.set r25.kids),(Tree.node r35.op r35.set r35.kids)))]:List Z7))) 6 5 (by kernel_rfl) (by kernel_rfl) (by kernel_rfl)).normal
    refine GX 1 [0,1,2,3,4] (cH q20) (fun _=>aQ ?_)
    obtain rfl:=sI h
    exact rfl
   refine GX 1 [0,1,2,3,4] (gP 1000 q18) (fun _=>aQ ?_)
   obtain rfl:=sI h
   exact rfl
  refine GX 1 [0,1,2,3,4] (cH q16) (fun _=>aQ ?_)
  obtain rfl:=sI h
  exact rfl
 refine GX 1 [0,1,2,3,4] (gP 1000 q14) (fun _=>aQ ?_)
 obtain rfl:=sI h
 exact rfl
def aAY(p1:List UInt8):Z15→Option (Z15⊕(Z15⊕(Int×Int))):=fun(p34,p35,p36,p37,p38,p39,p40,p41,p42) =>
 ((gD p1 p34 p36 p37 p41 p42 p35 p38 p39 p40).bind fun(z78:(Int×Int)⊕(Int×Int))=>match z78 with
 | .inr (e159,e160)=>some (Sum.inr (Sum.inr (e159,e160)))
 | .inl (r196,r197)=>(if(r196 != 0)=true then((kV p1 r197 p36 p37 p41 p42 p35 p38 p39 p40).bind fun(z80:((List UInt8)×Int×Int)⊕(Int×Int))=>match z80 with
 | .inr (e163,e164)=>some (Sum.inr (Sum.inr (e163,e164)))
 | .inl (r201,r202,r203)=>(if(eY .str ([99,108,97,115,115]:List UInt8) r201)=true then((vN p1 r203 p36 p37 p41 p42 p35 p38 p39 p40).bind fun(z82:(Int×(List (List UInt8))×(List Int)×List Z4)⊕(Int×Int))=>match z82 with
 | .inr (e167,e168)=>some (Sum.inr (Sum.inr (e167,e168)))
 | .inl (r208,r209,r210,r211)=>some (Sum.inl (r208,r209,p36,p37,r210,p39,r211,p41,p42)))
 else(if(eY .str ([115,101,116]:List UInt8) r201)=true then((C7 p1 r203 p36 p37 p41 p42 p35 p38 p39 p40).bind fun(z84:(Int×List Z4)⊕(Int×Int))=>match z84 with
 | .inr (e171,e172)=>some (Sum.inr (Sum.inr (e171,e172)))
 | .inl (r214,r215)=>some (Sum.inl (r214,p35,p36,p37,p38,p39,r215,p41,p42)))
 else(if(eY .str ([106,111,105,110]:List UInt8) r201)=true then((xY p1 r203 p36 p37 p41 p42 p35 p38 p39 p40).bind fun(z86:Z8⊕(Int×Int))=>match z86 with
 | .inr (e175,e176)=>some (Sum.inr (Sum.inr (e175,e176)))
 | .inl (r219,r220,r221)=>some (Sum.inl (r219,p35,r220,r221,p38,p39,p40,p41,p42)))
 else(if(eY .str ([116,114,101,97,116]:List UInt8) r201)=true then((vS p1 r203 p36 p37 p41 p42 p35 p38 p39 p40).bind fun(z88:(Int×List Int)⊕(Int×Int))=>match z88 with
 | .inr (e179,e180)=>some (Sum.inr (Sum.inr (e179,e180)))
 | .inl (r224,r225)=>some (Sum.inl (r224,p35,p36,p37,r225,p39,p40,p41,p42)))
 else(if((bG .str (fF .str (fF .str (fF .str ([]:List Z4) ([107,101,101,112]:List UInt8) (0:Int)) ([109,97,121]:List UInt8) (1:Int)) ([109,117,115,116]:List UInt8) (2:Int)) r201).isSome)=true then((yA ((bG .str (fF .str (fF .str (fF .str ([]:List Z4) ([107,101,101,112]:List UInt8) (0:Int)) ([109,97,121]:List UInt8) (1:Int)) ([109,117,115,116]:List UInt8) (2:Int)) r201).getD 0) r202 p1 r203 p36 p37 p41 p42 p35 p38 p39 p40).bind fun(z90:(Int×(List Z7)×Int×Int)⊕(Int×Int))=>match z90 with
 | .inr (e183,e184)=>some (Sum.inr (Sum.inr (e183,e184)))
 | .inl (r230,r231,r232,r233)=>some (Sum.inl (r230,p35,p36,p37,p38,r231,p40,r232,r233)))
 else((eL 21 r202 p1 r203 p36 p37 p41 p42 p35 p38 p39 p40).bind fun(z92:(Unit)⊕(Int×Int))=>match z92 with
 | .inr (e187,e188)=>some (Sum.inr (Sum.inr (e187,e188)))
 | .inl _=>none)))))))
 else some (Sum.inr (Sum.inl (r197,p35,p36,p37,p38,p39,p40,p41,p42)))))
def aEN(p1:List UInt8)(p2 p3 p4 p5 p6:Int)(o1:List Z4):Option (Z15⊕(Int×Int)) :=
 ((iter (aAY p1) (p2,([]:List (List UInt8)),p3,p4,([]:List Int),([]:List Z7),o1,p5,p6)).bind fun(r234:(Z15⊕(Int×Int)))=>match r234 with
 | .inl (v19,v20,v21,v22,v23,v24,v25,v26,v27)=>some (Sum.inl (v19,v20,v21,v22,v23,v24,v25,v26,v27))
 | .inr ((e155,e156))=>some (Sum.inr (e155,e156)))
theorem F0{p1:List UInt8}{p2:Int}{p3:Int}{p4:Int}{p5:Int}{p6:Int}{o1:List Z4}{res:Z15⊕(Int×Int)}(h:aEN p1 p2 p3 p4 p5 p6 o1=some res):
  Does Tryz.prog 82 [.adr 0 0 10 0] (ob2 p1 p2 p3 p4 p5 p6 o1) (l0 (fun(q:Int×(List (List UInt8))×Int×Int×(List Int)×(List Z7)×(List Z4)×Int×Int)=>(.tup [],(aJo p1 q.1 q.2.2.1 q.2.2.2.1 q.2.2.2.2.2.2.2.1 q.2.2.2.2.2.2.2.2 q.2.2.2.2.2.2.1 q.2.1 q.2.2.2.2.1 q.2.2.2.2.2.1))) (bC 36 .i64 .i64) res):=by
 refine Does.of_body bB Tryz.func82 (by kernel_rfl) rfl (nl rfl) (fun Bw w0=> ?_)
 unfold aEN at h
 refine G (G (aF (mG h (fun(p34,p35,p36,p37,p38,p39,p40,p41,p42)=>aM [(0,.adr 0 0 10 0),(2,.mp 5),(3,.mp 6)] (aLl p1 p34 p36 p37 p41 p42 p40 p35 p38 p39 (fF .str (fF .str (fF .str ([]:List Z4) ([107,101,101,112]:List UInt8) (0:Int)) ([109,97,121]:List UInt8) (1:Int)) ([109,117,115,116]:List UInt8) (2:Int))) 7 2) (eI (fV Tryz.f82.ntmps 0 (fun(v19,v20,v21,v22,v23,v24,v25,v26,v27)=>aM [] (aJo p1 v19 v21 v22 v26 v27 v25 v20 v23 v24) 5 2)) (yV (bC 36 .i64 .i64))) (gg [.nilC 0 2 106 9 .str,.nilC 0 5 107 3 (.int .i64),.nilC 0 6 108 212 (.prod (.int .u8) Y8)] [0,1,106,107,108,2,58]) (fun y o h=> ?_) (fun r234 h e σ' hq=> ?_))))
 ·obtain⟨p34,p35,p36,p37,p38,p39,p40,p41,p42⟩:=y
  unfold aAY at h
  refine aC (aC ?_)
  obtain⟨z78,q78,h⟩:=aG h
  rcases z78 with⟨r196,r197⟩ | ⟨e159,e160⟩
  ·refine pP 1 [0,2,3,4,1] (bV q78) (aA (aO h (fun hb76 h=> ?_) (fun hb76 h=> ?_)))
   ·refine aB (aA (aF (aC ?_)))
    obtain⟨z80,q80,h⟩:=aG h
    rcases z80 with⟨r201,r202,r203⟩ | ⟨e163,e164⟩
    ·refine pP 1 [0,2,3,4,1] (eV q80) (aA (aC ?_))
     rcases aW h with⟨hb81,h⟩ | ⟨hb81,h⟩
     ·refine bS ⟨[],[(2,⟨.unk,[],false,[],[0],[],none⟩)]⟩ [(2,2,oc (And.intro tt hb81))] (aA (G (sX rfl ?_)))
      obtain⟨z82,q82,h⟩:=aG h
      rcases z82 with⟨r208,r209,r210,r211⟩ | ⟨e167,e168⟩
      ·refine pP 2 [0,2,3,4,1] (tV q82) (aK ?_)
       exact eB h (gg [] [0,1,175,176,4,5,6])
      refine GX 2 [0,2,3,4,1] (tV q82) (fun _=> ?_)
      obtain rfl:=sI h
      refine bN (b9 (aU ?_))
      exact rfl
     rcases aW h with⟨hb83,h⟩ | ⟨hb83,h⟩
     ·refine bS ⟨[],[(2,⟨.unk,[],false,[],[1],[],none⟩)]⟩ [(2,2,⟨True∧yW .str [(([99,108,97,115,115]:List UInt8),(fnV 110)),(([115,101,116]:List UInt8),(fnV 111)),(([106,111,105,110]:List UInt8),(fnV 112)),(([116,114,101,97,116]:List UInt8),(fnV 113))] r201 1,⟨trivial,⟨hb81,hb83⟩⟩⟩)] (aA (G (sX rfl ?_)))
      obtain⟨z84,q84,h⟩:=aG h
      rcases z84 with⟨r214,r215⟩ | ⟨e171,e172⟩
      ·refine pP 2 [0,2,3,4,1] (zV q84) (aK ?_)
       exact eB h (gg [] [0,1,2,3,4,5,6])
      refine GX 2 [0,2,3,4,1] (zV q84) (fun _=> ?_)
      obtain rfl:=sI h
      refine bN (b9 (aU ?_))
      exact rfl
     rcases aW h with⟨hb85,h⟩ | ⟨hb85,h⟩
     ·refine bS ⟨[],[(2,⟨.unk,[],false,[],[2],[],none⟩)]⟩ [(2,2,⟨True∧yW .str [(([99,108,97,115,115]:List UInt8),(fnV 110)),(([115,101,116]:List UInt8),(fnV 111)),(([106,111,105,110]:List UInt8),(fnV 112)),(([116,114,101,97,116]:List UInt8),(fnV 113))] r201 2,⟨trivial,⟨hb81,⟨hb83,hb85⟩⟩⟩⟩)] (aA (G (sX rfl ?_)))
      obtain⟨z86,q86,h⟩:=aG h
      rcases z86 with⟨r219,r220,r221⟩ | ⟨e175,e176⟩
      ·refine pP 2 [0,2,3,4,1] (xI q86) (aK ?_)
       exact eB h (gg [] [0,1,2,3,4,5,6])
      refine GX 2 [0,2,3,4,1] (xI q86) (fun _=> ?_)
      obtain rfl:=sI h
      refine bN (b9 (aU ?_))
      exact rfl
     rcases aW h with⟨hb87,h⟩ | ⟨hb87,h⟩
     ·refine bS ⟨[],[(2,⟨.unk,[],false,[],[3],[],none⟩)]⟩ [(2,2,⟨True∧yW .str [(([99,108,97,115,115]:List UInt8),(fnV 110)),(([115,101,116]:List UInt8),(fnV 111)),(([106,111,105,110]:List UInt8),(fnV 112)),(([116,114,101,97,116]:List UInt8),(fnV 113))] r201 3,⟨trivial,⟨hb81,⟨hb83,⟨hb85,hb87⟩⟩⟩⟩⟩)] (aA (G (sX rfl ?_)))
      obtain⟨z88,q88,h⟩:=aG h
      rcases z88 with⟨r224,r225⟩ | ⟨e179,e180⟩
      ·refine pP 2 [0,2,3,4,1] (tD q88) (aK ?_)
       exact eB h (gg [] [0,1,2,3,4,5,6])
      refine GX 2 [0,2,3,4,1] (tD q88) (fun _=> ?_)
      obtain rfl:=sI h
      refine bN (b9 (aU ?_))
      exact rfl
     refine bS ⟨[],[(2,⟨.unk,[],false,[],[4],[],none⟩)]⟩ [(2,2,⟨True∧yW .str [(([99,108,97,115,115]:List UInt8),(fnV 110)),(([115,101,116]:List UInt8),(fnV 111)),(([106,111,105,110]:List UInt8),(fnV 112)),(([116,114,101,97,116]:List UInt8),(fnV 113))] r201 4,⟨trivial,⟨hb81,⟨hb83,⟨hb85,⟨hb87,trivial⟩⟩⟩⟩⟩⟩)] (aA (G (P4 rfl (G (G (aO h (fun hb89 h=> ?_) (fun hb89 h=> ?_)))))))
     ·obtain⟨z90,q90,h⟩:=aG h
      rcases z90 with⟨r230,r231,r232,r233⟩ | ⟨e183,e184⟩
      ·refine pP 3 [0,2,3,4,1] (wR q90) (aK ?_)
       exact eB h (gg [] [0,1,2,3,255,5,6])
      refine GX 3 [0,2,3,4,1] (wR q90) (fun _=> ?_)
      obtain rfl:=sI h
      refine bN (b9 (aU ?_))
      exact rfl
     obtain⟨z92,q92,h⟩:=aG h
     rcases z92 with _ | ⟨e187,e188⟩
     ·cases h
     refine GX 2 [0,2,3,4,1] (cU q92) (fun _=> ?_)
     obtain rfl:=sI h
     refine bN (b9 (aU ?_))
     exact rfl
    refine GX 1 [0,2,3,4,1] (eV q80) (fun _=> ?_)
    obtain rfl:=sI h
    refine aQ (bN (b9 (aU ?_)))
    exact rfl
   refine aH (aY ?_)
   obtain rfl:=sI h
   refine eR (bI ?_)
   exact b8 (gg [] [0,1,2,3,4])
  refine GX 1 [0,2,3,4,1] (bV q78) (fun _=> ?_)
  obtain rfl:=sI h
  refine aQ (aQ (b9 (aU ?_)))
  exact rfl
 rcases r234 with⟨v19,v20,v21,v22,v23,v24,v25,v26,v27⟩ | ⟨e155,e156⟩
 ·obtain⟨rfl,hle⟩:=hq
  refine dH ?_ hle
  refine aJ ?_
  obtain rfl:=sI h
  exact(aR [] [] [0,1,2,3,4] [] (aJo p1 v19 v21 v22 v26 v27 v25 v20 v23 v24) 5 2 (by kernel_rfl) (by kernel_rfl) (by kernel_rfl)).normal
 obtain rfl:=hq
 refine bN ?_
 obtain rfl:=sI h
 exact rfl
theorem zY(e1 e2:Int):Catches Tryz.prog 80 [.adr 0 0 5 0,.adr 1 0 2 0] (ob3 0 (0:Int) (0:Int) (0:Int)) (ob3 0 (0:Int) e1 e2) (bC 36 .i64 .i64 (e1,e2)):=by
 refine Catches.of_body (nx:=2) (pn:=2) Tryz.func80 rfl rfl rfl rfl rfl rfl rfl rfl (by kernel_rfl) rfl (fun Bw w0=> ?_)
 have h:some ()=some ():=rfl
 refine GN a0 [(1,1,⟨∃ms,Tryz.prog.underlying 20=some (.interface ms),⟨_,rfl⟩⟩)] (sX rfl (GN a0 [(1,1,⟨∃d,Tryz.prog.underlying 36=some d∧(match d with | .interface _=>false | _=>true)=true,⟨_,rfl,rfl⟩⟩)] (aC (G (P4 rfl (aB (aA (qA a0 [] ?_))))))))
 exact eN h (gg [] [0,1])
theorem zE:aI2 Tryz.prog 80 2:=by
 intro vals w hv
 obtain⟨v2,v3,rfl⟩:∃v2 v3,vals = #[v2,v3]:=by
  match hq:vals.toList with
  | [a,b]=>exact⟨a,b,Array.ext' hq⟩
  | []=>have:=congrArg List.length hq;simp[hv]at this
  | [_]=>have:=congrArg List.length hq;simp[hv]at this
  | _::_::_::_=>have:=congrArg List.length hq;simp[hv]at this
 refine callsD_of_wpS Tryz.func80 rfl fun c₀ cs hu=> ?_
 apply wpS_seq
 apply wpS_region
 simp[wpOpsS,go_sem,recoverD,hu,Tryz.ntmps80,Exit.thenS]
 apply wpS_seq
 apply wpS_region
 simp[wpOpsS,go_sem,Exit.thenS,Act.eval,Act.put]
 refine wpS_cond (t:=false) (by simp[Act.eval,Array.replicate]) ?_
 simp only[Bool.false_eq_true,if_false]
 refine wpS_of_wp (wp_skip ?_)
 cases c₀
 simp_all [bodyPostS,results,Tryz.results80]
def pL(text1:List UInt8):Option ((Z18×Int×Int)⊕(Int×Int)) :=
 (if(decide ((text1.length:Int) > 4096))=true then((aFu 24 (4096:Int) text1 0 (0:Int) (0:Int) (0:Int) (0:Int) ([]:List Z4)).bind fun(z2:(Unit)⊕(Int×Int))=>match z2 with
 | .inr (e3,e4)=>some (Sum.inr (e3,e4))
 | .inl _=>none)
 else((aEN text1 0 (0:Int) (0:Int) (0:Int) (0:Int) ([]:List Z4)).bind fun(z4:Z15⊕(Int×Int))=>match z4 with
 | .inr (e7,e8)=>some (Sum.inr (e7,e8))
 | .inl (r10,r11,r12,r13,r14,r15,r16,r17,r18)=>some (Sum.inl ((r11,(r12,(r13,(r14,r15)))),(0,0)))))
def U5:(Z18×Int×Int)⊕(Int×Int)→Z18×Int×Int
 | .inl x=>x
 | .inr e=>((([]:List (List UInt8)),(0,(0,(([]:List Int),([]:List Z7))))),(e.1,e.2))
def vL(text1:List UInt8):Option (Z18×Int×Int):=(pL text1).map U5
theorem L6(text1:List UInt8)(res:(Z18×Int×Int)⊕(Int×Int))(h:pL text1=some res):
  Pure Tryz.prog 51 [.st text1] (aX (bJ false (aI6 (fun(q:Z18×Int×Int)=>([⟨Y11,q.1⟩,⟨Y2,q.2⟩]:List (Σ T:Ty,T.den))) (fun(e:Int×Int)=>([⟨Y11,(([]:List (List UInt8)),(0,(0,(([]:List Int),([]:List Z7)))))⟩,⟨Y2,(e.1,e.2)⟩]:List (Σ T:Ty,T.den))) res))):=by
 refine Pure.of_defer (args:=[.st text1]) (gd:=80) (fnd:=Tryz.f80) (l:=[(0,.st text1),(2,.adr 0 0 5 0),(3,.adr 1 0 2 0),(4,.adr 2 0 10 0)]) (m:=(ob1 0 (0:Int) (0:Int) (0:Int) text1 0 (0:Int) (0:Int) (0:Int) (0:Int) ([]:List Z4))) (nx:=4) (s2:=5) (s3:=2) (lp:=[(2,.adr 0 0 5 0),(3,.adr 1 0 2 0)]) (mp:=(ob3 0 (0:Int) (0:Int) (0:Int))) (nxp:=2) (fv:=bC 36 .i64 .i64) (hin:=(ob3 0 (0:Int) (0:Int) (0:Int))) (hout:=fun e=>(ob3 0 (0:Int) e.1 e.2)) (t2:=2) (t3:=3) (d:=9) bB Tryz.func51 (by kernel_rfl) Tryz.func80 (by kernel_rfl) rfl rfl rfl rfl rfl rfl rfl rfl (nl rfl) rfl rfl (by decide) rfl rfl (by decide) (fun Bw w0=> ?_) (fun Bw w0 D=> ?_) zE (fun e=>zY e.1 e.2) (by kernel_rfl) (fun e=>by kernel_rfl) [Y11,Y2] (fun e=>by kernel_rfl)
 ·clear h
  have h:some ()=some ():=rfl
  refine Ge (aA (Ge ?_))
  exact eN h (gg [] [0,8,40,24])
 unfold pL at h
 refine aC (G (aO h (fun hb1 h=> ?_) (fun hb1 h=> ?_)))
 ·obtain⟨z2,q2,h⟩:=aG h
  rcases z2 with _ | ⟨e3,e4⟩
  ·cases h
  have u_1:=(V4 q2)
  refine aJh bB ⟨[],[(1,(oD u_1 [2,3]))]⟩ 1 (bC 36 .i64 .i64 (e3,e4)) [] [0,1] [(2,.adr 0 0 5 0),(3,.adr 1 0 2 0)] (ob3 0 (0:Int) (0:Int) (0:Int)) 2 2 [True,Dies Tryz.prog 81 [.adr 0 0 10 0,.i64 24,.i64 4096] (ob2 text1 0 (0:Int) (0:Int) (0:Int) (0:Int) ([]:List Z4)) (bC 36 .i64 .i64 (e3,e4))] (by kernel_rfl) (by kernel_rfl) ⟨tt,(V4 q2),tt⟩ (fun σ1 hle=>aQ ?_)
  obtain rfl:=sI h
  exact⟨rfl,hle⟩
 refine aB (aA (aC ?_))
 obtain⟨z4,q4,h⟩:=aG h
 rcases z4 with⟨r10,r11,r12,r13,r14,r15,r16,r17,r18⟩ | ⟨e7,e8⟩
 ·refine pP 1 [2,3] (F0 q4) (aA (G (pV [.frzC 0 0,.frzC 0 3,.frzC 0 4] (by kernel_rfl) (aL ?_))))
  obtain rfl:=sI h
  exact⟨rfl,aD [Y11,Y2] (by kernel_rfl)⟩
 have u_1:=(F0 q4)
 refine aJh bB ⟨[],[(1,(oD u_1 [2,3]))]⟩ 1 (bC 36 .i64 .i64 (e7,e8)) [] [0,1] [(2,.adr 0 0 5 0),(3,.adr 1 0 2 0)] (ob3 0 (0:Int) (0:Int) (0:Int)) 2 2 [True,Dies Tryz.prog 82 [.adr 0 0 10 0] (ob2 text1 0 (0:Int) (0:Int) (0:Int) (0:Int) ([]:List Z4)) (bC 36 .i64 .i64 (e7,e8))] (by kernel_rfl) (by kernel_rfl) ⟨tt,(F0 q4),tt⟩ (fun σ1 hle=>aQ ?_)
 obtain rfl:=sI h
 exact⟨rfl,hle⟩
theorem X5{text1:List UInt8}{res:Z18×Int×Int}(h:vL text1=some res):
  Pure Tryz.prog 51 [.st text1] (aX (bJ false [⟨Y11,res.1⟩,⟨Y2,res.2⟩])):=by
 unfold vL at h
 obtain⟨r,hr,rfl⟩:=Option.map_eq_some_iff.1 h
 have:=L6  text1 r hr
 cases r with
 | inl x=>exact this
 | inr e=>exact this
def zX(e1:Int)(e3:List Tree)(rec_auto_Turn:Int→Int→(List Tree)→Option (Tree)):((List Tree)×Int)→Option (((List Tree)×Int)⊕(List Tree)):=fun(out2,v2) =>
 (if(decide (v2<(e3.length:Int)))=true then(if 0≤v2∧v2<(e3.length:Int)then(((if(e1 == 2)=true then(if 0≤(IntKind.i64.wrap ((IntKind.i64.wrap ((e3.length:Int) - 1)) - v2))∧(IntKind.i64.wrap ((IntKind.i64.wrap ((e3.length:Int) - 1)) - v2))<(e3.length:Int)then some (((e3.getD ((IntKind.i64.wrap ((IntKind.i64.wrap ((e3.length:Int) - 1)) - v2)).toNat) (Tree.node 0 0 [])).op,(e3.getD ((IntKind.i64.wrap ((IntKind.i64.wrap ((e3.length:Int) - 1)) - v2)).toNat) (Tree.node 0 0 [])).set,(e3.getD ((IntKind.i64.wrap ((IntKind.i64.wrap ((e3.length:Int) - 1)) - v2)).toNat) (Tree.node 0 0 [])).kids))else none)
 else some (((e3.getD v2.toNat (Tree.node 0 0 [])).op,(e3.getD v2.toNat (Tree.node 0 0 [])).set,(e3.getD v2.toNat (Tree.node 0 0 [])).kids)))).bind fun(k7,k8,k9)=>((rec_auto_Turn k7 k8 k9).bind fun r9 =>
 (if(out2.length+([(Tree.node r9.op r9.set r9.kids)]:List Tree).length)*32≤140737488355328∧out2.length+([(Tree.node r9.op r9.set r9.kids)]:List Tree).length≤9223372036854775807 then some (Sum.inl ((out2++([(Tree.node r9.op r9.set r9.kids)]:List Tree)),(IntKind.i64.wrap (v2+1))))else none)))else none)
 else some (Sum.inr out2))
def vI(rec_auto_Turn:Int→Int→(List Tree)→Option (Tree))(e1 e2:Int)(e3:List Tree):Option (Tree) :=
 ((iter (zX e1 e3 rec_auto_Turn) (([]:List Tree),0)).bind fun out3=>some (Tree.node e1 e2 out3))
def vW:Nat→Int→Int→(List Tree)→Option (Tree)
 | 0=>fun _ _ _=>none
 | n+1=>vI (vW n)
theorem U1(rec_auto_Turn:Int→Int→(List Tree)→Option (Tree))(hrec_auto_Turn:∀(β2:Bool) {e1:Int} {e2:Int} {e3:List Tree} {res:Tree},rec_auto_Turn e1 e2 e3=some res→Pure Tryz.prog 83 [.agg [.u8 e1,.u32 e2,.p β2 (.slice (.tree .u8 .u32)) e3]] (aX (bJ false [⟨(.tree .u8 .u32),res⟩])))(β2:Bool){e1:Int}{e2:Int}{e3:List Tree}{res:Tree}(h:vI rec_auto_Turn e1 e2 e3=some res):
  Pure Tryz.prog 83 [.agg [.u8 e1,.u32 e2,.p β2 (.slice (.tree .u8 .u32)) e3]] (aX (bJ false [⟨(.tree .u8 .u32),res⟩])):=by
 refine Pure.of_body bB Tryz.func83 (by kernel_rfl) rfl (nl rfl) (fun Bw w0=> ?_) rfl
 unfold vI at h
 refine G (G (aC (G (aF (cW h (fun(out2,v2)=>aM [(1,.adr 0 0 3 0),(2,.adr 1 0 3 0),(3,.adr 2 0 3 0),(13,.i64 (e3.length:Int)),(14,.i64 v2)] (aLT e1 e2 β2 e3 0 (0:Int) e1 e2 out2) 4) 0 (fun out3=>aM [(2,.adr 0 0 3 0),(3,.adr 1 0 3 0)] (aLr 0 (0:Int) e1 e2 out3) 3) (gg [.nilC 56 2 104 210 (.tree .u8 .u32)] [0,8,56,104]) (fun y o h=> ?_) (fun out3 h=> ?_))))))
 ·obtain⟨out2,v2⟩:=y
  unfold zX at h
  refine G (aC (aO h (fun hb7 h=> ?_) (fun hb7 h=> ?_)))
  ·refine aB (aA (aC (aF (G (GC 3 h (fun h=>aC (G (bO h (fun(k7,k8,k9)=>aM [(1,.adr 0 0 3 0),(2,.adr 1 0 3 0),(3,.adr 2 0 3 0),(5,.adr 4 0 3 0),(13,.i64 (e3.length:Int)),(14,.i64 v2)] (aLv e1 e2 β2 e3 0 (0:Int) e1 e2 out2 k7 k8 β2 k9) 5) (fun r7 h=> ?_) (fun r7 h=> ?_)))))))))
   ·refine aO h (fun hb9 h=> ?_) (fun hb9 h=> ?_)
    ·refine GCe 8 h (fun h=> ?_)
     exact eN h (gg [] [0,1,2,3,68])
    refine aB ?_
    exact eN h (gg [] [0,1,2,3,68])
   obtain⟨k7,k8,k9⟩:=r7
   refine aA ?_
   obtain⟨r9,q6,h⟩:=aG h
   obtain⟨c24,h⟩:=aS h
   have u_1:=(hrec_auto_Turn β2 q6)
   refine qA ⟨[],[(3,(oP u_1))]⟩ [(3,3,oc u_1),(5,5,oc c24)] (aK (aA (Ge ?_)))
   exact eB h (gg [] [0,1,2,45])
  refine aH (aY ?_)
  exact eX h (gg [] [1,2,3])
 refine aJ (aA (G (pV [.frzC 0 2] (by kernel_rfl) (aL ?_))))
 obtain rfl:=sI h
 exact aD [(.tree .u8 .u32)] (by kernel_rfl)
theorem zW:∀(n:Nat) (β2:Bool) {e1:Int} {e2:Int} {e3:List Tree} {res:Tree},vW n e1 e2 e3=some res→Pure Tryz.prog 83 [.agg [.u8 e1,.u32 e2,.p β2 (.slice (.tree .u8 .u32)) e3]] (aX (bJ false [⟨(.tree .u8 .u32),res⟩]))
 | 0,_,_,_,_,_,h=>by cases h
 | n+1,β2,e1,e2,e3,res,h=>U1 (vW n) (zW n) β2 h
def lS(i1:Int)(s1:Bool)(s2 s3 s4 s5 s6 s7 s8 s9:Int):Option Z2 :=
 (if ¬(64:Int)=0 then(if 0≤(IntKind.i64.wrap (Int.tdiv i1 64))∧(IntKind.i64.wrap (Int.tdiv i1 64))<((4:Nat):Int)then(if ¬(64:Int)=0 then(if 0≤(Int.tmod i1 64)then(if 0≤(IntKind.i64.wrap (Int.tdiv i1 64))∧(IntKind.i64.wrap (Int.tdiv i1 64))<((4:Nat):Int)then some ((if(IntKind.i64.wrap (Int.tdiv i1 64)).toNat=0 then(aT .or .u64 (([s2,s3,s4,s5]:List Int).getD ((IntKind.i64.wrap (Int.tdiv i1 64)).toNat) 0) (IntKind.u64.wrap (1*2 ^ (min (Int.tmod i1 64).toNat IntKind.u64.bits))))else s2),(if(IntKind.i64.wrap (Int.tdiv i1 64)).toNat=1 then(aT .or .u64 (([s2,s3,s4,s5]:List Int).getD ((IntKind.i64.wrap (Int.tdiv i1 64)).toNat) 0) (IntKind.u64.wrap (1*2 ^ (min (Int.tmod i1 64).toNat IntKind.u64.bits))))else s3),(if(IntKind.i64.wrap (Int.tdiv i1 64)).toNat=2 then(aT .or .u64 (([s2,s3,s4,s5]:List Int).getD ((IntKind.i64.wrap (Int.tdiv i1 64)).toNat) 0) (IntKind.u64.wrap (1*2 ^ (min (Int.tmod i1 64).toNat IntKind.u64.bits))))else s4),(if(IntKind.i64.wrap (Int.tdiv i1 64)).toNat=3 then(aT .or .u64 (([s2,s3,s4,s5]:List Int).getD ((IntKind.i64.wrap (Int.tdiv i1 64)).toNat) 0) (IntKind.u64.wrap (1*2 ^ (min (Int.tmod i1 64).toNat IntKind.u64.bits))))else s5))else none)else none)else none)else none)else none)
theorem xP{i1:Int}{s1:Bool}{s2:Int}{s3:Int}{s4:Int}{s5:Int}{s6:Int}{s7:Int}{s8:Int}{s9:Int}{res:Int×Int×Int×Int}(h:lS i1 s1 s2 s3 s4 s5 s6 s7 s8 s9=some res):
  Owns Tryz.prog 121 [.adr 0 0 9 1,.i64 i1] (aJJ s1 s2 s3 s4 s5 s6 s7 s8 s9) (.tup []) (aJJ s1 res.1 res.2.1 res.2.2.1 res.2.2.2 s6 s7 s8 s9):=by
 refine Owns.of_body bB Tryz.func121 (by kernel_rfl) rfl (nl rfl) (fun Bw w0=> ?_)
 unfold lS at h
 obtain⟨c16,c17,c18,c19,h⟩:=g4 h
 obtain⟨c20,h⟩:=aS h
 refine qA a0 [(2,2,oc c16),(4,4,oc c17),(7,7,oc c18),(8,8,oc c19),(11,11,oc c20)] ?_
 obtain rfl:=sI h
 exact(aR [] [] [0] [] (aJJ s1 (if(IntKind.i64.wrap (Int.tdiv i1 64)).toNat=0 then(aT .or .u64 (([s2,s3,s4,s5]:List Int).getD ((IntKind.i64.wrap (Int.tdiv i1 64)).toNat) 0) (IntKind.u64.wrap (1*2 ^ (min (Int.tmod i1 64).toNat IntKind.u64.bits))))else s2) (if(IntKind.i64.wrap (Int.tdiv i1 64)).toNat=1 then(aT .or .u64 (([s2,s3,s4,s5]:List Int).getD ((IntKind.i64.wrap (Int.tdiv i1 64)).toNat) 0) (IntKind.u64.wrap (1*2 ^ (min (Int.tmod i1 64).toNat IntKind.u64.bits))))else s3) (if(IntKind.i64.wrap (Int.tdiv i1 64)).toNat=2 then(aT .or .u64 (([s2,s3,s4,s5]:List Int).getD ((IntKind.i64.wrap (Int.tdiv i1 64)).toNat) 0) (IntKind.u64.wrap (1*2 ^ (min (Int.tmod i1 64).toNat IntKind.u64.bits))))else s4) (if(IntKind.i64.wrap (Int.tdiv i1 64)).toNat=3 then(aT .or .u64 (([s2,s3,s4,s5]:List Int).getD ((IntKind.i64.wrap (Int.tdiv i1 64)).toNat) 0) (IntKind.u64.wrap (1*2 ^ (min (Int.tmod i1 64).toNat IntKind.u64.bits))))else s5) s6 s7 s8 s9) 1 1 (by kernel_rfl) (by kernel_rfl) (by kernel_rfl)).normal
def j7(s1 s2 s3 s4 i1:Int):Option (Bool) :=
 (if ¬(64:Int)=0 then(if 0≤(IntKind.i64.wrap (Int.tdiv i1 64))∧(IntKind.i64.wrap (Int.tdiv i1 64))<((4:Nat):Int)then(if ¬(64:Int)=0 then(if 0≤(Int.tmod i1 64)then some ((aT .and .u64 (Int.fdiv (([s1,s2,s3,s4]:List Int).getD ((IntKind.i64.wrap (Int.tdiv i1 64)).toNat) 0) (2 ^ (min (Int.tmod i1 64).toNat IntKind.u64.bits))) (1:Int)) == 1)else none)else none)else none)else none)
theorem jF{s1:Int}{s2:Int}{s3:Int}{s4:Int}{i1:Int}{res:Bool}(h:j7 s1 s2 s3 s4 i1=some res):
  Pure Tryz.prog 119 [.agg [.u64 s1,.u64 s2,.u64 s3,.u64 s4],.i64 i1] (aX (bJ false [⟨.bool,res⟩])):=by
 refine Pure.of_body bB Tryz.func119 (by kernel_rfl) rfl (nl rfl) (fun Bw w0=> ?_) rfl
 unfold j7 at h
 refine G ?_
 obtain⟨c5,c6,c7,c8,h⟩:=g4 h
 refine GN a0 [(1,1,oc c5),(2,2,oc c6),(5,5,oc c7),(6,6,oc c8)] (aL ?_)
 obtain rfl:=sI h
 exact aD [.bool] (by kernel_rfl)
def uZ(o1 o2 o3 o4:Int):(Int×Int×Int×Int×Int)→Option ((Int×Int×Int×Int×Int)⊕Z2):=fun(s9,s10,s11,s12,v2) =>
 (if(decide (v2<4))=true then(if 0≤v2∧v2<((4:Nat):Int)then(if 0≤v2∧v2<((4:Nat):Int)then(if 0≤v2∧v2<((4:Nat):Int)then some (Sum.inl ((if v2.toNat=0 then(aT .or .u64 (([s9,s10,s11,s12]:List Int).getD v2.toNat 0) (([o1,o2,o3,o4]:List Int).getD v2.toNat 0))else s9),(if v2.toNat=1 then(aT .or .u64 (([s9,s10,s11,s12]:List Int).getD v2.toNat 0) (([o1,o2,o3,o4]:List Int).getD v2.toNat 0))else s10),(if v2.toNat=2 then(aT .or .u64 (([s9,s10,s11,s12]:List Int).getD v2.toNat 0) (([o1,o2,o3,o4]:List Int).getD v2.toNat 0))else s11),(if v2.toNat=3 then(aT .or .u64 (([s9,s10,s11,s12]:List Int).getD v2.toNat 0) (([o1,o2,o3,o4]:List Int).getD v2.toNat 0))else s12),(IntKind.i64.wrap (v2+1))))else none)else none)else none)
 else some (Sum.inr (s9,s10,s11,s12)))
def eH(s1 s2 s3 s4 o1 o2 o3 o4:Int):Option Z2 :=
 ((iter (uZ o1 o2 o3 o4) (s1,s2,s3,s4,0)).bind fun(s13,s14,s15,s16)=>some (s13,(s14,(s15,s16))))
theorem dN{s1:Int}{s2:Int}{s3:Int}{s4:Int}{o1:Int}{o2:Int}{o3:Int}{o4:Int}{res:Int×Int×Int×Int}(h:eH s1 s2 s3 s4 o1 o2 o3 o4=some res):
  Pure Tryz.prog 118 [.agg [.u64 s1,.u64 s2,.u64 s3,.u64 s4],.agg [.u64 o1,.u64 o2,.u64 o3,.u64 o4]] (aX (bJ false [⟨pJ,res⟩])):=by
 refine Pure.of_body bB Tryz.func118 (by kernel_rfl) rfl (nl rfl) (fun Bw w0=> ?_) rfl
 unfold eH at h
 refine G (aC (G (aF (cW h (fun(s9,s10,s11,s12,v2)=>aM [(2,.adr 0 0 4 0),(3,.adr 1 0 4 0),(4,.adr 2 0 4 0),(6,.i64 v2)] (aLf s9 s10 s11 s12 o1 o2 o3 o4 0 (0:Int) (0:Int) (0:Int)) 3) 0 (fun(s13,s14,s15,s16)=>aM [(2,.adr 0 0 4 0),(4,.adr 1 0 4 0)] (aK6 s13 s14 s15 s16 0 (0:Int) (0:Int) (0:Int)) 2) (gg [] [0,8,16]) (fun y o h=> ?_) (fun r1 h=> ?_)))))
 ·obtain⟨s9,s10,s11,s12,v2⟩:=y
  unfold uZ at h
  refine G (aC (aO h (fun hb3 h=> ?_) (fun hb3 h=> ?_)))
  ·refine aB (aA (aC (aF (G ?_))))
   obtain⟨c16,c17,c18,h⟩:=g3 h
   refine qA a0 [(1,1,oc c16),(4,4,oc c17),(7,7,oc c18)] (aK (aA (Ge ?_)))
   exact eB h (gg [] [0,1,2])
  refine aH (aY ?_)
  exact eX h (gg [] [0,2])
 obtain⟨s13,s14,s15,s16⟩:=r1
 refine aJ (aA (G (aL ?_)))
 obtain rfl:=sI h
 exact aD [pJ] (by kernel_rfl)
def kI(from1 from2 from3 from4 to1 to2 to3 to4:Int)(o2:List Z2):((List Z2)×Int)→Option (((List Z2)×Int)⊕(List Z2)):=fun(m10,v6) =>
 (if(decide (v6<(o2.length:Int)))=true then((j7 from1 from2 from3 from4 v6).bind fun r32 =>
 (((if r32=true then(if 0≤v6∧v6<(m10.length:Int)then(if v6.toNat<m10.length then((eH ((m10.getD v6.toNat (0,0,0,0)).1) ((m10.getD v6.toNat (0,0,0,0)).2.1) ((m10.getD v6.toNat (0,0,0,0)).2.2.1) ((m10.getD v6.toNat (0,0,0,0)).2.2.2) to1 to2 to3 to4).bind fun r36 =>
 (if 0≤v6∧v6<(m10.length:Int)then(if v6.toNat<m10.length then some ((m10.set v6.toNat (r36.1,(r36.2.1,(r36.2.2.1,r36.2.2.2)))))else none)else none))else none)else none)
 else some (m10))).bind fun m11=>some (Sum.inl (m11,(IntKind.i64.wrap (v6+1))))))
 else some (Sum.inr m10))
def gM(from1 from2 from3 from4 to1 to2 to3 to4:Int)(m1:Bool)(o1:List Int)(o2:List Z2):Option (List Z2) :=
 ((iter (kI from1 from2 from3 from4 to1 to2 to3 to4 o2) (o2,0)).bind fun v7=>some v7)
theorem kL{from1:Int}{from2:Int}{from3:Int}{from4:Int}{to1:Int}{to2:Int}{to3:Int}{to4:Int}{m1:Bool}{o1:List Int}{o2:List Z2}{res:List Z2}(h:gM from1 from2 from3 from4 to1 to2 to3 to4 m1 o1 o2=some res):
  Owns Tryz.prog 149 [.adr 0 0 3 0,.agg [.u64 from1,.u64 from2,.u64 from3,.u64 from4],.agg [.u64 to1,.u64 to2,.u64 to3,.u64 to4]] (aEC m1 o1 o2) (.tup []) (aEC m1 o1 res):=by
 refine Owns.of_body bB Tryz.func149 (by kernel_rfl) rfl (nl rfl) (fun Bw w0=> ?_)
 unfold gM at h
 refine G (G (aF (cW h (fun(m10,v6)=>aM [(0,.adr 0 0 3 0),(4,.adr 3 0 4 0),(5,.adr 4 0 4 0),(11,.i64 (o2.length:Int)),(12,.i64 v6)] (aKX m1 o1 m10 from1 from2 from3 from4 to1 to2 to3 to4) 5 3) 0 (fun v7=>aM [] (aEC m1 o1 v7) 3 3) (gg [] [0,1,2,3,11]) (fun y o h=> ?_) (fun v7 h=> ?_))))
 ·obtain⟨m10,v6⟩:=y
  unfold kI at h
  refine G (aC (aO h (fun hb16 h=> ?_) (fun hb16 h=> ?_)))
  ·refine aB (aA (aC (aF (G ?_))))
   obtain⟨r32,q32,h⟩:=aG h
   refine GP 2 (jF q32) (bO h (fun m11=>aM [(0,.adr 0 0 3 0),(4,.adr 3 0 4 0),(5,.adr 4 0 4 0),(11,.i64 (o2.length:Int)),(12,.i64 v6)] (aKX m1 o1 m11 from1 from2 from3 from4 to1 to2 to3 to4) 5 3) (fun m11 h=> ?_) (fun m11 h=> ?_))
   ·refine aO h (fun hb18 h=> ?_) (fun hb18 h=> ?_)
    ·obtain⟨c93,c94,h⟩:=g2 h
     obtain⟨r36,q36,h⟩:=aG h
     obtain⟨c95,c96,h⟩:=g2 h
     have u_1:=(dN q36)
     refine qA ⟨[],[(13,(oP u_1))]⟩ [(10,10,oc c93),(11,11,oc c94),(13,13,oc u_1),(14,14,oc c95),(15,15,oc c96)] ?_
     exact eN h (gg [] [0,1,2,3,4])
    refine aB ?_
    exact eN h (gg [] [0,1,2,3,4])
   refine aK (aA (Ge ?_))
   exact eB h (gg [] [0,1,2,3,4])
  refine aH (aY ?_)
  exact eX h (gg [] [0,1,2])
 refine aJ ?_
 obtain rfl:=sI h
 exact(aR [] [] [0,1,2] [] (aEC m1 o1 v7) 3 3 (by kernel_rfl) (by kernel_rfl) (by kernel_rfl)).normal
def mB(i3:List Tree)(rec_auto_maker_of_v3:Int→Int→(List Tree)→Bool→(List Int)→(List Z2)→Option (G5×(List Int)×(List Z2)×Bool)):((List Int)×(List Z2)×Bool×Bool×Int×Int×Int×Int×Int×Int×Int×Int×Int)→Option (((List Int)×(List Z2)×Bool×Bool×Int×Int×Int×Int×Int×Int×Int×Int×Int)⊕(Bool×Int×Int×Int×Int×Int×Int×Int×Int×(List Int)×(List Z2)×Bool)):=fun(d20,d21,d22,v148,v149,v150,v151,v152,v153,v154,v155,v156,v157) =>
 (if(decide (v157<(i3.length:Int)))=true then(if 0≤v157∧v157<(i3.length:Int)then((rec_auto_maker_of_v3 ((i3.getD v157.toNat (Tree.node 0 0 [])).op) ((i3.getD v157.toNat (Tree.node 0 0 [])).set) ((i3.getD v157.toNat (Tree.node 0 0 [])).kids) d22 d20 d21).bind fun(r209,r210,r211,r212) =>
 ((gM v153 v154 v155 v156 r209.2.1.1 r209.2.1.2.1 r209.2.1.2.2.1 r209.2.1.2.2.2 r212 r210 r211).bind fun r214 =>
 (((if v148=true then((eH v149 v150 v151 v152 r209.2.1.1 r209.2.1.2.1 r209.2.1.2.2.1 r209.2.1.2.2.2).bind fun r218 =>
 some ((r218.1,r218.2.1,r218.2.2.1,r218.2.2.2)))
 else some ((v149,v150,v151,v152)))).bind fun(v170,v171,v172,v173)=>(((if r209.1=true then((eH r209.2.2.1 r209.2.2.2.1 r209.2.2.2.2.1 r209.2.2.2.2.2 v153 v154 v155 v156).bind fun r223 =>
 some ((r223.1,r223.2.1,r223.2.2.1,r223.2.2.2)))
 else some ((r209.2.2.1,r209.2.2.2.1,r209.2.2.2.2.1,r209.2.2.2.2.2)))).bind fun(v174,v175,v176,v177)=>(((if v148=true then some (r209.1)
 else some (false))).bind fun v178=>some (Sum.inl (r210,r214,r212,v178,v170,v171,v172,v173,v174,v175,v176,v177,(IntKind.i64.wrap (v157+1)))))))))else none)
 else some (Sum.inr (v148,v149,v150,v151,v152,v153,v154,v155,v156,d20,d21,d22)))
def mE(i3:List Tree)(rec_auto_maker_of_v3:Int→Int→(List Tree)→Bool→(List Int)→(List Z2)→Option (G5×(List Int)×(List Z2)×Bool)):((List Int)×(List Z2)×Bool×Bool×Int×Int×Int×Int×Int×Int×Int×Int×Int)→Option (((List Int)×(List Z2)×Bool×Bool×Int×Int×Int×Int×Int×Int×Int×Int×Int)⊕(Bool×Int×Int×Int×Int×Int×Int×Int×Int×(List Int)×(List Z2)×Bool)):=fun(d26,d27,d28,v198,v199,v200,v201,v202,v203,v204,v205,v206,v207) =>
 (if(decide (v207<(i3.length:Int)))=true then(if 0≤v207∧v207<(i3.length:Int)then((rec_auto_maker_of_v3 ((i3.getD v207.toNat (Tree.node 0 0 [])).op) ((i3.getD v207.toNat (Tree.node 0 0 [])).set) ((i3.getD v207.toNat (Tree.node 0 0 [])).kids) d28 d26 d27).bind fun(r263,r264,r265,r266) =>
 (((if v198=true then((eH v199 v200 v201 v202 r263.2.1.1 r263.2.1.2.1 r263.2.1.2.2.1 r263.2.1.2.2.2).bind fun r275 =>
 ((eH v203 v204 v205 v206 r263.2.2.1 r263.2.2.2.1 r263.2.2.2.2.1 r263.2.2.2.2.2).bind fun r276 =>
 some ((true,r275.1,r275.2.1,r275.2.2.1,r275.2.2.2,r276.1,r276.2.1,r276.2.2.1,r276.2.2.2))))
 else((eH v199 v200 v201 v202 r263.2.1.1 r263.2.1.2.1 r263.2.1.2.2.1 r263.2.1.2.2.2).bind fun r277 =>
 ((eH v203 v204 v205 v206 r263.2.2.1 r263.2.2.2.1 r263.2.2.2.2.1 r263.2.2.2.2.2).bind fun r278 =>
 some ((r263.1,r277.1,r277.2.1,r277.2.2.1,r277.2.2.2,r278.1,r278.2.1,r278.2.2.1,r278.2.2.2)))))).bind fun(v220,v221,v222,v223,v224,v225,v226,v227,v228)=>some (Sum.inl (r264,r265,r266,v220,v221,v222,v223,v224,v225,v226,v227,v228,(IntKind.i64.wrap (v207+1))))))else none)
 else some (Sum.inr (v198,v199,v200,v201,v202,v203,v204,v205,v206,d26,d27,d28)))
def jL(rec_auto_maker_of_v3:Int→Int→(List Tree)→Bool→(List Int)→(List Z2)→Option (G5×(List Int)×(List Z2)×Bool))(i1 i2:Int)(i3:List Tree)(d1:Bool)(o1:List Int)(o2:List Z2):Option (G5×(List Int)×(List Z2)×Bool) :=
 (if(i1 == 1)=true then(if(decide ((o1.length:Int)≥200))=true then some ((false,((0,0,0,0),(0,0,0,0))),o1,o2,true)
 else((lS (o1.length:Int) false 0 (0:Int) (0:Int) (0:Int) (0:Int) (0:Int) (0:Int) (0:Int)).bind fun(r164,r165,r166,r167) =>
 (if(o1.length+([i2]:List Int).length)*4≤140737488355328∧o1.length+([i2]:List Int).length≤9223372036854775807 then(if(o2.length+([(0,0,0,0)]:List Z2).length)*32≤140737488355328∧o2.length+([(0,0,0,0)]:List Z2).length≤9223372036854775807 then some ((false,((r164,(r165,(r166,r167))),(r164,(r165,(r166,r167))))),(o1++([i2]:List Int)),(o2++([(0,0,0,0)]:List Z2)),d1)else none)else none)))
 else(if(i1 == 2)=true then((iter (mB i3 rec_auto_maker_of_v3) (o1,o2,d1,true,0,0,0,0,0,0,0,0,0)).bind fun(v158,v159,v160,v161,v162,v163,v164,v165,v166,v167,v168,v169)=>some ((v158,((v159,(v160,(v161,v162))),(v163,(v164,(v165,v166))))),v167,v168,v169))
 else(if(i1 == 3)=true then((iter (mE i3 rec_auto_maker_of_v3) (o1,o2,d1,false,0,0,0,0,0,0,0,0,0)).bind fun(v208,v209,v210,v211,v212,v213,v214,v215,v216,v217,v218,v219)=>some ((v208,((v209,(v210,(v211,v212))),(v213,(v214,(v215,v216))))),v217,v218,v219))
 else(((if(i1 == 4)=true then some ((i1 == 4))
 else(if(i1 == 5)=true then some ((i1 == 5))
 else some ((i1 == 6))))).bind fun v229=>(if v229=true then(((if(decide ((i3.length:Int) > 0))=true then(if 0≤(0:Int)∧0<(i3.length:Int)then((rec_auto_maker_of_v3 ((i3.getD ((0:Int).toNat) (Tree.node 0 0 [])).op) ((i3.getD ((0:Int).toNat) (Tree.node 0 0 [])).set) ((i3.getD ((0:Int).toNat) (Tree.node 0 0 [])).kids) d1 o1 o2).bind fun(r293,r294,r295,r296) =>
 some ((r294,r295,r296,r293.1,r293.2.1.1,r293.2.1.2.1,r293.2.1.2.2.1,r293.2.1.2.2.2,r293.2.2.1,r293.2.2.2.1,r293.2.2.2.2.1,r293.2.2.2.2.2)))else none)
 else some ((o1,o2,d1,false,0,0,0,0,0,0,0,0)))).bind fun(d29,d30,d31,v230,v231,v232,v233,v234,v235,v236,v237,v238)=>(((if(i1 != 6)=true then((gM v235 v236 v237 v238 v231 v232 v233 v234 d31 d29 d30).bind fun r301 =>
 some (r301))
 else some (d30))).bind fun v239=>(((if v230=true then some (true)
 else some ((i1 != 5)))).bind fun v240=>some ((v240,((v231,(v232,(v233,v234))),(v235,(v236,(v237,v238))))),d29,v239,d31))))
 else some ((true,((0,0,0,0),(0,0,0,0))),o1,o2,d1))))))
def iM:Nat→Int→Int→(List Tree)→Bool→(List Int)→(List Z2)→Option (G5×(List Int)×(List Z2)×Bool)
 | 0=>fun _ _ _ _ _ _=>none
 | n+1=>jL (iM n)
theorem sW(rec_auto_maker_of_v3:Int→Int→(List Tree)→Bool→(List Int)→(List Z2)→Option (G5×(List Int)×(List Z2)×Bool))(hrec_auto_maker_of_v3:∀(β2:Bool) {i1:Int} {i2:Int} {i3:List Tree} {d1:Bool} {o1:List Int} {o2:List Z2} {res:G5×(List Int)×(List Z2)×Bool},rec_auto_maker_of_v3 i1 i2 i3 d1 o1 o2=some res→Owns Tryz.prog 117 [.adr 0 0 3 0,.agg [.u8 i1,.u32 i2,.p β2 (.slice (.tree .u8 .u32)) i3]] (aEC d1 o1 o2) (.agg [.bo res.1.1,.u64 res.1.2.1.1,.u64 res.1.2.1.2.1,.u64 res.1.2.1.2.2.1,.u64 res.1.2.1.2.2.2,.u64 res.1.2.2.1,.u64 res.1.2.2.2.1,.u64 res.1.2.2.2.2.1,.u64 res.1.2.2.2.2.2]) (aJ5 res.2.2.2 res.2.1 res.2.2.1))(β2:Bool){i1:Int}{i2:Int}{i3:List Tree}{d1:Bool}{o1:List Int}{o2:List Z2}{res:G5×(List Int)×(List Z2)×Bool}(h:jL rec_auto_maker_of_v3 i1 i2 i3 d1 o1 o2=some res):
  Owns Tryz.prog 117 [.adr 0 0 3 0,.agg [.u8 i1,.u32 i2,.p β2 (.slice (.tree .u8 .u32)) i3]] (aEC d1 o1 o2) (.agg [.bo res.1.1,.u64 res.1.2.1.1,.u64 res.1.2.1.2.1,.u64 res.1.2.1.2.2.1,.u64 res.1.2.1.2.2.2,.u64 res.1.2.2.1,.u64 res.1.2.2.2.1,.u64 res.1.2.2.2.2.1,.u64 res.1.2.2.2.2.2]) (aJ5 res.2.2.2 res.2.1 res.2.2.1):=by
 refine Owns.of_body bB Tryz.func117 (by kernel_rfl) rfl (nl rfl) (fun Bw w0=> ?_)
 unfold jL at h
 refine G (aC (G (aF (G (aO h (fun hb63 h=> ?_) (fun hb63 h=> ?_))))))
 ·refine aC (G (aO h (fun hb64 h=> ?_) (fun hb64 h=> ?_)))
  ·refine G (G (aL (aE (aN (aE ?_)))))
   obtain rfl:=sI h
   exact aR [some Y16] [] [0,1,2,1,2,11] [(4,.adr 5 0 9 0)] (aGE true o1 o2 false 0 (0:Int) (0:Int) (0:Int) (0:Int) (0:Int) (0:Int) (0:Int)) 6 3 (by kernel_rfl) (by kernel_rfl) (by kernel_rfl)
  refine aB (aA (G ?_))
  obtain⟨⟨r164,r165,r166,r167⟩,q86,h⟩:=aG h
  refine GO 6 [99] (xP q86) (G ?_)
  obtain⟨c38,h⟩:=aS h
  refine GD a0 [(8,8,oc c38)] (GC 7 h (fun h=>G (aL (aN (aE ?_)))))
  obtain rfl:=sI h
  exact aR [some Y16] [] [0,1,2,259,347,11] [(4,.adr 5 0 9 0)] (aGE d1 (o1++([i2]:List Int)) (o2++([(0,0,0,0)]:List Z2)) false r164 r165 r166 r167 r164 r165 r166 r167) 6 3 (by kernel_rfl) (by kernel_rfl) (by kernel_rfl)
 refine G (aO h (fun hb65 h=> ?_) (fun hb65 h=> ?_))
 ·refine G (aC (G (aF (cW h (fun(d20,d21,d22,v148,v149,v150,v151,v152,v153,v154,v155,v156,v157)=>aM [(0,.adr 0 0 3 0),(4,.adr 5 0 9 0),(6,.adr 6 0 9 0),(65,.p β2 (.slice (.tree .u8 .u32)) i3),(66,.i64 (i3.length:Int)),(67,.i64 v157)] (aIm d22 d20 d21 false 0 (0:Int) (0:Int) (0:Int) (0:Int) (0:Int) (0:Int) (0:Int) v148 v149 v150 v151 v152 v153 v154 v155 v156) 7 3) 1 (fun(v158,v159,v160,v161,v162,v163,v164,v165,v166,v167,v168,v169)=>aM [(4,.adr 3 0 9 0),(6,.adr 4 0 9 0)] (aJE v169 false 0 (0:Int) (0:Int) (0:Int) (0:Int) (0:Int) (0:Int) (0:Int) v158 v159 v160 v161 v162 v163 v164 v165 v166 v167 v168) 7 3) (gg [] [0,1,2,1,2,11,75]) (fun y o h=> ?_) (fun r225 h=> ?_)))))
  ·obtain⟨d20,d21,d22,v148,v149,v150,v151,v152,v153,v154,v155,v156,v157⟩:=y
   unfold mB at h
   refine G (aC (aO h (fun hb78 h=> ?_) (fun hb78 h=> ?_)))
   ·refine aB (aA (aC (aF (GC 0 h (fun h=> ?_)))))
    obtain⟨⟨r209,r210,r211,r212⟩,q110,h⟩:=aG h
    refine GO 2 [0,3,4] (hrec_auto_maker_of_v3 β2 q110) ?_
    obtain⟨r214,q112,h⟩:=aG h
    refine GO 5 [0,63,64] (kL q112) (aC (G (bO h (fun(v170,v171,v172,v173)=>aM [(0,.adr 0 0 3 0),(4,.adr 5 0 9 0),(6,.adr 6 0 9 0),(9,.adr 7 0 9 0),(65,.p β2 (.slice (.tree .u8 .u32)) i3),(66,.i64 (i3.length:Int)),(67,.i64 v157)] (aKw r212 r210 r214 false 0 (0:Int) (0:Int) (0:Int) (0:Int) (0:Int) (0:Int) (0:Int) v148 v170 v171 v172 v173 v153 v154 v155 v156 r209.1 r209.2.1.1 r209.2.1.2.1 r209.2.1.2.2.1 r209.2.1.2.2.2 r209.2.2.1 r209.2.2.2.1 r209.2.2.2.2.1 r209.2.2.2.2.2) 8 3) (fun r219 h=> ?_) (fun r219 h=> ?_))))
    ·refine aO h (fun hb80 h=> ?_) (fun hb80 h=> ?_)
     ·obtain⟨r218,q116,h⟩:=aG h
      refine GPe 4 (dN q116) ?_
      exact eN h (gg [] [0,1,2,63,64,5,6,71])
     refine aB ?_
     exact eN h (gg [] [0,1,2,63,64,5,6,71])
    obtain⟨v170,v171,v172,v173⟩:=r219
    refine aA (aC (G (bO h (fun(v174,v175,v176,v177)=>aM [(0,.adr 0 0 3 0),(4,.adr 5 0 9 0),(6,.adr 6 0 9 0),(9,.adr 7 0 9 0),(65,.p β2 (.slice (.tree .u8 .u32)) i3),(66,.i64 (i3.length:Int)),(67,.i64 v157)] (aKw r212 r210 r214 false 0 (0:Int) (0:Int) (0:Int) (0:Int) (0:Int) (0:Int) (0:Int) v148 v170 v171 v172 v173 v153 v154 v155 v156 r209.1 r209.2.1.1 r209.2.1.2.1 r209.2.1.2.2.1 r209.2.1.2.2.2 v174 v175 v176 v177) 8 3) (fun r224 h=> ?_) (fun r224 h=> ?_))))
    ·refine aO h (fun hb82 h=> ?_) (fun hb82 h=> ?_)
     ·obtain⟨r223,q120,h⟩:=aG h
      refine GPe 4 (dN q120) ?_
      exact eN h (gg [] [0,1,2,3,4,5,6,7])
     refine aB ?_
     exact eN h (gg [] [0,1,2,3,4,5,6,7])
    obtain⟨v174,v175,v176,v177⟩:=r224
    refine aA (bO h (fun v178=>aM [(0,.adr 0 0 3 0),(4,.adr 5 0 9 0),(6,.adr 6 0 9 0),(65,.p β2 (.slice (.tree .u8 .u32)) i3),(66,.i64 (i3.length:Int)),(67,.i64 v157)] (aIm r212 r210 r214 false 0 (0:Int) (0:Int) (0:Int) (0:Int) (0:Int) (0:Int) (0:Int) v178 v170 v171 v172 v173 v174 v175 v176 v177) 7 3) (fun v178 h=> ?_) (fun v178 h=> ?_))
    ·rcases aW h with⟨hb85,h⟩ | ⟨hb85,h⟩
     ·refine qA ⟨[(2,true),(5,true)],[]⟩ [(3,4,an hb85),(5,5,oc hb85)] ?_
      exact eN h (gg [] [0,1,2,3,4,5,6])
     refine qA ⟨[(2,false),(5,false)],[]⟩ [(3,5,oc hb85)] ?_
     exact eN h (gg [] [0,1,2,3,4,5,6])
    refine aK (aA (Ge ?_))
    exact eB h (gg [] [0,1,2,3,4,5,6])
   refine aH (aY ?_)
   exact eX h (gg [] [0,1,2,5,6,3,4])
  obtain⟨v158,v159,v160,v161,v162,v163,v164,v165,v166,v167,v168,v169⟩:=r225
  refine aJ (aA (G (aL (aN (aE ?_)))))
  obtain rfl:=sI h
  exact aR [some Y16] [] [0,1,2,5,6,3] [(4,.adr 5 0 9 0)] (aGE v169 v167 v168 v158 v159 v160 v161 v162 v163 v164 v165 v166) 6 3 (by kernel_rfl) (by kernel_rfl) (by kernel_rfl)
 refine G (aO h (fun hb86 h=> ?_) (fun hb86 h=> ?_))
 ·refine G (aC (G (aF (cW h (fun(d26,d27,d28,v198,v199,v200,v201,v202,v203,v204,v205,v206,v207)=>aM [(0,.adr 0 0 3 0),(4,.adr 5 0 9 0),(10,.adr 6 0 9 0),(111,.p β2 (.slice (.tree .u8 .u32)) i3),(112,.i64 (i3.length:Int)),(113,.i64 v207)] (aIm d28 d26 d27 false 0 (0:Int) (0:Int) (0:Int) (0:Int) (0:Int) (0:Int) (0:Int) v198 v199 v200 v201 v202 v203 v204 v205 v206) 7 3) 3 (fun(v208,v209,v210,v211,v212,v213,v214,v215,v216,v217,v218,v219)=>aM [(4,.adr 3 0 9 0),(10,.adr 4 0 9 0)] (aJE v219 false 0 (0:Int) (0:Int) (0:Int) (0:Int) (0:Int) (0:Int) (0:Int) v208 v209 v210 v211 v212 v213 v214 v215 v216 v217 v218) 7 3) (gg [] [0,1,2,1,2,11,83]) (fun y o h=> ?_) (fun r280 h=> ?_)))))
  ·obtain⟨d26,d27,d28,v198,v199,v200,v201,v202,v203,v204,v205,v206,v207⟩:=y
   unfold mE at h
   refine G (aC (aO h (fun hb92 h=> ?_) (fun hb92 h=> ?_)))
   ·refine aB (aA (aC (aF (GC 0 h (fun h=> ?_)))))
    obtain⟨⟨r263,r264,r265,r266⟩,q142,h⟩:=aG h
    refine GO 2 [0,3,4] (hrec_auto_maker_of_v3 β2 q142) (bO h (fun(v220,v221,v222,v223,v224,v225,v226,v227,v228)=>aM [(0,.adr 0 0 3 0),(4,.adr 5 0 9 0),(10,.adr 6 0 9 0),(111,.p β2 (.slice (.tree .u8 .u32)) i3),(112,.i64 (i3.length:Int)),(113,.i64 v207)] (aIm r266 r264 r265 false 0 (0:Int) (0:Int) (0:Int) (0:Int) (0:Int) (0:Int) (0:Int) v220 v221 v222 v223 v224 v225 v226 v227 v228) 7 3) (fun r279 h=> ?_) (fun r279 h=> ?_))
    ·rcases aW h with⟨hb95,h⟩ | ⟨hb95,h⟩
     ·obtain⟨r275,q151,h⟩:=aG h
      obtain⟨r276,q152,h⟩:=aG h
      have u_1:=(dN q151)
      have u_2:=(dN q152)
      refine qA ⟨[(2,true),(5,true)],[(10,(oP u_1)),(15,(oP u_2))]⟩ [(3,5,oc hb95),(10,10,oc u_1),(15,15,oc u_2)] ?_
      exact eN h (gg [] [0,1,2,63,64,5,6])
     obtain⟨r277,q153,h⟩:=aG h
     obtain⟨r278,q154,h⟩:=aG h
     have u_1:=(dN q153)
     have u_2:=(dN q154)
     refine qA ⟨[(2,false),(5,false)],[(10,(oP u_1)),(15,(oP u_2))]⟩ [(3,4,an hb95),(5,5,oc hb95),(10,10,oc u_1),(15,15,oc u_2)] ?_
     exact eN h (gg [] [0,1,2,63,64,5,6])
    obtain⟨v220,v221,v222,v223,v224,v225,v226,v227,v228⟩:=r279
    refine aK (aA (Ge ?_))
    exact eB h (gg [] [0,1,2,3,4,5,6])
   refine aH (aY ?_)
   exact eX h (gg [] [0,1,2,5,6,3,4])
  obtain⟨v208,v209,v210,v211,v212,v213,v214,v215,v216,v217,v218,v219⟩:=r280
  refine aJ (aA (G (aL (aN (aE ?_)))))
  obtain rfl:=sI h
  exact aR [some Y16] [] [0,1,2,5,6,3] [(4,.adr 5 0 9 0)] (aGE v219 v217 v218 v208 v209 v210 v211 v212 v213 v214 v215 v216) 6 3 (by kernel_rfl) (by kernel_rfl) (by kernel_rfl)
 refine aC (G (bO h (fun v229=>aM [(0,.adr 0 0 3 0),(3,.adr 3 0 3 0),(4,.adr 4 0 9 0),(139,.bo v229)] (aLH d1 o1 o2 i1 i2 β2 i3 false 0 (0:Int) (0:Int) (0:Int) (0:Int) (0:Int) (0:Int) (0:Int)) 5 3) (fun v229 h=> ?_) (fun v229 h=> ?_)))
 ·refine aO h (fun hb98 h=> ?_) (fun hb98 h=> ?_)
  ·refine aB ?_
   exact eN h (gg [] [0,1,2,3,11])
  refine G (aO h (fun hb99 h=> ?_) (fun hb99 h=> ?_))
  ·refine aB ?_
   exact eN h (gg [] [0,1,2,3,11])
  refine Ge ?_
  exact eN h (gg [] [0,1,2,3,11])
 refine aA (aO h (fun hb100 h=> ?_) (fun hb100 h=> ?_))
 ·refine G (aC (G (bO h (fun(d29,d30,d31,v230,v231,v232,v233,v234,v235,v236,v237,v238)=>aM [(0,.adr 0 0 3 0),(3,.adr 5 0 3 0),(4,.adr 6 0 9 0),(14,.adr 7 0 9 0)] (aLs d31 d29 d30 i1 i2 β2 i3 false 0 (0:Int) (0:Int) (0:Int) (0:Int) (0:Int) (0:Int) (0:Int) v230 v231 v232 v233 v234 v235 v236 v237 v238) 8 3) (fun r297 h=> ?_) (fun r297 h=> ?_))))
  ·refine aO h (fun hb102 h=> ?_) (fun hb102 h=> ?_)
   ·obtain⟨c56,h⟩:=aS h
    obtain⟨⟨r293,r294,r295,r296⟩,q158,h⟩:=aG h
    have u_1:=(hrec_auto_maker_of_v3 β2 q158)
    refine bS ⟨[],[(5,(oO u_1 [0,1,2]))]⟩ [(3,3,oc c56),(5,5,oc u_1)] ?_
    exact eN h (gg [] [0,1,2,85,86,3,4,5])
   refine aB ?_
   exact eN h (gg [] [0,1,2,1,2,3,4,5])
  obtain⟨d29,d30,d31,v230,v231,v232,v233,v234,v235,v236,v237,v238⟩:=r297
  refine aA (aC (G (bO h (fun v239=>aM [(3,.adr 3 0 3 0),(4,.adr 4 0 9 0),(14,.adr 5 0 9 0)] (aLj d31 i1 i2 β2 i3 false 0 (0:Int) (0:Int) (0:Int) (0:Int) (0:Int) (0:Int) (0:Int) v230 v231 v232 v233 v234 v235 v236 v237 v238 d29 v239) 8 3) (fun v239 h=> ?_) (fun v239 h=> ?_))))
  ·refine aO h (fun hb104 h=> ?_) (fun hb104 h=> ?_)
   ·obtain⟨r301,q162,h⟩:=aG h
    refine pP 5 [0,3,4] (kL q162) ?_
    exact eN h (gg [] [0,1,2,5,6,7,3,4])
   refine aB ?_
   exact eN h (gg [] [0,1,2,5,6,7,3,4])
  refine aA (aC (bO h (fun v240=>aM [(4,.adr 3 0 9 0),(14,.adr 4 0 9 0)] (aJE d31 false 0 (0:Int) (0:Int) (0:Int) (0:Int) (0:Int) (0:Int) (0:Int) v240 v231 v232 v233 v234 v235 v236 v237 v238 d29 v239) 7 3) (fun v240 h=> ?_) (fun v240 h=> ?_)))
  ·rcases aW h with⟨hb107,h⟩ | ⟨hb107,h⟩
   ·refine bS ⟨[(2,true),(6,true)],[]⟩ [(3,6,oc hb107)] ?_
    exact eN h (gg [] [0,1,2,4,5,6,7])
   refine bS ⟨[(2,false),(6,false)],[]⟩ [(3,5,an hb107),(6,6,oc hb107)] ?_
   exact eN h (gg [] [0,1,2,4,5,6,7])
  refine aA (G (aL (aN (aE ?_))))
  obtain rfl:=sI h
  exact aR [some Y16] [] [0,1,2,5,6,3] [(4,.adr 5 0 9 0)] (aGE d31 d29 v239 v240 v231 v232 v233 v234 v235 v236 v237 v238) 6 3 (by kernel_rfl) (by kernel_rfl) (by kernel_rfl)
 refine aB (aK (aA (G (aL ?_))))
 obtain rfl:=sI h
 exact aR [some Y16] [] [0,1,2,1,2,4] [(4,.adr 5 0 9 0)] (aGE d1 o1 o2 true 0 (0:Int) (0:Int) (0:Int) (0:Int) (0:Int) (0:Int) (0:Int)) 6 3 (by kernel_rfl) (by kernel_rfl) (by kernel_rfl)
theorem mF:∀(n:Nat) (β2:Bool) {i1:Int} {i2:Int} {i3:List Tree} {d1:Bool} {o1:List Int} {o2:List Z2} {res:G5×(List Int)×(List Z2)×Bool},iM n i1 i2 i3 d1 o1 o2=some res→Owns Tryz.prog 117 [.adr 0 0 3 0,.agg [.u8 i1,.u32 i2,.p β2 (.slice (.tree .u8 .u32)) i3]] (aEC d1 o1 o2) (.agg [.bo res.1.1,.u64 res.1.2.1.1,.u64 res.1.2.1.2.1,.u64 res.1.2.1.2.2.1,.u64 res.1.2.1.2.2.2,.u64 res.1.2.2.1,.u64 res.1.2.2.2.1,.u64 res.1.2.2.2.2.1,.u64 res.1.2.2.2.2.2]) (aJ5 res.2.2.2 res.2.1 res.2.2.1)
 | 0,_,_,_,_,_,_,_,_,h=>by cases h
 | n+1,β2,i1,i2,i3,d1,o1,o2,res,h=>sW (iM n) (mF n) β2 h
def xE(a1 a2 a3 a4 b1 b2 b3 b4:Int):(Int)→Option ((Int)⊕((Unit)⊕(Bool))):=fun v2 =>
 (if(decide (v2<4))=true then(if 0≤v2∧v2<((4:Nat):Int)then(if 0≤v2∧v2<((4:Nat):Int)then(if((aT .and .u64 (([a1,a2,a3,a4]:List Int).getD v2.toNat 0) (([b1,b2,b3,b4]:List Int).getD v2.toNat 0)) != 0)=true then some (Sum.inr (Sum.inr true))
 else some (Sum.inl (IntKind.i64.wrap (v2+1))))else none)else none)
 else some (Sum.inr (Sum.inl ())))
def yN(a1 a2 a3 a4 b1 b2 b3 b4:Int):Option (Bool) :=
 ((iter (xE a1 a2 a3 a4 b1 b2 b3 b4) (0:Int)).bind fun(r2:((Unit)⊕(Bool)))=>match r2 with
 | .inl _=>some false
 | .inr (r1)=>some r1)
theorem aAh{a1:Int}{a2:Int}{a3:Int}{a4:Int}{b1:Int}{b2:Int}{b3:Int}{b4:Int}{res:Bool}(h:yN a1 a2 a3 a4 b1 b2 b3 b4=some res):
  Pure Tryz.prog 120 [.agg [.u64 a1,.u64 a2,.u64 a3,.u64 a4],.agg [.u64 b1,.u64 b2,.u64 b3,.u64 b4]] (aX (bJ false [⟨.bool,res⟩])):=by
 refine Pure.of_body bB Tryz.func120 (by kernel_rfl) rfl (nl rfl) (fun Bw w0=> ?_) rfl
 unfold yN at h
 refine G (aC (G (aF (mG h (fun v2=>aM [(2,.adr 0 0 4 0),(3,.adr 1 0 4 0),(6,.i64 v2)] (aK6 a1 a2 a3 a4 b1 b2 b3 b4) 2) (eI (fV Tryz.f120.ntmps 0 (fun _=>aM [] [] 0)) (iC tb Tryz.f120.results.toList (fun r1=>[⟨.bool,r1⟩]))) (gg [] [0,8]) (fun v2 o h=> ?_) (fun r2 h e σ' hq=> ?_)))))
 ·unfold xE at h
  refine G (aC (aO h (fun hb5 h=> ?_) (fun hb5 h=> ?_)))
  ·refine aB (aA (aC (aF (G ?_))))
   obtain⟨c11,c12,h⟩:=g2 h
   refine GD a0 [(1,1,oc c11),(4,4,oc c12)] (aO h (fun hb6 h=> ?_) (fun hb6 h=> ?_))
   ·refine G (aL ?_)
    obtain rfl:=sI h
    refine aN (aE (bX (aU ?_)))
    exact bW (aD [.bool] (by kernel_rfl))
   refine aB (aK (aA (Ge ?_)))
   exact eB h (gg [] [0,1])
  refine aH (aY ?_)
  obtain rfl:=sI h
  refine eR (bI ?_)
  exact b8 (gg [] [])
 rcases r2 with _ | r1
 ·obtain⟨rfl,hle⟩:=hq
  refine dH ?_ hle
  refine aJ (aA (G (aL ?_)))
  obtain rfl:=sI h
  exact aD [.bool] (by kernel_rfl)
 obtain⟨rfl,hr⟩:=hq
 refine aN (aE ?_)
 obtain rfl:=sI h
 exact hr
def lT(i1 s1 s2 s3 s4:Int):Option Z2 :=
 (if ¬(64:Int)=0 then(if 0≤(IntKind.i64.wrap (Int.tdiv i1 64))∧(IntKind.i64.wrap (Int.tdiv i1 64))<((4:Nat):Int)then(if ¬(64:Int)=0 then(if 0≤(Int.tmod i1 64)then(if 0≤(IntKind.i64.wrap (Int.tdiv i1 64))∧(IntKind.i64.wrap (Int.tdiv i1 64))<((4:Nat):Int)then some ((if(IntKind.i64.wrap (Int.tdiv i1 64)).toNat=0 then(aT .or .u64 (([s1,s2,s3,s4]:List Int).getD ((IntKind.i64.wrap (Int.tdiv i1 64)).toNat) 0) (IntKind.u64.wrap (1*2 ^ (min (Int.tmod i1 64).toNat IntKind.u64.bits))))else s1),(if(IntKind.i64.wrap (Int.tdiv i1 64)).toNat=1 then(aT .or .u64 (([s1,s2,s3,s4]:List Int).getD ((IntKind.i64.wrap (Int.tdiv i1 64)).toNat) 0) (IntKind.u64.wrap (1*2 ^ (min (Int.tmod i1 64).toNat IntKind.u64.bits))))else s2),(if(IntKind.i64.wrap (Int.tdiv i1 64)).toNat=2 then(aT .or .u64 (([s1,s2,s3,s4]:List Int).getD ((IntKind.i64.wrap (Int.tdiv i1 64)).toNat) 0) (IntKind.u64.wrap (1*2 ^ (min (Int.tmod i1 64).toNat IntKind.u64.bits))))else s3),(if(IntKind.i64.wrap (Int.tdiv i1 64)).toNat=3 then(aT .or .u64 (([s1,s2,s3,s4]:List Int).getD ((IntKind.i64.wrap (Int.tdiv i1 64)).toNat) 0) (IntKind.u64.wrap (1*2 ^ (min (Int.tmod i1 64).toNat IntKind.u64.bits))))else s4))else none)else none)else none)else none)else none)
theorem yM{i1:Int}{s1:Int}{s2:Int}{s3:Int}{s4:Int}{res:Int×Int×Int×Int}(h:lT i1 s1 s2 s3 s4=some res):
  Owns Tryz.prog 121 [.adr 0 0 4 0,.i64 i1] [(0,.box [.u64 s1,.u64 s2,.u64 s3,.u64 s4])] (.tup []) [(0,.box [.u64 res.1,.u64 res.2.1,.u64 res.2.2.1,.u64 res.2.2.2])]:=by
 refine Owns.of_body bB Tryz.func121 (by kernel_rfl) rfl (nl rfl) (fun Bw w0=> ?_)
 unfold lT at h
 obtain⟨c16,c17,c18,c19,h⟩:=g4 h
 obtain⟨c20,h⟩:=aS h
 refine qA a0 [(2,2,oc c16),(4,4,oc c17),(7,7,oc c18),(8,8,oc c19),(11,11,oc c20)] ?_
 obtain rfl:=sI h
 exact(aR [] [] [0] [] [(0,.box [.u64 (if(IntKind.i64.wrap (Int.tdiv i1 64)).toNat=0 then(aT .or .u64 (([s1,s2,s3,s4]:List Int).getD ((IntKind.i64.wrap (Int.tdiv i1 64)).toNat) 0) (IntKind.u64.wrap (1*2 ^ (min (Int.tmod i1 64).toNat IntKind.u64.bits))))else s1),.u64 (if(IntKind.i64.wrap (Int.tdiv i1 64)).toNat=1 then(aT .or .u64 (([s1,s2,s3,s4]:List Int).getD ((IntKind.i64.wrap (Int.tdiv i1 64)).toNat) 0) (IntKind.u64.wrap (1*2 ^ (min (Int.tmod i1 64).toNat IntKind.u64.bits))))else s2),.u64 (if(IntKind.i64.wrap (Int.tdiv i1 64)).toNat=2 then(aT .or .u64 (([s1,s2,s3,s4]:List Int).getD ((IntKind.i64.wrap (Int.tdiv i1 64)).toNat) 0) (IntKind.u64.wrap (1*2 ^ (min (Int.tmod i1 64).toNat IntKind.u64.bits))))else s3),.u64 (if(IntKind.i64.wrap (Int.tdiv i1 64)).toNat=3 then(aT .or .u64 (([s1,s2,s3,s4]:List Int).getD ((IntKind.i64.wrap (Int.tdiv i1 64)).toNat) 0) (IntKind.u64.wrap (1*2 ^ (min (Int.tmod i1 64).toNat IntKind.u64.bits))))else s4)])] 1 1 (by kernel_rfl) (by kernel_rfl) (by kernel_rfl)).normal
end
end Go.Proofs.YtbedjpdfkmfplaaGreatDoor.T
