/- Functions of the program as functions on data, and that the program's own come to them. -/
import Derived.Test.YtbedjpdfkmfplaaGreatDoorTvT21b0
import Derived.Test.YtbedjpdfkmfplaaGreatDoorTvT21ba
import Derived.Test.YtbedjpdfkmfplaaGreatDoorTvT21ba1
import Derived.Test.YtbedjpdfkmfplaaGreatDoorTvT21ba3
namespace Go.Proofs.YtbedjpdfkmfplaaGreatDoor.T
open Go Go.Tv Go.Proofs
noncomputable section
set_option maxRecDepth 100000
set_option maxHeartbeats 4000000
def eV(c1 c2 c3 c4 c5:Int)(c6:Option Nat):Option (Bool) :=
 (((if(decide (c1≥(1:Int)))=true then(if(decide (c1≤(1048576:Int)))=true then(if(decide (c2≥(1:Int)))=true then(if(decide (c2≤(64:Int)))=true then(if(c3 == (0:Int))=true then(if(decide (c4≥(0:Int)))=true then(if(decide (c4≤(1048576:Int)))=true then(if(decide (c5≥(0:Int)))=true then some ((decide (c5≤(1048576:Int))))
 else some (false))
 else some (false))
 else some (false))
 else(if(c3 == (1:Int))=true then(if(decide (c4≥(0:Int)))=true then(if(decide (c4≤(1048576:Int)))=true then(if(decide (c5≥(0:Int)))=true then some ((decide (c5≤(1048576:Int))))
 else some (false))
 else some (false))
 else some (false))
 else some (false)))
 else some (false))
 else some (false))
 else some (false))
 else some (false))).bind fun v1=>some v1)
theorem sR{c1:Int}{c2:Int}{c3:Int}{c4:Int}{c5:Int}{c6:Option Nat}{res:Bool}(h:eV c1 c2 c3 c4 c5 c6=some res):
  Pure Tryz.prog 24 [.agg [.i64 c1,.i64 c2,.u8 c3,.i64 c4,.i64 c5,.p false .flt c6]] (aW (bK false [⟨.bool,res⟩])):=by
 refine Pure.of_body aZ Tryz.func24 (by kernel_rfl) rfl (nl rfl) (fun Bw w0=> ?_) rfl
 unfold eV at h
 refine G (aC (bO h (fun v1=>aM [(2,.bo v1)] [] 0) (fun v1 h=> ?_) (fun v1 h=> ?_)))
 ·rcases aS h with⟨hb25,h⟩ | ⟨hb25,h⟩
  ·rcases aS h with⟨hb26,h⟩ | ⟨hb26,h⟩
   ·rcases aS h with⟨hb27,h⟩ | ⟨hb27,h⟩
    ·rcases aS h with⟨hb28,h⟩ | ⟨hb28,h⟩
     ·rcases aS h with⟨hb29,h⟩ | ⟨hb29,h⟩
      ·rcases aS h with⟨hb30,h⟩ | ⟨hb30,h⟩
       ·rcases aS h with⟨hb31,h⟩ | ⟨hb31,h⟩
        ·rcases aS h with⟨hb32,h⟩ | ⟨hb32,h⟩
         ·refine bH ⟨[(3,true),(7,true),(8,true),(12,true),(13,true),(17,true),(18,true),(22,true),(26,true),(27,true),(33,true),(37,true),(38,true),(42,true),(43,true),(47,true)],[]⟩ [(4,6,an hb25),(7,7,oc hb25),(9,11,an hb26),(12,12,oc hb26),(14,16,an hb27),(17,17,oc hb27),(19,22,an hb28),(23,25,oc hb29),(26,26,oc (And.intro hb28 hb29)),(27,27,oc hb28),(34,36,an hb30),(37,37,oc hb30),(39,41,an hb31),(42,42,oc hb31),(44,46,an hb32),(47,47,oc hb32)] ?_
          exact eN h (gg [] [])
         refine bH ⟨[(3,true),(7,true),(8,true),(12,true),(13,true),(17,true),(18,true),(22,true),(26,true),(27,true),(33,true),(37,true),(38,true),(42,true),(43,false),(47,false)],[]⟩ [(4,6,an hb25),(7,7,oc hb25),(9,11,an hb26),(12,12,oc hb26),(14,16,an hb27),(17,17,oc hb27),(19,22,an hb28),(23,25,oc hb29),(26,26,oc (And.intro hb28 hb29)),(27,27,oc hb28),(34,36,an hb30),(37,37,oc hb30),(39,41,an hb31),(42,42,oc hb31),(44,47,oc hb32)] ?_
         exact eN h (gg [] [])
        refine bH ⟨[(3,true),(7,true),(8,true),(12,true),(13,true),(17,true),(18,true),(22,true),(26,true),(27,true),(33,true),(37,true),(38,false),(42,false)],[]⟩ [(4,6,an hb25),(7,7,oc hb25),(9,11,an hb26),(12,12,oc hb26),(14,16,an hb27),(17,17,oc hb27),(19,22,an hb28),(23,25,oc hb29),(26,26,oc (And.intro hb28 hb29)),(27,27,oc hb28),(34,36,an hb30),(37,37,oc hb30),(39,42,oc hb31)] ?_
        exact eN h (gg [] [])
       refine bH ⟨[(3,true),(7,true),(8,true),(12,true),(13,true),(17,true),(18,true),(22,true),(26,true),(27,true),(33,false),(37,false)],[]⟩ [(4,6,an hb25),(7,7,oc hb25),(9,11,an hb26),(12,12,oc hb26),(14,16,an hb27),(17,17,oc hb27),(19,22,an hb28),(23,25,oc hb29),(26,26,oc (And.intro hb28 hb29)),(27,27,oc hb28),(34,37,oc hb30)] ?_
       exact eN h (gg [] [])
      rcases aS h with⟨hb33,h⟩ | ⟨hb33,h⟩
      ·rcases aS h with⟨hb34,h⟩ | ⟨hb34,h⟩
       ·rcases aS h with⟨hb35,h⟩ | ⟨hb35,h⟩
        ·rcases aS h with⟨hb36,h⟩ | ⟨hb36,h⟩
         ·refine bH ⟨[(3,true),(7,true),(8,true),(12,true),(13,true),(17,true),(18,true),(22,false),(26,false),(27,true),(28,true),(32,true),(33,true),(37,true),(38,true),(42,true),(43,true),(47,true)],[]⟩ [(4,6,an hb25),(7,7,oc hb25),(9,11,an hb26),(12,12,oc hb26),(14,16,an hb27),(17,17,oc hb27),(19,22,an hb28),(23,25,an hb29),(26,26,oc (And.intro hb28 hb29)),(27,27,oc hb28),(29,31,an hb33),(32,32,oc hb33),(34,36,an hb34),(37,37,oc hb34),(39,41,an hb35),(42,42,oc hb35),(44,46,an hb36),(47,47,oc hb36)] ?_
          exact eN h (gg [] [])
         refine bH ⟨[(3,true),(7,true),(8,true),(12,true),(13,true),(17,true),(18,true),(22,false),(26,false),(27,true),(28,true),(32,true),(33,true),(37,true),(38,true),(42,true),(43,false),(47,false)],[]⟩ [(4,6,an hb25),(7,7,oc hb25),(9,11,an hb26),(12,12,oc hb26),(14,16,an hb27),(17,17,oc hb27),(19,22,an hb28),(23,25,an hb29),(26,26,oc (And.intro hb28 hb29)),(27,27,oc hb28),(29,31,an hb33),(32,32,oc hb33),(34,36,an hb34),(37,37,oc hb34),(39,41,an hb35),(42,42,oc hb35),(44,47,oc hb36)] ?_
         exact eN h (gg [] [])
        refine bH ⟨[(3,true),(7,true),(8,true),(12,true),(13,true),(17,true),(18,true),(22,false),(26,false),(27,true),(28,true),(32,true),(33,true),(37,true),(38,false),(42,false)],[]⟩ [(4,6,an hb25),(7,7,oc hb25),(9,11,an hb26),(12,12,oc hb26),(14,16,an hb27),(17,17,oc hb27),(19,22,an hb28),(23,25,an hb29),(26,26,oc (And.intro hb28 hb29)),(27,27,oc hb28),(29,31,an hb33),(32,32,oc hb33),(34,36,an hb34),(37,37,oc hb34),(39,42,oc hb35)] ?_
        exact eN h (gg [] [])
       refine bH ⟨[(3,true),(7,true),(8,true),(12,true),(13,true),(17,true),(18,true),(22,false),(26,false),(27,true),(28,true),(32,true),(33,false),(37,false)],[]⟩ [(4,6,an hb25),(7,7,oc hb25),(9,11,an hb26),(12,12,oc hb26),(14,16,an hb27),(17,17,oc hb27),(19,22,an hb28),(23,25,an hb29),(26,26,oc (And.intro hb28 hb29)),(27,27,oc hb28),(29,31,an hb33),(32,32,oc hb33),(34,37,oc hb34)] ?_
       exact eN h (gg [] [])
      refine bH ⟨[(3,true),(7,true),(8,true),(12,true),(13,true),(17,true),(18,true),(22,false),(26,false),(27,true),(28,false),(32,false)],[]⟩ [(4,6,an hb25),(7,7,oc hb25),(9,11,an hb26),(12,12,oc hb26),(14,16,an hb27),(17,17,oc hb27),(19,22,an hb28),(23,25,an hb29),(26,26,oc (And.intro hb28 hb29)),(27,27,oc hb28),(29,32,oc hb33)] ?_
      exact eN h (gg [] [])
     refine bH ⟨[(3,true),(7,true),(8,true),(12,true),(13,true),(17,true),(18,false),(27,false)],[]⟩ [(4,6,an hb25),(7,7,oc hb25),(9,11,an hb26),(12,12,oc hb26),(14,16,an hb27),(17,17,oc hb27),(19,22,oc hb28),(26,27,oc hb28)] ?_
     exact eN h (gg [] [])
    refine bH ⟨[(3,true),(7,true),(8,true),(12,true),(13,false),(17,false)],[]⟩ [(4,6,an hb25),(7,7,oc hb25),(9,11,an hb26),(12,12,oc hb26),(14,17,oc hb27)] ?_
    exact eN h (gg [] [])
   refine bH ⟨[(3,true),(7,true),(8,false),(12,false)],[]⟩ [(4,6,an hb25),(7,7,oc hb25),(9,12,oc hb26)] ?_
   exact eN h (gg [] [])
  refine bH ⟨[(3,false),(7,false)],[]⟩ [(4,7,oc hb25)] ?_
  exact eN h (gg [] [])
 refine aA (aI ?_)
 obtain rfl:=sI h
 exact aD [.bool] (by kernel_rfl)
def jY(at1:Int)(back1:Bool):Option ((Int×Int)×Int) :=
 some (((0:Int),(0:Int)),(1:Int))
theorem n5{at1:Int}{back1:Bool}{res:(Int×Int)×Int}(h:jY at1 back1=some res):
  Pure Tryz.prog 25 [.nilp,.i64 at1,.bo back1] (aW (bK false [⟨Y2,res.1⟩,⟨(.int .i64),res.2⟩])):=by
 refine Pure.of_body aZ Tryz.func25 (by kernel_rfl) rfl (nl rfl) (fun Bw w0=> ?_) rfl
 unfold jY at h
 refine G (aC (GN a0 [(1,1,⟨∃e,Tryz.prog.underlying 49=some (.pointer e),⟨_,rfl⟩⟩)] (kW rfl (G (aI (aE ?_))))))
 obtain rfl:=sI h
 exact aD [Y2,(.int .i64)] (by kernel_rfl)
def jX(s1 s2:Int):Option (Int×Int) :=
 some ((0:Int),(1:Int))
theorem oK{s1:Int}{s2:Int}{res:Int×Int}(h:jX s1 s2=some res):
  Pure Tryz.prog 26 [.nilp,.agg [.i64 s1,.i64 s2]] (aW (bK false [⟨(.int .i64),res.1⟩,⟨(.int .i64),res.2⟩])):=by
 refine Pure.of_body aZ Tryz.func26 (by kernel_rfl) rfl (nl rfl) (fun Bw w0=> ?_) rfl
 unfold jX at h
 refine G (aC (GN a0 [(1,1,⟨∃e,Tryz.prog.underlying 49=some (.pointer e),⟨_,rfl⟩⟩)] (kW rfl (G (aI (aE ?_))))))
 obtain rfl:=sI h
 exact aD [(.int .i64),(.int .i64)] (by kernel_rfl)
def gX(e1 e2:Int)(e3:List Int):Option (Int) :=
 some (1:Int)
theorem bD(β2:Bool){e1:Int}{e2:Int}{e3:List Int}{res:Int}(h:gX e1 e2 e3=some res):
  Pure Tryz.prog 14 [.nilp,.agg [.i64 e1,.i64 e2,.p β2 (.slice (.int .u8)) e3]] (aW (bK false [⟨(.int .i64),res⟩])):=by
 refine Pure.of_body aZ Tryz.func14 (by kernel_rfl) rfl (nl rfl) (fun Bw w0=> ?_) rfl
 unfold gX at h
 refine G (aC (GN a0 [(1,1,⟨∃e,Tryz.prog.underlying 49=some (.pointer e),⟨_,rfl⟩⟩)] (kW rfl (G (aI (aE ?_))))))
 obtain rfl:=sI h
 exact aD [(.int .i64)] (by kernel_rfl)
def jN(c1 c2 c3 c4 c5:Int)(c6:Option Nat):Option (Int) :=
 some (1:Int)
theorem bU{c1:Int}{c2:Int}{c3:Int}{c4:Int}{c5:Int}{c6:Option Nat}{res:Int}(h:jN c1 c2 c3 c4 c5 c6=some res):
  Pure Tryz.prog 20 [.nilp,.agg [.i64 c1,.i64 c2,.u8 c3,.i64 c4,.i64 c5,.p false .flt c6]] (aW (bK false [⟨(.int .i64),res⟩])):=by
 refine Pure.of_body aZ Tryz.func20 (by kernel_rfl) rfl (nl rfl) (fun Bw w0=> ?_) rfl
 unfold jN at h
 refine G (aC (GN a0 [(1,1,⟨∃e,Tryz.prog.underlying 49=some (.pointer e),⟨_,rfl⟩⟩)] (kW rfl (G (aI (aE ?_))))))
 obtain rfl:=sI h
 exact aD [(.int .i64)] (by kernel_rfl)
def gV  : Option (List Int) :=
 some ([]:List Int)
theorem bW{res:List Int}(h:gV=some res):
  Owns Tryz.prog 15 [.nilp] [] (.p false (.slice (.int .u8)) res) []:=by
 refine Owns.of_body aZ Tryz.func15 (by kernel_rfl) rfl (nl rfl) (fun Bw w0=> ?_)
 unfold gV at h
 refine G (aC (GN a0 [(1,1,⟨∃e,Tryz.prog.underlying 49=some (.pointer e),⟨_,rfl⟩⟩)] (kW rfl (G (aI (aE ?_))))))
 obtain rfl:=sI h
 exact aQ [some (.slice (.int .u8))] [] [] [(2,.nils)] [] 0 0 (by kernel_rfl) (by kernel_rfl) (by kernel_rfl)
def fG  : Option ((List Z2)×Bool) :=
 some (([]:List Z2),false)
theorem cN{res:(List Z2)×Bool}(h:fG=some res):
  Owns Tryz.prog 17 [.nilp] [] (.agg [.p false (.slice cZ) res.1,.bo res.2]) []:=by
 refine Owns.of_body aZ Tryz.func17 (by kernel_rfl) rfl (nl rfl) (fun Bw w0=> ?_)
 unfold fG at h
 refine G (aC (GN a0 [(1,1,⟨∃e,Tryz.prog.underlying 49=some (.pointer e),⟨_,rfl⟩⟩)] (kW rfl (G (aI (aE ?_))))))
 obtain rfl:=sI h
 exact aQ [some Y31] [] [0] [(2,.adr 0 0 2 0)] [(0,.box [.nils,.bo false])] 1 0 (by kernel_rfl) (by kernel_rfl) (by kernel_rfl)
def eE(d1 d2 d3 d4 d5:Int)(d6:Option Nat)(i1:List Int)(x1 x2 x3:Int)(x4:List Int):Option (Bool) :=
 ((eW).bind fun r2 =>
 (if(!r2)=true then some false
 else(((if(decide ((i1.length:Int) > (100:Int)))=true then some (true)
 else some ((decide ((x4.length:Int) > (5000:Int)))))).bind fun v1=>(if v1=true then some true
 else((fR).bind fun r6 =>
 ((nM r6.1 r6.2.1 r6.2.2.1 r6.2.2.2.1 r6.2.2.2.2.1 r6.2.2.2.2.2.1 r6.2.2.2.2.2.2.1 r6.2.2.2.2.2.2.2.1 r6.2.2.2.2.2.2.2.2).bind fun(r7,r8) =>
 (if(r8.1 != (0:Int))=true then some false
 else((uP i1).bind fun r10 =>
 (if ¬(5000:Int)=0 then(if 0≤(IntKind.i64.wrap (Int.tmod x1 (5000:Int)))∧(r10.length+(IntKind.i64.wrap (Int.tmod x1 (5000:Int))).toNat)*1≤140737488355328∧r10.length+(IntKind.i64.wrap (Int.tmod x1 (5000:Int))).toNat≤9223372036854775807 then((eV d1 d2 d3 d4 d5 d6).bind fun r12 =>
 (((if(!r12)=true then some ((40:Int))
 else(if(decide (((r10++(List.replicate (IntKind.i64.wrap (Int.tmod x1 (5000:Int))).toNat (0:Int))).length:Int) > (4096:Int)))=true then some ((3:Int))
 else some ((0:Int))))).bind fun v2=>((eO r7 d1 d2 d3 d4 d5 d6 (r10++(List.replicate (IntKind.i64.wrap (Int.tmod x1 (5000:Int))).toNat (0:Int)))).bind fun(z2:((Int)⊕Z13))=>match z2 with
 | .inl r22=>((eO (none:Option Z1) d1 d2 d3 d4 d5 d6 (r10++(List.replicate (IntKind.i64.wrap (Int.tmod x1 (5000:Int))).toNat (0:Int)))).bind fun(z4:((Int)⊕Z13))=>match z4 with
 | .inl r32=>(((if(r22 != v2)=true then some (true)
 else(if(!(true == (v2 != (0:Int))))=true then some (true)
 else(if(r32 != (1:Int))=true then(if(v2 != (40:Int))=true then some (true)
 else some ((r32 != v2)))
 else some (false))))).bind fun v3=>(if v3=true then some false
 else((jY x2 true).bind fun(r35,r36) =>
 ((jX x2 (0:Int)).bind fun(r39,r40) =>
 ((((gX x2 x3 x4).bind fun r49 =>
 (if(r49 == (1:Int))=true then((jN d1 d2 d3 d4 d5 d6).bind fun r50 =>
 (if(r50 == (1:Int))=true then((gV).bind fun r51 =>
 (if((r51.length:Int) == (0:Int))=true then((fG).bind fun r52 =>
 (if((r52.1.length:Int) == (0:Int))=true then(if(r36 == (1:Int))=true then some ((r40 == (1:Int)))
 else some (false))
 else some (false)))
 else some (false)))
 else some (false)))
 else some (false)))).bind fun v4=>some v4)))))
 | .inr (r53,r54,r55,r56,r57,r58,r59,r60)=>(((if(r22 != v2)=true then some (())
 else(if(!(true == (v2 != (0:Int))))=true then some (())
 else some (())))).bind fun _=>some false))
 | .inr (r62,r63,r64,r65,r66,r67,r68,r69)=>((eO (none:Option Z1) d1 d2 d3 d4 d5 d6 (r10++(List.replicate (IntKind.i64.wrap (Int.tmod x1 (5000:Int))).toNat (0:Int)))).bind fun(z6:((Int)⊕Z13))=>match z6 with
 | .inl r79=>(((if(r62 != v2)=true then some (true)
 else(if(!(false == (v2 != (0:Int))))=true then some (true)
 else(if(r79 != (1:Int))=true then(if(v2 != (40:Int))=true then some (true)
 else some ((r79 != v2)))
 else some (false))))).bind fun v5=>(if v5=true then some false
 else((jY x2 true).bind fun(r82,r83) =>
 ((jX x2 (0:Int)).bind fun(r86,r87) =>
 ((((gX x2 x3 x4).bind fun r96 =>
 (if(r96 == (1:Int))=true then((jN d1 d2 d3 d4 d5 d6).bind fun r97 =>
 (if(r97 == (1:Int))=true then((gV).bind fun r98 =>
 (if((r98.length:Int) == (0:Int))=true then((fG).bind fun r99 =>
 (if((r99.1.length:Int) == (0:Int))=true then(if(r83 == (1:Int))=true then some ((r87 == (1:Int)))
 else some (false))
 else some (false)))
 else some (false)))
 else some (false)))
 else some (false)))).bind fun v6=>some v6)))))
 | .inr (r100,r101,r102,r103,r104,r105,r106,r107)=>(((if(r62 != v2)=true then some (())
 else(if(!(false == (v2 != (0:Int))))=true then some (())
 else some (())))).bind fun _=>some false)))))else none)else none)))))))))
theorem stanzalaw21_FlowNew_ok(β6 β10:Bool){d1:Int}{d2:Int}{d3:Int}{d4:Int}{d5:Int}{d6:Option Nat}{i1:List Int}{x1:Int}{x2:Int}{x3:Int}{x4:List Int}{res:Bool}(h:eE d1 d2 d3 d4 d5 d6 i1 x1 x2 x3 x4=some res):
  Pure Tryz.prog 6 [.agg [.i64 d1,.i64 d2,.u8 d3,.i64 d4,.i64 d5,.p false .flt d6],.p β6 (.slice (.int .u8)) i1,.p false (.int .u16) x1,.agg [.i64 x2,.i64 x3,.p β10 (.slice (.int .u8)) x4]] (aW (bK false [⟨.bool,res⟩])):=by
 refine Pure.of_body aZ Tryz.func6 (by kernel_rfl) rfl (nl rfl) (fun Bw w0=> ?_) rfl
 unfold eE at h
 refine G (aC ?_)
 obtain⟨r2,q2,h⟩:=aF h
 refine GP 0 (sN q2) (aO h (fun hb1 h=> ?_) (fun hb1 h=> ?_))
 ·refine G (aI (aE ?_))
  obtain rfl:=sI h
  exact aD [.bool] (by kernel_rfl)
 refine aB (aA (aC (aC (bO h (fun v1=>aM [(1,.p β6 (.slice (.int .u8)) i1),(2,.p false (.int .u16) x1),(4,.adr 0 0 6 0),(7,.adr 1 0 3 0),(31,.bo v1)] (aHL d1 d2 d3 d4 d5 d6 x2 x3 β10 x4) 2) (fun v1 h=> ?_) (fun v1 h=> ?_)))))
 ·rcases aS h with⟨hb4,h⟩ | ⟨hb4,h⟩
  ·refine bH ⟨[(3,true),(8,true)],[]⟩ [(4,8,oc hb4)] ?_
   exact eN h (gg [] [0,8])
  refine bH ⟨[(3,false),(8,false)],[]⟩ [(4,7,an hb4),(8,8,oc hb4)] ?_
  exact eN h (gg [] [0,8])
 refine aA (aO h (fun hb5 h=> ?_) (fun hb5 h=> ?_))
 ·refine G (aI (aE ?_))
  obtain rfl:=sI h
  exact aD [.bool] (by kernel_rfl)
 refine aB (aA ?_)
 obtain⟨r6,q5,h⟩:=aF h
 obtain⟨⟨r7,r8⟩,q6,h⟩:=aF h
 have u_1:=(lV q5)
 have u_2:=(H1 false false false false q6)
 refine GN ⟨[],[(0,(oP u_1)),(1,(oP u_2))]⟩ [(0,0,oc u_1),(1,1,oc u_2)] (aC (G (aO h (fun hb6 h=> ?_) (fun hb6 h=> ?_))))
 ·refine G (aI (aE ?_))
  obtain rfl:=sI h
  exact aD [.bool] (by kernel_rfl)
 refine aB (aA ?_)
 obtain⟨r10,q8,h⟩:=aF h
 obtain⟨c3,c4,h⟩:=g2 h
 have u_1:=(aCC β6 q8)
 refine GN ⟨[],[(1,(oO u_1 []))]⟩ [(1,1,oc u_1),(3,3,oc c3),(5,5,oc c4)] (G (aC ?_))
 obtain⟨r12,q10,h⟩:=aF h
 refine GP 1 (sR q10) (bO h (fun v2=>aM [(4,.adr 0 0 6 0),(7,.adr 1 0 3 0),(9,.p false (.ptr A8) r7),(11,.sl 2),(12,.i64 v2)] (aKL d1 d2 d3 d4 d5 d6 x2 x3 β10 x4 (r10++(List.replicate (IntKind.i64.wrap (Int.tmod x1 (5000:Int))).toNat (0:Int)))) 3) (fun v2 h=> ?_) (fun v2 h=> ?_))
 ·refine aO h (fun hb9 h=> ?_) (fun hb9 h=> ?_)
  ·refine Ge ?_
   exact eN h (gg [] [0,1,130])
  refine G (aO h (fun hb10 h=> ?_) (fun hb10 h=> ?_))
  ·refine Ge ?_
   exact eN h (gg [] [0,1,130])
  refine aB ?_
  exact eN h (gg [] [0,1,130])
 refine aA (aC ?_)
 obtain⟨z2,q12,h⟩:=aF h
 rcases z2 with r22 | ⟨r62,r63,r64,r65,r66,r67,r68,r69⟩
 ·refine mN 3 [] (fW true q12) (aA (aC ?_))
  obtain⟨z4,q14,h⟩:=aF h
  rcases z4 with r32 | ⟨r53,r54,r55,r56,r57,r58,r59,r60⟩
  ·refine mN 2 [] (fW true q14) (aA (aC (aC (bO h (fun v3=>aM [(4,.adr 0 0 6 0),(7,.adr 1 0 3 0),(15,.nilp),(91,.bo v3)] (aHL d1 d2 d3 d4 d5 d6 x2 x3 β10 x4) 2) (fun v3 h=> ?_) (fun v3 h=> ?_)))))
   ·rcases aS h with⟨hb19,h⟩ | ⟨hb19,h⟩
    ·refine bH ⟨[(3,true),(9,true)],[]⟩ [(4,9,oc hb19)] ?_
     exact eN h (gg [] [0,1])
    rcases aS h with⟨hb20,h⟩ | ⟨hb20,h⟩
    ·refine bH ⟨[(3,false),(9,false),(10,true),(13,true)],[]⟩ [(4,4,an hb19),(5,5,⟨(r22 != v2)=false∧∃e,Tryz.prog.underlying 49=some (.pointer e),⟨hb19,⟨_,rfl⟩⟩⟩),(6,8,an hb19),(9,9,oc hb19),(11,13,oc hb20)] ?_
     exact eN h (gg [] [0,1])
    rcases aS h with⟨hb21,h⟩ | ⟨hb21,h⟩
    ·rcases aS h with⟨hb22,h⟩ | ⟨hb22,h⟩
     ·refine bH ⟨[(3,false),(9,false),(10,false),(13,false),(17,true),(20,true),(24,true),(25,true)],[]⟩ [(4,4,an hb19),(5,5,⟨(r22 != v2)=false∧∃e,Tryz.prog.underlying 49=some (.pointer e),⟨hb19,⟨_,rfl⟩⟩⟩),(6,8,an hb19),(9,9,oc hb19),(11,11,an hb20),(12,12,⟨(!(true == (v2 != (0:Int))))=false∧∃e,Tryz.prog.underlying 49=some (.pointer e),⟨hb20,⟨_,rfl⟩⟩⟩),(13,13,oc hb20),(18,20,an hb21),(21,23,oc hb22),(24,24,oc (And.intro hb21 hb22)),(25,25,oc hb21)] ?_
      exact eN h (gg [] [0,1])
     refine bH ⟨[(3,false),(9,false),(10,false),(13,false),(17,true),(20,false),(24,false),(25,true)],[]⟩ [(4,4,an hb19),(5,5,⟨(r22 != v2)=false∧∃e,Tryz.prog.underlying 49=some (.pointer e),⟨hb19,⟨_,rfl⟩⟩⟩),(6,8,an hb19),(9,9,oc hb19),(11,11,an hb20),(12,12,⟨(!(true == (v2 != (0:Int))))=false∧∃e,Tryz.prog.underlying 49=some (.pointer e),⟨hb20,⟨_,rfl⟩⟩⟩),(13,13,oc hb20),(18,20,an hb21),(21,23,an hb22),(24,24,oc (And.intro hb21 hb22)),(25,25,oc hb21)] ?_
     exact eN h (gg [] [0,1])
    refine bH ⟨[(3,false),(9,false),(10,false),(13,false),(17,false),(25,false)],[]⟩ [(4,4,an hb19),(5,5,⟨(r22 != v2)=false∧∃e,Tryz.prog.underlying 49=some (.pointer e),⟨hb19,⟨_,rfl⟩⟩⟩),(6,8,an hb19),(9,9,oc hb19),(11,11,an hb20),(12,12,⟨(!(true == (v2 != (0:Int))))=false∧∃e,Tryz.prog.underlying 49=some (.pointer e),⟨hb20,⟨_,rfl⟩⟩⟩),(13,13,oc hb20),(18,20,oc hb21),(24,25,oc hb21)] ?_
    exact eN h (gg [] [0,1])
   refine aA (aO h (fun hb23 h=> ?_) (fun hb23 h=> ?_))
   ·refine G (aI (aE ?_))
    obtain rfl:=sI h
    exact aD [.bool] (by kernel_rfl)
   refine aB (aA ?_)
   obtain⟨⟨r35,r36⟩,q16,h⟩:=aF h
   refine GP 3 (n5 q16) ?_
   obtain⟨⟨r39,r40⟩,q18,h⟩:=aF h
   refine GP 4 (oK q18) (aC (bO h (fun v4=>aM [(8,.bo v4)] [] 0) (fun v4 h=> ?_) (fun v4 h=> ?_)))
   ·obtain⟨r49,q27,h⟩:=aF h
    rcases aS h with⟨hb34,h⟩ | ⟨hb34,h⟩
    ·obtain⟨r50,q28,h⟩:=aF h
     rcases aS h with⟨hb35,h⟩ | ⟨hb35,h⟩
     ·obtain⟨r51,q29,h⟩:=aF h
      rcases aS h with⟨hb36,h⟩ | ⟨hb36,h⟩
      ·obtain⟨r52,q30,h⟩:=aF h
       rcases aS h with⟨hb37,h⟩ | ⟨hb37,h⟩
       ·rcases aS h with⟨hb38,h⟩ | ⟨hb38,h⟩
        ·have u_1:=(bD β10 q27)
         have u_2:=(bU q28)
         have u_3:=(bW q29)
         have u_4:=(cN q30)
         refine bH ⟨[(4,true),(9,true),(10,true),(15,true),(16,true),(22,true),(23,true),(26,true),(27,true),(30,true)],[(2,(oP u_1)),(7,(oP u_2)),(12,(oO u_3 [])),(18,(oO u_4 []))]⟩ [(2,2,oc u_1),(5,6,an hb34),(7,7,oc (And.intro hb34 u_2)),(8,8,an hb34),(9,9,oc hb34),(11,11,an hb35),(12,12,oc (And.intro hb35 u_3)),(13,14,an hb35),(15,15,oc hb35),(17,17,an hb36),(18,18,oc (And.intro hb36 u_4)),(19,21,an hb36),(22,22,oc hb36),(24,25,an hb37),(26,26,oc hb37),(28,29,an hb38),(30,30,oc hb38)] ?_
         exact eN h (gg [] [])
        have u_1:=(bD β10 q27)
        have u_2:=(bU q28)
        have u_3:=(bW q29)
        have u_4:=(cN q30)
        refine bH ⟨[(4,true),(9,true),(10,true),(15,true),(16,true),(22,true),(23,true),(26,true),(27,false),(30,false)],[(2,(oP u_1)),(7,(oP u_2)),(12,(oO u_3 [])),(18,(oO u_4 []))]⟩ [(2,2,oc u_1),(5,6,an hb34),(7,7,oc (And.intro hb34 u_2)),(8,8,an hb34),(9,9,oc hb34),(11,11,an hb35),(12,12,oc (And.intro hb35 u_3)),(13,14,an hb35),(15,15,oc hb35),(17,17,an hb36),(18,18,oc (And.intro hb36 u_4)),(19,21,an hb36),(22,22,oc hb36),(24,25,an hb37),(26,26,oc hb37),(28,30,oc hb38)] ?_
        exact eN h (gg [] [])
       have u_1:=(bD β10 q27)
       have u_2:=(bU q28)
       have u_3:=(bW q29)
       have u_4:=(cN q30)
       refine bH ⟨[(4,true),(9,true),(10,true),(15,true),(16,true),(22,true),(23,false),(26,false)],[(2,(oP u_1)),(7,(oP u_2)),(12,(oO u_3 [])),(18,(oO u_4 []))]⟩ [(2,2,oc u_1),(5,6,an hb34),(7,7,oc (And.intro hb34 u_2)),(8,8,an hb34),(9,9,oc hb34),(11,11,an hb35),(12,12,oc (And.intro hb35 u_3)),(13,14,an hb35),(15,15,oc hb35),(17,17,an hb36),(18,18,oc (And.intro hb36 u_4)),(19,21,an hb36),(22,22,oc hb36),(24,26,oc hb37)] ?_
       exact eN h (gg [] [])
      have u_1:=(bD β10 q27)
      have u_2:=(bU q28)
      have u_3:=(bW q29)
      refine bH ⟨[(4,true),(9,true),(10,true),(15,true),(16,false),(22,false)],[(2,(oP u_1)),(7,(oP u_2)),(12,(oO u_3 []))]⟩ [(2,2,oc u_1),(5,6,an hb34),(7,7,oc (And.intro hb34 u_2)),(8,8,an hb34),(9,9,oc hb34),(11,11,an hb35),(12,12,oc (And.intro hb35 u_3)),(13,14,an hb35),(15,15,oc hb35),(17,22,oc hb36)] ?_
      exact eN h (gg [] [])
     have u_1:=(bD β10 q27)
     have u_2:=(bU q28)
     refine bH ⟨[(4,true),(9,true),(10,false),(15,false)],[(2,(oP u_1)),(7,(oP u_2))]⟩ [(2,2,oc u_1),(5,6,an hb34),(7,7,oc (And.intro hb34 u_2)),(8,8,an hb34),(9,9,oc hb34),(11,15,oc hb35)] ?_
     exact eN h (gg [] [])
    have u_1:=(bD β10 q27)
    refine bH ⟨[(4,false),(9,false)],[(2,(oP u_1))]⟩ [(2,2,oc u_1),(5,9,oc hb34)] ?_
    exact eN h (gg [] [])
   refine aA (aI ?_)
   obtain rfl:=sI h
   exact aD [.bool] (by kernel_rfl)
  refine mN 2 [] (fW true q14) (aA (aC (aC (bO h (fun _=>aM [(4,.adr 0 0 6 0),(7,.adr 1 0 3 0),(15,.adr 2 0 14 0),(91,.bo true)] (aIN d1 d2 d3 d4 d5 d6 x2 x3 β10 x4 r54 r55 (none:Option Z1) d1 d2 d3 d4 d5 d6 r56 r57 r58 r59 r60) 4) (fun r61 h=> ?_) (fun r61 h=> ?_)))))
  ·rcases aS h with⟨hb43,h⟩ | ⟨hb43,h⟩
   ·refine bH ⟨[(3,true),(9,true)],[]⟩ [(4,9,oc hb43)] ?_
    exact eN h (gg [] [0,1,91,92])
   rcases aS h with⟨hb44,h⟩ | ⟨hb44,h⟩
   ·refine bH ⟨[(3,false),(9,false),(10,true),(13,true)],[]⟩ [(4,4,an hb43),(5,5,⟨(r22 != v2)=false∧∃e,Tryz.prog.underlying 49=some (.pointer e),⟨hb43,⟨_,rfl⟩⟩⟩),(6,8,an hb43),(9,9,oc hb43),(11,13,oc hb44)] ?_
    exact eN h (gg [] [0,1,91,92])
   refine bH ⟨[(3,false),(9,false),(10,false),(13,false)],[]⟩ [(4,4,an hb43),(5,5,⟨(r22 != v2)=false∧∃e,Tryz.prog.underlying 49=some (.pointer e),⟨hb43,⟨_,rfl⟩⟩⟩),(6,8,an hb43),(9,9,oc hb43),(11,11,an hb44),(12,12,⟨(!(true == (v2 != (0:Int))))=false∧∃e,Tryz.prog.underlying 49=some (.pointer e),⟨hb44,⟨_,rfl⟩⟩⟩),(13,13,oc hb44)] ?_
   exact eN h (gg [] [0,1,91,92])
  refine aA (kW rfl (G (aI (aE ?_))))
  obtain rfl:=sI h
  exact aD [.bool] (by kernel_rfl)
 refine mN 3 [] (fW true q12) (aA (aC ?_))
 obtain⟨z6,q32,h⟩:=aF h
 rcases z6 with r79 | ⟨r100,r101,r102,r103,r104,r105,r106,r107⟩
 ·refine mN 2 [] (fW true q32) (aA (aC (aC (bO h (fun v5=>aM [(4,.adr 0 0 6 0),(7,.adr 1 0 3 0),(15,.nilp),(91,.bo v5)] (aHL d1 d2 d3 d4 d5 d6 x2 x3 β10 x4) 2) (fun v5 h=> ?_) (fun v5 h=> ?_)))))
  ·rcases aS h with⟨hb54,h⟩ | ⟨hb54,h⟩
   ·refine bH ⟨[(3,true),(9,true)],[]⟩ [(4,9,oc hb54)] ?_
    exact eN h (gg [] [0,1])
   rcases aS h with⟨hb55,h⟩ | ⟨hb55,h⟩
   ·refine bH ⟨[(3,false),(9,false),(10,true),(13,true)],[]⟩ [(4,4,an hb54),(5,5,⟨(r62 != v2)=false∧∃e,Tryz.prog.underlying 49=some (.pointer e),⟨hb54,⟨_,rfl⟩⟩⟩),(6,8,an hb54),(9,9,oc hb54),(11,13,oc hb55)] ?_
    exact eN h (gg [] [0,1])
   rcases aS h with⟨hb56,h⟩ | ⟨hb56,h⟩
   ·rcases aS h with⟨hb57,h⟩ | ⟨hb57,h⟩
    ·refine bH ⟨[(3,false),(9,false),(10,false),(13,false),(17,true),(20,true),(24,true),(25,true)],[]⟩ [(4,4,an hb54),(5,5,⟨(r62 != v2)=false∧∃e,Tryz.prog.underlying 49=some (.pointer e),⟨hb54,⟨_,rfl⟩⟩⟩),(6,8,an hb54),(9,9,oc hb54),(11,11,an hb55),(12,12,⟨(!(false == (v2 != (0:Int))))=false∧∃e,Tryz.prog.underlying 49=some (.pointer e),⟨hb55,⟨_,rfl⟩⟩⟩),(13,13,oc hb55),(18,20,an hb56),(21,23,oc hb57),(24,24,oc (And.intro hb56 hb57)),(25,25,oc hb56)] ?_
     exact eN h (gg [] [0,1])
    refine bH ⟨[(3,false),(9,false),(10,false),(13,false),(17,true),(20,false),(24,false),(25,true)],[]⟩ [(4,4,an hb54),(5,5,⟨(r62 != v2)=false∧∃e,Tryz.prog.underlying 49=some (.pointer e),⟨hb54,⟨_,rfl⟩⟩⟩),(6,8,an hb54),(9,9,oc hb54),(11,11,an hb55),(12,12,⟨(!(false == (v2 != (0:Int))))=false∧∃e,Tryz.prog.underlying 49=some (.pointer e),⟨hb55,⟨_,rfl⟩⟩⟩),(13,13,oc hb55),(18,20,an hb56),(21,23,an hb57),(24,24,oc (And.intro hb56 hb57)),(25,25,oc hb56)] ?_
    exact eN h (gg [] [0,1])
   refine bH ⟨[(3,false),(9,false),(10,false),(13,false),(17,false),(25,false)],[]⟩ [(4,4,an hb54),(5,5,⟨(r62 != v2)=false∧∃e,Tryz.prog.underlying 49=some (.pointer e),⟨hb54,⟨_,rfl⟩⟩⟩),(6,8,an hb54),(9,9,oc hb54),(11,11,an hb55),(12,12,⟨(!(false == (v2 != (0:Int))))=false∧∃e,Tryz.prog.underlying 49=some (.pointer e),⟨hb55,⟨_,rfl⟩⟩⟩),(13,13,oc hb55),(18,20,oc hb56),(24,25,oc hb56)] ?_
   exact eN h (gg [] [0,1])
  refine aA (aO h (fun hb58 h=> ?_) (fun hb58 h=> ?_))
  ·refine G (aI (aE ?_))
   obtain rfl:=sI h
   exact aD [.bool] (by kernel_rfl)
  refine aB (aA ?_)
  obtain⟨⟨r82,r83⟩,q34,h⟩:=aF h
  refine GP 3 (n5 q34) ?_
  obtain⟨⟨r86,r87⟩,q36,h⟩:=aF h
  refine GP 4 (oK q36) (aC (bO h (fun v6=>aM [(8,.bo v6)] [] 0) (fun v6 h=> ?_) (fun v6 h=> ?_)))
  ·obtain⟨r96,q45,h⟩:=aF h
   rcases aS h with⟨hb69,h⟩ | ⟨hb69,h⟩
   ·obtain⟨r97,q46,h⟩:=aF h
    rcases aS h with⟨hb70,h⟩ | ⟨hb70,h⟩
    ·obtain⟨r98,q47,h⟩:=aF h
     rcases aS h with⟨hb71,h⟩ | ⟨hb71,h⟩
     ·obtain⟨r99,q48,h⟩:=aF h
      rcases aS h with⟨hb72,h⟩ | ⟨hb72,h⟩
      ·rcases aS h with⟨hb73,h⟩ | ⟨hb73,h⟩
       ·have u_1:=(bD β10 q45)
        have u_2:=(bU q46)
        have u_3:=(bW q47)
        have u_4:=(cN q48)
        refine bH ⟨[(4,true),(9,true),(10,true),(15,true),(16,true),(22,true),(23,true),(26,true),(27,true),(30,true)],[(2,(oP u_1)),(7,(oP u_2)),(12,(oO u_3 [])),(18,(oO u_4 []))]⟩ [(2,2,oc u_1),(5,6,an hb69),(7,7,oc (And.intro hb69 u_2)),(8,8,an hb69),(9,9,oc hb69),(11,11,an hb70),(12,12,oc (And.intro hb70 u_3)),(13,14,an hb70),(15,15,oc hb70),(17,17,an hb71),(18,18,oc (And.intro hb71 u_4)),(19,21,an hb71),(22,22,oc hb71),(24,25,an hb72),(26,26,oc hb72),(28,29,an hb73),(30,30,oc hb73)] ?_
        exact eN h (gg [] [])
       have u_1:=(bD β10 q45)
       have u_2:=(bU q46)
       have u_3:=(bW q47)
       have u_4:=(cN q48)
       refine bH ⟨[(4,true),(9,true),(10,true),(15,true),(16,true),(22,true),(23,true),(26,true),(27,false),(30,false)],[(2,(oP u_1)),(7,(oP u_2)),(12,(oO u_3 [])),(18,(oO u_4 []))]⟩ [(2,2,oc u_1),(5,6,an hb69),(7,7,oc (And.intro hb69 u_2)),(8,8,an hb69),(9,9,oc hb69),(11,11,an hb70),(12,12,oc (And.intro hb70 u_3)),(13,14,an hb70),(15,15,oc hb70),(17,17,an hb71),(18,18,oc (And.intro hb71 u_4)),(19,21,an hb71),(22,22,oc hb71),(24,25,an hb72),(26,26,oc hb72),(28,30,oc hb73)] ?_
       exact eN h (gg [] [])
      have u_1:=(bD β10 q45)
      have u_2:=(bU q46)
      have u_3:=(bW q47)
      have u_4:=(cN q48)
      refine bH ⟨[(4,true),(9,true),(10,true),(15,true),(16,true),(22,true),(23,false),(26,false)],[(2,(oP u_1)),(7,(oP u_2)),(12,(oO u_3 [])),(18,(oO u_4 []))]⟩ [(2,2,oc u_1),(5,6,an hb69),(7,7,oc (And.intro hb69 u_2)),(8,8,an hb69),(9,9,oc hb69),(11,11,an hb70),(12,12,oc (And.intro hb70 u_3)),(13,14,an hb70),(15,15,oc hb70),(17,17,an hb71),(18,18,oc (And.intro hb71 u_4)),(19,21,an hb71),(22,22,oc hb71),(24,26,oc hb72)] ?_
      exact eN h (gg [] [])
     have u_1:=(bD β10 q45)
     have u_2:=(bU q46)
     have u_3:=(bW q47)
     refine bH ⟨[(4,true),(9,true),(10,true),(15,true),(16,false),(22,false)],[(2,(oP u_1)),(7,(oP u_2)),(12,(oO u_3 []))]⟩ [(2,2,oc u_1),(5,6,an hb69),(7,7,oc (And.intro hb69 u_2)),(8,8,an hb69),(9,9,oc hb69),(11,11,an hb70),(12,12,oc (And.intro hb70 u_3)),(13,14,an hb70),(15,15,oc hb70),(17,22,oc hb71)] ?_
     exact eN h (gg [] [])
    have u_1:=(bD β10 q45)
    have u_2:=(bU q46)
    refine bH ⟨[(4,true),(9,true),(10,false),(15,false)],[(2,(oP u_1)),(7,(oP u_2))]⟩ [(2,2,oc u_1),(5,6,an hb69),(7,7,oc (And.intro hb69 u_2)),(8,8,an hb69),(9,9,oc hb69),(11,15,oc hb70)] ?_
    exact eN h (gg [] [])
   have u_1:=(bD β10 q45)
   refine bH ⟨[(4,false),(9,false)],[(2,(oP u_1))]⟩ [(2,2,oc u_1),(5,9,oc hb69)] ?_
   exact eN h (gg [] [])
  refine aA (aI ?_)
  obtain rfl:=sI h
  exact aD [.bool] (by kernel_rfl)
 refine mN 2 [] (fW true q32) (aA (aC (aC (bO h (fun _=>aM [(4,.adr 0 0 6 0),(7,.adr 1 0 3 0),(15,.adr 2 0 14 0),(91,.bo true)] (aIN d1 d2 d3 d4 d5 d6 x2 x3 β10 x4 r101 r102 (none:Option Z1) d1 d2 d3 d4 d5 d6 r103 r104 r105 r106 r107) 4) (fun r108 h=> ?_) (fun r108 h=> ?_)))))
 ·rcases aS h with⟨hb78,h⟩ | ⟨hb78,h⟩
  ·refine bH ⟨[(3,true),(9,true)],[]⟩ [(4,9,oc hb78)] ?_
   exact eN h (gg [] [0,1,91,92])
  rcases aS h with⟨hb79,h⟩ | ⟨hb79,h⟩
  ·refine bH ⟨[(3,false),(9,false),(10,true),(13,true)],[]⟩ [(4,4,an hb78),(5,5,⟨(r62 != v2)=false∧∃e,Tryz.prog.underlying 49=some (.pointer e),⟨hb78,⟨_,rfl⟩⟩⟩),(6,8,an hb78),(9,9,oc hb78),(11,13,oc hb79)] ?_
   exact eN h (gg [] [0,1,91,92])
  refine bH ⟨[(3,false),(9,false),(10,false),(13,false)],[]⟩ [(4,4,an hb78),(5,5,⟨(r62 != v2)=false∧∃e,Tryz.prog.underlying 49=some (.pointer e),⟨hb78,⟨_,rfl⟩⟩⟩),(6,8,an hb78),(9,9,oc hb78),(11,11,an hb79),(12,12,⟨(!(false == (v2 != (0:Int))))=false∧∃e,Tryz.prog.underlying 49=some (.pointer e),⟨hb79,⟨_,rfl⟩⟩⟩),(13,13,oc hb79)] ?_
  exact eN h (gg [] [0,1,91,92])
 refine aA (kW rfl (G (aI (aE ?_))))
 obtain rfl:=sI h
 exact aD [.bool] (by kernel_rfl)
end
end Go.Proofs.YtbedjpdfkmfplaaGreatDoor.T
