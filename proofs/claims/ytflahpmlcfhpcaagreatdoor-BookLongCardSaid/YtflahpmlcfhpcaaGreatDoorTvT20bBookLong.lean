/- Functions of the program as functions on data, and that the program's own come to them. -/
import Derived.Test.YtflahpmlcfhpcaaGreatDoorTvT20b0
import Derived.Test.YtflahpmlcfhpcaaGreatDoorTvT20bBookLong1
import Derived.Test.YtflahpmlcfhpcaaGreatDoorTvT20bBookLong3
namespace Go.Proofs.YtflahpmlcfhpcaaGreatDoor.T
open Go Go.Tv Go.Proofs
noncomputable section
set_option maxRecDepth 100000
set_option maxHeartbeats 4000000
def dU  : Option (Bool) :=
 ((dA).bind fun r4 =>
 ((mM r4.1 r4.2.1 r4.2.2.1 r4.2.2.2.1 r4.2.2.2.2.1 r4.2.2.2.2.2.1 r4.2.2.2.2.2.2.1 r4.2.2.2.2.2.2.2.1 r4.2.2.2.2.2.2.2.2).bind fun(r5,r6) =>
 (if 0<([(97:Int),(98:Int),(32:Int),(99:Int),(100:Int),(10:Int),(101:Int)]:List Int).length then((bI r5 ([(97:Int),(98:Int),(32:Int),(99:Int),(100:Int),(10:Int),(101:Int)]:List Int) (3:Int) (8:Int) (0:Int) (0:Int) (0:Int) (dS 0)).bind fun(r9,r10) =>
 (((if(r6.1 == (0:Int))=true then(if(r10 == (0:Int))=true then(if((r9.1.length:Int) == (3:Int))=true then(if 0≤(0:Int)∧(0:Int)<(r9.1.length:Int)then(if((((r9.1.getD ((0:Int).toNat) ((0:Int),((0:Int),((0:Int),(0:Int))))).1) == (0:Int)) && ((((r9.1.getD ((0:Int).toNat) ((0:Int),((0:Int),((0:Int),(0:Int))))).2.1) == (3:Int)) && ((((r9.1.getD ((0:Int).toNat) ((0:Int),((0:Int),((0:Int),(0:Int))))).2.2.1) == (2:Int)) && (((r9.1.getD ((0:Int).toNat) ((0:Int),((0:Int),((0:Int),(0:Int))))).2.2.2) == (1:Int)))))=true then(if 0≤(1:Int)∧(1:Int)<(r9.1.length:Int)then some (((((r9.1.getD ((1:Int).toNat) ((0:Int),((0:Int),((0:Int),(0:Int))))).1) == (3:Int)) && ((((r9.1.getD ((1:Int).toNat) ((0:Int),((0:Int),((0:Int),(0:Int))))).2.1) == (6:Int)) && ((((r9.1.getD ((1:Int).toNat) ((0:Int),((0:Int),((0:Int),(0:Int))))).2.2.1) == (2:Int)) && (((r9.1.getD ((1:Int).toNat) ((0:Int),((0:Int),((0:Int),(0:Int))))).2.2.2) == (2:Int))))))else none)
 else some (false))else none)
 else some (false))
 else some (false))
 else some (false))).bind fun v1=>some v1))else none)))
theorem oW{res:Bool}(h:dU=some res):
  Pure Tryz.prog 9 [] (aU (bN false [⟨.bool,res⟩])):=by
 refine Pure.of_body bA Tryz.func9 (by kernel_rfl) rfl (nl rfl) (fun Bw w0=> ?_) rfl
 unfold dU at h
 refine G ?_
 obtain⟨r4,q3,h⟩:=aG h
 obtain⟨⟨r5,r6⟩,q4,h⟩:=aG h
 have u_1:=(gV q3)
 have u_2:=(wJ false false false false q4)
 refine GN ⟨[],[(0,(oP u_1)),(1,(oP u_2))]⟩ [(0,0,oc u_1),(1,1,oc u_2)] ?_
 obtain⟨c2,h⟩:=aQ h
 obtain⟨⟨r9,r10⟩,q6,h⟩:=aG h
 have u_1:=(iJ false q6)
 refine GN ⟨[],[(4,(oP u_1 [false,true]))]⟩ [(2,2,oc c2),(4,4,oc u_1)] (aC (bT h (fun v1=>aM [(0,.bo v1)] [] 0) (fun v1 h=> ?_) (fun v1 h=> ?_)))
 ·rcases aR h with⟨hb9,h⟩ | ⟨hb9,h⟩
  ·rcases aR h with⟨hb10,h⟩ | ⟨hb10,h⟩
   ·rcases aR h with⟨hb11,h⟩ | ⟨hb11,h⟩
    ·obtain⟨c7,h⟩:=aQ h
     rcases aR h with⟨hb12,h⟩ | ⟨hb12,h⟩
     ·obtain⟨c8,h⟩:=aQ h
      refine bO ⟨[(3,true),(6,true),(7,true),(12,true),(13,true),(20,true),(21,true),(28,true)],[]⟩ [(4,5,an hb9),(6,6,oc hb9),(8,11,an hb10),(12,12,oc hb10),(14,15,an hb11),(16,16,oc (And.intro hb11 c7)),(17,18,an hb11),(19,19,oc (And.intro hb11 aDJ)),(20,20,oc hb11),(22,23,an hb12),(24,24,oc (And.intro hb12 c8)),(25,26,an hb12),(27,27,oc (And.intro hb12 aDJ)),(28,28,oc hb12)] ?_
      exact eN h (gg [] [])
     refine bO ⟨[(3,true),(6,true),(7,true),(12,true),(13,true),(20,true),(21,false),(28,false)],[]⟩ [(4,5,an hb9),(6,6,oc hb9),(8,11,an hb10),(12,12,oc hb10),(14,15,an hb11),(16,16,oc (And.intro hb11 c7)),(17,18,an hb11),(19,19,oc (And.intro hb11 aDJ)),(20,20,oc hb11),(22,28,oc hb12)] ?_
     exact eN h (gg [] [])
    refine bO ⟨[(3,true),(6,true),(7,true),(12,true),(13,false),(20,false)],[]⟩ [(4,5,an hb9),(6,6,oc hb9),(8,11,an hb10),(12,12,oc hb10),(14,20,oc hb11)] ?_
    exact eN h (gg [] [])
   refine bO ⟨[(3,true),(6,true),(7,false),(12,false)],[]⟩ [(4,5,an hb9),(6,6,oc hb9),(8,12,oc hb10)] ?_
   exact eN h (gg [] [])
  refine bO ⟨[(3,false),(6,false)],[]⟩ [(4,6,oc hb9)] ?_
  exact eN h (gg [] [])
 refine aA (aL ?_)
 obtain rfl:=sI h
 exact aD [.bool] (by kernel_rfl)
def dT(c1 c2 c3 c4 c5:Int)(c6:Option Nat):Option (Bool) :=
 (((if(decide (c1≥(1:Int)))=true then(if(decide (c1≤(1048576:Int)))=true then(if(decide (c2≥(1:Int)))=true then(if(decide (c2≤(64:Int)))=true then(if(c3 == (0:Int))=true then(if(decide (c4≥(0:Int)))=true then(if(decide (c4≤(1048576:Int)))=true then(if(decide (c5≥(0:Int)))=true then some ((decide (c5≤(1048576:Int))))
 else some (false))
 else some (false))
 else some (false))
 else(if(c3 == (1:Int))=true then(if(decide (c4≥(0:Int)))=true then(if(decide (c4≤(1048576:Int)))=true then(if(decide (c5≥(0:Int)))=true then some ((decide (c5≤(1048576:Int))))
 else some (false))
 else some (false))
 else some (false))
 else some (false)))
 else some (false))
 else some (false))
 else some (false))
 else some (false))).bind fun v1=>some v1)
theorem oN{c1:Int}{c2:Int}{c3:Int}{c4:Int}{c5:Int}{c6:Option Nat}{res:Bool}(h:dT c1 c2 c3 c4 c5 c6=some res):
  Pure Tryz.prog 22 [.agg [.i64 c1,.i64 c2,.u8 c3,.i64 c4,.i64 c5,.p false .flt c6]] (aU (bN false [⟨.bool,res⟩])):=by
 refine Pure.of_body bA Tryz.func22 (by kernel_rfl) rfl (nl rfl) (fun Bw w0=> ?_) rfl
 unfold dT at h
 refine G (aC (bT h (fun v1=>aM [(2,.bo v1)] [] 0) (fun v1 h=> ?_) (fun v1 h=> ?_)))
 ·rcases aR h with⟨hb25,h⟩ | ⟨hb25,h⟩
  ·rcases aR h with⟨hb26,h⟩ | ⟨hb26,h⟩
   ·rcases aR h with⟨hb27,h⟩ | ⟨hb27,h⟩
    ·rcases aR h with⟨hb28,h⟩ | ⟨hb28,h⟩
     ·rcases aR h with⟨hb29,h⟩ | ⟨hb29,h⟩
      ·rcases aR h with⟨hb30,h⟩ | ⟨hb30,h⟩
       ·rcases aR h with⟨hb31,h⟩ | ⟨hb31,h⟩
        ·rcases aR h with⟨hb32,h⟩ | ⟨hb32,h⟩
         ·refine bO ⟨[(3,true),(7,true),(8,true),(12,true),(13,true),(17,true),(18,true),(22,true),(26,true),(27,true),(33,true),(37,true),(38,true),(42,true),(43,true),(47,true)],[]⟩ [(4,6,an hb25),(7,7,oc hb25),(9,11,an hb26),(12,12,oc hb26),(14,16,an hb27),(17,17,oc hb27),(19,22,an hb28),(23,25,oc hb29),(26,26,oc (And.intro hb28 hb29)),(27,27,oc hb28),(34,36,an hb30),(37,37,oc hb30),(39,41,an hb31),(42,42,oc hb31),(44,46,an hb32),(47,47,oc hb32)] ?_
          exact eN h (gg [] [])
         refine bO ⟨[(3,true),(7,true),(8,true),(12,true),(13,true),(17,true),(18,true),(22,true),(26,true),(27,true),(33,true),(37,true),(38,true),(42,true),(43,false),(47,false)],[]⟩ [(4,6,an hb25),(7,7,oc hb25),(9,11,an hb26),(12,12,oc hb26),(14,16,an hb27),(17,17,oc hb27),(19,22,an hb28),(23,25,oc hb29),(26,26,oc (And.intro hb28 hb29)),(27,27,oc hb28),(34,36,an hb30),(37,37,oc hb30),(39,41,an hb31),(42,42,oc hb31),(44,47,oc hb32)] ?_
         exact eN h (gg [] [])
        refine bO ⟨[(3,true),(7,true),(8,true),(12,true),(13,true),(17,true),(18,true),(22,true),(26,true),(27,true),(33,true),(37,true),(38,false),(42,false)],[]⟩ [(4,6,an hb25),(7,7,oc hb25),(9,11,an hb26),(12,12,oc hb26),(14,16,an hb27),(17,17,oc hb27),(19,22,an hb28),(23,25,oc hb29),(26,26,oc (And.intro hb28 hb29)),(27,27,oc hb28),(34,36,an hb30),(37,37,oc hb30),(39,42,oc hb31)] ?_
        exact eN h (gg [] [])
       refine bO ⟨[(3,true),(7,true),(8,true),(12,true),(13,true),(17,true),(18,true),(22,true),(26,true),(27,true),(33,false),(37,false)],[]⟩ [(4,6,an hb25),(7,7,oc hb25),(9,11,an hb26),(12,12,oc hb26),(14,16,an hb27),(17,17,oc hb27),(19,22,an hb28),(23,25,oc hb29),(26,26,oc (And.intro hb28 hb29)),(27,27,oc hb28),(34,37,oc hb30)] ?_
       exact eN h (gg [] [])
      rcases aR h with⟨hb33,h⟩ | ⟨hb33,h⟩
      ·rcases aR h with⟨hb34,h⟩ | ⟨hb34,h⟩
       ·rcases aR h with⟨hb35,h⟩ | ⟨hb35,h⟩
        ·rcases aR h with⟨hb36,h⟩ | ⟨hb36,h⟩
         ·refine bO ⟨[(3,true),(7,true),(8,true),(12,true),(13,true),(17,true),(18,true),(22,false),(26,false),(27,true),(28,true),(32,true),(33,true),(37,true),(38,true),(42,true),(43,true),(47,true)],[]⟩ [(4,6,an hb25),(7,7,oc hb25),(9,11,an hb26),(12,12,oc hb26),(14,16,an hb27),(17,17,oc hb27),(19,22,an hb28),(23,25,an hb29),(26,26,oc (And.intro hb28 hb29)),(27,27,oc hb28),(29,31,an hb33),(32,32,oc hb33),(34,36,an hb34),(37,37,oc hb34),(39,41,an hb35),(42,42,oc hb35),(44,46,an hb36),(47,47,oc hb36)] ?_
          exact eN h (gg [] [])
         refine bO ⟨[(3,true),(7,true),(8,true),(12,true),(13,true),(17,true),(18,true),(22,false),(26,false),(27,true),(28,true),(32,true),(33,true),(37,true),(38,true),(42,true),(43,false),(47,false)],[]⟩ [(4,6,an hb25),(7,7,oc hb25),(9,11,an hb26),(12,12,oc hb26),(14,16,an hb27),(17,17,oc hb27),(19,22,an hb28),(23,25,an hb29),(26,26,oc (And.intro hb28 hb29)),(27,27,oc hb28),(29,31,an hb33),(32,32,oc hb33),(34,36,an hb34),(37,37,oc hb34),(39,41,an hb35),(42,42,oc hb35),(44,47,oc hb36)] ?_
         exact eN h (gg [] [])
        refine bO ⟨[(3,true),(7,true),(8,true),(12,true),(13,true),(17,true),(18,true),(22,false),(26,false),(27,true),(28,true),(32,true),(33,true),(37,true),(38,false),(42,false)],[]⟩ [(4,6,an hb25),(7,7,oc hb25),(9,11,an hb26),(12,12,oc hb26),(14,16,an hb27),(17,17,oc hb27),(19,22,an hb28),(23,25,an hb29),(26,26,oc (And.intro hb28 hb29)),(27,27,oc hb28),(29,31,an hb33),(32,32,oc hb33),(34,36,an hb34),(37,37,oc hb34),(39,42,oc hb35)] ?_
        exact eN h (gg [] [])
       refine bO ⟨[(3,true),(7,true),(8,true),(12,true),(13,true),(17,true),(18,true),(22,false),(26,false),(27,true),(28,true),(32,true),(33,false),(37,false)],[]⟩ [(4,6,an hb25),(7,7,oc hb25),(9,11,an hb26),(12,12,oc hb26),(14,16,an hb27),(17,17,oc hb27),(19,22,an hb28),(23,25,an hb29),(26,26,oc (And.intro hb28 hb29)),(27,27,oc hb28),(29,31,an hb33),(32,32,oc hb33),(34,37,oc hb34)] ?_
       exact eN h (gg [] [])
      refine bO ⟨[(3,true),(7,true),(8,true),(12,true),(13,true),(17,true),(18,true),(22,false),(26,false),(27,true),(28,false),(32,false)],[]⟩ [(4,6,an hb25),(7,7,oc hb25),(9,11,an hb26),(12,12,oc hb26),(14,16,an hb27),(17,17,oc hb27),(19,22,an hb28),(23,25,an hb29),(26,26,oc (And.intro hb28 hb29)),(27,27,oc hb28),(29,32,oc hb33)] ?_
      exact eN h (gg [] [])
     refine bO ⟨[(3,true),(7,true),(8,true),(12,true),(13,true),(17,true),(18,false),(27,false)],[]⟩ [(4,6,an hb25),(7,7,oc hb25),(9,11,an hb26),(12,12,oc hb26),(14,16,an hb27),(17,17,oc hb27),(19,22,oc hb28),(26,27,oc hb28)] ?_
     exact eN h (gg [] [])
    refine bO ⟨[(3,true),(7,true),(8,true),(12,true),(13,false),(17,false)],[]⟩ [(4,6,an hb25),(7,7,oc hb25),(9,11,an hb26),(12,12,oc hb26),(14,17,oc hb27)] ?_
    exact eN h (gg [] [])
   refine bO ⟨[(3,true),(7,true),(8,false),(12,false)],[]⟩ [(4,6,an hb25),(7,7,oc hb25),(9,12,oc hb26)] ?_
   exact eN h (gg [] [])
  refine bO ⟨[(3,false),(7,false)],[]⟩ [(4,7,oc hb25)] ?_
  exact eN h (gg [] [])
 refine aA (aL ?_)
 obtain rfl:=sI h
 exact aD [.bool] (by kernel_rfl)
def cX(d1 i1 i2 i3 i4 i5:Int)(i6:Option Nat)(x1:List Int):Option (Bool) :=
 ((dU).bind fun r2 =>
 (if(!r2)=true then some false
 else(if(decide ((x1.length:Int) > (5000:Int)))=true then some true
 else((dA).bind fun r6 =>
 ((mM r6.1 r6.2.1 r6.2.2.1 r6.2.2.2.1 r6.2.2.2.2.1 r6.2.2.2.2.2.1 r6.2.2.2.2.2.2.1 r6.2.2.2.2.2.2.2.1 r6.2.2.2.2.2.2.2.2).bind fun(r7,r8) =>
 (if ¬(2:Int)=0 then(if 0≤(IntKind.i64.wrap ((4096:Int)+(IntKind.i64.wrap (Int.tmod d1 (2:Int)))))∧(IntKind.i64.wrap ((4096:Int)+(IntKind.i64.wrap (Int.tmod d1 (2:Int)))))≤(IntKind.i64.wrap ((4096:Int)+(IntKind.i64.wrap (Int.tmod d1 (2:Int)))))∧(1:Int)*(IntKind.i64.wrap ((4096:Int)+(IntKind.i64.wrap (Int.tmod d1 (2:Int)))))≤281474976710656∧(IntKind.i64.wrap ((4096:Int)+(IntKind.i64.wrap (Int.tmod d1 (2:Int)))))≤9223372036854775807 then((bG r7 (List.replicate (IntKind.i64.wrap ((4096:Int)+(IntKind.i64.wrap (Int.tmod d1 (2:Int))))).toNat (0:Int))).bind fun(r11,r12) =>
 (if 0≤(IntKind.i64.wrap ((4096:Int)+(IntKind.i64.wrap (Int.tmod d1 (2:Int)))))∧(IntKind.i64.wrap ((4096:Int)+(IntKind.i64.wrap (Int.tmod d1 (2:Int)))))≤(IntKind.i64.wrap ((4096:Int)+(IntKind.i64.wrap (Int.tmod d1 (2:Int)))))∧(1:Int)*(IntKind.i64.wrap ((4096:Int)+(IntKind.i64.wrap (Int.tmod d1 (2:Int)))))≤281474976710656∧(IntKind.i64.wrap ((4096:Int)+(IntKind.i64.wrap (Int.tmod d1 (2:Int)))))≤9223372036854775807 then((bI r7 (List.replicate (IntKind.i64.wrap ((4096:Int)+(IntKind.i64.wrap (Int.tmod d1 (2:Int))))).toNat (0:Int)) (80:Int) (8:Int) (0:Int) (0:Int) (0:Int) (dS 0)).bind fun(r15,r16) =>
 ((bG (none:Option Z1) x1).bind fun(r19,r20) =>
 ((bI (none:Option Z1) x1 i1 i2 i3 i4 i5 i6).bind fun(r23,r24) =>
 ((dT i1 i2 i3 i4 i5 i6).bind fun r26 =>
 (((if(!r26)=true then some ((40:Int))
 else some ((1:Int)))).bind fun v1=>(((if(r8.1 != (0:Int))=true then some (true)
 else(if(r20 != (1:Int))=true then some (true)
 else some ((r24 != v1))))).bind fun v2=>(if v2=true then some false
 else(if ¬(2:Int)=0 then(if((Int.tmod d1 (2:Int)) == (1:Int))=true then(((if(r12 == (3:Int))=true then(if(r16 == (3:Int))=true then some (((r11.1.length:Int) == (0:Int)))
 else some (false))
 else some (false))).bind fun v3=>some v3)
 else(((if(r12 == (0:Int))=true then(if(r16 == (0:Int))=true then some (((r11.1.length:Int) == (IntKind.i64.wrap ((4096:Int)+(IntKind.i64.wrap (Int.tmod d1 (2:Int)))))))
 else some (false))
 else some (false))).bind fun v4=>some v4))else none))))))))else none))else none)else none))))))
theorem stanzalaw20_BookLong_ok(β7:Bool){d1:Int}{i1:Int}{i2:Int}{i3:Int}{i4:Int}{i5:Int}{i6:Option Nat}{x1:List Int}{res:Bool}(h:cX d1 i1 i2 i3 i4 i5 i6 x1=some res):
  Pure Tryz.prog 5 [.u8 d1,.agg [.i64 i1,.i64 i2,.u8 i3,.i64 i4,.i64 i5,.p false .flt i6],.p β7 (.slice (.int .u8)) x1] (aU (bN false [⟨.bool,res⟩])):=by
 refine Pure.of_body bA Tryz.func5 (by kernel_rfl) rfl (nl rfl) (fun Bw w0=> ?_) rfl
 unfold cX at h
 refine G (aC ?_)
 obtain⟨r2,q2,h⟩:=aG h
 refine GP 0 (oW q2) (aO h (fun hb1 h=> ?_) (fun hb1 h=> ?_))
 ·refine G (aL (aE ?_))
  obtain rfl:=sI h
  exact aD [.bool] (by kernel_rfl)
 refine aB (aA (aC (G (aO h (fun hb2 h=> ?_) (fun hb2 h=> ?_)))))
 ·refine G (aL (aE ?_))
  obtain rfl:=sI h
  exact aD [.bool] (by kernel_rfl)
 refine aB (aA ?_)
 obtain⟨r6,q5,h⟩:=aG h
 obtain⟨⟨r7,r8⟩,q6,h⟩:=aG h
 have u_1:=(gV q5)
 have u_2:=(wJ false false false false q6)
 refine GN ⟨[],[(0,(oP u_1)),(1,(oP u_2))]⟩ [(0,0,oc u_1),(1,1,oc u_2)] (GC 1 h (fun h=> ?_))
 obtain⟨c4,h⟩:=aQ h
 obtain⟨⟨r11,r12⟩,q8,h⟩:=aG h
 have u_1:=(g9 true q8)
 refine GN ⟨[],[(3,(oP u_1))]⟩ [(2,2,oc c4),(3,3,oc u_1)] ?_
 obtain⟨c6,h⟩:=aQ h
 obtain⟨⟨r15,r16⟩,q10,h⟩:=aG h
 have u_1:=(iJ true q10)
 refine GN ⟨[],[(4,(oP u_1))]⟩ [(2,2,oc c6),(4,4,oc u_1)] (G ?_)
 obtain⟨⟨r19,r20⟩,q12,h⟩:=aG h
 refine GP 2 (g9 β7 q12) ?_
 obtain⟨⟨r23,r24⟩,q14,h⟩:=aG h
 refine GP 3 (iJ β7 q14) (G (aC ?_))
 obtain⟨r26,q16,h⟩:=aG h
 refine GP 1 (oN q16) (bT h (fun v1=>aM [(0,.u8 d1),(8,.adr 0 0 2 0),(9,.i64 (IntKind.i64.wrap ((4096:Int)+(IntKind.i64.wrap (Int.tmod d1 (2:Int)))))),(10,.adr 1 0 2 0),(11,.i64 r12),(13,.i64 r16),(16,.i64 r20),(18,.i64 r24),(19,.i64 v1)] (aGB r8.1 r8.2 r11.1 r11.2) 2) (fun v1 h=> ?_) (fun v1 h=> ?_))
 ·refine aO h (fun hb4 h=> ?_) (fun hb4 h=> ?_)
  ·refine Ge ?_
   exact eN h (gg [] [96,216])
  refine aB ?_
  exact eN h (gg [] [96,216])
 refine aA (aC (aC (bT h (fun v2=>aM [(0,.u8 d1),(9,.i64 (IntKind.i64.wrap ((4096:Int)+(IntKind.i64.wrap (Int.tmod d1 (2:Int)))))),(10,.adr 0 0 2 0),(11,.i64 r12),(13,.i64 r16),(76,.bo v2)] (aGy r11.1 r11.2) 1) (fun v2 h=> ?_) (fun v2 h=> ?_))))
 ·rcases aR h with⟨hb9,h⟩ | ⟨hb9,h⟩
  ·refine bO ⟨[(3,true),(6,true)],[]⟩ [(4,6,oc hb9)] ?_
   exact eN h (gg [] [1])
  rcases aR h with⟨hb10,h⟩ | ⟨hb10,h⟩
  ·refine bO ⟨[(3,false),(6,false),(7,true),(11,true)],[]⟩ [(4,5,an hb9),(6,6,oc hb9),(8,11,oc hb10)] ?_
   exact eN h (gg [] [1])
  refine bO ⟨[(3,false),(6,false),(7,false),(11,false)],[]⟩ [(4,5,an hb9),(6,6,oc hb9),(8,10,an hb10),(11,11,oc hb10)] ?_
  exact eN h (gg [] [1])
 refine aA (aO h (fun hb11 h=> ?_) (fun hb11 h=> ?_))
 ·refine G (aL (aE ?_))
  obtain rfl:=sI h
  exact aD [.bool] (by kernel_rfl)
 refine aB (aA (aC (GC 1 h (fun h=>aO h (fun hb12 h=> ?_) (fun hb12 h=> ?_)))))
 ·refine aC (bT h (fun v3=>aM [(6,.bo v3)] [] 0) (fun v3 h=> ?_) (fun v3 h=> ?_))
  ·rcases aR h with⟨hb17,h⟩ | ⟨hb17,h⟩
   ·rcases aR h with⟨hb18,h⟩ | ⟨hb18,h⟩
    ·refine bO ⟨[(2,true),(5,true),(6,true),(11,true)],[]⟩ [(3,4,an hb17),(5,5,oc hb17),(7,10,an hb18),(11,11,oc hb18)] ?_
     exact eN h (gg [] [])
    refine bO ⟨[(2,true),(5,true),(6,false),(11,false)],[]⟩ [(3,4,an hb17),(5,5,oc hb17),(7,11,oc hb18)] ?_
    exact eN h (gg [] [])
   refine bO ⟨[(2,false),(5,false)],[]⟩ [(3,5,oc hb17)] ?_
   exact eN h (gg [] [])
  refine aA (aL (aE ?_))
  obtain rfl:=sI h
  exact aD [.bool] (by kernel_rfl)
 refine aB (aA (aC (bT h (fun v4=>aM [(6,.bo v4)] [] 0) (fun v4 h=> ?_) (fun v4 h=> ?_))))
 ·rcases aR h with⟨hb23,h⟩ | ⟨hb23,h⟩
  ·rcases aR h with⟨hb24,h⟩ | ⟨hb24,h⟩
   ·refine bO ⟨[(2,true),(5,true),(6,true),(12,true)],[]⟩ [(3,4,an hb23),(5,5,oc hb23),(7,11,an hb24),(12,12,oc hb24)] ?_
    exact eN h (gg [] [])
   refine bO ⟨[(2,true),(5,true),(6,false),(12,false)],[]⟩ [(3,4,an hb23),(5,5,oc hb23),(7,12,oc hb24)] ?_
   exact eN h (gg [] [])
  refine bO ⟨[(2,false),(5,false)],[]⟩ [(3,5,oc hb23)] ?_
  exact eN h (gg [] [])
 refine aA (aL ?_)
 obtain rfl:=sI h
 exact aD [.bool] (by kernel_rfl)
end
end Go.Proofs.YtflahpmlcfhpcaaGreatDoor.T
