import Derived.Test.YtflahpmlcfhpcaaGreatDoorTvSt
import Derived.Test.YtflahpmlcfhpcaaGreatDoorProg
import Derived.KernelRfl
namespace Go.Proofs.YtflahpmlcfhpcaaGreatDoor.T
open Go Go.Tv Go.Proofs
noncomputable section
set_option maxRecDepth 100000
set_option maxHeartbeats 4000000
abbrev Z6:Type:=Int×Tree×Tree
abbrev XJ:=List Z6
abbrev I7:Type:=QQ×Int×Int×QK×XJ
abbrev D3:Type:=QZ×QK
abbrev Z5:Type:=I7×D3×QZ×QK
abbrev y5:Type:=(fb 4352)×List (fb 256)
abbrev Z7:Type:=Int×Int×Int
abbrev XK:=List Z7
abbrev HC:Type:=(List (Qq×QK))×Unit
abbrev Z8:Type:=QK×QK
abbrev Z3:Type:=XK×(Option HC)×(List Z8)×Int×Int
abbrev Z1:Type:=(Option Z5)×(Option Z5)×(Option y5)×(Option y5)×(Option y5)×Option Z3
abbrev Z2:Type:=Int×Int×Int×Int
abbrev Qv:=List Z2
abbrev Z4:Type:=QX×Int
abbrev XX:=List Z4
abbrev Z9:Type:=Bool×Z2×Int×Int×Int×Int
abbrev n7:Type:=Tree×Int×Int×Int
abbrev JV:Type:=Int×QQ×Int×Int×QK×XJ×XX×Int×Int
abbrev wI:Type:=Int×QK×QK
abbrev uE:Type:=QK×Int
abbrev Y1:Ty:=(.prod (.int .i32) (.int .i64))
abbrev Y2:Ty:=(.prod (.int .i64) (.int .i64))
abbrev Y3:Ty:=(.prod .str (.prod .str Y2))
abbrev Y4:Ty:=(.prod (.slice (.prod (.int .i32) Y1)) (.prod .str Y3))
abbrev Y5:Ty:=(.prod (.slice (.prod (.int .i32) Y1)) Y4)
abbrev Y6:Ty:=(.prod (.slice (.prod (.int .i32) Y1)) Y5)
abbrev Y7:Ty:=(.prod (.slice (.prod (.int .i32) Y1)) Y6)
abbrev Y8:Ty:=(.prod (.tree .u8 .u32) (.tree .u8 .u32))
abbrev Y9:Ty:=(.prod (.slice (.int .i64)) (.slice (.prod (.int .u8) Y8)))
abbrev MX:Ty:=(.prod (.int .u32) (.prod (.int .u32) Y9))
abbrev Ke:Ty:=(.prod (.slice .str) MX)
abbrev BS:Ty:=(.prod (.slice (.slice (.int .i64))) (.slice (.int .u32)))
abbrev mR:Ty:=(.prod Ke (.prod BS BS))
abbrev M4:Ty:=(.prod (.int .u64) (.int .u64))
abbrev lW:Ty:=(.prod (.int .u64) (.prod (.int .u64) M4))
abbrev AG:Ty:=(.prod .bool (.prod lW lW))
abbrev vp:Ty:=(.prod (.arr .i64 4352) (.slice (.arr .u8 256)))
abbrev LG:Ty:=(.prod (.mapi .i32 .i64) (.slice (.int .u8)))
abbrev sR:Ty:=(.prod (.slice LG) .unit)
abbrev qB:Ty:=(.prod (.slice (.int .i32)) (.slice (.int .u8)))
abbrev MQ:Ty:=(.prod (.ptr sR) (.prod (.slice qB) Y2))
abbrev mY:Ty:=(.prod (.slice (.prod (.int .i32) Y1)) MQ)
abbrev M2:Ty:=(.prod (.ptr vp) (.ptr mY))
abbrev MF:Ty:=(.prod (.ptr vp) (.prod (.ptr vp) M2))
abbrev zD:Ty:=(.prod (.ptr mR) (.prod (.ptr mR) MF))
abbrev Ig:Ty:=(.prod (.slice qB) (.slice qB))
abbrev MD:Ty:=(.prod (.int .i64) (.int .u8))
abbrev fF:Ty:=(.prod (.int .i64) (.prod (.int .i64) MD))
abbrev KP:Ty:=(.prod (.slice fF) .bool)
abbrev JT:Ty:=(.prod (.slice fF) (.slice (.int .u8)))
abbrev Fv:Ty:=(.prod (.slice (.int .u8)) (.slice (.int .u8)))
abbrev M1:Ty:=(.prod (.int .i64) .flt)
abbrev MN:Ty:=(.prod (.int .u8) (.prod (.int .i64) M1))
abbrev Mg:Ty:=(.prod (.int .i64) (.prod (.int .i64) MN))
abbrev MM:Ty:=(.prod (.slice (.int .u8)) (.slice (.prod (.int .u8) Fv)))
abbrev L5:Ty:=(.prod (.int .u8) (.prod (.int .u8) MM))
abbrev Mu:Ty:=(.prod (.int .u8) (.int .u8))
abbrev MZ:Ty:=(.prod (.slice (.int .u8)) Mu)
abbrev M5:Ty:=(.prod (.slice (.int .u8)) MZ)
abbrev MK:Ty:=(.prod (.slice (.int .u8)) M5)
abbrev MR:Ty:=(.prod (.slice (.int .u8)) MK)
abbrev MI:Ty:=(.prod (.prod (.int .u8) L5) MR)
abbrev M3:Ty:=(.prod (.prod (.int .u8) L5) MI)
abbrev MS:Ty:=(.prod (.int .u16) .flt)
abbrev MJ:Ty:=(.prod (.int .u8) (.prod (.int .u16) MS))
abbrev M7:Ty:=(.prod (.int .u8) (.prod (.int .u8) MJ))
abbrev M0:Ty:=(.prod (.slice (.int .u8)) (.int .i64))
abbrev MH:Ty:=(.prod (.slice lW) .bool)
abbrev MO:Ty:=(.prod (.slice (.int .u32)) MH)
abbrev MC:Ty:=(.prod (.int .u8) (.prod (.int .u8) Mu))
abbrev MP:Ty:=(.prod (.int .u8) (.prod (.int .u8) MC))
abbrev MT(j p q u:Int)(v:QX)(x z A B e:Int)(f:XX):Qj:=[(0,.box [.nils,.u32 j,.u32 p,.nils,.nils]),(1,.box [.i64 q,.i64 u]),(2,.box [.st v,.i64 x,.nils,.u32 z,.u32 A,.nils,.nils,.mp 3,.i64 B,.i64 e]),(3,.mpo .str (.int .u32) f)]
abbrev Lt(e:QX)(f j p q u:Int)(v:XX):Qj:=[(0,.box [.st e,.i64 f,.nils,.u32 j,.u32 p,.nils,.nils,.mp 1,.i64 q,.i64 u]),(1,.mpo .str (.int .u32) v)]
abbrev Kd(e f j p:Int):Qj:=[(0,.box [.nils,.u32 e,.u32 f,.nils,.nils]),(1,.box [.i64 j,.i64 p])]
abbrev bN(f:QX)(j p q u v:Int)(x:QQ)(z:QK)(A:XJ)(e:XX):Qj:=[(0,.box [.st f,.i64 j,.sl 1,.u32 p,.u32 q,.sl 2,.sl 3,.mp 4,.i64 u,.i64 v]),(1,.arr 9 .str x),(2,.arr 3 (.int .i64) z),(3,.arr 185 (.prod (.int .u8) Y8) A),(4,.mpo .str (.int .u32) e)]
abbrev H0(f:QX)(j p q u v:Int)(x:XJ)(z:XX)(A:QQ)(e:QK):Qj:=[(0,.box [.st f,.i64 j,.sl 5,.u32 p,.u32 q,.sl 6,.sl 3,.mp 4,.i64 u,.i64 v]),(3,.arr 185 (.prod (.int .u8) Y8) x),(4,.mpo .str (.int .u32) z),(5,.arr 9 .str A),(6,.arr 3 (.int .i64) e)]
abbrev LC(u:QX)(v x z A B:Int)(C:QQ)(D:QK)(E:XJ)(e:XX)(f j p q:Int):Qj:=[(0,.box [.st u,.i64 v,.sl 1,.u32 x,.u32 z,.sl 2,.sl 3,.mp 4,.i64 A,.i64 B]),(1,.arr 9 .str C),(2,.arr 3 (.int .i64) D),(3,.arr 185 (.prod (.int .u8) Y8) E),(4,.mpo .str (.int .u32) e),(5,.box [.u8 f,.u32 j,.nils]),(6,.box [.u8 p,.u32 q,.nils])]
abbrev KO(p:QX)(q u v x z:Int)(A:QQ)(B:QK)(C:XJ)(e:XX)(f j:Int):Qj:=[(0,.box [.st p,.i64 q,.sl 1,.u32 u,.u32 v,.sl 2,.sl 3,.mp 4,.i64 x,.i64 z]),(1,.arr 9 .str A),(2,.arr 3 (.int .i64) B),(3,.arr 185 (.prod (.int .u8) Y8) C),(4,.mpo .str (.int .u32) e),(5,.box [.u8 f,.u32 j,.nils])]
abbrev Kl(x:QX)(z A B C D:Int)(E:QQ)(I:QK)(J:XJ)(e:XX)(f j q u:Int)(v:XZ):Qj:=[(0,.box [.st x,.i64 z,.sl 1,.u32 A,.u32 B,.sl 2,.sl 3,.mp 4,.i64 C,.i64 D]),(1,.arr 9 .str E),(2,.arr 3 (.int .i64) I),(3,.arr 185 (.prod (.int .u8) Y8) J),(4,.mpo .str (.int .u32) e),(5,.box [.u8 f,.u32 j,.nils]),(6,.box [.u8 q,.u32 u,.p false (.slice (.tree .u8 .u32)) v])]
abbrev Cb(u:QX)(v x z A B:Int)(C:QQ)(D:QK)(E:XJ)(e:XX)(f j:Int)(q:XZ):Qj:=[(0,.box [.st u,.i64 v,.sl 1,.u32 x,.u32 z,.sl 2,.sl 3,.mp 4,.i64 A,.i64 B]),(1,.arr 9 .str C),(2,.arr 3 (.int .i64) D),(3,.arr 185 (.prod (.int .u8) Y8) E),(4,.mpo .str (.int .u32) e),(5,.box [.u8 f,.u32 j,.p false (.slice (.tree .u8 .u32)) q])]
abbrev F6(q:QX)(u v x z A:Int)(B:QQ)(C:QK)(D:XJ)(e:XX)(f j:Int)(p:XZ):Qj:=[(0,.box [.st q,.i64 u,.sl 1,.u32 v,.u32 x,.sl 2,.sl 3,.mp 4,.i64 z,.i64 A]),(1,.arr 9 .str B),(2,.arr 3 (.int .i64) C),(3,.arr 185 (.prod (.int .u8) Y8) D),(4,.mpo .str (.int .u32) e),(5,.box [.u8 f,.u32 j,.nils]),(6,.arr 183 (.tree .u8 .u32) p)]
abbrev KF(f:QX)(j p q u v:Int)(x:QQ)(z:QK)(A:XX)(e:XJ):Qj:=[(0,.box [.st f,.i64 j,.sl 1,.u32 p,.u32 q,.sl 2,.sl 5,.mp 4,.i64 u,.i64 v]),(1,.arr 9 .str x),(2,.arr 3 (.int .i64) z),(4,.mpo .str (.int .u32) A),(5,.arr 185 (.prod (.int .u8) Y8) e)]
abbrev L0(j:QX)(p q u v x:Int)(z:XX)(A:QQ)(B:QK)(e:XJ)(f:XX):Qj:=[(0,.box [.st j,.i64 p,.sl 2,.u32 q,.u32 u,.sl 3,.sl 4,.mp 1,.i64 v,.i64 x]),(1,.mpo .str (.int .u32) z),(2,.arr 9 .str A),(3,.arr 3 (.int .i64) B),(4,.arr 185 (.prod (.int .u8) Y8) e),(5,.mpl .str [(([99,108,97,115,115]:QX),(yj 119)),(([115,101,116]:QX),(yj 120)),(([106,111,105,110]:QX),(yj 121)),(([116,114,101,97,116]:QX),(yj 122))]),(6,.mpo .str (.int .u8) f)]
abbrev Kr(f:QX)(j p q u v:Int)(x:XX)(z:QQ)(A:QK)(e:XJ):Qj:=[(0,.box [.st f,.i64 j,.sl 2,.u32 p,.u32 q,.sl 3,.sl 4,.mp 1,.i64 u,.i64 v]),(1,.mpo .str (.int .u32) x),(2,.arr 9 .str z),(3,.arr 3 (.int .i64) A),(4,.arr 185 (.prod (.int .u8) Y8) e)]
abbrev Mc(u v:Int)(x:Bool)(z:XZ)(A B C D:Int)(E:XZ)(e f:Int)(j:Bool)(q:XZ):Qj:=[(0,.box [.u8 u,.u32 v,.p x (.slice (.tree .u8 .u32)) z]),(1,.box [.u8 A,.u32 B,.nils]),(2,.box [.u8 C,.u32 D,.sl 3]),(3,.arr 183 (.tree .u8 .u32) E),(4,.box [.u8 e,.u32 f,.p j (.slice (.tree .u8 .u32)) q])]
abbrev Mf(e f:Int)(j:Bool)(q:XZ)(u v x z:Int)(A:XZ):Qj:=[(0,.box [.u8 e,.u32 f,.p j (.slice (.tree .u8 .u32)) q]),(1,.box [.u8 u,.u32 v,.nils]),(2,.box [.u8 x,.u32 z,.sl 3]),(3,.arr 183 (.tree .u8 .u32) A)]
abbrev LW(e f j p:Int)(q:XZ):Qj:=[(0,.box [.u8 e,.u32 f,.nils]),(1,.box [.u8 j,.u32 p,.sl 2]),(2,.arr 183 (.tree .u8 .u32) q)]
abbrev JS(e:Bool)(f j p q u v x z:Int):Qj:=[(0,.box [.bo e,.u64 f,.u64 j,.u64 p,.u64 q,.u64 u,.u64 v,.u64 x,.u64 z])]
abbrev Lq(e f j p q u v x:Int):Qj:=[(0,.box [.u64 e,.u64 f,.u64 j,.u64 p]),(1,.box [.u64 q,.u64 u,.u64 v,.u64 x])]
abbrev Ca(e:Bool)(f:QK)(j:Qv):Qj:=[(0,.box [.sl 1,.sl 2,.bo e]),(1,.arr 40 (.int .u32) f),(2,.arr 264 lW j)]
abbrev LX(p q u v x z A B C e f j:Int):Qj:=[(0,.box [.u64 p,.u64 q,.u64 u,.u64 v]),(1,.box [.u64 x,.u64 z,.u64 A,.u64 B]),(2,.box [.u64 C,.u64 e,.u64 f,.u64 j])]
abbrev KX(j:Bool)(p:QK)(q:Qv)(u v x z A B e f:Int):Qj:=[(0,.box [.sl 1,.sl 2,.bo j]),(1,.arr 40 (.int .u32) p),(2,.arr 264 lW q),(3,.box [.u64 u,.u64 v,.u64 x,.u64 z]),(4,.box [.u64 A,.u64 B,.u64 e,.u64 f])]
abbrev LI(z:Bool)(A:QK)(B:Qv)(C D:Int)(E:Bool)(I:XZ)(J:Bool)(L e f j q u v x:Int):Qj:=[(0,.box [.sl 1,.sl 2,.bo z]),(1,.arr 40 (.int .u32) A),(2,.arr 264 lW B),(3,.box [.u8 C,.u32 D,.p E (.slice (.tree .u8 .u32)) I]),(4,.box [.bo J,.u64 L,.u64 e,.u64 f,.u64 j,.u64 q,.u64 u,.u64 v,.u64 x])]
abbrev JM(e:Bool)(f:QK)(j:Qv):Qj:=[(0,.box [.sl 3,.sl 4,.bo e]),(3,.arr 40 (.int .u32) f),(4,.arr 264 lW j)]
abbrev KS(X:Bool)(Y:QK)(Z:Qv)(a4:Bool)(a5 a6 a7 a8 a9 e f j:Int)(p:Bool)(q u v x z A B C:Int)(D:Bool)(E I J L M N O V:Int):Qj:=[(0,.box [.sl 3,.sl 4,.bo X]),(3,.arr 40 (.int .u32) Y),(4,.arr 264 lW Z),(5,.box [.bo a4,.u64 a5,.u64 a6,.u64 a7,.u64 a8,.u64 a9,.u64 e,.u64 f,.u64 j]),(6,.box [.bo p,.u64 q,.u64 u,.u64 v,.u64 x,.u64 z,.u64 A,.u64 B,.u64 C]),(7,.box [.bo D,.u64 E,.u64 I,.u64 J,.u64 L,.u64 M,.u64 N,.u64 O,.u64 V])]
abbrev IA(D:Bool)(E:QK)(I:Qv)(J:Bool)(L M N O V e f j:Int)(p:Bool)(q u v x z A B C:Int):Qj:=[(0,.box [.sl 3,.sl 4,.bo D]),(3,.arr 40 (.int .u32) E),(4,.arr 264 lW I),(5,.box [.bo J,.u64 L,.u64 M,.u64 N,.u64 O,.u64 V,.u64 e,.u64 f,.u64 j]),(6,.box [.bo p,.u64 q,.u64 u,.u64 v,.u64 x,.u64 z,.u64 A,.u64 B,.u64 C])]
abbrev Ka(D E:Bool)(I J L M N O V e:Int)(f:Bool)(j p q u v x z A:Int)(B:QK)(C:Qv):Qj:=[(0,.box [.sl 5,.sl 6,.bo D]),(3,.box [.bo E,.u64 I,.u64 J,.u64 L,.u64 M,.u64 N,.u64 O,.u64 V,.u64 e]),(4,.box [.bo f,.u64 j,.u64 p,.u64 q,.u64 u,.u64 v,.u64 x,.u64 z,.u64 A]),(5,.arr 40 (.int .u32) B),(6,.arr 264 lW C)]
abbrev LK(M:Bool)(N O:Int)(V:Bool)(X:XZ)(Y:Bool)(Z a8 a9 e f j q u:Int)(v:Bool)(x z A B C D E I:Int)(J:QK)(L:Qv):Qj:=[(0,.box [.sl 6,.sl 7,.bo M]),(3,.box [.u8 N,.u32 O,.p V (.slice (.tree .u8 .u32)) X]),(4,.box [.bo Y,.u64 Z,.u64 a8,.u64 a9,.u64 e,.u64 f,.u64 j,.u64 q,.u64 u]),(5,.box [.bo v,.u64 x,.u64 z,.u64 A,.u64 B,.u64 C,.u64 D,.u64 E,.u64 I]),(6,.arr 40 (.int .u32) J),(7,.arr 264 lW L)]
abbrev LR(M:Bool)(N:QK)(O:Qv)(V X:Int)(Y:Bool)(Z:XZ)(a8:Bool)(a9 e f j q u v x:Int)(z:Bool)(A B C D E I J L:Int):Qj:=[(0,.box [.sl 3,.sl 4,.bo M]),(3,.arr 40 (.int .u32) N),(4,.arr 264 lW O),(5,.box [.u8 V,.u32 X,.p Y (.slice (.tree .u8 .u32)) Z]),(6,.box [.bo a8,.u64 a9,.u64 e,.u64 f,.u64 j,.u64 q,.u64 u,.u64 v,.u64 x]),(7,.box [.bo z,.u64 A,.u64 B,.u64 C,.u64 D,.u64 E,.u64 I,.u64 J,.u64 L])]
abbrev Fg(p:Bool)(q:QK)(u:Qv)(v:Bool)(x z A B C e f j:Int):Qj:=[(0,.box [.sl 3,.sl 4,.bo p]),(3,.arr 40 (.int .u32) q),(4,.arr 264 lW u),(5,.box [.bo v,.u64 x,.u64 z,.u64 A,.u64 B,.u64 C,.u64 e,.u64 f,.u64 j])]
abbrev Ew(C:Bool)(D:QK)(E:Qv)(I:List Z9)(J L M N:Int)(O:QZ)(e:QK)(f:Qv)(j:List (Z2×Int))(p q u v x z A B:Int):Qj:=[(0,.box [.nils,.nils]),(1,.box [.sl 2,.sl 3,.bo C]),(2,.arr 40 (.int .u32) D),(3,.arr 264 lW E),(4,.arr 266 AG I),(5,.box [.u64 J,.u64 L,.u64 M,.u64 N]),(6,.box [.sl 7,.sl 8]),(7,.arr 41 (.slice (.int .i64)) O),(8,.arr 40 (.int .u32) e),(9,.arr 264 lW f),(10,.mpo lW (.int .i64) j),(11,.box [.u64 p,.u64 q,.u64 u,.u64 v]),(12,.box [.u64 x,.u64 z,.u64 A,.u64 B])]
abbrev HV(D:Bool)(E:QK)(I:Qv)(J:List Z9)(L M N O:Int)(V:QZ)(e:QK)(f:Qv)(j:List (Z2×Int))(p q u v:Int)(x:QK)(z A B C:Int):Qj:=[(0,.box [.nils,.nils]),(1,.box [.sl 2,.sl 3,.bo D]),(2,.arr 40 (.int .u32) E),(3,.arr 264 lW I),(4,.arr 266 AG J),(5,.box [.u64 L,.u64 M,.u64 N,.u64 O]),(6,.box [.sl 7,.sl 8]),(7,.arr 41 (.slice (.int .i64)) V),(8,.arr 40 (.int .u32) e),(9,.arr 264 lW f),(10,.mpo lW (.int .i64) j),(11,.box [.u64 p,.u64 q,.u64 u,.u64 v]),(12,.arr 3 (.int .i64) x),(13,.box [.u64 z,.u64 A,.u64 B,.u64 C])]
abbrev KL(z:Bool)(A:QK)(B:Qv)(C:List Z9)(D E I J:Int)(L:QZ)(e:QK)(f:Qv)(j:List (Z2×Int))(p q u v:Int)(x:QK):Qj:=[(0,.box [.nils,.nils]),(1,.box [.sl 2,.sl 3,.bo z]),(2,.arr 40 (.int .u32) A),(3,.arr 264 lW B),(4,.arr 266 AG C),(5,.box [.u64 D,.u64 E,.u64 I,.u64 J]),(6,.box [.sl 7,.sl 8]),(7,.arr 41 (.slice (.int .i64)) L),(8,.arr 40 (.int .u32) e),(9,.arr 264 lW f),(10,.mpo lW (.int .i64) j),(11,.box [.u64 p,.u64 q,.u64 u,.u64 v]),(12,.arr 3 (.int .i64) x)]
abbrev LP(q:Bool)(u:QK)(v:Qv)(x:List Z9)(z A B C:Int)(D:QZ)(e:QK)(f:Qv)(j:List (Z2×Int))(p:QK):Qj:=[(0,.box [.nils,.nils]),(1,.box [.sl 2,.sl 3,.bo q]),(2,.arr 40 (.int .u32) u),(3,.arr 264 lW v),(4,.arr 266 AG x),(5,.box [.u64 z,.u64 A,.u64 B,.u64 C]),(6,.box [.sl 7,.sl 8]),(7,.arr 41 (.slice (.int .i64)) D),(8,.arr 40 (.int .u32) e),(9,.arr 264 lW f),(10,.mpo lW (.int .i64) j),(11,.arr 3 (.int .i64) p)]
abbrev L1(x:Bool)(z:QK)(A:Qv)(B:List Z9)(C D E I:Int)(J:QZ)(e:QK)(f:Qv)(j:List (Z2×Int))(p q u v:Int):Qj:=[(0,.box [.nils,.nils]),(1,.box [.sl 2,.sl 3,.bo x]),(2,.arr 40 (.int .u32) z),(3,.arr 264 lW A),(4,.arr 266 AG B),(5,.box [.u64 C,.u64 D,.u64 E,.u64 I]),(6,.box [.sl 7,.sl 8]),(7,.arr 41 (.slice (.int .i64)) J),(8,.arr 40 (.int .u32) e),(9,.arr 264 lW f),(10,.mpo lW (.int .i64) j),(11,.box [.u64 p,.u64 q,.u64 u,.u64 v])]
abbrev Me(p:Bool)(q:QK)(u:Qv)(v:List Z9)(x z A B:Int)(C:QZ)(e:QK)(f:Qv)(j:List (Z2×Int)):Qj:=[(0,.box [.nils,.nils]),(1,.box [.sl 2,.sl 3,.bo p]),(2,.arr 40 (.int .u32) q),(3,.arr 264 lW u),(4,.arr 266 AG v),(5,.box [.u64 x,.u64 z,.u64 A,.u64 B]),(6,.box [.sl 7,.sl 8]),(7,.arr 41 (.slice (.int .i64)) C),(8,.arr 40 (.int .u32) e),(9,.arr 264 lW f),(10,.mpo lW (.int .i64) j)]
abbrev K0(e:QZ)(f:QK):Qj:=[(0,.box [.nils,.nils]),(1,.box [.sl 2,.sl 3]),(2,.arr 41 (.slice (.int .i64)) e),(3,.arr 40 (.int .u32) f)]
abbrev KY(e:Bool)(f:QK)(j:Qv)(p:List Z9)(q u v x:Int):Qj:=[(0,.box [.nils,.nils]),(1,.box [.sl 2,.sl 3,.bo e]),(2,.arr 40 (.int .u32) f),(3,.arr 264 lW j),(4,.arr 266 AG p),(5,.box [.u64 q,.u64 u,.u64 v,.u64 x])]
abbrev Lf(e:Bool)(f:QK)(j:Qv)(p:List Z9):Qj:=[(0,.box [.nils,.nils]),(1,.box [.sl 2,.sl 3,.bo e]),(2,.arr 40 (.int .u32) f),(3,.arr 264 lW j),(4,.arr 266 AG p)]
abbrev Ht(e:Bool)(f:QZ)(j:Bool)(q:QK):Qj:=[(0,.box [.p e (.slice (.slice (.int .i64))) f,.p j (.slice (.int .u32)) q])]
abbrev IG(e:XX)(f j:QK):Qj:=[(0,.mpo .str (.int .i64) e),(1,.arr 3 (.int .i64) f),(2,.arr 3 (.int .i64) j)]
abbrev IN(e:XX)(f j p:QK):Qj:=[(0,.mpo .str (.int .i64) e),(1,.arr 3 (.int .i64) f),(2,.arr 3 (.int .i64) j),(3,.arr 5 (.int .u8) p)]
abbrev LQ(e:Bool)(f:QZ)(j:Bool)(q:QK)(u:QZ)(v x z:QK):Qj:=[(0,.box [.p e (.slice (.slice (.int .i64))) f,.p j (.slice (.int .u32)) q]),(1,.box [.nils,.nils]),(2,.box [.sl 3,.sl 4]),(3,.arr 41 (.slice (.int .i64)) u),(4,.arr 40 (.int .u32) v),(5,.arr 3 (.int .i64) x),(6,.arr 3 (.int .i64) z)]
abbrev Jk(e:Bool)(f:QZ)(j:Bool)(q:QK)(u:QZ)(v x z A:QK):Qj:=[(0,.box [.p e (.slice (.slice (.int .i64))) f,.p j (.slice (.int .u32)) q]),(1,.box [.nils,.nils]),(2,.box [.sl 3,.sl 4]),(3,.arr 41 (.slice (.int .i64)) u),(4,.arr 40 (.int .u32) v),(5,.arr 3 (.int .i64) x),(6,.arr 3 (.int .i64) z),(7,.arr 3 (.int .i64) A)]
abbrev KG(e:Bool)(f:QZ)(j:Bool)(q u:QK):Qj:=[(0,.box [.p e (.slice (.slice (.int .i64))) f,.p j (.slice (.int .u32)) q]),(1,.box [.nils,.nils]),(2,.box [.nils,.nils]),(3,.arr 3 (.int .i64) u)]
abbrev Ls(e:Bool)(f:QZ)(j:Bool)(q u:QK):Qj:=[(0,.box [.p e (.slice (.slice (.int .i64))) f,.p j (.slice (.int .u32)) q]),(1,.box [.nils,.nils]),(2,.box [.p false (.slice (.int .i64)) u])]
abbrev KU(e:QQ)(f j:Int)(q:QK)(u:XJ)(v x:XZ):Qj:=[(0,.box [.p false (.slice .str) e,.u32 f,.u32 j,.p false (.slice (.int .i64)) q,.p false (.slice (.prod (.int .u8) Y8)) u]),(1,.arr 183 (.tree .u8 .u32) v),(2,.arr 183 (.tree .u8 .u32) x)]
abbrev Bh(e:fb 4352)(f:List (fb 256))(j:List ((fb 256)×Int))(p:fb 256):Qj:=[(0,.lmp .i64 4352 e [.sl 1]),(1,.arr 155 (.arr .u8 256) f),(2,.mpo (.arr .u8 256) (.int .i64) j),(3,.lmp .u8 256 p [])]
abbrev La(e:fb 4352)(f:List (fb 256))(j:List ((fb 256)×Int)):Qj:=[(0,.lmp .i64 4352 e [.sl 1]),(1,.arr 155 (.arr .u8 256) f),(2,.mpo (.arr .u8 256) (.int .i64) j)]
abbrev L7(e:fb 4352)(f:List (fb 256)):Qj:=[(0,.lmp .i64 4352 e [.sl 1]),(1,.arr 155 (.arr .u8 256) f)]
abbrev Ix(e f j p q u:Int):Qj:=[(0,.box [.i32 e,.i64 f,.i64 j]),(1,.box [.i32 p,.i64 q,.i64 u])]
abbrev Is(e f:QK):Qj:=[(0,.box [.nils,.nils]),(1,.box [.sl 2,.sl 3]),(2,.arr 21 (.int .i32) e),(3,.arr 5 (.int .u8) f)]
abbrev Lk(e f:QK)(j p q:Int):Qj:=[(0,.box [.nils,.nils]),(1,.box [.sl 2,.sl 3]),(2,.arr 21 (.int .i32) e),(3,.arr 5 (.int .u8) f),(4,.box [.i32 j,.i64 p,.i64 q])]
abbrev LO(e f:QK):Qj:=[(0,.box [.sl 1,.sl 2]),(1,.arr 21 (.int .i32) e),(2,.arr 5 (.int .u8) f)]
abbrev Et(e f:Int)(j p:List Z8):Qj:=[(0,.box [.nils,.nils]),(1,.box [.i64 e,.i64 f]),(2,.box [.sl 3,.sl 4]),(3,.arr 210 qB j),(4,.arr 210 qB p)]
abbrev Ik(e:List Nd)(f:Bool)(j:QK)(q:Bool)(u:QK):Qj:=[(0,.box [.sl 1]),(1,.nds 222 5 e none),(2,.box [.p f (.slice (.int .i32)) j,.p q (.slice (.int .u8)) u])]
abbrev Ft(e f j:QK):Qj:=[(0,.arr 91 (.int .u8) e),(1,.arr 3 (.int .i64) f),(2,.arr 3 (.int .i64) j)]
abbrev Ln(e:Bool)(f:QZ)(j:Bool)(q u:QK):Qj:=[(0,.box [.p e (.slice (.slice (.int .i64))) f,.p j (.slice (.int .u32)) q]),(1,.arr 3 (.int .i64) u)]
abbrev KJ(e:Bool)(f:QK)(j:List Bool):Qj:=[(0,.box [.p e (.slice (.int .i32)) f]),(1,.arr 4 .bool j)]
abbrev Jr(e:Qv)(f:QK)(j p q:Int):Qj:=[(0,.arr 90 fF e),(1,.arr 3 (.int .i64) f),(2,.box [.i32 j,.i64 p,.i64 q])]
abbrev FD(e:Qv)(f:QK):Qj:=[(0,.box [.nils,.nils]),(1,.box [.p false (.slice fF) e,.sl 2]),(2,.arr 91 (.int .u8) f)]
abbrev KE(e:Bool)(f:Qv)(j:Bool)(q:QK):Qj:=[(0,.box [.p e (.slice fF) f,.p j (.slice (.int .u8)) q])]
abbrev K3(f:Bool)(j:Qv)(q:Bool)(u:QK)(v x z A B:Int)(e:QJ):Qj:=[(0,.box [.p f (.slice fF) j,.p q (.slice (.int .u8)) u]),(1,.box [.i64 v,.i64 x,.u8 z,.i64 A,.i64 B,.p false .flt e])]
abbrev H5(v:Bool)(x:Qv)(z:Bool)(A:QK)(B C D E I:Int)(e:QJ)(f j q u:Int):Qj:=[(0,.box [.p v (.slice fF) x,.p z (.slice (.int .u8)) A]),(1,.box [.i64 B,.i64 C,.u8 D,.i64 E,.i64 I,.p false .flt e]),(2,.box [.i64 f,.i64 j]),(3,.box [.i64 q,.i64 u])]
abbrev JJ(z:Bool)(A:Qv)(B:Bool)(C:QK)(D E I J L:Int)(e:QJ)(f j q u v x:Int):Qj:=[(0,.box [.p z (.slice fF) A,.p B (.slice (.int .u8)) C]),(1,.box [.i64 D,.i64 E,.u8 I,.i64 J,.i64 L,.p false .flt e]),(2,.box [.i64 f,.i64 j]),(3,.box [.i64 q,.i64 u]),(4,.box [.i64 v,.i64 x])]
abbrev Md(e f j p:Int):Qj:=[(0,.box [.i64 e,.i64 f]),(1,.box [.i64 j,.i64 p])]
abbrev IL(j:Bool)(q:Qv)(u:Bool)(v:QK)(x z A B C:Int)(e:QJ)(f:Qq):Qj:=[(0,.box [.p j (.slice fF) q,.p u (.slice (.int .u8)) v]),(1,.box [.i64 x,.i64 z,.u8 A,.i64 B,.i64 C,.p false .flt e]),(2,.arr 298 Y2 f)]
abbrev LV(e:Bool)(f:Qv)(j:Bool)(q u:QK):Qj:=[(0,.box [.p e (.slice fF) f,.p j (.slice (.int .u8)) q]),(1,.arr 3 (.int .i64) u)]
abbrev LD(q:Bool)(u:Qv)(v:Bool)(x:QK)(z A B C D:Int)(e:QJ)(f:Qq)(j:Qv):Qj:=[(0,.box [.p q (.slice fF) u,.p v (.slice (.int .u8)) x]),(1,.box [.i64 z,.i64 A,.u8 B,.i64 C,.i64 D,.p false .flt e]),(2,.arr 298 Y2 f),(3,.arr 197 fF j)]
abbrev AB(v:Bool)(x:Qv)(z:Bool)(A:QK)(B C D E I:Int)(e:QJ)(f j q u:Int):Qj:=[(0,.box [.p v (.slice fF) x,.p z (.slice (.int .u8)) A]),(1,.box [.i64 B,.i64 C,.u8 D,.i64 E,.i64 I,.p false .flt e]),(2,.box [.i64 f,.i64 j,.i64 q,.u8 u])]
abbrev JL(j:Bool)(q:Qv)(u:Bool)(v:QK)(x z A B C:Int)(e:QJ)(f:Qv):Qj:=[(0,.box [.p j (.slice fF) q,.p u (.slice (.int .u8)) v]),(1,.box [.i64 x,.i64 z,.u8 A,.i64 B,.i64 C,.p false .flt e]),(2,.arr 197 fF f)]
abbrev Lm(e:Bool)(f:Qv)(j:Bool)(q:QK)(u:Qv):Qj:=[(0,.box [.p e (.slice fF) f,.p j (.slice (.int .u8)) q]),(1,.arr 93 fF u)]
abbrev IU(e:QK)(f:XK):Qj:=[(0,.arr 21 (.int .i32) e),(1,.arr 115 (.prod (.int .i32) Y1) f)]
abbrev DU(e f j:Int)(q:Bool)(u:QK)(v:List wI):Qj:=[(0,.box [.u8 e,.u8 f,.u8 j,.p q (.slice (.int .u8)) u,.p false (.slice (.prod (.int .u8) Fv)) v])]
abbrev Ji(e f j:Int)(q:Bool)(u:QK)(v:List wI)(x:QQ):Qj:=[(0,.box [.u8 e,.u8 f,.u8 j,.p q (.slice (.int .u8)) u,.p false (.slice (.prod (.int .u8) Fv)) v]),(1,.arr 9 .str x)]
abbrev KN(j q u v x:Int)(z:QJ)(A:Qq)(B C e f:Int):Qj:=[(0,.box [.i64 j,.i64 q,.u8 u,.i64 v,.i64 x,.p false .flt z]),(1,.mpo (.int .i64) (.int .i64) A),(2,.box [.i64 B,.i64 C,.i64 e,.u8 f])]
abbrev KT(e f j q u:Int)(v:QJ)(x:Qq):Qj:=[(0,.box [.i64 e,.i64 f,.u8 j,.i64 q,.i64 u,.p false .flt v]),(1,.mpo (.int .i64) (.int .i64) x)]
abbrev IZ(e f j q u:Int)(v:QJ)(x:Qv)(z:Bool)(A:Qq):Qj:=[(0,.box [.i64 e,.i64 f,.u8 j,.i64 q,.i64 u,.p false .flt v]),(1,.box [.p false (.slice fF) x,.bo z]),(2,.mpo (.int .i64) (.int .i64) A)]
abbrev KD(f j q u v:Int)(x:QJ)(z:Qv)(A:Bool)(B:Qv)(e:QK):Qj:=[(0,.box [.i64 f,.i64 j,.u8 q,.i64 u,.i64 v,.p false .flt x]),(1,.box [.p false (.slice fF) z,.bo A]),(2,.box [.p false (.slice fF) B,.p false (.slice (.int .u8)) e])]
def tb:bQ:=[
 (3,⟨some (.int .i64),(.int .i64),1,8,[.i64 0]⟩),
 (4,⟨some .bool,.bool,1,1,[.bo false]⟩),
 (5,⟨some (.int .u8),(.int .u8),1,1,[.u8 0]⟩),
 (9,⟨some .str,.str,1,16,[.st ([]:QX)]⟩),
 (20,⟨none,.other,1,16,[.lit .nilIface]⟩),
 (21,⟨some (.int .i32),(.int .i32),1,4,[.i32 0]⟩),
 (22,⟨some (.slice (.int .u8)),(.sl 5),1,24,[.nils]⟩),
 (23,⟨some (.slice (.prod (.int .u8) Fv)),(.sl 168),1,24,[.nils]⟩),
 (25,⟨some (.prod (.int .u8) L5),(.st [(0,5),(1,5),(2,5),(3,22),(4,23)]),5,56,[.u8 0,.u8 0,.u8 0,.nils,.nils]⟩),
 (27,⟨some M3,(.st [(0,25),(5,25),(10,22),(11,22),(12,22),(13,22),(14,5),(15,5)]),16,216,[.u8 0,.u8 0,.u8 0,.nils,.nils,.u8 0,.u8 0,.u8 0,.nils,.nils,.nils,.nils,.nils,.nils,.u8 0,.u8 0]⟩),
 (29,⟨some (.ptr zD),.other,1,8,[.nilp]⟩),
 (30,⟨some (.int .i64),(.int .i64),1,8,[.i64 0]⟩),
 (32,⟨some Y2,(.st [(0,30),(1,3)]),2,16,[.i64 0,.i64 0]⟩),
 (35,⟨some (.slice (.prod (.int .i32) Y1)),(.sl 115),1,24,[.nils]⟩),
 (37,⟨some Y7,(.st [(0,35),(1,35),(2,35),(3,35),(4,9),(5,9),(6,9),(7,3),(8,3)]),9,160,[.nils,.nils,.nils,.nils,.st ([]:QX),.st ([]:QX),.st ([]:QX),.i64 0,.i64 0]⟩),
 (39,⟨some (.slice .str),(.sl 9),1,24,[.nils]⟩),
 (40,⟨some (.int .u32),(.int .u32),1,4,[.u32 0]⟩),
 (41,⟨some (.slice (.int .i64)),(.sl 3),1,24,[.nils]⟩),
 (42,⟨some (.slice (.prod (.int .u8) Y8)),(.sl 185),1,24,[.nils]⟩),
 (44,⟨some Ke,(.st [(0,39),(1,40),(2,40),(3,41),(4,42)]),5,80,[.nils,.u32 0,.u32 0,.nils,.nils]⟩),
 (45,⟨some (.slice qB),(.sl 210),1,24,[.nils]⟩),
 (47,⟨some Ig,(.st [(0,45),(1,45)]),2,48,[.nils,.nils]⟩),
 (56,⟨some (.slice fF),(.sl 90),1,24,[.nils]⟩),
 (57,⟨some (.slice (.int .u8)),(.sl 91),1,24,[.nils]⟩),
 (59,⟨some JT,(.st [(0,56),(1,57)]),2,48,[.nils,.nils]⟩),
 (66,⟨some (.int .u16),(.int .u16),1,2,[.p false (.int .u16) (0:Int)]⟩),
 (67,⟨some .flt,.flt,1,8,[.p false .flt (eA 0)]⟩),
 (69,⟨some M7,(.st [(0,5),(1,5),(2,5),(3,66),(4,66),(5,67)]),6,16,[.u8 0,.u8 0,.u8 0,.p false (.int .u16) (0:Int),.p false (.int .u16) (0:Int),.p false .flt (eA 0)]⟩),
 (70,⟨some (.int .u8),(.int .u8),1,1,[.u8 0]⟩),
 (72,⟨some Mg,(.st [(0,3),(1,3),(2,70),(3,3),(4,3),(5,67)]),6,48,[.i64 0,.i64 0,.u8 0,.i64 0,.i64 0,.p false .flt (eA 0)]⟩),
 (75,⟨some (.slice fF),(.sl 93),1,24,[.nils]⟩),
 (77,⟨some KP,(.st [(0,75),(1,4)]),2,32,[.nils,.bo false]⟩),
 (87,⟨none,(.mp 3 3),1,8,[.lit (.map none)]⟩),
 (88,⟨some (.int .u8),(.int .u8),1,1,[.u8 0]⟩),
 (90,⟨some fF,(.st [(0,3),(1,3),(2,3),(3,88)]),4,32,[.i64 0,.i64 0,.i64 0,.u8 0]⟩),
 (91,⟨some (.int .u8),(.int .u8),1,1,[.u8 0]⟩),
 (93,⟨some fF,(.st [(0,3),(1,3),(2,3),(3,91)]),4,32,[.i64 0,.i64 0,.i64 0,.u8 0]⟩),
 (98,⟨some (.ptr mR),.other,1,8,[.nilp]⟩),
 (99,⟨some (.ptr vp),.other,1,8,[.nilp]⟩),
 (100,⟨some (.ptr mY),.other,1,8,[.nilp]⟩),
 (102,⟨some zD,(.st [(0,98),(1,98),(2,99),(3,99),(4,99),(5,100)]),6,48,[.nilp,.nilp,.nilp,.nilp,.nilp,.nilp]⟩),
 (105,⟨none,.other,1,8,[.nilp]⟩),
 (107,⟨none,(.st [(0,105),(1,35),(2,3)]),3,40,[.nilp,.nils,.i64 0]⟩),
 (108,⟨none,(.sl 107),1,24,[.nils]⟩),
 (115,⟨some (.prod (.int .i32) Y1),(.st [(0,21),(1,21),(2,3)]),3,16,[.i32 0,.i32 0,.i64 0]⟩),
 (124,⟨some (.slice (.prod (.int .i32) Y2)),(.sl 174),1,24,[.nils]⟩),
 (129,⟨some (.slice .bool),(.sl 4),1,24,[.nils]⟩),
 (134,⟨some (.slice fF),(.sl 197),1,24,[.nils]⟩),
 (142,⟨some (.slice (.slice (.int .i64))),(.sl 41),1,24,[.nils]⟩),
 (143,⟨some (.slice (.int .u32)),(.sl 40),1,24,[.nils]⟩),
 (145,⟨some BS,(.st [(0,142),(1,143)]),2,48,[.nils,.nils]⟩),
 (147,⟨some mR,(.st [(0,44),(5,145),(7,145)]),9,176,[.nils,.u32 0,.u32 0,.nils,.nils,.nils,.nils,.nils,.nils]⟩),
 (148,⟨some (.slice (.arr .u8 256)),(.sl 155),1,24,[.nils]⟩),
 (149,⟨some (.arr .i64 4352),(.ar 4352 3),4352,34816,(List.replicate 4352 (.i64 0))⟩),
 (151,⟨some vp,(.st [(0,149),(4352,148)]),4353,34840,(List.replicate 4352 (.i64 0)++[.nils])⟩),
 (152,⟨none,(.mp 155 3),1,8,[.lit (.map none)]⟩),
 (153,⟨some (.int .u64),(.int .u64),1,8,[.u64 0]⟩),
 (155,⟨some (.arr .u8 256),(.ar 256 5),256,256,(List.replicate 256 (.u8 0))⟩),
 (160,⟨some (.ptr sR),.other,1,8,[.nilp]⟩),
 (163,⟨some mY,(.st [(0,35),(1,160),(2,45),(3,3),(4,3)]),5,72,[.nils,.nilp,.nils,.i64 0,.i64 0]⟩),
 (164,⟨some (.slice (.int .i32)),(.sl 21),1,24,[.nils]⟩),
 (168,⟨some (.prod (.int .u8) Fv),(.st [(0,5),(1,22),(2,22)]),3,56,[.u8 0,.nils,.nils]⟩),
 (174,⟨some (.prod (.int .i32) Y2),(.st [(0,21),(1,3),(2,3)]),3,24,[.i32 0,.i64 0,.i64 0]⟩),
 (180,⟨some (.int .u8),(.int .u8),1,1,[.u8 0]⟩),
 (181,⟨some (.slice (.tree .u8 .u32)),(.sl 183),1,24,[.nils]⟩),
 (183,⟨some (.tree .u8 .u32),(.st [(0,180),(1,40),(2,181)]),3,32,[.u8 0,.u32 0,.nils]⟩),
 (185,⟨some (.prod (.int .u8) Y8),(.st [(0,91),(1,183),(4,183)]),7,72,[.u8 0,.u8 0,.u32 0,.nils,.u8 0,.u32 0,.nils]⟩),
 (197,⟨some fF,(.st [(0,3),(1,3),(2,3),(3,91)]),4,32,[.i64 0,.i64 0,.i64 0,.u8 0]⟩),
 (198,⟨none,.other,1,8,[.nilp]⟩),
 (199,⟨none,(.mp 9 40),1,8,[.lit (.map none)]⟩),
 (201,⟨none,(.st [(0,9),(1,3),(2,44),(7,199),(8,3),(9,3)]),10,128,[.st ([]:QX),.i64 0,.nils,.u32 0,.u32 0,.nils,.nils,.lit (.map none),.i64 0,.i64 0]⟩),
 (210,⟨some qB,(.st [(0,164),(1,22)]),2,48,[.nils,.nils]⟩),
 (216,⟨none,.other,1,8,[.lit .nilFunc]⟩),
 (217,⟨some (.slice LG),(.sl 222),1,24,[.nils]⟩),
 (219,⟨some sR,(.st [(0,217)]),1,24,[.nils]⟩),
 (220,⟨some (.mapi .i32 .i64),(.mp 21 3),1,8,[.lit (.map none)]⟩),
 (222,⟨some LG,(.st [(0,220),(1,22)]),2,32,[.lit (.map none),.nils]⟩),
 (225,⟨none,.other,1,8,[.nilp]⟩),
 (227,⟨some M0,(.st [(0,22),(1,3)]),2,32,[.nils,.i64 0]⟩),
 (241,⟨none,.other,1,8,[.lit .nilFunc]⟩),
 (249,⟨none,.other,1,8,[.lit .nilFunc]⟩),
 (250,⟨none,(.mp 9 249),1,8,[.lit (.map none)]⟩),
 (251,⟨none,(.mp 9 91),1,8,[.lit (.map none)]⟩),
 (257,⟨none,.other,1,8,[.nilp]⟩),
 (258,⟨some (.slice lW),(.sl 264),1,24,[.nils]⟩),
 (260,⟨some MO,(.st [(0,143),(1,258),(2,4)]),3,56,[.nils,.nils,.bo false]⟩),
 (261,⟨some (.slice AG),(.sl 266),1,24,[.nils]⟩),
 (262,⟨some (.int .u64),(.int .u64),1,8,[.u64 0]⟩),
 (264,⟨some lW,(.ar 4 262),4,32,[.u64 0,.u64 0,.u64 0,.u64 0]⟩),
 (266,⟨some AG,(.st [(0,4),(1,264),(5,264)]),9,72,[.bo false,.u64 0,.u64 0,.u64 0,.u64 0,.u64 0,.u64 0,.u64 0,.u64 0]⟩),
 (269,⟨none,(.mp 264 3),1,8,[.lit (.map none)]⟩),
 (274,⟨none,.other,1,8,[.lit .nilFunc]⟩),
 (278,⟨none,.other,1,8,[.lit .nilFunc]⟩),
 (296,⟨some (.slice Y2),(.sl 298),1,24,[.nils]⟩),
 (298,⟨some Y2,(.st [(0,3),(1,3)]),2,16,[.i64 0,.i64 0]⟩),
 (310,⟨none,(.mp 9 3),1,8,[.lit (.map none)]⟩),
 (330,⟨some (.prod (.int .u8) MP),(.ar 7 5),7,7,[.u8 0,.u8 0,.u8 0,.u8 0,.u8 0,.u8 0,.u8 0]⟩)]
theorem iY:cb Tryz.prog tb:=JG (by kernel_rfl) (by kernel_rfl) (by kernel_rfl)
theorem Js:Kk Tryz.prog 93 fF:=II 8 (by decide) (by kernel_rfl) ⟨by kernel_rfl,rfl⟩
theorem C9:hN Tryz.prog 155 (.arr .u8 256):=hN.Df (e:=5) rfl rfl rfl (by kernel_rfl) rfl rfl rfl
theorem zt:hN Tryz.prog 264 lW:=hN.Df (e:=262) rfl rfl rfl (by kernel_rfl) rfl rfl rfl
theorem mixed:Tryz.prog.follows .mixedOrders=true:=by kernel_rfl
theorem PB{fid:FuncId}{fn:Func}{c:Code}(u:Tryz.prog.funcs[fid]? = some fn){args:List af}{f:List (Σ T:Ty,T.den)}(h:∀Bw w0,W Tryz.prog fn.ntmps Bw w0 c (nz args) (Ku tb fn.results.toList f))(j:(fn.name == "runtime.NumGoroutine")=false:=by kernel_rfl)(hb:fn.body=some c:=by exact rfl)(p:Nat.ble args.length fn.ntmps=true:=by exact rfl)(q:nO args=true:=by exact rfl):Pure Tryz.prog fid args (aL (bh false f)):=Pure.jB iY u j hb (nl p) h q
theorem OB{fid:FuncId}{fn:Func}{c:Code}(j:Tryz.prog.funcs[fid]? = some fn){args:List af}{hin hout:Qj}{r:af}(h:∀Bw w0,W Tryz.prog fn.ntmps Bw w0 c (rT args hin) (wV tb fn.ntmps fn.results.toList r hout))(e:(fn.name == "runtime.NumGoroutine")=false:=by kernel_rfl)(hb:fn.body=some c:=by exact rfl)(f:Nat.ble args.length fn.ntmps=true:=by exact rfl):jo Tryz.prog fid args hin r hout:=jo.jB iY j e hb (nl f) h
theorem DB{fid:FuncId}{fn:Func}{c:Code}(p:Tryz.prog.funcs[fid]? = some fn){args:List af}{hin:Qj}{f:(af×Qj)⊕Value}(h:∀Bw w0,W Tryz.prog fn.ntmps Bw w0 c (rT args hin) (KI tb fn.ntmps fn.results.toList f))(e:(fn.name == "runtime.NumGoroutine")=false:=by kernel_rfl)(hb:fn.body=some c:=by exact rfl)(j:Nat.ble args.length fn.ntmps=true:=by exact rfl):iN Tryz.prog fid args hin f:=iN.jB iY p e hb (nl j) h
theorem RO{n:NS}{σ:St}{j:List ResultVar}{r:af}{hout:Qj}(Ts:List (Option Ty))(q:List Tv.G)(f:QV)(l:List (Nat×af))(m:Qj)(nx pn:Nat)(u:goal q f l m σ=some (want f l m):=by kernel_rfl)(e:(σ.pn == pn && kB (Gw f) l m nx pn)=true:=by kernel_rfl)(v:HS tb j Ts hout (aA l m nx pn)=some (r,hout.map (fun p=>some p.2)):=by kernel_rfl):wV tb n j r hout .ret σ:=CV Ts q f l m nx pn u e v
theorem RI{σ:St}{j:List ResultVar}{f:List (Σ T:Ty,T.den)}(Ts:List Ty)(h:(match sU tb σ.s σ.h j with | some xs=>mi σ.h xs Ts | none=>none)=some f:=by kernel_rfl):Ku tb j f .ret σ:=Fk Ts h
section
variable{n:NS}{Bw:Nat→Prop}{w0:cz Tryz.prog}{σ:St}{Q:Exit→St→Prop}{id:Nat}{ops:Array Oper}{d:Code}{fid:FuncId}{args:List af}{hin hout:Qj}{r:af}{y:Value}
theorem Ge(e:∀σ',Le n σ' (iE Tryz.prog tb a0 n ops σ)→Q .normal σ')(h:iD Tryz.prog tb a0 n ops σ=some (cP ops.size 0 []):=by kernel_rfl):W Tryz.prog n Bw w0 (.region id ops false) σ Q:=Gg iY a0 [] h e
theorem bC(an:An)(e:List (Nat×Nat×PP))(f:∀σ',Le n σ' (iE Tryz.prog tb an n ops σ)→Q .normal σ')(h:iD Tryz.prog tb an n ops σ=some (cP ops.size 0 e):=by kernel_rfl):W Tryz.prog n Bw w0 (.region id ops false) σ Q:=Gg iY an e h f
theorem nT(an:An)(e:List (Nat×Nat×PP))(f:∀σ',Le n σ' (Ac Tryz.prog tb an n ops σ)→Q .normal σ')(h:A5 Tryz.prog tb an n ops σ=some (cP ops.size 0 e):=by kernel_rfl):W Tryz.prog n Bw w0 (.region id ops true) σ Q:=KV iY mixed an e h f
theorem zC(i:Nat){α:Type}{p:Prop}[Decidable p]{u:Option α}{v:α}(h:(if p then u else none)=some v)(e:u=some v→∀σ',Le n σ' (iE Tryz.prog tb a0 n ops σ)→Q .normal σ')(hk:iD Tryz.prog tb a0 n ops σ=some (cG ops.size i p):=by kernel_rfl):W Tryz.prog n Bw w0 (.region id ops false) σ Q:=Ja iY i h hk e
theorem LB(i:Nat)(u:Pure Tryz.prog fid args r)(e:∀σ',Le n σ' (iE Tryz.prog tb ⟨[],[(i,oP u)]⟩ n ops σ)→Q .normal σ')(h:iD Tryz.prog tb ⟨[],[(i,oP u)]⟩ n ops σ=some (cP ops.size 0 [(i,i,oc u)]):=by kernel_rfl):W Tryz.prog n Bw w0 (.region id ops false) σ Q:=K9 iY i u h e
theorem mr(i:Nat)(g:QV)(u:jo Tryz.prog fid args hin r hout)(e:∀σ',Le n σ' (iE Tryz.prog tb ⟨[],[(i,oO u g)]⟩ n ops σ)→Q .normal σ')(h:iD Tryz.prog tb ⟨[],[(i,oO u g)]⟩ n ops σ=some (cP ops.size 0 [(i,i,oc u)]):=by kernel_rfl):W Tryz.prog n Bw w0 (.region id ops false) σ Q:=Lo iY i g u h e
theorem G(f:W Tryz.prog n Bw w0 d (iE Tryz.prog tb a0 n ops σ) Q)(h:iD Tryz.prog tb a0 n ops σ=some (cP ops.size 0 []):=by kernel_rfl):W Tryz.prog n Bw w0 (.seq (.region id ops false) d) σ Q:=Lx iY a0 [] h f
theorem GN(an:An)(e:List (Nat×Nat×PP))(f:W Tryz.prog n Bw w0 d (iE Tryz.prog tb an n ops σ) Q)(h:iD Tryz.prog tb an n ops σ=some (cP ops.size 0 e):=by kernel_rfl):W Tryz.prog n Bw w0 (.seq (.region id ops false) d) σ Q:=Lx iY an e h f
theorem GD(an:An)(e:List (Nat×Nat×PP))(f:W Tryz.prog n Bw w0 d (Ac Tryz.prog tb an n ops σ) Q)(h:A5 Tryz.prog tb an n ops σ=some (cP ops.size 0 e):=by kernel_rfl):W Tryz.prog n Bw w0 (.seq (.region id ops true) d) σ Q:=MY iY mixed an e h f
theorem GC(i:Nat){α:Type}{p:Prop}[Decidable p]{u:Option α}{v:α}(h:(if p then u else none)=some v)(f:u=some v→W Tryz.prog n Bw w0 d (iE Tryz.prog tb a0 n ops σ) Q)(hk:iD Tryz.prog tb a0 n ops σ=some (cG ops.size i p):=by kernel_rfl):W Tryz.prog n Bw w0 (.seq (.region id ops false) d) σ Q:=L2 iY i h hk f
theorem GP(i:Nat)(u:Pure Tryz.prog fid args r)(e:W Tryz.prog n Bw w0 d (iE Tryz.prog tb ⟨[],[(i,oP u)]⟩ n ops σ) Q)(h:iD Tryz.prog tb ⟨[],[(i,oP u)]⟩ n ops σ=some (cP ops.size 0 [(i,i,oc u)]):=by kernel_rfl):W Tryz.prog n Bw w0 (.seq (.region id ops false) d) σ Q:=LS iY i u h e
theorem GO(i:Nat)(g:QV)(u:jo Tryz.prog fid args hin r hout)(e:W Tryz.prog n Bw w0 d (iE Tryz.prog tb ⟨[],[(i,oO u g)]⟩ n ops σ) Q)(h:iD Tryz.prog tb ⟨[],[(i,oO u g)]⟩ n ops σ=some (cP ops.size 0 [(i,i,oc u)]):=by kernel_rfl):W Tryz.prog n Bw w0 (.seq (.region id ops false) d) σ Q:=LZ iY i g u h e
theorem GX(i:Nat)(g:QV)(u:jD Tryz.prog fid args hin y)(e:∀σ',Q (.panic [{ v:=y,recovered:=false }]) σ')(h:Ag Tryz.prog tb ⟨[],[(i,oD u g)]⟩ n ops i σ=some (cP (i+1) 0 [(i,i,oc u)],y):=by kernel_rfl):W Tryz.prog n Bw w0 (.region id ops false) σ Q:=L6 iY i g u h e
theorem M6(u:jD Tryz.prog fid args hin y)(an:An)(i:Nat)(e:List (Nat×Nat×PP))(f:∀σ',Q (.panic [{ v:=y,recovered:=false }]) σ')(h:Ag Tryz.prog tb an n ops i σ=some (cP (i+1) 0 e,y):=by kernel_rfl):W Tryz.prog n Bw w0 (.region id ops false) σ Q:=MB iY u an i e h f
end
end
end Go.Proofs.YtflahpmlcfhpcaaGreatDoor.T
