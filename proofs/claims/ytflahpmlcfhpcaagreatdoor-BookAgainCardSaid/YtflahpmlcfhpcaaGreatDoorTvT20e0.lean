import Derived.Test.YtflahpmlcfhpcaaGreatDoorTvSt
import Derived.Test.YtflahpmlcfhpcaaGreatDoorProg
import Derived.KernelRfl
namespace Go.Proofs.YtflahpmlcfhpcaaGreatDoor.T
open Go Go.Tv Go.Proofs
noncomputable section
set_option maxRecDepth 100000
set_option maxHeartbeats 4000000
abbrev Z6:Type:=Int×Tree×Tree
abbrev XJ:=List Z6
abbrev IV:Type:=QQ×Int×Int×QK×XJ
abbrev DI:Type:=QZ×QK
abbrev Z5:Type:=IV×DI×QZ×QK
abbrev y4:Type:=(fh 4352)×List (fh 256)
abbrev Z7:Type:=Int×Int×Int
abbrev XK:=List Z7
abbrev FE:Type:=(List (Qq×QK))×Unit
abbrev Z8:Type:=QK×QK
abbrev Z3:Type:=XK×(Option FE)×(List Z8)×Int×Int
abbrev Z1:Type:=(Option Z5)×(Option Z5)×(Option y4)×(Option y4)×(Option y4)×Option Z3
abbrev Z2:Type:=Int×Int×Int×Int
abbrev Qj:=List Z2
abbrev Z4:Type:=QX×Int
abbrev XQ:=List Z4
abbrev Z9:Type:=Bool×Z2×Int×Int×Int×Int
abbrev oa:Type:=Tree×Int×Int×Int
abbrev Jg:Type:=Int×QQ×Int×Int×QK×XJ×XQ×Int×Int
abbrev uC:Type:=Int×QK×QK
abbrev tW:Type:=QK×Int
abbrev Y1:Ty:=(.prod (.int .i32) (.int .i64))
abbrev Y2:Ty:=(.prod (.int .i64) (.int .i64))
abbrev Y3:Ty:=(.prod .str (.prod .str Y2))
abbrev Y4:Ty:=(.prod (.slice (.prod (.int .i32) Y1)) (.prod .str Y3))
abbrev Y5:Ty:=(.prod (.slice (.prod (.int .i32) Y1)) Y4)
abbrev Y6:Ty:=(.prod (.slice (.prod (.int .i32) Y1)) Y5)
abbrev Y7:Ty:=(.prod (.slice (.prod (.int .i32) Y1)) Y6)
abbrev Y8:Ty:=(.prod (.tree .u8 .u32) (.tree .u8 .u32))
abbrev Y9:Ty:=(.prod (.slice (.int .i64)) (.slice (.prod (.int .u8) Y8)))
abbrev MT:Ty:=(.prod (.int .u32) (.prod (.int .u32) Y9))
abbrev JC:Ty:=(.prod (.slice .str) MT)
abbrev BJ:Ty:=(.prod (.slice (.slice (.int .i64))) (.slice (.int .u32)))
abbrev mF:Ty:=(.prod JC (.prod BJ BJ))
abbrev Mx:Ty:=(.prod (.int .u64) (.int .u64))
abbrev lW:Ty:=(.prod (.int .u64) (.prod (.int .u64) Mx))
abbrev BH:Ty:=(.prod .bool (.prod lW lW))
abbrev vV:Ty:=(.prod (.arr .i64 4352) (.slice (.arr .u8 256)))
abbrev LJ:Ty:=(.prod (.mapi .i32 .i64) (.slice (.int .u8)))
abbrev so:Ty:=(.prod (.slice LJ) .unit)
abbrev qx:Ty:=(.prod (.slice (.int .i32)) (.slice (.int .u8)))
abbrev MW:Ty:=(.prod (.ptr so) (.prod (.slice qx) Y2))
abbrev nh:Ty:=(.prod (.slice (.prod (.int .i32) Y1)) MW)
abbrev MA:Ty:=(.prod (.ptr vV) (.ptr nh))
abbrev MC:Ty:=(.prod (.ptr vV) (.prod (.ptr vV) MA))
abbrev tf:Ty:=(.prod (.ptr mF) (.prod (.ptr mF) MC))
abbrev Iw:Ty:=(.prod (.slice qx) (.slice qx))
abbrev Mv:Ty:=(.prod (.int .i64) (.int .u8))
abbrev db:Ty:=(.prod (.int .i64) (.prod (.int .i64) Mv))
abbrev EJ:Ty:=(.prod (.slice (.int .u8)) (.slice (.int .u8)))
abbrev Ms:Ty:=(.prod (.int .i64) .flt)
abbrev MZ:Ty:=(.prod (.int .u8) (.prod (.int .i64) Ms))
abbrev LY:Ty:=(.prod (.int .i64) (.prod (.int .i64) MZ))
abbrev MI:Ty:=(.prod (.slice (.int .u8)) (.slice (.prod (.int .u8) EJ)))
abbrev L4:Ty:=(.prod (.int .u8) (.prod (.int .u8) MI))
abbrev Mg:Ty:=(.prod (.int .u8) (.int .u8))
abbrev M0:Ty:=(.prod (.slice (.int .u8)) Mg)
abbrev MK:Ty:=(.prod (.slice (.int .u8)) M0)
abbrev MM:Ty:=(.prod (.slice (.int .u8)) MK)
abbrev Mt:Ty:=(.prod (.slice (.int .u8)) MM)
abbrev MN:Ty:=(.prod (.prod (.int .u8) L4) Mt)
abbrev My:Ty:=(.prod (.prod (.int .u8) L4) MN)
abbrev MY:Ty:=(.prod (.slice db) (.slice (.int .u8)))
abbrev MR:Ty:=(.prod (.int .u16) .flt)
abbrev ME:Ty:=(.prod (.int .u8) (.prod (.int .u16) MR))
abbrev Mz:Ty:=(.prod (.int .u8) (.prod (.int .u8) ME))
abbrev MF:Ty:=(.prod (.slice db) .bool)
abbrev MB:Ty:=(.prod (.slice (.int .u8)) (.int .i64))
abbrev MX:Ty:=(.prod (.slice lW) .bool)
abbrev Mu:Ty:=(.prod (.slice (.int .u32)) MX)
abbrev MJ:Ty:=(.prod (.int .u8) (.prod (.int .u8) Mg))
abbrev Mw:Ty:=(.prod (.int .u8) (.prod (.int .u8) MJ))
abbrev MG(j p q u:Int)(v:QX)(x z A B e:Int)(f:XQ):Qv:=[(0,.box [.nils,.u32 j,.u32 p,.nils,.nils]),(1,.box [.i64 q,.i64 u]),(2,.box [.st v,.i64 x,.nils,.u32 z,.u32 A,.nils,.nils,.mp 3,.i64 B,.i64 e]),(3,.mpo .str (.int .u32) f)]
abbrev Lq(e:QX)(f j p q u:Int)(v:XQ):Qv:=[(0,.box [.st e,.i64 f,.nils,.u32 j,.u32 p,.nils,.nils,.mp 1,.i64 q,.i64 u]),(1,.mpo .str (.int .u32) v)]
abbrev JQ(e f j p:Int):Qv:=[(0,.box [.nils,.u32 e,.u32 f,.nils,.nils]),(1,.box [.i64 j,.i64 p])]
abbrev bO(f:QX)(j p q u v:Int)(x:QQ)(z:QK)(A:XJ)(e:XQ):Qv:=[(0,.box [.st f,.i64 j,.sl 1,.u32 p,.u32 q,.sl 2,.sl 3,.mp 4,.i64 u,.i64 v]),(1,.arr 9 .str x),(2,.arr 3 (.int .i64) z),(3,.arr 185 (.prod (.int .u8) Y8) A),(4,.mpo .str (.int .u32) e)]
abbrev Im(f:QX)(j p q u v:Int)(x:XJ)(z:XQ)(A:QQ)(e:QK):Qv:=[(0,.box [.st f,.i64 j,.sl 5,.u32 p,.u32 q,.sl 6,.sl 3,.mp 4,.i64 u,.i64 v]),(3,.arr 185 (.prod (.int .u8) Y8) x),(4,.mpo .str (.int .u32) z),(5,.arr 9 .str A),(6,.arr 3 (.int .i64) e)]
abbrev LK(u:QX)(v x z A B:Int)(C:QQ)(D:QK)(E:XJ)(e:XQ)(f j p q:Int):Qv:=[(0,.box [.st u,.i64 v,.sl 1,.u32 x,.u32 z,.sl 2,.sl 3,.mp 4,.i64 A,.i64 B]),(1,.arr 9 .str C),(2,.arr 3 (.int .i64) D),(3,.arr 185 (.prod (.int .u8) Y8) E),(4,.mpo .str (.int .u32) e),(5,.box [.u8 f,.u32 j,.nils]),(6,.box [.u8 p,.u32 q,.nils])]
abbrev KV(p:QX)(q u v x z:Int)(A:QQ)(B:QK)(C:XJ)(e:XQ)(f j:Int):Qv:=[(0,.box [.st p,.i64 q,.sl 1,.u32 u,.u32 v,.sl 2,.sl 3,.mp 4,.i64 x,.i64 z]),(1,.arr 9 .str A),(2,.arr 3 (.int .i64) B),(3,.arr 185 (.prod (.int .u8) Y8) C),(4,.mpo .str (.int .u32) e),(5,.box [.u8 f,.u32 j,.nils])]
abbrev J9(x:QX)(z A B C D:Int)(E:QQ)(I:QK)(J:XJ)(e:XQ)(f j q u:Int)(v:XX):Qv:=[(0,.box [.st x,.i64 z,.sl 1,.u32 A,.u32 B,.sl 2,.sl 3,.mp 4,.i64 C,.i64 D]),(1,.arr 9 .str E),(2,.arr 3 (.int .i64) I),(3,.arr 185 (.prod (.int .u8) Y8) J),(4,.mpo .str (.int .u32) e),(5,.box [.u8 f,.u32 j,.nils]),(6,.box [.u8 q,.u32 u,.p false (.slice (.tree .u8 .u32)) v])]
abbrev BN(u:QX)(v x z A B:Int)(C:QQ)(D:QK)(E:XJ)(e:XQ)(f j:Int)(q:XX):Qv:=[(0,.box [.st u,.i64 v,.sl 1,.u32 x,.u32 z,.sl 2,.sl 3,.mp 4,.i64 A,.i64 B]),(1,.arr 9 .str C),(2,.arr 3 (.int .i64) D),(3,.arr 185 (.prod (.int .u8) Y8) E),(4,.mpo .str (.int .u32) e),(5,.box [.u8 f,.u32 j,.p false (.slice (.tree .u8 .u32)) q])]
abbrev FU(q:QX)(u v x z A:Int)(B:QQ)(C:QK)(D:XJ)(e:XQ)(f j:Int)(p:XX):Qv:=[(0,.box [.st q,.i64 u,.sl 1,.u32 v,.u32 x,.sl 2,.sl 3,.mp 4,.i64 z,.i64 A]),(1,.arr 9 .str B),(2,.arr 3 (.int .i64) C),(3,.arr 185 (.prod (.int .u8) Y8) D),(4,.mpo .str (.int .u32) e),(5,.box [.u8 f,.u32 j,.nils]),(6,.arr 183 (.tree .u8 .u32) p)]
abbrev K9(f:QX)(j p q u v:Int)(x:QQ)(z:QK)(A:XQ)(e:XJ):Qv:=[(0,.box [.st f,.i64 j,.sl 1,.u32 p,.u32 q,.sl 2,.sl 5,.mp 4,.i64 u,.i64 v]),(1,.arr 9 .str x),(2,.arr 3 (.int .i64) z),(4,.mpo .str (.int .u32) A),(5,.arr 185 (.prod (.int .u8) Y8) e)]
abbrev LC(j:QX)(p q u v x:Int)(z:XQ)(A:QQ)(B:QK)(e:XJ)(f:XQ):Qv:=[(0,.box [.st j,.i64 p,.sl 2,.u32 q,.u32 u,.sl 3,.sl 4,.mp 1,.i64 v,.i64 x]),(1,.mpo .str (.int .u32) z),(2,.arr 9 .str A),(3,.arr 3 (.int .i64) B),(4,.arr 185 (.prod (.int .u8) Y8) e),(5,.mpl .str [(([99,108,97,115,115]:QX),(yk 119)),(([115,101,116]:QX),(yk 120)),(([106,111,105,110]:QX),(yk 121)),(([116,114,101,97,116]:QX),(yk 122))]),(6,.mpo .str (.int .u8) f)]
abbrev JU(f:QX)(j p q u v:Int)(x:XQ)(z:QQ)(A:QK)(e:XJ):Qv:=[(0,.box [.st f,.i64 j,.sl 2,.u32 p,.u32 q,.sl 3,.sl 4,.mp 1,.i64 u,.i64 v]),(1,.mpo .str (.int .u32) x),(2,.arr 9 .str z),(3,.arr 3 (.int .i64) A),(4,.arr 185 (.prod (.int .u8) Y8) e)]
abbrev L3(u v:Int)(x:Bool)(z:XX)(A B C D:Int)(E:XX)(e f:Int)(j:Bool)(q:XX):Qv:=[(0,.box [.u8 u,.u32 v,.p x (.slice (.tree .u8 .u32)) z]),(1,.box [.u8 A,.u32 B,.nils]),(2,.box [.u8 C,.u32 D,.sl 3]),(3,.arr 183 (.tree .u8 .u32) E),(4,.box [.u8 e,.u32 f,.p j (.slice (.tree .u8 .u32)) q])]
abbrev LN(e f:Int)(j:Bool)(q:XX)(u v x z:Int)(A:XX):Qv:=[(0,.box [.u8 e,.u32 f,.p j (.slice (.tree .u8 .u32)) q]),(1,.box [.u8 u,.u32 v,.nils]),(2,.box [.u8 x,.u32 z,.sl 3]),(3,.arr 183 (.tree .u8 .u32) A)]
abbrev LB(e f j p:Int)(q:XX):Qv:=[(0,.box [.u8 e,.u32 f,.nils]),(1,.box [.u8 j,.u32 p,.sl 2]),(2,.arr 183 (.tree .u8 .u32) q)]
abbrev Je(e:Bool)(f j p q u v x z:Int):Qv:=[(0,.box [.bo e,.u64 f,.u64 j,.u64 p,.u64 q,.u64 u,.u64 v,.u64 x,.u64 z])]
abbrev K7(e f j p q u v x:Int):Qv:=[(0,.box [.u64 e,.u64 f,.u64 j,.u64 p]),(1,.box [.u64 q,.u64 u,.u64 v,.u64 x])]
abbrev BM(e:Bool)(f:QK)(j:Qj):Qv:=[(0,.box [.sl 1,.sl 2,.bo e]),(1,.arr 40 (.int .u32) f),(2,.arr 264 lW j)]
abbrev LL(p q u v x z A B C e f j:Int):Qv:=[(0,.box [.u64 p,.u64 q,.u64 u,.u64 v]),(1,.box [.u64 x,.u64 z,.u64 A,.u64 B]),(2,.box [.u64 C,.u64 e,.u64 f,.u64 j])]
abbrev Kj(j:Bool)(p:QK)(q:Qj)(u v x z A B e f:Int):Qv:=[(0,.box [.sl 1,.sl 2,.bo j]),(1,.arr 40 (.int .u32) p),(2,.arr 264 lW q),(3,.box [.u64 u,.u64 v,.u64 x,.u64 z]),(4,.box [.u64 A,.u64 B,.u64 e,.u64 f])]
abbrev Mc(z:Bool)(A:QK)(B:Qj)(C D:Int)(E:Bool)(I:XX)(J:Bool)(L e f j q u v x:Int):Qv:=[(0,.box [.sl 1,.sl 2,.bo z]),(1,.arr 40 (.int .u32) A),(2,.arr 264 lW B),(3,.box [.u8 C,.u32 D,.p E (.slice (.tree .u8 .u32)) I]),(4,.box [.bo J,.u64 L,.u64 e,.u64 f,.u64 j,.u64 q,.u64 u,.u64 v,.u64 x])]
abbrev JA(e:Bool)(f:QK)(j:Qj):Qv:=[(0,.box [.sl 3,.sl 4,.bo e]),(3,.arr 40 (.int .u32) f),(4,.arr 264 lW j)]
abbrev Lf(X:Bool)(Y:QK)(Z:Qj)(a4:Bool)(a5 a6 a7 a8 a9 e f j:Int)(p:Bool)(q u v x z A B C:Int)(D:Bool)(E I J L M N O V:Int):Qv:=[(0,.box [.sl 3,.sl 4,.bo X]),(3,.arr 40 (.int .u32) Y),(4,.arr 264 lW Z),(5,.box [.bo a4,.u64 a5,.u64 a6,.u64 a7,.u64 a8,.u64 a9,.u64 e,.u64 f,.u64 j]),(6,.box [.bo p,.u64 q,.u64 u,.u64 v,.u64 x,.u64 z,.u64 A,.u64 B,.u64 C]),(7,.box [.bo D,.u64 E,.u64 I,.u64 J,.u64 L,.u64 M,.u64 N,.u64 O,.u64 V])]
abbrev Il(D:Bool)(E:QK)(I:Qj)(J:Bool)(L M N O V e f j:Int)(p:Bool)(q u v x z A B C:Int):Qv:=[(0,.box [.sl 3,.sl 4,.bo D]),(3,.arr 40 (.int .u32) E),(4,.arr 264 lW I),(5,.box [.bo J,.u64 L,.u64 M,.u64 N,.u64 O,.u64 V,.u64 e,.u64 f,.u64 j]),(6,.box [.bo p,.u64 q,.u64 u,.u64 v,.u64 x,.u64 z,.u64 A,.u64 B,.u64 C])]
abbrev JN(D E:Bool)(I J L M N O V e:Int)(f:Bool)(j p q u v x z A:Int)(B:QK)(C:Qj):Qv:=[(0,.box [.sl 5,.sl 6,.bo D]),(3,.box [.bo E,.u64 I,.u64 J,.u64 L,.u64 M,.u64 N,.u64 O,.u64 V,.u64 e]),(4,.box [.bo f,.u64 j,.u64 p,.u64 q,.u64 u,.u64 v,.u64 x,.u64 z,.u64 A]),(5,.arr 40 (.int .u32) B),(6,.arr 264 lW C)]
abbrev LZ(M:Bool)(N O:Int)(V:Bool)(X:XX)(Y:Bool)(Z a8 a9 e f j q u:Int)(v:Bool)(x z A B C D E I:Int)(J:QK)(L:Qj):Qv:=[(0,.box [.sl 6,.sl 7,.bo M]),(3,.box [.u8 N,.u32 O,.p V (.slice (.tree .u8 .u32)) X]),(4,.box [.bo Y,.u64 Z,.u64 a8,.u64 a9,.u64 e,.u64 f,.u64 j,.u64 q,.u64 u]),(5,.box [.bo v,.u64 x,.u64 z,.u64 A,.u64 B,.u64 C,.u64 D,.u64 E,.u64 I]),(6,.arr 40 (.int .u32) J),(7,.arr 264 lW L)]
abbrev LG(M:Bool)(N:QK)(O:Qj)(V X:Int)(Y:Bool)(Z:XX)(a8:Bool)(a9 e f j q u v x:Int)(z:Bool)(A B C D E I J L:Int):Qv:=[(0,.box [.sl 3,.sl 4,.bo M]),(3,.arr 40 (.int .u32) N),(4,.arr 264 lW O),(5,.box [.u8 V,.u32 X,.p Y (.slice (.tree .u8 .u32)) Z]),(6,.box [.bo a8,.u64 a9,.u64 e,.u64 f,.u64 j,.u64 q,.u64 u,.u64 v,.u64 x]),(7,.box [.bo z,.u64 A,.u64 B,.u64 C,.u64 D,.u64 E,.u64 I,.u64 J,.u64 L])]
abbrev El(p:Bool)(q:QK)(u:Qj)(v:Bool)(x z A B C e f j:Int):Qv:=[(0,.box [.sl 3,.sl 4,.bo p]),(3,.arr 40 (.int .u32) q),(4,.arr 264 lW u),(5,.box [.bo v,.u64 x,.u64 z,.u64 A,.u64 B,.u64 C,.u64 e,.u64 f,.u64 j])]
abbrev Eb(C:Bool)(D:QK)(E:Qj)(I:List Z9)(J L M N:Int)(O:QZ)(e:QK)(f:Qj)(j:List (Z2×Int))(p q u v x z A B:Int):Qv:=[(0,.box [.nils,.nils]),(1,.box [.sl 2,.sl 3,.bo C]),(2,.arr 40 (.int .u32) D),(3,.arr 264 lW E),(4,.arr 266 BH I),(5,.box [.u64 J,.u64 L,.u64 M,.u64 N]),(6,.box [.sl 7,.sl 8]),(7,.arr 41 (.slice (.int .i64)) O),(8,.arr 40 (.int .u32) e),(9,.arr 264 lW f),(10,.mpo lW (.int .i64) j),(11,.box [.u64 p,.u64 q,.u64 u,.u64 v]),(12,.box [.u64 x,.u64 z,.u64 A,.u64 B])]
abbrev HH(D:Bool)(E:QK)(I:Qj)(J:List Z9)(L M N O:Int)(V:QZ)(e:QK)(f:Qj)(j:List (Z2×Int))(p q u v:Int)(x:QK)(z A B C:Int):Qv:=[(0,.box [.nils,.nils]),(1,.box [.sl 2,.sl 3,.bo D]),(2,.arr 40 (.int .u32) E),(3,.arr 264 lW I),(4,.arr 266 BH J),(5,.box [.u64 L,.u64 M,.u64 N,.u64 O]),(6,.box [.sl 7,.sl 8]),(7,.arr 41 (.slice (.int .i64)) V),(8,.arr 40 (.int .u32) e),(9,.arr 264 lW f),(10,.mpo lW (.int .i64) j),(11,.box [.u64 p,.u64 q,.u64 u,.u64 v]),(12,.arr 3 (.int .i64) x),(13,.box [.u64 z,.u64 A,.u64 B,.u64 C])]
abbrev KP(z:Bool)(A:QK)(B:Qj)(C:List Z9)(D E I J:Int)(L:QZ)(e:QK)(f:Qj)(j:List (Z2×Int))(p q u v:Int)(x:QK):Qv:=[(0,.box [.nils,.nils]),(1,.box [.sl 2,.sl 3,.bo z]),(2,.arr 40 (.int .u32) A),(3,.arr 264 lW B),(4,.arr 266 BH C),(5,.box [.u64 D,.u64 E,.u64 I,.u64 J]),(6,.box [.sl 7,.sl 8]),(7,.arr 41 (.slice (.int .i64)) L),(8,.arr 40 (.int .u32) e),(9,.arr 264 lW f),(10,.mpo lW (.int .i64) j),(11,.box [.u64 p,.u64 q,.u64 u,.u64 v]),(12,.arr 3 (.int .i64) x)]
abbrev LH(q:Bool)(u:QK)(v:Qj)(x:List Z9)(z A B C:Int)(D:QZ)(e:QK)(f:Qj)(j:List (Z2×Int))(p:QK):Qv:=[(0,.box [.nils,.nils]),(1,.box [.sl 2,.sl 3,.bo q]),(2,.arr 40 (.int .u32) u),(3,.arr 264 lW v),(4,.arr 266 BH x),(5,.box [.u64 z,.u64 A,.u64 B,.u64 C]),(6,.box [.sl 7,.sl 8]),(7,.arr 41 (.slice (.int .i64)) D),(8,.arr 40 (.int .u32) e),(9,.arr 264 lW f),(10,.mpo lW (.int .i64) j),(11,.arr 3 (.int .i64) p)]
abbrev LW(x:Bool)(z:QK)(A:Qj)(B:List Z9)(C D E I:Int)(J:QZ)(e:QK)(f:Qj)(j:List (Z2×Int))(p q u v:Int):Qv:=[(0,.box [.nils,.nils]),(1,.box [.sl 2,.sl 3,.bo x]),(2,.arr 40 (.int .u32) z),(3,.arr 264 lW A),(4,.arr 266 BH B),(5,.box [.u64 C,.u64 D,.u64 E,.u64 I]),(6,.box [.sl 7,.sl 8]),(7,.arr 41 (.slice (.int .i64)) J),(8,.arr 40 (.int .u32) e),(9,.arr 264 lW f),(10,.mpo lW (.int .i64) j),(11,.box [.u64 p,.u64 q,.u64 u,.u64 v])]
abbrev LQ(p:Bool)(q:QK)(u:Qj)(v:List Z9)(x z A B:Int)(C:QZ)(e:QK)(f:Qj)(j:List (Z2×Int)):Qv:=[(0,.box [.nils,.nils]),(1,.box [.sl 2,.sl 3,.bo p]),(2,.arr 40 (.int .u32) q),(3,.arr 264 lW u),(4,.arr 266 BH v),(5,.box [.u64 x,.u64 z,.u64 A,.u64 B]),(6,.box [.sl 7,.sl 8]),(7,.arr 41 (.slice (.int .i64)) C),(8,.arr 40 (.int .u32) e),(9,.arr 264 lW f),(10,.mpo lW (.int .i64) j)]
abbrev K8(e:QZ)(f:QK):Qv:=[(0,.box [.nils,.nils]),(1,.box [.sl 2,.sl 3]),(2,.arr 41 (.slice (.int .i64)) e),(3,.arr 40 (.int .u32) f)]
abbrev KS(e:Bool)(f:QK)(j:Qj)(p:List Z9)(q u v x:Int):Qv:=[(0,.box [.nils,.nils]),(1,.box [.sl 2,.sl 3,.bo e]),(2,.arr 40 (.int .u32) f),(3,.arr 264 lW j),(4,.arr 266 BH p),(5,.box [.u64 q,.u64 u,.u64 v,.u64 x])]
abbrev KL(e:Bool)(f:QK)(j:Qj)(p:List Z9):Qv:=[(0,.box [.nils,.nils]),(1,.box [.sl 2,.sl 3,.bo e]),(2,.arr 40 (.int .u32) f),(3,.arr 264 lW j),(4,.arr 266 BH p)]
abbrev Gq(e:Bool)(f:QZ)(j:Bool)(q:QK):Qv:=[(0,.box [.p e (.slice (.slice (.int .i64))) f,.p j (.slice (.int .u32)) q])]
abbrev Hv(e:XQ)(f j:QK):Qv:=[(0,.mpo .str (.int .i64) e),(1,.arr 3 (.int .i64) f),(2,.arr 3 (.int .i64) j)]
abbrev HU(e:XQ)(f j p:QK):Qv:=[(0,.mpo .str (.int .i64) e),(1,.arr 3 (.int .i64) f),(2,.arr 3 (.int .i64) j),(3,.arr 5 (.int .u8) p)]
abbrev Lz(e:Bool)(f:QZ)(j:Bool)(q:QK)(u:QZ)(v x z:QK):Qv:=[(0,.box [.p e (.slice (.slice (.int .i64))) f,.p j (.slice (.int .u32)) q]),(1,.box [.nils,.nils]),(2,.box [.sl 3,.sl 4]),(3,.arr 41 (.slice (.int .i64)) u),(4,.arr 40 (.int .u32) v),(5,.arr 3 (.int .i64) x),(6,.arr 3 (.int .i64) z)]
abbrev I9(e:Bool)(f:QZ)(j:Bool)(q:QK)(u:QZ)(v x z A:QK):Qv:=[(0,.box [.p e (.slice (.slice (.int .i64))) f,.p j (.slice (.int .u32)) q]),(1,.box [.nils,.nils]),(2,.box [.sl 3,.sl 4]),(3,.arr 41 (.slice (.int .i64)) u),(4,.arr 40 (.int .u32) v),(5,.arr 3 (.int .i64) x),(6,.arr 3 (.int .i64) z),(7,.arr 3 (.int .i64) A)]
abbrev Kv(e:Bool)(f:QZ)(j:Bool)(q u:QK):Qv:=[(0,.box [.p e (.slice (.slice (.int .i64))) f,.p j (.slice (.int .u32)) q]),(1,.box [.nils,.nils]),(2,.box [.nils,.nils]),(3,.arr 3 (.int .i64) u)]
abbrev KA(e:Bool)(f:QZ)(j:Bool)(q u:QK):Qv:=[(0,.box [.p e (.slice (.slice (.int .i64))) f,.p j (.slice (.int .u32)) q]),(1,.box [.nils,.nils]),(2,.box [.p false (.slice (.int .i64)) u])]
abbrev Kk(e:QQ)(f j:Int)(q:QK)(u:XJ)(v x:XX):Qv:=[(0,.box [.p false (.slice .str) e,.u32 f,.u32 j,.p false (.slice (.int .i64)) q,.p false (.slice (.prod (.int .u8) Y8)) u]),(1,.arr 183 (.tree .u8 .u32) v),(2,.arr 183 (.tree .u8 .u32) x)]
abbrev zL(e:fh 4352)(f:List (fh 256))(j:List ((fh 256)×Int))(p:fh 256):Qv:=[(0,.lmp .i64 4352 e [.sl 1]),(1,.arr 155 (.arr .u8 256) f),(2,.mpo (.arr .u8 256) (.int .i64) j),(3,.lmp .u8 256 p [])]
abbrev Kq(e:fh 4352)(f:List (fh 256))(j:List ((fh 256)×Int)):Qv:=[(0,.lmp .i64 4352 e [.sl 1]),(1,.arr 155 (.arr .u8 256) f),(2,.mpo (.arr .u8 256) (.int .i64) j)]
abbrev L1(e:fh 4352)(f:List (fh 256)):Qv:=[(0,.lmp .i64 4352 e [.sl 1]),(1,.arr 155 (.arr .u8 256) f)]
abbrev Ir(e f j p q u:Int):Qv:=[(0,.box [.i32 e,.i64 f,.i64 j]),(1,.box [.i32 p,.i64 q,.i64 u])]
abbrev IA(e f:QK):Qv:=[(0,.box [.nils,.nils]),(1,.box [.sl 2,.sl 3]),(2,.arr 21 (.int .i32) e),(3,.arr 5 (.int .u8) f)]
abbrev Km(e f:QK)(j p q:Int):Qv:=[(0,.box [.nils,.nils]),(1,.box [.sl 2,.sl 3]),(2,.arr 21 (.int .i32) e),(3,.arr 5 (.int .u8) f),(4,.box [.i32 j,.i64 p,.i64 q])]
abbrev LO(e f:QK):Qv:=[(0,.box [.sl 1,.sl 2]),(1,.arr 21 (.int .i32) e),(2,.arr 5 (.int .u8) f)]
abbrev Ei(e f:Int)(j p:List Z8):Qv:=[(0,.box [.nils,.nils]),(1,.box [.i64 e,.i64 f]),(2,.box [.sl 3,.sl 4]),(3,.arr 210 qx j),(4,.arr 210 qx p)]
abbrev Ht(e:List Nd)(f:Bool)(j:QK)(q:Bool)(u:QK):Qv:=[(0,.box [.sl 1]),(1,.nds 222 5 e none),(2,.box [.p f (.slice (.int .i32)) j,.p q (.slice (.int .u8)) u])]
abbrev F8(e f j:QK):Qv:=[(0,.arr 91 (.int .u8) e),(1,.arr 3 (.int .i64) f),(2,.arr 3 (.int .i64) j)]
abbrev Li(e:Bool)(f:QZ)(j:Bool)(q u:QK):Qv:=[(0,.box [.p e (.slice (.slice (.int .i64))) f,.p j (.slice (.int .u32)) q]),(1,.arr 3 (.int .i64) u)]
abbrev KZ(e:Bool)(f:QK)(j:List Bool):Qv:=[(0,.box [.p e (.slice (.int .i32)) f]),(1,.arr 4 .bool j)]
abbrev Jh(e:Qj)(f:QK)(j p q:Int):Qv:=[(0,.arr 90 db e),(1,.arr 3 (.int .i64) f),(2,.box [.i32 j,.i64 p,.i64 q])]
abbrev H7(e:Qj)(f j:QK):Qv:=[(0,.box [.nils,.nils]),(1,.box [.sl 2,.sl 3]),(2,.arr 90 db e),(3,.arr 91 (.int .u8) f),(4,.arr 3 (.int .i64) j)]
abbrev Lw(e:Qj)(f:QK):Qv:=[(0,.box [.nils,.nils]),(1,.box [.sl 2,.sl 3]),(2,.arr 90 db e),(3,.arr 91 (.int .u8) f)]
abbrev K4(e:Qj)(f:QK):Qv:=[(0,.arr 90 db e),(1,.arr 91 (.int .u8) f),(2,.box [.sl 0,.sl 1])]
abbrev Kw(e:Bool)(f:Qj)(j:Bool)(q:QK):Qv:=[(0,.box [.p e (.slice db) f,.p j (.slice (.int .u8)) q])]
abbrev KE(f:Bool)(j:Qj)(q:Bool)(u:QK)(v x z A B:Int)(e:QJ):Qv:=[(0,.box [.p f (.slice db) j,.p q (.slice (.int .u8)) u]),(1,.box [.i64 v,.i64 x,.u8 z,.i64 A,.i64 B,.p false .flt e])]
abbrev IC(v:Bool)(x:Qj)(z:Bool)(A:QK)(B C D E I:Int)(e:QJ)(f j q u:Int):Qv:=[(0,.box [.p v (.slice db) x,.p z (.slice (.int .u8)) A]),(1,.box [.i64 B,.i64 C,.u8 D,.i64 E,.i64 I,.p false .flt e]),(2,.box [.i64 f,.i64 j]),(3,.box [.i64 q,.i64 u])]
abbrev Ji(z:Bool)(A:Qj)(B:Bool)(C:QK)(D E I J L:Int)(e:QJ)(f j q u v x:Int):Qv:=[(0,.box [.p z (.slice db) A,.p B (.slice (.int .u8)) C]),(1,.box [.i64 D,.i64 E,.u8 I,.i64 J,.i64 L,.p false .flt e]),(2,.box [.i64 f,.i64 j]),(3,.box [.i64 q,.i64 u]),(4,.box [.i64 v,.i64 x])]
abbrev LU(e f j p:Int):Qv:=[(0,.box [.i64 e,.i64 f]),(1,.box [.i64 j,.i64 p])]
abbrev H3(j:Bool)(q:Qj)(u:Bool)(v:QK)(x z A B C:Int)(e:QJ)(f:Qq):Qv:=[(0,.box [.p j (.slice db) q,.p u (.slice (.int .u8)) v]),(1,.box [.i64 x,.i64 z,.u8 A,.i64 B,.i64 C,.p false .flt e]),(2,.arr 298 Y2 f)]
abbrev L5(e:Bool)(f:Qj)(j:Bool)(q u:QK):Qv:=[(0,.box [.p e (.slice db) f,.p j (.slice (.int .u8)) q]),(1,.arr 3 (.int .i64) u)]
abbrev L0(q:Bool)(u:Qj)(v:Bool)(x:QK)(z A B C D:Int)(e:QJ)(f:Qq)(j:Qj):Qv:=[(0,.box [.p q (.slice db) u,.p v (.slice (.int .u8)) x]),(1,.box [.i64 z,.i64 A,.u8 B,.i64 C,.i64 D,.p false .flt e]),(2,.arr 298 Y2 f),(3,.arr 197 db j)]
abbrev tg(v:Bool)(x:Qj)(z:Bool)(A:QK)(B C D E I:Int)(e:QJ)(f j q u:Int):Qv:=[(0,.box [.p v (.slice db) x,.p z (.slice (.int .u8)) A]),(1,.box [.i64 B,.i64 C,.u8 D,.i64 E,.i64 I,.p false .flt e]),(2,.box [.i64 f,.i64 j,.i64 q,.u8 u])]
abbrev GB(j:Bool)(q:Qj)(u:Bool)(v:QK)(x z A B C:Int)(e:QJ)(f:Qj):Qv:=[(0,.box [.p j (.slice db) q,.p u (.slice (.int .u8)) v]),(1,.box [.i64 x,.i64 z,.u8 A,.i64 B,.i64 C,.p false .flt e]),(2,.arr 197 db f)]
abbrev KF(e:Bool)(f:Qj)(j:Bool)(q:QK)(u:Qj):Qv:=[(0,.box [.p e (.slice db) f,.p j (.slice (.int .u8)) q]),(1,.arr 93 db u)]
abbrev K0(e f j q u:Int)(v:QJ)(x:Bool)(z:Qj)(A:QK):Qv:=[(0,.box [.i64 e,.i64 f,.u8 j,.i64 q,.i64 u,.p false .flt v]),(1,.box [.nils,.bo x]),(2,.box [.sl 3,.sl 4]),(3,.arr 90 db z),(4,.arr 91 (.int .u8) A)]
abbrev Kt(e f:Int)(j:Bool)(p:Qj):Qv:=[(0,.box [.i64 e,.i64 f]),(1,.box [.sl 2,.bo j]),(2,.arr 93 db p)]
abbrev I6(e:QK)(f:XK):Qv:=[(0,.arr 21 (.int .i32) e),(1,.arr 115 (.prod (.int .i32) Y1) f)]
abbrev D5(e f j:Int)(q:Bool)(u:QK)(v:List uC):Qv:=[(0,.box [.u8 e,.u8 f,.u8 j,.p q (.slice (.int .u8)) u,.p false (.slice (.prod (.int .u8) EJ)) v])]
abbrev I7(e f j:Int)(q:Bool)(u:QK)(v:List uC)(x:QQ):Qv:=[(0,.box [.u8 e,.u8 f,.u8 j,.p q (.slice (.int .u8)) u,.p false (.slice (.prod (.int .u8) EJ)) v]),(1,.arr 9 .str x)]
abbrev II(e:Bool)(f:Qj)(j q:Bool)(u:Qj)(v:Bool):Qv:=[(0,.box [.p e (.slice db) f,.bo j]),(1,.box [.p q (.slice db) u,.bo v])]
abbrev C9(e:Bool)(f:Qj)(j:Bool)(q:QK)(u:Bool)(v:Qj)(x:Bool)(z:QK):Qv:=[(0,.box [.p e (.slice db) f,.p j (.slice (.int .u8)) q]),(1,.box [.p u (.slice db) v,.p x (.slice (.int .u8)) z])]
abbrev KN(e:QK)(f:Bool)(j p:Qj)(q:QK)(u:Bool)(v x:Qj)(z:QK):Qv:=[(0,.arr 5 (.int .u8) e),(1,.box [.sl 2,.bo f]),(2,.arr 93 db j),(3,.box [.sl 4,.sl 5]),(4,.arr 90 db p),(5,.arr 91 (.int .u8) q),(6,.box [.sl 7,.bo u]),(7,.arr 93 db v),(8,.box [.sl 9,.sl 10]),(9,.arr 90 db x),(10,.arr 91 (.int .u8) z)]
abbrev KJ(e:QK)(f:Bool)(j p:Qj)(q:QK)(u:Bool)(v:Qj):Qv:=[(0,.arr 5 (.int .u8) e),(1,.box [.sl 2,.bo f]),(2,.arr 93 db j),(3,.box [.sl 4,.sl 5]),(4,.arr 90 db p),(5,.arr 91 (.int .u8) q),(6,.box [.sl 7,.bo u]),(7,.arr 93 db v)]
abbrev FZ(j q u v x:Int)(z:QJ)(A:QK)(B:Bool)(C e:Qj)(f:QK):Qv:=[(0,.box [.i64 j,.i64 q,.u8 u,.i64 v,.i64 x,.p false .flt z]),(1,.arr 5 (.int .u8) A),(2,.box [.sl 3,.bo B]),(3,.arr 93 db C),(4,.box [.sl 5,.sl 6]),(5,.arr 90 db e),(6,.arr 91 (.int .u8) f)]
abbrev IQ(u v x z A:Int)(B:QJ)(C:QK)(D:Qj)(E:QK)(e:Bool)(f j:Qj)(q:QK):Qv:=[(0,.box [.i64 u,.i64 v,.u8 x,.i64 z,.i64 A,.p false .flt B]),(1,.arr 5 (.int .u8) C),(2,.box [.sl 3,.sl 4]),(3,.arr 90 db D),(4,.arr 91 (.int .u8) E),(5,.box [.sl 6,.bo e]),(6,.arr 93 db f),(7,.box [.sl 8,.sl 9]),(8,.arr 90 db j),(9,.arr 91 (.int .u8) q)]
abbrev Ks(x z A B C:Int)(D:QJ)(E:QK)(I:Bool)(J e:Qj)(f:QK)(j:Bool)(q u:Qj)(v:QK):Qv:=[(0,.box [.i64 x,.i64 z,.u8 A,.i64 B,.i64 C,.p false .flt D]),(1,.arr 5 (.int .u8) E),(2,.box [.sl 3,.bo I]),(3,.arr 93 db J),(4,.box [.sl 5,.sl 6]),(5,.arr 90 db e),(6,.arr 91 (.int .u8) f),(7,.box [.sl 8,.bo j]),(8,.arr 93 db q),(9,.box [.sl 10,.sl 11]),(10,.arr 90 db u),(11,.arr 91 (.int .u8) v)]
abbrev Lc(e f j q u:Int)(v:QJ)(x:QK)(z:Bool)(A:Qj):Qv:=[(0,.box [.i64 e,.i64 f,.u8 j,.i64 q,.i64 u,.p false .flt v]),(1,.arr 5 (.int .u8) x),(2,.box [.sl 3,.bo z]),(3,.arr 93 db A)]
abbrev Ky(V X Y:Int)(Z:Bool)(a5:QK)(a6:List uC)(a7 a8 a9:Int)(e:Bool)(f:QK)(j:List uC)(q:Bool)(u:QK)(v:Bool)(x:QK)(z:Bool)(A:QK)(B:Bool)(C:QK)(D E I J L M N:Int)(O:QJ):Qv:=[(0,.box [.u8 V,.u8 X,.u8 Y,.p Z (.slice (.int .u8)) a5,.p false (.slice (.prod (.int .u8) EJ)) a6,.u8 a7,.u8 a8,.u8 a9,.p e (.slice (.int .u8)) f,.p false (.slice (.prod (.int .u8) EJ)) j,.p q (.slice (.int .u8)) u,.p v (.slice (.int .u8)) x,.p z (.slice (.int .u8)) A,.p B (.slice (.int .u8)) C,.u8 D,.u8 E]),(1,.box [.u8 I,.u8 J,.u8 L,.p false (.int .u16) M,.p false (.int .u16) N,.p false .flt O])]
def tb:bU:=[
 (3,⟨some (.int .i64),(.int .i64),1,8,[.i64 0]⟩),
 (4,⟨some .bool,.bool,1,1,[.bo false]⟩),
 (5,⟨some (.int .u8),(.int .u8),1,1,[.u8 0]⟩),
 (9,⟨some .str,.str,1,16,[.st ([]:QX)]⟩),
 (20,⟨none,.other,1,16,[.lit .nilIface]⟩),
 (21,⟨some (.int .i32),(.int .i32),1,4,[.i32 0]⟩),
 (22,⟨some (.slice (.int .u8)),(.sl 5),1,24,[.nils]⟩),
 (23,⟨some (.slice (.prod (.int .u8) EJ)),(.sl 168),1,24,[.nils]⟩),
 (25,⟨some (.prod (.int .u8) L4),(.st [(0,5),(1,5),(2,5),(3,22),(4,23)]),5,56,[.u8 0,.u8 0,.u8 0,.nils,.nils]⟩),
 (27,⟨some My,(.st [(0,25),(5,25),(10,22),(11,22),(12,22),(13,22),(14,5),(15,5)]),16,216,[.u8 0,.u8 0,.u8 0,.nils,.nils,.u8 0,.u8 0,.u8 0,.nils,.nils,.nils,.nils,.nils,.nils,.u8 0,.u8 0]⟩),
 (29,⟨some (.ptr tf),.other,1,8,[.nilp]⟩),
 (30,⟨some (.int .i64),(.int .i64),1,8,[.i64 0]⟩),
 (32,⟨some Y2,(.st [(0,30),(1,3)]),2,16,[.i64 0,.i64 0]⟩),
 (35,⟨some (.slice (.prod (.int .i32) Y1)),(.sl 115),1,24,[.nils]⟩),
 (37,⟨some Y7,(.st [(0,35),(1,35),(2,35),(3,35),(4,9),(5,9),(6,9),(7,3),(8,3)]),9,160,[.nils,.nils,.nils,.nils,.st ([]:QX),.st ([]:QX),.st ([]:QX),.i64 0,.i64 0]⟩),
 (39,⟨some (.slice .str),(.sl 9),1,24,[.nils]⟩),
 (40,⟨some (.int .u32),(.int .u32),1,4,[.u32 0]⟩),
 (41,⟨some (.slice (.int .i64)),(.sl 3),1,24,[.nils]⟩),
 (42,⟨some (.slice (.prod (.int .u8) Y8)),(.sl 185),1,24,[.nils]⟩),
 (44,⟨some JC,(.st [(0,39),(1,40),(2,40),(3,41),(4,42)]),5,80,[.nils,.u32 0,.u32 0,.nils,.nils]⟩),
 (45,⟨some (.slice qx),(.sl 210),1,24,[.nils]⟩),
 (47,⟨some Iw,(.st [(0,45),(1,45)]),2,48,[.nils,.nils]⟩),
 (56,⟨some (.slice db),(.sl 90),1,24,[.nils]⟩),
 (57,⟨some (.slice (.int .u8)),(.sl 91),1,24,[.nils]⟩),
 (59,⟨some MY,(.st [(0,56),(1,57)]),2,48,[.nils,.nils]⟩),
 (66,⟨some (.int .u16),(.int .u16),1,2,[.p false (.int .u16) (0:Int)]⟩),
 (67,⟨some .flt,.flt,1,8,[.p false .flt (eG 0)]⟩),
 (69,⟨some Mz,(.st [(0,5),(1,5),(2,5),(3,66),(4,66),(5,67)]),6,16,[.u8 0,.u8 0,.u8 0,.p false (.int .u16) (0:Int),.p false (.int .u16) (0:Int),.p false .flt (eG 0)]⟩),
 (70,⟨some (.int .u8),(.int .u8),1,1,[.u8 0]⟩),
 (72,⟨some LY,(.st [(0,3),(1,3),(2,70),(3,3),(4,3),(5,67)]),6,48,[.i64 0,.i64 0,.u8 0,.i64 0,.i64 0,.p false .flt (eG 0)]⟩),
 (75,⟨some (.slice db),(.sl 93),1,24,[.nils]⟩),
 (77,⟨some MF,(.st [(0,75),(1,4)]),2,32,[.nils,.bo false]⟩),
 (88,⟨some (.int .u8),(.int .u8),1,1,[.u8 0]⟩),
 (90,⟨some db,(.st [(0,3),(1,3),(2,3),(3,88)]),4,32,[.i64 0,.i64 0,.i64 0,.u8 0]⟩),
 (91,⟨some (.int .u8),(.int .u8),1,1,[.u8 0]⟩),
 (93,⟨some db,(.st [(0,3),(1,3),(2,3),(3,91)]),4,32,[.i64 0,.i64 0,.i64 0,.u8 0]⟩),
 (98,⟨some (.ptr mF),.other,1,8,[.nilp]⟩),
 (99,⟨some (.ptr vV),.other,1,8,[.nilp]⟩),
 (100,⟨some (.ptr nh),.other,1,8,[.nilp]⟩),
 (102,⟨some tf,(.st [(0,98),(1,98),(2,99),(3,99),(4,99),(5,100)]),6,48,[.nilp,.nilp,.nilp,.nilp,.nilp,.nilp]⟩),
 (105,⟨none,.other,1,8,[.nilp]⟩),
 (107,⟨none,(.st [(0,105),(1,35),(2,3)]),3,40,[.nilp,.nils,.i64 0]⟩),
 (108,⟨none,(.sl 107),1,24,[.nils]⟩),
 (115,⟨some (.prod (.int .i32) Y1),(.st [(0,21),(1,21),(2,3)]),3,16,[.i32 0,.i32 0,.i64 0]⟩),
 (124,⟨some (.slice (.prod (.int .i32) Y2)),(.sl 174),1,24,[.nils]⟩),
 (129,⟨some (.slice .bool),(.sl 4),1,24,[.nils]⟩),
 (134,⟨some (.slice db),(.sl 197),1,24,[.nils]⟩),
 (142,⟨some (.slice (.slice (.int .i64))),(.sl 41),1,24,[.nils]⟩),
 (143,⟨some (.slice (.int .u32)),(.sl 40),1,24,[.nils]⟩),
 (145,⟨some BJ,(.st [(0,142),(1,143)]),2,48,[.nils,.nils]⟩),
 (147,⟨some mF,(.st [(0,44),(5,145),(7,145)]),9,176,[.nils,.u32 0,.u32 0,.nils,.nils,.nils,.nils,.nils,.nils]⟩),
 (148,⟨some (.slice (.arr .u8 256)),(.sl 155),1,24,[.nils]⟩),
 (149,⟨some (.arr .i64 4352),(.ar 4352 3),4352,34816,(List.replicate 4352 (.i64 0))⟩),
 (151,⟨some vV,(.st [(0,149),(4352,148)]),4353,34840,(List.replicate 4352 (.i64 0)++[.nils])⟩),
 (152,⟨none,(.mp 155 3),1,8,[.lit (.map none)]⟩),
 (153,⟨some (.int .u64),(.int .u64),1,8,[.u64 0]⟩),
 (155,⟨some (.arr .u8 256),(.ar 256 5),256,256,(List.replicate 256 (.u8 0))⟩),
 (160,⟨some (.ptr so),.other,1,8,[.nilp]⟩),
 (163,⟨some nh,(.st [(0,35),(1,160),(2,45),(3,3),(4,3)]),5,72,[.nils,.nilp,.nils,.i64 0,.i64 0]⟩),
 (164,⟨some (.slice (.int .i32)),(.sl 21),1,24,[.nils]⟩),
 (168,⟨some (.prod (.int .u8) EJ),(.st [(0,5),(1,22),(2,22)]),3,56,[.u8 0,.nils,.nils]⟩),
 (174,⟨some (.prod (.int .i32) Y2),(.st [(0,21),(1,3),(2,3)]),3,24,[.i32 0,.i64 0,.i64 0]⟩),
 (180,⟨some (.int .u8),(.int .u8),1,1,[.u8 0]⟩),
 (181,⟨some (.slice (.tree .u8 .u32)),(.sl 183),1,24,[.nils]⟩),
 (183,⟨some (.tree .u8 .u32),(.st [(0,180),(1,40),(2,181)]),3,32,[.u8 0,.u32 0,.nils]⟩),
 (185,⟨some (.prod (.int .u8) Y8),(.st [(0,91),(1,183),(4,183)]),7,72,[.u8 0,.u8 0,.u32 0,.nils,.u8 0,.u32 0,.nils]⟩),
 (197,⟨some db,(.st [(0,3),(1,3),(2,3),(3,91)]),4,32,[.i64 0,.i64 0,.i64 0,.u8 0]⟩),
 (198,⟨none,.other,1,8,[.nilp]⟩),
 (199,⟨none,(.mp 9 40),1,8,[.lit (.map none)]⟩),
 (201,⟨none,(.st [(0,9),(1,3),(2,44),(7,199),(8,3),(9,3)]),10,128,[.st ([]:QX),.i64 0,.nils,.u32 0,.u32 0,.nils,.nils,.lit (.map none),.i64 0,.i64 0]⟩),
 (210,⟨some qx,(.st [(0,164),(1,22)]),2,48,[.nils,.nils]⟩),
 (216,⟨none,.other,1,8,[.lit .nilFunc]⟩),
 (217,⟨some (.slice LJ),(.sl 222),1,24,[.nils]⟩),
 (219,⟨some so,(.st [(0,217)]),1,24,[.nils]⟩),
 (220,⟨some (.mapi .i32 .i64),(.mp 21 3),1,8,[.lit (.map none)]⟩),
 (222,⟨some LJ,(.st [(0,220),(1,22)]),2,32,[.lit (.map none),.nils]⟩),
 (225,⟨none,.other,1,8,[.nilp]⟩),
 (227,⟨some MB,(.st [(0,22),(1,3)]),2,32,[.nils,.i64 0]⟩),
 (241,⟨none,.other,1,8,[.lit .nilFunc]⟩),
 (249,⟨none,.other,1,8,[.lit .nilFunc]⟩),
 (250,⟨none,(.mp 9 249),1,8,[.lit (.map none)]⟩),
 (251,⟨none,(.mp 9 91),1,8,[.lit (.map none)]⟩),
 (257,⟨none,.other,1,8,[.nilp]⟩),
 (258,⟨some (.slice lW),(.sl 264),1,24,[.nils]⟩),
 (260,⟨some Mu,(.st [(0,143),(1,258),(2,4)]),3,56,[.nils,.nils,.bo false]⟩),
 (261,⟨some (.slice BH),(.sl 266),1,24,[.nils]⟩),
 (262,⟨some (.int .u64),(.int .u64),1,8,[.u64 0]⟩),
 (264,⟨some lW,(.ar 4 262),4,32,[.u64 0,.u64 0,.u64 0,.u64 0]⟩),
 (266,⟨some BH,(.st [(0,4),(1,264),(5,264)]),9,72,[.bo false,.u64 0,.u64 0,.u64 0,.u64 0,.u64 0,.u64 0,.u64 0,.u64 0]⟩),
 (269,⟨none,(.mp 264 3),1,8,[.lit (.map none)]⟩),
 (274,⟨none,.other,1,8,[.lit .nilFunc]⟩),
 (278,⟨none,.other,1,8,[.lit .nilFunc]⟩),
 (296,⟨some (.slice Y2),(.sl 298),1,24,[.nils]⟩),
 (298,⟨some Y2,(.st [(0,3),(1,3)]),2,16,[.i64 0,.i64 0]⟩),
 (310,⟨none,(.mp 9 3),1,8,[.lit (.map none)]⟩),
 (330,⟨some (.prod (.int .u8) Mw),(.ar 7 5),7,7,[.u8 0,.u8 0,.u8 0,.u8 0,.u8 0,.u8 0,.u8 0]⟩)]
theorem iP:cg Tryz.prog tb:=Jc (by kernel_rfl) (by kernel_rfl) (by kernel_rfl)
theorem Lu:H6 Tryz.prog 90 db:=Df 8 (by decide) (by kernel_rfl) ⟨by kernel_rfl,rfl⟩
theorem Ik:H6 Tryz.prog 93 db:=Df 8 (by decide) (by kernel_rfl) ⟨by kernel_rfl,rfl⟩
theorem CU:hH Tryz.prog 155 (.arr .u8 256):=hH.D4 (e:=5) rfl rfl rfl (by kernel_rfl) rfl rfl rfl
theorem y3:hH Tryz.prog 264 lW:=hH.D4 (e:=262) rfl rfl rfl (by kernel_rfl) rfl rfl rfl
theorem mixed:Tryz.prog.follows .mixedOrders=true:=by kernel_rfl
theorem PB{fid:FuncId}{fn:Func}{c:Code}(u:Tryz.prog.funcs[fid]? = some fn){args:List ag}{f:List (Σ T:Ty,T.den)}(h:∀Bw w0,W Tryz.prog fn.ntmps Bw w0 c (nE args) (Kg tb fn.results.toList f))(j:(fn.name == "runtime.NumGoroutine")=false:=by kernel_rfl)(hb:fn.body=some c:=by exact rfl)(p:Nat.ble args.length fn.ntmps=true:=by exact rfl)(q:nX args=true:=by exact rfl):Pure Tryz.prog fid args (aM (bk false f)):=Pure.jC iP u j hb (nl p) h q
theorem OB{fid:FuncId}{fn:Func}{c:Code}(j:Tryz.prog.funcs[fid]? = some fn){args:List ag}{hin hout:Qv}{r:ag}(h:∀Bw w0,W Tryz.prog fn.ntmps Bw w0 c (qH args hin) (xy tb fn.ntmps fn.results.toList r hout))(e:(fn.name == "runtime.NumGoroutine")=false:=by kernel_rfl)(hb:fn.body=some c:=by exact rfl)(f:Nat.ble args.length fn.ntmps=true:=by exact rfl):hY Tryz.prog fid args hin r hout:=hY.jC iP j e hb (nl f) h
theorem DB{fid:FuncId}{fn:Func}{c:Code}(p:Tryz.prog.funcs[fid]? = some fn){args:List ag}{hin:Qv}{f:(ag×Qv)⊕Value}(h:∀Bw w0,W Tryz.prog fn.ntmps Bw w0 c (qH args hin) (La tb fn.ntmps fn.results.toList f))(e:(fn.name == "runtime.NumGoroutine")=false:=by kernel_rfl)(hb:fn.body=some c:=by exact rfl)(j:Nat.ble args.length fn.ntmps=true:=by exact rfl):iQ Tryz.prog fid args hin f:=iQ.jC iP p e hb (nl j) h
theorem RO{n:NS}{σ:St}{j:List ResultVar}{r:ag}{hout:Qv}(Ts:List (Option Ty))(q:List Tv.G)(f:QV)(l:List (Nat×ag))(m:Qv)(nx pn:Nat)(u:goal q f l m σ=some (want f l m):=by kernel_rfl)(e:(σ.pn == pn && kG (GL f) l m nx pn)=true:=by kernel_rfl)(v:Iz tb j Ts hout (aA l m nx pn)=some (r,hout.map (fun p=>some p.2)):=by kernel_rfl):xy tb n j r hout .ret σ:=BX Ts q f l m nx pn u e v
theorem RI{σ:St}{j:List ResultVar}{f:List (Σ T:Ty,T.den)}(Ts:List Ty)(h:(match sN tb σ.s σ.h j with | some xs=>me σ.h xs Ts | none=>none)=some f:=by kernel_rfl):Kg tb j f .ret σ:=D9 Ts h
section
variable{n:NS}{Bw:Nat→Prop}{w0:cw Tryz.prog}{σ:St}{Q:Exit→St→Prop}{id:Nat}{ops:Array Oper}{d:Code}{fid:FuncId}{args:List ag}{hin hout:Qv}{r:ag}{y:Value}
theorem Ge(e:∀σ',Le n σ' (iA Tryz.prog tb a0 n ops σ)→Q .normal σ')(h:iG Tryz.prog tb a0 n ops σ=some (cP ops.size 0 []):=by kernel_rfl):W Tryz.prog n Bw w0 (.region id ops false) σ Q:=Fs iP a0 [] h e
theorem bu(an:An)(e:List (Nat×Nat×PP))(f:∀σ',Le n σ' (iA Tryz.prog tb an n ops σ)→Q .normal σ')(h:iG Tryz.prog tb an n ops σ=some (cP ops.size 0 e):=by kernel_rfl):W Tryz.prog n Bw w0 (.region id ops false) σ Q:=Fs iP an e h f
theorem mZ(an:An)(e:List (Nat×Nat×PP))(f:∀σ',Le n σ' (Au Tryz.prog tb an n ops σ)→Q .normal σ')(h:AQ Tryz.prog tb an n ops σ=some (cP ops.size 0 e):=by kernel_rfl):W Tryz.prog n Bw w0 (.region id ops true) σ Q:=KB iP mixed an e h f
theorem zB(i:Nat){α:Type}{p:Prop}[Decidable p]{u:Option α}{v:α}(h:(if p then u else none)=some v)(e:u=some v→∀σ',Le n σ' (iA Tryz.prog tb a0 n ops σ)→Q .normal σ')(hk:iG Tryz.prog tb a0 n ops σ=some (cG ops.size i p):=by kernel_rfl):W Tryz.prog n Bw w0 (.region id ops false) σ Q:=IG iP i h hk e
theorem Ll(i:Nat)(u:Pure Tryz.prog fid args r)(e:∀σ',Le n σ' (iA Tryz.prog tb ⟨[],[(i,oP u)]⟩ n ops σ)→Q .normal σ')(h:iG Tryz.prog tb ⟨[],[(i,oP u)]⟩ n ops σ=some (cP ops.size 0 [(i,i,oc u)]):=by kernel_rfl):W Tryz.prog n Bw w0 (.region id ops false) σ Q:=KD iP i u h e
theorem jY(i:Nat)(g:QV)(u:hY Tryz.prog fid args hin r hout)(e:∀σ',Le n σ' (iA Tryz.prog tb ⟨[],[(i,oO u g)]⟩ n ops σ)→Q .normal σ')(h:iG Tryz.prog tb ⟨[],[(i,oO u g)]⟩ n ops σ=some (cP ops.size 0 [(i,i,oc u)]):=by kernel_rfl):W Tryz.prog n Bw w0 (.region id ops false) σ Q:=K5 iP i g u h e
theorem G(f:W Tryz.prog n Bw w0 d (iA Tryz.prog tb a0 n ops σ) Q)(h:iG Tryz.prog tb a0 n ops σ=some (cP ops.size 0 []):=by kernel_rfl):W Tryz.prog n Bw w0 (.seq (.region id ops false) d) σ Q:=Lj iP a0 [] h f
theorem GN(an:An)(e:List (Nat×Nat×PP))(f:W Tryz.prog n Bw w0 d (iA Tryz.prog tb an n ops σ) Q)(h:iG Tryz.prog tb an n ops σ=some (cP ops.size 0 e):=by kernel_rfl):W Tryz.prog n Bw w0 (.seq (.region id ops false) d) σ Q:=Lj iP an e h f
theorem GD(an:An)(e:List (Nat×Nat×PP))(f:W Tryz.prog n Bw w0 d (Au Tryz.prog tb an n ops σ) Q)(h:AQ Tryz.prog tb an n ops σ=some (cP ops.size 0 e):=by kernel_rfl):W Tryz.prog n Bw w0 (.seq (.region id ops true) d) σ Q:=MD iP mixed an e h f
theorem GC(i:Nat){α:Type}{p:Prop}[Decidable p]{u:Option α}{v:α}(h:(if p then u else none)=some v)(f:u=some v→W Tryz.prog n Bw w0 d (iA Tryz.prog tb a0 n ops σ) Q)(hk:iG Tryz.prog tb a0 n ops σ=some (cG ops.size i p):=by kernel_rfl):W Tryz.prog n Bw w0 (.seq (.region id ops false) d) σ Q:=Ma iP i h hk f
theorem GP(i:Nat)(u:Pure Tryz.prog fid args r)(e:W Tryz.prog n Bw w0 d (iA Tryz.prog tb ⟨[],[(i,oP u)]⟩ n ops σ) Q)(h:iG Tryz.prog tb ⟨[],[(i,oP u)]⟩ n ops σ=some (cP ops.size 0 [(i,i,oc u)]):=by kernel_rfl):W Tryz.prog n Bw w0 (.seq (.region id ops false) d) σ Q:=L8 iP i u h e
theorem GO(i:Nat)(g:QV)(u:hY Tryz.prog fid args hin r hout)(e:W Tryz.prog n Bw w0 d (iA Tryz.prog tb ⟨[],[(i,oO u g)]⟩ n ops σ) Q)(h:iG Tryz.prog tb ⟨[],[(i,oO u g)]⟩ n ops σ=some (cP ops.size 0 [(i,i,oc u)]):=by kernel_rfl):W Tryz.prog n Bw w0 (.seq (.region id ops false) d) σ Q:=LS iP i g u h e
theorem GX(i:Nat)(g:QV)(u:jK Tryz.prog fid args hin y)(e:∀σ',Q (.panic [{ v:=y,recovered:=false }]) σ')(h:zT Tryz.prog tb ⟨[],[(i,oD u g)]⟩ n ops i σ=some (cP (i+1) 0 [(i,i,oc u)],y):=by kernel_rfl):W Tryz.prog n Bw w0 (.region id ops false) σ Q:=L6 iP i g u h e
theorem MH(u:jK Tryz.prog fid args hin y)(an:An)(i:Nat)(e:List (Nat×Nat×PP))(f:∀σ',Q (.panic [{ v:=y,recovered:=false }]) σ')(h:zT Tryz.prog tb an n ops i σ=some (cP (i+1) 0 e,y):=by kernel_rfl):W Tryz.prog n Bw w0 (.region id ops false) σ Q:=Mh iP u an i e h f
end
end
end Go.Proofs.YtflahpmlcfhpcaaGreatDoor.T
