import Derived.Test.YtflahpmlcfhpcaaGreatDoorTvSt
import Derived.Test.YtflahpmlcfhpcaaGreatDoorProg
import Derived.KernelRfl
namespace Go.Proofs.YtflahpmlcfhpcaaGreatDoor.T
open Go Go.Tv Go.Proofs
noncomputable section
set_option maxRecDepth 100000
set_option maxHeartbeats 4000000
abbrev Z6:Type:=Int×Tree×Tree
abbrev XJ:=List Z6
abbrev IB:Type:=QQ×Int×Int×QK×XJ
abbrev Dj:Type:=QZ×QK
abbrev Z5:Type:=IB×Dj×QZ×QK
abbrev yU:Type:=(eY 4352)×List (eY 256)
abbrev Z7:Type:=Int×Int×Int
abbrev XK:=List Z7
abbrev G1:Type:=(List (Qq×QK))×Unit
abbrev Z8:Type:=QK×QK
abbrev Z3:Type:=XK×(Option G1)×(List Z8)×Int×Int
abbrev Z1:Type:=(Option Z5)×(Option Z5)×(Option yU)×(Option yU)×(Option yU)×Option Z3
abbrev Z2:Type:=Int×Int×Int×Int
abbrev Qj:=List Z2
abbrev Z4:Type:=QX×Int
abbrev XX:=List Z4
abbrev Z9:Type:=Bool×Z2×Int×Int×Int×Int
abbrev n6:Type:=Tree×Int×Int×Int
abbrev Ji:Type:=Int×QQ×Int×Int×QK×XJ×XX×Int×Int
abbrev wE:Type:=Int×QK×QK
abbrev tG:Type:=QK×Int
abbrev Y1:Ty:=(.prod (.int .i32) (.int .i64))
abbrev Y2:Ty:=(.prod (.int .i64) (.int .i64))
abbrev Y3:Ty:=(.prod .str (.prod .str Y2))
abbrev Y4:Ty:=(.prod (.slice (.prod (.int .i32) Y1)) (.prod .str Y3))
abbrev Y5:Ty:=(.prod (.slice (.prod (.int .i32) Y1)) Y4)
abbrev Y6:Ty:=(.prod (.slice (.prod (.int .i32) Y1)) Y5)
abbrev Y7:Ty:=(.prod (.slice (.prod (.int .i32) Y1)) Y6)
abbrev Y8:Ty:=(.prod (.tree .u8 .u32) (.tree .u8 .u32))
abbrev Y9:Ty:=(.prod (.slice (.int .i64)) (.slice (.prod (.int .u8) Y8)))
abbrev Mr:Ty:=(.prod (.int .u32) (.prod (.int .u32) Y9))
abbrev Ju:Ty:=(.prod (.slice .str) Mr)
abbrev BJ:Ty:=(.prod (.slice (.slice (.int .i64))) (.slice (.int .u32)))
abbrev mu:Ty:=(.prod Ju (.prod BJ BJ))
abbrev MJ:Ty:=(.prod (.int .u64) (.int .u64))
abbrev lR:Ty:=(.prod (.int .u64) (.prod (.int .u64) MJ))
abbrev A4:Ty:=(.prod .bool (.prod lR lR))
abbrev vK:Ty:=(.prod (.arr .i64 4352) (.slice (.arr .u8 256)))
abbrev LJ:Ty:=(.prod (.mapi .i32 .i64) (.slice (.int .u8)))
abbrev sR:Ty:=(.prod (.slice LJ) .unit)
abbrev qt:Ty:=(.prod (.slice (.int .i32)) (.slice (.int .u8)))
abbrev MF:Ty:=(.prod (.ptr sR) (.prod (.slice qt) Y2))
abbrev nG:Ty:=(.prod (.slice (.prod (.int .i32) Y1)) MF)
abbrev Mw:Ty:=(.prod (.ptr vK) (.ptr nG))
abbrev MB:Ty:=(.prod (.ptr vK) (.prod (.ptr vK) Mw))
abbrev zA:Ty:=(.prod (.ptr mu) (.prod (.ptr mu) MB))
abbrev Ib:Ty:=(.prod (.slice qt) (.slice qt))
abbrev Mu:Ty:=(.prod (.int .i64) (.int .u8))
abbrev fR:Ty:=(.prod (.int .i64) (.prod (.int .i64) Mu))
abbrev KQ:Ty:=(.prod (.slice fR) .bool)
abbrev JH:Ty:=(.prod (.slice fR) (.slice (.int .u8)))
abbrev Fk:Ty:=(.prod (.slice (.int .u8)) (.slice (.int .u8)))
abbrev Ms:Ty:=(.prod (.int .i64) .flt)
abbrev MI:Ty:=(.prod (.int .u8) (.prod (.int .i64) Ms))
abbrev Lx:Ty:=(.prod (.int .i64) (.prod (.int .i64) MI))
abbrev MD:Ty:=(.prod (.slice (.int .u8)) (.slice (.prod (.int .u8) Fk)))
abbrev LH:Ty:=(.prod (.int .u8) (.prod (.int .u8) MD))
abbrev L6:Ty:=(.prod (.int .u8) (.int .u8))
abbrev Mv:Ty:=(.prod (.slice (.int .u8)) L6)
abbrev Mx:Ty:=(.prod (.slice (.int .u8)) Mv)
abbrev Ml:Ty:=(.prod (.slice (.int .u8)) Mx)
abbrev MO:Ty:=(.prod (.slice (.int .u8)) Ml)
abbrev MN:Ty:=(.prod (.prod (.int .u8) LH) MO)
abbrev Mz:Ty:=(.prod (.prod (.int .u8) LH) MN)
abbrev ML:Ty:=(.prod (.int .u16) .flt)
abbrev My:Ty:=(.prod (.int .u8) (.prod (.int .u16) ML))
abbrev MA:Ty:=(.prod (.int .u8) (.prod (.int .u8) My))
abbrev Mi:Ty:=(.prod (.slice (.int .u8)) (.int .i64))
abbrev Mj:Ty:=(.prod (.slice lR) .bool)
abbrev Mn:Ty:=(.prod (.slice (.int .u32)) Mj)
abbrev MH:Ty:=(.prod (.int .u8) (.prod (.int .u8) L6))
abbrev MM:Ty:=(.prod (.int .u8) (.prod (.int .u8) MH))
abbrev Mp(j p q u:Int)(v:QX)(x z A B e:Int)(f:XX):Qv:=[(0,.box [.nils,.u32 j,.u32 p,.nils,.nils]),(1,.box [.i64 q,.i64 u]),(2,.box [.st v,.i64 x,.nils,.u32 z,.u32 A,.nils,.nils,.mp 3,.i64 B,.i64 e]),(3,.mpo .str (.int .u32) f)]
abbrev Lf(e:QX)(f j p q u:Int)(v:XX):Qv:=[(0,.box [.st e,.i64 f,.nils,.u32 j,.u32 p,.nils,.nils,.mp 1,.i64 q,.i64 u]),(1,.mpo .str (.int .u32) v)]
abbrev J4(e f j p:Int):Qv:=[(0,.box [.nils,.u32 e,.u32 f,.nils,.nils]),(1,.box [.i64 j,.i64 p])]
abbrev bM(f:QX)(j p q u v:Int)(x:QQ)(z:QK)(A:XJ)(e:XX):Qv:=[(0,.box [.st f,.i64 j,.sl 1,.u32 p,.u32 q,.sl 2,.sl 3,.mp 4,.i64 u,.i64 v]),(1,.arr 9 .str x),(2,.arr 3 (.int .i64) z),(3,.arr 185 (.prod (.int .u8) Y8) A),(4,.mpo .str (.int .u32) e)]
abbrev Iq(f:QX)(j p q u v:Int)(x:XJ)(z:XX)(A:QQ)(e:QK):Qv:=[(0,.box [.st f,.i64 j,.sl 5,.u32 p,.u32 q,.sl 6,.sl 3,.mp 4,.i64 u,.i64 v]),(3,.arr 185 (.prod (.int .u8) Y8) x),(4,.mpo .str (.int .u32) z),(5,.arr 9 .str A),(6,.arr 3 (.int .i64) e)]
abbrev LB(u:QX)(v x z A B:Int)(C:QQ)(D:QK)(E:XJ)(e:XX)(f j p q:Int):Qv:=[(0,.box [.st u,.i64 v,.sl 1,.u32 x,.u32 z,.sl 2,.sl 3,.mp 4,.i64 A,.i64 B]),(1,.arr 9 .str C),(2,.arr 3 (.int .i64) D),(3,.arr 185 (.prod (.int .u8) Y8) E),(4,.mpo .str (.int .u32) e),(5,.box [.u8 f,.u32 j,.nils]),(6,.box [.u8 p,.u32 q,.nils])]
abbrev KI(p:QX)(q u v x z:Int)(A:QQ)(B:QK)(C:XJ)(e:XX)(f j:Int):Qv:=[(0,.box [.st p,.i64 q,.sl 1,.u32 u,.u32 v,.sl 2,.sl 3,.mp 4,.i64 x,.i64 z]),(1,.arr 9 .str A),(2,.arr 3 (.int .i64) B),(3,.arr 185 (.prod (.int .u8) Y8) C),(4,.mpo .str (.int .u32) e),(5,.box [.u8 f,.u32 j,.nils])]
abbrev Jz(x:QX)(z A B C D:Int)(E:QQ)(I:QK)(J:XJ)(e:XX)(f j q u:Int)(v:XZ):Qv:=[(0,.box [.st x,.i64 z,.sl 1,.u32 A,.u32 B,.sl 2,.sl 3,.mp 4,.i64 C,.i64 D]),(1,.arr 9 .str E),(2,.arr 3 (.int .i64) I),(3,.arr 185 (.prod (.int .u8) Y8) J),(4,.mpo .str (.int .u32) e),(5,.box [.u8 f,.u32 j,.nils]),(6,.box [.u8 q,.u32 u,.p false (.slice (.tree .u8 .u32)) v])]
abbrev CN(u:QX)(v x z A B:Int)(C:QQ)(D:QK)(E:XJ)(e:XX)(f j:Int)(q:XZ):Qv:=[(0,.box [.st u,.i64 v,.sl 1,.u32 x,.u32 z,.sl 2,.sl 3,.mp 4,.i64 A,.i64 B]),(1,.arr 9 .str C),(2,.arr 3 (.int .i64) D),(3,.arr 185 (.prod (.int .u8) Y8) E),(4,.mpo .str (.int .u32) e),(5,.box [.u8 f,.u32 j,.p false (.slice (.tree .u8 .u32)) q])]
abbrev FL(q:QX)(u v x z A:Int)(B:QQ)(C:QK)(D:XJ)(e:XX)(f j:Int)(p:XZ):Qv:=[(0,.box [.st q,.i64 u,.sl 1,.u32 v,.u32 x,.sl 2,.sl 3,.mp 4,.i64 z,.i64 A]),(1,.arr 9 .str B),(2,.arr 3 (.int .i64) C),(3,.arr 185 (.prod (.int .u8) Y8) D),(4,.mpo .str (.int .u32) e),(5,.box [.u8 f,.u32 j,.nils]),(6,.arr 183 (.tree .u8 .u32) p)]
abbrev KO(f:QX)(j p q u v:Int)(x:QQ)(z:QK)(A:XX)(e:XJ):Qv:=[(0,.box [.st f,.i64 j,.sl 1,.u32 p,.u32 q,.sl 2,.sl 5,.mp 4,.i64 u,.i64 v]),(1,.arr 9 .str x),(2,.arr 3 (.int .i64) z),(4,.mpo .str (.int .u32) A),(5,.arr 185 (.prod (.int .u8) Y8) e)]
abbrev LN(j:QX)(p q u v x:Int)(z:XX)(A:QQ)(B:QK)(e:XJ)(f:XX):Qv:=[(0,.box [.st j,.i64 p,.sl 2,.u32 q,.u32 u,.sl 3,.sl 4,.mp 1,.i64 v,.i64 x]),(1,.mpo .str (.int .u32) z),(2,.arr 9 .str A),(3,.arr 3 (.int .i64) B),(4,.arr 185 (.prod (.int .u8) Y8) e),(5,.mpl .str [(([99,108,97,115,115]:QX),(ym 119)),(([115,101,116]:QX),(ym 120)),(([106,111,105,110]:QX),(ym 121)),(([116,114,101,97,116]:QX),(ym 122))]),(6,.mpo .str (.int .u8) f)]
abbrev Je(f:QX)(j p q u v:Int)(x:XX)(z:QQ)(A:QK)(e:XJ):Qv:=[(0,.box [.st f,.i64 j,.sl 2,.u32 p,.u32 q,.sl 3,.sl 4,.mp 1,.i64 u,.i64 v]),(1,.mpo .str (.int .u32) x),(2,.arr 9 .str z),(3,.arr 3 (.int .i64) A),(4,.arr 185 (.prod (.int .u8) Y8) e)]
abbrev LS(u v:Int)(x:Bool)(z:XZ)(A B C D:Int)(E:XZ)(e f:Int)(j:Bool)(q:XZ):Qv:=[(0,.box [.u8 u,.u32 v,.p x (.slice (.tree .u8 .u32)) z]),(1,.box [.u8 A,.u32 B,.nils]),(2,.box [.u8 C,.u32 D,.sl 3]),(3,.arr 183 (.tree .u8 .u32) E),(4,.box [.u8 e,.u32 f,.p j (.slice (.tree .u8 .u32)) q])]
abbrev LK(e f:Int)(j:Bool)(q:XZ)(u v x z:Int)(A:XZ):Qv:=[(0,.box [.u8 e,.u32 f,.p j (.slice (.tree .u8 .u32)) q]),(1,.box [.u8 u,.u32 v,.nils]),(2,.box [.u8 x,.u32 z,.sl 3]),(3,.arr 183 (.tree .u8 .u32) A)]
abbrev L0(e f j p:Int)(q:XZ):Qv:=[(0,.box [.u8 e,.u32 f,.nils]),(1,.box [.u8 j,.u32 p,.sl 2]),(2,.arr 183 (.tree .u8 .u32) q)]
abbrev JM(e:Bool)(f j p q u v x z:Int):Qv:=[(0,.box [.bo e,.u64 f,.u64 j,.u64 p,.u64 q,.u64 u,.u64 v,.u64 x,.u64 z])]
abbrev K5(e f j p q u v x:Int):Qv:=[(0,.box [.u64 e,.u64 f,.u64 j,.u64 p]),(1,.box [.u64 q,.u64 u,.u64 v,.u64 x])]
abbrev CW(e:Bool)(f:QK)(j:Qj):Qv:=[(0,.box [.sl 1,.sl 2,.bo e]),(1,.arr 40 (.int .u32) f),(2,.arr 264 lR j)]
abbrev L1(p q u v x z A B C e f j:Int):Qv:=[(0,.box [.u64 p,.u64 q,.u64 u,.u64 v]),(1,.box [.u64 x,.u64 z,.u64 A,.u64 B]),(2,.box [.u64 C,.u64 e,.u64 f,.u64 j])]
abbrev Ks(j:Bool)(p:QK)(q:Qj)(u v x z A B e f:Int):Qv:=[(0,.box [.sl 1,.sl 2,.bo j]),(1,.arr 40 (.int .u32) p),(2,.arr 264 lR q),(3,.box [.u64 u,.u64 v,.u64 x,.u64 z]),(4,.box [.u64 A,.u64 B,.u64 e,.u64 f])]
abbrev LG(z:Bool)(A:QK)(B:Qj)(C D:Int)(E:Bool)(I:XZ)(J:Bool)(L e f j q u v x:Int):Qv:=[(0,.box [.sl 1,.sl 2,.bo z]),(1,.arr 40 (.int .u32) A),(2,.arr 264 lR B),(3,.box [.u8 C,.u32 D,.p E (.slice (.tree .u8 .u32)) I]),(4,.box [.bo J,.u64 L,.u64 e,.u64 f,.u64 j,.u64 q,.u64 u,.u64 v,.u64 x])]
abbrev Kd(e:Bool)(f:QK)(j:Qj):Qv:=[(0,.box [.sl 3,.sl 4,.bo e]),(3,.arr 40 (.int .u32) f),(4,.arr 264 lR j)]
abbrev KA(X:Bool)(Y:QK)(Z:Qj)(a4:Bool)(a5 a6 a7 a8 a9 e f j:Int)(p:Bool)(q u v x z A B C:Int)(D:Bool)(E I J L M N O V:Int):Qv:=[(0,.box [.sl 3,.sl 4,.bo X]),(3,.arr 40 (.int .u32) Y),(4,.arr 264 lR Z),(5,.box [.bo a4,.u64 a5,.u64 a6,.u64 a7,.u64 a8,.u64 a9,.u64 e,.u64 f,.u64 j]),(6,.box [.bo p,.u64 q,.u64 u,.u64 v,.u64 x,.u64 z,.u64 A,.u64 B,.u64 C]),(7,.box [.bo D,.u64 E,.u64 I,.u64 J,.u64 L,.u64 M,.u64 N,.u64 O,.u64 V])]
abbrev HH(D:Bool)(E:QK)(I:Qj)(J:Bool)(L M N O V e f j:Int)(p:Bool)(q u v x z A B C:Int):Qv:=[(0,.box [.sl 3,.sl 4,.bo D]),(3,.arr 40 (.int .u32) E),(4,.arr 264 lR I),(5,.box [.bo J,.u64 L,.u64 M,.u64 N,.u64 O,.u64 V,.u64 e,.u64 f,.u64 j]),(6,.box [.bo p,.u64 q,.u64 u,.u64 v,.u64 x,.u64 z,.u64 A,.u64 B,.u64 C])]
abbrev JK(D E:Bool)(I J L M N O V e:Int)(f:Bool)(j p q u v x z A:Int)(B:QK)(C:Qj):Qv:=[(0,.box [.sl 5,.sl 6,.bo D]),(3,.box [.bo E,.u64 I,.u64 J,.u64 L,.u64 M,.u64 N,.u64 O,.u64 V,.u64 e]),(4,.box [.bo f,.u64 j,.u64 p,.u64 q,.u64 u,.u64 v,.u64 x,.u64 z,.u64 A]),(5,.arr 40 (.int .u32) B),(6,.arr 264 lR C)]
abbrev LO(M:Bool)(N O:Int)(V:Bool)(X:XZ)(Y:Bool)(Z a8 a9 e f j q u:Int)(v:Bool)(x z A B C D E I:Int)(J:QK)(L:Qj):Qv:=[(0,.box [.sl 6,.sl 7,.bo M]),(3,.box [.u8 N,.u32 O,.p V (.slice (.tree .u8 .u32)) X]),(4,.box [.bo Y,.u64 Z,.u64 a8,.u64 a9,.u64 e,.u64 f,.u64 j,.u64 q,.u64 u]),(5,.box [.bo v,.u64 x,.u64 z,.u64 A,.u64 B,.u64 C,.u64 D,.u64 E,.u64 I]),(6,.arr 40 (.int .u32) J),(7,.arr 264 lR L)]
abbrev Lz(M:Bool)(N:QK)(O:Qj)(V X:Int)(Y:Bool)(Z:XZ)(a8:Bool)(a9 e f j q u v x:Int)(z:Bool)(A B C D E I J L:Int):Qv:=[(0,.box [.sl 3,.sl 4,.bo M]),(3,.arr 40 (.int .u32) N),(4,.arr 264 lR O),(5,.box [.u8 V,.u32 X,.p Y (.slice (.tree .u8 .u32)) Z]),(6,.box [.bo a8,.u64 a9,.u64 e,.u64 f,.u64 j,.u64 q,.u64 u,.u64 v,.u64 x]),(7,.box [.bo z,.u64 A,.u64 B,.u64 C,.u64 D,.u64 E,.u64 I,.u64 J,.u64 L])]
abbrev E4(p:Bool)(q:QK)(u:Qj)(v:Bool)(x z A B C e f j:Int):Qv:=[(0,.box [.sl 3,.sl 4,.bo p]),(3,.arr 40 (.int .u32) q),(4,.arr 264 lR u),(5,.box [.bo v,.u64 x,.u64 z,.u64 A,.u64 B,.u64 C,.u64 e,.u64 f,.u64 j])]
abbrev D8(C:Bool)(D:QK)(E:Qj)(I:List Z9)(J L M N:Int)(O:QZ)(e:QK)(f:Qj)(j:List (Z2×Int))(p q u v x z A B:Int):Qv:=[(0,.box [.nils,.nils]),(1,.box [.sl 2,.sl 3,.bo C]),(2,.arr 40 (.int .u32) D),(3,.arr 264 lR E),(4,.arr 266 A4 I),(5,.box [.u64 J,.u64 L,.u64 M,.u64 N]),(6,.box [.sl 7,.sl 8]),(7,.arr 41 (.slice (.int .i64)) O),(8,.arr 40 (.int .u32) e),(9,.arr 264 lR f),(10,.mpo lR (.int .i64) j),(11,.box [.u64 p,.u64 q,.u64 u,.u64 v]),(12,.box [.u64 x,.u64 z,.u64 A,.u64 B])]
abbrev HG(D:Bool)(E:QK)(I:Qj)(J:List Z9)(L M N O:Int)(V:QZ)(e:QK)(f:Qj)(j:List (Z2×Int))(p q u v:Int)(x:QK)(z A B C:Int):Qv:=[(0,.box [.nils,.nils]),(1,.box [.sl 2,.sl 3,.bo D]),(2,.arr 40 (.int .u32) E),(3,.arr 264 lR I),(4,.arr 266 A4 J),(5,.box [.u64 L,.u64 M,.u64 N,.u64 O]),(6,.box [.sl 7,.sl 8]),(7,.arr 41 (.slice (.int .i64)) V),(8,.arr 40 (.int .u32) e),(9,.arr 264 lR f),(10,.mpo lR (.int .i64) j),(11,.box [.u64 p,.u64 q,.u64 u,.u64 v]),(12,.arr 3 (.int .i64) x),(13,.box [.u64 z,.u64 A,.u64 B,.u64 C])]
abbrev Kq(z:Bool)(A:QK)(B:Qj)(C:List Z9)(D E I J:Int)(L:QZ)(e:QK)(f:Qj)(j:List (Z2×Int))(p q u v:Int)(x:QK):Qv:=[(0,.box [.nils,.nils]),(1,.box [.sl 2,.sl 3,.bo z]),(2,.arr 40 (.int .u32) A),(3,.arr 264 lR B),(4,.arr 266 A4 C),(5,.box [.u64 D,.u64 E,.u64 I,.u64 J]),(6,.box [.sl 7,.sl 8]),(7,.arr 41 (.slice (.int .i64)) L),(8,.arr 40 (.int .u32) e),(9,.arr 264 lR f),(10,.mpo lR (.int .i64) j),(11,.box [.u64 p,.u64 q,.u64 u,.u64 v]),(12,.arr 3 (.int .i64) x)]
abbrev Lq(q:Bool)(u:QK)(v:Qj)(x:List Z9)(z A B C:Int)(D:QZ)(e:QK)(f:Qj)(j:List (Z2×Int))(p:QK):Qv:=[(0,.box [.nils,.nils]),(1,.box [.sl 2,.sl 3,.bo q]),(2,.arr 40 (.int .u32) u),(3,.arr 264 lR v),(4,.arr 266 A4 x),(5,.box [.u64 z,.u64 A,.u64 B,.u64 C]),(6,.box [.sl 7,.sl 8]),(7,.arr 41 (.slice (.int .i64)) D),(8,.arr 40 (.int .u32) e),(9,.arr 264 lR f),(10,.mpo lR (.int .i64) j),(11,.arr 3 (.int .i64) p)]
abbrev Ls(x:Bool)(z:QK)(A:Qj)(B:List Z9)(C D E I:Int)(J:QZ)(e:QK)(f:Qj)(j:List (Z2×Int))(p q u v:Int):Qv:=[(0,.box [.nils,.nils]),(1,.box [.sl 2,.sl 3,.bo x]),(2,.arr 40 (.int .u32) z),(3,.arr 264 lR A),(4,.arr 266 A4 B),(5,.box [.u64 C,.u64 D,.u64 E,.u64 I]),(6,.box [.sl 7,.sl 8]),(7,.arr 41 (.slice (.int .i64)) J),(8,.arr 40 (.int .u32) e),(9,.arr 264 lR f),(10,.mpo lR (.int .i64) j),(11,.box [.u64 p,.u64 q,.u64 u,.u64 v])]
abbrev Ln(p:Bool)(q:QK)(u:Qj)(v:List Z9)(x z A B:Int)(C:QZ)(e:QK)(f:Qj)(j:List (Z2×Int)):Qv:=[(0,.box [.nils,.nils]),(1,.box [.sl 2,.sl 3,.bo p]),(2,.arr 40 (.int .u32) q),(3,.arr 264 lR u),(4,.arr 266 A4 v),(5,.box [.u64 x,.u64 z,.u64 A,.u64 B]),(6,.box [.sl 7,.sl 8]),(7,.arr 41 (.slice (.int .i64)) C),(8,.arr 40 (.int .u32) e),(9,.arr 264 lR f),(10,.mpo lR (.int .i64) j)]
abbrev KS(e:QZ)(f:QK):Qv:=[(0,.box [.nils,.nils]),(1,.box [.sl 2,.sl 3]),(2,.arr 41 (.slice (.int .i64)) e),(3,.arr 40 (.int .u32) f)]
abbrev KP(e:Bool)(f:QK)(j:Qj)(p:List Z9)(q u v x:Int):Qv:=[(0,.box [.nils,.nils]),(1,.box [.sl 2,.sl 3,.bo e]),(2,.arr 40 (.int .u32) f),(3,.arr 264 lR j),(4,.arr 266 A4 p),(5,.box [.u64 q,.u64 u,.u64 v,.u64 x])]
abbrev KE(e:Bool)(f:QK)(j:Qj)(p:List Z9):Qv:=[(0,.box [.nils,.nils]),(1,.box [.sl 2,.sl 3,.bo e]),(2,.arr 40 (.int .u32) f),(3,.arr 264 lR j),(4,.arr 266 A4 p)]
abbrev GZ(e:Bool)(f:QZ)(j:Bool)(q:QK):Qv:=[(0,.box [.p e (.slice (.slice (.int .i64))) f,.p j (.slice (.int .u32)) q])]
abbrev Ic(e:XX)(f j:QK):Qv:=[(0,.mpo .str (.int .i64) e),(1,.arr 3 (.int .i64) f),(2,.arr 3 (.int .i64) j)]
abbrev IA(e:XX)(f j p:QK):Qv:=[(0,.mpo .str (.int .i64) e),(1,.arr 3 (.int .i64) f),(2,.arr 3 (.int .i64) j),(3,.arr 5 (.int .u8) p)]
abbrev L3(e:Bool)(f:QZ)(j:Bool)(q:QK)(u:QZ)(v x z:QK):Qv:=[(0,.box [.p e (.slice (.slice (.int .i64))) f,.p j (.slice (.int .u32)) q]),(1,.box [.nils,.nils]),(2,.box [.sl 3,.sl 4]),(3,.arr 41 (.slice (.int .i64)) u),(4,.arr 40 (.int .u32) v),(5,.arr 3 (.int .i64) x),(6,.arr 3 (.int .i64) z)]
abbrev Js(e:Bool)(f:QZ)(j:Bool)(q:QK)(u:QZ)(v x z A:QK):Qv:=[(0,.box [.p e (.slice (.slice (.int .i64))) f,.p j (.slice (.int .u32)) q]),(1,.box [.nils,.nils]),(2,.box [.sl 3,.sl 4]),(3,.arr 41 (.slice (.int .i64)) u),(4,.arr 40 (.int .u32) v),(5,.arr 3 (.int .i64) x),(6,.arr 3 (.int .i64) z),(7,.arr 3 (.int .i64) A)]
abbrev K0(e:Bool)(f:QZ)(j:Bool)(q u:QK):Qv:=[(0,.box [.p e (.slice (.slice (.int .i64))) f,.p j (.slice (.int .u32)) q]),(1,.box [.nils,.nils]),(2,.box [.nils,.nils]),(3,.arr 3 (.int .i64) u)]
abbrev K8(e:Bool)(f:QZ)(j:Bool)(q u:QK):Qv:=[(0,.box [.p e (.slice (.slice (.int .i64))) f,.p j (.slice (.int .u32)) q]),(1,.box [.nils,.nils]),(2,.box [.p false (.slice (.int .i64)) u])]
abbrev Kl(e:QQ)(f j:Int)(q:QK)(u:XJ)(v x:XZ):Qv:=[(0,.box [.p false (.slice .str) e,.u32 f,.u32 j,.p false (.slice (.int .i64)) q,.p false (.slice (.prod (.int .u8) Y8)) u]),(1,.arr 183 (.tree .u8 .u32) v),(2,.arr 183 (.tree .u8 .u32) x)]
abbrev Aw(e:eY 4352)(f:List (eY 256))(j:List ((eY 256)×Int))(p:eY 256):Qv:=[(0,.lmp .i64 4352 e [.sl 1]),(1,.arr 155 (.arr .u8 256) f),(2,.mpo (.arr .u8 256) (.int .i64) j),(3,.lmp .u8 256 p [])]
abbrev KU(e:eY 4352)(f:List (eY 256))(j:List ((eY 256)×Int)):Qv:=[(0,.lmp .i64 4352 e [.sl 1]),(1,.arr 155 (.arr .u8 256) f),(2,.mpo (.arr .u8 256) (.int .i64) j)]
abbrev Lr(e:eY 4352)(f:List (eY 256)):Qv:=[(0,.lmp .i64 4352 e [.sl 1]),(1,.arr 155 (.arr .u8 256) f)]
abbrev Ii(e f j p q u:Int):Qv:=[(0,.box [.i32 e,.i64 f,.i64 j]),(1,.box [.i32 p,.i64 q,.i64 u])]
abbrev Ir(e f:QK):Qv:=[(0,.box [.nils,.nils]),(1,.box [.sl 2,.sl 3]),(2,.arr 21 (.int .i32) e),(3,.arr 5 (.int .u8) f)]
abbrev Kw(e f:QK)(j p q:Int):Qv:=[(0,.box [.nils,.nils]),(1,.box [.sl 2,.sl 3]),(2,.arr 21 (.int .i32) e),(3,.arr 5 (.int .u8) f),(4,.box [.i32 j,.i64 p,.i64 q])]
abbrev L2(e f:QK):Qv:=[(0,.box [.sl 1,.sl 2]),(1,.arr 21 (.int .i32) e),(2,.arr 5 (.int .u8) f)]
abbrev EU(e f:Int)(j p:List Z8):Qv:=[(0,.box [.nils,.nils]),(1,.box [.i64 e,.i64 f]),(2,.box [.sl 3,.sl 4]),(3,.arr 210 qt j),(4,.arr 210 qt p)]
abbrev HC(e:List Nd)(f:Bool)(j:QK)(q:Bool)(u:QK):Qv:=[(0,.box [.sl 1]),(1,.nds 222 5 e none),(2,.box [.p f (.slice (.int .i32)) j,.p q (.slice (.int .u8)) u])]
abbrev F9(e f j:QK):Qv:=[(0,.arr 91 (.int .u8) e),(1,.arr 3 (.int .i64) f),(2,.arr 3 (.int .i64) j)]
abbrev KG(e:Bool)(f:QZ)(j:Bool)(q u:QK):Qv:=[(0,.box [.p e (.slice (.slice (.int .i64))) f,.p j (.slice (.int .u32)) q]),(1,.arr 3 (.int .i64) u)]
abbrev KF(e:Bool)(f:QK)(j:List Bool):Qv:=[(0,.box [.p e (.slice (.int .i32)) f]),(1,.arr 4 .bool j)]
abbrev Jj(e:Qj)(f:QK)(j p q:Int):Qv:=[(0,.arr 90 fR e),(1,.arr 3 (.int .i64) f),(2,.box [.i32 j,.i64 p,.i64 q])]
abbrev Fc(e:Qj)(f:QK):Qv:=[(0,.box [.nils,.nils]),(1,.box [.p false (.slice fR) e,.sl 2]),(2,.arr 91 (.int .u8) f)]
abbrev KT(e:Bool)(f:Qj)(j:Bool)(q:QK):Qv:=[(0,.box [.p e (.slice fR) f,.p j (.slice (.int .u8)) q])]
abbrev KX(f:Bool)(j:Qj)(q:Bool)(u:QK)(v x z A B:Int)(e:QJ):Qv:=[(0,.box [.p f (.slice fR) j,.p q (.slice (.int .u8)) u]),(1,.box [.i64 v,.i64 x,.u8 z,.i64 A,.i64 B,.p false .flt e])]
abbrev HT(v:Bool)(x:Qj)(z:Bool)(A:QK)(B C D E I:Int)(e:QJ)(f j q u:Int):Qv:=[(0,.box [.p v (.slice fR) x,.p z (.slice (.int .u8)) A]),(1,.box [.i64 B,.i64 C,.u8 D,.i64 E,.i64 I,.p false .flt e]),(2,.box [.i64 f,.i64 j]),(3,.box [.i64 q,.i64 u])]
abbrev J5(z:Bool)(A:Qj)(B:Bool)(C:QK)(D E I J L:Int)(e:QJ)(f j q u v x:Int):Qv:=[(0,.box [.p z (.slice fR) A,.p B (.slice (.int .u8)) C]),(1,.box [.i64 D,.i64 E,.u8 I,.i64 J,.i64 L,.p false .flt e]),(2,.box [.i64 f,.i64 j]),(3,.box [.i64 q,.i64 u]),(4,.box [.i64 v,.i64 x])]
abbrev LZ(e f j p:Int):Qv:=[(0,.box [.i64 e,.i64 f]),(1,.box [.i64 j,.i64 p])]
abbrev HI(j:Bool)(q:Qj)(u:Bool)(v:QK)(x z A B C:Int)(e:QJ)(f:Qq):Qv:=[(0,.box [.p j (.slice fR) q,.p u (.slice (.int .u8)) v]),(1,.box [.i64 x,.i64 z,.u8 A,.i64 B,.i64 C,.p false .flt e]),(2,.arr 298 Y2 f)]
abbrev LY(e:Bool)(f:Qj)(j:Bool)(q u:QK):Qv:=[(0,.box [.p e (.slice fR) f,.p j (.slice (.int .u8)) q]),(1,.arr 3 (.int .i64) u)]
abbrev Lv(q:Bool)(u:Qj)(v:Bool)(x:QK)(z A B C D:Int)(e:QJ)(f:Qq)(j:Qj):Qv:=[(0,.box [.p q (.slice fR) u,.p v (.slice (.int .u8)) x]),(1,.box [.i64 z,.i64 A,.u8 B,.i64 C,.i64 D,.p false .flt e]),(2,.arr 298 Y2 f),(3,.arr 197 fR j)]
abbrev Bg(v:Bool)(x:Qj)(z:Bool)(A:QK)(B C D E I:Int)(e:QJ)(f j q u:Int):Qv:=[(0,.box [.p v (.slice fR) x,.p z (.slice (.int .u8)) A]),(1,.box [.i64 B,.i64 C,.u8 D,.i64 E,.i64 I,.p false .flt e]),(2,.box [.i64 f,.i64 j,.i64 q,.u8 u])]
abbrev JF(j:Bool)(q:Qj)(u:Bool)(v:QK)(x z A B C:Int)(e:QJ)(f:Qj):Qv:=[(0,.box [.p j (.slice fR) q,.p u (.slice (.int .u8)) v]),(1,.box [.i64 x,.i64 z,.u8 A,.i64 B,.i64 C,.p false .flt e]),(2,.arr 197 fR f)]
abbrev KB(e:Bool)(f:Qj)(j:Bool)(q:QK)(u:Qj):Qv:=[(0,.box [.p e (.slice fR) f,.p j (.slice (.int .u8)) q]),(1,.arr 93 fR u)]
abbrev IE(e:QK)(f:XK):Qv:=[(0,.arr 21 (.int .i32) e),(1,.arr 115 (.prod (.int .i32) Y1) f)]
abbrev Dr(e f j:Int)(q:Bool)(u:QK)(v:List wE):Qv:=[(0,.box [.u8 e,.u8 f,.u8 j,.p q (.slice (.int .u8)) u,.p false (.slice (.prod (.int .u8) Fk)) v])]
abbrev IT(e f j:Int)(q:Bool)(u:QK)(v:List wE)(x:QQ):Qv:=[(0,.box [.u8 e,.u8 f,.u8 j,.p q (.slice (.int .u8)) u,.p false (.slice (.prod (.int .u8) Fk)) v]),(1,.arr 9 .str x)]
def tb:bQ:=[
 (3,⟨some (.int .i64),(.int .i64),1,8,[.i64 0]⟩),
 (4,⟨some .bool,.bool,1,1,[.bo false]⟩),
 (5,⟨some (.int .u8),(.int .u8),1,1,[.u8 0]⟩),
 (9,⟨some .str,.str,1,16,[.st ([]:QX)]⟩),
 (20,⟨none,.other,1,16,[.lit .nilIface]⟩),
 (21,⟨some (.int .i32),(.int .i32),1,4,[.i32 0]⟩),
 (22,⟨some (.slice (.int .u8)),(.sl 5),1,24,[.nils]⟩),
 (23,⟨some (.slice (.prod (.int .u8) Fk)),(.sl 168),1,24,[.nils]⟩),
 (25,⟨some (.prod (.int .u8) LH),(.st [(0,5),(1,5),(2,5),(3,22),(4,23)]),5,56,[.u8 0,.u8 0,.u8 0,.nils,.nils]⟩),
 (27,⟨some Mz,(.st [(0,25),(5,25),(10,22),(11,22),(12,22),(13,22),(14,5),(15,5)]),16,216,[.u8 0,.u8 0,.u8 0,.nils,.nils,.u8 0,.u8 0,.u8 0,.nils,.nils,.nils,.nils,.nils,.nils,.u8 0,.u8 0]⟩),
 (29,⟨some (.ptr zA),.other,1,8,[.nilp]⟩),
 (30,⟨some (.int .i64),(.int .i64),1,8,[.i64 0]⟩),
 (32,⟨some Y2,(.st [(0,30),(1,3)]),2,16,[.i64 0,.i64 0]⟩),
 (35,⟨some (.slice (.prod (.int .i32) Y1)),(.sl 115),1,24,[.nils]⟩),
 (37,⟨some Y7,(.st [(0,35),(1,35),(2,35),(3,35),(4,9),(5,9),(6,9),(7,3),(8,3)]),9,160,[.nils,.nils,.nils,.nils,.st ([]:QX),.st ([]:QX),.st ([]:QX),.i64 0,.i64 0]⟩),
 (39,⟨some (.slice .str),(.sl 9),1,24,[.nils]⟩),
 (40,⟨some (.int .u32),(.int .u32),1,4,[.u32 0]⟩),
 (41,⟨some (.slice (.int .i64)),(.sl 3),1,24,[.nils]⟩),
 (42,⟨some (.slice (.prod (.int .u8) Y8)),(.sl 185),1,24,[.nils]⟩),
 (44,⟨some Ju,(.st [(0,39),(1,40),(2,40),(3,41),(4,42)]),5,80,[.nils,.u32 0,.u32 0,.nils,.nils]⟩),
 (45,⟨some (.slice qt),(.sl 210),1,24,[.nils]⟩),
 (47,⟨some Ib,(.st [(0,45),(1,45)]),2,48,[.nils,.nils]⟩),
 (56,⟨some (.slice fR),(.sl 90),1,24,[.nils]⟩),
 (57,⟨some (.slice (.int .u8)),(.sl 91),1,24,[.nils]⟩),
 (59,⟨some JH,(.st [(0,56),(1,57)]),2,48,[.nils,.nils]⟩),
 (66,⟨some (.int .u16),(.int .u16),1,2,[.p false (.int .u16) (0:Int)]⟩),
 (67,⟨some .flt,.flt,1,8,[.p false .flt (eA 0)]⟩),
 (69,⟨some MA,(.st [(0,5),(1,5),(2,5),(3,66),(4,66),(5,67)]),6,16,[.u8 0,.u8 0,.u8 0,.p false (.int .u16) (0:Int),.p false (.int .u16) (0:Int),.p false .flt (eA 0)]⟩),
 (70,⟨some (.int .u8),(.int .u8),1,1,[.u8 0]⟩),
 (72,⟨some Lx,(.st [(0,3),(1,3),(2,70),(3,3),(4,3),(5,67)]),6,48,[.i64 0,.i64 0,.u8 0,.i64 0,.i64 0,.p false .flt (eA 0)]⟩),
 (75,⟨some (.slice fR),(.sl 93),1,24,[.nils]⟩),
 (77,⟨some KQ,(.st [(0,75),(1,4)]),2,32,[.nils,.bo false]⟩),
 (87,⟨none,(.mp 3 3),1,8,[.lit (.map none)]⟩),
 (88,⟨some (.int .u8),(.int .u8),1,1,[.u8 0]⟩),
 (90,⟨some fR,(.st [(0,3),(1,3),(2,3),(3,88)]),4,32,[.i64 0,.i64 0,.i64 0,.u8 0]⟩),
 (91,⟨some (.int .u8),(.int .u8),1,1,[.u8 0]⟩),
 (93,⟨some fR,(.st [(0,3),(1,3),(2,3),(3,91)]),4,32,[.i64 0,.i64 0,.i64 0,.u8 0]⟩),
 (98,⟨some (.ptr mu),.other,1,8,[.nilp]⟩),
 (99,⟨some (.ptr vK),.other,1,8,[.nilp]⟩),
 (100,⟨some (.ptr nG),.other,1,8,[.nilp]⟩),
 (102,⟨some zA,(.st [(0,98),(1,98),(2,99),(3,99),(4,99),(5,100)]),6,48,[.nilp,.nilp,.nilp,.nilp,.nilp,.nilp]⟩),
 (105,⟨none,.other,1,8,[.nilp]⟩),
 (107,⟨none,(.st [(0,105),(1,35),(2,3)]),3,40,[.nilp,.nils,.i64 0]⟩),
 (108,⟨none,(.sl 107),1,24,[.nils]⟩),
 (115,⟨some (.prod (.int .i32) Y1),(.st [(0,21),(1,21),(2,3)]),3,16,[.i32 0,.i32 0,.i64 0]⟩),
 (124,⟨some (.slice (.prod (.int .i32) Y2)),(.sl 174),1,24,[.nils]⟩),
 (129,⟨some (.slice .bool),(.sl 4),1,24,[.nils]⟩),
 (134,⟨some (.slice fR),(.sl 197),1,24,[.nils]⟩),
 (142,⟨some (.slice (.slice (.int .i64))),(.sl 41),1,24,[.nils]⟩),
 (143,⟨some (.slice (.int .u32)),(.sl 40),1,24,[.nils]⟩),
 (145,⟨some BJ,(.st [(0,142),(1,143)]),2,48,[.nils,.nils]⟩),
 (147,⟨some mu,(.st [(0,44),(5,145),(7,145)]),9,176,[.nils,.u32 0,.u32 0,.nils,.nils,.nils,.nils,.nils,.nils]⟩),
 (148,⟨some (.slice (.arr .u8 256)),(.sl 155),1,24,[.nils]⟩),
 (149,⟨some (.arr .i64 4352),(.ar 4352 3),4352,34816,(List.replicate 4352 (.i64 0))⟩),
 (151,⟨some vK,(.st [(0,149),(4352,148)]),4353,34840,(List.replicate 4352 (.i64 0)++[.nils])⟩),
 (152,⟨none,(.mp 155 3),1,8,[.lit (.map none)]⟩),
 (153,⟨some (.int .u64),(.int .u64),1,8,[.u64 0]⟩),
 (155,⟨some (.arr .u8 256),(.ar 256 5),256,256,(List.replicate 256 (.u8 0))⟩),
 (160,⟨some (.ptr sR),.other,1,8,[.nilp]⟩),
 (163,⟨some nG,(.st [(0,35),(1,160),(2,45),(3,3),(4,3)]),5,72,[.nils,.nilp,.nils,.i64 0,.i64 0]⟩),
 (164,⟨some (.slice (.int .i32)),(.sl 21),1,24,[.nils]⟩),
 (168,⟨some (.prod (.int .u8) Fk),(.st [(0,5),(1,22),(2,22)]),3,56,[.u8 0,.nils,.nils]⟩),
 (174,⟨some (.prod (.int .i32) Y2),(.st [(0,21),(1,3),(2,3)]),3,24,[.i32 0,.i64 0,.i64 0]⟩),
 (180,⟨some (.int .u8),(.int .u8),1,1,[.u8 0]⟩),
 (181,⟨some (.slice (.tree .u8 .u32)),(.sl 183),1,24,[.nils]⟩),
 (183,⟨some (.tree .u8 .u32),(.st [(0,180),(1,40),(2,181)]),3,32,[.u8 0,.u32 0,.nils]⟩),
 (185,⟨some (.prod (.int .u8) Y8),(.st [(0,91),(1,183),(4,183)]),7,72,[.u8 0,.u8 0,.u32 0,.nils,.u8 0,.u32 0,.nils]⟩),
 (197,⟨some fR,(.st [(0,3),(1,3),(2,3),(3,91)]),4,32,[.i64 0,.i64 0,.i64 0,.u8 0]⟩),
 (198,⟨none,.other,1,8,[.nilp]⟩),
 (199,⟨none,(.mp 9 40),1,8,[.lit (.map none)]⟩),
 (201,⟨none,(.st [(0,9),(1,3),(2,44),(7,199),(8,3),(9,3)]),10,128,[.st ([]:QX),.i64 0,.nils,.u32 0,.u32 0,.nils,.nils,.lit (.map none),.i64 0,.i64 0]⟩),
 (210,⟨some qt,(.st [(0,164),(1,22)]),2,48,[.nils,.nils]⟩),
 (216,⟨none,.other,1,8,[.lit .nilFunc]⟩),
 (217,⟨some (.slice LJ),(.sl 222),1,24,[.nils]⟩),
 (219,⟨some sR,(.st [(0,217)]),1,24,[.nils]⟩),
 (220,⟨some (.mapi .i32 .i64),(.mp 21 3),1,8,[.lit (.map none)]⟩),
 (222,⟨some LJ,(.st [(0,220),(1,22)]),2,32,[.lit (.map none),.nils]⟩),
 (225,⟨none,.other,1,8,[.nilp]⟩),
 (227,⟨some Mi,(.st [(0,22),(1,3)]),2,32,[.nils,.i64 0]⟩),
 (241,⟨none,.other,1,8,[.lit .nilFunc]⟩),
 (249,⟨none,.other,1,8,[.lit .nilFunc]⟩),
 (250,⟨none,(.mp 9 249),1,8,[.lit (.map none)]⟩),
 (251,⟨none,(.mp 9 91),1,8,[.lit (.map none)]⟩),
 (257,⟨none,.other,1,8,[.nilp]⟩),
 (258,⟨some (.slice lR),(.sl 264),1,24,[.nils]⟩),
 (260,⟨some Mn,(.st [(0,143),(1,258),(2,4)]),3,56,[.nils,.nils,.bo false]⟩),
 (261,⟨some (.slice A4),(.sl 266),1,24,[.nils]⟩),
 (262,⟨some (.int .u64),(.int .u64),1,8,[.u64 0]⟩),
 (264,⟨some lR,(.ar 4 262),4,32,[.u64 0,.u64 0,.u64 0,.u64 0]⟩),
 (266,⟨some A4,(.st [(0,4),(1,264),(5,264)]),9,72,[.bo false,.u64 0,.u64 0,.u64 0,.u64 0,.u64 0,.u64 0,.u64 0,.u64 0]⟩),
 (269,⟨none,(.mp 264 3),1,8,[.lit (.map none)]⟩),
 (274,⟨none,.other,1,8,[.lit .nilFunc]⟩),
 (278,⟨none,.other,1,8,[.lit .nilFunc]⟩),
 (296,⟨some (.slice Y2),(.sl 298),1,24,[.nils]⟩),
 (298,⟨some Y2,(.st [(0,3),(1,3)]),2,16,[.i64 0,.i64 0]⟩),
 (310,⟨none,(.mp 9 3),1,8,[.lit (.map none)]⟩),
 (330,⟨some (.prod (.int .u8) MM),(.ar 7 5),7,7,[.u8 0,.u8 0,.u8 0,.u8 0,.u8 0,.u8 0,.u8 0]⟩)]
theorem iR:cb Tryz.prog tb:=Jo (by kernel_rfl) (by kernel_rfl) (by kernel_rfl)
theorem JV:Jl Tryz.prog 93 fR:=HL 8 (by decide) (by kernel_rfl) ⟨by kernel_rfl,rfl⟩
theorem CR:hI Tryz.prog 155 (.arr .u8 256):=hI.D3 (e:=5) rfl rfl rfl (by kernel_rfl) rfl rfl rfl
theorem za:hI Tryz.prog 264 lR:=hI.D3 (e:=262) rfl rfl rfl (by kernel_rfl) rfl rfl rfl
theorem mixed:Tryz.prog.follows .mixedOrders=true:=by kernel_rfl
theorem PB{fid:FuncId}{fn:Func}{c:Code}(u:Tryz.prog.funcs[fid]? = some fn){args:List af}{f:List (Σ T:Ty,T.den)}(h:∀Bw w0,W Tryz.prog fn.ntmps Bw w0 c (nj args) (Kg tb fn.results.toList f))(j:(fn.name == "runtime.NumGoroutine")=false:=by kernel_rfl)(hb:fn.body=some c:=by exact rfl)(p:Nat.ble args.length fn.ntmps=true:=by exact rfl)(q:nO args=true:=by exact rfl):Pure Tryz.prog fid args (aK (bf false f)):=Pure.jz iR u j hb (nl p) h q
theorem OB{fid:FuncId}{fn:Func}{c:Code}(j:Tryz.prog.funcs[fid]? = some fn){args:List af}{hin hout:Qv}{r:af}(h:∀Bw w0,W Tryz.prog fn.ntmps Bw w0 c (qN args hin) (xa tb fn.ntmps fn.results.toList r hout))(e:(fn.name == "runtime.NumGoroutine")=false:=by kernel_rfl)(hb:fn.body=some c:=by exact rfl)(f:Nat.ble args.length fn.ntmps=true:=by exact rfl):jh Tryz.prog fid args hin r hout:=jh.jz iR j e hb (nl f) h
theorem DB{fid:FuncId}{fn:Func}{c:Code}(p:Tryz.prog.funcs[fid]? = some fn){args:List af}{hin:Qv}{f:(af×Qv)⊕Value}(h:∀Bw w0,W Tryz.prog fn.ntmps Bw w0 c (qN args hin) (KC tb fn.ntmps fn.results.toList f))(e:(fn.name == "runtime.NumGoroutine")=false:=by kernel_rfl)(hb:fn.body=some c:=by exact rfl)(j:Nat.ble args.length fn.ntmps=true:=by exact rfl):iW Tryz.prog fid args hin f:=iW.jz iR p e hb (nl j) h
theorem RO{n:NS}{σ:St}{j:List ResultVar}{r:af}{hout:Qv}(Ts:List (Option Ty))(q:List Tv.G)(f:QV)(l:List (Nat×af))(m:Qv)(nx pn:Nat)(u:goal q f l m σ=some (want f l m):=by kernel_rfl)(e:(σ.pn == pn && kC (Hm f) l m nx pn)=true:=by kernel_rfl)(v:Hr tb j Ts hout (aA l m nx pn)=some (r,hout.map (fun p=>some p.2)):=by kernel_rfl):xa tb n j r hout .ret σ:=Cu Ts q f l m nx pn u e v
theorem RI{σ:St}{j:List ResultVar}{f:List (Σ T:Ty,T.den)}(Ts:List Ty)(h:(match sE tb σ.s σ.h j with | some xs=>mg σ.h xs Ts | none=>none)=some f:=by kernel_rfl):Kg tb j f .ret σ:=Eo Ts h
section
variable{n:NS}{Bw:Nat→Prop}{w0:cv Tryz.prog}{σ:St}{Q:Exit→St→Prop}{id:Nat}{ops:Array Oper}{d:Code}{fid:FuncId}{args:List af}{hin hout:Qv}{r:af}{y:Value}
theorem Ge(e:∀σ',Le n σ' (iC Tryz.prog tb a0 n ops σ)→Q .normal σ')(h:ix Tryz.prog tb a0 n ops σ=some (cP ops.size 0 []):=by kernel_rfl):W Tryz.prog n Bw w0 (.region id ops false) σ Q:=G8 iR a0 [] h e
theorem bB(an:An)(e:List (Nat×Nat×PP))(f:∀σ',Le n σ' (iC Tryz.prog tb an n ops σ)→Q .normal σ')(h:ix Tryz.prog tb an n ops σ=some (cP ops.size 0 e):=by kernel_rfl):W Tryz.prog n Bw w0 (.region id ops false) σ Q:=G8 iR an e h f
theorem nQ(an:An)(e:List (Nat×Nat×PP))(f:∀σ',Le n σ' (Bz Tryz.prog tb an n ops σ)→Q .normal σ')(h:zH Tryz.prog tb an n ops σ=some (cP ops.size 0 e):=by kernel_rfl):W Tryz.prog n Bw w0 (.region id ops true) σ Q:=Ku iR mixed an e h f
theorem zw(i:Nat){α:Type}{p:Prop}[Decidable p]{u:Option α}{v:α}(h:(if p then u else none)=some v)(e:u=some v→∀σ',Le n σ' (iC Tryz.prog tb a0 n ops σ)→Q .normal σ')(hk:ix Tryz.prog tb a0 n ops σ=some (cG ops.size i p):=by kernel_rfl):W Tryz.prog n Bw w0 (.region id ops false) σ Q:=II iR i h hk e
theorem Li(i:Nat)(u:Pure Tryz.prog fid args r)(e:∀σ',Le n σ' (iC Tryz.prog tb ⟨[],[(i,oP u)]⟩ n ops σ)→Q .normal σ')(h:ix Tryz.prog tb ⟨[],[(i,oP u)]⟩ n ops σ=some (cP ops.size 0 [(i,i,oc u)]):=by kernel_rfl):W Tryz.prog n Bw w0 (.region id ops false) σ Q:=K7 iR i u h e
theorem mq(i:Nat)(g:QV)(u:jh Tryz.prog fid args hin r hout)(e:∀σ',Le n σ' (iC Tryz.prog tb ⟨[],[(i,oO u g)]⟩ n ops σ)→Q .normal σ')(h:ix Tryz.prog tb ⟨[],[(i,oO u g)]⟩ n ops σ=some (cP ops.size 0 [(i,i,oc u)]):=by kernel_rfl):W Tryz.prog n Bw w0 (.region id ops false) σ Q:=K6 iR i g u h e
theorem G(f:W Tryz.prog n Bw w0 d (iC Tryz.prog tb a0 n ops σ) Q)(h:ix Tryz.prog tb a0 n ops σ=some (cP ops.size 0 []):=by kernel_rfl):W Tryz.prog n Bw w0 (.seq (.region id ops false) d) σ Q:=Lc iR a0 [] h f
theorem GN(an:An)(e:List (Nat×Nat×PP))(f:W Tryz.prog n Bw w0 d (iC Tryz.prog tb an n ops σ) Q)(h:ix Tryz.prog tb an n ops σ=some (cP ops.size 0 e):=by kernel_rfl):W Tryz.prog n Bw w0 (.seq (.region id ops false) d) σ Q:=Lc iR an e h f
theorem GD(an:An)(e:List (Nat×Nat×PP))(f:W Tryz.prog n Bw w0 d (Bz Tryz.prog tb an n ops σ) Q)(h:zH Tryz.prog tb an n ops σ=some (cP ops.size 0 e):=by kernel_rfl):W Tryz.prog n Bw w0 (.seq (.region id ops true) d) σ Q:=MC iR mixed an e h f
theorem GC(i:Nat){α:Type}{p:Prop}[Decidable p]{u:Option α}{v:α}(h:(if p then u else none)=some v)(f:u=some v→W Tryz.prog n Bw w0 d (iC Tryz.prog tb a0 n ops σ) Q)(hk:ix Tryz.prog tb a0 n ops σ=some (cG ops.size i p):=by kernel_rfl):W Tryz.prog n Bw w0 (.seq (.region id ops false) d) σ Q:=Lu iR i h hk f
theorem GP(i:Nat)(u:Pure Tryz.prog fid args r)(e:W Tryz.prog n Bw w0 d (iC Tryz.prog tb ⟨[],[(i,oP u)]⟩ n ops σ) Q)(h:ix Tryz.prog tb ⟨[],[(i,oP u)]⟩ n ops σ=some (cP ops.size 0 [(i,i,oc u)]):=by kernel_rfl):W Tryz.prog n Bw w0 (.seq (.region id ops false) d) σ Q:=LA iR i u h e
theorem GO(i:Nat)(g:QV)(u:jh Tryz.prog fid args hin r hout)(e:W Tryz.prog n Bw w0 d (iC Tryz.prog tb ⟨[],[(i,oO u g)]⟩ n ops σ) Q)(h:ix Tryz.prog tb ⟨[],[(i,oO u g)]⟩ n ops σ=some (cP ops.size 0 [(i,i,oc u)]):=by kernel_rfl):W Tryz.prog n Bw w0 (.seq (.region id ops false) d) σ Q:=Ly iR i g u h e
theorem GX(i:Nat)(g:QV)(u:jV Tryz.prog fid args hin y)(e:∀σ',Q (.panic [{ v:=y,recovered:=false }]) σ')(h:zY Tryz.prog tb ⟨[],[(i,oD u g)]⟩ n ops i σ=some (cP (i+1) 0 [(i,i,oc u)],y):=by kernel_rfl):W Tryz.prog n Bw w0 (.region id ops false) σ Q:=LW iR i g u h e
theorem ME(u:jV Tryz.prog fid args hin y)(an:An)(i:Nat)(e:List (Nat×Nat×PP))(f:∀σ',Q (.panic [{ v:=y,recovered:=false }]) σ')(h:zY Tryz.prog tb an n ops i σ=some (cP (i+1) 0 e,y):=by kernel_rfl):W Tryz.prog n Bw w0 (.region id ops false) σ Q:=L5 iR u an i e h f
end
end
end Go.Proofs.YtflahpmlcfhpcaaGreatDoor.T
