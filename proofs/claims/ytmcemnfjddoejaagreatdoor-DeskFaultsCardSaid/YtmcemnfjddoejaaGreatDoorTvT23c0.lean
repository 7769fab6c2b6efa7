import Derived.Test.YtmcemnfjddoejaaGreatDoorTvSt
import Derived.Test.YtmcemnfjddoejaaGreatDoorProg
import Derived.KernelRfl
namespace Go.Proofs.YtmcemnfjddoejaaGreatDoor.T
open Go Go.Tv Go.Proofs
noncomputable section
set_option maxRecDepth 100000
set_option maxHeartbeats 4000000
abbrev Z7:Type:=Int×Tree×Tree
abbrev XJ:=List Z7
abbrev KU:Type:=QQ×Int×Int×QK×XJ
abbrev Gp:Type:=QZ×QK
abbrev Z6:Type:=KU×Gp×QZ×QK
abbrev AR:Type:=(fb 4352)×List (fb 256)
abbrev Z8:Type:=Int×Int×Int
abbrev XZ:=List Z8
abbrev Ia:Type:=(List (Qq×QK))×Unit
abbrev Z9:Type:=QK×QK
abbrev Z3:Type:=XZ×(Option Ia)×(List Z9)×Int×Int
abbrev Z1:Type:=(Option Z6)×(Option Z6)×(Option AR)×(Option AR)×(Option AR)×Option Z3
abbrev Z2:Type:=Int×Int×Int×Int
abbrev Qj:=List Z2
abbrev Z4:Type:=QX×Int
abbrev XQ:=List Z4
abbrev Z5:Type:=(Qj×QK)×Qj×QZ
abbrev qH:Type:=QX×Qj×Bool
abbrev vC:Type:=Int×(Int×Int)×Int×Qj×Bool
abbrev ud:Type:=Bool×Z2×Int×Int×Int×Int
abbrev pc:Type:=Tree×Int×Int×Int
abbrev L0:Type:=Int×QQ×Int×Int×QK×XJ×XQ×Int×Int
abbrev Mv:Type:=Int×(Int×Int×QK)×(Int×Int×Int×Int×Int×QJ)×Int×Bool×Int×Int
abbrev Mz:Type:=Int×Qj×Bool×QK×Qj×QK×(Option Z5)×List qH
abbrev yE:Type:=Int×QK×QK
abbrev vR:Type:=QK×Int
abbrev Y1:Ty:=(.prod (.int .i32) (.int .i64))
abbrev Y2:Ty:=(.prod (.int .i64) (.int .i64))
abbrev Y3:Ty:=(.prod .str (.prod .str Y2))
abbrev Y4:Ty:=(.prod (.slice (.prod (.int .i32) Y1)) (.prod .str Y3))
abbrev Y5:Ty:=(.prod (.slice (.prod (.int .i32) Y1)) Y4)
abbrev Y6:Ty:=(.prod (.slice (.prod (.int .i32) Y1)) Y5)
abbrev Y7:Ty:=(.prod (.slice (.prod (.int .i32) Y1)) Y6)
abbrev Y8:Ty:=(.prod (.int .i64) (.int .u8))
abbrev Y9:Ty:=(.prod (.int .i64) (.prod (.int .i64) Y8))
abbrev HB:Ty:=(.prod (.slice Y9) .bool)
abbrev DY:Ty:=(.prod Y2 (.prod (.int .i64) HB))
abbrev Cp:Ty:=(.prod (.tree .u8 .u32) (.tree .u8 .u32))
abbrev Pq:Ty:=(.prod (.slice (.int .i64)) (.slice (.prod (.int .u8) Cp)))
abbrev Pa:Ty:=(.prod (.int .u32) (.prod (.int .u32) Pq))
abbrev Lu:Ty:=(.prod (.slice .str) Pa)
abbrev DZ:Ty:=(.prod (.slice (.slice (.int .i64))) (.slice (.int .u32)))
abbrev m5:Ty:=(.prod Lu (.prod DZ DZ))
abbrev Pd:Ty:=(.prod (.int .u64) (.int .u64))
abbrev mG:Ty:=(.prod (.int .u64) (.prod (.int .u64) Pd))
abbrev CD:Ty:=(.prod .bool (.prod mG mG))
abbrev wC:Ty:=(.prod (.arr .i64 4352) (.slice (.arr .u8 256)))
abbrev N0:Ty:=(.prod (.mapi .i32 .i64) (.slice (.int .u8)))
abbrev uN:Ty:=(.prod (.slice N0) .unit)
abbrev rT:Ty:=(.prod (.slice (.int .i32)) (.slice (.int .u8)))
abbrev Pp:Ty:=(.prod (.ptr uN) (.prod (.slice rT) Y2))
abbrev oF:Ty:=(.prod (.slice (.prod (.int .i32) Y1)) Pp)
abbrev O2:Ty:=(.prod (.ptr wC) (.ptr oF))
abbrev Pe:Ty:=(.prod (.ptr wC) (.prod (.ptr wC) O2))
abbrev vQ:Ty:=(.prod (.ptr m5) (.prod (.ptr m5) Pe))
abbrev Kw:Ty:=(.prod (.slice rT) (.slice rT))
abbrev lQ:Ty:=(.prod (.slice Y9) (.slice (.int .u8)))
abbrev nM:Ty:=(.prod (.slice Y9) (.slice (.slice (.int .i64))))
abbrev OI:Ty:=(.prod (.int .i64) (.slice (.int .u8)))
abbrev O3:Ty:=(.prod (.int .i64) .flt)
abbrev Pf:Ty:=(.prod (.int .u8) (.prod (.int .i64) O3))
abbrev OF:Ty:=(.prod (.int .i64) (.prod (.int .i64) Pf))
abbrev O7:Ty:=(.prod (.int .i64) (.prod .bool Y2))
abbrev Nq:Ty:=(.prod (.prod (.int .i64) OI) (.prod OF O7))
abbrev Ic:Ty:=(.prod (.slice (.int .u8)) (.slice (.int .u8)))
abbrev O8:Ty:=(.prod (.slice (.int .u8)) (.slice (.prod (.int .u8) Ic)))
abbrev Of:Ty:=(.prod (.int .u8) (.prod (.int .u8) O8))
abbrev OQ:Ty:=(.prod (.int .u8) (.int .u8))
abbrev Ph:Ty:=(.prod (.slice (.int .u8)) OQ)
abbrev Pb:Ty:=(.prod (.slice (.int .u8)) Ph)
abbrev Po:Ty:=(.prod (.slice (.int .u8)) Pb)
abbrev O4:Ty:=(.prod (.slice (.int .u8)) Po)
abbrev O1:Ty:=(.prod (.prod (.int .u8) Of) O4)
abbrev O9:Ty:=(.prod (.prod (.int .u8) Of) O1)
abbrev O6:Ty:=(.prod (.slice (.int .u8)) (.int .i64))
abbrev OX:Ty:=(.prod (.slice mG) .bool)
abbrev Pc:Ty:=(.prod (.slice (.int .u32)) OX)
abbrev Pk:Ty:=(.prod (.int .u8) (.prod (.int .u8) OQ))
abbrev O5:Ty:=(.prod (.int .u8) (.prod (.int .u8) Pk))
abbrev O0(f:Int)(j:Int)(p:Int)(q:Int)(u:QX)(v:Int)(x:Int)(z:Int)(A:Int)(c:Int)(e:XQ):Qv:=[(0,.box [.nils,.u32 f,.u32 j,.nils,.nils]),(1,.box [.i64 p,.i64 q]),(2,.box [.st u,.i64 v,.nils,.u32 x,.u32 z,.nils,.nils,.mp 3,.i64 A,.i64 c]),(3,.mpo .str (.int .u32) e)]
abbrev NN(c:QX)(e:Int)(f:Int)(j:Int)(p:Int)(q:Int)(u:XQ):Qv:=[(0,.box [.st c,.i64 e,.nils,.u32 f,.u32 j,.nils,.nils,.mp 1,.i64 p,.i64 q]),(1,.mpo .str (.int .u32) u)]
abbrev Mh(c:Int)(e:Int)(f:Int)(j:Int):Qv:=[(0,.box [.nils,.u32 c,.u32 e,.nils,.nils]),(1,.box [.i64 f,.i64 j])]
abbrev bL(e:QX)(f:Int)(j:Int)(p:Int)(q:Int)(u:Int)(v:QQ)(x:QK)(z:XJ)(c:XQ):Qv:=[(0,.box [.st e,.i64 f,.sl 1,.u32 j,.u32 p,.sl 2,.sl 3,.mp 4,.i64 q,.i64 u]),(1,.arr 9 .str v),(2,.arr 3 (.int .i64) x),(3,.arr 210 (.prod (.int .u8) Cp) z),(4,.mpo .str (.int .u32) c)]
abbrev JU(e:QX)(f:Int)(j:Int)(p:Int)(q:Int)(u:Int)(v:XJ)(x:XQ)(z:QQ)(c:QK):Qv:=[(0,.box [.st e,.i64 f,.sl 5,.u32 j,.u32 p,.sl 6,.sl 3,.mp 4,.i64 q,.i64 u]),(3,.arr 210 (.prod (.int .u8) Cp) v),(4,.mpo .str (.int .u32) x),(5,.arr 9 .str z),(6,.arr 3 (.int .i64) c)]
abbrev OC(q:QX)(u:Int)(v:Int)(x:Int)(z:Int)(A:Int)(B:QQ)(C:QK)(D:XJ)(c:XQ)(e:Int)(f:Int)(j:Int)(p:Int):Qv:=[(0,.box [.st q,.i64 u,.sl 1,.u32 v,.u32 x,.sl 2,.sl 3,.mp 4,.i64 z,.i64 A]),(1,.arr 9 .str B),(2,.arr 3 (.int .i64) C),(3,.arr 210 (.prod (.int .u8) Cp) D),(4,.mpo .str (.int .u32) c),(5,.box [.u8 e,.u32 f,.nils]),(6,.box [.u8 j,.u32 p,.nils])]
abbrev M7(j:QX)(p:Int)(q:Int)(u:Int)(v:Int)(x:Int)(z:QQ)(A:QK)(B:XJ)(c:XQ)(e:Int)(f:Int):Qv:=[(0,.box [.st j,.i64 p,.sl 1,.u32 q,.u32 u,.sl 2,.sl 3,.mp 4,.i64 v,.i64 x]),(1,.arr 9 .str z),(2,.arr 3 (.int .i64) A),(3,.arr 210 (.prod (.int .u8) Cp) B),(4,.mpo .str (.int .u32) c),(5,.box [.u8 e,.u32 f,.nils])]
abbrev Mf(v:QX)(x:Int)(z:Int)(A:Int)(B:Int)(C:Int)(D:QQ)(E:QK)(I:XJ)(c:XQ)(e:Int)(f:Int)(j:Int)(q:Int)(u:XX):Qv:=[(0,.box [.st v,.i64 x,.sl 1,.u32 z,.u32 A,.sl 2,.sl 3,.mp 4,.i64 B,.i64 C]),(1,.arr 9 .str D),(2,.arr 3 (.int .i64) E),(3,.arr 210 (.prod (.int .u8) Cp) I),(4,.mpo .str (.int .u32) c),(5,.box [.u8 e,.u32 f,.nils]),(6,.box [.u8 j,.u32 q,.p false (.slice (.tree .u8 .u32)) u])]
abbrev El(q:QX)(u:Int)(v:Int)(x:Int)(z:Int)(A:Int)(B:QQ)(C:QK)(D:XJ)(c:XQ)(e:Int)(f:Int)(j:XX):Qv:=[(0,.box [.st q,.i64 u,.sl 1,.u32 v,.u32 x,.sl 2,.sl 3,.mp 4,.i64 z,.i64 A]),(1,.arr 9 .str B),(2,.arr 3 (.int .i64) C),(3,.arr 210 (.prod (.int .u8) Cp) D),(4,.mpo .str (.int .u32) c),(5,.box [.u8 e,.u32 f,.p false (.slice (.tree .u8 .u32)) j])]
abbrev HV(p:QX)(q:Int)(u:Int)(v:Int)(x:Int)(z:Int)(A:QQ)(B:QK)(C:XJ)(c:XQ)(e:Int)(f:Int)(j:XX):Qv:=[(0,.box [.st p,.i64 q,.sl 1,.u32 u,.u32 v,.sl 2,.sl 3,.mp 4,.i64 x,.i64 z]),(1,.arr 9 .str A),(2,.arr 3 (.int .i64) B),(3,.arr 210 (.prod (.int .u8) Cp) C),(4,.mpo .str (.int .u32) c),(5,.box [.u8 e,.u32 f,.nils]),(6,.arr 208 (.tree .u8 .u32) j)]
abbrev M8(e:QX)(f:Int)(j:Int)(p:Int)(q:Int)(u:Int)(v:QQ)(x:QK)(z:XQ)(c:XJ):Qv:=[(0,.box [.st e,.i64 f,.sl 1,.u32 j,.u32 p,.sl 2,.sl 5,.mp 4,.i64 q,.i64 u]),(1,.arr 9 .str v),(2,.arr 3 (.int .i64) x),(4,.mpo .str (.int .u32) z),(5,.arr 210 (.prod (.int .u8) Cp) c)]
abbrev NV(f:QX)(j:Int)(p:Int)(q:Int)(u:Int)(v:Int)(x:XQ)(z:QQ)(A:QK)(c:XJ)(e:XQ):Qv:=[(0,.box [.st f,.i64 j,.sl 2,.u32 p,.u32 q,.sl 3,.sl 4,.mp 1,.i64 u,.i64 v]),(1,.mpo .str (.int .u32) x),(2,.arr 9 .str z),(3,.arr 3 (.int .i64) A),(4,.arr 210 (.prod (.int .u8) Cp) c),(5,.mpl .str [(([99,108,97,115,115]:QX),(il 97)),(([115,101,116]:QX),(il 98)),(([106,111,105,110]:QX),(il 99)),(([116,114,101,97,116]:QX),(il 100))]),(6,.mpo .str (.int .u8) e)]
abbrev LQ(e:QX)(f:Int)(j:Int)(p:Int)(q:Int)(u:Int)(v:XQ)(x:QQ)(z:QK)(c:XJ):Qv:=[(0,.box [.st e,.i64 f,.sl 2,.u32 j,.u32 p,.sl 3,.sl 4,.mp 1,.i64 q,.i64 u]),(1,.mpo .str (.int .u32) v),(2,.arr 9 .str x),(3,.arr 3 (.int .i64) z),(4,.arr 210 (.prod (.int .u8) Cp) c)]
abbrev N1(q:Int)(u:Int)(v:Bool)(x:XX)(z:Int)(A:Int)(B:Int)(C:Int)(D:XX)(c:Int)(e:Int)(f:Bool)(j:XX):Qv:=[(0,.box [.u8 q,.u32 u,.p v (.slice (.tree .u8 .u32)) x]),(1,.box [.u8 z,.u32 A,.nils]),(2,.box [.u8 B,.u32 C,.sl 3]),(3,.arr 208 (.tree .u8 .u32) D),(4,.box [.u8 c,.u32 e,.p f (.slice (.tree .u8 .u32)) j])]
abbrev N4(c:Int)(e:Int)(f:Bool)(j:XX)(q:Int)(u:Int)(v:Int)(x:Int)(z:XX):Qv:=[(0,.box [.u8 c,.u32 e,.p f (.slice (.tree .u8 .u32)) j]),(1,.box [.u8 q,.u32 u,.nils]),(2,.box [.u8 v,.u32 x,.sl 3]),(3,.arr 208 (.tree .u8 .u32) z)]
abbrev Oh(c:Int)(e:Int)(f:Int)(j:Int)(p:XX):Qv:=[(0,.box [.u8 c,.u32 e,.nils]),(1,.box [.u8 f,.u32 j,.sl 2]),(2,.arr 208 (.tree .u8 .u32) p)]
abbrev Me(c:Bool)(e:Int)(f:Int)(j:Int)(p:Int)(q:Int)(u:Int)(v:Int)(x:Int):Qv:=[(0,.box [.bo c,.u64 e,.u64 f,.u64 j,.u64 p,.u64 q,.u64 u,.u64 v,.u64 x])]
abbrev MY(c:Int)(e:Int)(f:Int)(j:Int)(p:Int)(q:Int)(u:Int)(v:Int):Qv:=[(0,.box [.u64 c,.u64 e,.u64 f,.u64 j]),(1,.box [.u64 p,.u64 q,.u64 u,.u64 v])]
abbrev D5(c:Bool)(e:QK)(f:Qj):Qv:=[(0,.box [.sl 1,.sl 2,.bo c]),(1,.arr 136 (.int .u32) e),(2,.arr 262 mG f)]
abbrev N5(j:Int)(p:Int)(q:Int)(u:Int)(v:Int)(x:Int)(z:Int)(A:Int)(B:Int)(c:Int)(e:Int)(f:Int):Qv:=[(0,.box [.u64 j,.u64 p,.u64 q,.u64 u]),(1,.box [.u64 v,.u64 x,.u64 z,.u64 A]),(2,.box [.u64 B,.u64 c,.u64 e,.u64 f])]
abbrev M9(f:Bool)(j:QK)(p:Qj)(q:Int)(u:Int)(v:Int)(x:Int)(z:Int)(A:Int)(c:Int)(e:Int):Qv:=[(0,.box [.sl 1,.sl 2,.bo f]),(1,.arr 136 (.int .u32) j),(2,.arr 262 mG p),(3,.box [.u64 q,.u64 u,.u64 v,.u64 x]),(4,.box [.u64 z,.u64 A,.u64 c,.u64 e])]
abbrev Oo(x:Bool)(z:QK)(A:Qj)(B:Int)(C:Int)(D:Bool)(E:XX)(I:Bool)(J:Int)(c:Int)(e:Int)(f:Int)(j:Int)(q:Int)(u:Int)(v:Int):Qv:=[(0,.box [.sl 1,.sl 2,.bo x]),(1,.arr 136 (.int .u32) z),(2,.arr 262 mG A),(3,.box [.u8 B,.u32 C,.p D (.slice (.tree .u8 .u32)) E]),(4,.box [.bo I,.u64 J,.u64 c,.u64 e,.u64 f,.u64 j,.u64 q,.u64 u,.u64 v])]
abbrev Lo(c:Bool)(e:QK)(f:Qj):Qv:=[(0,.box [.sl 3,.sl 4,.bo c]),(3,.arr 136 (.int .u32) e),(4,.arr 262 mG f)]
abbrev MC(V:Bool)(X:QK)(Y:Qj)(Z:Bool)(a5:Int)(a6:Int)(a7:Int)(a8:Int)(a9:Int)(c:Int)(e:Int)(f:Int)(j:Bool)(p:Int)(q:Int)(u:Int)(v:Int)(x:Int)(z:Int)(A:Int)(B:Int)(C:Bool)(D:Int)(E:Int)(I:Int)(J:Int)(L:Int)(M:Int)(N:Int)(O:Int):Qv:=[(0,.box [.sl 3,.sl 4,.bo V]),(3,.arr 136 (.int .u32) X),(4,.arr 262 mG Y),(5,.box [.bo Z,.u64 a5,.u64 a6,.u64 a7,.u64 a8,.u64 a9,.u64 c,.u64 e,.u64 f]),(6,.box [.bo j,.u64 p,.u64 q,.u64 u,.u64 v,.u64 x,.u64 z,.u64 A,.u64 B]),(7,.box [.bo C,.u64 D,.u64 E,.u64 I,.u64 J,.u64 L,.u64 M,.u64 N,.u64 O])]
abbrev KI(C:Bool)(D:QK)(E:Qj)(I:Bool)(J:Int)(L:Int)(M:Int)(N:Int)(O:Int)(c:Int)(e:Int)(f:Int)(j:Bool)(p:Int)(q:Int)(u:Int)(v:Int)(x:Int)(z:Int)(A:Int)(B:Int):Qv:=[(0,.box [.sl 3,.sl 4,.bo C]),(3,.arr 136 (.int .u32) D),(4,.arr 262 mG E),(5,.box [.bo I,.u64 J,.u64 L,.u64 M,.u64 N,.u64 O,.u64 c,.u64 e,.u64 f]),(6,.box [.bo j,.u64 p,.u64 q,.u64 u,.u64 v,.u64 x,.u64 z,.u64 A,.u64 B])]
abbrev LD(C:Bool)(D:Bool)(E:Int)(I:Int)(J:Int)(L:Int)(M:Int)(N:Int)(O:Int)(c:Int)(e:Bool)(f:Int)(j:Int)(p:Int)(q:Int)(u:Int)(v:Int)(x:Int)(z:Int)(A:QK)(B:Qj):Qv:=[(0,.box [.sl 5,.sl 6,.bo C]),(3,.box [.bo D,.u64 E,.u64 I,.u64 J,.u64 L,.u64 M,.u64 N,.u64 O,.u64 c]),(4,.box [.bo e,.u64 f,.u64 j,.u64 p,.u64 q,.u64 u,.u64 v,.u64 x,.u64 z]),(5,.arr 136 (.int .u32) A),(6,.arr 262 mG B)]
abbrev NU(L:Bool)(M:Int)(N:Int)(O:Bool)(V:XX)(X:Bool)(Y:Int)(Z:Int)(a9:Int)(c:Int)(e:Int)(f:Int)(j:Int)(q:Int)(u:Bool)(v:Int)(x:Int)(z:Int)(A:Int)(B:Int)(C:Int)(D:Int)(E:Int)(I:QK)(J:Qj):Qv:=[(0,.box [.sl 6,.sl 7,.bo L]),(3,.box [.u8 M,.u32 N,.p O (.slice (.tree .u8 .u32)) V]),(4,.box [.bo X,.u64 Y,.u64 Z,.u64 a9,.u64 c,.u64 e,.u64 f,.u64 j,.u64 q]),(5,.box [.bo u,.u64 v,.u64 x,.u64 z,.u64 A,.u64 B,.u64 C,.u64 D,.u64 E]),(6,.arr 136 (.int .u32) I),(7,.arr 262 mG J)]
abbrev NR(L:Bool)(M:QK)(N:Qj)(O:Int)(V:Int)(X:Bool)(Y:XX)(Z:Bool)(a9:Int)(c:Int)(e:Int)(f:Int)(j:Int)(q:Int)(u:Int)(v:Int)(x:Bool)(z:Int)(A:Int)(B:Int)(C:Int)(D:Int)(E:Int)(I:Int)(J:Int):Qv:=[(0,.box [.sl 3,.sl 4,.bo L]),(3,.arr 136 (.int .u32) M),(4,.arr 262 mG N),(5,.box [.u8 O,.u32 V,.p X (.slice (.tree .u8 .u32)) Y]),(6,.box [.bo Z,.u64 a9,.u64 c,.u64 e,.u64 f,.u64 j,.u64 q,.u64 u,.u64 v]),(7,.box [.bo x,.u64 z,.u64 A,.u64 B,.u64 C,.u64 D,.u64 E,.u64 I,.u64 J])]
abbrev Hk(j:Bool)(p:QK)(q:Qj)(u:Bool)(v:Int)(x:Int)(z:Int)(A:Int)(B:Int)(c:Int)(e:Int)(f:Int):Qv:=[(0,.box [.sl 3,.sl 4,.bo j]),(3,.arr 136 (.int .u32) p),(4,.arr 262 mG q),(5,.box [.bo u,.u64 v,.u64 x,.u64 z,.u64 A,.u64 B,.u64 c,.u64 e,.u64 f])]
abbrev Hw(B:Bool)(C:QK)(D:Qj)(E:List ud)(I:Int)(J:Int)(L:Int)(M:Int)(N:QZ)(c:QK)(e:Qj)(f:List (Z2×Int))(j:Int)(p:Int)(q:Int)(u:Int)(v:Int)(x:Int)(z:Int)(A:Int):Qv:=[(0,.box [.nils,.nils]),(1,.box [.sl 2,.sl 3,.bo B]),(2,.arr 136 (.int .u32) C),(3,.arr 262 mG D),(4,.arr 264 CD E),(5,.box [.u64 I,.u64 J,.u64 L,.u64 M]),(6,.box [.sl 7,.sl 8]),(7,.arr 80 (.slice (.int .i64)) N),(8,.arr 136 (.int .u32) c),(9,.arr 262 mG e),(10,.mpo mG (.int .i64) f),(11,.box [.u64 j,.u64 p,.u64 q,.u64 u]),(12,.box [.u64 v,.u64 x,.u64 z,.u64 A])]
abbrev J4(C:Bool)(D:QK)(E:Qj)(I:List ud)(J:Int)(L:Int)(M:Int)(N:Int)(O:QZ)(c:QK)(e:Qj)(f:List (Z2×Int))(j:Int)(p:Int)(q:Int)(u:Int)(v:QK)(x:Int)(z:Int)(A:Int)(B:Int):Qv:=[(0,.box [.nils,.nils]),(1,.box [.sl 2,.sl 3,.bo C]),(2,.arr 136 (.int .u32) D),(3,.arr 262 mG E),(4,.arr 264 CD I),(5,.box [.u64 J,.u64 L,.u64 M,.u64 N]),(6,.box [.sl 7,.sl 8]),(7,.arr 80 (.slice (.int .i64)) O),(8,.arr 136 (.int .u32) c),(9,.arr 262 mG e),(10,.mpo mG (.int .i64) f),(11,.box [.u64 j,.u64 p,.u64 q,.u64 u]),(12,.arr 3 (.int .i64) v),(13,.box [.u64 x,.u64 z,.u64 A,.u64 B])]
abbrev NF(x:Bool)(z:QK)(A:Qj)(B:List ud)(C:Int)(D:Int)(E:Int)(I:Int)(J:QZ)(c:QK)(e:Qj)(f:List (Z2×Int))(j:Int)(p:Int)(q:Int)(u:Int)(v:QK):Qv:=[(0,.box [.nils,.nils]),(1,.box [.sl 2,.sl 3,.bo x]),(2,.arr 136 (.int .u32) z),(3,.arr 262 mG A),(4,.arr 264 CD B),(5,.box [.u64 C,.u64 D,.u64 E,.u64 I]),(6,.box [.sl 7,.sl 8]),(7,.arr 80 (.slice (.int .i64)) J),(8,.arr 136 (.int .u32) c),(9,.arr 262 mG e),(10,.mpo mG (.int .i64) f),(11,.box [.u64 j,.u64 p,.u64 q,.u64 u]),(12,.arr 3 (.int .i64) v)]
abbrev Om(p:Bool)(q:QK)(u:Qj)(v:List ud)(x:Int)(z:Int)(A:Int)(B:Int)(C:QZ)(c:QK)(e:Qj)(f:List (Z2×Int))(j:QK):Qv:=[(0,.box [.nils,.nils]),(1,.box [.sl 2,.sl 3,.bo p]),(2,.arr 136 (.int .u32) q),(3,.arr 262 mG u),(4,.arr 264 CD v),(5,.box [.u64 x,.u64 z,.u64 A,.u64 B]),(6,.box [.sl 7,.sl 8]),(7,.arr 80 (.slice (.int .i64)) C),(8,.arr 136 (.int .u32) c),(9,.arr 262 mG e),(10,.mpo mG (.int .i64) f),(11,.arr 3 (.int .i64) j)]
abbrev NZ(v:Bool)(x:QK)(z:Qj)(A:List ud)(B:Int)(C:Int)(D:Int)(E:Int)(I:QZ)(c:QK)(e:Qj)(f:List (Z2×Int))(j:Int)(p:Int)(q:Int)(u:Int):Qv:=[(0,.box [.nils,.nils]),(1,.box [.sl 2,.sl 3,.bo v]),(2,.arr 136 (.int .u32) x),(3,.arr 262 mG z),(4,.arr 264 CD A),(5,.box [.u64 B,.u64 C,.u64 D,.u64 E]),(6,.box [.sl 7,.sl 8]),(7,.arr 80 (.slice (.int .i64)) I),(8,.arr 136 (.int .u32) c),(9,.arr 262 mG e),(10,.mpo mG (.int .i64) f),(11,.box [.u64 j,.u64 p,.u64 q,.u64 u])]
abbrev OD(j:Bool)(p:QK)(q:Qj)(u:List ud)(v:Int)(x:Int)(z:Int)(A:Int)(B:QZ)(c:QK)(e:Qj)(f:List (Z2×Int)):Qv:=[(0,.box [.nils,.nils]),(1,.box [.sl 2,.sl 3,.bo j]),(2,.arr 136 (.int .u32) p),(3,.arr 262 mG q),(4,.arr 264 CD u),(5,.box [.u64 v,.u64 x,.u64 z,.u64 A]),(6,.box [.sl 7,.sl 8]),(7,.arr 80 (.slice (.int .i64)) B),(8,.arr 136 (.int .u32) c),(9,.arr 262 mG e),(10,.mpo mG (.int .i64) f)]
abbrev No(c:QZ)(e:QK):Qv:=[(0,.box [.nils,.nils]),(1,.box [.sl 2,.sl 3]),(2,.arr 80 (.slice (.int .i64)) c),(3,.arr 136 (.int .u32) e)]
abbrev Ng(c:Bool)(e:QK)(f:Qj)(j:List ud)(p:Int)(q:Int)(u:Int)(v:Int):Qv:=[(0,.box [.nils,.nils]),(1,.box [.sl 2,.sl 3,.bo c]),(2,.arr 136 (.int .u32) e),(3,.arr 262 mG f),(4,.arr 264 CD j),(5,.box [.u64 p,.u64 q,.u64 u,.u64 v])]
abbrev MD(c:Bool)(e:QK)(f:Qj)(j:List ud):Qv:=[(0,.box [.nils,.nils]),(1,.box [.sl 2,.sl 3,.bo c]),(2,.arr 136 (.int .u32) e),(3,.arr 262 mG f),(4,.arr 264 CD j)]
abbrev JD(c:Bool)(e:QZ)(f:Bool)(j:QK):Qv:=[(0,.box [.p c (.slice (.slice (.int .i64))) e,.p f (.slice (.int .u32)) j])]
abbrev KB(c:XQ)(e:QK)(f:QK):Qv:=[(0,.mpo .str (.int .i64) c),(1,.arr 3 (.int .i64) e),(2,.arr 3 (.int .i64) f)]
abbrev Ki(c:XQ)(e:QK)(f:QK)(j:QK):Qv:=[(0,.mpo .str (.int .i64) c),(1,.arr 3 (.int .i64) e),(2,.arr 3 (.int .i64) f),(3,.arr 5 (.int .u8) j)]
abbrev Oy(c:Bool)(e:QZ)(f:Bool)(j:QK)(q:QZ)(u:QK)(v:QK)(x:QK):Qv:=[(0,.box [.p c (.slice (.slice (.int .i64))) e,.p f (.slice (.int .u32)) j]),(1,.box [.nils,.nils]),(2,.box [.sl 3,.sl 4]),(3,.arr 80 (.slice (.int .i64)) q),(4,.arr 136 (.int .u32) u),(5,.arr 3 (.int .i64) v),(6,.arr 3 (.int .i64) x)]
abbrev Lk(c:Bool)(e:QZ)(f:Bool)(j:QK)(q:QZ)(u:QK)(v:QK)(x:QK)(z:QK):Qv:=[(0,.box [.p c (.slice (.slice (.int .i64))) e,.p f (.slice (.int .u32)) j]),(1,.box [.nils,.nils]),(2,.box [.sl 3,.sl 4]),(3,.arr 80 (.slice (.int .i64)) q),(4,.arr 136 (.int .u32) u),(5,.arr 3 (.int .i64) v),(6,.arr 3 (.int .i64) x),(7,.arr 3 (.int .i64) z)]
abbrev MI(c:Bool)(e:QZ)(f:Bool)(j:QK)(q:QK):Qv:=[(0,.box [.p c (.slice (.slice (.int .i64))) e,.p f (.slice (.int .u32)) j]),(1,.box [.nils,.nils]),(2,.box [.nils,.nils]),(3,.arr 3 (.int .i64) q)]
abbrev MN(c:Bool)(e:QZ)(f:Bool)(j:QK)(q:QK):Qv:=[(0,.box [.p c (.slice (.slice (.int .i64))) e,.p f (.slice (.int .u32)) j]),(1,.box [.nils,.nils]),(2,.box [.p false (.slice (.int .i64)) q])]
abbrev Nc(c:QQ)(e:Int)(f:Int)(j:QK)(q:XJ)(u:XX)(v:XX):Qv:=[(0,.box [.p false (.slice .str) c,.u32 e,.u32 f,.p false (.slice (.int .i64)) j,.p false (.slice (.prod (.int .u8) Cp)) q]),(1,.arr 208 (.tree .u8 .u32) u),(2,.arr 208 (.tree .u8 .u32) v)]
abbrev Ck(c:fb 4352)(e:List (fb 256))(f:List ((fb 256)×Int))(j:fb 256):Qv:=[(0,.lmp .i64 4352 c [.sl 1]),(1,.arr 157 (.arr .u8 256) e),(2,.mpo (.arr .u8 256) (.int .i64) f),(3,.lmp .u8 256 j [])]
abbrev NI(c:fb 4352)(e:List (fb 256))(f:List ((fb 256)×Int)):Qv:=[(0,.lmp .i64 4352 c [.sl 1]),(1,.arr 157 (.arr .u8 256) e),(2,.mpo (.arr .u8 256) (.int .i64) f)]
abbrev Ot(c:fb 4352)(e:List (fb 256)):Qv:=[(0,.lmp .i64 4352 c [.sl 1]),(1,.arr 157 (.arr .u8 256) e)]
abbrev JP(c:Int)(e:Int)(f:Int)(j:Int)(p:Int)(q:Int):Qv:=[(0,.box [.i32 c,.i64 e,.i64 f]),(1,.box [.i32 j,.i64 p,.i64 q])]
abbrev JN(c:QK)(e:QK):Qv:=[(0,.box [.nils,.nils]),(1,.box [.sl 2,.sl 3]),(2,.arr 21 (.int .i32) c),(3,.arr 5 (.int .u8) e)]
abbrev MJ(c:QK)(e:QK)(f:Int)(j:Int)(p:Int):Qv:=[(0,.box [.nils,.nils]),(1,.box [.sl 2,.sl 3]),(2,.arr 21 (.int .i32) c),(3,.arr 5 (.int .u8) e),(4,.box [.i32 f,.i64 j,.i64 p])]
abbrev NY(c:QK)(e:QK):Qv:=[(0,.box [.sl 1,.sl 2]),(1,.arr 21 (.int .i32) c),(2,.arr 5 (.int .u8) e)]
abbrev GF(c:Int)(e:Int)(f:List Z9)(j:List Z9):Qv:=[(0,.box [.nils,.nils]),(1,.box [.i64 c,.i64 e]),(2,.box [.sl 3,.sl 4]),(3,.arr 221 rT f),(4,.arr 221 rT j)]
abbrev JQ(c:List Nd)(e:Bool)(f:QK)(j:Bool)(q:QK):Qv:=[(0,.box [.sl 1]),(1,.nds 233 5 c none),(2,.box [.p e (.slice (.int .i32)) f,.p j (.slice (.int .u8)) q])]
abbrev JC(c:QK)(e:QK)(f:QK):Qv:=[(0,.arr 126 (.int .u8) c),(1,.arr 3 (.int .i64) e),(2,.arr 3 (.int .i64) f)]
abbrev MS(c:Bool)(e:QZ)(f:Bool)(j:QK)(q:QK):Qv:=[(0,.box [.p c (.slice (.slice (.int .i64))) e,.p f (.slice (.int .u32)) j]),(1,.arr 3 (.int .i64) q)]
abbrev ML(c:Bool)(e:QK)(f:List Bool):Qv:=[(0,.box [.p c (.slice (.int .i32)) e]),(1,.arr 4 .bool f)]
abbrev LS(c:Qj)(e:QK)(f:Int)(j:Int)(p:Int):Qv:=[(0,.arr 185 Y9 c),(1,.arr 3 (.int .i64) e),(2,.box [.i32 f,.i64 j,.i64 p])]
abbrev Ix(c:Qj)(e:QK):Qv:=[(0,.box [.nils,.nils]),(1,.box [.p false (.slice Y9) c,.sl 2]),(2,.arr 126 (.int .u8) e)]
abbrev Ol(c:Bool)(e:Qj)(f:Bool)(j:QK)(q:QK):Qv:=[(0,.box [.p c (.slice Y9) e,.p f (.slice (.int .u8)) j]),(1,.arr 5 (.int .u8) q)]
abbrev M6(c:Bool)(e:Qj)(f:Bool)(j:QK):Qv:=[(0,.box [.p c (.slice Y9) e,.p f (.slice (.int .u8)) j])]
abbrev Nh(e:Bool)(f:Qj)(j:Bool)(q:QK)(u:Int)(v:Int)(x:Int)(z:Int)(A:Int)(c:QJ):Qv:=[(0,.box [.p e (.slice Y9) f,.p j (.slice (.int .u8)) q]),(1,.box [.i64 u,.i64 v,.u8 x,.i64 z,.i64 A,.p false .flt c])]
abbrev KC(u:Bool)(v:Qj)(x:Bool)(z:QK)(A:Int)(B:Int)(C:Int)(D:Int)(E:Int)(c:QJ)(e:Int)(f:Int)(j:Int)(q:Int):Qv:=[(0,.box [.p u (.slice Y9) v,.p x (.slice (.int .u8)) z]),(1,.box [.i64 A,.i64 B,.u8 C,.i64 D,.i64 E,.p false .flt c]),(2,.box [.i64 e,.i64 f]),(3,.box [.i64 j,.i64 q])]
abbrev LM(x:Bool)(z:Qj)(A:Bool)(B:QK)(C:Int)(D:Int)(E:Int)(I:Int)(J:Int)(c:QJ)(e:Int)(f:Int)(j:Int)(q:Int)(u:Int)(v:Int):Qv:=[(0,.box [.p x (.slice Y9) z,.p A (.slice (.int .u8)) B]),(1,.box [.i64 C,.i64 D,.u8 E,.i64 I,.i64 J,.p false .flt c]),(2,.box [.i64 e,.i64 f]),(3,.box [.i64 j,.i64 q]),(4,.box [.i64 u,.i64 v])]
abbrev NX(c:Int)(e:Int)(f:Int)(j:Int):Qv:=[(0,.box [.i64 c,.i64 e]),(1,.box [.i64 f,.i64 j])]
abbrev JO(f:Bool)(j:Qj)(q:Bool)(u:QK)(v:Int)(x:Int)(z:Int)(A:Int)(B:Int)(c:QJ)(e:Qq):Qv:=[(0,.box [.p f (.slice Y9) j,.p q (.slice (.int .u8)) u]),(1,.box [.i64 v,.i64 x,.u8 z,.i64 A,.i64 B,.p false .flt c]),(2,.arr 290 Y2 e)]
abbrev On(c:Bool)(e:Qj)(f:Bool)(j:QK)(q:QK):Qv:=[(0,.box [.p c (.slice Y9) e,.p f (.slice (.int .u8)) j]),(1,.arr 3 (.int .i64) q)]
abbrev Oe(j:Bool)(q:Qj)(u:Bool)(v:QK)(x:Int)(z:Int)(A:Int)(B:Int)(C:Int)(c:QJ)(e:Qq)(f:Qj):Qv:=[(0,.box [.p j (.slice Y9) q,.p u (.slice (.int .u8)) v]),(1,.box [.i64 x,.i64 z,.u8 A,.i64 B,.i64 C,.p false .flt c]),(2,.arr 290 Y2 e),(3,.arr 190 Y9 f)]
abbrev Da(u:Bool)(v:Qj)(x:Bool)(z:QK)(A:Int)(B:Int)(C:Int)(D:Int)(E:Int)(c:QJ)(e:Int)(f:Int)(j:Int)(q:Int):Qv:=[(0,.box [.p u (.slice Y9) v,.p x (.slice (.int .u8)) z]),(1,.box [.i64 A,.i64 B,.u8 C,.i64 D,.i64 E,.p false .flt c]),(2,.box [.i64 e,.i64 f,.i64 j,.u8 q])]
abbrev Nk(f:Bool)(j:Qj)(q:Bool)(u:QK)(v:Int)(x:Int)(z:Int)(A:Int)(B:Int)(c:QJ)(e:Qj):Qv:=[(0,.box [.p f (.slice Y9) j,.p q (.slice (.int .u8)) u]),(1,.box [.i64 v,.i64 x,.u8 z,.i64 A,.i64 B,.p false .flt c]),(2,.arr 190 Y9 e)]
abbrev M4(c:Qj)(e:QK)(f:Qj)(j:QK)(q:Qj)(u:QZ):Qv:=[(0,.box [.p false (.slice Y9) c,.p false (.slice (.int .u8)) e]),(1,.box [.p false (.slice Y9) f,.p false (.slice (.int .u8)) j,.p false (.slice Y9) q,.sl 2]),(2,.arr 80 (.slice (.int .i64)) u)]
abbrev MW(c:Qj)(e:QK)(f:Qj)(j:QZ):Qv:=[(0,.box [.p false (.slice Y9) c,.p false (.slice (.int .u8)) e,.p false (.slice Y9) f,.sl 1]),(1,.arr 80 (.slice (.int .i64)) j)]
abbrev Ns(c:Qj)(e:QK)(f:Qj)(j:QK)(q:Qj):Qv:=[(0,.box [.p false (.slice Y9) c,.p false (.slice (.int .u8)) e]),(1,.box [.p false (.slice Y9) f,.p false (.slice (.int .u8)) j,.p false (.slice Y9) q,.nils])]
abbrev Is(z:Bool)(B:Option Z1)(C:Int)(D:Int)(E:Int)(I:Int)(J:Int)(L:QJ)(M:QK)(c:Qj)(e:QK)(f:Option Z5)(j:List qH)(q:Qj)(u:Qj)(v:QK)(x:List (QX×Bool)):Qv:=[(0,.box [.sl 2,.bo z,.p false (.ptr vQ) B,.i64 C,.i64 D,.u8 E,.i64 I,.i64 J,.p false .flt L,.p false (.slice (.int .u8)) M,.p false (.slice Y9) c,.p false (.slice (.int .u8)) e,.p false (.ptr (.prod lQ nM)) f,.mp 1]),(1,.mpo .str HB j),(2,.arr 190 Y9 q),(3,.box [.p false (.slice Y9) u,.p false (.slice (.int .u8)) v]),(4,.mpo .str .bool x)]
abbrev MP(C:Bool)(D:Option Z1)(E:Int)(I:Int)(J:Int)(L:Int)(M:Int)(N:QJ)(O:QK)(c:Qj)(e:QK)(f:Option Z5)(j:List qH)(q:Qj)(u:Qj)(v:QK)(x:List (QX×Bool))(z:Qj)(B:Bool):Qv:=[(0,.box [.sl 2,.bo C,.p false (.ptr vQ) D,.i64 E,.i64 I,.u8 J,.i64 L,.i64 M,.p false .flt N,.p false (.slice (.int .u8)) O,.p false (.slice Y9) c,.p false (.slice (.int .u8)) e,.p false (.ptr (.prod lQ nM)) f,.mp 1]),(1,.mpo .str HB j),(2,.arr 190 Y9 q),(3,.box [.p false (.slice Y9) u,.p false (.slice (.int .u8)) v]),(4,.mpo .str .bool x),(5,.box [.p false (.slice Y9) z,.bo B])]
abbrev lG(u:Qj)(v:Bool)(x:Option Z1)(z:Int)(B:Int)(C:Int)(D:Int)(E:Int)(I:QJ)(c:QK)(e:Qj)(f:QK)(j:Option Z5)(q:List qH):Qv:=[(0,.box [.p false (.slice Y9) u,.bo v,.p false (.ptr vQ) x,.i64 z,.i64 B,.u8 C,.i64 D,.i64 E,.p false .flt I,.p false (.slice (.int .u8)) c,.p false (.slice Y9) e,.p false (.slice (.int .u8)) f,.p false (.ptr (.prod lQ nM)) j,.mp 1]),(1,.mpo .str HB q)]
abbrev K8:Qv:=[(0,.mpl (.int .i64) [(0,(Value.agg #[il 42])),(1,(Value.agg #[il 43])),(2,(Value.agg #[il 44])),(3,(Value.agg #[il 45]))])]
abbrev Na(c:Int)(e:Int):Qv:=[(0,.box [.i64 c,.i64 e]),(1,.mpl (.int .i64) [(0,(Value.agg #[il 42])),(1,(Value.agg #[il 43])),(2,(Value.agg #[il 44])),(3,(Value.agg #[il 45]))])]
abbrev NC(c:Int)(e:Int)(f:Bool)(j:QK):Qv:=[(0,.box [.i64 c,.i64 e,.p f (.slice (.int .u8)) j])]
abbrev Ga(c:Bool)(e:QK)(f:Bool)(j:QK)(q:Bool)(u:QK):Qv:=[(0,.vrow 3 1 [.p c (.slice (.int .u8)) e,.p f (.slice (.int .u8)) j,.p q (.slice (.int .u8)) u])]
abbrev zP(B:Qj)(C:Bool)(D:Option Z1)(E:Int)(I:Int)(J:Int)(L:Int)(M:Int)(N:QJ)(c:QK)(e:Qj)(f:QK)(j:Option Z5)(q:List qH)(u:Int)(v:Int)(x:Int)(z:Int)(A:Bool):Qv:=[(0,.box [.p false (.slice Y9) B,.bo C,.p false (.ptr vQ) D,.i64 E,.i64 I,.u8 J,.i64 L,.i64 M,.p false .flt N,.p false (.slice (.int .u8)) c,.p false (.slice Y9) e,.p false (.slice (.int .u8)) f,.p false (.ptr (.prod lQ nM)) j,.mp 1]),(1,.mpo .str HB q),(2,.box [.i64 u,.i64 v,.i64 x,.i64 z,.nils,.bo A])]
abbrev Nj(c:Bool)(e:Qj)(f:Bool)(j:QK)(q:Qj):Qv:=[(0,.box [.p c (.slice Y9) e,.p f (.slice (.int .u8)) j]),(1,.arr 128 Y9 q)]
abbrev ND(x:Qj)(z:Bool)(A:Option Z1)(B:Int)(C:Int)(D:Int)(E:Int)(I:Int)(J:QJ)(c:QK)(e:Qj)(f:QK)(j:Option Z5)(q:List qH)(u:Qj)(v:Bool):Qv:=[(0,.box [.p false (.slice Y9) x,.bo z,.p false (.ptr vQ) A,.i64 B,.i64 C,.u8 D,.i64 E,.i64 I,.p false .flt J,.p false (.slice (.int .u8)) c,.p false (.slice Y9) e,.p false (.slice (.int .u8)) f,.p false (.ptr (.prod lQ nM)) j,.mp 1]),(1,.mpo .str HB q),(2,.box [.p false (.slice Y9) u,.bo v])]
abbrev MZ(x:Qj)(z:Bool)(A:Option Z1)(B:Int)(C:Int)(D:Int)(E:Int)(I:Int)(J:QJ)(c:QK)(e:Qj)(f:QK)(j:Option Z5)(q:List qH)(u:Int)(v:Int):Qv:=[(0,.box [.p false (.slice Y9) x,.bo z,.p false (.ptr vQ) A,.i64 B,.i64 C,.u8 D,.i64 E,.i64 I,.p false .flt J,.p false (.slice (.int .u8)) c,.p false (.slice Y9) e,.p false (.slice (.int .u8)) f,.p false (.ptr (.prod lQ nM)) j,.mp 1]),(1,.mpo .str HB q),(2,.box [.i64 u,.i64 v])]
abbrev M2(z:Int)(A:Int)(B:Qj)(C:Bool)(D:Option Z1)(E:Int)(I:Int)(J:Int)(L:Int)(c:Int)(e:QJ)(f:QK)(j:Qj)(q:QK)(u:Option Z5)(v:List qH)(x:List vC):Qv:=[(0,.box [.i64 z,.i64 A]),(1,.box [.p false (.slice Y9) B,.bo C,.p false (.ptr vQ) D,.i64 E,.i64 I,.u8 J,.i64 L,.i64 c,.p false .flt e,.p false (.slice (.int .u8)) f,.p false (.slice Y9) j,.p false (.slice (.int .u8)) q,.p false (.ptr (.prod lQ nM)) u,.mp 2]),(2,.mpo .str HB v),(3,.mpl (.int .i64) [(0,(Value.agg #[il 42])),(1,(Value.agg #[il 43])),(2,(Value.agg #[il 44])),(3,(Value.agg #[il 45]))]),(4,.arr 66 (.prod (.int .i64) DY) x)]
abbrev NH(c:Int)(e:Int)(f:List vC):Qv:=[(0,.box [.i64 c,.i64 e]),(1,.arr 66 (.prod (.int .i64) DY) f)]
abbrev Lg(c:QK)(e:XZ):Qv:=[(0,.arr 21 (.int .i32) c),(1,.arr 87 (.prod (.int .i32) Y1) e)]
abbrev FL(c:Int)(e:Int)(f:Int)(j:Bool)(q:QK)(u:List yE):Qv:=[(0,.box [.u8 c,.u8 e,.u8 f,.p j (.slice (.int .u8)) q,.p false (.slice (.prod (.int .u8) Ic)) u])]
abbrev K3(c:Int)(e:Int)(f:Int)(j:Bool)(q:QK)(u:List yE)(v:QQ):Qv:=[(0,.box [.u8 c,.u8 e,.u8 f,.p j (.slice (.int .u8)) q,.p false (.slice (.prod (.int .u8) Ic)) u]),(1,.arr 9 .str v)]
abbrev K0(v:Int)(x:Int)(z:Int)(A:Int)(B:Int)(C:QJ)(D:XZ)(E:XZ)(I:XZ)(c:XZ)(e:QX)(f:QX)(j:QX)(q:Int)(u:Int):Qv:=[(0,.box [.i64 v,.i64 x,.u8 z,.i64 A,.i64 B,.p false .flt C]),(1,.box [.p false (.slice (.prod (.int .i32) Y1)) D,.p false (.slice (.prod (.int .i32) Y1)) E,.p false (.slice (.prod (.int .i32) Y1)) I,.p false (.slice (.prod (.int .i32) Y1)) c,.st e,.st f,.st j,.i64 q,.i64 u])]
def tb:bP:=[
 (3,⟨some (.int .i64),(.int .i64),1,8,[.i64 0]⟩),
 (4,⟨some .bool,.bool,1,1,[.bo false]⟩),
 (5,⟨some (.int .u8),(.int .u8),1,1,[.u8 0]⟩),
 (9,⟨some .str,.str,1,16,[.st ([]:QX)]⟩),
 (20,⟨none,.other,1,16,[.lit .nilIface]⟩),
 (21,⟨some (.int .i32),(.int .i32),1,4,[.i32 0]⟩),
 (22,⟨some (.slice (.int .u8)),(.sl 5),1,24,[.nils]⟩),
 (23,⟨some (.slice (.prod (.int .u8) Ic)),(.sl 134),1,24,[.nils]⟩),
 (25,⟨some (.prod (.int .u8) Of),(.st [(0,5),(1,5),(2,5),(3,22),(4,23)]),5,56,[.u8 0,.u8 0,.u8 0,.nils,.nils]⟩),
 (27,⟨some O9,(.st [(0,25),(5,25),(10,22),(11,22),(12,22),(13,22),(14,5),(15,5)]),16,216,[.u8 0,.u8 0,.u8 0,.nils,.nils,.u8 0,.u8 0,.u8 0,.nils,.nils,.nils,.nils,.nils,.nils,.u8 0,.u8 0]⟩),
 (28,⟨some (.int .u16),(.int .u16),1,2,[.p false (.int .u16) (0:Int)]⟩),
 (29,⟨some .flt,.flt,1,8,[.p false .flt (dN 0)]⟩),
 (32,⟨some (.slice (.prod (.int .i64) Nq)),(.sl 61),1,24,[.nils]⟩),
 (35,⟨some (.int .u8),(.int .u8),1,1,[.u8 0]⟩),
 (37,⟨some OF,(.st [(0,3),(1,3),(2,35),(3,3),(4,3),(5,29)]),6,48,[.i64 0,.i64 0,.u8 0,.i64 0,.i64 0,.p false .flt (dN 0)]⟩),
 (39,⟨some (.slice (.prod (.int .i32) Y1)),(.sl 87),1,24,[.nils]⟩),
 (41,⟨some Y7,(.st [(0,39),(1,39),(2,39),(3,39),(4,9),(5,9),(6,9),(7,3),(8,3)]),9,160,[.nils,.nils,.nils,.nils,.st ([]:QX),.st ([]:QX),.st ([]:QX),.i64 0,.i64 0]⟩),
 (44,⟨some (.slice (.prod (.int .i64) DY)),(.sl 66),1,24,[.nils]⟩),
 (45,⟨some (.int .i64),(.int .i64),1,8,[.i64 0]⟩),
 (47,⟨some Y2,(.st [(0,45),(1,3)]),2,16,[.i64 0,.i64 0]⟩),
 (50,⟨some (.ptr vQ),.other,1,8,[.nilp]⟩),
 (53,⟨none,.other,1,8,[.nilp]⟩),
 (57,⟨some (.prod (.int .i64) OI),(.st [(0,3),(1,3),(2,22)]),3,40,[.i64 0,.i64 0,.nils]⟩),
 (59,⟨some Y2,(.st [(0,3),(1,3)]),2,16,[.i64 0,.i64 0]⟩),
 (61,⟨some (.prod (.int .i64) Nq),(.st [(0,3),(1,57),(4,37),(10,3),(11,4),(12,59)]),14,128,[.i64 0,.i64 0,.i64 0,.nils,.i64 0,.i64 0,.u8 0,.i64 0,.i64 0,.p false .flt (dN 0),.i64 0,.bo false,.i64 0,.i64 0]⟩),
 (62,⟨some (.slice Y9),(.sl 128),1,24,[.nils]⟩),
 (64,⟨some HB,(.st [(0,62),(1,4)]),2,32,[.nils,.bo false]⟩),
 (66,⟨some (.prod (.int .i64) DY),(.st [(0,45),(1,59),(3,3),(4,64)]),6,64,[.i64 0,.i64 0,.i64 0,.i64 0,.nils,.bo false]⟩),
 (77,⟨some (.int .u64),(.int .u64),1,8,[.u64 0]⟩),
 (80,⟨some (.slice (.int .i64)),(.sl 3),1,24,[.nils]⟩),
 (82,⟨some (.slice .str),(.sl 9),1,24,[.nils]⟩),
 (87,⟨some (.prod (.int .i32) Y1),(.st [(0,21),(1,21),(2,3)]),3,16,[.i32 0,.i32 0,.i64 0]⟩),
 (90,⟨none,(.mp 3 94),1,8,[.lit (.map none)]⟩),
 (92,⟨none,.other,1,8,[.lit .nilFunc]⟩),
 (94,⟨none,(.st [(0,92)]),1,8,[.lit .nilFunc]⟩),
 (96,⟨none,.other,1,8,[.nilp]⟩),
 (97,⟨some (.ptr m5),.other,1,8,[.nilp]⟩),
 (98,⟨some (.ptr wC),.other,1,8,[.nilp]⟩),
 (99,⟨some (.ptr oF),.other,1,8,[.nilp]⟩),
 (101,⟨some vQ,(.st [(0,97),(1,97),(2,98),(3,98),(4,98),(5,99)]),6,48,[.nilp,.nilp,.nilp,.nilp,.nilp,.nilp]⟩),
 (104,⟨none,.other,1,8,[.nilp]⟩),
 (105,⟨none,(.st [(0,104),(1,39),(2,3)]),3,40,[.nilp,.nils,.i64 0]⟩),
 (106,⟨none,(.sl 105),1,24,[.nils]⟩),
 (111,⟨none,(.mp 9 114),1,8,[.lit (.map none)]⟩),
 (112,⟨some (.slice Y9),(.sl 190),1,24,[.nils]⟩),
 (114,⟨some HB,(.st [(0,112),(1,4)]),2,32,[.nils,.bo false]⟩),
 (115,⟨some (.slice Y9),(.sl 185),1,24,[.nils]⟩),
 (116,⟨some (.slice (.int .u8)),(.sl 126),1,24,[.nils]⟩),
 (118,⟨some lQ,(.st [(0,115),(1,116)]),2,48,[.nils,.nils]⟩),
 (119,⟨some (.ptr (.prod lQ nM)),.other,1,8,[.nilp]⟩),
 (121,⟨none,(.st [(0,114),(2,50),(3,37),(9,22),(10,118),(12,119),(13,111)]),14,176,[.nils,.bo false,.nilp,.i64 0,.i64 0,.u8 0,.i64 0,.i64 0,.p false .flt (dN 0),.nils,.nils,.nils,.nilp,.lit (.map none)]⟩),
 (126,⟨some (.int .u8),(.int .u8),1,1,[.u8 0]⟩),
 (128,⟨some Y9,(.st [(0,3),(1,3),(2,3),(3,126)]),4,32,[.i64 0,.i64 0,.i64 0,.u8 0]⟩),
 (130,⟨some (.slice (.int .i32)),(.sl 21),1,24,[.nils]⟩),
 (134,⟨some (.prod (.int .u8) Ic),(.st [(0,5),(1,22),(2,22)]),3,56,[.u8 0,.nils,.nils]⟩),
 (136,⟨some (.int .u32),(.int .u32),1,4,[.u32 0]⟩),
 (137,⟨some (.slice (.prod (.int .u8) Cp)),(.sl 210),1,24,[.nils]⟩),
 (139,⟨some Lu,(.st [(0,82),(1,136),(2,136),(3,80),(4,137)]),5,80,[.nils,.u32 0,.u32 0,.nils,.nils]⟩),
 (144,⟨some (.slice (.slice (.int .i64))),(.sl 80),1,24,[.nils]⟩),
 (145,⟨some (.slice (.int .u32)),(.sl 136),1,24,[.nils]⟩),
 (147,⟨some DZ,(.st [(0,144),(1,145)]),2,48,[.nils,.nils]⟩),
 (149,⟨some m5,(.st [(0,139),(5,147),(7,147)]),9,176,[.nils,.u32 0,.u32 0,.nils,.nils,.nils,.nils,.nils,.nils]⟩),
 (151,⟨some (.slice (.arr .u8 256)),(.sl 157),1,24,[.nils]⟩),
 (152,⟨some (.arr .i64 4352),(.ar 4352 3),4352,34816,(List.replicate 4352 (.i64 0))⟩),
 (154,⟨some wC,(.st [(0,152),(4352,151)]),4353,34840,(List.replicate 4352 (.i64 0)++[.nils])⟩),
 (155,⟨none,(.mp 157 3),1,8,[.lit (.map none)]⟩),
 (157,⟨some (.arr .u8 256),(.ar 256 5),256,256,(List.replicate 256 (.u8 0))⟩),
 (160,⟨some (.slice rT),(.sl 221),1,24,[.nils]⟩),
 (162,⟨some Kw,(.st [(0,160),(1,160)]),2,48,[.nils,.nils]⟩),
 (166,⟨some (.ptr uN),.other,1,8,[.nilp]⟩),
 (169,⟨some oF,(.st [(0,39),(1,166),(2,160),(3,3),(4,3)]),5,72,[.nils,.nilp,.nils,.i64 0,.i64 0]⟩),
 (172,⟨none,(.mp 9 4),1,8,[.lit (.map none)]⟩),
 (183,⟨some (.int .u8),(.int .u8),1,1,[.u8 0]⟩),
 (185,⟨some Y9,(.st [(0,3),(1,3),(2,3),(3,183)]),4,32,[.i64 0,.i64 0,.i64 0,.u8 0]⟩),
 (187,⟨some (.prod lQ nM),(.st [(0,118),(2,112),(3,144)]),4,96,[.nils,.nils,.nils,.nils]⟩),
 (188,⟨none,.other,1,8,[.lit .nilFunc]⟩),
 (190,⟨some Y9,(.st [(0,3),(1,3),(2,3),(3,126)]),4,32,[.i64 0,.i64 0,.i64 0,.u8 0]⟩),
 (191,⟨none,.other,1,8,[.lit .nilFunc]⟩),
 (193,⟨none,.other,1,8,[.lit .nilFunc]⟩),
 (196,⟨none,.other,1,8,[.nilp]⟩),
 (198,⟨some O6,(.st [(0,22),(1,3)]),2,32,[.nils,.i64 0]⟩),
 (199,⟨none,.other,1,8,[.nilp]⟩),
 (200,⟨none,(.mp 9 136),1,8,[.lit (.map none)]⟩),
 (202,⟨none,(.st [(0,9),(1,3),(2,139),(7,200),(8,3),(9,3)]),10,128,[.st ([]:QX),.i64 0,.nils,.u32 0,.u32 0,.nils,.nils,.lit (.map none),.i64 0,.i64 0]⟩),
 (205,⟨some (.slice (.tree .u8 .u32)),(.sl 208),1,24,[.nils]⟩),
 (206,⟨some (.int .u8),(.int .u8),1,1,[.u8 0]⟩),
 (208,⟨some (.tree .u8 .u32),(.st [(0,206),(1,136),(2,205)]),3,32,[.u8 0,.u32 0,.nils]⟩),
 (210,⟨some (.prod (.int .u8) Cp),(.st [(0,126),(1,208),(4,208)]),7,72,[.u8 0,.u8 0,.u32 0,.nils,.u8 0,.u32 0,.nils]⟩),
 (215,⟨some (.slice (.prod (.int .i32) Y2)),(.sl 219),1,24,[.nils]⟩),
 (219,⟨some (.prod (.int .i32) Y2),(.st [(0,21),(1,3),(2,3)]),3,24,[.i32 0,.i64 0,.i64 0]⟩),
 (221,⟨some rT,(.st [(0,130),(1,22)]),2,48,[.nils,.nils]⟩),
 (227,⟨none,.other,1,8,[.lit .nilFunc]⟩),
 (228,⟨some (.slice N0),(.sl 233),1,24,[.nils]⟩),
 (230,⟨some uN,(.st [(0,228)]),1,24,[.nils]⟩),
 (231,⟨some (.mapi .i32 .i64),(.mp 21 3),1,8,[.lit (.map none)]⟩),
 (233,⟨some N0,(.st [(0,231),(1,22)]),2,32,[.lit (.map none),.nils]⟩),
 (238,⟨some (.slice .bool),(.sl 4),1,24,[.nils]⟩),
 (243,⟨some (.slice (.slice (.int .u8))),(.sl 22),1,24,[.nils]⟩),
 (246,⟨none,.other,1,8,[.lit .nilFunc]⟩),
 (247,⟨none,(.mp 9 246),1,8,[.lit (.map none)]⟩),
 (248,⟨none,(.mp 9 126),1,8,[.lit (.map none)]⟩),
 (255,⟨none,.other,1,8,[.nilp]⟩),
 (256,⟨some (.slice mG),(.sl 262),1,24,[.nils]⟩),
 (258,⟨some Pc,(.st [(0,145),(1,256),(2,4)]),3,56,[.nils,.nils,.bo false]⟩),
 (259,⟨some (.slice CD),(.sl 264),1,24,[.nils]⟩),
 (260,⟨some (.int .u64),(.int .u64),1,8,[.u64 0]⟩),
 (262,⟨some mG,(.ar 4 260),4,32,[.u64 0,.u64 0,.u64 0,.u64 0]⟩),
 (264,⟨some CD,(.st [(0,4),(1,262),(5,262)]),9,72,[.bo false,.u64 0,.u64 0,.u64 0,.u64 0,.u64 0,.u64 0,.u64 0,.u64 0]⟩),
 (267,⟨none,(.mp 262 3),1,8,[.lit (.map none)]⟩),
 (272,⟨none,.other,1,8,[.lit .nilFunc]⟩),
 (277,⟨none,.other,1,8,[.lit .nilFunc]⟩),
 (288,⟨some (.slice Y2),(.sl 290),1,24,[.nils]⟩),
 (290,⟨some Y2,(.st [(0,3),(1,3)]),2,16,[.i64 0,.i64 0]⟩),
 (303,⟨none,(.mp 9 3),1,8,[.lit (.map none)]⟩),
 (323,⟨some (.prod (.int .u8) O5),(.ar 7 5),7,7,[.u8 0,.u8 0,.u8 0,.u8 0,.u8 0,.u8 0,.u8 0]⟩)]
theorem hH:bV Tryz.prog tb:=LC (by kernel_rfl) (by kernel_rfl) (by kernel_rfl)
theorem Iw:JY Tryz.prog 47 Y2:=Fv 8 (by decide) (by kernel_rfl) ⟨by kernel_rfl,rfl⟩
theorem N9:JY Tryz.prog 59 Y2:=Fv 8 (by decide) (by kernel_rfl) ⟨by kernel_rfl,rfl⟩
theorem EF:fC Tryz.prog 157 (.arr .u8 256):=fC.Gj (e:=5) rfl rfl rfl (by kernel_rfl) rfl rfl rfl
theorem Aq:fC Tryz.prog 262 mG:=fC.Gj (e:=260) rfl rfl rfl (by kernel_rfl) rfl rfl rfl
theorem mixed:Tryz.prog.follows .mixedOrders=true:=by kernel_rfl
theorem PB{fid:FuncId}{fn:Func}{c:Code}(u:Tryz.prog.funcs[fid]? = some fn){args:List ag}{f:List (Σ T:Ty,T.den)}(h:∀Bw w0,W Tryz.prog fn.ntmps Bw w0 c (ot args) (Mt tb fn.results.toList f))(j:(fn.name == "runtime.NumGoroutine")=false:=by kernel_rfl)(hb:fn.body=some c:=by exact rfl)(p:Nat.ble args.length fn.ntmps=true:=by exact rfl)(q:oZ args=true:=by exact rfl):Pure Tryz.prog fid args (aJ (bc false f)):=Pure.jH hH u j hb (nl p) h q
theorem OB{fid:FuncId}{fn:Func}{c:Code}(p:Tryz.prog.funcs[fid]? = some fn){args:List ag}{hin hout:Qv}{r:ag}(h:∀Bw w0,W Tryz.prog fn.ntmps Bw w0 c (tq args hin) (yX tb fn.ntmps fn.results.toList r hout))(f:(fn.name == "runtime.NumGoroutine")=false:=by kernel_rfl)(hb:fn.body=some c:=by exact rfl)(j:Nat.ble args.length fn.ntmps=true:=by exact rfl):fP Tryz.prog fid args hin r hout:=fP.jH hH p f hb (nl j) h
theorem DB{fid:FuncId}{fn:Func}{c:Code}(p:Tryz.prog.funcs[fid]? = some fn){args:List ag}{hin:Qv}{f:(ag×Qv)⊕Value}(h:∀Bw w0,W Tryz.prog fn.ntmps Bw w0 c (tq args hin) (Ni tb fn.ntmps fn.results.toList f))(e:(fn.name == "runtime.NumGoroutine")=false:=by kernel_rfl)(hb:fn.body=some c:=by exact rfl)(j:Nat.ble args.length fn.ntmps=true:=by exact rfl):jc Tryz.prog fid args hin f:=jc.jH hH p e hb (nl j) h
theorem RO{n:NS}{σ:St}{j:List ResultVar}{r:ag}{hout:Qv}(Ts:List (Option Ty))(q:List Tv.G)(f:QV)(l:List (Nat×ag))(m:Qv)(nx pn:Nat)(u:goal q f l m σ=some (want f l m):=by kernel_rfl)(c:(σ.pn == pn && kK (HW f) l m nx pn)=true:=by kernel_rfl)(v:Kx tb j Ts hout (aA l m nx pn)=some (r,hout.map (fun p=>some p.2)):=by kernel_rfl):yX tb n j r hout .ret σ:=Ff Ts q f l m nx pn u c v
theorem RI{σ:St}{f:List ResultVar}{c:List (Σ T:Ty,T.den)}(Ts:List Ty)(h:(match uc tb σ.s σ.h f with | some xs=>mQ σ.h xs Ts | none=>none)=some c:=by kernel_rfl):Mt tb f c .ret σ:=Hg Ts h
section
variable{n:NS}{Bw:Nat→Prop}{w0:cu Tryz.prog}{σ:St}{Q:Exit→St→Prop}{id:Nat}{ops:Array Oper}{d:Code}{fid:FuncId}{args:List ag}{hin hout:Qv}{r:ag}{y:Value}
theorem Ge(c:∀σ',Le n σ' (iN Tryz.prog tb a0 n ops σ)→Q .normal σ')(h:iL Tryz.prog tb a0 n ops σ=some (cP ops.size 0 []):=by kernel_rfl):W Tryz.prog n Bw w0 (.region id ops false) σ Q:=IC hH a0 [] h c
theorem bz(an:An)(c:List (Nat×Nat×PP))(e:∀σ',Le n σ' (iN Tryz.prog tb an n ops σ)→Q .normal σ')(h:iL Tryz.prog tb an n ops σ=some (cP ops.size 0 c):=by kernel_rfl):W Tryz.prog n Bw w0 (.region id ops false) σ Q:=IC hH an c h e
theorem kY(an:An)(c:List (Nat×Nat×PP))(e:∀σ',Le n σ' (Cr Tryz.prog tb an n ops σ)→Q .normal σ')(h:CK Tryz.prog tb an n ops σ=some (cP ops.size 0 c):=by kernel_rfl):W Tryz.prog n Bw w0 (.region id ops true) σ Q:=Nu hH mixed an c h e
theorem xg(i:Nat){α:Type}{p:Prop}[Decidable p]{u:Option α}{v:α}(h:(if p then u else none)=some v)(c:u=some v→∀σ',Le n σ' (iN Tryz.prog tb a0 n ops σ)→Q .normal σ')(hk:iL Tryz.prog tb a0 n ops σ=some (cG ops.size i p):=by kernel_rfl):W Tryz.prog n Bw w0 (.region id ops false) σ Q:=KS hH i h hk c
theorem NL(i:Nat)(u:Pure Tryz.prog fid args r)(c:∀σ',Le n σ' (iN Tryz.prog tb ⟨[],[(i,oP u)]⟩ n ops σ)→Q .normal σ')(h:iL Tryz.prog tb ⟨[],[(i,oP u)]⟩ n ops σ=some (cP ops.size 0 [(i,i,oc u)]):=by kernel_rfl):W Tryz.prog n Bw w0 (.region id ops false) σ Q:=MQ hH i u h c
theorem lg(i:Nat)(g:QV)(u:fP Tryz.prog fid args hin r hout)(c:∀σ',Le n σ' (iN Tryz.prog tb ⟨[],[(i,oO u g)]⟩ n ops σ)→Q .normal σ')(h:iL Tryz.prog tb ⟨[],[(i,oO u g)]⟩ n ops σ=some (cP ops.size 0 [(i,i,oc u)]):=by kernel_rfl):W Tryz.prog n Bw w0 (.region id ops false) σ Q:=MU hH i g u h c
theorem G(c:W Tryz.prog n Bw w0 d (iN Tryz.prog tb a0 n ops σ) Q)(h:iL Tryz.prog tb a0 n ops σ=some (cP ops.size 0 []):=by kernel_rfl):W Tryz.prog n Bw w0 (.seq (.region id ops false) d) σ Q:=NP hH a0 [] h c
theorem GN(an:An)(c:List (Nat×Nat×PP))(e:W Tryz.prog n Bw w0 d (iN Tryz.prog tb an n ops σ) Q)(h:iL Tryz.prog tb an n ops σ=some (cP ops.size 0 c):=by kernel_rfl):W Tryz.prog n Bw w0 (.seq (.region id ops false) d) σ Q:=NP hH an c h e
theorem GD(an:An)(c:List (Nat×Nat×PP))(e:W Tryz.prog n Bw w0 d (Cr Tryz.prog tb an n ops σ) Q)(h:CK Tryz.prog tb an n ops σ=some (cP ops.size 0 c):=by kernel_rfl):W Tryz.prog n Bw w0 (.seq (.region id ops true) d) σ Q:=Pj hH mixed an c h e
theorem GC(i:Nat){α:Type}{p:Prop}[Decidable p]{u:Option α}{v:α}(h:(if p then u else none)=some v)(c:u=some v→W Tryz.prog n Bw w0 d (iN Tryz.prog tb a0 n ops σ) Q)(hk:iL Tryz.prog tb a0 n ops σ=some (cG ops.size i p):=by kernel_rfl):W Tryz.prog n Bw w0 (.seq (.region id ops false) d) σ Q:=Oj hH i h hk c
theorem GP(i:Nat)(u:Pure Tryz.prog fid args r)(c:W Tryz.prog n Bw w0 d (iN Tryz.prog tb ⟨[],[(i,oP u)]⟩ n ops σ) Q)(h:iL Tryz.prog tb ⟨[],[(i,oP u)]⟩ n ops σ=some (cP ops.size 0 [(i,i,oc u)]):=by kernel_rfl):W Tryz.prog n Bw w0 (.seq (.region id ops false) d) σ Q:=Oc hH i u h c
theorem GO(i:Nat)(g:QV)(u:fP Tryz.prog fid args hin r hout)(c:W Tryz.prog n Bw w0 d (iN Tryz.prog tb ⟨[],[(i,oO u g)]⟩ n ops σ) Q)(h:iL Tryz.prog tb ⟨[],[(i,oO u g)]⟩ n ops σ=some (cP ops.size 0 [(i,i,oc u)]):=by kernel_rfl):W Tryz.prog n Bw w0 (.seq (.region id ops false) d) σ Q:=N7 hH i g u h c
theorem GX(i:Nat)(g:QV)(u:j7 Tryz.prog fid args hin y)(c:∀σ',Q (.panic [{ v:=y,recovered:=false }]) σ')(h:De Tryz.prog tb ⟨[],[(i,oD u g)]⟩ n ops i σ=some (cP (i+1) 0 [(i,i,oc u)],y):=by kernel_rfl):W Tryz.prog n Bw w0 (.region id ops false) σ Q:=Ov hH i g u h c
theorem OV(u:j7 Tryz.prog fid args hin y)(an:An)(i:Nat)(c:List (Nat×Nat×PP))(e:∀σ',Q (.panic [{ v:=y,recovered:=false }]) σ')(h:De Tryz.prog tb an n ops i σ=some (cP (i+1) 0 c,y):=by kernel_rfl):W Tryz.prog n Bw w0 (.region id ops false) σ Q:=OL hH u an i c h e
end
end
end Go.Proofs.YtmcemnfjddoejaaGreatDoor.T
