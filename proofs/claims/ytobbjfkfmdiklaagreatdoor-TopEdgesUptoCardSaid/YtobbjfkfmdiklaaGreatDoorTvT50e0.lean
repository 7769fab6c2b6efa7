import Derived.Test.YtobbjfkfmdiklaaGreatDoorTvStm
import Derived.Test.YtobbjfkfmdiklaaGreatDoorProg
import Derived.KernelRfl
namespace Go.Proofs.YtobbjfkfmdiklaaGreatDoor.T
open Go Go.Tv Go.Proofs
noncomputable section
set_option maxRecDepth 100000
set_option maxHeartbeats 4000000
abbrev Z6:Type:=Int×Tree×Tree
abbrev XJ:=List Z6
abbrev Kt:Type:=QQ×Int×Int×QK×XJ
abbrev EC:Type:=QZ×QK
abbrev Z5:Type:=Kt×EC×QZ×QK
abbrev zr:Type:=(fh 4352)×List (fh 256)
abbrev Z7:Type:=Int×Int×Int
abbrev XK:=List Z7
abbrev Hx:Type:=(List (Qq×QK))×Unit
abbrev Z8:Type:=QK×QK
abbrev Z3:Type:=XK×(Option Hx)×(List Z8)×Int×Int
abbrev Z1:Type:=(Option Z5)×(Option Z5)×(Option zr)×(Option zr)×(Option zr)×Option Z3
abbrev Z2:Type:=Int×Int×Int×Int
abbrev Qj:=List Z2
abbrev Z4:Type:=QX×Int
abbrev XQ:=List Z4
abbrev Z9:Type:=Bool×Z2×Int×Int×Int×Int
abbrev oz:Type:=Tree×Int×Int×Int
abbrev K6:Type:=Int×QQ×Int×Int×QK×XJ×XQ×Int×Int
abbrev sJ:Type:=Int×QK×QK
abbrev uZ:Type:=QK×Int
abbrev Y1:Ty:=(.prod (.int .i32) (.int .i64))
abbrev Y2:Ty:=(.prod (.int .i64) (.int .i64))
abbrev Y3:Ty:=(.prod .str (.prod .str Y2))
abbrev Y4:Ty:=(.prod (.slice (.prod (.int .i32) Y1)) (.prod .str Y3))
abbrev Y5:Ty:=(.prod (.slice (.prod (.int .i32) Y1)) Y4)
abbrev Y6:Ty:=(.prod (.slice (.prod (.int .i32) Y1)) Y5)
abbrev Y7:Ty:=(.prod (.slice (.prod (.int .i32) Y1)) Y6)
abbrev Y8:Ty:=(.prod (.tree .u8 .u32) (.tree .u8 .u32))
abbrev Y9:Ty:=(.prod (.slice (.int .i64)) (.slice (.prod (.int .u8) Y8)))
abbrev N3:Ty:=(.prod (.int .u32) (.prod (.int .u32) Y9))
abbrev Kw:Ty:=(.prod (.slice .str) N3)
abbrev CQ:Ty:=(.prod (.slice (.slice (.int .i64))) (.slice (.int .u32)))
abbrev mQ:Ty:=(.prod Kw (.prod CQ CQ))
abbrev Ov:Ty:=(.prod (.int .u64) (.int .u64))
abbrev mv:Ty:=(.prod (.int .u64) (.prod (.int .u64) Ov))
abbrev Bd:Ty:=(.prod .bool (.prod mv mv))
abbrev vU:Ty:=(.prod (.arr .i64 4352) (.slice (.arr .u8 256)))
abbrev MS:Ty:=(.prod (.mapi .i32 .i64) (.slice (.int .u8)))
abbrev tq:Ty:=(.prod (.slice MS) .unit)
abbrev qM:Ty:=(.prod (.slice (.int .i32)) (.slice (.int .u8)))
abbrev Ox:Ty:=(.prod (.ptr tq) (.prod (.slice qM) Y2))
abbrev nq:Ty:=(.prod (.slice (.prod (.int .i32) Y1)) Ox)
abbrev N0:Ty:=(.prod (.ptr vU) (.ptr nq))
abbrev Oq:Ty:=(.prod (.ptr vU) (.prod (.ptr vU) N0))
abbrev vk:Ty:=(.prod (.ptr mQ) (.prod (.ptr mQ) Oq))
abbrev Jp:Ty:=(.prod (.slice qM) (.slice qM))
abbrev Ob:Ty:=(.prod (.int .i64) (.int .u8))
abbrev fk:Ty:=(.prod (.int .i64) (.prod (.int .i64) Ob))
abbrev IV:Ty:=(.prod (.slice fk) .bool)
abbrev KM:Ty:=(.prod (.slice fk) (.slice (.int .u8)))
abbrev F8:Ty:=(.prod (.slice (.int .u8)) (.slice (.int .u8)))
abbrev Ow:Ty:=(.prod (.int .i64) .flt)
abbrev Od:Ty:=(.prod (.int .u8) (.prod (.int .i64) Ow))
abbrev L5:Ty:=(.prod (.int .i64) (.prod (.int .i64) Od))
abbrev Om:Ty:=(.prod (.slice (.int .u8)) (.slice (.prod (.int .u8) F8)))
abbrev Nw:Ty:=(.prod (.int .u8) (.prod (.int .u8) Om))
abbrev NO:Ty:=(.prod (.int .u8) (.int .u8))
abbrev N2:Ty:=(.prod (.slice (.int .u8)) NO)
abbrev Ot:Ty:=(.prod (.slice (.int .u8)) N2)
abbrev On:Ty:=(.prod (.slice (.int .u8)) Ot)
abbrev Oe:Ty:=(.prod (.slice (.int .u8)) On)
abbrev Oc:Ty:=(.prod (.prod (.int .u8) Nw) Oe)
abbrev NZ:Ty:=(.prod (.prod (.int .u8) Nw) Oc)
abbrev Ol:Ty:=(.prod (.int .u16) .flt)
abbrev Og:Ty:=(.prod (.int .u8) (.prod (.int .u16) Ol))
abbrev N1:Ty:=(.prod (.int .u8) (.prod (.int .u8) Og))
abbrev Oh:Ty:=(.prod IV (.prod IV IV))
abbrev N7:Ty:=(.prod .flt (.prod .flt .flt))
abbrev Oa:Ty:=(.prod (.slice (.int .u8)) (.int .i64))
abbrev N6:Ty:=(.prod (.slice mv) .bool)
abbrev Oj:Ty:=(.prod (.slice (.int .u32)) N6)
abbrev Ok:Ty:=(.prod (.int .u8) (.prod (.int .u8) NO))
abbrev N4:Ty:=(.prod (.int .u8) (.prod (.int .u8) Ok))
abbrev N8(q u v x:Int)(z:QX)(A B C D j:Int)(p:XQ):Qv:=[(0,.box [.nils,.u32 q,.u32 u,.nils,.nils]),(1,.box [.i64 v,.i64 x]),(2,.box [.st z,.i64 A,.nils,.u32 B,.u32 C,.nils,.nils,.mp 3,.i64 D,.i64 j]),(3,.mpo .str (.int .u32) p)]
abbrev MQ(j:QX)(p q u v x:Int)(z:XQ):Qv:=[(0,.box [.st j,.i64 p,.nils,.u32 q,.u32 u,.nils,.nils,.mp 1,.i64 v,.i64 x]),(1,.mpo .str (.int .u32) z)]
abbrev LH(j p q u:Int):Qv:=[(0,.box [.nils,.u32 j,.u32 p,.nils,.nils]),(1,.box [.i64 q,.i64 u])]
abbrev bO(p:QX)(q u v x z:Int)(A:QQ)(B:QK)(C:XJ)(j:XQ):Qv:=[(0,.box [.st p,.i64 q,.sl 1,.u32 u,.u32 v,.sl 2,.sl 3,.mp 4,.i64 x,.i64 z]),(1,.arr 9 .str A),(2,.arr 3 (.int .i64) B),(3,.arr 148 (.prod (.int .u8) Y8) C),(4,.mpo .str (.int .u32) j)]
abbrev JJ(p:QX)(q u v x z:Int)(A:XJ)(B:XQ)(C:QQ)(j:QK):Qv:=[(0,.box [.st p,.i64 q,.sl 5,.u32 u,.u32 v,.sl 6,.sl 3,.mp 4,.i64 x,.i64 z]),(3,.arr 148 (.prod (.int .u8) Y8) A),(4,.mpo .str (.int .u32) B),(5,.arr 9 .str C),(6,.arr 3 (.int .i64) j)]
abbrev Nx(x:QX)(z A B C D:Int)(E:QQ)(I:QK)(J:XJ)(j:XQ)(p q u v:Int):Qv:=[(0,.box [.st x,.i64 z,.sl 1,.u32 A,.u32 B,.sl 2,.sl 3,.mp 4,.i64 C,.i64 D]),(1,.arr 9 .str E),(2,.arr 3 (.int .i64) I),(3,.arr 148 (.prod (.int .u8) Y8) J),(4,.mpo .str (.int .u32) j),(5,.box [.u8 p,.u32 q,.nils]),(6,.box [.u8 u,.u32 v,.nils])]
abbrev Mp(u:QX)(v x z A B:Int)(C:QQ)(D:QK)(E:XJ)(j:XQ)(p q:Int):Qv:=[(0,.box [.st u,.i64 v,.sl 1,.u32 x,.u32 z,.sl 2,.sl 3,.mp 4,.i64 A,.i64 B]),(1,.arr 9 .str C),(2,.arr 3 (.int .i64) D),(3,.arr 148 (.prod (.int .u8) Y8) E),(4,.mpo .str (.int .u32) j),(5,.box [.u8 p,.u32 q,.nils])]
abbrev Ll(A:QX)(B C D E I:Int)(J:QQ)(L:QK)(M:XJ)(j:XQ)(q u v x:Int)(z:XX):Qv:=[(0,.box [.st A,.i64 B,.sl 1,.u32 C,.u32 D,.sl 2,.sl 3,.mp 4,.i64 E,.i64 I]),(1,.arr 9 .str J),(2,.arr 3 (.int .i64) L),(3,.arr 148 (.prod (.int .u8) Y8) M),(4,.mpo .str (.int .u32) j),(5,.box [.u8 q,.u32 u,.nils]),(6,.box [.u8 v,.u32 x,.p false (.slice (.tree .u8 .u32)) z])]
abbrev D4(x:QX)(z A B C D:Int)(E:QQ)(I:QK)(J:XJ)(j:XQ)(q u:Int)(v:XX):Qv:=[(0,.box [.st x,.i64 z,.sl 1,.u32 A,.u32 B,.sl 2,.sl 3,.mp 4,.i64 C,.i64 D]),(1,.arr 9 .str E),(2,.arr 3 (.int .i64) I),(3,.arr 148 (.prod (.int .u8) Y8) J),(4,.mpo .str (.int .u32) j),(5,.box [.u8 q,.u32 u,.p false (.slice (.tree .u8 .u32)) v])]
abbrev Hw(v:QX)(x z A B C:Int)(D:QQ)(E:QK)(I:XJ)(j:XQ)(p q:Int)(u:XX):Qv:=[(0,.box [.st v,.i64 x,.sl 1,.u32 z,.u32 A,.sl 2,.sl 3,.mp 4,.i64 B,.i64 C]),(1,.arr 9 .str D),(2,.arr 3 (.int .i64) E),(3,.arr 148 (.prod (.int .u8) Y8) I),(4,.mpo .str (.int .u32) j),(5,.box [.u8 p,.u32 q,.nils]),(6,.arr 146 (.tree .u8 .u32) u)]
abbrev LZ(p:QX)(q u v x z:Int)(A:QQ)(B:QK)(C:XQ)(j:XJ):Qv:=[(0,.box [.st p,.i64 q,.sl 1,.u32 u,.u32 v,.sl 2,.sl 5,.mp 4,.i64 x,.i64 z]),(1,.arr 9 .str A),(2,.arr 3 (.int .i64) B),(4,.mpo .str (.int .u32) C),(5,.arr 148 (.prod (.int .u8) Y8) j)]
abbrev Nj(q:QX)(u v x z A:Int)(B:XQ)(C:QQ)(D:QK)(j:XJ)(p:XQ):Qv:=[(0,.box [.st q,.i64 u,.sl 2,.u32 v,.u32 x,.sl 3,.sl 4,.mp 1,.i64 z,.i64 A]),(1,.mpo .str (.int .u32) B),(2,.arr 9 .str C),(3,.arr 3 (.int .i64) D),(4,.arr 148 (.prod (.int .u8) Y8) j),(5,.mpl .str [(([99,108,97,115,115]:QX),(yB 98)),(([115,101,116]:QX),(yB 99)),(([106,111,105,110]:QX),(yB 100)),(([116,114,101,97,116]:QX),(yB 101))]),(6,.mpo .str (.int .u8) p)]
abbrev LC(p:QX)(q u v x z:Int)(A:XQ)(B:QQ)(C:QK)(j:XJ):Qv:=[(0,.box [.st p,.i64 q,.sl 2,.u32 u,.u32 v,.sl 3,.sl 4,.mp 1,.i64 x,.i64 z]),(1,.mpo .str (.int .u32) A),(2,.arr 9 .str B),(3,.arr 3 (.int .i64) C),(4,.arr 148 (.prod (.int .u8) Y8) j)]
abbrev M8(x z:Int)(A:Bool)(B:XX)(C D E I:Int)(J:XX)(j q:Int)(u:Bool)(v:XX):Qv:=[(0,.box [.u8 x,.u32 z,.p A (.slice (.tree .u8 .u32)) B]),(1,.box [.u8 C,.u32 D,.nils]),(2,.box [.u8 E,.u32 I,.sl 3]),(3,.arr 146 (.tree .u8 .u32) J),(4,.box [.u8 j,.u32 q,.p u (.slice (.tree .u8 .u32)) v])]
abbrev M7(j q:Int)(u:Bool)(v:XX)(x z A B:Int)(C:XX):Qv:=[(0,.box [.u8 j,.u32 q,.p u (.slice (.tree .u8 .u32)) v]),(1,.box [.u8 x,.u32 z,.nils]),(2,.box [.u8 A,.u32 B,.sl 3]),(3,.arr 146 (.tree .u8 .u32) C)]
abbrev Na(j p q u:Int)(v:XX):Qv:=[(0,.box [.u8 j,.u32 p,.nils]),(1,.box [.u8 q,.u32 u,.sl 2]),(2,.arr 146 (.tree .u8 .u32) v)]
abbrev KY(j:Bool)(p q u v x z A B:Int):Qv:=[(0,.box [.bo j,.u64 p,.u64 q,.u64 u,.u64 v,.u64 x,.u64 z,.u64 A,.u64 B])]
abbrev Md(j p q u v x z A:Int):Qv:=[(0,.box [.u64 j,.u64 p,.u64 q,.u64 u]),(1,.box [.u64 v,.u64 x,.u64 z,.u64 A])]
abbrev Dm(j:Bool)(p:QK)(q:Qj):Qv:=[(0,.box [.sl 1,.sl 2,.bo j]),(1,.arr 131 (.int .u32) p),(2,.arr 251 mv q)]
abbrev Nq(u v x z A B C D E j p q:Int):Qv:=[(0,.box [.u64 u,.u64 v,.u64 x,.u64 z]),(1,.box [.u64 A,.u64 B,.u64 C,.u64 D]),(2,.box [.u64 E,.u64 j,.u64 p,.u64 q])]
abbrev MG(q:Bool)(u:QK)(v:Qj)(x z A B C D j p:Int):Qv:=[(0,.box [.sl 1,.sl 2,.bo q]),(1,.arr 131 (.int .u32) u),(2,.arr 251 mv v),(3,.box [.u64 x,.u64 z,.u64 A,.u64 B]),(4,.box [.u64 C,.u64 D,.u64 j,.u64 p])]
abbrev NH(B:Bool)(C:QK)(D:Qj)(E I:Int)(J:Bool)(L:XX)(M:Bool)(N j q u v x z A:Int):Qv:=[(0,.box [.sl 1,.sl 2,.bo B]),(1,.arr 131 (.int .u32) C),(2,.arr 251 mv D),(3,.box [.u8 E,.u32 I,.p J (.slice (.tree .u8 .u32)) L]),(4,.box [.bo M,.u64 N,.u64 j,.u64 q,.u64 u,.u64 v,.u64 x,.u64 z,.u64 A])]
abbrev Ky(j:Bool)(p:QK)(q:Qj):Qv:=[(0,.box [.sl 3,.sl 4,.bo j]),(3,.arr 131 (.int .u32) p),(4,.arr 251 mv q)]
abbrev L1(Z:Bool)(a2:QK)(a3:Qj)(a4:Bool)(a5 a6 a7 a8 a9 j p q:Int)(u:Bool)(v x z A B C D E:Int)(I:Bool)(J L M N O V X Y:Int):Qv:=[(0,.box [.sl 3,.sl 4,.bo Z]),(3,.arr 131 (.int .u32) a2),(4,.arr 251 mv a3),(5,.box [.bo a4,.u64 a5,.u64 a6,.u64 a7,.u64 a8,.u64 a9,.u64 j,.u64 p,.u64 q]),(6,.box [.bo u,.u64 v,.u64 x,.u64 z,.u64 A,.u64 B,.u64 C,.u64 D,.u64 E]),(7,.box [.bo I,.u64 J,.u64 L,.u64 M,.u64 N,.u64 O,.u64 V,.u64 X,.u64 Y])]
abbrev IQ(I:Bool)(J:QK)(L:Qj)(M:Bool)(N O V X Y j p q:Int)(u:Bool)(v x z A B C D E:Int):Qv:=[(0,.box [.sl 3,.sl 4,.bo I]),(3,.arr 131 (.int .u32) J),(4,.arr 251 mv L),(5,.box [.bo M,.u64 N,.u64 O,.u64 V,.u64 X,.u64 Y,.u64 j,.u64 p,.u64 q]),(6,.box [.bo u,.u64 v,.u64 x,.u64 z,.u64 A,.u64 B,.u64 C,.u64 D,.u64 E])]
abbrev KJ(I J:Bool)(L M N O V X Y j:Int)(p:Bool)(q u v x z A B C:Int)(D:QK)(E:Qj):Qv:=[(0,.box [.sl 5,.sl 6,.bo I]),(3,.box [.bo J,.u64 L,.u64 M,.u64 N,.u64 O,.u64 V,.u64 X,.u64 Y,.u64 j]),(4,.box [.bo p,.u64 q,.u64 u,.u64 v,.u64 x,.u64 z,.u64 A,.u64 B,.u64 C]),(5,.arr 131 (.int .u32) D),(6,.arr 251 mv E)]
abbrev M6(O:Bool)(V X:Int)(Y:Bool)(Z:XX)(a6:Bool)(a7 a8 a9 j q u v x:Int)(z:Bool)(A B C D E I J L:Int)(M:QK)(N:Qj):Qv:=[(0,.box [.sl 6,.sl 7,.bo O]),(3,.box [.u8 V,.u32 X,.p Y (.slice (.tree .u8 .u32)) Z]),(4,.box [.bo a6,.u64 a7,.u64 a8,.u64 a9,.u64 j,.u64 q,.u64 u,.u64 v,.u64 x]),(5,.box [.bo z,.u64 A,.u64 B,.u64 C,.u64 D,.u64 E,.u64 I,.u64 J,.u64 L]),(6,.arr 131 (.int .u32) M),(7,.arr 251 mv N)]
abbrev NI(O:Bool)(V:QK)(X:Qj)(Y Z:Int)(a6:Bool)(a7:XX)(a8:Bool)(a9 j q u v x z A:Int)(B:Bool)(C D E I J L M N:Int):Qv:=[(0,.box [.sl 3,.sl 4,.bo O]),(3,.arr 131 (.int .u32) V),(4,.arr 251 mv X),(5,.box [.u8 Y,.u32 Z,.p a6 (.slice (.tree .u8 .u32)) a7]),(6,.box [.bo a8,.u64 a9,.u64 j,.u64 q,.u64 u,.u64 v,.u64 x,.u64 z,.u64 A]),(7,.box [.bo B,.u64 C,.u64 D,.u64 E,.u64 I,.u64 J,.u64 L,.u64 M,.u64 N])]
abbrev Fu(u:Bool)(v:QK)(x:Qj)(z:Bool)(A B C D E j p q:Int):Qv:=[(0,.box [.sl 3,.sl 4,.bo u]),(3,.arr 131 (.int .u32) v),(4,.arr 251 mv x),(5,.box [.bo z,.u64 A,.u64 B,.u64 C,.u64 D,.u64 E,.u64 j,.u64 p,.u64 q])]
abbrev F1(E:Bool)(I:QK)(J:Qj)(L:List Z9)(M N O V:Int)(X:QZ)(j:QK)(p:Qj)(q:List (Z2×Int))(u v x z A B C D:Int):Qv:=[(0,.box [.nils,.nils]),(1,.box [.sl 2,.sl 3,.bo E]),(2,.arr 131 (.int .u32) I),(3,.arr 251 mv J),(4,.arr 253 Bd L),(5,.box [.u64 M,.u64 N,.u64 O,.u64 V]),(6,.box [.sl 7,.sl 8]),(7,.arr 97 (.slice (.int .i64)) X),(8,.arr 131 (.int .u32) j),(9,.arr 251 mv p),(10,.mpo mv (.int .i64) q),(11,.box [.u64 u,.u64 v,.u64 x,.u64 z]),(12,.box [.u64 A,.u64 B,.u64 C,.u64 D])]
abbrev JQ(I:Bool)(J:QK)(L:Qj)(M:List Z9)(N O V X:Int)(Y:QZ)(j:QK)(p:Qj)(q:List (Z2×Int))(u v x z:Int)(A:QK)(B C D E:Int):Qv:=[(0,.box [.nils,.nils]),(1,.box [.sl 2,.sl 3,.bo I]),(2,.arr 131 (.int .u32) J),(3,.arr 251 mv L),(4,.arr 253 Bd M),(5,.box [.u64 N,.u64 O,.u64 V,.u64 X]),(6,.box [.sl 7,.sl 8]),(7,.arr 97 (.slice (.int .i64)) Y),(8,.arr 131 (.int .u32) j),(9,.arr 251 mv p),(10,.mpo mv (.int .i64) q),(11,.box [.u64 u,.u64 v,.u64 x,.u64 z]),(12,.arr 3 (.int .i64) A),(13,.box [.u64 B,.u64 C,.u64 D,.u64 E])]
abbrev Mr(B:Bool)(C:QK)(D:Qj)(E:List Z9)(I J L M:Int)(N:QZ)(j:QK)(p:Qj)(q:List (Z2×Int))(u v x z:Int)(A:QK):Qv:=[(0,.box [.nils,.nils]),(1,.box [.sl 2,.sl 3,.bo B]),(2,.arr 131 (.int .u32) C),(3,.arr 251 mv D),(4,.arr 253 Bd E),(5,.box [.u64 I,.u64 J,.u64 L,.u64 M]),(6,.box [.sl 7,.sl 8]),(7,.arr 97 (.slice (.int .i64)) N),(8,.arr 131 (.int .u32) j),(9,.arr 251 mv p),(10,.mpo mv (.int .i64) q),(11,.box [.u64 u,.u64 v,.u64 x,.u64 z]),(12,.arr 3 (.int .i64) A)]
abbrev MZ(v:Bool)(x:QK)(z:Qj)(A:List Z9)(B C D E:Int)(I:QZ)(j:QK)(p:Qj)(q:List (Z2×Int))(u:QK):Qv:=[(0,.box [.nils,.nils]),(1,.box [.sl 2,.sl 3,.bo v]),(2,.arr 131 (.int .u32) x),(3,.arr 251 mv z),(4,.arr 253 Bd A),(5,.box [.u64 B,.u64 C,.u64 D,.u64 E]),(6,.box [.sl 7,.sl 8]),(7,.arr 97 (.slice (.int .i64)) I),(8,.arr 131 (.int .u32) j),(9,.arr 251 mv p),(10,.mpo mv (.int .i64) q),(11,.arr 3 (.int .i64) u)]
abbrev NB(A:Bool)(B:QK)(C:Qj)(D:List Z9)(E I J L:Int)(M:QZ)(j:QK)(p:Qj)(q:List (Z2×Int))(u v x z:Int):Qv:=[(0,.box [.nils,.nils]),(1,.box [.sl 2,.sl 3,.bo A]),(2,.arr 131 (.int .u32) B),(3,.arr 251 mv C),(4,.arr 253 Bd D),(5,.box [.u64 E,.u64 I,.u64 J,.u64 L]),(6,.box [.sl 7,.sl 8]),(7,.arr 97 (.slice (.int .i64)) M),(8,.arr 131 (.int .u32) j),(9,.arr 251 mv p),(10,.mpo mv (.int .i64) q),(11,.box [.u64 u,.u64 v,.u64 x,.u64 z])]
abbrev M2(u:Bool)(v:QK)(x:Qj)(z:List Z9)(A B C D:Int)(E:QZ)(j:QK)(p:Qj)(q:List (Z2×Int)):Qv:=[(0,.box [.nils,.nils]),(1,.box [.sl 2,.sl 3,.bo u]),(2,.arr 131 (.int .u32) v),(3,.arr 251 mv x),(4,.arr 253 Bd z),(5,.box [.u64 A,.u64 B,.u64 C,.u64 D]),(6,.box [.sl 7,.sl 8]),(7,.arr 97 (.slice (.int .i64)) E),(8,.arr 131 (.int .u32) j),(9,.arr 251 mv p),(10,.mpo mv (.int .i64) q)]
abbrev Mw(j:QZ)(p:QK):Qv:=[(0,.box [.nils,.nils]),(1,.box [.sl 2,.sl 3]),(2,.arr 97 (.slice (.int .i64)) j),(3,.arr 131 (.int .u32) p)]
abbrev Me(j:Bool)(p:QK)(q:Qj)(u:List Z9)(v x z A:Int):Qv:=[(0,.box [.nils,.nils]),(1,.box [.sl 2,.sl 3,.bo j]),(2,.arr 131 (.int .u32) p),(3,.arr 251 mv q),(4,.arr 253 Bd u),(5,.box [.u64 v,.u64 x,.u64 z,.u64 A])]
abbrev MB(j:Bool)(p:QK)(q:Qj)(u:List Z9):Qv:=[(0,.box [.nils,.nils]),(1,.box [.sl 2,.sl 3,.bo j]),(2,.arr 131 (.int .u32) p),(3,.arr 251 mv q),(4,.arr 253 Bd u)]
abbrev Hc(j:Bool)(q:QZ)(u:Bool)(v:QK):Qv:=[(0,.box [.p j (.slice (.slice (.int .i64))) q,.p u (.slice (.int .u32)) v])]
abbrev I8(j:XQ)(p q:QK):Qv:=[(0,.mpo .str (.int .i64) j),(1,.arr 3 (.int .i64) p),(2,.arr 3 (.int .i64) q)]
abbrev JN(j:XQ)(p q u:QK):Qv:=[(0,.mpo .str (.int .i64) j),(1,.arr 3 (.int .i64) p),(2,.arr 3 (.int .i64) q),(3,.arr 5 (.int .u8) u)]
abbrev NA(j:Bool)(q:QZ)(u:Bool)(v:QK)(x:QZ)(z A B:QK):Qv:=[(0,.box [.p j (.slice (.slice (.int .i64))) q,.p u (.slice (.int .u32)) v]),(1,.box [.nils,.nils]),(2,.box [.sl 3,.sl 4]),(3,.arr 97 (.slice (.int .i64)) x),(4,.arr 131 (.int .u32) z),(5,.arr 3 (.int .i64) A),(6,.arr 3 (.int .i64) B)]
abbrev Kv(j:Bool)(q:QZ)(u:Bool)(v:QK)(x:QZ)(z A B C:QK):Qv:=[(0,.box [.p j (.slice (.slice (.int .i64))) q,.p u (.slice (.int .u32)) v]),(1,.box [.nils,.nils]),(2,.box [.sl 3,.sl 4]),(3,.arr 97 (.slice (.int .i64)) x),(4,.arr 131 (.int .u32) z),(5,.arr 3 (.int .i64) A),(6,.arr 3 (.int .i64) B),(7,.arr 3 (.int .i64) C)]
abbrev MA(j:Bool)(q:QZ)(u:Bool)(v x:QK):Qv:=[(0,.box [.p j (.slice (.slice (.int .i64))) q,.p u (.slice (.int .u32)) v]),(1,.box [.nils,.nils]),(2,.box [.nils,.nils]),(3,.arr 3 (.int .i64) x)]
abbrev MJ(j:Bool)(q:QZ)(u:Bool)(v x:QK):Qv:=[(0,.box [.p j (.slice (.slice (.int .i64))) q,.p u (.slice (.int .u32)) v]),(1,.box [.nils,.nils]),(2,.box [.p false (.slice (.int .i64)) x])]
abbrev Ma(j:QQ)(q u:Int)(v:QK)(x:XJ)(z A:XX):Qv:=[(0,.box [.p false (.slice .str) j,.u32 q,.u32 u,.p false (.slice (.int .i64)) v,.p false (.slice (.prod (.int .u8) Y8)) x]),(1,.arr 146 (.tree .u8 .u32) z),(2,.arr 146 (.tree .u8 .u32) A)]
abbrev Au(j:fh 4352)(p:List (fh 256))(q:List ((fh 256)×Int))(u:fh 256):Qv:=[(0,.lmp .i64 4352 j [.sl 1]),(1,.arr 169 (.arr .u8 256) p),(2,.mpo (.arr .u8 256) (.int .i64) q),(3,.lmp .u8 256 u [])]
abbrev L3(j:fh 4352)(p:List (fh 256))(q:List ((fh 256)×Int)):Qv:=[(0,.lmp .i64 4352 j [.sl 1]),(1,.arr 169 (.arr .u8 256) p),(2,.mpo (.arr .u8 256) (.int .i64) q)]
abbrev M9(j:fh 4352)(p:List (fh 256)):Qv:=[(0,.lmp .i64 4352 j [.sl 1]),(1,.arr 169 (.arr .u8 256) p)]
abbrev JU(j p q u v x:Int):Qv:=[(0,.box [.i32 j,.i64 p,.i64 q]),(1,.box [.i32 u,.i64 v,.i64 x])]
abbrev I6(j p:QK):Qv:=[(0,.box [.nils,.nils]),(1,.box [.sl 2,.sl 3]),(2,.arr 21 (.int .i32) j),(3,.arr 5 (.int .u8) p)]
abbrev MD(j p:QK)(q u v:Int):Qv:=[(0,.box [.nils,.nils]),(1,.box [.sl 2,.sl 3]),(2,.arr 21 (.int .i32) j),(3,.arr 5 (.int .u8) p),(4,.box [.i32 q,.i64 u,.i64 v])]
abbrev Ni(j p:QK):Qv:=[(0,.box [.sl 1,.sl 2]),(1,.arr 21 (.int .i32) j),(2,.arr 5 (.int .u8) p)]
abbrev FQ(j p:Int)(q u:List Z8):Qv:=[(0,.box [.nils,.nils]),(1,.box [.i64 j,.i64 p]),(2,.box [.sl 3,.sl 4]),(3,.arr 199 qM q),(4,.arr 199 qM u)]
abbrev I3(j:List Nd)(q:Bool)(u:QK)(v:Bool)(x:QK):Qv:=[(0,.box [.sl 1]),(1,.nds 229 5 j none),(2,.box [.p q (.slice (.int .i32)) u,.p v (.slice (.int .u8)) x])]
abbrev GZ(j p q:QK):Qv:=[(0,.arr 60 (.int .u8) j),(1,.arr 3 (.int .i64) p),(2,.arr 3 (.int .i64) q)]
abbrev Mn(j:Bool)(q:QZ)(u:Bool)(v x:QK):Qv:=[(0,.box [.p j (.slice (.slice (.int .i64))) q,.p u (.slice (.int .u32)) v]),(1,.arr 3 (.int .i64) x)]
abbrev LY(j:Bool)(q:QK)(u:List Bool):Qv:=[(0,.box [.p j (.slice (.int .i32)) q]),(1,.arr 4 .bool u)]
abbrev LB(j:Qj)(p:QK)(q u v:Int):Qv:=[(0,.arr 125 fk j),(1,.arr 3 (.int .i64) p),(2,.box [.i32 q,.i64 u,.i64 v])]
abbrev Im(j:Qj)(q:QK):Qv:=[(0,.box [.nils,.nils]),(1,.box [.p false (.slice fk) j,.sl 2]),(2,.arr 60 (.int .u8) q)]
abbrev Mh(j:Bool)(q:Qj)(u:Bool)(v:QK):Qv:=[(0,.box [.p j (.slice fk) q,.p u (.slice (.int .u8)) v])]
abbrev L6(q:Bool)(u:Qj)(v:Bool)(x:QK)(z A B C D:Int)(j:QJ):Qv:=[(0,.box [.p q (.slice fk) u,.p v (.slice (.int .u8)) x]),(1,.box [.i64 z,.i64 A,.u8 B,.i64 C,.i64 D,.p false .flt j])]
abbrev Ju(z:Bool)(A:Qj)(B:Bool)(C:QK)(D E I J L:Int)(j:QJ)(q u v x:Int):Qv:=[(0,.box [.p z (.slice fk) A,.p B (.slice (.int .u8)) C]),(1,.box [.i64 D,.i64 E,.u8 I,.i64 J,.i64 L,.p false .flt j]),(2,.box [.i64 q,.i64 u]),(3,.box [.i64 v,.i64 x])]
abbrev K5(B:Bool)(C:Qj)(D:Bool)(E:QK)(I J L M N:Int)(j:QJ)(q u v x z A:Int):Qv:=[(0,.box [.p B (.slice fk) C,.p D (.slice (.int .u8)) E]),(1,.box [.i64 I,.i64 J,.u8 L,.i64 M,.i64 N,.p false .flt j]),(2,.box [.i64 q,.i64 u]),(3,.box [.i64 v,.i64 x]),(4,.box [.i64 z,.i64 A])]
abbrev NF(j p q u:Int):Qv:=[(0,.box [.i64 j,.i64 p]),(1,.box [.i64 q,.i64 u])]
abbrev JK(u:Bool)(v:Qj)(x:Bool)(z:QK)(A B C D E:Int)(j:QJ)(q:Qq):Qv:=[(0,.box [.p u (.slice fk) v,.p x (.slice (.int .u8)) z]),(1,.box [.i64 A,.i64 B,.u8 C,.i64 D,.i64 E,.p false .flt j]),(2,.arr 204 Y2 q)]
abbrev Nc(j:Bool)(q:Qj)(u:Bool)(v x:QK):Qv:=[(0,.box [.p j (.slice fk) q,.p u (.slice (.int .u8)) v]),(1,.arr 3 (.int .i64) x)]
abbrev Ns(v:Bool)(x:Qj)(z:Bool)(A:QK)(B C D E I:Int)(j:QJ)(q:Qq)(u:Qj):Qv:=[(0,.box [.p v (.slice fk) x,.p z (.slice (.int .u8)) A]),(1,.box [.i64 B,.i64 C,.u8 D,.i64 E,.i64 I,.p false .flt j]),(2,.arr 204 Y2 q),(3,.arr 62 fk u)]
abbrev Ba(z:Bool)(A:Qj)(B:Bool)(C:QK)(D E I J L:Int)(j:QJ)(q u v x:Int):Qv:=[(0,.box [.p z (.slice fk) A,.p B (.slice (.int .u8)) C]),(1,.box [.i64 D,.i64 E,.u8 I,.i64 J,.i64 L,.p false .flt j]),(2,.box [.i64 q,.i64 u,.i64 v,.u8 x])]
abbrev KA(u:Bool)(v:Qj)(x:Bool)(z:QK)(A B C D E:Int)(j:QJ)(q:Qj):Qv:=[(0,.box [.p u (.slice fk) v,.p x (.slice (.int .u8)) z]),(1,.box [.i64 A,.i64 B,.u8 C,.i64 D,.i64 E,.p false .flt j]),(2,.arr 62 fk q)]
abbrev LU(j:Bool)(q:Qj)(u:Bool)(v:QK)(x:Qj):Qv:=[(0,.box [.p j (.slice fk) q,.p u (.slice (.int .u8)) v]),(1,.arr 80 fk x)]
abbrev Kq(j:QK)(p:XK):Qv:=[(0,.arr 21 (.int .i32) j),(1,.arr 116 (.prod (.int .i32) Y1) p)]
abbrev EO(j q u:Int)(v:Bool)(x:QK)(z:List sJ):Qv:=[(0,.box [.u8 j,.u8 q,.u8 u,.p v (.slice (.int .u8)) x,.p false (.slice (.prod (.int .u8) F8)) z])]
abbrev J8(j q u:Int)(v:Bool)(x:QK)(z:List sJ)(A:QQ):Qv:=[(0,.box [.u8 j,.u8 q,.u8 u,.p v (.slice (.int .u8)) x,.p false (.slice (.prod (.int .u8) F8)) z]),(1,.arr 9 .str A)]
abbrev Il(j q u v x:Int)(z:QJ):Qv:=[(0,.box [.i64 j,.i64 q,.u8 u,.i64 v,.i64 x,.p false .flt z])]
abbrev L9(x z A B C:Int)(D:QJ)(E:Qj)(I:Bool)(J:Qj)(j:Bool)(q:Qj)(u v:Bool):Qv:=[(0,.box [.i64 x,.i64 z,.u8 A,.i64 B,.i64 C,.p false .flt D]),(1,.box [.p false (.slice fk) E,.bo I,.p false (.slice fk) J,.bo j,.p false (.slice fk) q,.bo u,.nils,.bo v])]
abbrev Kr(j:Bool)(q:Qj)(u v:Bool)(x:Qj)(z:Bool):Qv:=[(0,.box [.p j (.slice fk) q,.bo u]),(1,.box [.p v (.slice fk) x,.bo z])]
abbrev L4(z A B C D:Int)(E:QJ)(I:Qj)(J:Bool)(L:Qj)(j:Bool)(q:Qj)(u:Bool)(v:Qj)(x:Bool):Qv:=[(0,.box [.i64 z,.i64 A,.u8 B,.i64 C,.i64 D,.p false .flt E]),(1,.box [.p false (.slice fk) I,.bo J,.p false (.slice fk) L,.bo j,.p false (.slice fk) q,.bo u,.p false (.slice fk) v,.bo x])]
def tb:bT:=[
 (3,⟨some (.int .i64),(.int .i64),1,8,[.i64 0]⟩),
 (4,⟨some .bool,.bool,1,1,[.bo false]⟩),
 (5,⟨some (.int .u8),(.int .u8),1,1,[.u8 0]⟩),
 (9,⟨some .str,.str,1,16,[.st ([]:QX)]⟩),
 (20,⟨none,.other,1,16,[.lit .nilIface]⟩),
 (21,⟨some (.int .i32),(.int .i32),1,4,[.i32 0]⟩),
 (22,⟨some (.slice (.int .u8)),(.sl 5),1,24,[.nils]⟩),
 (23,⟨some (.slice (.prod (.int .u8) F8)),(.sl 184),1,24,[.nils]⟩),
 (25,⟨some (.prod (.int .u8) Nw),(.st [(0,5),(1,5),(2,5),(3,22),(4,23)]),5,56,[.u8 0,.u8 0,.u8 0,.nils,.nils]⟩),
 (27,⟨some NZ,(.st [(0,25),(5,25),(10,22),(11,22),(12,22),(13,22),(14,5),(15,5)]),16,216,[.u8 0,.u8 0,.u8 0,.nils,.nils,.u8 0,.u8 0,.u8 0,.nils,.nils,.nils,.nils,.nils,.nils,.u8 0,.u8 0]⟩),
 (28,⟨some (.int .u16),(.int .u16),1,2,[.p false (.int .u16) (0:Int)]⟩),
 (29,⟨some .flt,.flt,1,8,[.p false .flt (cj 0)]⟩),
 (31,⟨some N1,(.st [(0,5),(1,5),(2,5),(3,28),(4,28),(5,29)]),6,16,[.u8 0,.u8 0,.u8 0,.p false (.int .u16) (0:Int),.p false (.int .u16) (0:Int),.p false .flt (cj 0)]⟩),
 (33,⟨some (.ptr vk),.other,1,8,[.nilp]⟩),
 (34,⟨some (.int .u8),(.int .u8),1,1,[.u8 0]⟩),
 (36,⟨some L5,(.st [(0,3),(1,3),(2,34),(3,3),(4,3),(5,29)]),6,48,[.i64 0,.i64 0,.u8 0,.i64 0,.i64 0,.p false .flt (cj 0)]⟩),
 (39,⟨some (.slice fk),(.sl 80),1,24,[.nils]⟩),
 (41,⟨some IV,(.st [(0,39),(1,4)]),2,32,[.nils,.bo false]⟩),
 (42,⟨some (.prod IV Oh),(.ar 4 41),8,128,[.nils,.bo false,.nils,.bo false,.nils,.bo false,.nils,.bo false]⟩),
 (46,⟨some (.prod .flt N7),(.ar 4 29),4,32,[.p false .flt (cj 0),.p false .flt (cj 0),.p false .flt (cj 0),.p false .flt (cj 0)]⟩),
 (47,⟨some (.int .i64),(.int .i64),1,8,[.i64 0]⟩),
 (51,⟨some (.slice fk),(.sl 125),1,24,[.nils]⟩),
 (52,⟨some (.slice (.int .u8)),(.sl 60),1,24,[.nils]⟩),
 (54,⟨some KM,(.st [(0,51),(1,52)]),2,48,[.nils,.nils]⟩),
 (57,⟨some (.slice fk),(.sl 62),1,24,[.nils]⟩),
 (60,⟨some (.int .u8),(.int .u8),1,1,[.u8 0]⟩),
 (62,⟨some fk,(.st [(0,3),(1,3),(2,3),(3,60)]),4,32,[.i64 0,.i64 0,.i64 0,.u8 0]⟩),
 (64,⟨some (.int .u64),(.int .u64),1,8,[.u64 0]⟩),
 (72,⟨some Y2,(.st [(0,47),(1,3)]),2,16,[.i64 0,.i64 0]⟩),
 (75,⟨some (.slice (.prod (.int .i32) Y1)),(.sl 116),1,24,[.nils]⟩),
 (77,⟨some Y7,(.st [(0,75),(1,75),(2,75),(3,75),(4,9),(5,9),(6,9),(7,3),(8,3)]),9,160,[.nils,.nils,.nils,.nils,.st ([]:QX),.st ([]:QX),.st ([]:QX),.i64 0,.i64 0]⟩),
 (80,⟨some fk,(.st [(0,3),(1,3),(2,3),(3,60)]),4,32,[.i64 0,.i64 0,.i64 0,.u8 0]⟩),
 (88,⟨some (.slice (.prod (.int .i32) Y2)),(.sl 127),1,24,[.nils]⟩),
 (91,⟨some (.ptr mQ),.other,1,8,[.nilp]⟩),
 (92,⟨some (.ptr vU),.other,1,8,[.nilp]⟩),
 (93,⟨some (.ptr nq),.other,1,8,[.nilp]⟩),
 (95,⟨some vk,(.st [(0,91),(1,91),(2,92),(3,92),(4,92),(5,93)]),6,48,[.nilp,.nilp,.nilp,.nilp,.nilp,.nilp]⟩),
 (97,⟨some (.slice (.int .i64)),(.sl 3),1,24,[.nils]⟩),
 (99,⟨some (.slice .bool),(.sl 4),1,24,[.nils]⟩),
 (106,⟨none,.other,1,8,[.nilp]⟩),
 (108,⟨none,(.st [(0,106),(1,75),(2,3)]),3,40,[.nilp,.nils,.i64 0]⟩),
 (109,⟨none,(.sl 108),1,24,[.nils]⟩),
 (116,⟨some (.prod (.int .i32) Y1),(.st [(0,21),(1,21),(2,3)]),3,16,[.i32 0,.i32 0,.i64 0]⟩),
 (121,⟨some (.slice .str),(.sl 9),1,24,[.nils]⟩),
 (123,⟨some (.int .u8),(.int .u8),1,1,[.u8 0]⟩),
 (125,⟨some fk,(.st [(0,3),(1,3),(2,3),(3,123)]),4,32,[.i64 0,.i64 0,.i64 0,.u8 0]⟩),
 (127,⟨some (.prod (.int .i32) Y2),(.st [(0,21),(1,3),(2,3)]),3,24,[.i32 0,.i64 0,.i64 0]⟩),
 (131,⟨some (.int .u32),(.int .u32),1,4,[.u32 0]⟩),
 (132,⟨some (.slice (.prod (.int .u8) Y8)),(.sl 148),1,24,[.nils]⟩),
 (134,⟨some Kw,(.st [(0,121),(1,131),(2,131),(3,97),(4,132)]),5,80,[.nils,.u32 0,.u32 0,.nils,.nils]⟩),
 (135,⟨some (.slice (.slice (.int .i64))),(.sl 97),1,24,[.nils]⟩),
 (136,⟨some (.slice (.int .u32)),(.sl 131),1,24,[.nils]⟩),
 (138,⟨some CQ,(.st [(0,135),(1,136)]),2,48,[.nils,.nils]⟩),
 (140,⟨some mQ,(.st [(0,134),(5,138),(7,138)]),9,176,[.nils,.u32 0,.u32 0,.nils,.nils,.nils,.nils,.nils,.nils]⟩),
 (143,⟨some (.int .u8),(.int .u8),1,1,[.u8 0]⟩),
 (144,⟨some (.slice (.tree .u8 .u32)),(.sl 146),1,24,[.nils]⟩),
 (146,⟨some (.tree .u8 .u32),(.st [(0,143),(1,131),(2,144)]),3,32,[.u8 0,.u32 0,.nils]⟩),
 (148,⟨some (.prod (.int .u8) Y8),(.st [(0,60),(1,146),(4,146)]),7,72,[.u8 0,.u8 0,.u32 0,.nils,.u8 0,.u32 0,.nils]⟩),
 (152,⟨some (.slice (.int .i32)),(.sl 21),1,24,[.nils]⟩),
 (162,⟨some (.slice (.arr .u8 256)),(.sl 169),1,24,[.nils]⟩),
 (163,⟨some (.arr .i64 4352),(.ar 4352 3),4352,34816,(List.replicate 4352 (.i64 0))⟩),
 (165,⟨some vU,(.st [(0,163),(4352,162)]),4353,34840,(List.replicate 4352 (.i64 0)++[.nils])⟩),
 (166,⟨none,(.mp 169 3),1,8,[.lit (.map none)]⟩),
 (167,⟨some (.int .u64),(.int .u64),1,8,[.u64 0]⟩),
 (169,⟨some (.arr .u8 256),(.ar 256 5),256,256,(List.replicate 256 (.u8 0))⟩),
 (171,⟨some (.slice qM),(.sl 199),1,24,[.nils]⟩),
 (173,⟨some Jp,(.st [(0,171),(1,171)]),2,48,[.nils,.nils]⟩),
 (177,⟨some (.ptr tq),.other,1,8,[.nilp]⟩),
 (180,⟨some nq,(.st [(0,75),(1,177),(2,171),(3,3),(4,3)]),5,72,[.nils,.nilp,.nils,.i64 0,.i64 0]⟩),
 (184,⟨some (.prod (.int .u8) F8),(.st [(0,5),(1,22),(2,22)]),3,56,[.u8 0,.nils,.nils]⟩),
 (195,⟨none,.other,1,8,[.lit .nilFunc]⟩),
 (199,⟨some qM,(.st [(0,152),(1,22)]),2,48,[.nils,.nils]⟩),
 (201,⟨none,.other,1,8,[.lit .nilFunc]⟩),
 (202,⟨some (.slice Y2),(.sl 204),1,24,[.nils]⟩),
 (204,⟨some Y2,(.st [(0,3),(1,3)]),2,16,[.i64 0,.i64 0]⟩),
 (209,⟨none,.other,1,8,[.nilp]⟩),
 (210,⟨none,(.mp 9 131),1,8,[.lit (.map none)]⟩),
 (212,⟨none,(.st [(0,9),(1,3),(2,134),(7,210),(8,3),(9,3)]),10,128,[.st ([]:QX),.i64 0,.nils,.u32 0,.u32 0,.nils,.nils,.lit (.map none),.i64 0,.i64 0]⟩),
 (224,⟨some (.slice MS),(.sl 229),1,24,[.nils]⟩),
 (226,⟨some tq,(.st [(0,224)]),1,24,[.nils]⟩),
 (227,⟨some (.mapi .i32 .i64),(.mp 21 3),1,8,[.lit (.map none)]⟩),
 (229,⟨some MS,(.st [(0,227),(1,22)]),2,32,[.lit (.map none),.nils]⟩),
 (232,⟨none,.other,1,8,[.nilp]⟩),
 (234,⟨some Oa,(.st [(0,22),(1,3)]),2,32,[.nils,.i64 0]⟩),
 (237,⟨none,.other,1,8,[.lit .nilFunc]⟩),
 (238,⟨none,(.mp 9 237),1,8,[.lit (.map none)]⟩),
 (239,⟨none,(.mp 9 60),1,8,[.lit (.map none)]⟩),
 (245,⟨none,.other,1,8,[.nilp]⟩),
 (246,⟨some (.slice mv),(.sl 251),1,24,[.nils]⟩),
 (248,⟨some Oj,(.st [(0,136),(1,246),(2,4)]),3,56,[.nils,.nils,.bo false]⟩),
 (249,⟨some (.slice Bd),(.sl 253),1,24,[.nils]⟩),
 (251,⟨some mv,(.ar 4 64),4,32,[.u64 0,.u64 0,.u64 0,.u64 0]⟩),
 (253,⟨some Bd,(.st [(0,4),(1,251),(5,251)]),9,72,[.bo false,.u64 0,.u64 0,.u64 0,.u64 0,.u64 0,.u64 0,.u64 0,.u64 0]⟩),
 (256,⟨none,(.mp 251 3),1,8,[.lit (.map none)]⟩),
 (261,⟨none,.other,1,8,[.lit .nilFunc]⟩),
 (265,⟨none,.other,1,8,[.lit .nilFunc]⟩),
 (274,⟨none,(.mp 9 3),1,8,[.lit (.map none)]⟩),
 (279,⟨some (.prod (.int .u8) N4),(.ar 7 5),7,7,[.u8 0,.u8 0,.u8 0,.u8 0,.u8 0,.u8 0,.u8 0]⟩)]
theorem iQ:bX Tryz.prog tb:=Lx (by kernel_rfl) (by kernel_rfl) (by kernel_rfl)
theorem JR:LD Tryz.prog 80 fk:=IP 8 (by decide) (by kernel_rfl) ⟨by kernel_rfl,rfl⟩
theorem DY:hY Tryz.prog 169 (.arr .u8 256):=hY.Ef (e:=5) rfl rfl rfl (by kernel_rfl) rfl rfl rfl
theorem zF:hY Tryz.prog 251 mv:=hY.Ef (e:=64) rfl rfl rfl (by kernel_rfl) rfl rfl rfl
theorem mixed:Tryz.prog.follows .mixedOrders=true:=by kernel_rfl
theorem PB{fid:FuncId}{fn:Func}{c:Code}(hf:Tryz.prog.funcs[fid]? = some fn){args:List ag}{j:List (Σ T:Ty,T.den)}(h:∀Bw w0,W Tryz.prog fn.ntmps Bw w0 c (nj args) (LQ tb fn.results.toList j))(hname:(fn.name == "runtime.NumGoroutine")=false:=by kernel_rfl)(hb:fn.body=some c:=by exact rfl)(p:Nat.ble args.length fn.ntmps=true:=by exact rfl)(q:od args=true:=by exact rfl):Pure Tryz.prog fid args (aK (bd false j)):=Pure.jK iQ hf hname hb (nl p) h q
theorem OB{fid:FuncId}{fn:Func}{c:Code}(hf:Tryz.prog.funcs[fid]? = some fn){args:List ag}{hin hout:Qv}{r:ag}(h:∀Bw w0,W Tryz.prog fn.ntmps Bw w0 c (sB args hin) (yh tb fn.ntmps fn.results.toList r hout))(hname:(fn.name == "runtime.NumGoroutine")=false:=by kernel_rfl)(hb:fn.body=some c:=by exact rfl)(j:Nat.ble args.length fn.ntmps=true:=by exact rfl):jD Tryz.prog fid args hin r hout:=jD.jK iQ hf hname hb (nl j) h
theorem DB{fid:FuncId}{fn:Func}{c:Code}(hf:Tryz.prog.funcs[fid]? = some fn){args:List ag}{hin:Qv}{j:(ag×Qv)⊕Value}(h:∀Bw w0,W Tryz.prog fn.ntmps Bw w0 c (sB args hin) (Ms tb fn.ntmps fn.results.toList j))(hname:(fn.name == "runtime.NumGoroutine")=false:=by kernel_rfl)(hb:fn.body=some c:=by exact rfl)(p:Nat.ble args.length fn.ntmps=true:=by exact rfl):iV Tryz.prog fid args hin j:=iV.jK iQ hf hname hb (nl p) h
theorem RO{n:NS}{σ:St}{q:List ResultVar}{r:ag}{hout:Qv}(Ts:List (Option Ty))(u:List Tv.G)(f:QV)(l:List (Nat×ag))(m:Qv)(nx pn:Nat)(h1:goal u f l m σ=some (want f l m):=by kernel_rfl)(j:(σ.pn == pn && jg (Fy f) l m nx pn)=true:=by kernel_rfl)(h2:IU tb q Ts hout (aA l m nx pn)=some (r,hout.map (fun p=>some p.2)):=by kernel_rfl):yh tb n q r hout .ret σ:=D9 Ts u f l m nx pn h1 j h2
theorem RI{σ:St}{p:List ResultVar}{j:List (Σ T:Ty,T.den)}(Ts:List Ty)(h:(match sM tb σ.s σ.h p with | some xs=>mE σ.h xs Ts | none=>none)=some j:=by kernel_rfl):LQ tb p j .ret σ:=Fg Ts h
section
variable{n:NS}{Bw:Nat→Prop}{w0:cC Tryz.prog}{σ:St}{Q:Exit→St→Prop}{id:Nat}{ops:Array Oper}{d:Code}{fid:FuncId}{args:List ag}{hin hout:Qv}{r:ag}{y:Value}
theorem Ge(j:∀σ',Le n σ' (iP Tryz.prog tb a0 n ops σ)→Q .normal σ')(h:iL Tryz.prog tb a0 n ops σ=some (cP ops.size 0 []):=by kernel_rfl):W Tryz.prog n Bw w0 (.region id ops false) σ Q:=Iz iQ a0 [] h j
theorem bC(an:An)(j:List (Nat×Nat×PP))(p:∀σ',Le n σ' (iP Tryz.prog tb an n ops σ)→Q .normal σ')(h:iL Tryz.prog tb an n ops σ=some (cP ops.size 0 j):=by kernel_rfl):W Tryz.prog n Bw w0 (.region id ops false) σ Q:=Iz iQ an j h p
theorem nf(an:An)(j:List (Nat×Nat×PP))(p:∀σ',Le n σ' (BI Tryz.prog tb an n ops σ)→Q .normal σ')(h:Cc Tryz.prog tb an n ops σ=some (cP ops.size 0 j):=by kernel_rfl):W Tryz.prog n Bw w0 (.region id ops true) σ Q:=Mb iQ mixed an j h p
theorem xq(i:Nat){α:Type}{p:Prop}[Decidable p]{u:Option α}{v:α}(h:(if p then u else none)=some v)(j:u=some v→∀σ',Le n σ' (iP Tryz.prog tb a0 n ops σ)→Q .normal σ')(hk:iL Tryz.prog tb a0 n ops σ=some (cG ops.size i p):=by kernel_rfl):W Tryz.prog n Bw w0 (.region id ops false) σ Q:=Kd iQ i h hk j
theorem MR(i:Nat)(u:Pure Tryz.prog fid args r)(j:∀σ',Le n σ' (iP Tryz.prog tb ⟨[],[(i,oP u)]⟩ n ops σ)→Q .normal σ')(h:iL Tryz.prog tb ⟨[],[(i,oP u)]⟩ n ops σ=some (cP ops.size 0 [(i,i,oc u)]):=by kernel_rfl):W Tryz.prog n Bw w0 (.region id ops false) σ Q:=MI iQ i u h j
theorem mJ(i:Nat)(g:QV)(u:jD Tryz.prog fid args hin r hout)(j:∀σ',Le n σ' (iP Tryz.prog tb ⟨[],[(i,oO u g)]⟩ n ops σ)→Q .normal σ')(h:iL Tryz.prog tb ⟨[],[(i,oO u g)]⟩ n ops σ=some (cP ops.size 0 [(i,i,oc u)]):=by kernel_rfl):W Tryz.prog n Bw w0 (.region id ops false) σ Q:=Mx iQ i g u h j
theorem G(j:W Tryz.prog n Bw w0 d (iP Tryz.prog tb a0 n ops σ) Q)(h:iL Tryz.prog tb a0 n ops σ=some (cP ops.size 0 []):=by kernel_rfl):W Tryz.prog n Bw w0 (.seq (.region id ops false) d) σ Q:=MO iQ a0 [] h j
theorem GN(an:An)(j:List (Nat×Nat×PP))(p:W Tryz.prog n Bw w0 d (iP Tryz.prog tb an n ops σ) Q)(h:iL Tryz.prog tb an n ops σ=some (cP ops.size 0 j):=by kernel_rfl):W Tryz.prog n Bw w0 (.seq (.region id ops false) d) σ Q:=MO iQ an j h p
theorem GD(an:An)(j:List (Nat×Nat×PP))(p:W Tryz.prog n Bw w0 d (BI Tryz.prog tb an n ops σ) Q)(h:Cc Tryz.prog tb an n ops σ=some (cP ops.size 0 j):=by kernel_rfl):W Tryz.prog n Bw w0 (.seq (.region id ops true) d) σ Q:=Ou iQ mixed an j h p
theorem GC(i:Nat){α:Type}{p:Prop}[Decidable p]{u:Option α}{v:α}(h:(if p then u else none)=some v)(j:u=some v→W Tryz.prog n Bw w0 d (iP Tryz.prog tb a0 n ops σ) Q)(hk:iL Tryz.prog tb a0 n ops σ=some (cG ops.size i p):=by kernel_rfl):W Tryz.prog n Bw w0 (.seq (.region id ops false) d) σ Q:=M1 iQ i h hk j
theorem GP(i:Nat)(u:Pure Tryz.prog fid args r)(j:W Tryz.prog n Bw w0 d (iP Tryz.prog tb ⟨[],[(i,oP u)]⟩ n ops σ) Q)(h:iL Tryz.prog tb ⟨[],[(i,oP u)]⟩ n ops σ=some (cP ops.size 0 [(i,i,oc u)]):=by kernel_rfl):W Tryz.prog n Bw w0 (.seq (.region id ops false) d) σ Q:=NG iQ i u h j
theorem GO(i:Nat)(g:QV)(u:jD Tryz.prog fid args hin r hout)(j:W Tryz.prog n Bw w0 d (iP Tryz.prog tb ⟨[],[(i,oO u g)]⟩ n ops σ) Q)(h:iL Tryz.prog tb ⟨[],[(i,oO u g)]⟩ n ops σ=some (cP ops.size 0 [(i,i,oc u)]):=by kernel_rfl):W Tryz.prog n Bw w0 (.seq (.region id ops false) d) σ Q:=Nv iQ i g u h j
theorem GX(i:Nat)(g:QV)(u:jV Tryz.prog fid args hin y)(j:∀σ',Q (.panic [{ v:=y,recovered:=false }]) σ')(h:BX Tryz.prog tb ⟨[],[(i,oD u g)]⟩ n ops i σ=some (cP (i+1) 0 [(i,i,oc u)],y):=by kernel_rfl):W Tryz.prog n Bw w0 (.region id ops false) σ Q:=Nl iQ i g u h j
theorem N9(u:jV Tryz.prog fid args hin y)(an:An)(i:Nat)(j:List (Nat×Nat×PP))(p:∀σ',Q (.panic [{ v:=y,recovered:=false }]) σ')(h:BX Tryz.prog tb an n ops i σ=some (cP (i+1) 0 j,y):=by kernel_rfl):W Tryz.prog n Bw w0 (.region id ops false) σ Q:=NK iQ u an i j h p
end
end
end Go.Proofs.YtobbjfkfmdiklaaGreatDoor.T
