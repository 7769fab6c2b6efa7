import Derived.Test.YtobbjfkfmdiklaaGreatDoorTvSt
import Derived.Test.YtobbjfkfmdiklaaGreatDoorProg
import Derived.KernelRfl
namespace Go.Proofs.YtobbjfkfmdiklaaGreatDoor.T
open Go Go.Tv Go.Proofs
noncomputable section
set_option maxRecDepth 100000
set_option maxHeartbeats 4000000
abbrev Z6:Type:=Int×Tree×Tree
abbrev XJ:=List Z6
abbrev J0:Type:=QQ×Int×Int×QK×XJ
abbrev Ee:Type:=QZ×QK
abbrev Z5:Type:=J0×Ee×QZ×QK
abbrev Ae:Type:=(ff 4352)×List (ff 256)
abbrev Z7:Type:=Int×Int×Int
abbrev XK:=List Z7
abbrev HY:Type:=(List (Qq×QK))×Unit
abbrev Z8:Type:=QK×QK
abbrev Z3:Type:=XK×(Option HY)×(List Z8)×Int×Int
abbrev Z1:Type:=(Option Z5)×(Option Z5)×(Option Ae)×(Option Ae)×(Option Ae)×Option Z3
abbrev Z2:Type:=Int×Int×Int×Int
abbrev Qj:=List Z2
abbrev Z4:Type:=QX×Int
abbrev XX:=List Z4
abbrev Z9:Type:=Bool×Z2×Int×Int×Int×Int
abbrev oB:Type:=Tree×Int×Int×Int
abbrev sL:Type:=Int×QK×QK
abbrev Lh:Type:=Int×QQ×Int×Int×QK×XJ×XX×Int×Int
abbrev uU:Type:=QK×Int
abbrev Y1:Ty:=(.prod (.int .i32) (.int .i64))
abbrev Y2:Ty:=(.prod (.int .i64) (.int .i64))
abbrev Y3:Ty:=(.prod .str (.prod .str Y2))
abbrev Y4:Ty:=(.prod (.slice (.prod (.int .i32) Y1)) (.prod .str Y3))
abbrev Y5:Ty:=(.prod (.slice (.prod (.int .i32) Y1)) Y4)
abbrev Y6:Ty:=(.prod (.slice (.prod (.int .i32) Y1)) Y5)
abbrev Y7:Ty:=(.prod (.slice (.prod (.int .i32) Y1)) Y6)
abbrev Y8:Ty:=(.prod (.tree .u8 .u32) (.tree .u8 .u32))
abbrev Y9:Ty:=(.prod (.slice (.int .i64)) (.slice (.prod (.int .u8) Y8)))
abbrev NN:Ty:=(.prod (.int .u32) (.prod (.int .u32) Y9))
abbrev KK:Ty:=(.prod (.slice .str) NN)
abbrev CC:Ty:=(.prod (.slice (.slice (.int .i64))) (.slice (.int .u32)))
abbrev mO:Ty:=(.prod KK (.prod CC CC))
abbrev NX:Ty:=(.prod (.int .u64) (.int .u64))
abbrev ma:Ty:=(.prod (.int .u64) (.prod (.int .u64) NX))
abbrev Cx:Ty:=(.prod .bool (.prod ma ma))
abbrev vm:Ty:=(.prod (.arr .i64 4352) (.slice (.arr .u8 256)))
abbrev MG:Ty:=(.prod (.mapi .i32 .i64) (.slice (.int .u8)))
abbrev tn:Ty:=(.prod (.slice MG) .unit)
abbrev qU:Ty:=(.prod (.slice (.int .i32)) (.slice (.int .u8)))
abbrev N0:Ty:=(.prod (.ptr tn) (.prod (.slice qU) Y2))
abbrev nk:Ty:=(.prod (.slice (.prod (.int .i32) Y1)) N0)
abbrev NF:Ty:=(.prod (.ptr vm) (.ptr nk))
abbrev NK:Ty:=(.prod (.ptr vm) (.prod (.ptr vm) NF))
abbrev xg:Ty:=(.prod (.ptr mO) (.prod (.ptr mO) NK))
abbrev Iw:Ty:=(.prod (.slice qU) (.slice qU))
abbrev NG:Ty:=(.prod (.int .i64) (.int .u8))
abbrev fb:Ty:=(.prod (.int .i64) (.prod (.int .i64) NG))
abbrev Mf:Ty:=(.prod (.slice fb) .bool)
abbrev Ku:Ty:=(.prod (.slice fb) (.slice (.int .u8)))
abbrev Fe:Ty:=(.prod (.slice (.int .u8)) (.slice (.int .u8)))
abbrev Ny:Ty:=(.prod (.int .i64) .flt)
abbrev Nx:Ty:=(.prod (.int .u8) (.prod (.int .i64) Ny))
abbrev Mj:Ty:=(.prod (.int .i64) (.prod (.int .i64) Nx))
abbrev NY:Ty:=(.prod (.slice (.int .u8)) (.slice (.prod (.int .u8) Fe)))
abbrev M5:Ty:=(.prod (.int .u8) (.prod (.int .u8) NY))
abbrev Nj:Ty:=(.prod (.int .u8) (.int .u8))
abbrev ND:Ty:=(.prod (.slice (.int .u8)) Nj)
abbrev NW:Ty:=(.prod (.slice (.int .u8)) ND)
abbrev NM:Ty:=(.prod (.slice (.int .u8)) NW)
abbrev NA:Ty:=(.prod (.slice (.int .u8)) NM)
abbrev NP:Ty:=(.prod (.prod (.int .u8) M5) NA)
abbrev Nv:Ty:=(.prod (.prod (.int .u8) M5) NP)
abbrev NR:Ty:=(.prod (.int .u16) .flt)
abbrev Nw:Ty:=(.prod (.int .u8) (.prod (.int .u16) NR))
abbrev NQ:Ty:=(.prod (.int .u8) (.prod (.int .u8) Nw))
abbrev NH:Ty:=(.prod (.slice (.int .u8)) (.int .i64))
abbrev NO:Ty:=(.prod (.slice ma) .bool)
abbrev N1:Ty:=(.prod (.slice (.int .u32)) NO)
abbrev NI:Ty:=(.prod (.int .u8) (.prod (.int .u8) Nj))
abbrev NJ:Ty:=(.prod (.int .u8) (.prod (.int .u8) NI))
abbrev NU(p q u v:Int)(x:QX)(z A B C f:Int)(j:XX):Qv:=[(0,.box [.nils,.u32 p,.u32 q,.nils,.nils]),(1,.box [.i64 u,.i64 v]),(2,.box [.st x,.i64 z,.nils,.u32 A,.u32 B,.nils,.nils,.mp 3,.i64 C,.i64 f]),(3,.mpo .str (.int .u32) j)]
abbrev Ml(f:QX)(j p q u v:Int)(x:XX):Qv:=[(0,.box [.st f,.i64 j,.nils,.u32 p,.u32 q,.nils,.nils,.mp 1,.i64 u,.i64 v]),(1,.mpo .str (.int .u32) x)]
abbrev Kv(f j p q:Int):Qv:=[(0,.box [.nils,.u32 f,.u32 j,.nils,.nils]),(1,.box [.i64 p,.i64 q])]
abbrev bN(j:QX)(p q u v x:Int)(z:QQ)(A:QK)(B:XJ)(f:XX):Qv:=[(0,.box [.st j,.i64 p,.sl 1,.u32 q,.u32 u,.sl 2,.sl 3,.mp 4,.i64 v,.i64 x]),(1,.arr 9 .str z),(2,.arr 3 (.int .i64) A),(3,.arr 148 (.prod (.int .u8) Y8) B),(4,.mpo .str (.int .u32) f)]
abbrev Jl(j:QX)(p q u v x:Int)(z:XJ)(A:XX)(B:QQ)(f:QK):Qv:=[(0,.box [.st j,.i64 p,.sl 5,.u32 q,.u32 u,.sl 6,.sl 3,.mp 4,.i64 v,.i64 x]),(3,.arr 148 (.prod (.int .u8) Y8) z),(4,.mpo .str (.int .u32) A),(5,.arr 9 .str B),(6,.arr 3 (.int .i64) f)]
abbrev My(v:QX)(x z A B C:Int)(D:QQ)(E:QK)(I:XJ)(f:XX)(j p q u:Int):Qv:=[(0,.box [.st v,.i64 x,.sl 1,.u32 z,.u32 A,.sl 2,.sl 3,.mp 4,.i64 B,.i64 C]),(1,.arr 9 .str D),(2,.arr 3 (.int .i64) E),(3,.arr 148 (.prod (.int .u8) Y8) I),(4,.mpo .str (.int .u32) f),(5,.box [.u8 j,.u32 p,.nils]),(6,.box [.u8 q,.u32 u,.nils])]
abbrev LV(q:QX)(u v x z A:Int)(B:QQ)(C:QK)(D:XJ)(f:XX)(j p:Int):Qv:=[(0,.box [.st q,.i64 u,.sl 1,.u32 v,.u32 x,.sl 2,.sl 3,.mp 4,.i64 z,.i64 A]),(1,.arr 9 .str B),(2,.arr 3 (.int .i64) C),(3,.arr 148 (.prod (.int .u8) Y8) D),(4,.mpo .str (.int .u32) f),(5,.box [.u8 j,.u32 p,.nils])]
abbrev K9(z:QX)(A B C D E:Int)(I:QQ)(J:QK)(L:XJ)(f:XX)(j q u v:Int)(x:XZ):Qv:=[(0,.box [.st z,.i64 A,.sl 1,.u32 B,.u32 C,.sl 2,.sl 3,.mp 4,.i64 D,.i64 E]),(1,.arr 9 .str I),(2,.arr 3 (.int .i64) J),(3,.arr 148 (.prod (.int .u8) Y8) L),(4,.mpo .str (.int .u32) f),(5,.box [.u8 j,.u32 q,.nils]),(6,.box [.u8 u,.u32 v,.p false (.slice (.tree .u8 .u32)) x])]
abbrev DN(v:QX)(x z A B C:Int)(D:QQ)(E:QK)(I:XJ)(f:XX)(j q:Int)(u:XZ):Qv:=[(0,.box [.st v,.i64 x,.sl 1,.u32 z,.u32 A,.sl 2,.sl 3,.mp 4,.i64 B,.i64 C]),(1,.arr 9 .str D),(2,.arr 3 (.int .i64) E),(3,.arr 148 (.prod (.int .u8) Y8) I),(4,.mpo .str (.int .u32) f),(5,.box [.u8 j,.u32 q,.p false (.slice (.tree .u8 .u32)) u])]
abbrev Ij(u:QX)(v x z A B:Int)(C:QQ)(D:QK)(E:XJ)(f:XX)(j p:Int)(q:XZ):Qv:=[(0,.box [.st u,.i64 v,.sl 1,.u32 x,.u32 z,.sl 2,.sl 3,.mp 4,.i64 A,.i64 B]),(1,.arr 9 .str C),(2,.arr 3 (.int .i64) D),(3,.arr 148 (.prod (.int .u8) Y8) E),(4,.mpo .str (.int .u32) f),(5,.box [.u8 j,.u32 p,.nils]),(6,.arr 146 (.tree .u8 .u32) q)]
abbrev L5(j:QX)(p q u v x:Int)(z:QQ)(A:QK)(B:XX)(f:XJ):Qv:=[(0,.box [.st j,.i64 p,.sl 1,.u32 q,.u32 u,.sl 2,.sl 5,.mp 4,.i64 v,.i64 x]),(1,.arr 9 .str z),(2,.arr 3 (.int .i64) A),(4,.mpo .str (.int .u32) B),(5,.arr 148 (.prod (.int .u8) Y8) f)]
abbrev Mx(p:QX)(q u v x z:Int)(A:XX)(B:QQ)(C:QK)(f:XJ)(j:XX):Qv:=[(0,.box [.st p,.i64 q,.sl 2,.u32 u,.u32 v,.sl 3,.sl 4,.mp 1,.i64 x,.i64 z]),(1,.mpo .str (.int .u32) A),(2,.arr 9 .str B),(3,.arr 3 (.int .i64) C),(4,.arr 148 (.prod (.int .u8) Y8) f),(5,.mpl .str [(([99,108,97,115,115]:QX),(yi 98)),(([115,101,116]:QX),(yi 99)),(([106,111,105,110]:QX),(yi 100)),(([116,114,101,97,116]:QX),(yi 101))]),(6,.mpo .str (.int .u8) j)]
abbrev KR(j:QX)(p q u v x:Int)(z:XX)(A:QQ)(B:QK)(f:XJ):Qv:=[(0,.box [.st j,.i64 p,.sl 2,.u32 q,.u32 u,.sl 3,.sl 4,.mp 1,.i64 v,.i64 x]),(1,.mpo .str (.int .u32) z),(2,.arr 9 .str A),(3,.arr 3 (.int .i64) B),(4,.arr 148 (.prod (.int .u8) Y8) f)]
abbrev MY(v x:Int)(z:Bool)(A:XZ)(B C D E:Int)(I:XZ)(f j:Int)(q:Bool)(u:XZ):Qv:=[(0,.box [.u8 v,.u32 x,.p z (.slice (.tree .u8 .u32)) A]),(1,.box [.u8 B,.u32 C,.nils]),(2,.box [.u8 D,.u32 E,.sl 3]),(3,.arr 146 (.tree .u8 .u32) I),(4,.box [.u8 f,.u32 j,.p q (.slice (.tree .u8 .u32)) u])]
abbrev MH(f j:Int)(q:Bool)(u:XZ)(v x z A:Int)(B:XZ):Qv:=[(0,.box [.u8 f,.u32 j,.p q (.slice (.tree .u8 .u32)) u]),(1,.box [.u8 v,.u32 x,.nils]),(2,.box [.u8 z,.u32 A,.sl 3]),(3,.arr 146 (.tree .u8 .u32) B)]
abbrev M1(f j p q:Int)(u:XZ):Qv:=[(0,.box [.u8 f,.u32 j,.nils]),(1,.box [.u8 p,.u32 q,.sl 2]),(2,.arr 146 (.tree .u8 .u32) u)]
abbrev J5(f:Bool)(j p q u v x z A:Int):Qv:=[(0,.box [.bo f,.u64 j,.u64 p,.u64 q,.u64 u,.u64 v,.u64 x,.u64 z,.u64 A])]
abbrev LL(f j p q u v x z:Int):Qv:=[(0,.box [.u64 f,.u64 j,.u64 p,.u64 q]),(1,.box [.u64 u,.u64 v,.u64 x,.u64 z])]
abbrev C2(f:Bool)(j:QK)(p:Qj):Qv:=[(0,.box [.sl 1,.sl 2,.bo f]),(1,.arr 131 (.int .u32) j),(2,.arr 251 ma p)]
abbrev MJ(q u v x z A B C D f j p:Int):Qv:=[(0,.box [.u64 q,.u64 u,.u64 v,.u64 x]),(1,.box [.u64 z,.u64 A,.u64 B,.u64 C]),(2,.box [.u64 D,.u64 f,.u64 j,.u64 p])]
abbrev Lx(p:Bool)(q:QK)(u:Qj)(v x z A B C f j:Int):Qv:=[(0,.box [.sl 1,.sl 2,.bo p]),(1,.arr 131 (.int .u32) q),(2,.arr 251 ma u),(3,.box [.u64 v,.u64 x,.u64 z,.u64 A]),(4,.box [.u64 B,.u64 C,.u64 f,.u64 j])]
abbrev M0(A:Bool)(B:QK)(C:Qj)(D E:Int)(I:Bool)(J:XZ)(L:Bool)(M f j q u v x z:Int):Qv:=[(0,.box [.sl 1,.sl 2,.bo A]),(1,.arr 131 (.int .u32) B),(2,.arr 251 ma C),(3,.box [.u8 D,.u32 E,.p I (.slice (.tree .u8 .u32)) J]),(4,.box [.bo L,.u64 M,.u64 f,.u64 j,.u64 q,.u64 u,.u64 v,.u64 x,.u64 z])]
abbrev Kc(f:Bool)(j:QK)(p:Qj):Qv:=[(0,.box [.sl 3,.sl 4,.bo f]),(3,.arr 131 (.int .u32) j),(4,.arr 251 ma p)]
abbrev LP(Y:Bool)(Z:QK)(a3:Qj)(a4:Bool)(a5 a6 a7 a8 a9 f j p:Int)(q:Bool)(u v x z A B C D:Int)(E:Bool)(I J L M N O V X:Int):Qv:=[(0,.box [.sl 3,.sl 4,.bo Y]),(3,.arr 131 (.int .u32) Z),(4,.arr 251 ma a3),(5,.box [.bo a4,.u64 a5,.u64 a6,.u64 a7,.u64 a8,.u64 a9,.u64 f,.u64 j,.u64 p]),(6,.box [.bo q,.u64 u,.u64 v,.u64 x,.u64 z,.u64 A,.u64 B,.u64 C,.u64 D]),(7,.box [.bo E,.u64 I,.u64 J,.u64 L,.u64 M,.u64 N,.u64 O,.u64 V,.u64 X])]
abbrev IZ(E:Bool)(I:QK)(J:Qj)(L:Bool)(M N O V X f j p:Int)(q:Bool)(u v x z A B C D:Int):Qv:=[(0,.box [.sl 3,.sl 4,.bo E]),(3,.arr 131 (.int .u32) I),(4,.arr 251 ma J),(5,.box [.bo L,.u64 M,.u64 N,.u64 O,.u64 V,.u64 X,.u64 f,.u64 j,.u64 p]),(6,.box [.bo q,.u64 u,.u64 v,.u64 x,.u64 z,.u64 A,.u64 B,.u64 C,.u64 D])]
abbrev Lg(E I:Bool)(J L M N O V X f:Int)(j:Bool)(p q u v x z A B:Int)(C:QK)(D:Qj):Qv:=[(0,.box [.sl 5,.sl 6,.bo E]),(3,.box [.bo I,.u64 J,.u64 L,.u64 M,.u64 N,.u64 O,.u64 V,.u64 X,.u64 f]),(4,.box [.bo j,.u64 p,.u64 q,.u64 u,.u64 v,.u64 x,.u64 z,.u64 A,.u64 B]),(5,.arr 131 (.int .u32) C),(6,.arr 251 ma D)]
abbrev MQ(N:Bool)(O V:Int)(X:Bool)(Y:XZ)(Z:Bool)(a7 a8 a9 f j q u v:Int)(x:Bool)(z A B C D E I J:Int)(L:QK)(M:Qj):Qv:=[(0,.box [.sl 6,.sl 7,.bo N]),(3,.box [.u8 O,.u32 V,.p X (.slice (.tree .u8 .u32)) Y]),(4,.box [.bo Z,.u64 a7,.u64 a8,.u64 a9,.u64 f,.u64 j,.u64 q,.u64 u,.u64 v]),(5,.box [.bo x,.u64 z,.u64 A,.u64 B,.u64 C,.u64 D,.u64 E,.u64 I,.u64 J]),(6,.arr 131 (.int .u32) L),(7,.arr 251 ma M)]
abbrev MK(N:Bool)(O:QK)(V:Qj)(X Y:Int)(Z:Bool)(a7:XZ)(a8:Bool)(a9 f j q u v x z:Int)(A:Bool)(B C D E I J L M:Int):Qv:=[(0,.box [.sl 3,.sl 4,.bo N]),(3,.arr 131 (.int .u32) O),(4,.arr 251 ma V),(5,.box [.u8 X,.u32 Y,.p Z (.slice (.tree .u8 .u32)) a7]),(6,.box [.bo a8,.u64 a9,.u64 f,.u64 j,.u64 q,.u64 u,.u64 v,.u64 x,.u64 z]),(7,.box [.bo A,.u64 B,.u64 C,.u64 D,.u64 E,.u64 I,.u64 J,.u64 L,.u64 M])]
abbrev Fp(q:Bool)(u:QK)(v:Qj)(x:Bool)(z A B C D f j p:Int):Qv:=[(0,.box [.sl 3,.sl 4,.bo q]),(3,.arr 131 (.int .u32) u),(4,.arr 251 ma v),(5,.box [.bo x,.u64 z,.u64 A,.u64 B,.u64 C,.u64 D,.u64 f,.u64 j,.u64 p])]
abbrev Fc(D:Bool)(E:QK)(I:Qj)(J:List Z9)(L M N O:Int)(V:QZ)(f:QK)(j:Qj)(p:List (Z2×Int))(q u v x z A B C:Int):Qv:=[(0,.box [.nils,.nils]),(1,.box [.sl 2,.sl 3,.bo D]),(2,.arr 131 (.int .u32) E),(3,.arr 251 ma I),(4,.arr 253 Cx J),(5,.box [.u64 L,.u64 M,.u64 N,.u64 O]),(6,.box [.sl 7,.sl 8]),(7,.arr 97 (.slice (.int .i64)) V),(8,.arr 131 (.int .u32) f),(9,.arr 251 ma j),(10,.mpo ma (.int .i64) p),(11,.box [.u64 q,.u64 u,.u64 v,.u64 x]),(12,.box [.u64 z,.u64 A,.u64 B,.u64 C])]
abbrev JA(E:Bool)(I:QK)(J:Qj)(L:List Z9)(M N O V:Int)(X:QZ)(f:QK)(j:Qj)(p:List (Z2×Int))(q u v x:Int)(z:QK)(A B C D:Int):Qv:=[(0,.box [.nils,.nils]),(1,.box [.sl 2,.sl 3,.bo E]),(2,.arr 131 (.int .u32) I),(3,.arr 251 ma J),(4,.arr 253 Cx L),(5,.box [.u64 M,.u64 N,.u64 O,.u64 V]),(6,.box [.sl 7,.sl 8]),(7,.arr 97 (.slice (.int .i64)) X),(8,.arr 131 (.int .u32) f),(9,.arr 251 ma j),(10,.mpo ma (.int .i64) p),(11,.box [.u64 q,.u64 u,.u64 v,.u64 x]),(12,.arr 3 (.int .i64) z),(13,.box [.u64 A,.u64 B,.u64 C,.u64 D])]
abbrev L9(A:Bool)(B:QK)(C:Qj)(D:List Z9)(E I J L:Int)(M:QZ)(f:QK)(j:Qj)(p:List (Z2×Int))(q u v x:Int)(z:QK):Qv:=[(0,.box [.nils,.nils]),(1,.box [.sl 2,.sl 3,.bo A]),(2,.arr 131 (.int .u32) B),(3,.arr 251 ma C),(4,.arr 253 Cx D),(5,.box [.u64 E,.u64 I,.u64 J,.u64 L]),(6,.box [.sl 7,.sl 8]),(7,.arr 97 (.slice (.int .i64)) M),(8,.arr 131 (.int .u32) f),(9,.arr 251 ma j),(10,.mpo ma (.int .i64) p),(11,.box [.u64 q,.u64 u,.u64 v,.u64 x]),(12,.arr 3 (.int .i64) z)]
abbrev MI(u:Bool)(v:QK)(x:Qj)(z:List Z9)(A B C D:Int)(E:QZ)(f:QK)(j:Qj)(p:List (Z2×Int))(q:QK):Qv:=[(0,.box [.nils,.nils]),(1,.box [.sl 2,.sl 3,.bo u]),(2,.arr 131 (.int .u32) v),(3,.arr 251 ma x),(4,.arr 253 Cx z),(5,.box [.u64 A,.u64 B,.u64 C,.u64 D]),(6,.box [.sl 7,.sl 8]),(7,.arr 97 (.slice (.int .i64)) E),(8,.arr 131 (.int .u32) f),(9,.arr 251 ma j),(10,.mpo ma (.int .i64) p),(11,.arr 3 (.int .i64) q)]
abbrev M3(z:Bool)(A:QK)(B:Qj)(C:List Z9)(D E I J:Int)(L:QZ)(f:QK)(j:Qj)(p:List (Z2×Int))(q u v x:Int):Qv:=[(0,.box [.nils,.nils]),(1,.box [.sl 2,.sl 3,.bo z]),(2,.arr 131 (.int .u32) A),(3,.arr 251 ma B),(4,.arr 253 Cx C),(5,.box [.u64 D,.u64 E,.u64 I,.u64 J]),(6,.box [.sl 7,.sl 8]),(7,.arr 97 (.slice (.int .i64)) L),(8,.arr 131 (.int .u32) f),(9,.arr 251 ma j),(10,.mpo ma (.int .i64) p),(11,.box [.u64 q,.u64 u,.u64 v,.u64 x])]
abbrev M2(q:Bool)(u:QK)(v:Qj)(x:List Z9)(z A B C:Int)(D:QZ)(f:QK)(j:Qj)(p:List (Z2×Int)):Qv:=[(0,.box [.nils,.nils]),(1,.box [.sl 2,.sl 3,.bo q]),(2,.arr 131 (.int .u32) u),(3,.arr 251 ma v),(4,.arr 253 Cx x),(5,.box [.u64 z,.u64 A,.u64 B,.u64 C]),(6,.box [.sl 7,.sl 8]),(7,.arr 97 (.slice (.int .i64)) D),(8,.arr 131 (.int .u32) f),(9,.arr 251 ma j),(10,.mpo ma (.int .i64) p)]
abbrev LW(f:QZ)(j:QK):Qv:=[(0,.box [.nils,.nils]),(1,.box [.sl 2,.sl 3]),(2,.arr 97 (.slice (.int .i64)) f),(3,.arr 131 (.int .u32) j)]
abbrev Ma(f:Bool)(j:QK)(p:Qj)(q:List Z9)(u v x z:Int):Qv:=[(0,.box [.nils,.nils]),(1,.box [.sl 2,.sl 3,.bo f]),(2,.arr 131 (.int .u32) j),(3,.arr 251 ma p),(4,.arr 253 Cx q),(5,.box [.u64 u,.u64 v,.u64 x,.u64 z])]
abbrev LQ(f:Bool)(j:QK)(p:Qj)(q:List Z9):Qv:=[(0,.box [.nils,.nils]),(1,.box [.sl 2,.sl 3,.bo f]),(2,.arr 131 (.int .u32) j),(3,.arr 251 ma p),(4,.arr 253 Cx q)]
abbrev F8(f:Bool)(j:QZ)(q:Bool)(u:QK):Qv:=[(0,.box [.p f (.slice (.slice (.int .i64))) j,.p q (.slice (.int .u32)) u])]
abbrev I2(f:XX)(j p:QK):Qv:=[(0,.mpo .str (.int .i64) f),(1,.arr 3 (.int .i64) j),(2,.arr 3 (.int .i64) p)]
abbrev IF(f:XX)(j p q:QK):Qv:=[(0,.mpo .str (.int .i64) f),(1,.arr 3 (.int .i64) j),(2,.arr 3 (.int .i64) p),(3,.arr 5 (.int .u8) q)]
abbrev M4(f:Bool)(j:QZ)(q:Bool)(u:QK)(v:QZ)(x z A:QK):Qv:=[(0,.box [.p f (.slice (.slice (.int .i64))) j,.p q (.slice (.int .u32)) u]),(1,.box [.nils,.nils]),(2,.box [.sl 3,.sl 4]),(3,.arr 97 (.slice (.int .i64)) v),(4,.arr 131 (.int .u32) x),(5,.arr 3 (.int .i64) z),(6,.arr 3 (.int .i64) A)]
abbrev Km(f:Bool)(j:QZ)(q:Bool)(u:QK)(v:QZ)(x z A B:QK):Qv:=[(0,.box [.p f (.slice (.slice (.int .i64))) j,.p q (.slice (.int .u32)) u]),(1,.box [.nils,.nils]),(2,.box [.sl 3,.sl 4]),(3,.arr 97 (.slice (.int .i64)) v),(4,.arr 131 (.int .u32) x),(5,.arr 3 (.int .i64) z),(6,.arr 3 (.int .i64) A),(7,.arr 3 (.int .i64) B)]
abbrev LK(f:Bool)(j:QZ)(q:Bool)(u v:QK):Qv:=[(0,.box [.p f (.slice (.slice (.int .i64))) j,.p q (.slice (.int .u32)) u]),(1,.box [.nils,.nils]),(2,.box [.nils,.nils]),(3,.arr 3 (.int .i64) v)]
abbrev L1(f:Bool)(j:QZ)(q:Bool)(u v:QK):Qv:=[(0,.box [.p f (.slice (.slice (.int .i64))) j,.p q (.slice (.int .u32)) u]),(1,.box [.nils,.nils]),(2,.box [.p false (.slice (.int .i64)) v])]
abbrev LH(f:QQ)(j q:Int)(u:QK)(v:XJ)(x z:XZ):Qv:=[(0,.box [.p false (.slice .str) f,.u32 j,.u32 q,.p false (.slice (.int .i64)) u,.p false (.slice (.prod (.int .u8) Y8)) v]),(1,.arr 146 (.tree .u8 .u32) x),(2,.arr 146 (.tree .u8 .u32) z)]
abbrev AK(f:ff 4352)(j:List (ff 256))(p:List ((ff 256)×Int))(q:ff 256):Qv:=[(0,.lmp .i64 4352 f [.sl 1]),(1,.arr 169 (.arr .u8 256) j),(2,.mpo (.arr .u8 256) (.int .i64) p),(3,.lmp .u8 256 q [])]
abbrev LG(f:ff 4352)(j:List (ff 256))(p:List ((ff 256)×Int)):Qv:=[(0,.lmp .i64 4352 f [.sl 1]),(1,.arr 169 (.arr .u8 256) j),(2,.mpo (.arr .u8 256) (.int .i64) p)]
abbrev M7(f:ff 4352)(j:List (ff 256)):Qv:=[(0,.lmp .i64 4352 f [.sl 1]),(1,.arr 169 (.arr .u8 256) j)]
abbrev Jm(f j p q u v:Int):Qv:=[(0,.box [.i32 f,.i64 j,.i64 p]),(1,.box [.i32 q,.i64 u,.i64 v])]
abbrev Ir(f j:QK):Qv:=[(0,.box [.nils,.nils]),(1,.box [.sl 2,.sl 3]),(2,.arr 21 (.int .i32) f),(3,.arr 5 (.int .u8) j)]
abbrev Me(f j:QK)(p q u:Int):Qv:=[(0,.box [.nils,.nils]),(1,.box [.sl 2,.sl 3]),(2,.arr 21 (.int .i32) f),(3,.arr 5 (.int .u8) j),(4,.box [.i32 p,.i64 q,.i64 u])]
abbrev Mw(f j:QK):Qv:=[(0,.box [.sl 1,.sl 2]),(1,.arr 21 (.int .i32) f),(2,.arr 5 (.int .u8) j)]
abbrev FV(f j:Int)(p q:List Z8):Qv:=[(0,.box [.nils,.nils]),(1,.box [.i64 f,.i64 j]),(2,.box [.sl 3,.sl 4]),(3,.arr 199 qU p),(4,.arr 199 qU q)]
abbrev Jx(f:List Nd)(j:Bool)(q:QK)(u:Bool)(v:QK):Qv:=[(0,.box [.sl 1]),(1,.nds 229 5 f none),(2,.box [.p j (.slice (.int .i32)) q,.p u (.slice (.int .u8)) v])]
abbrev Hl(f j p:QK):Qv:=[(0,.arr 60 (.int .u8) f),(1,.arr 3 (.int .i64) j),(2,.arr 3 (.int .i64) p)]
abbrev L8(f:Bool)(j:QZ)(q:Bool)(u v:QK):Qv:=[(0,.box [.p f (.slice (.slice (.int .i64))) j,.p q (.slice (.int .u32)) u]),(1,.arr 3 (.int .i64) v)]
abbrev L2(f:Bool)(j:QK)(q:List Bool):Qv:=[(0,.box [.p f (.slice (.int .i32)) j]),(1,.arr 4 .bool q)]
abbrev Kd(f:Qj)(j:QK)(p q u:Int):Qv:=[(0,.arr 125 fb f),(1,.arr 3 (.int .i64) j),(2,.box [.i32 p,.i64 q,.i64 u])]
abbrev GK(f:Qj)(j:QK):Qv:=[(0,.box [.nils,.nils]),(1,.box [.p false (.slice fb) f,.sl 2]),(2,.arr 60 (.int .u8) j)]
abbrev Lv(f:Bool)(j:Qj)(q:Bool)(u:QK):Qv:=[(0,.box [.p f (.slice fb) j,.p q (.slice (.int .u8)) u])]
abbrev Iy(j:Bool)(q:Qj)(u:Bool)(v:QK)(x z A B C:Int)(f:QJ):Qv:=[(0,.box [.p j (.slice fb) q,.p u (.slice (.int .u8)) v]),(1,.box [.i64 x,.i64 z,.u8 A,.i64 B,.i64 C,.p false .flt f])]
abbrev Ix(x:Bool)(z:Qj)(A:Bool)(B:QK)(C D E I J:Int)(f:QJ)(j q u v:Int):Qv:=[(0,.box [.p x (.slice fb) z,.p A (.slice (.int .u8)) B]),(1,.box [.i64 C,.i64 D,.u8 E,.i64 I,.i64 J,.p false .flt f]),(2,.box [.i64 j,.i64 q]),(3,.box [.i64 u,.i64 v])]
abbrev J4(A:Bool)(B:Qj)(C:Bool)(D:QK)(E I J L M:Int)(f:QJ)(j q u v x z:Int):Qv:=[(0,.box [.p A (.slice fb) B,.p C (.slice (.int .u8)) D]),(1,.box [.i64 E,.i64 I,.u8 J,.i64 L,.i64 M,.p false .flt f]),(2,.box [.i64 j,.i64 q]),(3,.box [.i64 u,.i64 v]),(4,.box [.i64 x,.i64 z])]
abbrev MO(f j p q:Int):Qv:=[(0,.box [.i64 f,.i64 j]),(1,.box [.i64 p,.i64 q])]
abbrev IV(q:Bool)(u:Qj)(v:Bool)(x:QK)(z A B C D:Int)(f:QJ)(j:Qq):Qv:=[(0,.box [.p q (.slice fb) u,.p v (.slice (.int .u8)) x]),(1,.box [.i64 z,.i64 A,.u8 B,.i64 C,.i64 D,.p false .flt f]),(2,.arr 204 Y2 j)]
abbrev MD(f:Bool)(j:Qj)(q:Bool)(u v:QK):Qv:=[(0,.box [.p f (.slice fb) j,.p q (.slice (.int .u8)) u]),(1,.arr 3 (.int .i64) v)]
abbrev MX(u:Bool)(v:Qj)(x:Bool)(z:QK)(A B C D E:Int)(f:QJ)(j:Qq)(q:Qj):Qv:=[(0,.box [.p u (.slice fb) v,.p x (.slice (.int .u8)) z]),(1,.box [.i64 A,.i64 B,.u8 C,.i64 D,.i64 E,.p false .flt f]),(2,.arr 204 Y2 j),(3,.arr 62 fb q)]
abbrev Az(x:Bool)(z:Qj)(A:Bool)(B:QK)(C D E I J:Int)(f:QJ)(j q u v:Int):Qv:=[(0,.box [.p x (.slice fb) z,.p A (.slice (.int .u8)) B]),(1,.box [.i64 C,.i64 D,.u8 E,.i64 I,.i64 J,.p false .flt f]),(2,.box [.i64 j,.i64 q,.i64 u,.u8 v])]
abbrev Ke(q:Bool)(u:Qj)(v:Bool)(x:QK)(z A B C D:Int)(f:QJ)(j:Qj):Qv:=[(0,.box [.p q (.slice fb) u,.p v (.slice (.int .u8)) x]),(1,.box [.i64 z,.i64 A,.u8 B,.i64 C,.i64 D,.p false .flt f]),(2,.arr 62 fb j)]
abbrev LI(f:Bool)(j:Qj)(q:Bool)(u:QK)(v:Qj):Qv:=[(0,.box [.p f (.slice fb) j,.p q (.slice (.int .u8)) u]),(1,.arr 80 fb v)]
abbrev JP(f:QK)(j:XK):Qv:=[(0,.arr 21 (.int .i32) f),(1,.arr 116 (.prod (.int .i32) Y1) j)]
abbrev ER(f j q:Int)(u:Bool)(v:QK)(x:List sL):Qv:=[(0,.box [.u8 f,.u8 j,.u8 q,.p u (.slice (.int .u8)) v,.p false (.slice (.prod (.int .u8) Fe)) x])]
abbrev JU(f j q:Int)(u:Bool)(v:QK)(x:List sL)(z:QQ):Qv:=[(0,.box [.u8 f,.u8 j,.u8 q,.p u (.slice (.int .u8)) v,.p false (.slice (.prod (.int .u8) Fe)) x]),(1,.arr 9 .str z)]
abbrev Lu(f j q u v:Int)(x:QJ):Qv:=[(0,.box [.i64 f,.i64 j,.u8 q,.i64 u,.i64 v,.p false .flt x])]
abbrev Ey(f j q u v:Int)(x:QJ)(z:Qj)(A:QK)(B:Qj):Qv:=[(0,.box [.i64 f,.i64 j,.u8 q,.i64 u,.i64 v,.p false .flt x]),(1,.box [.p false (.slice fb) z,.p false (.slice (.int .u8)) A]),(2,.arr 62 fb B)]
def tb:bQ:=[
 (3,⟨some (.int .i64),(.int .i64),1,8,[.i64 0]⟩),
 (4,⟨some .bool,.bool,1,1,[.bo false]⟩),
 (5,⟨some (.int .u8),(.int .u8),1,1,[.u8 0]⟩),
 (9,⟨some .str,.str,1,16,[.st ([]:QX)]⟩),
 (20,⟨none,.other,1,16,[.lit .nilIface]⟩),
 (21,⟨some (.int .i32),(.int .i32),1,4,[.i32 0]⟩),
 (22,⟨some (.slice (.int .u8)),(.sl 5),1,24,[.nils]⟩),
 (23,⟨some (.slice (.prod (.int .u8) Fe)),(.sl 184),1,24,[.nils]⟩),
 (25,⟨some (.prod (.int .u8) M5),(.st [(0,5),(1,5),(2,5),(3,22),(4,23)]),5,56,[.u8 0,.u8 0,.u8 0,.nils,.nils]⟩),
 (27,⟨some Nv,(.st [(0,25),(5,25),(10,22),(11,22),(12,22),(13,22),(14,5),(15,5)]),16,216,[.u8 0,.u8 0,.u8 0,.nils,.nils,.u8 0,.u8 0,.u8 0,.nils,.nils,.nils,.nils,.nils,.nils,.u8 0,.u8 0]⟩),
 (28,⟨some (.int .u16),(.int .u16),1,2,[.p false (.int .u16) (0:Int)]⟩),
 (29,⟨some .flt,.flt,1,8,[.p false .flt (eD 0)]⟩),
 (31,⟨some NQ,(.st [(0,5),(1,5),(2,5),(3,28),(4,28),(5,29)]),6,16,[.u8 0,.u8 0,.u8 0,.p false (.int .u16) (0:Int),.p false (.int .u16) (0:Int),.p false .flt (eD 0)]⟩),
 (33,⟨some (.ptr xg),.other,1,8,[.nilp]⟩),
 (34,⟨some (.int .u8),(.int .u8),1,1,[.u8 0]⟩),
 (36,⟨some Mj,(.st [(0,3),(1,3),(2,34),(3,3),(4,3),(5,29)]),6,48,[.i64 0,.i64 0,.u8 0,.i64 0,.i64 0,.p false .flt (eD 0)]⟩),
 (39,⟨some (.slice fb),(.sl 80),1,24,[.nils]⟩),
 (41,⟨some Mf,(.st [(0,39),(1,4)]),2,32,[.nils,.bo false]⟩),
 (47,⟨some (.int .i64),(.int .i64),1,8,[.i64 0]⟩),
 (51,⟨some (.slice fb),(.sl 125),1,24,[.nils]⟩),
 (52,⟨some (.slice (.int .u8)),(.sl 60),1,24,[.nils]⟩),
 (54,⟨some Ku,(.st [(0,51),(1,52)]),2,48,[.nils,.nils]⟩),
 (57,⟨some (.slice fb),(.sl 62),1,24,[.nils]⟩),
 (60,⟨some (.int .u8),(.int .u8),1,1,[.u8 0]⟩),
 (62,⟨some fb,(.st [(0,3),(1,3),(2,3),(3,60)]),4,32,[.i64 0,.i64 0,.i64 0,.u8 0]⟩),
 (64,⟨some (.int .u64),(.int .u64),1,8,[.u64 0]⟩),
 (72,⟨some Y2,(.st [(0,47),(1,3)]),2,16,[.i64 0,.i64 0]⟩),
 (75,⟨some (.slice (.prod (.int .i32) Y1)),(.sl 116),1,24,[.nils]⟩),
 (77,⟨some Y7,(.st [(0,75),(1,75),(2,75),(3,75),(4,9),(5,9),(6,9),(7,3),(8,3)]),9,160,[.nils,.nils,.nils,.nils,.st ([]:QX),.st ([]:QX),.st ([]:QX),.i64 0,.i64 0]⟩),
 (80,⟨some fb,(.st [(0,3),(1,3),(2,3),(3,60)]),4,32,[.i64 0,.i64 0,.i64 0,.u8 0]⟩),
 (88,⟨some (.slice (.prod (.int .i32) Y2)),(.sl 127),1,24,[.nils]⟩),
 (91,⟨some (.ptr mO),.other,1,8,[.nilp]⟩),
 (92,⟨some (.ptr vm),.other,1,8,[.nilp]⟩),
 (93,⟨some (.ptr nk),.other,1,8,[.nilp]⟩),
 (95,⟨some xg,(.st [(0,91),(1,91),(2,92),(3,92),(4,92),(5,93)]),6,48,[.nilp,.nilp,.nilp,.nilp,.nilp,.nilp]⟩),
 (97,⟨some (.slice (.int .i64)),(.sl 3),1,24,[.nils]⟩),
 (99,⟨some (.slice .bool),(.sl 4),1,24,[.nils]⟩),
 (106,⟨none,.other,1,8,[.nilp]⟩),
 (108,⟨none,(.st [(0,106),(1,75),(2,3)]),3,40,[.nilp,.nils,.i64 0]⟩),
 (109,⟨none,(.sl 108),1,24,[.nils]⟩),
 (116,⟨some (.prod (.int .i32) Y1),(.st [(0,21),(1,21),(2,3)]),3,16,[.i32 0,.i32 0,.i64 0]⟩),
 (121,⟨some (.slice .str),(.sl 9),1,24,[.nils]⟩),
 (123,⟨some (.int .u8),(.int .u8),1,1,[.u8 0]⟩),
 (125,⟨some fb,(.st [(0,3),(1,3),(2,3),(3,123)]),4,32,[.i64 0,.i64 0,.i64 0,.u8 0]⟩),
 (127,⟨some (.prod (.int .i32) Y2),(.st [(0,21),(1,3),(2,3)]),3,24,[.i32 0,.i64 0,.i64 0]⟩),
 (131,⟨some (.int .u32),(.int .u32),1,4,[.u32 0]⟩),
 (132,⟨some (.slice (.prod (.int .u8) Y8)),(.sl 148),1,24,[.nils]⟩),
 (134,⟨some KK,(.st [(0,121),(1,131),(2,131),(3,97),(4,132)]),5,80,[.nils,.u32 0,.u32 0,.nils,.nils]⟩),
 (135,⟨some (.slice (.slice (.int .i64))),(.sl 97),1,24,[.nils]⟩),
 (136,⟨some (.slice (.int .u32)),(.sl 131),1,24,[.nils]⟩),
 (138,⟨some CC,(.st [(0,135),(1,136)]),2,48,[.nils,.nils]⟩),
 (140,⟨some mO,(.st [(0,134),(5,138),(7,138)]),9,176,[.nils,.u32 0,.u32 0,.nils,.nils,.nils,.nils,.nils,.nils]⟩),
 (143,⟨some (.int .u8),(.int .u8),1,1,[.u8 0]⟩),
 (144,⟨some (.slice (.tree .u8 .u32)),(.sl 146),1,24,[.nils]⟩),
 (146,⟨some (.tree .u8 .u32),(.st [(0,143),(1,131),(2,144)]),3,32,[.u8 0,.u32 0,.nils]⟩),
 (148,⟨some (.prod (.int .u8) Y8),(.st [(0,60),(1,146),(4,146)]),7,72,[.u8 0,.u8 0,.u32 0,.nils,.u8 0,.u32 0,.nils]⟩),
 (152,⟨some (.slice (.int .i32)),(.sl 21),1,24,[.nils]⟩),
 (162,⟨some (.slice (.arr .u8 256)),(.sl 169),1,24,[.nils]⟩),
 (163,⟨some (.arr .i64 4352),(.ar 4352 3),4352,34816,(List.replicate 4352 (.i64 0))⟩),
 (165,⟨some vm,(.st [(0,163),(4352,162)]),4353,34840,(List.replicate 4352 (.i64 0)++[.nils])⟩),
 (166,⟨none,(.mp 169 3),1,8,[.lit (.map none)]⟩),
 (167,⟨some (.int .u64),(.int .u64),1,8,[.u64 0]⟩),
 (169,⟨some (.arr .u8 256),(.ar 256 5),256,256,(List.replicate 256 (.u8 0))⟩),
 (171,⟨some (.slice qU),(.sl 199),1,24,[.nils]⟩),
 (173,⟨some Iw,(.st [(0,171),(1,171)]),2,48,[.nils,.nils]⟩),
 (177,⟨some (.ptr tn),.other,1,8,[.nilp]⟩),
 (180,⟨some nk,(.st [(0,75),(1,177),(2,171),(3,3),(4,3)]),5,72,[.nils,.nilp,.nils,.i64 0,.i64 0]⟩),
 (184,⟨some (.prod (.int .u8) Fe),(.st [(0,5),(1,22),(2,22)]),3,56,[.u8 0,.nils,.nils]⟩),
 (195,⟨none,.other,1,8,[.lit .nilFunc]⟩),
 (199,⟨some qU,(.st [(0,152),(1,22)]),2,48,[.nils,.nils]⟩),
 (201,⟨none,.other,1,8,[.lit .nilFunc]⟩),
 (202,⟨some (.slice Y2),(.sl 204),1,24,[.nils]⟩),
 (204,⟨some Y2,(.st [(0,3),(1,3)]),2,16,[.i64 0,.i64 0]⟩),
 (209,⟨none,.other,1,8,[.nilp]⟩),
 (210,⟨none,(.mp 9 131),1,8,[.lit (.map none)]⟩),
 (212,⟨none,(.st [(0,9),(1,3),(2,134),(7,210),(8,3),(9,3)]),10,128,[.st ([]:QX),.i64 0,.nils,.u32 0,.u32 0,.nils,.nils,.lit (.map none),.i64 0,.i64 0]⟩),
 (224,⟨some (.slice MG),(.sl 229),1,24,[.nils]⟩),
 (226,⟨some tn,(.st [(0,224)]),1,24,[.nils]⟩),
 (227,⟨some (.mapi .i32 .i64),(.mp 21 3),1,8,[.lit (.map none)]⟩),
 (229,⟨some MG,(.st [(0,227),(1,22)]),2,32,[.lit (.map none),.nils]⟩),
 (232,⟨none,.other,1,8,[.nilp]⟩),
 (234,⟨some NH,(.st [(0,22),(1,3)]),2,32,[.nils,.i64 0]⟩),
 (237,⟨none,.other,1,8,[.lit .nilFunc]⟩),
 (238,⟨none,(.mp 9 237),1,8,[.lit (.map none)]⟩),
 (239,⟨none,(.mp 9 60),1,8,[.lit (.map none)]⟩),
 (245,⟨none,.other,1,8,[.nilp]⟩),
 (246,⟨some (.slice ma),(.sl 251),1,24,[.nils]⟩),
 (248,⟨some N1,(.st [(0,136),(1,246),(2,4)]),3,56,[.nils,.nils,.bo false]⟩),
 (249,⟨some (.slice Cx),(.sl 253),1,24,[.nils]⟩),
 (251,⟨some ma,(.ar 4 64),4,32,[.u64 0,.u64 0,.u64 0,.u64 0]⟩),
 (253,⟨some Cx,(.st [(0,4),(1,251),(5,251)]),9,72,[.bo false,.u64 0,.u64 0,.u64 0,.u64 0,.u64 0,.u64 0,.u64 0,.u64 0]⟩),
 (256,⟨none,(.mp 251 3),1,8,[.lit (.map none)]⟩),
 (261,⟨none,.other,1,8,[.lit .nilFunc]⟩),
 (265,⟨none,.other,1,8,[.lit .nilFunc]⟩),
 (274,⟨none,(.mp 9 3),1,8,[.lit (.map none)]⟩),
 (279,⟨some (.prod (.int .u8) NJ),(.ar 7 5),7,7,[.u8 0,.u8 0,.u8 0,.u8 0,.u8 0,.u8 0,.u8 0]⟩)]
theorem je:cb Tryz.prog tb:=KE (by kernel_rfl) (by kernel_rfl) (by kernel_rfl)
theorem KV:K4 Tryz.prog 80 fb:=IN 8 (by decide) (by kernel_rfl) ⟨by kernel_rfl,rfl⟩
theorem CR:hZ Tryz.prog 169 (.arr .u8 256):=hZ.DY (e:=5) rfl rfl rfl (by kernel_rfl) rfl rfl rfl
theorem zO:hZ Tryz.prog 251 ma:=hZ.DY (e:=64) rfl rfl rfl (by kernel_rfl) rfl rfl rfl
theorem mixed:Tryz.prog.follows .mixedOrders=true:=by kernel_rfl
theorem PB{fid:FuncId}{fn:Func}{c:Code}(u:Tryz.prog.funcs[fid]? = some fn){args:List af}{f:List (Σ T:Ty,T.den)}(h:∀Bw w0,W Tryz.prog fn.ntmps Bw w0 c (nu args) (Ln tb fn.results.toList f))(j:(fn.name == "runtime.NumGoroutine")=false:=by kernel_rfl)(hb:fn.body=some c:=by exact rfl)(p:Nat.ble args.length fn.ntmps=true:=by exact rfl)(q:od args=true:=by exact rfl):Pure Tryz.prog fid args (aL (bd false f)):=Pure.jO je u j hb (nl p) h q
theorem OB{fid:FuncId}{fn:Func}{c:Code}(p:Tryz.prog.funcs[fid]? = some fn){args:List af}{hin hout:Qv}{r:af}(h:∀Bw w0,W Tryz.prog fn.ntmps Bw w0 c (sv args hin) (xG tb fn.ntmps fn.results.toList r hout))(f:(fn.name == "runtime.NumGoroutine")=false:=by kernel_rfl)(hb:fn.body=some c:=by exact rfl)(j:Nat.ble args.length fn.ntmps=true:=by exact rfl):jy Tryz.prog fid args hin r hout:=jy.jO je p f hb (nl j) h
theorem DB{fid:FuncId}{fn:Func}{c:Code}(q:Tryz.prog.funcs[fid]? = some fn){args:List af}{hin:Qv}{j:(af×Qv)⊕Value}(h:∀Bw w0,W Tryz.prog fn.ntmps Bw w0 c (sv args hin) (LC tb fn.ntmps fn.results.toList j))(f:(fn.name == "runtime.NumGoroutine")=false:=by kernel_rfl)(hb:fn.body=some c:=by exact rfl)(p:Nat.ble args.length fn.ntmps=true:=by exact rfl):iT Tryz.prog fid args hin j:=iT.jO je q f hb (nl p) h
theorem RO{n:NS}{σ:St}{q:List ResultVar}{r:af}{hout:Qv}(Ts:List (Option Ty))(u:List Tv.G)(f:QV)(l:List (Nat×af))(m:Qv)(nx pn:Nat)(h1:goal u f l m σ=some (want f l m):=by kernel_rfl)(j:(σ.pn == pn && kU (H3 f) l m nx pn)=true:=by kernel_rfl)(h2:IG tb q Ts hout (az l m nx pn)=some (r,hout.map (fun p=>some p.2)):=by kernel_rfl):xG tb n q r hout .ret σ:=CJ Ts u f l m nx pn h1 j h2
theorem RI{σ:St}{j:List ResultVar}{f:List (Σ T:Ty,T.den)}(Ts:List Ty)(h:(match tp tb σ.s σ.h j with | some xs=>mE σ.h xs Ts | none=>none)=some f:=by kernel_rfl):Ln tb j f .ret σ:=Fs Ts h
section
variable{n:NS}{Bw:Nat→Prop}{w0:cr Tryz.prog}{σ:St}{Q:Exit→St→Prop}{id:Nat}{ops:Array Oper}{d:Code}{fid:FuncId}{args:List af}{hin hout:Qv}{r:af}{y:Value}
theorem Ge(f:∀σ',Le n σ' (iQ Tryz.prog tb a0 n ops σ)→Q .normal σ')(h:iH Tryz.prog tb a0 n ops σ=some (cP ops.size 0 []):=by kernel_rfl):W Tryz.prog n Bw w0 (.region id ops false) σ Q:=Hj je a0 [] h f
theorem bC(an:An)(f:List (Nat×Nat×PP))(j:∀σ',Le n σ' (iQ Tryz.prog tb an n ops σ)→Q .normal σ')(h:iH Tryz.prog tb an n ops σ=some (cP ops.size 0 f):=by kernel_rfl):W Tryz.prog n Bw w0 (.region id ops false) σ Q:=Hj je an f h j
theorem nj(an:An)(f:List (Nat×Nat×PP))(j:∀σ',Le n σ' (Bu Tryz.prog tb an n ops σ)→Q .normal σ')(h:BG Tryz.prog tb an n ops σ=some (cP ops.size 0 f):=by kernel_rfl):W Tryz.prog n Bw w0 (.region id ops true) σ Q:=Lz je mixed an f h j
theorem Ak(i:Nat){α:Type}{p:Prop}[Decidable p]{u:Option α}{v:α}(h:(if p then u else none)=some v)(f:u=some v→∀σ',Le n σ' (iQ Tryz.prog tb a0 n ops σ)→Q .normal σ')(hk:iH Tryz.prog tb a0 n ops σ=some (cG ops.size i p):=by kernel_rfl):W Tryz.prog n Bw w0 (.region id ops false) σ Q:=JI je i h hk f
theorem Mt(i:Nat)(u:Pure Tryz.prog fid args r)(f:∀σ',Le n σ' (iQ Tryz.prog tb ⟨[],[(i,oP u)]⟩ n ops σ)→Q .normal σ')(h:iH Tryz.prog tb ⟨[],[(i,oP u)]⟩ n ops σ=some (cP ops.size 0 [(i,i,oc u)]):=by kernel_rfl):W Tryz.prog n Bw w0 (.region id ops false) σ Q:=LO je i u h f
theorem mN(i:Nat)(g:QV)(u:jy Tryz.prog fid args hin r hout)(f:∀σ',Le n σ' (iQ Tryz.prog tb ⟨[],[(i,oO u g)]⟩ n ops σ)→Q .normal σ')(h:iH Tryz.prog tb ⟨[],[(i,oO u g)]⟩ n ops σ=some (cP ops.size 0 [(i,i,oc u)]):=by kernel_rfl):W Tryz.prog n Bw w0 (.region id ops false) σ Q:=L4 je i g u h f
theorem G(f:W Tryz.prog n Bw w0 d (iQ Tryz.prog tb a0 n ops σ) Q)(h:iH Tryz.prog tb a0 n ops σ=some (cP ops.size 0 []):=by kernel_rfl):W Tryz.prog n Bw w0 (.seq (.region id ops false) d) σ Q:=Mm je a0 [] h f
theorem GN(an:An)(f:List (Nat×Nat×PP))(j:W Tryz.prog n Bw w0 d (iQ Tryz.prog tb an n ops σ) Q)(h:iH Tryz.prog tb an n ops σ=some (cP ops.size 0 f):=by kernel_rfl):W Tryz.prog n Bw w0 (.seq (.region id ops false) d) σ Q:=Mm je an f h j
theorem GD(an:An)(f:List (Nat×Nat×PP))(j:W Tryz.prog n Bw w0 d (Bu Tryz.prog tb an n ops σ) Q)(h:BG Tryz.prog tb an n ops σ=some (cP ops.size 0 f):=by kernel_rfl):W Tryz.prog n Bw w0 (.seq (.region id ops true) d) σ Q:=NC je mixed an f h j
theorem GC(i:Nat){α:Type}{p:Prop}[Decidable p]{u:Option α}{v:α}(h:(if p then u else none)=some v)(f:u=some v→W Tryz.prog n Bw w0 d (iQ Tryz.prog tb a0 n ops σ) Q)(hk:iH Tryz.prog tb a0 n ops σ=some (cG ops.size i p):=by kernel_rfl):W Tryz.prog n Bw w0 (.seq (.region id ops false) d) σ Q:=MC je i h hk f
theorem GP(i:Nat)(u:Pure Tryz.prog fid args r)(f:W Tryz.prog n Bw w0 d (iQ Tryz.prog tb ⟨[],[(i,oP u)]⟩ n ops σ) Q)(h:iH Tryz.prog tb ⟨[],[(i,oP u)]⟩ n ops σ=some (cP ops.size 0 [(i,i,oc u)]):=by kernel_rfl):W Tryz.prog n Bw w0 (.seq (.region id ops false) d) σ Q:=Mz je i u h f
theorem GO(i:Nat)(g:QV)(u:jy Tryz.prog fid args hin r hout)(f:W Tryz.prog n Bw w0 d (iQ Tryz.prog tb ⟨[],[(i,oO u g)]⟩ n ops σ) Q)(h:iH Tryz.prog tb ⟨[],[(i,oO u g)]⟩ n ops σ=some (cP ops.size 0 [(i,i,oc u)]):=by kernel_rfl):W Tryz.prog n Bw w0 (.seq (.region id ops false) d) σ Q:=MU je i g u h f
theorem GX(i:Nat)(g:QV)(u:jR Tryz.prog fid args hin y)(f:∀σ',Q (.panic [{ v:=y,recovered:=false }]) σ')(h:AX Tryz.prog tb ⟨[],[(i,oD u g)]⟩ n ops i σ=some (cP (i+1) 0 [(i,i,oc u)],y):=by kernel_rfl):W Tryz.prog n Bw w0 (.region id ops false) σ Q:=ML je i g u h f
theorem NT(u:jR Tryz.prog fid args hin y)(an:An)(i:Nat)(f:List (Nat×Nat×PP))(j:∀σ',Q (.panic [{ v:=y,recovered:=false }]) σ')(h:AX Tryz.prog tb an n ops i σ=some (cP (i+1) 0 f,y):=by kernel_rfl):W Tryz.prog n Bw w0 (.region id ops false) σ Q:=Nc je u an i f h j
end
end
end Go.Proofs.YtobbjfkfmdiklaaGreatDoor.T
