import Derived.Test.YtbedjpdfkmfplaaGreatDoorTvSt
import Derived.Test.YtbedjpdfkmfplaaGreatDoorProg
import Derived.KernelRfl
namespace Go.Proofs.YtbedjpdfkmfplaaGreatDoor.T
open Go Go.Tv Go.Proofs
noncomputable section
set_option maxRecDepth 100000
set_option maxHeartbeats 4000000
abbrev Z7:Type:=Int×Tree×Tree
abbrev XJ:=List Z7
abbrev KU:Type:=QQ×Int×Int×QK×XJ
abbrev FO:Type:=QZ×QK
abbrev Z5:Type:=KU×FO×QZ×QK
abbrev Ay:Type:=(fG 4352)×List (fG 256)
abbrev Z8:Type:=Int×Int×Int
abbrev XK:=List Z8
abbrev I9:Type:=(List (Qq×QK))×Unit
abbrev Z9:Type:=QK×QK
abbrev Z3:Type:=XK×(Option I9)×(List Z9)×Int×Int
abbrev Z1:Type:=(Option Z5)×(Option Z5)×(Option Ay)×(Option Ay)×(Option Ay)×Option Z3
abbrev Z2:Type:=Int×Int×Int×Int
abbrev Qj:=List Z2
abbrev Z4:Type:=QX×Int
abbrev XX:=List Z4
abbrev Z6:Type:=(Qj×QK)×Qj×QZ
abbrev wG:Type:=QX×Qj×Bool
abbrev ug:Type:=Bool×Z2×Int×Int×Int×Int
abbrev pj:Type:=Tree×Int×Int×Int
abbrev K9:Type:=Int×Qj×Bool×QK×Qj×QK×(Option Z6)×List wG
abbrev wo:Type:=Int×QK×QK
abbrev Mb:Type:=Int×QQ×Int×Int×QK×XJ×XX×Int×Int
abbrev ua:Type:=QK×Int
abbrev Y1:Ty:=(.prod (.int .i32) (.int .i64))
abbrev Y2:Ty:=(.prod (.int .i64) (.int .i64))
abbrev Y3:Ty:=(.prod .str (.prod .str Y2))
abbrev Y4:Ty:=(.prod (.slice (.prod (.int .i32) Y1)) (.prod .str Y3))
abbrev Y5:Ty:=(.prod (.slice (.prod (.int .i32) Y1)) Y4)
abbrev Y6:Ty:=(.prod (.slice (.prod (.int .i32) Y1)) Y5)
abbrev Y7:Ty:=(.prod (.slice (.prod (.int .i32) Y1)) Y6)
abbrev Y8:Ty:=(.prod (.tree .u8 .u32) (.tree .u8 .u32))
abbrev Y9:Ty:=(.prod (.slice (.int .i64)) (.slice (.prod (.int .u8) Y8)))
abbrev Py:Ty:=(.prod (.int .u32) (.prod (.int .u32) Y9))
abbrev L6:Ty:=(.prod (.slice .str) Py)
abbrev DW:Ty:=(.prod (.slice (.slice (.int .i64))) (.slice (.int .u32)))
abbrev nw:Ty:=(.prod L6 (.prod DW DW))
abbrev O4:Ty:=(.prod (.int .u64) (.int .u64))
abbrev mI:Ty:=(.prod (.int .u64) (.prod (.int .u64) O4))
abbrev Cs:Ty:=(.prod .bool (.prod mI mI))
abbrev xG:Ty:=(.prod (.arr .i64 4352) (.slice (.arr .u8 256)))
abbrev N4:Ty:=(.prod (.mapi .i32 .i64) (.slice (.int .u8)))
abbrev ur:Ty:=(.prod (.slice N4) .unit)
abbrev rV:Ty:=(.prod (.slice (.int .i32)) (.slice (.int .u8)))
abbrev Pu:Ty:=(.prod (.ptr ur) (.prod (.slice rV) Y2))
abbrev nW:Ty:=(.prod (.slice (.prod (.int .i32) Y1)) Pu)
abbrev Po:Ty:=(.prod (.ptr xG) (.ptr nW))
abbrev OZ:Ty:=(.prod (.ptr xG) (.prod (.ptr xG) Po))
abbrev wb:Ty:=(.prod (.ptr nw) (.prod (.ptr nw) OZ))
abbrev Kv:Ty:=(.prod (.slice rV) (.slice rV))
abbrev Pk:Ty:=(.prod (.int .i64) (.int .u8))
abbrev dg:Ty:=(.prod (.int .i64) (.prod (.int .i64) Pk))
abbrev Br:Ty:=(.prod (.slice dg) (.slice (.int .u8)))
abbrev Jt:Ty:=(.prod (.slice dg) (.slice (.slice (.int .i64))))
abbrev JP:Ty:=(.prod (.slice dg) .bool)
abbrev Hi:Ty:=(.prod (.slice (.int .u8)) (.slice (.int .u8)))
abbrev Pa:Ty:=(.prod (.int .i64) .flt)
abbrev Pj:Ty:=(.prod (.int .u8) (.prod (.int .i64) Pa))
abbrev Ob:Ty:=(.prod (.int .i64) (.prod (.int .i64) Pj))
abbrev Pr:Ty:=(.prod (.int .i64) (.slice (.int .u8)))
abbrev O7:Ty:=(.prod (.slice (.int .u8)) (.slice (.prod (.int .u8) Hi)))
abbrev N1:Ty:=(.prod (.int .u8) (.prod (.int .u8) O7))
abbrev OI:Ty:=(.prod (.int .u8) (.int .u8))
abbrev Pq:Ty:=(.prod (.slice (.int .u8)) OI)
abbrev O9:Ty:=(.prod (.slice (.int .u8)) Pq)
abbrev Pv:Ty:=(.prod (.slice (.int .u8)) O9)
abbrev O3:Ty:=(.prod (.slice (.int .u8)) Pv)
abbrev O5:Ty:=(.prod (.prod (.int .u8) N1) O3)
abbrev Pd:Ty:=(.prod (.prod (.int .u8) N1) O5)
abbrev OY:Ty:=(.prod (.int .u16) .flt)
abbrev Pp:Ty:=(.prod (.int .u8) (.prod (.int .u16) OY))
abbrev ON:Ty:=(.prod (.int .u8) (.prod (.int .u8) Pp))
abbrev Pb:Ty:=(.prod (.slice (.int .u8)) ON)
abbrev Px:Ty:=(.prod (.int .i64) (.prod (.int .i64) Pb))
abbrev Pf:Ty:=(.prod .bool (.prod .bool Px))
abbrev O6:Ty:=(.prod (.slice (.int .u8)) (.int .i64))
abbrev Pg:Ty:=(.prod (.slice mI) .bool)
abbrev Pe:Ty:=(.prod (.slice (.int .u32)) Pg)
abbrev Pw:Ty:=(.prod (.int .u8) (.prod (.int .u8) OI))
abbrev Ph:Ty:=(.prod (.int .u8) (.prod (.int .u8) Pw))
abbrev Pm(j q u v:Int)(z:QX)(A B C D e:Int)(f:XX):Qv:=[(0,.box [.nils,.u32 j,.u32 q,.nils,.nils]),(1,.box [.i64 u,.i64 v]),(2,.box [.st z,.i64 A,.nils,.u32 B,.u32 C,.nils,.nils,.mp 3,.i64 D,.i64 e]),(3,.mpo .str (.int .u32) f)]
abbrev NP(e:QX)(f j q u v:Int)(z:XX):Qv:=[(0,.box [.st e,.i64 f,.nils,.u32 j,.u32 q,.nils,.nils,.mp 1,.i64 u,.i64 v]),(1,.mpo .str (.int .u32) z)]
abbrev LY(e f j q:Int):Qv:=[(0,.box [.nils,.u32 e,.u32 f,.nils,.nils]),(1,.box [.i64 j,.i64 q])]
abbrev bN(f:QX)(j q u v z:Int)(A:QQ)(B:QK)(C:XJ)(e:XX):Qv:=[(0,.box [.st f,.i64 j,.sl 1,.u32 q,.u32 u,.sl 2,.sl 3,.mp 4,.i64 v,.i64 z]),(1,.arr 9 .str A),(2,.arr 3 (.int .i64) B),(3,.arr 212 (.prod (.int .u8) Y8) C),(4,.mpo .str (.int .u32) e)]
abbrev J5(f:QX)(j q u v z:Int)(A:XJ)(B:XX)(C:QQ)(e:QK):Qv:=[(0,.box [.st f,.i64 j,.sl 5,.u32 q,.u32 u,.sl 6,.sl 3,.mp 4,.i64 v,.i64 z]),(3,.arr 212 (.prod (.int .u8) Y8) A),(4,.mpo .str (.int .u32) B),(5,.arr 9 .str C),(6,.arr 3 (.int .i64) e)]
abbrev Oj(v:QX)(z A B C D:Int)(E:QQ)(I:QK)(J:XJ)(e:XX)(f j q u:Int):Qv:=[(0,.box [.st v,.i64 z,.sl 1,.u32 A,.u32 B,.sl 2,.sl 3,.mp 4,.i64 C,.i64 D]),(1,.arr 9 .str E),(2,.arr 3 (.int .i64) I),(3,.arr 212 (.prod (.int .u8) Y8) J),(4,.mpo .str (.int .u32) e),(5,.box [.u8 f,.u32 j,.nils]),(6,.box [.u8 q,.u32 u,.nils])]
abbrev M2(q:QX)(u v z A B:Int)(C:QQ)(D:QK)(E:XJ)(e:XX)(f j:Int):Qv:=[(0,.box [.st q,.i64 u,.sl 1,.u32 v,.u32 z,.sl 2,.sl 3,.mp 4,.i64 A,.i64 B]),(1,.arr 9 .str C),(2,.arr 3 (.int .i64) D),(3,.arr 212 (.prod (.int .u8) Y8) E),(4,.mpo .str (.int .u32) e),(5,.box [.u8 f,.u32 j,.nils])]
abbrev Lq(z:QX)(A B C D E:Int)(I:QQ)(J:QK)(L:XJ)(e:XX)(f j q u:Int)(v:XZ):Qv:=[(0,.box [.st z,.i64 A,.sl 1,.u32 B,.u32 C,.sl 2,.sl 3,.mp 4,.i64 D,.i64 E]),(1,.arr 9 .str I),(2,.arr 3 (.int .i64) J),(3,.arr 212 (.prod (.int .u8) Y8) L),(4,.mpo .str (.int .u32) e),(5,.box [.u8 f,.u32 j,.nils]),(6,.box [.u8 q,.u32 u,.p false (.slice (.tree .u8 .u32)) v])]
abbrev Ed(u:QX)(v z A B C:Int)(D:QQ)(E:QK)(I:XJ)(e:XX)(f j:Int)(q:XZ):Qv:=[(0,.box [.st u,.i64 v,.sl 1,.u32 z,.u32 A,.sl 2,.sl 3,.mp 4,.i64 B,.i64 C]),(1,.arr 9 .str D),(2,.arr 3 (.int .i64) E),(3,.arr 212 (.prod (.int .u8) Y8) I),(4,.mpo .str (.int .u32) e),(5,.box [.u8 f,.u32 j,.p false (.slice (.tree .u8 .u32)) q])]
abbrev Jx(u:QX)(v z A B C:Int)(D:QQ)(E:QK)(I:XJ)(e:XX)(f j:Int)(q:XZ):Qv:=[(0,.box [.st u,.i64 v,.sl 1,.u32 z,.u32 A,.sl 2,.sl 3,.mp 4,.i64 B,.i64 C]),(1,.arr 9 .str D),(2,.arr 3 (.int .i64) E),(3,.arr 212 (.prod (.int .u8) Y8) I),(4,.mpo .str (.int .u32) e),(5,.box [.u8 f,.u32 j,.nils]),(6,.arr 210 (.tree .u8 .u32) q)]
abbrev Nx(f:QX)(j q u v z:Int)(A:QQ)(B:QK)(C:XX)(e:XJ):Qv:=[(0,.box [.st f,.i64 j,.sl 1,.u32 q,.u32 u,.sl 2,.sl 5,.mp 4,.i64 v,.i64 z]),(1,.arr 9 .str A),(2,.arr 3 (.int .i64) B),(4,.mpo .str (.int .u32) C),(5,.arr 212 (.prod (.int .u8) Y8) e)]
abbrev OG(j:QX)(q u v z A:Int)(B:XX)(C:QQ)(D:QK)(e:XJ)(f:XX):Qv:=[(0,.box [.st j,.i64 q,.sl 2,.u32 u,.u32 v,.sl 3,.sl 4,.mp 1,.i64 z,.i64 A]),(1,.mpo .str (.int .u32) B),(2,.arr 9 .str C),(3,.arr 3 (.int .i64) D),(4,.arr 212 (.prod (.int .u8) Y8) e),(5,.mpl .str [(([99,108,97,115,115]:QX),(zO 110)),(([115,101,116]:QX),(zO 111)),(([106,111,105,110]:QX),(zO 112)),(([116,114,101,97,116]:QX),(zO 113))]),(6,.mpo .str (.int .u8) f)]
abbrev Mx(f:QX)(j q u v z:Int)(A:XX)(B:QQ)(C:QK)(e:XJ):Qv:=[(0,.box [.st f,.i64 j,.sl 2,.u32 q,.u32 u,.sl 3,.sl 4,.mp 1,.i64 v,.i64 z]),(1,.mpo .str (.int .u32) A),(2,.arr 9 .str B),(3,.arr 3 (.int .i64) C),(4,.arr 212 (.prod (.int .u8) Y8) e)]
abbrev N8(u v:Int)(z:Bool)(A:XZ)(B C D E:Int)(I:XZ)(e f:Int)(j:Bool)(q:XZ):Qv:=[(0,.box [.u8 u,.u32 v,.p z (.slice (.tree .u8 .u32)) A]),(1,.box [.u8 B,.u32 C,.nils]),(2,.box [.u8 D,.u32 E,.sl 3]),(3,.arr 210 (.tree .u8 .u32) I),(4,.box [.u8 e,.u32 f,.p j (.slice (.tree .u8 .u32)) q])]
abbrev Ow(e f:Int)(j:Bool)(q:XZ)(u v z A:Int)(B:XZ):Qv:=[(0,.box [.u8 e,.u32 f,.p j (.slice (.tree .u8 .u32)) q]),(1,.box [.u8 u,.u32 v,.nils]),(2,.box [.u8 z,.u32 A,.sl 3]),(3,.arr 210 (.tree .u8 .u32) B)]
abbrev OE(e f j q:Int)(u:XZ):Qv:=[(0,.box [.u8 e,.u32 f,.nils]),(1,.box [.u8 j,.u32 q,.sl 2]),(2,.arr 210 (.tree .u8 .u32) u)]
abbrev Lw(e:Bool)(f j q u v z A B:Int):Qv:=[(0,.box [.bo e,.u64 f,.u64 j,.u64 q,.u64 u,.u64 v,.u64 z,.u64 A,.u64 B])]
abbrev Nh(e f j q u v z A:Int):Qv:=[(0,.box [.u64 e,.u64 f,.u64 j,.u64 q]),(1,.box [.u64 u,.u64 v,.u64 z,.u64 A])]
abbrev ER(e:Bool)(f:QK)(j:Qj):Qv:=[(0,.box [.sl 1,.sl 2,.bo e]),(1,.arr 133 (.int .u32) f),(2,.arr 271 mI j)]
abbrev N7(q u v z A B C D E e f j:Int):Qv:=[(0,.box [.u64 q,.u64 u,.u64 v,.u64 z]),(1,.box [.u64 A,.u64 B,.u64 C,.u64 D]),(2,.box [.u64 E,.u64 e,.u64 f,.u64 j])]
abbrev Nk(j:Bool)(q:QK)(u:Qj)(v z A B C D e f:Int):Qv:=[(0,.box [.sl 1,.sl 2,.bo j]),(1,.arr 133 (.int .u32) q),(2,.arr 271 mI u),(3,.box [.u64 v,.u64 z,.u64 A,.u64 B]),(4,.box [.u64 C,.u64 D,.u64 e,.u64 f])]
abbrev Ol(A:Bool)(B:QK)(C:Qj)(D E:Int)(I:Bool)(J:XZ)(L:Bool)(M e f j q u v z:Int):Qv:=[(0,.box [.sl 1,.sl 2,.bo A]),(1,.arr 133 (.int .u32) B),(2,.arr 271 mI C),(3,.box [.u8 D,.u32 E,.p I (.slice (.tree .u8 .u32)) J]),(4,.box [.bo L,.u64 M,.u64 e,.u64 f,.u64 j,.u64 q,.u64 u,.u64 v,.u64 z])]
abbrev Ma(e:Bool)(f:QK)(j:Qj):Qv:=[(0,.box [.sl 3,.sl 4,.bo e]),(3,.arr 133 (.int .u32) f),(4,.arr 271 mI j)]
abbrev M1(Z:Bool)(a2:QK)(a3:Qj)(a4:Bool)(a5 a6 a7 a8 a9 e f j:Int)(q:Bool)(u v z A B C D E:Int)(I:Bool)(J L M N O V X Y:Int):Qv:=[(0,.box [.sl 3,.sl 4,.bo Z]),(3,.arr 133 (.int .u32) a2),(4,.arr 271 mI a3),(5,.box [.bo a4,.u64 a5,.u64 a6,.u64 a7,.u64 a8,.u64 a9,.u64 e,.u64 f,.u64 j]),(6,.box [.bo q,.u64 u,.u64 v,.u64 z,.u64 A,.u64 B,.u64 C,.u64 D,.u64 E]),(7,.box [.bo I,.u64 J,.u64 L,.u64 M,.u64 N,.u64 O,.u64 V,.u64 X,.u64 Y])]
abbrev Ks(I:Bool)(J:QK)(L:Qj)(M:Bool)(N O V X Y e f j:Int)(q:Bool)(u v z A B C D E:Int):Qv:=[(0,.box [.sl 3,.sl 4,.bo I]),(3,.arr 133 (.int .u32) J),(4,.arr 271 mI L),(5,.box [.bo M,.u64 N,.u64 O,.u64 V,.u64 X,.u64 Y,.u64 e,.u64 f,.u64 j]),(6,.box [.bo q,.u64 u,.u64 v,.u64 z,.u64 A,.u64 B,.u64 C,.u64 D,.u64 E])]
abbrev Mr(I J:Bool)(L M N O V X Y e:Int)(f:Bool)(j q u v z A B C:Int)(D:QK)(E:Qj):Qv:=[(0,.box [.sl 5,.sl 6,.bo I]),(3,.box [.bo J,.u64 L,.u64 M,.u64 N,.u64 O,.u64 V,.u64 X,.u64 Y,.u64 e]),(4,.box [.bo f,.u64 j,.u64 q,.u64 u,.u64 v,.u64 z,.u64 A,.u64 B,.u64 C]),(5,.arr 133 (.int .u32) D),(6,.arr 271 mI E)]
abbrev Of(N:Bool)(O V:Int)(X:Bool)(Y:XZ)(Z:Bool)(a7 a8 a9 e f j q u:Int)(v:Bool)(z A B C D E I J:Int)(L:QK)(M:Qj):Qv:=[(0,.box [.sl 6,.sl 7,.bo N]),(3,.box [.u8 O,.u32 V,.p X (.slice (.tree .u8 .u32)) Y]),(4,.box [.bo Z,.u64 a7,.u64 a8,.u64 a9,.u64 e,.u64 f,.u64 j,.u64 q,.u64 u]),(5,.box [.bo v,.u64 z,.u64 A,.u64 B,.u64 C,.u64 D,.u64 E,.u64 I,.u64 J]),(6,.arr 133 (.int .u32) L),(7,.arr 271 mI M)]
abbrev OF(N:Bool)(O:QK)(V:Qj)(X Y:Int)(Z:Bool)(a7:XZ)(a8:Bool)(a9 e f j q u v z:Int)(A:Bool)(B C D E I J L M:Int):Qv:=[(0,.box [.sl 3,.sl 4,.bo N]),(3,.arr 133 (.int .u32) O),(4,.arr 271 mI V),(5,.box [.u8 X,.u32 Y,.p Z (.slice (.tree .u8 .u32)) a7]),(6,.box [.bo a8,.u64 a9,.u64 e,.u64 f,.u64 j,.u64 q,.u64 u,.u64 v,.u64 z]),(7,.box [.bo A,.u64 B,.u64 C,.u64 D,.u64 E,.u64 I,.u64 J,.u64 L,.u64 M])]
abbrev Hd(q:Bool)(u:QK)(v:Qj)(z:Bool)(A B C D E e f j:Int):Qv:=[(0,.box [.sl 3,.sl 4,.bo q]),(3,.arr 133 (.int .u32) u),(4,.arr 271 mI v),(5,.box [.bo z,.u64 A,.u64 B,.u64 C,.u64 D,.u64 E,.u64 e,.u64 f,.u64 j])]
abbrev GV(E:Bool)(I:QK)(J:Qj)(L:List ug)(M N O V:Int)(X:QZ)(e:QK)(f:Qj)(j:List (Z2×Int))(q u v z A B C D:Int):Qv:=[(0,.box [.nils,.nils]),(1,.box [.sl 2,.sl 3,.bo E]),(2,.arr 133 (.int .u32) I),(3,.arr 271 mI J),(4,.arr 273 Cs L),(5,.box [.u64 M,.u64 N,.u64 O,.u64 V]),(6,.box [.sl 7,.sl 8]),(7,.arr 134 (.slice (.int .i64)) X),(8,.arr 133 (.int .u32) e),(9,.arr 271 mI f),(10,.mpo mI (.int .i64) j),(11,.box [.u64 q,.u64 u,.u64 v,.u64 z]),(12,.box [.u64 A,.u64 B,.u64 C,.u64 D])]
abbrev JT(I:Bool)(J:QK)(L:Qj)(M:List ug)(N O V X:Int)(Y:QZ)(e:QK)(f:Qj)(j:List (Z2×Int))(q u v z:Int)(A:QK)(B C D E:Int):Qv:=[(0,.box [.nils,.nils]),(1,.box [.sl 2,.sl 3,.bo I]),(2,.arr 133 (.int .u32) J),(3,.arr 271 mI L),(4,.arr 273 Cs M),(5,.box [.u64 N,.u64 O,.u64 V,.u64 X]),(6,.box [.sl 7,.sl 8]),(7,.arr 134 (.slice (.int .i64)) Y),(8,.arr 133 (.int .u32) e),(9,.arr 271 mI f),(10,.mpo mI (.int .i64) j),(11,.box [.u64 q,.u64 u,.u64 v,.u64 z]),(12,.arr 3 (.int .i64) A),(13,.box [.u64 B,.u64 C,.u64 D,.u64 E])]
abbrev MX(B:Bool)(C:QK)(D:Qj)(E:List ug)(I J L M:Int)(N:QZ)(e:QK)(f:Qj)(j:List (Z2×Int))(q u v z:Int)(A:QK):Qv:=[(0,.box [.nils,.nils]),(1,.box [.sl 2,.sl 3,.bo B]),(2,.arr 133 (.int .u32) C),(3,.arr 271 mI D),(4,.arr 273 Cs E),(5,.box [.u64 I,.u64 J,.u64 L,.u64 M]),(6,.box [.sl 7,.sl 8]),(7,.arr 134 (.slice (.int .i64)) N),(8,.arr 133 (.int .u32) e),(9,.arr 271 mI f),(10,.mpo mI (.int .i64) j),(11,.box [.u64 q,.u64 u,.u64 v,.u64 z]),(12,.arr 3 (.int .i64) A)]
abbrev N5(u:Bool)(v:QK)(z:Qj)(A:List ug)(B C D E:Int)(I:QZ)(e:QK)(f:Qj)(j:List (Z2×Int))(q:QK):Qv:=[(0,.box [.nils,.nils]),(1,.box [.sl 2,.sl 3,.bo u]),(2,.arr 133 (.int .u32) v),(3,.arr 271 mI z),(4,.arr 273 Cs A),(5,.box [.u64 B,.u64 C,.u64 D,.u64 E]),(6,.box [.sl 7,.sl 8]),(7,.arr 134 (.slice (.int .i64)) I),(8,.arr 133 (.int .u32) e),(9,.arr 271 mI f),(10,.mpo mI (.int .i64) j),(11,.arr 3 (.int .i64) q)]
abbrev Od(A:Bool)(B:QK)(C:Qj)(D:List ug)(E I J L:Int)(M:QZ)(e:QK)(f:Qj)(j:List (Z2×Int))(q u v z:Int):Qv:=[(0,.box [.nils,.nils]),(1,.box [.sl 2,.sl 3,.bo A]),(2,.arr 133 (.int .u32) B),(3,.arr 271 mI C),(4,.arr 273 Cs D),(5,.box [.u64 E,.u64 I,.u64 J,.u64 L]),(6,.box [.sl 7,.sl 8]),(7,.arr 134 (.slice (.int .i64)) M),(8,.arr 133 (.int .u32) e),(9,.arr 271 mI f),(10,.mpo mI (.int .i64) j),(11,.box [.u64 q,.u64 u,.u64 v,.u64 z])]
abbrev OA(q:Bool)(u:QK)(v:Qj)(z:List ug)(A B C D:Int)(E:QZ)(e:QK)(f:Qj)(j:List (Z2×Int)):Qv:=[(0,.box [.nils,.nils]),(1,.box [.sl 2,.sl 3,.bo q]),(2,.arr 133 (.int .u32) u),(3,.arr 271 mI v),(4,.arr 273 Cs z),(5,.box [.u64 A,.u64 B,.u64 C,.u64 D]),(6,.box [.sl 7,.sl 8]),(7,.arr 134 (.slice (.int .i64)) E),(8,.arr 133 (.int .u32) e),(9,.arr 271 mI f),(10,.mpo mI (.int .i64) j)]
abbrev NH(e:QZ)(f:QK):Qv:=[(0,.box [.nils,.nils]),(1,.box [.sl 2,.sl 3]),(2,.arr 134 (.slice (.int .i64)) e),(3,.arr 133 (.int .u32) f)]
abbrev Nj(e:Bool)(f:QK)(j:Qj)(q:List ug)(u v z A:Int):Qv:=[(0,.box [.nils,.nils]),(1,.box [.sl 2,.sl 3,.bo e]),(2,.arr 133 (.int .u32) f),(3,.arr 271 mI j),(4,.arr 273 Cs q),(5,.box [.u64 u,.u64 v,.u64 z,.u64 A])]
abbrev No(e:Bool)(f:QK)(j:Qj)(q:List ug):Qv:=[(0,.box [.nils,.nils]),(1,.box [.sl 2,.sl 3,.bo e]),(2,.arr 133 (.int .u32) f),(3,.arr 271 mI j),(4,.arr 273 Cs q)]
abbrev IZ(e:Bool)(f:QZ)(j:Bool)(q:QK):Qv:=[(0,.box [.p e (.slice (.slice (.int .i64))) f,.p j (.slice (.int .u32)) q])]
abbrev J6(e:XX)(f j:QK):Qv:=[(0,.mpo .str (.int .i64) e),(1,.arr 3 (.int .i64) f),(2,.arr 3 (.int .i64) j)]
abbrev JR(e:XX)(f j q:QK):Qv:=[(0,.mpo .str (.int .i64) e),(1,.arr 3 (.int .i64) f),(2,.arr 3 (.int .i64) j),(3,.arr 5 (.int .u8) q)]
abbrev NY(e:Bool)(f:QZ)(j:Bool)(q:QK)(u:QZ)(v z A:QK):Qv:=[(0,.box [.p e (.slice (.slice (.int .i64))) f,.p j (.slice (.int .u32)) q]),(1,.box [.nils,.nils]),(2,.box [.sl 3,.sl 4]),(3,.arr 134 (.slice (.int .i64)) u),(4,.arr 133 (.int .u32) v),(5,.arr 3 (.int .i64) z),(6,.arr 3 (.int .i64) A)]
abbrev Lo(e:Bool)(f:QZ)(j:Bool)(q:QK)(u:QZ)(v z A B:QK):Qv:=[(0,.box [.p e (.slice (.slice (.int .i64))) f,.p j (.slice (.int .u32)) q]),(1,.box [.nils,.nils]),(2,.box [.sl 3,.sl 4]),(3,.arr 134 (.slice (.int .i64)) u),(4,.arr 133 (.int .u32) v),(5,.arr 3 (.int .i64) z),(6,.arr 3 (.int .i64) A),(7,.arr 3 (.int .i64) B)]
abbrev Nq(e:Bool)(f:QZ)(j:Bool)(q u:QK):Qv:=[(0,.box [.p e (.slice (.slice (.int .i64))) f,.p j (.slice (.int .u32)) q]),(1,.box [.nils,.nils]),(2,.box [.nils,.nils]),(3,.arr 3 (.int .i64) u)]
abbrev ML(e:Bool)(f:QZ)(j:Bool)(q u:QK):Qv:=[(0,.box [.p e (.slice (.slice (.int .i64))) f,.p j (.slice (.int .u32)) q]),(1,.box [.nils,.nils]),(2,.box [.p false (.slice (.int .i64)) u])]
abbrev Ny(e:QQ)(f j:Int)(q:QK)(u:XJ)(v z:XZ):Qv:=[(0,.box [.p false (.slice .str) e,.u32 f,.u32 j,.p false (.slice (.int .i64)) q,.p false (.slice (.prod (.int .u8) Y8)) u]),(1,.arr 210 (.tree .u8 .u32) v),(2,.arr 210 (.tree .u8 .u32) z)]
abbrev CG(e:fG 4352)(f:List (fG 256))(j:List ((fG 256)×Int))(q:fG 256):Qv:=[(0,.lmp .i64 4352 e [.sl 1]),(1,.arr 155 (.arr .u8 256) f),(2,.mpo (.arr .u8 256) (.int .i64) j),(3,.lmp .u8 256 q [])]
abbrev MH(e:fG 4352)(f:List (fG 256))(j:List ((fG 256)×Int)):Qv:=[(0,.lmp .i64 4352 e [.sl 1]),(1,.arr 155 (.arr .u8 256) f),(2,.mpo (.arr .u8 256) (.int .i64) j)]
abbrev Ou(e:fG 4352)(f:List (fG 256)):Qv:=[(0,.lmp .i64 4352 e [.sl 1]),(1,.arr 155 (.arr .u8 256) f)]
abbrev Kg(e f j q u v:Int):Qv:=[(0,.box [.i32 e,.i64 f,.i64 j]),(1,.box [.i32 q,.i64 u,.i64 v])]
abbrev Kf(e f:QK):Qv:=[(0,.box [.nils,.nils]),(1,.box [.sl 2,.sl 3]),(2,.arr 21 (.int .i32) e),(3,.arr 5 (.int .u8) f)]
abbrev Na(e f:QK)(j q u:Int):Qv:=[(0,.box [.nils,.nils]),(1,.box [.sl 2,.sl 3]),(2,.arr 21 (.int .i32) e),(3,.arr 5 (.int .u8) f),(4,.box [.i32 j,.i64 q,.i64 u])]
abbrev NX(e f:QK):Qv:=[(0,.box [.sl 1,.sl 2]),(1,.arr 21 (.int .i32) e),(2,.arr 5 (.int .u8) f)]
abbrev G7(e f:Int)(j q:List Z9):Qv:=[(0,.box [.nils,.nils]),(1,.box [.i64 e,.i64 f]),(2,.box [.sl 3,.sl 4]),(3,.arr 221 rV j),(4,.arr 221 rV q)]
abbrev JX(e:List Nd)(f:Bool)(j:QK)(q:Bool)(u:QK):Qv:=[(0,.box [.sl 1]),(1,.nds 233 5 e none),(2,.box [.p f (.slice (.int .i32)) j,.p q (.slice (.int .u8)) u])]
abbrev IS(e f j:QK):Qv:=[(0,.arr 71 (.int .u8) e),(1,.arr 3 (.int .i64) f),(2,.arr 3 (.int .i64) j)]
abbrev MZ(e:Bool)(f:QZ)(j:Bool)(q u:QK):Qv:=[(0,.box [.p e (.slice (.slice (.int .i64))) f,.p j (.slice (.int .u32)) q]),(1,.arr 3 (.int .i64) u)]
abbrev MW(e:Bool)(f:QK)(j:List Bool):Qv:=[(0,.box [.p e (.slice (.int .i32)) f]),(1,.arr 4 .bool j)]
abbrev My(e:Qj)(f:QK)(j q u:Int):Qv:=[(0,.arr 184 dg e),(1,.arr 3 (.int .i64) f),(2,.box [.i32 j,.i64 q,.i64 u])]
abbrev JH(e:Qj)(f:QK):Qv:=[(0,.box [.nils,.nils]),(1,.box [.p false (.slice dg) e,.sl 2]),(2,.arr 71 (.int .u8) f)]
abbrev NW(e:Bool)(f:Qj)(j:Bool)(q u:QK):Qv:=[(0,.box [.p e (.slice dg) f,.p j (.slice (.int .u8)) q]),(1,.arr 5 (.int .u8) u)]
abbrev M6(e:Bool)(f:Qj)(j:Bool)(q:QK):Qv:=[(0,.box [.p e (.slice dg) f,.p j (.slice (.int .u8)) q])]
abbrev NK(f:Bool)(j:Qj)(q:Bool)(u:QK)(v z A B C:Int)(e:QJ):Qv:=[(0,.box [.p f (.slice dg) j,.p q (.slice (.int .u8)) u]),(1,.box [.i64 v,.i64 z,.u8 A,.i64 B,.i64 C,.p false .flt e])]
abbrev J0(v:Bool)(z:Qj)(A:Bool)(B:QK)(C D E I J:Int)(e:QJ)(f j q u:Int):Qv:=[(0,.box [.p v (.slice dg) z,.p A (.slice (.int .u8)) B]),(1,.box [.i64 C,.i64 D,.u8 E,.i64 I,.i64 J,.p false .flt e]),(2,.box [.i64 f,.i64 j]),(3,.box [.i64 q,.i64 u])]
abbrev LO(A:Bool)(B:Qj)(C:Bool)(D:QK)(E I J L M:Int)(e:QJ)(f j q u v z:Int):Qv:=[(0,.box [.p A (.slice dg) B,.p C (.slice (.int .u8)) D]),(1,.box [.i64 E,.i64 I,.u8 J,.i64 L,.i64 M,.p false .flt e]),(2,.box [.i64 f,.i64 j]),(3,.box [.i64 q,.i64 u]),(4,.box [.i64 v,.i64 z])]
abbrev Om(e f j q:Int):Qv:=[(0,.box [.i64 e,.i64 f]),(1,.box [.i64 j,.i64 q])]
abbrev KS(j:Bool)(q:Qj)(u:Bool)(v:QK)(z A B C D:Int)(e:QJ)(f:Qq):Qv:=[(0,.box [.p j (.slice dg) q,.p u (.slice (.int .u8)) v]),(1,.box [.i64 z,.i64 A,.u8 B,.i64 C,.i64 D,.p false .flt e]),(2,.arr 289 Y2 f)]
abbrev OD(e:Bool)(f:Qj)(j:Bool)(q u:QK):Qv:=[(0,.box [.p e (.slice dg) f,.p j (.slice (.int .u8)) q]),(1,.arr 3 (.int .i64) u)]
abbrev N3(q:Bool)(u:Qj)(v:Bool)(z:QK)(A B C D E:Int)(e:QJ)(f:Qq)(j:Qj):Qv:=[(0,.box [.p q (.slice dg) u,.p v (.slice (.int .u8)) z]),(1,.box [.i64 A,.i64 B,.u8 C,.i64 D,.i64 E,.p false .flt e]),(2,.arr 289 Y2 f),(3,.arr 181 dg j)]
abbrev Di(v:Bool)(z:Qj)(A:Bool)(B:QK)(C D E I J:Int)(e:QJ)(f j q u:Int):Qv:=[(0,.box [.p v (.slice dg) z,.p A (.slice (.int .u8)) B]),(1,.box [.i64 C,.i64 D,.u8 E,.i64 I,.i64 J,.p false .flt e]),(2,.box [.i64 f,.i64 j,.i64 q,.u8 u])]
abbrev MS(j:Bool)(q:Qj)(u:Bool)(v:QK)(z A B C D:Int)(e:QJ)(f:Qj):Qv:=[(0,.box [.p j (.slice dg) q,.p u (.slice (.int .u8)) v]),(1,.box [.i64 z,.i64 A,.u8 B,.i64 C,.i64 D,.p false .flt e]),(2,.arr 181 dg f)]
abbrev Ni(e:Qj)(f:QK)(j:Qj)(q:QK)(u:Qj)(v:QZ):Qv:=[(0,.box [.p false (.slice dg) e,.p false (.slice (.int .u8)) f]),(1,.box [.p false (.slice dg) j,.p false (.slice (.int .u8)) q,.p false (.slice dg) u,.sl 2]),(2,.arr 134 (.slice (.int .i64)) v)]
abbrev MK(e:Qj)(f:QK)(j:Qj)(q:QZ):Qv:=[(0,.box [.p false (.slice dg) e,.p false (.slice (.int .u8)) f,.p false (.slice dg) j,.sl 1]),(1,.arr 134 (.slice (.int .i64)) q)]
abbrev Nz(e:Qj)(f:QK)(j:Qj)(q:QK)(u:Qj):Qv:=[(0,.box [.p false (.slice dg) e,.p false (.slice (.int .u8)) f]),(1,.box [.p false (.slice dg) j,.p false (.slice (.int .u8)) q,.p false (.slice dg) u,.nils])]
abbrev Ie(C:Bool)(D:Option Z1)(E I J L M:Int)(N:QJ)(O:QK)(e:Qj)(f:QK)(j:Option Z6)(q:List wG)(u v:Qj)(z:QK)(B:List (QX×Bool)):Qv:=[(0,.box [.sl 2,.bo C,.p false (.ptr wb) D,.i64 E,.i64 I,.u8 J,.i64 L,.i64 M,.p false .flt N,.p false (.slice (.int .u8)) O,.p false (.slice dg) e,.p false (.slice (.int .u8)) f,.p false (.ptr (.prod Br Jt)) j,.mp 1]),(1,.mpo .str JP q),(2,.arr 181 dg u),(3,.box [.p false (.slice dg) v,.p false (.slice (.int .u8)) z]),(4,.mpo .str .bool B)]
abbrev Nt(E:Bool)(I:Option Z1)(J L M N O:Int)(V:QJ)(X:QK)(e:Qj)(f:QK)(j:Option Z6)(q:List wG)(u v:Qj)(z:QK)(B:List (QX×Bool))(C:Qj)(D:Bool):Qv:=[(0,.box [.sl 2,.bo E,.p false (.ptr wb) I,.i64 J,.i64 L,.u8 M,.i64 N,.i64 O,.p false .flt V,.p false (.slice (.int .u8)) X,.p false (.slice dg) e,.p false (.slice (.int .u8)) f,.p false (.ptr (.prod Br Jt)) j,.mp 1]),(1,.mpo .str JP q),(2,.arr 181 dg u),(3,.box [.p false (.slice dg) v,.p false (.slice (.int .u8)) z]),(4,.mpo .str .bool B),(5,.box [.p false (.slice dg) C,.bo D])]
abbrev jA(v:Qj)(z:Bool)(B:Option Z1)(C D E I J:Int)(L:QJ)(e:QK)(f:Qj)(j:QK)(q:Option Z6)(u:List wG):Qv:=[(0,.box [.p false (.slice dg) v,.bo z,.p false (.ptr wb) B,.i64 C,.i64 D,.u8 E,.i64 I,.i64 J,.p false .flt L,.p false (.slice (.int .u8)) e,.p false (.slice dg) f,.p false (.slice (.int .u8)) j,.p false (.ptr (.prod Br Jt)) q,.mp 1]),(1,.mpo .str JP u)]
abbrev MM(e f:Int)(j:Bool)(q:QK):Qv:=[(0,.box [.i64 e,.i64 f,.p j (.slice (.int .u8)) q])]
abbrev FC(e:Bool)(f:QK)(j:Bool)(q:QK)(u:Bool)(v:QK):Qv:=[(0,.vrow 3 1 [.p e (.slice (.int .u8)) f,.p j (.slice (.int .u8)) q,.p u (.slice (.int .u8)) v])]
abbrev MO(e:Bool)(f:Qj)(j:Bool)(q:QK)(u:Qj):Qv:=[(0,.box [.p e (.slice dg) f,.p j (.slice (.int .u8)) q]),(1,.arr 73 dg u)]
abbrev M0(A:Qj)(B:Bool)(C:Option Z1)(D E I J L:Int)(M:QJ)(e:QK)(f:Qj)(j:QK)(q:Option Z6)(u:List wG)(v:Qj)(z:Bool):Qv:=[(0,.box [.p false (.slice dg) A,.bo B,.p false (.ptr wb) C,.i64 D,.i64 E,.u8 I,.i64 J,.i64 L,.p false .flt M,.p false (.slice (.int .u8)) e,.p false (.slice dg) f,.p false (.slice (.int .u8)) j,.p false (.ptr (.prod Br Jt)) q,.mp 1]),(1,.mpo .str JP u),(2,.box [.p false (.slice dg) v,.bo z])]
abbrev KV(e:QK)(f:XK):Qv:=[(0,.arr 21 (.int .i32) e),(1,.arr 106 (.prod (.int .i32) Y1) f)]
abbrev FK(e f j:Int)(q:Bool)(u:QK)(v:List wo):Qv:=[(0,.box [.u8 e,.u8 f,.u8 j,.p q (.slice (.int .u8)) u,.p false (.slice (.prod (.int .u8) Hi)) v])]
abbrev Lc(e f j:Int)(q:Bool)(u:QK)(v:List wo)(z:QQ):Qv:=[(0,.box [.u8 e,.u8 f,.u8 j,.p q (.slice (.int .u8)) u,.p false (.slice (.prod (.int .u8) Hi)) v]),(1,.arr 9 .str z)]
abbrev K6(e:Bool)(f:Qj)(j q:Bool)(u:Qj)(v:Bool):Qv:=[(0,.box [.p e (.slice dg) f,.bo j]),(1,.box [.p q (.slice dg) u,.bo v])]
abbrev M3(X:Qj)(Y:Bool)(Z:Option Z1)(a4 a5 a6 a7 a8:Int)(a9:QJ)(e:QK)(f:Qj)(j:QK)(q:Option Z6)(u:List wG)(v:Qj)(z:Bool)(A:Option Z1)(B C D E I:Int)(J:QJ)(L:QK)(M:Qj)(N:QK)(O:Option Z6)(V:List wG):Qv:=[(0,.box [.p false (.slice dg) X,.bo Y,.p false (.ptr wb) Z,.i64 a4,.i64 a5,.u8 a6,.i64 a7,.i64 a8,.p false .flt a9,.p false (.slice (.int .u8)) e,.p false (.slice dg) f,.p false (.slice (.int .u8)) j,.p false (.ptr (.prod Br Jt)) q,.mp 1]),(1,.mpo .str JP u),(2,.box [.p false (.slice dg) v,.bo z,.p false (.ptr wb) A,.i64 B,.i64 C,.u8 D,.i64 E,.i64 I,.p false .flt J,.p false (.slice (.int .u8)) L,.p false (.slice dg) M,.p false (.slice (.int .u8)) N,.p false (.ptr (.prod Br Jt)) O,.mp 3]),(3,.mpo .str JP V)]
abbrev ND(X Y Z:Int)(a4:Bool)(a5:QK)(a6:List wo)(a7 a8 a9:Int)(e:Bool)(f:QK)(j:List wo)(q:Bool)(u:QK)(v:Bool)(z:QK)(A:Bool)(B:QK)(C:Bool)(D:QK)(E I J L M N O:Int)(V:QJ):Qv:=[(0,.box [.u8 X,.u8 Y,.u8 Z,.p a4 (.slice (.int .u8)) a5,.p false (.slice (.prod (.int .u8) Hi)) a6,.u8 a7,.u8 a8,.u8 a9,.p e (.slice (.int .u8)) f,.p false (.slice (.prod (.int .u8) Hi)) j,.p q (.slice (.int .u8)) u,.p v (.slice (.int .u8)) z,.p A (.slice (.int .u8)) B,.p C (.slice (.int .u8)) D,.u8 E,.u8 I]),(1,.box [.u8 J,.u8 L,.u8 M,.p false (.int .u16) N,.p false (.int .u16) O,.p false .flt V])]
def tb:bQ:=[
 (3,⟨some (.int .i64),(.int .i64),1,8,[.i64 0]⟩),
 (4,⟨some .bool,.bool,1,1,[.bo false]⟩),
 (5,⟨some (.int .u8),(.int .u8),1,1,[.u8 0]⟩),
 (9,⟨some .str,.str,1,16,[.st ([]:QX)]⟩),
 (20,⟨none,.other,1,16,[.lit .nilIface]⟩),
 (21,⟨some (.int .i32),(.int .i32),1,4,[.i32 0]⟩),
 (22,⟨some (.slice (.int .u8)),(.sl 5),1,24,[.nils]⟩),
 (23,⟨some (.slice (.prod (.int .u8) Hi)),(.sl 172),1,24,[.nils]⟩),
 (25,⟨some (.prod (.int .u8) N1),(.st [(0,5),(1,5),(2,5),(3,22),(4,23)]),5,56,[.u8 0,.u8 0,.u8 0,.nils,.nils]⟩),
 (27,⟨some Pd,(.st [(0,25),(5,25),(10,22),(11,22),(12,22),(13,22),(14,5),(15,5)]),16,216,[.u8 0,.u8 0,.u8 0,.nils,.nils,.u8 0,.u8 0,.u8 0,.nils,.nils,.nils,.nils,.nils,.nils,.u8 0,.u8 0]⟩),
 (28,⟨some (.int .u16),(.int .u16),1,2,[.p false (.int .u16) (0:Int)]⟩),
 (29,⟨some .flt,.flt,1,8,[.p false .flt (dO 0)]⟩),
 (31,⟨some ON,(.st [(0,5),(1,5),(2,5),(3,28),(4,28),(5,29)]),6,16,[.u8 0,.u8 0,.u8 0,.p false (.int .u16) (0:Int),.p false (.int .u16) (0:Int),.p false .flt (dO 0)]⟩),
 (33,⟨some (.ptr wb),.other,1,8,[.nilp]⟩),
 (34,⟨some (.int .i64),(.int .i64),1,8,[.i64 0]⟩),
 (36,⟨some Y2,(.st [(0,34),(1,3)]),2,16,[.i64 0,.i64 0]⟩),
 (39,⟨some (.slice (.prod (.int .i32) Y1)),(.sl 106),1,24,[.nils]⟩),
 (41,⟨some Y7,(.st [(0,39),(1,39),(2,39),(3,39),(4,9),(5,9),(6,9),(7,3),(8,3)]),9,160,[.nils,.nils,.nils,.nils,.st ([]:QX),.st ([]:QX),.st ([]:QX),.i64 0,.i64 0]⟩),
 (44,⟨some (.int .u8),(.int .u8),1,1,[.u8 0]⟩),
 (46,⟨some Ob,(.st [(0,3),(1,3),(2,44),(3,3),(4,3),(5,29)]),6,48,[.i64 0,.i64 0,.u8 0,.i64 0,.i64 0,.p false .flt (dO 0)]⟩),
 (48,⟨some (.int .u64),(.int .u64),1,8,[.u64 0]⟩),
 (49,⟨none,.other,1,8,[.nilp]⟩),
 (54,⟨some (.prod (.int .i64) Pr),(.st [(0,3),(1,3),(2,22)]),3,40,[.i64 0,.i64 0,.nils]⟩),
 (57,⟨some (.slice dg),(.sl 73),1,24,[.nils]⟩),
 (59,⟨some JP,(.st [(0,57),(1,4)]),2,32,[.nils,.bo false]⟩),
 (63,⟨some Pf,(.st [(0,4),(1,4),(2,3),(3,3),(4,22),(5,31)]),11,64,[.bo false,.bo false,.i64 0,.i64 0,.nils,.u8 0,.u8 0,.u8 0,.p false (.int .u16) (0:Int),.p false (.int .u16) (0:Int),.p false .flt (dO 0)]⟩),
 (71,⟨some (.int .u8),(.int .u8),1,1,[.u8 0]⟩),
 (73,⟨some dg,(.st [(0,3),(1,3),(2,3),(3,71)]),4,32,[.i64 0,.i64 0,.i64 0,.u8 0]⟩),
 (89,⟨some (.ptr nw),.other,1,8,[.nilp]⟩),
 (90,⟨some (.ptr xG),.other,1,8,[.nilp]⟩),
 (91,⟨some (.ptr nW),.other,1,8,[.nilp]⟩),
 (93,⟨some wb,(.st [(0,89),(1,89),(2,90),(3,90),(4,90),(5,91)]),6,48,[.nilp,.nilp,.nilp,.nilp,.nilp,.nilp]⟩),
 (96,⟨none,.other,1,8,[.nilp]⟩),
 (98,⟨none,(.st [(0,96),(1,39),(2,3)]),3,40,[.nilp,.nils,.i64 0]⟩),
 (99,⟨none,(.sl 98),1,24,[.nils]⟩),
 (106,⟨some (.prod (.int .i32) Y1),(.st [(0,21),(1,21),(2,3)]),3,16,[.i32 0,.i32 0,.i64 0]⟩),
 (109,⟨some (.slice .str),(.sl 9),1,24,[.nils]⟩),
 (111,⟨none,(.mp 9 114),1,8,[.lit (.map none)]⟩),
 (112,⟨some (.slice dg),(.sl 181),1,24,[.nils]⟩),
 (114,⟨some JP,(.st [(0,112),(1,4)]),2,32,[.nils,.bo false]⟩),
 (115,⟨some (.slice dg),(.sl 184),1,24,[.nils]⟩),
 (116,⟨some (.slice (.int .u8)),(.sl 71),1,24,[.nils]⟩),
 (118,⟨some Br,(.st [(0,115),(1,116)]),2,48,[.nils,.nils]⟩),
 (119,⟨some (.ptr (.prod Br Jt)),.other,1,8,[.nilp]⟩),
 (121,⟨none,(.st [(0,114),(2,33),(3,46),(9,22),(10,118),(12,119),(13,111)]),14,176,[.nils,.bo false,.nilp,.i64 0,.i64 0,.u8 0,.i64 0,.i64 0,.p false .flt (dO 0),.nils,.nils,.nils,.nilp,.lit (.map none)]⟩),
 (132,⟨some (.slice .bool),(.sl 4),1,24,[.nils]⟩),
 (133,⟨some (.int .u32),(.int .u32),1,4,[.u32 0]⟩),
 (134,⟨some (.slice (.int .i64)),(.sl 3),1,24,[.nils]⟩),
 (135,⟨some (.slice (.prod (.int .u8) Y8)),(.sl 212),1,24,[.nils]⟩),
 (137,⟨some L6,(.st [(0,109),(1,133),(2,133),(3,134),(4,135)]),5,80,[.nils,.u32 0,.u32 0,.nils,.nils]⟩),
 (142,⟨some (.slice (.slice (.int .i64))),(.sl 134),1,24,[.nils]⟩),
 (143,⟨some (.slice (.int .u32)),(.sl 133),1,24,[.nils]⟩),
 (145,⟨some DW,(.st [(0,142),(1,143)]),2,48,[.nils,.nils]⟩),
 (147,⟨some nw,(.st [(0,137),(5,145),(7,145)]),9,176,[.nils,.u32 0,.u32 0,.nils,.nils,.nils,.nils,.nils,.nils]⟩),
 (149,⟨some (.slice (.arr .u8 256)),(.sl 155),1,24,[.nils]⟩),
 (150,⟨some (.arr .i64 4352),(.ar 4352 3),4352,34816,(List.replicate 4352 (.i64 0))⟩),
 (152,⟨some xG,(.st [(0,150),(4352,149)]),4353,34840,(List.replicate 4352 (.i64 0)++[.nils])⟩),
 (153,⟨none,(.mp 155 3),1,8,[.lit (.map none)]⟩),
 (155,⟨some (.arr .u8 256),(.ar 256 5),256,256,(List.replicate 256 (.u8 0))⟩),
 (158,⟨some (.slice rV),(.sl 221),1,24,[.nils]⟩),
 (160,⟨some Kv,(.st [(0,158),(1,158)]),2,48,[.nils,.nils]⟩),
 (164,⟨some (.ptr ur),.other,1,8,[.nilp]⟩),
 (167,⟨some nW,(.st [(0,39),(1,164),(2,158),(3,3),(4,3)]),5,72,[.nils,.nilp,.nils,.i64 0,.i64 0]⟩),
 (168,⟨some (.slice (.int .i32)),(.sl 21),1,24,[.nils]⟩),
 (172,⟨some (.prod (.int .u8) Hi),(.st [(0,5),(1,22),(2,22)]),3,56,[.u8 0,.nils,.nils]⟩),
 (174,⟨none,(.mp 9 4),1,8,[.lit (.map none)]⟩),
 (181,⟨some dg,(.st [(0,3),(1,3),(2,3),(3,71)]),4,32,[.i64 0,.i64 0,.i64 0,.u8 0]⟩),
 (182,⟨some (.int .u8),(.int .u8),1,1,[.u8 0]⟩),
 (184,⟨some dg,(.st [(0,3),(1,3),(2,3),(3,182)]),4,32,[.i64 0,.i64 0,.i64 0,.u8 0]⟩),
 (185,⟨some (.slice (.prod (.int .i32) Y2)),(.sl 219),1,24,[.nils]⟩),
 (193,⟨some (.prod Br Jt),(.st [(0,118),(2,112),(3,142)]),4,96,[.nils,.nils,.nils,.nils]⟩),
 (198,⟨none,.other,1,8,[.lit .nilFunc]⟩),
 (201,⟨none,.other,1,8,[.nilp]⟩),
 (202,⟨none,(.mp 9 133),1,8,[.lit (.map none)]⟩),
 (204,⟨none,(.st [(0,9),(1,3),(2,137),(7,202),(8,3),(9,3)]),10,128,[.st ([]:QX),.i64 0,.nils,.u32 0,.u32 0,.nils,.nils,.lit (.map none),.i64 0,.i64 0]⟩),
 (207,⟨some (.slice (.tree .u8 .u32)),(.sl 210),1,24,[.nils]⟩),
 (208,⟨some (.int .u8),(.int .u8),1,1,[.u8 0]⟩),
 (210,⟨some (.tree .u8 .u32),(.st [(0,208),(1,133),(2,207)]),3,32,[.u8 0,.u32 0,.nils]⟩),
 (212,⟨some (.prod (.int .u8) Y8),(.st [(0,71),(1,210),(4,210)]),7,72,[.u8 0,.u8 0,.u32 0,.nils,.u8 0,.u32 0,.nils]⟩),
 (219,⟨some (.prod (.int .i32) Y2),(.st [(0,21),(1,3),(2,3)]),3,24,[.i32 0,.i64 0,.i64 0]⟩),
 (221,⟨some rV,(.st [(0,168),(1,22)]),2,48,[.nils,.nils]⟩),
 (227,⟨none,.other,1,8,[.lit .nilFunc]⟩),
 (228,⟨some (.slice N4),(.sl 233),1,24,[.nils]⟩),
 (230,⟨some ur,(.st [(0,228)]),1,24,[.nils]⟩),
 (231,⟨some (.mapi .i32 .i64),(.mp 21 3),1,8,[.lit (.map none)]⟩),
 (233,⟨some N4,(.st [(0,231),(1,22)]),2,32,[.lit (.map none),.nils]⟩),
 (236,⟨none,.other,1,8,[.nilp]⟩),
 (238,⟨some O6,(.st [(0,22),(1,3)]),2,32,[.nils,.i64 0]⟩),
 (241,⟨some (.slice (.slice (.int .u8))),(.sl 22),1,24,[.nils]⟩),
 (255,⟨none,.other,1,8,[.lit .nilFunc]⟩),
 (256,⟨none,(.mp 9 255),1,8,[.lit (.map none)]⟩),
 (257,⟨none,(.mp 9 71),1,8,[.lit (.map none)]⟩),
 (264,⟨none,.other,1,8,[.nilp]⟩),
 (265,⟨some (.slice mI),(.sl 271),1,24,[.nils]⟩),
 (267,⟨some Pe,(.st [(0,143),(1,265),(2,4)]),3,56,[.nils,.nils,.bo false]⟩),
 (268,⟨some (.slice Cs),(.sl 273),1,24,[.nils]⟩),
 (269,⟨some (.int .u64),(.int .u64),1,8,[.u64 0]⟩),
 (271,⟨some mI,(.ar 4 269),4,32,[.u64 0,.u64 0,.u64 0,.u64 0]⟩),
 (273,⟨some Cs,(.st [(0,4),(1,271),(5,271)]),9,72,[.bo false,.u64 0,.u64 0,.u64 0,.u64 0,.u64 0,.u64 0,.u64 0,.u64 0]⟩),
 (276,⟨none,(.mp 271 3),1,8,[.lit (.map none)]⟩),
 (281,⟨none,.other,1,8,[.lit .nilFunc]⟩),
 (285,⟨none,.other,1,8,[.lit .nilFunc]⟩),
 (287,⟨some (.slice Y2),(.sl 289),1,24,[.nils]⟩),
 (289,⟨some Y2,(.st [(0,3),(1,3)]),2,16,[.i64 0,.i64 0]⟩),
 (307,⟨none,(.mp 9 3),1,8,[.lit (.map none)]⟩),
 (321,⟨some (.prod (.int .u8) Ph),(.ar 7 5),7,7,[.u8 0,.u8 0,.u8 0,.u8 0,.u8 0,.u8 0,.u8 0]⟩)]
theorem iB:bY Tryz.prog tb:=Lr (by kernel_rfl) (by kernel_rfl) (by kernel_rfl)
theorem Mj:L7 Tryz.prog 73 dg:=KG 8 (by decide) (by kernel_rfl) ⟨by kernel_rfl,rfl⟩
theorem Eg:fU Tryz.prog 155 (.arr .u8 256):=fU.Gf (e:=5) rfl rfl rfl (by kernel_rfl) rfl rfl rfl
theorem Bm:fU Tryz.prog 271 mI:=fU.Gf (e:=269) rfl rfl rfl (by kernel_rfl) rfl rfl rfl
theorem mixed:Tryz.prog.follows .mixedOrders=true:=by kernel_rfl
theorem PB{fid:FuncId}{fn:Func}{c:Code}(v:Tryz.prog.funcs[fid]? = some fn){args:List ag}{f:List (Σ T:Ty,T.den)}(h:∀Bw w0,W Tryz.prog fn.ntmps Bw w0 c (oM args) (ME tb fn.results.toList f))(j:(fn.name == "runtime.NumGoroutine")=false:=by kernel_rfl)(hb:fn.body=some c:=by exact rfl)(q:Nat.ble args.length fn.ntmps=true:=by exact rfl)(u:oZ args=true:=by exact rfl):Pure Tryz.prog fid args (aM (bg false f)):=Pure.jZ iB v j hb (nl q) h u
theorem OB{fid:FuncId}{fn:Func}{c:Code}(q:Tryz.prog.funcs[fid]? = some fn){args:List ag}{hin hout:Qv}{r:ag}(h:∀Bw w0,W Tryz.prog fn.ntmps Bw w0 c (sE args hin) (yR tb fn.ntmps fn.results.toList r hout))(f:(fn.name == "runtime.NumGoroutine")=false:=by kernel_rfl)(hb:fn.body=some c:=by exact rfl)(j:Nat.ble args.length fn.ntmps=true:=by exact rfl):gN Tryz.prog fid args hin r hout:=gN.jZ iB q f hb (nl j) h
theorem DB{fid:FuncId}{fn:Func}{c:Code}(q:Tryz.prog.funcs[fid]? = some fn){args:List ag}{hin:Qv}{f:(ag×Qv)⊕Value}(h:∀Bw w0,W Tryz.prog fn.ntmps Bw w0 c (sE args hin) (M4 tb fn.ntmps fn.results.toList f))(e:(fn.name == "runtime.NumGoroutine")=false:=by kernel_rfl)(hb:fn.body=some c:=by exact rfl)(j:Nat.ble args.length fn.ntmps=true:=by exact rfl):jt Tryz.prog fid args hin f:=jt.jZ iB q e hb (nl j) h
theorem RO{n:NS}{σ:St}{q:List ResultVar}{r:ag}{hout:Qv}(Ts:List (Option Ty))(u:List Tv.G)(f:QV)(l:List (Nat×ag))(m:Qv)(nx pn:Nat)(v:goal u f l m σ=some (want f l m):=by kernel_rfl)(j:(σ.pn == pn && lh (Jf f) l m nx pn)=true:=by kernel_rfl)(z:Ky tb q Ts hout (aA l m nx pn)=some (r,hout.map (fun p=>some p.2)):=by kernel_rfl):yR tb n q r hout .ret σ:=EB Ts u f l m nx pn v j z
theorem RI{σ:St}{j:List ResultVar}{f:List (Σ T:Ty,T.den)}(Ts:List Ty)(h:(match uy tb σ.s σ.h j with | some xs=>mS σ.h xs Ts | none=>none)=some f:=by kernel_rfl):ME tb j f .ret σ:=Gt Ts h
section
variable{n:NS}{Bw:Nat→Prop}{w0:cE Tryz.prog}{σ:St}{Q:Exit→St→Prop}{id:Nat}{ops:Array Oper}{d:Code}{fid:FuncId}{args:List ag}{hin hout:Qv}{r:ag}{y:Value}
theorem Ge(e:∀σ',Le n σ' (iW Tryz.prog tb a0 n ops σ)→Q .normal σ')(h:iY Tryz.prog tb a0 n ops σ=some (cP ops.size 0 []):=by kernel_rfl):W Tryz.prog n Bw w0 (.region id ops false) σ Q:=Jh iB a0 [] h e
theorem bq(an:An)(e:List (Nat×Nat×PP))(f:∀σ',Le n σ' (iW Tryz.prog tb an n ops σ)→Q .normal σ')(h:iY Tryz.prog tb an n ops σ=some (cP ops.size 0 e):=by kernel_rfl):W Tryz.prog n Bw w0 (.region id ops false) σ Q:=Jh iB an e h f
theorem mu(an:An)(e:List (Nat×Nat×PP))(f:∀σ',Le n σ' (CZ Tryz.prog tb an n ops σ)→Q .normal σ')(h:Cd Tryz.prog tb an n ops σ=some (cP ops.size 0 e):=by kernel_rfl):W Tryz.prog n Bw w0 (.region id ops true) σ Q:=MQ iB mixed an e h f
theorem yK(i:Nat){α:Type}{p:Prop}[Decidable p]{u:Option α}{v:α}(h:(if p then u else none)=some v)(e:u=some v→∀σ',Le n σ' (iW Tryz.prog tb a0 n ops σ)→Q .normal σ')(hk:iY Tryz.prog tb a0 n ops σ=some (cG ops.size i p):=by kernel_rfl):W Tryz.prog n Bw w0 (.region id ops false) σ Q:=K7 iB i h hk e
theorem NR(i:Nat)(u:Pure Tryz.prog fid args r)(e:∀σ',Le n σ' (iW Tryz.prog tb ⟨[],[(i,oP u)]⟩ n ops σ)→Q .normal σ')(h:iY Tryz.prog tb ⟨[],[(i,oP u)]⟩ n ops σ=some (cP ops.size 0 [(i,i,oc u)]):=by kernel_rfl):W Tryz.prog n Bw w0 (.region id ops false) σ Q:=Np iB i u h e
theorem lH(i:Nat)(g:QV)(u:gN Tryz.prog fid args hin r hout)(e:∀σ',Le n σ' (iW Tryz.prog tb ⟨[],[(i,oO u g)]⟩ n ops σ)→Q .normal σ')(h:iY Tryz.prog tb ⟨[],[(i,oO u g)]⟩ n ops σ=some (cP ops.size 0 [(i,i,oc u)]):=by kernel_rfl):W Tryz.prog n Bw w0 (.region id ops false) σ Q:=MI iB i g u h e
theorem G(f:W Tryz.prog n Bw w0 d (iW Tryz.prog tb a0 n ops σ) Q)(h:iY Tryz.prog tb a0 n ops σ=some (cP ops.size 0 []):=by kernel_rfl):W Tryz.prog n Bw w0 (.seq (.region id ops false) d) σ Q:=NM iB a0 [] h f
theorem GN(an:An)(e:List (Nat×Nat×PP))(f:W Tryz.prog n Bw w0 d (iW Tryz.prog tb an n ops σ) Q)(h:iY Tryz.prog tb an n ops σ=some (cP ops.size 0 e):=by kernel_rfl):W Tryz.prog n Bw w0 (.seq (.region id ops false) d) σ Q:=NM iB an e h f
theorem GD(an:An)(e:List (Nat×Nat×PP))(f:W Tryz.prog n Bw w0 d (CZ Tryz.prog tb an n ops σ) Q)(h:Cd Tryz.prog tb an n ops σ=some (cP ops.size 0 e):=by kernel_rfl):W Tryz.prog n Bw w0 (.seq (.region id ops true) d) σ Q:=Ps iB mixed an e h f
theorem GC(i:Nat){α:Type}{p:Prop}[Decidable p]{u:Option α}{v:α}(h:(if p then u else none)=some v)(f:u=some v→W Tryz.prog n Bw w0 d (iW Tryz.prog tb a0 n ops σ) Q)(hk:iY Tryz.prog tb a0 n ops σ=some (cG ops.size i p):=by kernel_rfl):W Tryz.prog n Bw w0 (.seq (.region id ops false) d) σ Q:=N0 iB i h hk f
theorem GP(i:Nat)(u:Pure Tryz.prog fid args r)(e:W Tryz.prog n Bw w0 d (iW Tryz.prog tb ⟨[],[(i,oP u)]⟩ n ops σ) Q)(h:iY Tryz.prog tb ⟨[],[(i,oP u)]⟩ n ops σ=some (cP ops.size 0 [(i,i,oc u)]):=by kernel_rfl):W Tryz.prog n Bw w0 (.seq (.region id ops false) d) σ Q:=Oc iB i u h e
theorem GO(i:Nat)(g:QV)(u:gN Tryz.prog fid args hin r hout)(e:W Tryz.prog n Bw w0 d (iW Tryz.prog tb ⟨[],[(i,oO u g)]⟩ n ops σ) Q)(h:iY Tryz.prog tb ⟨[],[(i,oO u g)]⟩ n ops σ=some (cP ops.size 0 [(i,i,oc u)]):=by kernel_rfl):W Tryz.prog n Bw w0 (.seq (.region id ops false) d) σ Q:=Ot iB i g u h e
theorem GX(i:Nat)(g:QV)(u:kg Tryz.prog fid args hin y)(e:∀σ',Q (.panic [{ v:=y,recovered:=false }]) σ')(h:Cq Tryz.prog tb ⟨[],[(i,oD u g)]⟩ n ops i σ=some (cP (i+1) 0 [(i,i,oc u)],y):=by kernel_rfl):W Tryz.prog n Bw w0 (.region id ops false) σ Q:=Ok iB i g u h e
theorem Pn(u:kg Tryz.prog fid args hin y)(an:An)(i:Nat)(e:List (Nat×Nat×PP))(f:∀σ',Q (.panic [{ v:=y,recovered:=false }]) σ')(h:Cq Tryz.prog tb an n ops i σ=some (cP (i+1) 0 e,y):=by kernel_rfl):W Tryz.prog n Bw w0 (.region id ops false) σ Q:=OV iB u an i e h f
end
end
end Go.Proofs.YtbedjpdfkmfplaaGreatDoor.T
