/- Functions of the program as functions on data, and that the program's own come to them. -/
import Derived.Test.YtflahpmlcfhpcaaGreatDoorTvSfm
import Derived.Test.YtflahpmlcfhpcaaGreatDoorProg
import Derived.KernelRfl
namespace Go.Proofs.YtflahpmlcfhpcaaGreatDoor.T
open Go Go.Tv Go.Proofs
noncomputable section
set_option maxRecDepth 100000
set_option maxHeartbeats 4000000
abbrev Z6:Type:=Int×Tree×Tree
abbrev Z14:Type:=(List (List UInt8))×Int×Int×(List Int)×List Z6
abbrev Z13:Type:=(List (List Int))×List Int
abbrev Z5:Type:=Z14×Z13×(List (List Int))×List Int
abbrev K4:Type:=(Arr 4352)×List (Arr 256)
abbrev Z7:Type:=Int×Int×Int
abbrev Z16:Type:=(List ((List (Int×Int))×List Int))×Unit
abbrev Z8:Type:=(List Int)×List Int
abbrev Z3:Type:=(List Z7)×(Option Z16)×(List Z8)×Int×Int
abbrev Z1:Type:=(Option Z5)×(Option Z5)×(Option K4)×(Option K4)×(Option K4)×Option Z3
abbrev Z2:Type:=Int×Int×Int×Int
abbrev Z4:Type:=(List UInt8)×Int
abbrev Z9:Type:=Bool×Z2×Int×Int×Int×Int
abbrev qS:Type:=Tree×Int×Int×Int
abbrev Z11:Type:=Int×(List (List UInt8))×Int×Int×(List Int)×(List Z6)×(List Z4)×Int×Int
abbrev zR:Type:=(List Int)×Int
abbrev Y1:Ty:=(.prod (.int .i32) (.int .i64))
abbrev Y2:Ty:=(.prod (.int .i64) (.int .i64))
abbrev Y3:Ty:=(.prod .str (.prod .str Y2))
abbrev Y4:Ty:=(.prod (.slice (.prod (.int .i32) Y1)) (.prod .str Y3))
abbrev Y5:Ty:=(.prod (.slice (.prod (.int .i32) Y1)) Y4)
abbrev Y6:Ty:=(.prod (.slice (.prod (.int .i32) Y1)) Y5)
abbrev Y7:Ty:=(.prod (.slice (.prod (.int .i32) Y1)) Y6)
abbrev Y8:Ty:=(.prod (.tree .u8 .u32) (.tree .u8 .u32))
abbrev Y9:Ty:=(.prod (.slice (.int .i64)) (.slice (.prod (.int .u8) Y8)))
abbrev Y10:Ty:=(.prod (.int .u32) (.prod (.int .u32) Y9))
abbrev Y11:Ty:=(.prod (.slice .str) Y10)
abbrev S8:Ty:=(.prod (.slice (.slice (.int .i64))) (.slice (.int .u32)))
abbrev lW:Ty:=(.prod Y11 (.prod S8 S8))
abbrev Y14:Ty:=(.prod (.int .u64) (.int .u64))
abbrev kX:Ty:=(.prod (.int .u64) (.prod (.int .u64) Y14))
abbrev G1:Ty:=(.prod .bool (.prod kX kX))
abbrev wS:Ty:=(.prod (.arr .i64 4352) (.slice (.arr .u8 256)))
abbrev Y18:Ty:=(.prod (.mapi .i32 .i64) (.slice (.int .u8)))
abbrev uH:Ty:=(.prod (.slice Y18) .unit)
abbrev wT:Ty:=(.prod (.slice (.int .i32)) (.slice (.int .u8)))
abbrev Y21:Ty:=(.prod (.ptr uH) (.prod (.slice wT) Y2))
abbrev mC:Ty:=(.prod (.slice (.prod (.int .i32) Y1)) Y21)
abbrev Y23:Ty:=(.prod (.ptr wS) (.ptr mC))
abbrev Y24:Ty:=(.prod (.ptr wS) (.prod (.ptr wS) Y23))
abbrev D9:Ty:=(.prod (.ptr lW) (.prod (.ptr lW) Y24))
abbrev Y26:Ty:=(.prod (.slice wT) (.slice wT))
abbrev Y27:Ty:=(.prod (.int .i64) (.int .u8))
abbrev gA:Ty:=(.prod (.int .i64) (.prod (.int .i64) Y27))
abbrev Y29:Ty:=(.prod (.slice gA) .bool)
abbrev Y30:Ty:=(.prod (.slice gA) (.slice (.int .u8)))
abbrev Y31:Ty:=(.prod (.int .i64) .flt)
abbrev Y32:Ty:=(.prod (.int .u8) (.prod (.int .i64) Y31))
abbrev Y33:Ty:=(.prod (.int .i64) (.prod (.int .i64) Y32))
abbrev Y34:Ty:=(.prod (.slice kX) .bool)
abbrev Y35:Ty:=(.prod (.slice (.int .u32)) Y34)
abbrev Y36:Ty:=(.prod (.int .u8) (.int .u8))
abbrev Y37:Ty:=(.prod (.int .u8) (.prod (.int .u8) Y36))
abbrev Y38:Ty:=(.prod (.int .u8) (.prod (.int .u8) Y37))
abbrev ob1(a1:Int)(a2:Int)(a3:Int)(a4:Int)(a5:List UInt8)(a6:Int)(a7:Int)(a8:Int)(a9:Int)(a10:Int)(a11:List Z4):List (Nat×Tv.Obj):=[(0,.box [.nils,.u32 a1,.u32 a2,.nils,.nils]),(1,.box [.i64 a3,.i64 a4]),(2,.box [.st a5,.i64 a6,.nils,.u32 a7,.u32 a8,.nils,.nils,.mp 3,.i64 a9,.i64 a10]),(3,.mpo .str (.int .u32) a11)]
abbrev ob2(a1:List UInt8)(a2:Int)(a3:Int)(a4:Int)(a5:Int)(a6:Int)(a7:List Z4):List (Nat×Tv.Obj):=[(0,.box [.st a1,.i64 a2,.nils,.u32 a3,.u32 a4,.nils,.nils,.mp 1,.i64 a5,.i64 a6]),(1,.mpo .str (.int .u32) a7)]
abbrev ob3(a1:Int)(a2:Int)(a3:Int)(a4:Int):List (Nat×Tv.Obj):=[(0,.box [.nils,.u32 a1,.u32 a2,.nils,.nils]),(1,.box [.i64 a3,.i64 a4])]
abbrev bS(a1:List UInt8)(a2:Int)(a3:Int)(a4:Int)(a5:Int)(a6:Int)(a7:List (List UInt8))(a8:List Int)(a9:List Z6)(a10:List Z4):List (Nat×Tv.Obj):=[(0,.box [.st a1,.i64 a2,.sl 1,.u32 a3,.u32 a4,.sl 2,.sl 3,.mp 4,.i64 a5,.i64 a6]),(1,.arr 9 .str a7),(2,.arr 3 (.int .i64) a8),(3,.arr 185 (.prod (.int .u8) Y8) a9),(4,.mpo .str (.int .u32) a10)]
abbrev aC4(a1:List UInt8)(a2:Int)(a3:Int)(a4:Int)(a5:Int)(a6:Int)(a7:List Z6)(a8:List Z4)(a9:List (List UInt8))(a10:List Int):List (Nat×Tv.Obj):=[(0,.box [.st a1,.i64 a2,.sl 5,.u32 a3,.u32 a4,.sl 6,.sl 3,.mp 4,.i64 a5,.i64 a6]),(3,.arr 185 (.prod (.int .u8) Y8) a7),(4,.mpo .str (.int .u32) a8),(5,.arr 9 .str a9),(6,.arr 3 (.int .i64) a10)]
abbrev aF3(a1:List UInt8)(a2:Int)(a3:Int)(a4:Int)(a5:Int)(a6:Int)(a7:List (List UInt8))(a8:List Int)(a9:List Z6)(a10:List Z4)(a11:Int)(a12:Int)(a13:Int)(a14:Int):List (Nat×Tv.Obj):=[(0,.box [.st a1,.i64 a2,.sl 1,.u32 a3,.u32 a4,.sl 2,.sl 3,.mp 4,.i64 a5,.i64 a6]),(1,.arr 9 .str a7),(2,.arr 3 (.int .i64) a8),(3,.arr 185 (.prod (.int .u8) Y8) a9),(4,.mpo .str (.int .u32) a10),(5,.box [.u8 a11,.u32 a12,.nils]),(6,.box [.u8 a13,.u32 a14,.nils])]
abbrev aEk(a1:List UInt8)(a2:Int)(a3:Int)(a4:Int)(a5:Int)(a6:Int)(a7:List (List UInt8))(a8:List Int)(a9:List Z6)(a10:List Z4)(a11:Int)(a12:Int):List (Nat×Tv.Obj):=[(0,.box [.st a1,.i64 a2,.sl 1,.u32 a3,.u32 a4,.sl 2,.sl 3,.mp 4,.i64 a5,.i64 a6]),(1,.arr 9 .str a7),(2,.arr 3 (.int .i64) a8),(3,.arr 185 (.prod (.int .u8) Y8) a9),(4,.mpo .str (.int .u32) a10),(5,.box [.u8 a11,.u32 a12,.nils])]
abbrev aDS(a1:List UInt8)(a2:Int)(a3:Int)(a4:Int)(a5:Int)(a6:Int)(a7:List (List UInt8))(a8:List Int)(a9:List Z6)(a10:List Z4)(a11:Int)(a12:Int)(a13:Int)(a14:Int)(a15:List Tree):List (Nat×Tv.Obj):=[(0,.box [.st a1,.i64 a2,.sl 1,.u32 a3,.u32 a4,.sl 2,.sl 3,.mp 4,.i64 a5,.i64 a6]),(1,.arr 9 .str a7),(2,.arr 3 (.int .i64) a8),(3,.arr 185 (.prod (.int .u8) Y8) a9),(4,.mpo .str (.int .u32) a10),(5,.box [.u8 a11,.u32 a12,.nils]),(6,.box [.u8 a13,.u32 a14,.p false (.slice (.tree .u8 .u32)) a15])]
abbrev V7(a1:List UInt8)(a2:Int)(a3:Int)(a4:Int)(a5:Int)(a6:Int)(a7:List (List UInt8))(a8:List Int)(a9:List Z6)(a10:List Z4)(a11:Int)(a12:Int)(a13:List Tree):List (Nat×Tv.Obj):=[(0,.box [.st a1,.i64 a2,.sl 1,.u32 a3,.u32 a4,.sl 2,.sl 3,.mp 4,.i64 a5,.i64 a6]),(1,.arr 9 .str a7),(2,.arr 3 (.int .i64) a8),(3,.arr 185 (.prod (.int .u8) Y8) a9),(4,.mpo .str (.int .u32) a10),(5,.box [.u8 a11,.u32 a12,.p false (.slice (.tree .u8 .u32)) a13])]
abbrev aB5(a1:List UInt8)(a2:Int)(a3:Int)(a4:Int)(a5:Int)(a6:Int)(a7:List (List UInt8))(a8:List Int)(a9:List Z6)(a10:List Z4)(a11:Int)(a12:Int)(a13:List Tree):List (Nat×Tv.Obj):=[(0,.box [.st a1,.i64 a2,.sl 1,.u32 a3,.u32 a4,.sl 2,.sl 3,.mp 4,.i64 a5,.i64 a6]),(1,.arr 9 .str a7),(2,.arr 3 (.int .i64) a8),(3,.arr 185 (.prod (.int .u8) Y8) a9),(4,.mpo .str (.int .u32) a10),(5,.box [.u8 a11,.u32 a12,.nils]),(6,.arr 183 (.tree .u8 .u32) a13)]
abbrev aER(a1:List UInt8)(a2:Int)(a3:Int)(a4:Int)(a5:Int)(a6:Int)(a7:List (List UInt8))(a8:List Int)(a9:List Z4)(a10:List Z6):List (Nat×Tv.Obj):=[(0,.box [.st a1,.i64 a2,.sl 1,.u32 a3,.u32 a4,.sl 2,.sl 5,.mp 4,.i64 a5,.i64 a6]),(1,.arr 9 .str a7),(2,.arr 3 (.int .i64) a8),(4,.mpo .str (.int .u32) a9),(5,.arr 185 (.prod (.int .u8) Y8) a10)]
abbrev aGv(a1:List UInt8)(a2:Int)(a3:Int)(a4:Int)(a5:Int)(a6:Int)(a7:List Z4)(a8:List (List UInt8))(a9:List Int)(a10:List Z6)(a11:List Z4):List (Nat×Tv.Obj):=[(0,.box [.st a1,.i64 a2,.sl 2,.u32 a3,.u32 a4,.sl 3,.sl 4,.mp 1,.i64 a5,.i64 a6]),(1,.mpo .str (.int .u32) a7),(2,.arr 9 .str a8),(3,.arr 3 (.int .i64) a9),(4,.arr 185 (.prod (.int .u8) Y8) a10),(5,.mpl .str [(([99,108,97,115,115]:List UInt8),(C3 119)),(([115,101,116]:List UInt8),(C3 120)),(([106,111,105,110]:List UInt8),(C3 121)),(([116,114,101,97,116]:List UInt8),(C3 122))]),(6,.mpo .str (.int .u8) a11)]
abbrev aDz(a1:List UInt8)(a2:Int)(a3:Int)(a4:Int)(a5:Int)(a6:Int)(a7:List Z4)(a8:List (List UInt8))(a9:List Int)(a10:List Z6):List (Nat×Tv.Obj):=[(0,.box [.st a1,.i64 a2,.sl 2,.u32 a3,.u32 a4,.sl 3,.sl 4,.mp 1,.i64 a5,.i64 a6]),(1,.mpo .str (.int .u32) a7),(2,.arr 9 .str a8),(3,.arr 3 (.int .i64) a9),(4,.arr 185 (.prod (.int .u8) Y8) a10)]
abbrev aFW(a1:Int)(a2:Int)(a3:Bool)(a4:List Tree)(a5:Int)(a6:Int)(a7:Int)(a8:Int)(a9:List Tree)(a10:Int)(a11:Int)(a12:Bool)(a13:List Tree):List (Nat×Tv.Obj):=[(0,.box [.u8 a1,.u32 a2,.p a3 (.slice (.tree .u8 .u32)) a4]),(1,.box [.u8 a5,.u32 a6,.nils]),(2,.box [.u8 a7,.u32 a8,.sl 3]),(3,.arr 183 (.tree .u8 .u32) a9),(4,.box [.u8 a10,.u32 a11,.p a12 (.slice (.tree .u8 .u32)) a13])]
abbrev aGk(a1:Int)(a2:Int)(a3:Bool)(a4:List Tree)(a5:Int)(a6:Int)(a7:Int)(a8:Int)(a9:List Tree):List (Nat×Tv.Obj):=[(0,.box [.u8 a1,.u32 a2,.p a3 (.slice (.tree .u8 .u32)) a4]),(1,.box [.u8 a5,.u32 a6,.nils]),(2,.box [.u8 a7,.u32 a8,.sl 3]),(3,.arr 183 (.tree .u8 .u32) a9)]
abbrev aGG(a1:Int)(a2:Int)(a3:Int)(a4:Int)(a5:List Tree):List (Nat×Tv.Obj):=[(0,.box [.u8 a1,.u32 a2,.nils]),(1,.box [.u8 a3,.u32 a4,.sl 2]),(2,.arr 183 (.tree .u8 .u32) a5)]
abbrev aDE(a1:Bool)(a2:Int)(a3:Int)(a4:Int)(a5:Int)(a6:Int)(a7:Int)(a8:Int)(a9:Int):List (Nat×Tv.Obj):=[(0,.box [.bo a1,.u64 a2,.u64 a3,.u64 a4,.u64 a5,.u64 a6,.u64 a7,.u64 a8,.u64 a9])]
abbrev aEY(a1:Int)(a2:Int)(a3:Int)(a4:Int)(a5:Int)(a6:Int)(a7:Int)(a8:Int):List (Nat×Tv.Obj):=[(0,.box [.u64 a1,.u64 a2,.u64 a3,.u64 a4]),(1,.box [.u64 a5,.u64 a6,.u64 a7,.u64 a8])]
abbrev W6(a1:Bool)(a2:List Int)(a3:List Z2):List (Nat×Tv.Obj):=[(0,.box [.sl 1,.sl 2,.bo a1]),(1,.arr 40 (.int .u32) a2),(2,.arr 264 kX a3)]
abbrev aGM(a1:Int)(a2:Int)(a3:Int)(a4:Int)(a5:Int)(a6:Int)(a7:Int)(a8:Int)(a9:Int)(a10:Int)(a11:Int)(a12:Int):List (Nat×Tv.Obj):=[(0,.box [.u64 a1,.u64 a2,.u64 a3,.u64 a4]),(1,.box [.u64 a5,.u64 a6,.u64 a7,.u64 a8]),(2,.box [.u64 a9,.u64 a10,.u64 a11,.u64 a12])]
abbrev aFk(a1:Bool)(a2:List Int)(a3:List Z2)(a4:Int)(a5:Int)(a6:Int)(a7:Int)(a8:Int)(a9:Int)(a10:Int)(a11:Int):List (Nat×Tv.Obj):=[(0,.box [.sl 1,.sl 2,.bo a1]),(1,.arr 40 (.int .u32) a2),(2,.arr 264 kX a3),(3,.box [.u64 a4,.u64 a5,.u64 a6,.u64 a7]),(4,.box [.u64 a8,.u64 a9,.u64 a10,.u64 a11])]
abbrev aGE(a1:Bool)(a2:List Int)(a3:List Z2)(a4:Int)(a5:Int)(a6:Bool)(a7:List Tree)(a8:Bool)(a9:Int)(a10:Int)(a11:Int)(a12:Int)(a13:Int)(a14:Int)(a15:Int)(a16:Int):List (Nat×Tv.Obj):=[(0,.box [.sl 1,.sl 2,.bo a1]),(1,.arr 40 (.int .u32) a2),(2,.arr 264 kX a3),(3,.box [.u8 a4,.u32 a5,.p a6 (.slice (.tree .u8 .u32)) a7]),(4,.box [.bo a8,.u64 a9,.u64 a10,.u64 a11,.u64 a12,.u64 a13,.u64 a14,.u64 a15,.u64 a16])]
abbrev aDu(a1:Bool)(a2:List Int)(a3:List Z2):List (Nat×Tv.Obj):=[(0,.box [.sl 3,.sl 4,.bo a1]),(3,.arr 40 (.int .u32) a2),(4,.arr 264 kX a3)]
abbrev aFD(a1:Bool)(a2:List Int)(a3:List Z2)(a4:Bool)(a5:Int)(a6:Int)(a7:Int)(a8:Int)(a9:Int)(a10:Int)(a11:Int)(a12:Int)(a13:Bool)(a14:Int)(a15:Int)(a16:Int)(a17:Int)(a18:Int)(a19:Int)(a20:Int)(a21:Int)(a22:Bool)(a23:Int)(a24:Int)(a25:Int)(a26:Int)(a27:Int)(a28:Int)(a29:Int)(a30:Int):List (Nat×Tv.Obj):=[(0,.box [.sl 3,.sl 4,.bo a1]),(3,.arr 40 (.int .u32) a2),(4,.arr 264 kX a3),(5,.box [.bo a4,.u64 a5,.u64 a6,.u64 a7,.u64 a8,.u64 a9,.u64 a10,.u64 a11,.u64 a12]),(6,.box [.bo a13,.u64 a14,.u64 a15,.u64 a16,.u64 a17,.u64 a18,.u64 a19,.u64 a20,.u64 a21]),(7,.box [.bo a22,.u64 a23,.u64 a24,.u64 a25,.u64 a26,.u64 a27,.u64 a28,.u64 a29,.u64 a30])]
abbrev aCy(a1:Bool)(a2:List Int)(a3:List Z2)(a4:Bool)(a5:Int)(a6:Int)(a7:Int)(a8:Int)(a9:Int)(a10:Int)(a11:Int)(a12:Int)(a13:Bool)(a14:Int)(a15:Int)(a16:Int)(a17:Int)(a18:Int)(a19:Int)(a20:Int)(a21:Int):List (Nat×Tv.Obj):=[(0,.box [.sl 3,.sl 4,.bo a1]),(3,.arr 40 (.int .u32) a2),(4,.arr 264 kX a3),(5,.box [.bo a4,.u64 a5,.u64 a6,.u64 a7,.u64 a8,.u64 a9,.u64 a10,.u64 a11,.u64 a12]),(6,.box [.bo a13,.u64 a14,.u64 a15,.u64 a16,.u64 a17,.u64 a18,.u64 a19,.u64 a20,.u64 a21])]
abbrev aDG(a1:Bool)(a2:Bool)(a3:Int)(a4:Int)(a5:Int)(a6:Int)(a7:Int)(a8:Int)(a9:Int)(a10:Int)(a11:Bool)(a12:Int)(a13:Int)(a14:Int)(a15:Int)(a16:Int)(a17:Int)(a18:Int)(a19:Int)(a20:List Int)(a21:List Z2):List (Nat×Tv.Obj):=[(0,.box [.sl 5,.sl 6,.bo a1]),(3,.box [.bo a2,.u64 a3,.u64 a4,.u64 a5,.u64 a6,.u64 a7,.u64 a8,.u64 a9,.u64 a10]),(4,.box [.bo a11,.u64 a12,.u64 a13,.u64 a14,.u64 a15,.u64 a16,.u64 a17,.u64 a18,.u64 a19]),(5,.arr 40 (.int .u32) a20),(6,.arr 264 kX a21)]
abbrev aGL(a1:Bool)(a2:Int)(a3:Int)(a4:Bool)(a5:List Tree)(a6:Bool)(a7:Int)(a8:Int)(a9:Int)(a10:Int)(a11:Int)(a12:Int)(a13:Int)(a14:Int)(a15:Bool)(a16:Int)(a17:Int)(a18:Int)(a19:Int)(a20:Int)(a21:Int)(a22:Int)(a23:Int)(a24:List Int)(a25:List Z2):List (Nat×Tv.Obj):=[(0,.box [.sl 6,.sl 7,.bo a1]),(3,.box [.u8 a2,.u32 a3,.p a4 (.slice (.tree .u8 .u32)) a5]),(4,.box [.bo a6,.u64 a7,.u64 a8,.u64 a9,.u64 a10,.u64 a11,.u64 a12,.u64 a13,.u64 a14]),(5,.box [.bo a15,.u64 a16,.u64 a17,.u64 a18,.u64 a19,.u64 a20,.u64 a21,.u64 a22,.u64 a23]),(6,.arr 40 (.int .u32) a24),(7,.arr 264 kX a25)]
abbrev aFO(a1:Bool)(a2:List Int)(a3:List Z2)(a4:Int)(a5:Int)(a6:Bool)(a7:List Tree)(a8:Bool)(a9:Int)(a10:Int)(a11:Int)(a12:Int)(a13:Int)(a14:Int)(a15:Int)(a16:Int)(a17:Bool)(a18:Int)(a19:Int)(a20:Int)(a21:Int)(a22:Int)(a23:Int)(a24:Int)(a25:Int):List (Nat×Tv.Obj):=[(0,.box [.sl 3,.sl 4,.bo a1]),(3,.arr 40 (.int .u32) a2),(4,.arr 264 kX a3),(5,.box [.u8 a4,.u32 a5,.p a6 (.slice (.tree .u8 .u32)) a7]),(6,.box [.bo a8,.u64 a9,.u64 a10,.u64 a11,.u64 a12,.u64 a13,.u64 a14,.u64 a15,.u64 a16]),(7,.box [.bo a17,.u64 a18,.u64 a19,.u64 a20,.u64 a21,.u64 a22,.u64 a23,.u64 a24,.u64 a25])]
abbrev aAD(a1:Bool)(a2:List Int)(a3:List Z2)(a4:Bool)(a5:Int)(a6:Int)(a7:Int)(a8:Int)(a9:Int)(a10:Int)(a11:Int)(a12:Int):List (Nat×Tv.Obj):=[(0,.box [.sl 3,.sl 4,.bo a1]),(3,.arr 40 (.int .u32) a2),(4,.arr 264 kX a3),(5,.box [.bo a4,.u64 a5,.u64 a6,.u64 a7,.u64 a8,.u64 a9,.u64 a10,.u64 a11,.u64 a12])]
abbrev aAY(a1:Bool)(a2:List Int)(a3:List Z2)(a4:List Z9)(a5:Int)(a6:Int)(a7:Int)(a8:Int)(a9:List (List Int))(a10:List Int)(a11:List Z2)(a12:List (Z2×Int))(a13:Int)(a14:Int)(a15:Int)(a16:Int)(a17:Int)(a18:Int)(a19:Int)(a20:Int):List (Nat×Tv.Obj):=[(0,.box [.nils,.nils]),(1,.box [.sl 2,.sl 3,.bo a1]),(2,.arr 40 (.int .u32) a2),(3,.arr 264 kX a3),(4,.arr 266 G1 a4),(5,.box [.u64 a5,.u64 a6,.u64 a7,.u64 a8]),(6,.box [.sl 7,.sl 8]),(7,.arr 41 (.slice (.int .i64)) a9),(8,.arr 40 (.int .u32) a10),(9,.arr 264 kX a11),(10,.mpo kX (.int .i64) a12),(11,.box [.u64 a13,.u64 a14,.u64 a15,.u64 a16]),(12,.box [.u64 a17,.u64 a18,.u64 a19,.u64 a20])]
abbrev aCS(a1:Bool)(a2:List Int)(a3:List Z2)(a4:List Z9)(a5:Int)(a6:Int)(a7:Int)(a8:Int)(a9:List (List Int))(a10:List Int)(a11:List Z2)(a12:List (Z2×Int))(a13:Int)(a14:Int)(a15:Int)(a16:Int)(a17:List Int)(a18:Int)(a19:Int)(a20:Int)(a21:Int):List (Nat×Tv.Obj):=[(0,.box [.nils,.nils]),(1,.box [.sl 2,.sl 3,.bo a1]),(2,.arr 40 (.int .u32) a2),(3,.arr 264 kX a3),(4,.arr 266 G1 a4),(5,.box [.u64 a5,.u64 a6,.u64 a7,.u64 a8]),(6,.box [.sl 7,.sl 8]),(7,.arr 41 (.slice (.int .i64)) a9),(8,.arr 40 (.int .u32) a10),(9,.arr 264 kX a11),(10,.mpo kX (.int .i64) a12),(11,.box [.u64 a13,.u64 a14,.u64 a15,.u64 a16]),(12,.arr 3 (.int .i64) a17),(13,.box [.u64 a18,.u64 a19,.u64 a20,.u64 a21])]
abbrev aFl(a1:Bool)(a2:List Int)(a3:List Z2)(a4:List Z9)(a5:Int)(a6:Int)(a7:Int)(a8:Int)(a9:List (List Int))(a10:List Int)(a11:List Z2)(a12:List (Z2×Int))(a13:Int)(a14:Int)(a15:Int)(a16:Int)(a17:List Int):List (Nat×Tv.Obj):=[(0,.box [.nils,.nils]),(1,.box [.sl 2,.sl 3,.bo a1]),(2,.arr 40 (.int .u32) a2),(3,.arr 264 kX a3),(4,.arr 266 G1 a4),(5,.box [.u64 a5,.u64 a6,.u64 a7,.u64 a8]),(6,.box [.sl 7,.sl 8]),(7,.arr 41 (.slice (.int .i64)) a9),(8,.arr 40 (.int .u32) a10),(9,.arr 264 kX a11),(10,.mpo kX (.int .i64) a12),(11,.box [.u64 a13,.u64 a14,.u64 a15,.u64 a16]),(12,.arr 3 (.int .i64) a17)]
abbrev aGK(a1:Bool)(a2:List Int)(a3:List Z2)(a4:List Z9)(a5:Int)(a6:Int)(a7:Int)(a8:Int)(a9:List (List Int))(a10:List Int)(a11:List Z2)(a12:List (Z2×Int))(a13:List Int):List (Nat×Tv.Obj):=[(0,.box [.nils,.nils]),(1,.box [.sl 2,.sl 3,.bo a1]),(2,.arr 40 (.int .u32) a2),(3,.arr 264 kX a3),(4,.arr 266 G1 a4),(5,.box [.u64 a5,.u64 a6,.u64 a7,.u64 a8]),(6,.box [.sl 7,.sl 8]),(7,.arr 41 (.slice (.int .i64)) a9),(8,.arr 40 (.int .u32) a10),(9,.arr 264 kX a11),(10,.mpo kX (.int .i64) a12),(11,.arr 3 (.int .i64) a13)]
abbrev aFY(a1:Bool)(a2:List Int)(a3:List Z2)(a4:List Z9)(a5:Int)(a6:Int)(a7:Int)(a8:Int)(a9:List (List Int))(a10:List Int)(a11:List Z2)(a12:List (Z2×Int))(a13:Int)(a14:Int)(a15:Int)(a16:Int):List (Nat×Tv.Obj):=[(0,.box [.nils,.nils]),(1,.box [.sl 2,.sl 3,.bo a1]),(2,.arr 40 (.int .u32) a2),(3,.arr 264 kX a3),(4,.arr 266 G1 a4),(5,.box [.u64 a5,.u64 a6,.u64 a7,.u64 a8]),(6,.box [.sl 7,.sl 8]),(7,.arr 41 (.slice (.int .i64)) a9),(8,.arr 40 (.int .u32) a10),(9,.arr 264 kX a11),(10,.mpo kX (.int .i64) a12),(11,.box [.u64 a13,.u64 a14,.u64 a15,.u64 a16])]
abbrev aGI(a1:Bool)(a2:List Int)(a3:List Z2)(a4:List Z9)(a5:Int)(a6:Int)(a7:Int)(a8:Int)(a9:List (List Int))(a10:List Int)(a11:List Z2)(a12:List (Z2×Int)):List (Nat×Tv.Obj):=[(0,.box [.nils,.nils]),(1,.box [.sl 2,.sl 3,.bo a1]),(2,.arr 40 (.int .u32) a2),(3,.arr 264 kX a3),(4,.arr 266 G1 a4),(5,.box [.u64 a5,.u64 a6,.u64 a7,.u64 a8]),(6,.box [.sl 7,.sl 8]),(7,.arr 41 (.slice (.int .i64)) a9),(8,.arr 40 (.int .u32) a10),(9,.arr 264 kX a11),(10,.mpo kX (.int .i64) a12)]
abbrev aEW(a1:List (List Int))(a2:List Int):List (Nat×Tv.Obj):=[(0,.box [.nils,.nils]),(1,.box [.sl 2,.sl 3]),(2,.arr 41 (.slice (.int .i64)) a1),(3,.arr 40 (.int .u32) a2)]
abbrev aEq(a1:Bool)(a2:List Int)(a3:List Z2)(a4:List Z9)(a5:Int)(a6:Int)(a7:Int)(a8:Int):List (Nat×Tv.Obj):=[(0,.box [.nils,.nils]),(1,.box [.sl 2,.sl 3,.bo a1]),(2,.arr 40 (.int .u32) a2),(3,.arr 264 kX a3),(4,.arr 266 G1 a4),(5,.box [.u64 a5,.u64 a6,.u64 a7,.u64 a8])]
abbrev aEE(a1:Bool)(a2:List Int)(a3:List Z2)(a4:List Z9):List (Nat×Tv.Obj):=[(0,.box [.nils,.nils]),(1,.box [.sl 2,.sl 3,.bo a1]),(2,.arr 40 (.int .u32) a2),(3,.arr 264 kX a3),(4,.arr 266 G1 a4)]
abbrev aBp(a1:Bool)(a2:List (List Int))(a3:Bool)(a4:List Int):List (Nat×Tv.Obj):=[(0,.box [.p a1 (.slice (.slice (.int .i64))) a2,.p a3 (.slice (.int .u32)) a4])]
abbrev aCu(a1:List Z4)(a2:List Int)(a3:List Int):List (Nat×Tv.Obj):=[(0,.mpo .str (.int .i64) a1),(1,.arr 3 (.int .i64) a2),(2,.arr 3 (.int .i64) a3)]
abbrev aCM(a1:List Z4)(a2:List Int)(a3:List Int)(a4:List Int):List (Nat×Tv.Obj):=[(0,.mpo .str (.int .i64) a1),(1,.arr 3 (.int .i64) a2),(2,.arr 3 (.int .i64) a3),(3,.arr 5 (.int .u8) a4)]
abbrev aGH(a1:Bool)(a2:List (List Int))(a3:Bool)(a4:List Int)(a5:List (List Int))(a6:List Int)(a7:List Int)(a8:List Int):List (Nat×Tv.Obj):=[(0,.box [.p a1 (.slice (.slice (.int .i64))) a2,.p a3 (.slice (.int .u32)) a4]),(1,.box [.nils,.nils]),(2,.box [.sl 3,.sl 4]),(3,.arr 41 (.slice (.int .i64)) a5),(4,.arr 40 (.int .u32) a6),(5,.arr 3 (.int .i64) a7),(6,.arr 3 (.int .i64) a8)]
abbrev aDw(a1:Bool)(a2:List (List Int))(a3:Bool)(a4:List Int)(a5:List (List Int))(a6:List Int)(a7:List Int)(a8:List Int)(a9:List Int):List (Nat×Tv.Obj):=[(0,.box [.p a1 (.slice (.slice (.int .i64))) a2,.p a3 (.slice (.int .u32)) a4]),(1,.box [.nils,.nils]),(2,.box [.sl 3,.sl 4]),(3,.arr 41 (.slice (.int .i64)) a5),(4,.arr 40 (.int .u32) a6),(5,.arr 3 (.int .i64) a7),(6,.arr 3 (.int .i64) a8),(7,.arr 3 (.int .i64) a9)]
abbrev aEF(a1:Bool)(a2:List (List Int))(a3:Bool)(a4:List Int)(a5:List Int):List (Nat×Tv.Obj):=[(0,.box [.p a1 (.slice (.slice (.int .i64))) a2,.p a3 (.slice (.int .u32)) a4]),(1,.box [.nils,.nils]),(2,.box [.nils,.nils]),(3,.arr 3 (.int .i64) a5)]
abbrev aE5(a1:Bool)(a2:List (List Int))(a3:Bool)(a4:List Int)(a5:List Int):List (Nat×Tv.Obj):=[(0,.box [.p a1 (.slice (.slice (.int .i64))) a2,.p a3 (.slice (.int .u32)) a4]),(1,.box [.nils,.nils]),(2,.box [.p false (.slice (.int .i64)) a5])]
abbrev aE4(a1:List (List UInt8))(a2:Int)(a3:Int)(a4:List Int)(a5:List Z6)(a6:List Tree)(a7:List Tree):List (Nat×Tv.Obj):=[(0,.box [.p false (.slice .str) a1,.u32 a2,.u32 a3,.p false (.slice (.int .i64)) a4,.p false (.slice (.prod (.int .u8) Y8)) a5]),(1,.arr 183 (.tree .u8 .u32) a6),(2,.arr 183 (.tree .u8 .u32) a7)]
abbrev L9(a1:Arr 4352)(a2:List (Arr 256))(a3:List ((Arr 256)×Int))(a4:Arr 256):List (Nat×Tv.Obj):=[(0,.lmp .i64 4352 a1 [.sl 1]),(1,.arr 155 (.arr .u8 256) a2),(2,.mpo (.arr .u8 256) (.int .i64) a3),(3,.lmp .u8 256 a4 [])]
abbrev aEc(a1:Arr 4352)(a2:List (Arr 256))(a3:List ((Arr 256)×Int)):List (Nat×Tv.Obj):=[(0,.lmp .i64 4352 a1 [.sl 1]),(1,.arr 155 (.arr .u8 256) a2),(2,.mpo (.arr .u8 256) (.int .i64) a3)]
abbrev aGF(a1:Arr 4352)(a2:List (Arr 256)):List (Nat×Tv.Obj):=[(0,.lmp .i64 4352 a1 [.sl 1]),(1,.arr 155 (.arr .u8 256) a2)]
abbrev aCF(a1:Int)(a2:Int)(a3:Int)(a4:Int)(a5:Int)(a6:Int):List (Nat×Tv.Obj):=[(0,.box [.i32 a1,.i64 a2,.i64 a3]),(1,.box [.i32 a4,.i64 a5,.i64 a6])]
abbrev aCB(a1:List Int)(a2:List Int):List (Nat×Tv.Obj):=[(0,.box [.nils,.nils]),(1,.box [.sl 2,.sl 3]),(2,.arr 21 (.int .i32) a1),(3,.arr 5 (.int .u8) a2)]
abbrev aFC(a1:List Int)(a2:List Int)(a3:Int)(a4:Int)(a5:Int):List (Nat×Tv.Obj):=[(0,.box [.nils,.nils]),(1,.box [.sl 2,.sl 3]),(2,.arr 21 (.int .i32) a1),(3,.arr 5 (.int .u8) a2),(4,.box [.i32 a3,.i64 a4,.i64 a5])]
abbrev aFZ(a1:List Int)(a2:List Int):List (Nat×Tv.Obj):=[(0,.box [.sl 1,.sl 2]),(1,.arr 21 (.int .i32) a1),(2,.arr 5 (.int .u8) a2)]
abbrev aAO(a1:Int)(a2:Int)(a3:List Z8)(a4:List Z8):List (Nat×Tv.Obj):=[(0,.box [.nils,.nils]),(1,.box [.i64 a1,.i64 a2]),(2,.box [.sl 3,.sl 4]),(3,.arr 210 wT a3),(4,.arr 210 wT a4)]
abbrev aCh(a1:List Int)(a2:List Int)(a3:List Int):List (Nat×Tv.Obj):=[(0,.arr 91 (.int .u8) a1),(1,.arr 3 (.int .i64) a2),(2,.arr 3 (.int .i64) a3)]
abbrev aFg(a1:Bool)(a2:List (List Int))(a3:Bool)(a4:List Int)(a5:List Int):List (Nat×Tv.Obj):=[(0,.box [.p a1 (.slice (.slice (.int .i64))) a2,.p a3 (.slice (.int .u32)) a4]),(1,.arr 3 (.int .i64) a5)]
abbrev aFc(a1:Bool)(a2:List Int)(a3:List Bool):List (Nat×Tv.Obj):=[(0,.box [.p a1 (.slice (.int .i32)) a2]),(1,.arr 4 .bool a3)]
abbrev aDQ(a1:List Z2)(a2:List Int)(a3:Int)(a4:Int)(a5:Int):List (Nat×Tv.Obj):=[(0,.arr 90 gA a1),(1,.arr 3 (.int .i64) a2),(2,.box [.i32 a3,.i64 a4,.i64 a5])]
abbrev aBC(a1:List Z2)(a2:List Int):List (Nat×Tv.Obj):=[(0,.box [.nils,.nils]),(1,.box [.p false (.slice gA) a1,.sl 2]),(2,.arr 91 (.int .u8) a2)]
abbrev aEJ(a1:Bool)(a2:List Z2)(a3:Bool)(a4:List Int):List (Nat×Tv.Obj):=[(0,.box [.p a1 (.slice gA) a2,.p a3 (.slice (.int .u8)) a4])]
abbrev N9(a1:Bool)(a2:List Z2)(a3:Bool)(a4:List Int)(a5:Int)(a6:Int)(a7:Int)(a8:Int)(a9:Int)(a10:Option Nat)(a11:Int)(a12:Int)(a13:Int)(a14:Int):List (Nat×Tv.Obj):=[(0,.box [.p a1 (.slice gA) a2,.p a3 (.slice (.int .u8)) a4]),(1,.box [.i64 a5,.i64 a6,.u8 a7,.i64 a8,.i64 a9,.p false .flt a10]),(2,.box [.i64 a11,.i64 a12,.i64 a13,.u8 a14])]
abbrev aGs(a1:Bool)(a2:List Z2)(a3:Bool)(a4:List Int)(a5:List Int):List (Nat×Tv.Obj):=[(0,.box [.p a1 (.slice gA) a2,.p a3 (.slice (.int .u8)) a4]),(1,.arr 3 (.int .i64) a5)]
abbrev aDT(a1:Bool)(a2:List Z2)(a3:Bool)(a4:List Int)(a5:Int)(a6:Int)(a7:Int)(a8:Int)(a9:Int)(a10:Option Nat)(a11:List Z2):List (Nat×Tv.Obj):=[(0,.box [.p a1 (.slice gA) a2,.p a3 (.slice (.int .u8)) a4]),(1,.box [.i64 a5,.i64 a6,.u8 a7,.i64 a8,.i64 a9,.p false .flt a10]),(2,.arr 197 gA a11)]
abbrev aGx(a1:Bool)(a2:List Z2)(a3:Bool)(a4:List Int)(a5:Int)(a6:Int)(a7:Int)(a8:Int)(a9:Int)(a10:Option Nat):List (Nat×Tv.Obj):=[(0,.box [.p a1 (.slice gA) a2,.p a3 (.slice (.int .u8)) a4]),(1,.box [.i64 a5,.i64 a6,.u8 a7,.i64 a8,.i64 a9,.p false .flt a10])]
abbrev aGh(a1:Bool)(a2:List Z2)(a3:Bool)(a4:List Int)(a5:List Z2):List (Nat×Tv.Obj):=[(0,.box [.p a1 (.slice gA) a2,.p a3 (.slice (.int .u8)) a4]),(1,.arr 93 gA a5)]
abbrev aGy(a1:List Z2)(a2:List Int):List (Nat×Tv.Obj):=[(0,.box [.p false (.slice gA) a1,.p false (.slice (.int .u8)) a2])]
abbrev aGB(a1:Int)(a2:Int)(a3:List Z2)(a4:List Int):List (Nat×Tv.Obj):=[(0,.box [.i64 a1,.i64 a2]),(1,.box [.p false (.slice gA) a3,.p false (.slice (.int .u8)) a4])]
def tb:Tab:=[
 (3,⟨some (.int .i64),(.int .i64),1,8,[.i64 (0:Int)]⟩),
 (4,⟨some .bool,.bool,1,1,[.bo false]⟩),
 (5,⟨some (.int .u8),(.int .u8),1,1,[.u8 (0:Int)]⟩),
 (9,⟨some .str,.str,1,16,[.st ([]:List UInt8)]⟩),
 (20,⟨none,.other,1,16,[.lit .nilIface]⟩),
 (21,⟨some (.int .i32),(.int .i32),1,4,[.i32 (0:Int)]⟩),
 (22,⟨some (.slice (.int .u8)),(.sl 5),1,24,[.nils]⟩),
 (29,⟨some (.ptr D9),.other,1,8,[.nilp]⟩),
 (30,⟨some (.int .i64),(.int .i64),1,8,[.i64 (0:Int)]⟩),
 (32,⟨some Y2,(.st [(0,30),(1,3)]),2,16,[.i64 (0:Int),.i64 (0:Int)]⟩),
 (35,⟨some (.slice (.prod (.int .i32) Y1)),(.sl 115),1,24,[.nils]⟩),
 (37,⟨some Y7,(.st [(0,35),(1,35),(2,35),(3,35),(4,9),(5,9),(6,9),(7,3),(8,3)]),9,160,[.nils,.nils,.nils,.nils,.st ([]:List UInt8),.st ([]:List UInt8),.st ([]:List UInt8),.i64 (0:Int),.i64 (0:Int)]⟩),
 (39,⟨some (.slice .str),(.sl 9),1,24,[.nils]⟩),
 (40,⟨some (.int .u32),(.int .u32),1,4,[.u32 (0:Int)]⟩),
 (41,⟨some (.slice (.int .i64)),(.sl 3),1,24,[.nils]⟩),
 (42,⟨some (.slice (.prod (.int .u8) Y8)),(.sl 185),1,24,[.nils]⟩),
 (44,⟨some Y11,(.st [(0,39),(1,40),(2,40),(3,41),(4,42)]),5,80,[.nils,.u32 (0:Int),.u32 (0:Int),.nils,.nils]⟩),
 (45,⟨some (.slice wT),(.sl 210),1,24,[.nils]⟩),
 (47,⟨some Y26,(.st [(0,45),(1,45)]),2,48,[.nils,.nils]⟩),
 (56,⟨some (.slice gA),(.sl 90),1,24,[.nils]⟩),
 (57,⟨some (.slice (.int .u8)),(.sl 91),1,24,[.nils]⟩),
 (59,⟨some Y30,(.st [(0,56),(1,57)]),2,48,[.nils,.nils]⟩),
 (70,⟨some (.int .u8),(.int .u8),1,1,[.u8 (0:Int)]⟩),
 (72,⟨some Y33,(.st [(0,3),(1,3),(2,70),(3,3),(4,3),(5,67)]),6,48,[.i64 (0:Int),.i64 (0:Int),.u8 (0:Int),.i64 (0:Int),.i64 (0:Int),.p false .flt (dS 0)]⟩),
 (75,⟨some (.slice gA),(.sl 93),1,24,[.nils]⟩),
 (77,⟨some Y29,(.st [(0,75),(1,4)]),2,32,[.nils,.bo false]⟩),
 (88,⟨some (.int .u8),(.int .u8),1,1,[.u8 (0:Int)]⟩),
 (90,⟨some gA,(.st [(0,3),(1,3),(2,3),(3,88)]),4,32,[.i64 (0:Int),.i64 (0:Int),.i64 (0:Int),.u8 (0:Int)]⟩),
 (91,⟨some (.int .u8),(.int .u8),1,1,[.u8 (0:Int)]⟩),
 (93,⟨some gA,(.st [(0,3),(1,3),(2,3),(3,91)]),4,32,[.i64 (0:Int),.i64 (0:Int),.i64 (0:Int),.u8 (0:Int)]⟩),
 (98,⟨some (.ptr lW),.other,1,8,[.nilp]⟩),
 (99,⟨some (.ptr wS),.other,1,8,[.nilp]⟩),
 (100,⟨some (.ptr mC),.other,1,8,[.nilp]⟩),
 (102,⟨some D9,(.st [(0,98),(1,98),(2,99),(3,99),(4,99),(5,100)]),6,48,[.nilp,.nilp,.nilp,.nilp,.nilp,.nilp]⟩),
 (105,⟨none,.other,1,8,[.nilp]⟩),
 (107,⟨none,(.st [(0,105),(1,35),(2,3)]),3,40,[.nilp,.nils,.i64 (0:Int)]⟩),
 (108,⟨none,(.sl 107),1,24,[.nils]⟩),
 (115,⟨some (.prod (.int .i32) Y1),(.st [(0,21),(1,21),(2,3)]),3,16,[.i32 (0:Int),.i32 (0:Int),.i64 (0:Int)]⟩),
 (124,⟨some (.slice (.prod (.int .i32) Y2)),(.sl 174),1,24,[.nils]⟩),
 (129,⟨some (.slice .bool),(.sl 4),1,24,[.nils]⟩),
 (134,⟨some (.slice gA),(.sl 197),1,24,[.nils]⟩),
 (142,⟨some (.slice (.slice (.int .i64))),(.sl 41),1,24,[.nils]⟩),
 (143,⟨some (.slice (.int .u32)),(.sl 40),1,24,[.nils]⟩),
 (145,⟨some S8,(.st [(0,142),(1,143)]),2,48,[.nils,.nils]⟩),
 (147,⟨some lW,(.st [(0,44),(5,145),(7,145)]),9,176,[.nils,.u32 (0:Int),.u32 (0:Int),.nils,.nils,.nils,.nils,.nils,.nils]⟩),
 (148,⟨some (.slice (.arr .u8 256)),(.sl 155),1,24,[.nils]⟩),
 (149,⟨some (.arr .i64 4352),(.ar 4352 3),4352,34816,(List.replicate 4352 (.i64 (0:Int)))⟩),
 (151,⟨some wS,(.st [(0,149),(4352,148)]),4353,34840,(List.replicate 4352 (.i64 (0:Int))++[.nils])⟩),
 (152,⟨none,(.mp 155 3),1,8,[.lit (.map none)]⟩),
 (153,⟨some (.int .u64),(.int .u64),1,8,[.u64 (0:Int)]⟩),
 (155,⟨some (.arr .u8 256),(.ar 256 5),256,256,(List.replicate 256 (.u8 (0:Int)))⟩),
 (160,⟨some (.ptr uH),.other,1,8,[.nilp]⟩),
 (163,⟨some mC,(.st [(0,35),(1,160),(2,45),(3,3),(4,3)]),5,72,[.nils,.nilp,.nils,.i64 (0:Int),.i64 (0:Int)]⟩),
 (164,⟨some (.slice (.int .i32)),(.sl 21),1,24,[.nils]⟩),
 (174,⟨some (.prod (.int .i32) Y2),(.st [(0,21),(1,3),(2,3)]),3,24,[.i32 (0:Int),.i64 (0:Int),.i64 (0:Int)]⟩),
 (180,⟨some (.int .u8),(.int .u8),1,1,[.u8 (0:Int)]⟩),
 (181,⟨some (.slice (.tree .u8 .u32)),(.sl 183),1,24,[.nils]⟩),
 (183,⟨some (.tree .u8 .u32),(.st [(0,180),(1,40),(2,181)]),3,32,[.u8 (0:Int),.u32 (0:Int),.nils]⟩),
 (185,⟨some (.prod (.int .u8) Y8),(.st [(0,91),(1,183),(4,183)]),7,72,[.u8 (0:Int),.u8 (0:Int),.u32 (0:Int),.nils,.u8 (0:Int),.u32 (0:Int),.nils]⟩),
 (197,⟨some gA,(.st [(0,3),(1,3),(2,3),(3,91)]),4,32,[.i64 (0:Int),.i64 (0:Int),.i64 (0:Int),.u8 (0:Int)]⟩),
 (198,⟨none,.other,1,8,[.nilp]⟩),
 (199,⟨none,(.mp 9 40),1,8,[.lit (.map none)]⟩),
 (201,⟨none,(.st [(0,9),(1,3),(2,44),(7,199),(8,3),(9,3)]),10,128,[.st ([]:List UInt8),.i64 (0:Int),.nils,.u32 (0:Int),.u32 (0:Int),.nils,.nils,.lit (.map none),.i64 (0:Int),.i64 (0:Int)]⟩),
 (210,⟨some wT,(.st [(0,164),(1,22)]),2,48,[.nils,.nils]⟩),
 (216,⟨none,.other,1,8,[.unk]⟩),
 (217,⟨some (.slice Y18),(.sl 222),1,24,[.nils]⟩),
 (219,⟨some uH,(.st [(0,217)]),1,24,[.nils]⟩),
 (220,⟨some (.mapi .i32 .i64),(.mp 21 3),1,8,[.lit (.map none)]⟩),
 (222,⟨some Y18,(.st [(0,220),(1,22)]),2,32,[.lit (.map none),.nils]⟩),
 (241,⟨none,.other,1,8,[.unk]⟩),
 (249,⟨none,.other,1,8,[.unk]⟩),
 (250,⟨none,(.mp 9 249),1,8,[.lit (.map none)]⟩),
 (251,⟨none,(.mp 9 91),1,8,[.lit (.map none)]⟩),
 (257,⟨none,.other,1,8,[.nilp]⟩),
 (258,⟨some (.slice kX),(.sl 264),1,24,[.nils]⟩),
 (260,⟨some Y35,(.st [(0,143),(1,258),(2,4)]),3,56,[.nils,.nils,.bo false]⟩),
 (261,⟨some (.slice G1),(.sl 266),1,24,[.nils]⟩),
 (262,⟨some (.int .u64),(.int .u64),1,8,[.u64 (0:Int)]⟩),
 (264,⟨some kX,(.ar 4 262),4,32,[.u64 (0:Int),.u64 (0:Int),.u64 (0:Int),.u64 (0:Int)]⟩),
 (266,⟨some G1,(.st [(0,4),(1,264),(5,264)]),9,72,[.bo false,.u64 (0:Int),.u64 (0:Int),.u64 (0:Int),.u64 (0:Int),.u64 (0:Int),.u64 (0:Int),.u64 (0:Int),.u64 (0:Int)]⟩),
 (269,⟨none,(.mp 264 3),1,8,[.lit (.map none)]⟩),
 (274,⟨none,.other,1,8,[.unk]⟩),
 (278,⟨none,.other,1,8,[.unk]⟩),
 (310,⟨none,(.mp 9 3),1,8,[.lit (.map none)]⟩),
 (330,⟨some (.prod (.int .u8) Y38),(.ar 7 5),7,7,[.u8 (0:Int),.u8 (0:Int),.u8 (0:Int),.u8 (0:Int),.u8 (0:Int),.u8 (0:Int),.u8 (0:Int)]⟩)]
theorem ti3:TIok Tryz.prog 3 ⟨some (.int .i64),(.int .i64),1,8,[.i64 (0:Int)]⟩:=⟨⟨_,_,rfl,rfl,rfl,rfl,rfl,rfl,by simp[Value.cells,Value.oneCell']⟩,(⟨_,rfl,rfl⟩),rfl,(fun _=>rfl),(fun T h=>by cases h;exact⟨rfl,rfl,rfl⟩)⟩
theorem ti4:TIok Tryz.prog 4 ⟨some .bool,.bool,1,1,[.bo false]⟩:=⟨⟨_,_,rfl,rfl,rfl,rfl,rfl,rfl,by simp[Value.cells,Value.oneCell']⟩,(⟨_,rfl,rfl⟩),rfl,(fun _=>rfl),(fun T h=>by cases h;exact⟨rfl,rfl,rfl⟩)⟩
theorem ti5:TIok Tryz.prog 5 ⟨some (.int .u8),(.int .u8),1,1,[.u8 (0:Int)]⟩:=⟨⟨_,_,rfl,rfl,rfl,rfl,rfl,rfl,by simp[Value.cells,Value.oneCell']⟩,(⟨_,rfl,rfl⟩),rfl,(fun _=>rfl),(fun T h=>by cases h;exact⟨rfl,rfl,rfl⟩)⟩
theorem ti9:TIok Tryz.prog 9 ⟨some .str,.str,1,16,[.st ([]:List UInt8)]⟩:=⟨⟨_,_,rfl,rfl,rfl,rfl,rfl,rfl,by simp[Value.cells,Value.oneCell']⟩,(⟨_,rfl,rfl⟩),rfl,(fun _=>rfl),(fun T h=>by cases h;exact⟨rfl,rfl,rfl⟩)⟩
theorem aFT:TIok Tryz.prog 20 ⟨none,.other,1,16,[.lit .nilIface]⟩:=⟨⟨_,_,rfl,rfl,rfl,rfl,rfl,rfl,by simp[Value.cells,Value.oneCell']⟩,(⟨_,rfl,rfl⟩),rfl,(fun _=>rfl),(fun T h=>by cases h)⟩
theorem aGr:TIok Tryz.prog 21 ⟨some (.int .i32),(.int .i32),1,4,[.i32 (0:Int)]⟩:=⟨⟨_,_,rfl,rfl,rfl,rfl,rfl,rfl,by simp[Value.cells,Value.oneCell']⟩,(⟨_,rfl,rfl⟩),rfl,(fun _=>rfl),(fun T h=>by cases h;exact⟨rfl,rfl,rfl⟩)⟩
theorem aGz:TIok Tryz.prog 22 ⟨some (.slice (.int .u8)),(.sl 5),1,24,[.nils]⟩:=⟨⟨_,_,rfl,rfl,rfl,rfl,rfl,rfl,by simp[Value.cells,Value.oneCell']⟩,(⟨_,rfl,rfl⟩),rfl,(fun _=>rfl),(fun T h=>by cases h;exact⟨rfl,rfl,rfl⟩)⟩
theorem aF8:TIok Tryz.prog 29 ⟨some (.ptr D9),.other,1,8,[.nilp]⟩:=⟨⟨_,_,rfl,rfl,rfl,rfl,rfl,rfl,by simp[Value.cells,Value.oneCell']⟩,(⟨_,rfl,rfl⟩),rfl,(fun _=>rfl),(fun T h=>by cases h;exact⟨rfl,rfl,rfl⟩)⟩
theorem aFN:TIok Tryz.prog 30 ⟨some (.int .i64),(.int .i64),1,8,[.i64 (0:Int)]⟩:=⟨⟨_,_,rfl,rfl,rfl,rfl,rfl,rfl,by simp[Value.cells,Value.oneCell']⟩,(⟨_,rfl,rfl⟩),rfl,(fun _=>rfl),(fun T h=>by cases h;exact⟨rfl,rfl,rfl⟩)⟩
theorem aGl:TIok Tryz.prog 32 ⟨some Y2,(.st [(0,30),(1,3)]),2,16,[.i64 (0:Int),.i64 (0:Int)]⟩:=⟨⟨_,_,rfl,rfl,rfl,rfl,rfl,rfl,by simp[Value.cells,Value.oneCell']⟩,(⟨_,rfl,_,rfl,rfl,by
  intro f hf
  simp only[List.mem_cons,List.not_mem_nil,or_false]at hf
  rcases hf with rfl | rfl <;> exact⟨_,rfl,by decide⟩⟩),rfl,(fun h=>by cases h),(fun T h=>by cases h;exact⟨rfl,rfl,rfl⟩)⟩
theorem aFL:TIok Tryz.prog 35 ⟨some (.slice (.prod (.int .i32) Y1)),(.sl 115),1,24,[.nils]⟩:=⟨⟨_,_,rfl,rfl,rfl,rfl,rfl,rfl,by simp[Value.cells,Value.oneCell']⟩,(⟨_,rfl,rfl⟩),rfl,(fun _=>rfl),(fun T h=>by cases h;exact⟨rfl,rfl,rfl⟩)⟩
theorem aGa:TIok Tryz.prog 37 ⟨some Y7,(.st [(0,35),(1,35),(2,35),(3,35),(4,9),(5,9),(6,9),(7,3),(8,3)]),9,160,[.nils,.nils,.nils,.nils,.st ([]:List UInt8),.st ([]:List UInt8),.st ([]:List UInt8),.i64 (0:Int),.i64 (0:Int)]⟩:=⟨⟨_,_,rfl,rfl,rfl,rfl,rfl,rfl,by simp[Value.cells,Value.oneCell']⟩,(⟨_,rfl,_,rfl,rfl,by
  intro f hf
  simp only[List.mem_cons,List.not_mem_nil,or_false]at hf
  rcases hf with rfl | rfl | rfl | rfl | rfl | rfl | rfl | rfl | rfl <;> exact⟨_,rfl,by decide⟩⟩),rfl,(fun h=>by cases h),(fun T h=>by cases h;exact⟨rfl,rfl,rfl⟩)⟩
theorem aF5:TIok Tryz.prog 39 ⟨some (.slice .str),(.sl 9),1,24,[.nils]⟩:=⟨⟨_,_,rfl,rfl,rfl,rfl,rfl,rfl,by simp[Value.cells,Value.oneCell']⟩,(⟨_,rfl,rfl⟩),rfl,(fun _=>rfl),(fun T h=>by cases h;exact⟨rfl,rfl,rfl⟩)⟩
theorem aGD:TIok Tryz.prog 40 ⟨some (.int .u32),(.int .u32),1,4,[.u32 (0:Int)]⟩:=⟨⟨_,_,rfl,rfl,rfl,rfl,rfl,rfl,by simp[Value.cells,Value.oneCell']⟩,(⟨_,rfl,rfl⟩),rfl,(fun _=>rfl),(fun T h=>by cases h;exact⟨rfl,rfl,rfl⟩)⟩
theorem aFR:TIok Tryz.prog 41 ⟨some (.slice (.int .i64)),(.sl 3),1,24,[.nils]⟩:=⟨⟨_,_,rfl,rfl,rfl,rfl,rfl,rfl,by simp[Value.cells,Value.oneCell']⟩,(⟨_,rfl,rfl⟩),rfl,(fun _=>rfl),(fun T h=>by cases h;exact⟨rfl,rfl,rfl⟩)⟩
theorem aGd:TIok Tryz.prog 42 ⟨some (.slice (.prod (.int .u8) Y8)),(.sl 185),1,24,[.nils]⟩:=⟨⟨_,_,rfl,rfl,rfl,rfl,rfl,rfl,by simp[Value.cells,Value.oneCell']⟩,(⟨_,rfl,rfl⟩),rfl,(fun _=>rfl),(fun T h=>by cases h;exact⟨rfl,rfl,rfl⟩)⟩
theorem aF0:TIok Tryz.prog 44 ⟨some Y11,(.st [(0,39),(1,40),(2,40),(3,41),(4,42)]),5,80,[.nils,.u32 (0:Int),.u32 (0:Int),.nils,.nils]⟩:=⟨⟨_,_,rfl,rfl,rfl,rfl,rfl,rfl,by simp[Value.cells,Value.oneCell']⟩,(⟨_,rfl,_,rfl,rfl,by
  intro f hf
  simp only[List.mem_cons,List.not_mem_nil,or_false]at hf
  rcases hf with rfl | rfl | rfl | rfl | rfl <;> exact⟨_,rfl,by decide⟩⟩),rfl,(fun h=>by cases h),(fun T h=>by cases h;exact⟨rfl,rfl,rfl⟩)⟩
theorem aGb:TIok Tryz.prog 45 ⟨some (.slice wT),(.sl 210),1,24,[.nils]⟩:=⟨⟨_,_,rfl,rfl,rfl,rfl,rfl,rfl,by simp[Value.cells,Value.oneCell']⟩,(⟨_,rfl,rfl⟩),rfl,(fun _=>rfl),(fun T h=>by cases h;exact⟨rfl,rfl,rfl⟩)⟩
theorem aGo:TIok Tryz.prog 47 ⟨some Y26,(.st [(0,45),(1,45)]),2,48,[.nils,.nils]⟩:=⟨⟨_,_,rfl,rfl,rfl,rfl,rfl,rfl,by simp[Value.cells,Value.oneCell']⟩,(⟨_,rfl,_,rfl,rfl,by
  intro f hf
  simp only[List.mem_cons,List.not_mem_nil,or_false]at hf
  rcases hf with rfl | rfl <;> exact⟨_,rfl,by decide⟩⟩),rfl,(fun h=>by cases h),(fun T h=>by cases h;exact⟨rfl,rfl,rfl⟩)⟩
theorem aGn:TIok Tryz.prog 56 ⟨some (.slice gA),(.sl 90),1,24,[.nils]⟩:=⟨⟨_,_,rfl,rfl,rfl,rfl,rfl,rfl,by simp[Value.cells,Value.oneCell']⟩,(⟨_,rfl,rfl⟩),rfl,(fun _=>rfl),(fun T h=>by cases h;exact⟨rfl,rfl,rfl⟩)⟩
theorem aGt:TIok Tryz.prog 57 ⟨some (.slice (.int .u8)),(.sl 91),1,24,[.nils]⟩:=⟨⟨_,_,rfl,rfl,rfl,rfl,rfl,rfl,by simp[Value.cells,Value.oneCell']⟩,(⟨_,rfl,rfl⟩),rfl,(fun _=>rfl),(fun T h=>by cases h;exact⟨rfl,rfl,rfl⟩)⟩
theorem aGc:TIok Tryz.prog 59 ⟨some Y30,(.st [(0,56),(1,57)]),2,48,[.nils,.nils]⟩:=⟨⟨_,_,rfl,rfl,rfl,rfl,rfl,rfl,by simp[Value.cells,Value.oneCell']⟩,(⟨_,rfl,_,rfl,rfl,by
  intro f hf
  simp only[List.mem_cons,List.not_mem_nil,or_false]at hf
  rcases hf with rfl | rfl <;> exact⟨_,rfl,by decide⟩⟩),rfl,(fun h=>by cases h),(fun T h=>by cases h;exact⟨rfl,rfl,rfl⟩)⟩
theorem aGw:TIok Tryz.prog 70 ⟨some (.int .u8),(.int .u8),1,1,[.u8 (0:Int)]⟩:=⟨⟨_,_,rfl,rfl,rfl,rfl,rfl,rfl,by simp[Value.cells,Value.oneCell']⟩,(⟨_,rfl,rfl⟩),rfl,(fun _=>rfl),(fun T h=>by cases h;exact⟨rfl,rfl,rfl⟩)⟩
theorem aGi:TIok Tryz.prog 72 ⟨some Y33,(.st [(0,3),(1,3),(2,70),(3,3),(4,3),(5,67)]),6,48,[.i64 (0:Int),.i64 (0:Int),.u8 (0:Int),.i64 (0:Int),.i64 (0:Int),.p false .flt (dS 0)]⟩:=⟨⟨_,_,rfl,rfl,rfl,rfl,rfl,rfl,by simp[Value.cells,Value.oneCell']⟩,(⟨_,rfl,_,rfl,rfl,by
  intro f hf
  simp only[List.mem_cons,List.not_mem_nil,or_false]at hf
  rcases hf with rfl | rfl | rfl | rfl | rfl | rfl <;> exact⟨_,rfl,by decide⟩⟩),rfl,(fun h=>by cases h),(fun T h=>by cases h;exact⟨rfl,rfl,rfl⟩)⟩
theorem aGC:TIok Tryz.prog 75 ⟨some (.slice gA),(.sl 93),1,24,[.nils]⟩:=⟨⟨_,_,rfl,rfl,rfl,rfl,rfl,rfl,by simp[Value.cells,Value.oneCell']⟩,(⟨_,rfl,rfl⟩),rfl,(fun _=>rfl),(fun T h=>by cases h;exact⟨rfl,rfl,rfl⟩)⟩
theorem aGf:TIok Tryz.prog 77 ⟨some Y29,(.st [(0,75),(1,4)]),2,32,[.nils,.bo false]⟩:=⟨⟨_,_,rfl,rfl,rfl,rfl,rfl,rfl,by simp[Value.cells,Value.oneCell']⟩,(⟨_,rfl,_,rfl,rfl,by
  intro f hf
  simp only[List.mem_cons,List.not_mem_nil,or_false]at hf
  rcases hf with rfl | rfl <;> exact⟨_,rfl,by decide⟩⟩),rfl,(fun h=>by cases h),(fun T h=>by cases h;exact⟨rfl,rfl,rfl⟩)⟩
theorem aGA:TIok Tryz.prog 88 ⟨some (.int .u8),(.int .u8),1,1,[.u8 (0:Int)]⟩:=⟨⟨_,_,rfl,rfl,rfl,rfl,rfl,rfl,by simp[Value.cells,Value.oneCell']⟩,(⟨_,rfl,rfl⟩),rfl,(fun _=>rfl),(fun T h=>by cases h;exact⟨rfl,rfl,rfl⟩)⟩
theorem aGg:TIok Tryz.prog 90 ⟨some gA,(.st [(0,3),(1,3),(2,3),(3,88)]),4,32,[.i64 (0:Int),.i64 (0:Int),.i64 (0:Int),.u8 (0:Int)]⟩:=⟨⟨_,_,rfl,rfl,rfl,rfl,rfl,rfl,by simp[Value.cells,Value.oneCell']⟩,(⟨_,rfl,_,rfl,rfl,by
  intro f hf
  simp only[List.mem_cons,List.not_mem_nil,or_false]at hf
  rcases hf with rfl | rfl | rfl | rfl <;> exact⟨_,rfl,by decide⟩⟩),rfl,(fun h=>by cases h),(fun T h=>by cases h;exact⟨rfl,rfl,rfl⟩)⟩
theorem aGN:TIok Tryz.prog 91 ⟨some (.int .u8),(.int .u8),1,1,[.u8 (0:Int)]⟩:=⟨⟨_,_,rfl,rfl,rfl,rfl,rfl,rfl,by simp[Value.cells,Value.oneCell']⟩,(⟨_,rfl,rfl⟩),rfl,(fun _=>rfl),(fun T h=>by cases h;exact⟨rfl,rfl,rfl⟩)⟩
theorem aGq:TIok Tryz.prog 93 ⟨some gA,(.st [(0,3),(1,3),(2,3),(3,91)]),4,32,[.i64 (0:Int),.i64 (0:Int),.i64 (0:Int),.u8 (0:Int)]⟩:=⟨⟨_,_,rfl,rfl,rfl,rfl,rfl,rfl,by simp[Value.cells,Value.oneCell']⟩,(⟨_,rfl,_,rfl,rfl,by
  intro f hf
  simp only[List.mem_cons,List.not_mem_nil,or_false]at hf
  rcases hf with rfl | rfl | rfl | rfl <;> exact⟨_,rfl,by decide⟩⟩),rfl,(fun h=>by cases h),(fun T h=>by cases h;exact⟨rfl,rfl,rfl⟩)⟩
theorem aF7:TIok Tryz.prog 98 ⟨some (.ptr lW),.other,1,8,[.nilp]⟩:=⟨⟨_,_,rfl,rfl,rfl,rfl,rfl,rfl,by simp[Value.cells,Value.oneCell']⟩,(⟨_,rfl,rfl⟩),rfl,(fun _=>rfl),(fun T h=>by cases h;exact⟨rfl,rfl,rfl⟩)⟩
theorem aGp:TIok Tryz.prog 99 ⟨some (.ptr wS),.other,1,8,[.nilp]⟩:=⟨⟨_,_,rfl,rfl,rfl,rfl,rfl,rfl,by simp[Value.cells,Value.oneCell']⟩,(⟨_,rfl,rfl⟩),rfl,(fun _=>rfl),(fun T h=>by cases h;exact⟨rfl,rfl,rfl⟩)⟩
theorem aFo:TIok Tryz.prog 100 ⟨some (.ptr mC),.other,1,8,[.nilp]⟩:=⟨⟨_,_,rfl,rfl,rfl,rfl,rfl,rfl,by simp[Value.cells,Value.oneCell']⟩,(⟨_,rfl,rfl⟩),rfl,(fun _=>rfl),(fun T h=>by cases h;exact⟨rfl,rfl,rfl⟩)⟩
theorem aE9:TIok Tryz.prog 102 ⟨some D9,(.st [(0,98),(1,98),(2,99),(3,99),(4,99),(5,100)]),6,48,[.nilp,.nilp,.nilp,.nilp,.nilp,.nilp]⟩:=⟨⟨_,_,rfl,rfl,rfl,rfl,rfl,rfl,by simp[Value.cells,Value.oneCell']⟩,(⟨_,rfl,_,rfl,rfl,by
  intro f hf
  simp only[List.mem_cons,List.not_mem_nil,or_false]at hf
  rcases hf with rfl | rfl | rfl | rfl | rfl | rfl <;> exact⟨_,rfl,by decide⟩⟩),rfl,(fun h=>by cases h),(fun T h=>by cases h;exact⟨rfl,rfl,rfl⟩)⟩
theorem aEg:TIok Tryz.prog 105 ⟨none,.other,1,8,[.nilp]⟩:=⟨⟨_,_,rfl,rfl,rfl,rfl,rfl,rfl,by simp[Value.cells,Value.oneCell']⟩,(⟨_,rfl,rfl⟩),rfl,(fun _=>rfl),(fun T h=>by cases h)⟩
theorem aFq:TIok Tryz.prog 107 ⟨none,(.st [(0,105),(1,35),(2,3)]),3,40,[.nilp,.nils,.i64 (0:Int)]⟩:=⟨⟨_,_,rfl,rfl,rfl,rfl,rfl,rfl,by simp[Value.cells,Value.oneCell']⟩,(⟨_,rfl,_,rfl,rfl,by
  intro f hf
  simp only[List.mem_cons,List.not_mem_nil,or_false]at hf
  rcases hf with rfl | rfl | rfl <;> exact⟨_,rfl,by decide⟩⟩),rfl,(fun h=>by cases h),(fun T h=>by cases h)⟩
theorem aE3:TIok Tryz.prog 108 ⟨none,(.sl 107),1,24,[.nils]⟩:=⟨⟨_,_,rfl,rfl,rfl,rfl,rfl,rfl,by simp[Value.cells,Value.oneCell']⟩,(⟨_,rfl,rfl⟩),rfl,(fun _=>rfl),(fun T h=>by cases h)⟩
theorem aEw:TIok Tryz.prog 115 ⟨some (.prod (.int .i32) Y1),(.st [(0,21),(1,21),(2,3)]),3,16,[.i32 (0:Int),.i32 (0:Int),.i64 (0:Int)]⟩:=⟨⟨_,_,rfl,rfl,rfl,rfl,rfl,rfl,by simp[Value.cells,Value.oneCell']⟩,(⟨_,rfl,_,rfl,rfl,by
  intro f hf
  simp only[List.mem_cons,List.not_mem_nil,or_false]at hf
  rcases hf with rfl | rfl | rfl <;> exact⟨_,rfl,by decide⟩⟩),rfl,(fun h=>by cases h),(fun T h=>by cases h;exact⟨rfl,rfl,rfl⟩)⟩
theorem aFe:TIok Tryz.prog 124 ⟨some (.slice (.prod (.int .i32) Y2)),(.sl 174),1,24,[.nils]⟩:=⟨⟨_,_,rfl,rfl,rfl,rfl,rfl,rfl,by simp[Value.cells,Value.oneCell']⟩,(⟨_,rfl,rfl⟩),rfl,(fun _=>rfl),(fun T h=>by cases h;exact⟨rfl,rfl,rfl⟩)⟩
theorem aEM:TIok Tryz.prog 129 ⟨some (.slice .bool),(.sl 4),1,24,[.nils]⟩:=⟨⟨_,_,rfl,rfl,rfl,rfl,rfl,rfl,by simp[Value.cells,Value.oneCell']⟩,(⟨_,rfl,rfl⟩),rfl,(fun _=>rfl),(fun T h=>by cases h;exact⟨rfl,rfl,rfl⟩)⟩
theorem aE8:TIok Tryz.prog 134 ⟨some (.slice gA),(.sl 197),1,24,[.nils]⟩:=⟨⟨_,_,rfl,rfl,rfl,rfl,rfl,rfl,by simp[Value.cells,Value.oneCell']⟩,(⟨_,rfl,rfl⟩),rfl,(fun _=>rfl),(fun T h=>by cases h;exact⟨rfl,rfl,rfl⟩)⟩
theorem aEe:TIok Tryz.prog 142 ⟨some (.slice (.slice (.int .i64))),(.sl 41),1,24,[.nils]⟩:=⟨⟨_,_,rfl,rfl,rfl,rfl,rfl,rfl,by simp[Value.cells,Value.oneCell']⟩,(⟨_,rfl,rfl⟩),rfl,(fun _=>rfl),(fun T h=>by cases h;exact⟨rfl,rfl,rfl⟩)⟩
theorem aFt:TIok Tryz.prog 143 ⟨some (.slice (.int .u32)),(.sl 40),1,24,[.nils]⟩:=⟨⟨_,_,rfl,rfl,rfl,rfl,rfl,rfl,by simp[Value.cells,Value.oneCell']⟩,(⟨_,rfl,rfl⟩),rfl,(fun _=>rfl),(fun T h=>by cases h;exact⟨rfl,rfl,rfl⟩)⟩
theorem aEB:TIok Tryz.prog 145 ⟨some S8,(.st [(0,142),(1,143)]),2,48,[.nils,.nils]⟩:=⟨⟨_,_,rfl,rfl,rfl,rfl,rfl,rfl,by simp[Value.cells,Value.oneCell']⟩,(⟨_,rfl,_,rfl,rfl,by
  intro f hf
  simp only[List.mem_cons,List.not_mem_nil,or_false]at hf
  rcases hf with rfl | rfl <;> exact⟨_,rfl,by decide⟩⟩),rfl,(fun h=>by cases h),(fun T h=>by cases h;exact⟨rfl,rfl,rfl⟩)⟩
theorem aEC:TIok Tryz.prog 147 ⟨some lW,(.st [(0,44),(5,145),(7,145)]),9,176,[.nils,.u32 (0:Int),.u32 (0:Int),.nils,.nils,.nils,.nils,.nils,.nils]⟩:=⟨⟨_,_,rfl,rfl,rfl,rfl,rfl,rfl,by simp[Value.cells,Value.oneCell']⟩,(⟨_,rfl,_,rfl,rfl,by
  intro f hf
  simp only[List.mem_cons,List.not_mem_nil,or_false]at hf
  rcases hf with rfl | rfl | rfl <;> exact⟨_,rfl,by decide⟩⟩),rfl,(fun h=>by cases h),(fun T h=>by cases h;exact⟨rfl,rfl,rfl⟩)⟩
theorem aEP:TIok Tryz.prog 148 ⟨some (.slice (.arr .u8 256)),(.sl 155),1,24,[.nils]⟩:=⟨⟨_,_,rfl,rfl,rfl,rfl,rfl,rfl,by simp[Value.cells,Value.oneCell']⟩,(⟨_,rfl,rfl⟩),rfl,(fun _=>rfl),(fun T h=>by cases h;exact⟨rfl,rfl,rfl⟩)⟩
theorem aEf:TIok Tryz.prog 149 ⟨some (.arr .i64 4352),(.ar 4352 3),4352,34816,(List.replicate 4352 (.i64 (0:Int)))⟩:=⟨aCg (by kernel_rfl) (by kernel_rfl),(⟨_,rfl,rfl⟩),by kernel_rfl,(fun h=>by cases h),(fun T h=>by cases h;exact⟨rfl,rfl,by kernel_rfl⟩)⟩
theorem aEQ:TIok Tryz.prog 151 ⟨some wS,(.st [(0,149),(4352,148)]),4353,34840,(List.replicate 4352 (.i64 (0:Int))++[.nils])⟩:=⟨aCg (by kernel_rfl) (by kernel_rfl),(⟨_,rfl,_,rfl,rfl,by
  intro f hf
  simp only[List.mem_cons,List.not_mem_nil,or_false]at hf
  rcases hf with rfl | rfl <;> exact⟨_,rfl,by decide⟩⟩),by kernel_rfl,(fun h=>by cases h),(fun T h=>by cases h;exact⟨rfl,rfl,by kernel_rfl⟩)⟩
theorem aFn:TIok Tryz.prog 152 ⟨none,(.mp 155 3),1,8,[.lit (.map none)]⟩:=⟨⟨_,_,rfl,rfl,rfl,rfl,rfl,rfl,by simp[Value.cells,Value.oneCell']⟩,(⟨_,rfl,rfl⟩),rfl,(fun _=>rfl),(fun T h=>by cases h)⟩
theorem aEd:TIok Tryz.prog 153 ⟨some (.int .u64),(.int .u64),1,8,[.u64 (0:Int)]⟩:=⟨⟨_,_,rfl,rfl,rfl,rfl,rfl,rfl,by simp[Value.cells,Value.oneCell']⟩,(⟨_,rfl,rfl⟩),rfl,(fun _=>rfl),(fun T h=>by cases h;exact⟨rfl,rfl,rfl⟩)⟩
theorem aFj:TIok Tryz.prog 155 ⟨some (.arr .u8 256),(.ar 256 5),256,256,(List.replicate 256 (.u8 (0:Int)))⟩:=⟨aCg (by kernel_rfl) (by kernel_rfl),(⟨_,rfl,rfl⟩),by kernel_rfl,(fun h=>by cases h),(fun T h=>by cases h;exact⟨rfl,rfl,by kernel_rfl⟩)⟩
theorem aEv:TIok Tryz.prog 160 ⟨some (.ptr uH),.other,1,8,[.nilp]⟩:=⟨⟨_,_,rfl,rfl,rfl,rfl,rfl,rfl,by simp[Value.cells,Value.oneCell']⟩,(⟨_,rfl,rfl⟩),rfl,(fun _=>rfl),(fun T h=>by cases h;exact⟨rfl,rfl,rfl⟩)⟩
theorem aEA:TIok Tryz.prog 163 ⟨some mC,(.st [(0,35),(1,160),(2,45),(3,3),(4,3)]),5,72,[.nils,.nilp,.nils,.i64 (0:Int),.i64 (0:Int)]⟩:=⟨⟨_,_,rfl,rfl,rfl,rfl,rfl,rfl,by simp[Value.cells,Value.oneCell']⟩,(⟨_,rfl,_,rfl,rfl,by
  intro f hf
  simp only[List.mem_cons,List.not_mem_nil,or_false]at hf
  rcases hf with rfl | rfl | rfl | rfl | rfl <;> exact⟨_,rfl,by decide⟩⟩),rfl,(fun h=>by cases h),(fun T h=>by cases h;exact⟨rfl,rfl,rfl⟩)⟩
theorem aEG:TIok Tryz.prog 164 ⟨some (.slice (.int .i32)),(.sl 21),1,24,[.nils]⟩:=⟨⟨_,_,rfl,rfl,rfl,rfl,rfl,rfl,by simp[Value.cells,Value.oneCell']⟩,(⟨_,rfl,rfl⟩),rfl,(fun _=>rfl),(fun T h=>by cases h;exact⟨rfl,rfl,rfl⟩)⟩
theorem aET:TIok Tryz.prog 174 ⟨some (.prod (.int .i32) Y2),(.st [(0,21),(1,3),(2,3)]),3,24,[.i32 (0:Int),.i64 (0:Int),.i64 (0:Int)]⟩:=⟨⟨_,_,rfl,rfl,rfl,rfl,rfl,rfl,by simp[Value.cells,Value.oneCell']⟩,(⟨_,rfl,_,rfl,rfl,by
  intro f hf
  simp only[List.mem_cons,List.not_mem_nil,or_false]at hf
  rcases hf with rfl | rfl | rfl <;> exact⟨_,rfl,by decide⟩⟩),rfl,(fun h=>by cases h),(fun T h=>by cases h;exact⟨rfl,rfl,rfl⟩)⟩
theorem aFv:TIok Tryz.prog 180 ⟨some (.int .u8),(.int .u8),1,1,[.u8 (0:Int)]⟩:=⟨⟨_,_,rfl,rfl,rfl,rfl,rfl,rfl,by simp[Value.cells,Value.oneCell']⟩,(⟨_,rfl,rfl⟩),rfl,(fun _=>rfl),(fun T h=>by cases h;exact⟨rfl,rfl,rfl⟩)⟩
theorem aE7:TIok Tryz.prog 181 ⟨some (.slice (.tree .u8 .u32)),(.sl 183),1,24,[.nils]⟩:=⟨⟨_,_,rfl,rfl,rfl,rfl,rfl,rfl,by simp[Value.cells,Value.oneCell']⟩,(⟨_,rfl,rfl⟩),rfl,(fun _=>rfl),(fun T h=>by cases h;exact⟨rfl,rfl,rfl⟩)⟩
theorem aEz:TIok Tryz.prog 183 ⟨some (.tree .u8 .u32),(.st [(0,180),(1,40),(2,181)]),3,32,[.u8 (0:Int),.u32 (0:Int),.nils]⟩:=⟨⟨_,_,rfl,rfl,rfl,rfl,rfl,rfl,by simp[Value.cells,Value.oneCell']⟩,(⟨_,rfl,_,rfl,rfl,by
  intro f hf
  simp only[List.mem_cons,List.not_mem_nil,or_false]at hf
  rcases hf with rfl | rfl | rfl <;> exact⟨_,rfl,by decide⟩⟩),rfl,(fun h=>by cases h),(fun T h=>by cases h;exact⟨rfl,rfl,rfl⟩)⟩
theorem aEI:TIok Tryz.prog 185 ⟨some (.prod (.int .u8) Y8),(.st [(0,91),(1,183),(4,183)]),7,72,[.u8 (0:Int),.u8 (0:Int),.u32 (0:Int),.nils,.u8 (0:Int),.u32 (0:Int),.nils]⟩:=⟨⟨_,_,rfl,rfl,rfl,rfl,rfl,rfl,by simp[Value.cells,Value.oneCell']⟩,(⟨_,rfl,_,rfl,rfl,by
  intro f hf
  simp only[List.mem_cons,List.not_mem_nil,or_false]at hf
  rcases hf with rfl | rfl | rfl <;> exact⟨_,rfl,by decide⟩⟩),rfl,(fun h=>by cases h),(fun T h=>by cases h;exact⟨rfl,rfl,rfl⟩)⟩
theorem aEs:TIok Tryz.prog 197 ⟨some gA,(.st [(0,3),(1,3),(2,3),(3,91)]),4,32,[.i64 (0:Int),.i64 (0:Int),.i64 (0:Int),.u8 (0:Int)]⟩:=⟨⟨_,_,rfl,rfl,rfl,rfl,rfl,rfl,by simp[Value.cells,Value.oneCell']⟩,(⟨_,rfl,_,rfl,rfl,by
  intro f hf
  simp only[List.mem_cons,List.not_mem_nil,or_false]at hf
  rcases hf with rfl | rfl | rfl | rfl <;> exact⟨_,rfl,by decide⟩⟩),rfl,(fun h=>by cases h),(fun T h=>by cases h;exact⟨rfl,rfl,rfl⟩)⟩
theorem aFh:TIok Tryz.prog 198 ⟨none,.other,1,8,[.nilp]⟩:=⟨⟨_,_,rfl,rfl,rfl,rfl,rfl,rfl,by simp[Value.cells,Value.oneCell']⟩,(⟨_,rfl,rfl⟩),rfl,(fun _=>rfl),(fun T h=>by cases h)⟩
theorem aFA:TIok Tryz.prog 199 ⟨none,(.mp 9 40),1,8,[.lit (.map none)]⟩:=⟨⟨_,_,rfl,rfl,rfl,rfl,rfl,rfl,by simp[Value.cells,Value.oneCell']⟩,(⟨_,rfl,rfl⟩),rfl,(fun _=>rfl),(fun T h=>by cases h)⟩
theorem aEx:TIok Tryz.prog 201 ⟨none,(.st [(0,9),(1,3),(2,44),(7,199),(8,3),(9,3)]),10,128,[.st ([]:List UInt8),.i64 (0:Int),.nils,.u32 (0:Int),.u32 (0:Int),.nils,.nils,.lit (.map none),.i64 (0:Int),.i64 (0:Int)]⟩:=⟨⟨_,_,rfl,rfl,rfl,rfl,rfl,rfl,by simp[Value.cells,Value.oneCell']⟩,(⟨_,rfl,_,rfl,rfl,by
  intro f hf
  simp only[List.mem_cons,List.not_mem_nil,or_false]at hf
  rcases hf with rfl | rfl | rfl | rfl | rfl | rfl <;> exact⟨_,rfl,by decide⟩⟩),rfl,(fun h=>by cases h),(fun T h=>by cases h)⟩
theorem aFs:TIok Tryz.prog 210 ⟨some wT,(.st [(0,164),(1,22)]),2,48,[.nils,.nils]⟩:=⟨⟨_,_,rfl,rfl,rfl,rfl,rfl,rfl,by simp[Value.cells,Value.oneCell']⟩,(⟨_,rfl,_,rfl,rfl,by
  intro f hf
  simp only[List.mem_cons,List.not_mem_nil,or_false]at hf
  rcases hf with rfl | rfl <;> exact⟨_,rfl,by decide⟩⟩),rfl,(fun h=>by cases h),(fun T h=>by cases h;exact⟨rfl,rfl,rfl⟩)⟩
theorem aFi:TIok Tryz.prog 216 ⟨none,.other,1,8,[.unk]⟩:=⟨⟨_,_,rfl,rfl,rfl,rfl,rfl,rfl,by simp[Value.cells,Value.oneCell']⟩,(⟨_,rfl,rfl⟩),rfl,(fun _=>rfl),(fun T h=>by cases h)⟩
theorem aEO:TIok Tryz.prog 217 ⟨some (.slice Y18),(.sl 222),1,24,[.nils]⟩:=⟨⟨_,_,rfl,rfl,rfl,rfl,rfl,rfl,by simp[Value.cells,Value.oneCell']⟩,(⟨_,rfl,rfl⟩),rfl,(fun _=>rfl),(fun T h=>by cases h;exact⟨rfl,rfl,rfl⟩)⟩
theorem aE6:TIok Tryz.prog 219 ⟨some uH,(.st [(0,217)]),1,24,[.nils]⟩:=⟨⟨_,_,rfl,rfl,rfl,rfl,rfl,rfl,by simp[Value.cells,Value.oneCell']⟩,(⟨_,rfl,_,rfl,rfl,by
  intro f hf
  simp only[List.mem_cons,List.not_mem_nil,or_false]at hf
  rcases hf with rfl <;> exact⟨_,rfl,by decide⟩⟩),rfl,(fun h=>by cases h),(fun T h=>by cases h;exact⟨rfl,rfl,rfl⟩)⟩
theorem aEl:TIok Tryz.prog 220 ⟨some (.mapi .i32 .i64),(.mp 21 3),1,8,[.lit (.map none)]⟩:=⟨⟨_,_,rfl,rfl,rfl,rfl,rfl,rfl,by simp[Value.cells,Value.oneCell']⟩,(⟨_,rfl,rfl⟩),rfl,(fun _=>rfl),(fun T h=>by cases h;exact⟨rfl,rfl,rfl⟩)⟩
theorem aE1:TIok Tryz.prog 222 ⟨some Y18,(.st [(0,220),(1,22)]),2,32,[.lit (.map none),.nils]⟩:=⟨⟨_,_,rfl,rfl,rfl,rfl,rfl,rfl,by simp[Value.cells,Value.oneCell']⟩,(⟨_,rfl,_,rfl,rfl,by
  intro f hf
  simp only[List.mem_cons,List.not_mem_nil,or_false]at hf
  rcases hf with rfl | rfl <;> exact⟨_,rfl,by decide⟩⟩),rfl,(fun h=>by cases h),(fun T h=>by cases h;exact⟨rfl,rfl,rfl⟩)⟩
theorem aFx:TIok Tryz.prog 241 ⟨none,.other,1,8,[.unk]⟩:=⟨⟨_,_,rfl,rfl,rfl,rfl,rfl,rfl,by simp[Value.cells,Value.oneCell']⟩,(⟨_,rfl,rfl⟩),rfl,(fun _=>rfl),(fun T h=>by cases h)⟩
theorem aEt:TIok Tryz.prog 249 ⟨none,.other,1,8,[.unk]⟩:=⟨⟨_,_,rfl,rfl,rfl,rfl,rfl,rfl,by simp[Value.cells,Value.oneCell']⟩,(⟨_,rfl,rfl⟩),rfl,(fun _=>rfl),(fun T h=>by cases h)⟩
theorem aFB:TIok Tryz.prog 250 ⟨none,(.mp 9 249),1,8,[.lit (.map none)]⟩:=⟨⟨_,_,rfl,rfl,rfl,rfl,rfl,rfl,by simp[Value.cells,Value.oneCell']⟩,(⟨_,rfl,rfl⟩),rfl,(fun _=>rfl),(fun T h=>by cases h)⟩
theorem aE0:TIok Tryz.prog 251 ⟨none,(.mp 9 91),1,8,[.lit (.map none)]⟩:=⟨⟨_,_,rfl,rfl,rfl,rfl,rfl,rfl,by simp[Value.cells,Value.oneCell']⟩,(⟨_,rfl,rfl⟩),rfl,(fun _=>rfl),(fun T h=>by cases h)⟩
theorem aFm:TIok Tryz.prog 257 ⟨none,.other,1,8,[.nilp]⟩:=⟨⟨_,_,rfl,rfl,rfl,rfl,rfl,rfl,by simp[Value.cells,Value.oneCell']⟩,(⟨_,rfl,rfl⟩),rfl,(fun _=>rfl),(fun T h=>by cases h)⟩
theorem aFb:TIok Tryz.prog 258 ⟨some (.slice kX),(.sl 264),1,24,[.nils]⟩:=⟨⟨_,_,rfl,rfl,rfl,rfl,rfl,rfl,by simp[Value.cells,Value.oneCell']⟩,(⟨_,rfl,rfl⟩),rfl,(fun _=>rfl),(fun T h=>by cases h;exact⟨rfl,rfl,rfl⟩)⟩
theorem aEH:TIok Tryz.prog 260 ⟨some Y35,(.st [(0,143),(1,258),(2,4)]),3,56,[.nils,.nils,.bo false]⟩:=⟨⟨_,_,rfl,rfl,rfl,rfl,rfl,rfl,by simp[Value.cells,Value.oneCell']⟩,(⟨_,rfl,_,rfl,rfl,by
  intro f hf
  simp only[List.mem_cons,List.not_mem_nil,or_false]at hf
  rcases hf with rfl | rfl | rfl <;> exact⟨_,rfl,by decide⟩⟩),rfl,(fun h=>by cases h),(fun T h=>by cases h;exact⟨rfl,rfl,rfl⟩)⟩
theorem aEZ:TIok Tryz.prog 261 ⟨some (.slice G1),(.sl 266),1,24,[.nils]⟩:=⟨⟨_,_,rfl,rfl,rfl,rfl,rfl,rfl,by simp[Value.cells,Value.oneCell']⟩,(⟨_,rfl,rfl⟩),rfl,(fun _=>rfl),(fun T h=>by cases h;exact⟨rfl,rfl,rfl⟩)⟩
theorem aFa:TIok Tryz.prog 262 ⟨some (.int .u64),(.int .u64),1,8,[.u64 (0:Int)]⟩:=⟨⟨_,_,rfl,rfl,rfl,rfl,rfl,rfl,by simp[Value.cells,Value.oneCell']⟩,(⟨_,rfl,rfl⟩),rfl,(fun _=>rfl),(fun T h=>by cases h;exact⟨rfl,rfl,rfl⟩)⟩
theorem aED:TIok Tryz.prog 264 ⟨some kX,(.ar 4 262),4,32,[.u64 (0:Int),.u64 (0:Int),.u64 (0:Int),.u64 (0:Int)]⟩:=⟨⟨_,_,rfl,rfl,rfl,rfl,rfl,rfl,by simp[Value.cells,Value.oneCell']⟩,(⟨_,rfl,rfl⟩),rfl,(fun h=>by cases h),(fun T h=>by cases h;exact⟨rfl,rfl,rfl⟩)⟩
theorem aEn:TIok Tryz.prog 266 ⟨some G1,(.st [(0,4),(1,264),(5,264)]),9,72,[.bo false,.u64 (0:Int),.u64 (0:Int),.u64 (0:Int),.u64 (0:Int),.u64 (0:Int),.u64 (0:Int),.u64 (0:Int),.u64 (0:Int)]⟩:=⟨⟨_,_,rfl,rfl,rfl,rfl,rfl,rfl,by simp[Value.cells,Value.oneCell']⟩,(⟨_,rfl,_,rfl,rfl,by
  intro f hf
  simp only[List.mem_cons,List.not_mem_nil,or_false]at hf
  rcases hf with rfl | rfl | rfl <;> exact⟨_,rfl,by decide⟩⟩),rfl,(fun h=>by cases h),(fun T h=>by cases h;exact⟨rfl,rfl,rfl⟩)⟩
theorem aEu:TIok Tryz.prog 269 ⟨none,(.mp 264 3),1,8,[.lit (.map none)]⟩:=⟨⟨_,_,rfl,rfl,rfl,rfl,rfl,rfl,by simp[Value.cells,Value.oneCell']⟩,(⟨_,rfl,rfl⟩),rfl,(fun _=>rfl),(fun T h=>by cases h)⟩
theorem aEy:TIok Tryz.prog 274 ⟨none,.other,1,8,[.unk]⟩:=⟨⟨_,_,rfl,rfl,rfl,rfl,rfl,rfl,by simp[Value.cells,Value.oneCell']⟩,(⟨_,rfl,rfl⟩),rfl,(fun _=>rfl),(fun T h=>by cases h)⟩
theorem aE2:TIok Tryz.prog 278 ⟨none,.other,1,8,[.unk]⟩:=⟨⟨_,_,rfl,rfl,rfl,rfl,rfl,rfl,by simp[Value.cells,Value.oneCell']⟩,(⟨_,rfl,rfl⟩),rfl,(fun _=>rfl),(fun T h=>by cases h)⟩
theorem aFz:TIok Tryz.prog 310 ⟨none,(.mp 9 3),1,8,[.lit (.map none)]⟩:=⟨⟨_,_,rfl,rfl,rfl,rfl,rfl,rfl,by simp[Value.cells,Value.oneCell']⟩,(⟨_,rfl,rfl⟩),rfl,(fun _=>rfl),(fun T h=>by cases h)⟩
theorem aFr:TIok Tryz.prog 330 ⟨some (.prod (.int .u8) Y38),(.ar 7 5),7,7,[.u8 (0:Int),.u8 (0:Int),.u8 (0:Int),.u8 (0:Int),.u8 (0:Int),.u8 (0:Int),.u8 (0:Int)]⟩:=⟨⟨_,_,rfl,rfl,rfl,rfl,rfl,rfl,by simp[Value.cells,Value.oneCell']⟩,(⟨_,rfl,rfl⟩),rfl,(fun h=>by cases h),(fun T h=>by cases h;exact⟨rfl,rfl,rfl⟩)⟩
theorem bA:TabOK Tryz.prog tb:=by
 intro p hp
 simp only[tb,List.mem_cons,List.not_mem_nil,or_false]at hp
 rcases hp with rfl | rfl | rfl | rfl | rfl | rfl | rfl | rfl | rfl | rfl | rfl | rfl | rfl | rfl | rfl | rfl | rfl | rfl | rfl | rfl | rfl | rfl | rfl | rfl | rfl | rfl | rfl | rfl | rfl | rfl | rfl | rfl | rfl | rfl | rfl | rfl | rfl | rfl | rfl | rfl | rfl | rfl | rfl | rfl | rfl | rfl | rfl | rfl | rfl | rfl | rfl | rfl | rfl | rfl | rfl | rfl | rfl | rfl | rfl | rfl | rfl | rfl | rfl | rfl | rfl | rfl | rfl | rfl | rfl | rfl | rfl | rfl | rfl | rfl | rfl | rfl | rfl | rfl | rfl | rfl | rfl | rfl | rfl | rfl | rfl
 ·exact ti3
 ·exact ti4
 ·exact ti5
 ·exact ti9
 ·exact aFT
 ·exact aGr
 ·exact aGz
 ·exact aF8
 ·exact aFN
 ·exact aGl
 ·exact aFL
 ·exact aGa
 ·exact aF5
 ·exact aGD
 ·exact aFR
 ·exact aGd
 ·exact aF0
 ·exact aGb
 ·exact aGo
 ·exact aGn
 ·exact aGt
 ·exact aGc
 ·exact aGw
 ·exact aGi
 ·exact aGC
 ·exact aGf
 ·exact aGA
 ·exact aGg
 ·exact aGN
 ·exact aGq
 ·exact aF7
 ·exact aGp
 ·exact aFo
 ·exact aE9
 ·exact aEg
 ·exact aFq
 ·exact aE3
 ·exact aEw
 ·exact aFe
 ·exact aEM
 ·exact aE8
 ·exact aEe
 ·exact aFt
 ·exact aEB
 ·exact aEC
 ·exact aEP
 ·exact aEf
 ·exact aEQ
 ·exact aFn
 ·exact aEd
 ·exact aFj
 ·exact aEv
 ·exact aEA
 ·exact aEG
 ·exact aET
 ·exact aFv
 ·exact aE7
 ·exact aEz
 ·exact aEI
 ·exact aEs
 ·exact aFh
 ·exact aFA
 ·exact aEx
 ·exact aFs
 ·exact aFi
 ·exact aEO
 ·exact aE6
 ·exact aEl
 ·exact aE1
 ·exact aFx
 ·exact aEt
 ·exact aFB
 ·exact aE0
 ·exact aFm
 ·exact aFb
 ·exact aEH
 ·exact aEZ
 ·exact aFa
 ·exact aED
 ·exact aEn
 ·exact aEu
 ·exact aEy
 ·exact aE2
 ·exact aFz
 ·exact aFr
theorem aDJ:aD0 Tryz.prog 93 gA:=aCK 8 (by decide) (by kernel_rfl) ⟨by kernel_rfl,rfl⟩
theorem X4:KeyOk Tryz.prog 155 (.arr .u8 256):=KeyOk.of_ints (e:=5) rfl rfl rfl (by kernel_rfl) rfl rfl rfl
theorem J4:KeyOk Tryz.prog 264 kX:=KeyOk.of_ints (e:=262) rfl rfl rfl (by kernel_rfl) rfl rfl rfl
theorem rE:Tryz.prog.follows .mixedOrders=true:=by kernel_rfl
section
variable{n:NS}{Bw:Nat→Prop}{w0:Base Tryz.prog}{σ:St}{Q:Exit→St→Prop}{id:Nat}{ops:Array Oper}{d:Code}{fid:FuncId}{args:List AVal}{hin hout:List (Nat×Tv.Obj)}{r:AVal}{y:Value}
theorem Ge(hq:∀σ',Le n σ' (gO Tryz.prog tb a0 n ops σ)→Q .normal σ')(h:gN Tryz.prog tb a0 n ops σ=some (cP ops.size 0 []):=by kernel_rfl):W Tryz.prog n Bw w0 (.region id ops false) σ Q:=aCi bA a0 [] h hq
theorem bO(an:An)(cs:List (Nat×Nat×PP))(hq:∀σ',Le n σ' (gO Tryz.prog tb an n ops σ)→Q .normal σ')(h:gN Tryz.prog tb an n ops σ=some (cP ops.size 0 cs):=by kernel_rfl):W Tryz.prog n Bw w0 (.region id ops false) σ Q:=aCi bA an cs h hq
theorem qY(an:An)(cs:List (Nat×Nat×PP))(hq:∀σ',Le n σ' (M1 Tryz.prog tb an n ops σ)→Q .normal σ')(h:Q8 Tryz.prog tb an n ops σ=some (cP ops.size 0 cs):=by kernel_rfl):W Tryz.prog n Bw w0 (.region id ops true) σ Q:=aFu bA rE an cs h hq
theorem K5(i:Nat){α:Type}{p:Prop}[Decidable p]{u:Option α}{v:α}(h:(if p then u else none)=some v)(hq:u=some v→∀σ',Le n σ' (gO Tryz.prog tb a0 n ops σ)→Q .normal σ')(hk:gN Tryz.prog tb a0 n ops σ=some (cG ops.size i p):=by kernel_rfl):W Tryz.prog n Bw w0 (.region id ops false) σ Q:=aDq bA i h hk hq
theorem GPe(i:Nat)(u:Pure Tryz.prog fid args r)(hq:∀σ',Le n σ' (gO Tryz.prog tb ⟨[],[(i,oP u)]⟩ n ops σ)→Q .normal σ')(h:gN Tryz.prog tb ⟨[],[(i,oP u)]⟩ n ops σ=some (cP ops.size 0 [(i,i,oc u)]):=by kernel_rfl):W Tryz.prog n Bw w0 (.region id ops false) σ Q:=aEU bA i u h hq
theorem l4(i:Nat)(g:List Nat)(u:Owns Tryz.prog fid args hin r hout)(hq:∀σ',Le n σ' (gO Tryz.prog tb ⟨[],[(i,oO u g)]⟩ n ops σ)→Q .normal σ')(h:gN Tryz.prog tb ⟨[],[(i,oO u g)]⟩ n ops σ=some (cP ops.size 0 [(i,i,oc u)]):=by kernel_rfl):W Tryz.prog n Bw w0 (.region id ops false) σ Q:=aEK bA i g u h hq
theorem G(hq:W Tryz.prog n Bw w0 d (gO Tryz.prog tb a0 n ops σ) Q)(h:gN Tryz.prog tb a0 n ops σ=some (cP ops.size 0 []):=by kernel_rfl):W Tryz.prog n Bw w0 (.seq (.region id ops false) d) σ Q:=W_g bA a0 [] h hq
theorem GN(an:An)(cs:List (Nat×Nat×PP))(hq:W Tryz.prog n Bw w0 d (gO Tryz.prog tb an n ops σ) Q)(h:gN Tryz.prog tb an n ops σ=some (cP ops.size 0 cs):=by kernel_rfl):W Tryz.prog n Bw w0 (.seq (.region id ops false) d) σ Q:=W_g bA an cs h hq
theorem GD(an:An)(cs:List (Nat×Nat×PP))(hq:W Tryz.prog n Bw w0 d (M1 Tryz.prog tb an n ops σ) Q)(h:Q8 Tryz.prog tb an n ops σ=some (cP ops.size 0 cs):=by kernel_rfl):W Tryz.prog n Bw w0 (.seq (.region id ops true) d) σ Q:=W_d bA rE an cs h hq
theorem GC(i:Nat){α:Type}{p:Prop}[Decidable p]{u:Option α}{v:α}(h:(if p then u else none)=some v)(hq:u=some v→W Tryz.prog n Bw w0 d (gO Tryz.prog tb a0 n ops σ) Q)(hk:gN Tryz.prog tb a0 n ops σ=some (cG ops.size i p):=by kernel_rfl):W Tryz.prog n Bw w0 (.seq (.region id ops false) d) σ Q:=aFU bA i h hk hq
theorem GP(i:Nat)(u:Pure Tryz.prog fid args r)(hq:W Tryz.prog n Bw w0 d (gO Tryz.prog tb ⟨[],[(i,oP u)]⟩ n ops σ) Q)(h:gN Tryz.prog tb ⟨[],[(i,oP u)]⟩ n ops σ=some (cP ops.size 0 [(i,i,oc u)]):=by kernel_rfl):W Tryz.prog n Bw w0 (.seq (.region id ops false) d) σ Q:=aF6 bA i u h hq
theorem GO(i:Nat)(g:List Nat)(u:Owns Tryz.prog fid args hin r hout)(hq:W Tryz.prog n Bw w0 d (gO Tryz.prog tb ⟨[],[(i,oO u g)]⟩ n ops σ) Q)(h:gN Tryz.prog tb ⟨[],[(i,oO u g)]⟩ n ops σ=some (cP ops.size 0 [(i,i,oc u)]):=by kernel_rfl):W Tryz.prog n Bw w0 (.seq (.region id ops false) d) σ Q:=aF2 bA i g u h hq
theorem GX(i:Nat)(g:List Nat)(u:Dies Tryz.prog fid args hin y)(hq:∀σ',Q (.panic [{ v:=y,recovered:=false }]) σ')(h:N0 Tryz.prog tb ⟨[],[(i,oD u g)]⟩ n ops i σ=some (cP (i+1) 0 [(i,i,oc u)],y):=by kernel_rfl):W Tryz.prog n Bw w0 (.region id ops false) σ Q:=aF4 bA i g u h hq
theorem GXn(u:Dies Tryz.prog fid args hin y)(an:An)(i:Nat)(cs:List (Nat×Nat×PP))(hq:∀σ',Q (.panic [{ v:=y,recovered:=false }]) σ')(h:N0 Tryz.prog tb an n ops i σ=some (cP (i+1) 0 cs,y):=by kernel_rfl):W Tryz.prog n Bw w0 (.region id ops false) σ Q:=W_x bA u an i cs h hq
end
end
end Go.Proofs.YtflahpmlcfhpcaaGreatDoor.T
