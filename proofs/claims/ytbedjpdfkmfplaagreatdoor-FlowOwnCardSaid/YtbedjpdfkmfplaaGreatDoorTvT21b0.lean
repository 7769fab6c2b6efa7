/- Functions of the program as functions on data, and that the program's own come to them. -/
import Derived.Test.YtbedjpdfkmfplaaGreatDoorTvSt
import Derived.Test.YtbedjpdfkmfplaaGreatDoorProg
import Derived.KernelRfl
namespace Go.Proofs.YtbedjpdfkmfplaaGreatDoor.T
open Go Go.Tv Go.Proofs
noncomputable section
set_option maxRecDepth 100000
set_option maxHeartbeats 4000000
abbrev Z7:Type:=Int×Tree×Tree
abbrev Z18:Type:=(List (List UInt8))×Int×Int×(List Int)×List Z7
abbrev Z17:Type:=(List (List Int))×List Int
abbrev Z5:Type:=Z18×Z17×(List (List Int))×List Int
abbrev Z16:Type:=(Arr 4352)×List (Arr 256)
abbrev Z8:Type:=Int×Int×Int
abbrev Z19:Type:=(List ((List (Int×Int))×List Int))×Unit
abbrev kK:Type:=(List Int)×List Int
abbrev Z3:Type:=(List Z8)×(Option Z19)×(List kK)×Int×Int
abbrev Z1:Type:=(Option Z5)×(Option Z5)×(Option Z16)×(Option Z16)×(Option Z16)×Option Z3
abbrev Z2:Type:=Int×Int×Int×Int
abbrev Z4:Type:=(List UInt8)×Int
abbrev Z6:Type:=((List Z2)×List Int)×(List Z2)×List (List Int)
abbrev Z9:Type:=(List UInt8)×(List Z2)×Bool
abbrev G5:Type:=Bool×Z2×Int×Int×Int×Int
abbrev wO:Type:=Tree×Int×Int×Int
abbrev Z13:Type:=Int×(List Z2)×Bool×(List Int)×(List Z2)×(List Int)×(Option Z6)×List Z9
abbrev rY:Type:=(List Int)×Int
abbrev Z15:Type:=Int×(List (List UInt8))×Int×Int×(List Int)×(List Z7)×(List Z4)×Int×Int
abbrev Y1:Ty:=(.prod (.int .i32) (.int .i64))
abbrev Y2:Ty:=(.prod (.int .i64) (.int .i64))
abbrev Y3:Ty:=(.prod .str (.prod .str Y2))
abbrev Y4:Ty:=(.prod (.slice (.prod (.int .i32) Y1)) (.prod .str Y3))
abbrev Y5:Ty:=(.prod (.slice (.prod (.int .i32) Y1)) Y4)
abbrev Y6:Ty:=(.prod (.slice (.prod (.int .i32) Y1)) Y5)
abbrev Y7:Ty:=(.prod (.slice (.prod (.int .i32) Y1)) Y6)
abbrev Y8:Ty:=(.prod (.tree .u8 .u32) (.tree .u8 .u32))
abbrev Y9:Ty:=(.prod (.slice (.int .i64)) (.slice (.prod (.int .u8) Y8)))
abbrev Y10:Ty:=(.prod (.int .u32) (.prod (.int .u32) Y9))
abbrev Y11:Ty:=(.prod (.slice .str) Y10)
abbrev Y12:Ty:=(.prod (.slice (.slice (.int .i64))) (.slice (.int .u32)))
abbrev qO:Ty:=(.prod Y11 (.prod Y12 Y12))
abbrev Y14:Ty:=(.prod (.int .u64) (.int .u64))
abbrev pJ:Ty:=(.prod (.int .u64) (.prod (.int .u64) Y14))
abbrev Y16:Ty:=(.prod .bool (.prod pJ pJ))
abbrev P8:Ty:=(.prod (.arr .i64 4352) (.slice (.arr .u8 256)))
abbrev Y18:Ty:=(.prod (.mapi .i32 .i64) (.slice (.int .u8)))
abbrev F9:Ty:=(.prod (.slice Y18) .unit)
abbrev Q7:Ty:=(.prod (.slice (.int .i32)) (.slice (.int .u8)))
abbrev Y21:Ty:=(.prod (.ptr F9) (.prod (.slice Q7) Y2))
abbrev rF:Ty:=(.prod (.slice (.prod (.int .i32) Y1)) Y21)
abbrev Y23:Ty:=(.prod (.ptr P8) (.ptr rF))
abbrev Y24:Ty:=(.prod (.ptr P8) (.prod (.ptr P8) Y23))
abbrev qJ:Ty:=(.prod (.ptr qO) (.prod (.ptr qO) Y24))
abbrev Y26:Ty:=(.prod (.slice Q7) (.slice Q7))
abbrev Y27:Ty:=(.prod (.int .i64) (.int .u8))
abbrev cQ:Ty:=(.prod (.int .i64) (.prod (.int .i64) Y27))
abbrev N6:Ty:=(.prod (.slice cQ) (.slice (.int .u8)))
abbrev Y30:Ty:=(.prod (.slice cQ) (.slice (.slice (.int .i64))))
abbrev Y31:Ty:=(.prod (.slice cQ) .bool)
abbrev Y32:Ty:=(.prod (.int .i64) .flt)
abbrev Y33:Ty:=(.prod (.int .u8) (.prod (.int .i64) Y32))
abbrev Y34:Ty:=(.prod (.int .i64) (.prod (.int .i64) Y33))
abbrev Y35:Ty:=(.prod (.int .u16) .flt)
abbrev Y36:Ty:=(.prod (.int .u8) (.prod (.int .u16) Y35))
abbrev Y37:Ty:=(.prod (.int .u8) (.prod (.int .u8) Y36))
abbrev Y38:Ty:=(.prod (.int .i64) (.slice (.int .u8)))
abbrev Y39:Ty:=(.prod (.slice pJ) .bool)
abbrev Y40:Ty:=(.prod (.slice (.int .u32)) Y39)
abbrev Y41:Ty:=(.prod (.int .u8) (.int .u8))
abbrev Y42:Ty:=(.prod (.int .u8) (.prod (.int .u8) Y41))
abbrev Y43:Ty:=(.prod (.int .u8) (.prod (.int .u8) Y42))
abbrev ob1(a1:Int)(a2:Int)(a3:Int)(a4:Int)(a5:List UInt8)(a6:Int)(a7:Int)(a8:Int)(a9:Int)(a10:Int)(a11:List Z4):List (Nat×Tv.Obj):=[(0,.box [.nils,.u32 a1,.u32 a2,.nils,.nils]),(1,.box [.i64 a3,.i64 a4]),(2,.box [.st a5,.i64 a6,.nils,.u32 a7,.u32 a8,.nils,.nils,.mp 3,.i64 a9,.i64 a10]),(3,.mpo .str (.int .u32) a11)]
abbrev ob2(a1:List UInt8)(a2:Int)(a3:Int)(a4:Int)(a5:Int)(a6:Int)(a7:List Z4):List (Nat×Tv.Obj):=[(0,.box [.st a1,.i64 a2,.nils,.u32 a3,.u32 a4,.nils,.nils,.mp 1,.i64 a5,.i64 a6]),(1,.mpo .str (.int .u32) a7)]
abbrev ob3(a1:Int)(a2:Int)(a3:Int)(a4:Int):List (Nat×Tv.Obj):=[(0,.box [.nils,.u32 a1,.u32 a2,.nils,.nils]),(1,.box [.i64 a3,.i64 a4])]
abbrev bY(a1:List UInt8)(a2:Int)(a3:Int)(a4:Int)(a5:Int)(a6:Int)(a7:List (List UInt8))(a8:List Int)(a9:List Z7)(a10:List Z4):List (Nat×Tv.Obj):=[(0,.box [.st a1,.i64 a2,.sl 1,.u32 a3,.u32 a4,.sl 2,.sl 3,.mp 4,.i64 a5,.i64 a6]),(1,.arr 9 .str a7),(2,.arr 3 (.int .i64) a8),(3,.arr 212 (.prod (.int .u8) Y8) a9),(4,.mpo .str (.int .u32) a10)]
abbrev aIX(a1:List UInt8)(a2:Int)(a3:Int)(a4:Int)(a5:Int)(a6:Int)(a7:List Z7)(a8:List Z4)(a9:List (List UInt8))(a10:List Int):List (Nat×Tv.Obj):=[(0,.box [.st a1,.i64 a2,.sl 5,.u32 a3,.u32 a4,.sl 6,.sl 3,.mp 4,.i64 a5,.i64 a6]),(3,.arr 212 (.prod (.int .u8) Y8) a7),(4,.mpo .str (.int .u32) a8),(5,.arr 9 .str a9),(6,.arr 3 (.int .i64) a10)]
abbrev aLQ(a1:List UInt8)(a2:Int)(a3:Int)(a4:Int)(a5:Int)(a6:Int)(a7:List (List UInt8))(a8:List Int)(a9:List Z7)(a10:List Z4)(a11:Int)(a12:Int)(a13:Int)(a14:Int):List (Nat×Tv.Obj):=[(0,.box [.st a1,.i64 a2,.sl 1,.u32 a3,.u32 a4,.sl 2,.sl 3,.mp 4,.i64 a5,.i64 a6]),(1,.arr 9 .str a7),(2,.arr 3 (.int .i64) a8),(3,.arr 212 (.prod (.int .u8) Y8) a9),(4,.mpo .str (.int .u32) a10),(5,.box [.u8 a11,.u32 a12,.nils]),(6,.box [.u8 a13,.u32 a14,.nils])]
abbrev aKM(a1:List UInt8)(a2:Int)(a3:Int)(a4:Int)(a5:Int)(a6:Int)(a7:List (List UInt8))(a8:List Int)(a9:List Z7)(a10:List Z4)(a11:Int)(a12:Int):List (Nat×Tv.Obj):=[(0,.box [.st a1,.i64 a2,.sl 1,.u32 a3,.u32 a4,.sl 2,.sl 3,.mp 4,.i64 a5,.i64 a6]),(1,.arr 9 .str a7),(2,.arr 3 (.int .i64) a8),(3,.arr 212 (.prod (.int .u8) Y8) a9),(4,.mpo .str (.int .u32) a10),(5,.box [.u8 a11,.u32 a12,.nils])]
abbrev aJN(a1:List UInt8)(a2:Int)(a3:Int)(a4:Int)(a5:Int)(a6:Int)(a7:List (List UInt8))(a8:List Int)(a9:List Z7)(a10:List Z4)(a11:Int)(a12:Int)(a13:Int)(a14:Int)(a15:List Tree):List (Nat×Tv.Obj):=[(0,.box [.st a1,.i64 a2,.sl 1,.u32 a3,.u32 a4,.sl 2,.sl 3,.mp 4,.i64 a5,.i64 a6]),(1,.arr 9 .str a7),(2,.arr 3 (.int .i64) a8),(3,.arr 212 (.prod (.int .u8) Y8) a9),(4,.mpo .str (.int .u32) a10),(5,.box [.u8 a11,.u32 a12,.nils]),(6,.box [.u8 a13,.u32 a14,.p false (.slice (.tree .u8 .u32)) a15])]
abbrev aE1(a1:List UInt8)(a2:Int)(a3:Int)(a4:Int)(a5:Int)(a6:Int)(a7:List (List UInt8))(a8:List Int)(a9:List Z7)(a10:List Z4)(a11:Int)(a12:Int)(a13:List Tree):List (Nat×Tv.Obj):=[(0,.box [.st a1,.i64 a2,.sl 1,.u32 a3,.u32 a4,.sl 2,.sl 3,.mp 4,.i64 a5,.i64 a6]),(1,.arr 9 .str a7),(2,.arr 3 (.int .i64) a8),(3,.arr 212 (.prod (.int .u8) Y8) a9),(4,.mpo .str (.int .u32) a10),(5,.box [.u8 a11,.u32 a12,.p false (.slice (.tree .u8 .u32)) a13])]
abbrev aHR(a1:List UInt8)(a2:Int)(a3:Int)(a4:Int)(a5:Int)(a6:Int)(a7:List (List UInt8))(a8:List Int)(a9:List Z7)(a10:List Z4)(a11:Int)(a12:Int)(a13:List Tree):List (Nat×Tv.Obj):=[(0,.box [.st a1,.i64 a2,.sl 1,.u32 a3,.u32 a4,.sl 2,.sl 3,.mp 4,.i64 a5,.i64 a6]),(1,.arr 9 .str a7),(2,.arr 3 (.int .i64) a8),(3,.arr 212 (.prod (.int .u8) Y8) a9),(4,.mpo .str (.int .u32) a10),(5,.box [.u8 a11,.u32 a12,.nils]),(6,.arr 210 (.tree .u8 .u32) a13)]
abbrev aKZ(a1:List UInt8)(a2:Int)(a3:Int)(a4:Int)(a5:Int)(a6:Int)(a7:List (List UInt8))(a8:List Int)(a9:List Z4)(a10:List Z7):List (Nat×Tv.Obj):=[(0,.box [.st a1,.i64 a2,.sl 1,.u32 a3,.u32 a4,.sl 2,.sl 5,.mp 4,.i64 a5,.i64 a6]),(1,.arr 9 .str a7),(2,.arr 3 (.int .i64) a8),(4,.mpo .str (.int .u32) a9),(5,.arr 212 (.prod (.int .u8) Y8) a10)]
abbrev aLl(a1:List UInt8)(a2:Int)(a3:Int)(a4:Int)(a5:Int)(a6:Int)(a7:List Z4)(a8:List (List UInt8))(a9:List Int)(a10:List Z7)(a11:List Z4):List (Nat×Tv.Obj):=[(0,.box [.st a1,.i64 a2,.sl 2,.u32 a3,.u32 a4,.sl 3,.sl 4,.mp 1,.i64 a5,.i64 a6]),(1,.mpo .str (.int .u32) a7),(2,.arr 9 .str a8),(3,.arr 3 (.int .i64) a9),(4,.arr 212 (.prod (.int .u8) Y8) a10),(5,.mpl .str [(([99,108,97,115,115]:List UInt8),(fnV 110)),(([115,101,116]:List UInt8),(fnV 111)),(([106,111,105,110]:List UInt8),(fnV 112)),(([116,114,101,97,116]:List UInt8),(fnV 113))]),(6,.mpo .str (.int .u8) a11)]
abbrev aJo(a1:List UInt8)(a2:Int)(a3:Int)(a4:Int)(a5:Int)(a6:Int)(a7:List Z4)(a8:List (List UInt8))(a9:List Int)(a10:List Z7):List (Nat×Tv.Obj):=[(0,.box [.st a1,.i64 a2,.sl 2,.u32 a3,.u32 a4,.sl 3,.sl 4,.mp 1,.i64 a5,.i64 a6]),(1,.mpo .str (.int .u32) a7),(2,.arr 9 .str a8),(3,.arr 3 (.int .i64) a9),(4,.arr 212 (.prod (.int .u8) Y8) a10)]
abbrev aLv(a1:Int)(a2:Int)(a3:Bool)(a4:List Tree)(a5:Int)(a6:Int)(a7:Int)(a8:Int)(a9:List Tree)(a10:Int)(a11:Int)(a12:Bool)(a13:List Tree):List (Nat×Tv.Obj):=[(0,.box [.u8 a1,.u32 a2,.p a3 (.slice (.tree .u8 .u32)) a4]),(1,.box [.u8 a5,.u32 a6,.nils]),(2,.box [.u8 a7,.u32 a8,.sl 3]),(3,.arr 210 (.tree .u8 .u32) a9),(4,.box [.u8 a10,.u32 a11,.p a12 (.slice (.tree .u8 .u32)) a13])]
abbrev aLT(a1:Int)(a2:Int)(a3:Bool)(a4:List Tree)(a5:Int)(a6:Int)(a7:Int)(a8:Int)(a9:List Tree):List (Nat×Tv.Obj):=[(0,.box [.u8 a1,.u32 a2,.p a3 (.slice (.tree .u8 .u32)) a4]),(1,.box [.u8 a5,.u32 a6,.nils]),(2,.box [.u8 a7,.u32 a8,.sl 3]),(3,.arr 210 (.tree .u8 .u32) a9)]
abbrev aLr(a1:Int)(a2:Int)(a3:Int)(a4:Int)(a5:List Tree):List (Nat×Tv.Obj):=[(0,.box [.u8 a1,.u32 a2,.nils]),(1,.box [.u8 a3,.u32 a4,.sl 2]),(2,.arr 210 (.tree .u8 .u32) a5)]
abbrev aJJ(a1:Bool)(a2:Int)(a3:Int)(a4:Int)(a5:Int)(a6:Int)(a7:Int)(a8:Int)(a9:Int):List (Nat×Tv.Obj):=[(0,.box [.bo a1,.u64 a2,.u64 a3,.u64 a4,.u64 a5,.u64 a6,.u64 a7,.u64 a8,.u64 a9])]
abbrev aK6(a1:Int)(a2:Int)(a3:Int)(a4:Int)(a5:Int)(a6:Int)(a7:Int)(a8:Int):List (Nat×Tv.Obj):=[(0,.box [.u64 a1,.u64 a2,.u64 a3,.u64 a4]),(1,.box [.u64 a5,.u64 a6,.u64 a7,.u64 a8])]
abbrev aEC(a1:Bool)(a2:List Int)(a3:List Z2):List (Nat×Tv.Obj):=[(0,.box [.sl 1,.sl 2,.bo a1]),(1,.arr 133 (.int .u32) a2),(2,.arr 271 pJ a3)]
abbrev aLf(a1:Int)(a2:Int)(a3:Int)(a4:Int)(a5:Int)(a6:Int)(a7:Int)(a8:Int)(a9:Int)(a10:Int)(a11:Int)(a12:Int):List (Nat×Tv.Obj):=[(0,.box [.u64 a1,.u64 a2,.u64 a3,.u64 a4]),(1,.box [.u64 a5,.u64 a6,.u64 a7,.u64 a8]),(2,.box [.u64 a9,.u64 a10,.u64 a11,.u64 a12])]
abbrev aKX(a1:Bool)(a2:List Int)(a3:List Z2)(a4:Int)(a5:Int)(a6:Int)(a7:Int)(a8:Int)(a9:Int)(a10:Int)(a11:Int):List (Nat×Tv.Obj):=[(0,.box [.sl 1,.sl 2,.bo a1]),(1,.arr 133 (.int .u32) a2),(2,.arr 271 pJ a3),(3,.box [.u64 a4,.u64 a5,.u64 a6,.u64 a7]),(4,.box [.u64 a8,.u64 a9,.u64 a10,.u64 a11])]
abbrev aLH(a1:Bool)(a2:List Int)(a3:List Z2)(a4:Int)(a5:Int)(a6:Bool)(a7:List Tree)(a8:Bool)(a9:Int)(a10:Int)(a11:Int)(a12:Int)(a13:Int)(a14:Int)(a15:Int)(a16:Int):List (Nat×Tv.Obj):=[(0,.box [.sl 1,.sl 2,.bo a1]),(1,.arr 133 (.int .u32) a2),(2,.arr 271 pJ a3),(3,.box [.u8 a4,.u32 a5,.p a6 (.slice (.tree .u8 .u32)) a7]),(4,.box [.bo a8,.u64 a9,.u64 a10,.u64 a11,.u64 a12,.u64 a13,.u64 a14,.u64 a15,.u64 a16])]
abbrev aJ5(a1:Bool)(a2:List Int)(a3:List Z2):List (Nat×Tv.Obj):=[(0,.box [.sl 3,.sl 4,.bo a1]),(3,.arr 133 (.int .u32) a2),(4,.arr 271 pJ a3)]
abbrev aKw(a1:Bool)(a2:List Int)(a3:List Z2)(a4:Bool)(a5:Int)(a6:Int)(a7:Int)(a8:Int)(a9:Int)(a10:Int)(a11:Int)(a12:Int)(a13:Bool)(a14:Int)(a15:Int)(a16:Int)(a17:Int)(a18:Int)(a19:Int)(a20:Int)(a21:Int)(a22:Bool)(a23:Int)(a24:Int)(a25:Int)(a26:Int)(a27:Int)(a28:Int)(a29:Int)(a30:Int):List (Nat×Tv.Obj):=[(0,.box [.sl 3,.sl 4,.bo a1]),(3,.arr 133 (.int .u32) a2),(4,.arr 271 pJ a3),(5,.box [.bo a4,.u64 a5,.u64 a6,.u64 a7,.u64 a8,.u64 a9,.u64 a10,.u64 a11,.u64 a12]),(6,.box [.bo a13,.u64 a14,.u64 a15,.u64 a16,.u64 a17,.u64 a18,.u64 a19,.u64 a20,.u64 a21]),(7,.box [.bo a22,.u64 a23,.u64 a24,.u64 a25,.u64 a26,.u64 a27,.u64 a28,.u64 a29,.u64 a30])]
abbrev aIm(a1:Bool)(a2:List Int)(a3:List Z2)(a4:Bool)(a5:Int)(a6:Int)(a7:Int)(a8:Int)(a9:Int)(a10:Int)(a11:Int)(a12:Int)(a13:Bool)(a14:Int)(a15:Int)(a16:Int)(a17:Int)(a18:Int)(a19:Int)(a20:Int)(a21:Int):List (Nat×Tv.Obj):=[(0,.box [.sl 3,.sl 4,.bo a1]),(3,.arr 133 (.int .u32) a2),(4,.arr 271 pJ a3),(5,.box [.bo a4,.u64 a5,.u64 a6,.u64 a7,.u64 a8,.u64 a9,.u64 a10,.u64 a11,.u64 a12]),(6,.box [.bo a13,.u64 a14,.u64 a15,.u64 a16,.u64 a17,.u64 a18,.u64 a19,.u64 a20,.u64 a21])]
abbrev aJE(a1:Bool)(a2:Bool)(a3:Int)(a4:Int)(a5:Int)(a6:Int)(a7:Int)(a8:Int)(a9:Int)(a10:Int)(a11:Bool)(a12:Int)(a13:Int)(a14:Int)(a15:Int)(a16:Int)(a17:Int)(a18:Int)(a19:Int)(a20:List Int)(a21:List Z2):List (Nat×Tv.Obj):=[(0,.box [.sl 5,.sl 6,.bo a1]),(3,.box [.bo a2,.u64 a3,.u64 a4,.u64 a5,.u64 a6,.u64 a7,.u64 a8,.u64 a9,.u64 a10]),(4,.box [.bo a11,.u64 a12,.u64 a13,.u64 a14,.u64 a15,.u64 a16,.u64 a17,.u64 a18,.u64 a19]),(5,.arr 133 (.int .u32) a20),(6,.arr 271 pJ a21)]
abbrev aLj(a1:Bool)(a2:Int)(a3:Int)(a4:Bool)(a5:List Tree)(a6:Bool)(a7:Int)(a8:Int)(a9:Int)(a10:Int)(a11:Int)(a12:Int)(a13:Int)(a14:Int)(a15:Bool)(a16:Int)(a17:Int)(a18:Int)(a19:Int)(a20:Int)(a21:Int)(a22:Int)(a23:Int)(a24:List Int)(a25:List Z2):List (Nat×Tv.Obj):=[(0,.box [.sl 6,.sl 7,.bo a1]),(3,.box [.u8 a2,.u32 a3,.p a4 (.slice (.tree .u8 .u32)) a5]),(4,.box [.bo a6,.u64 a7,.u64 a8,.u64 a9,.u64 a10,.u64 a11,.u64 a12,.u64 a13,.u64 a14]),(5,.box [.bo a15,.u64 a16,.u64 a17,.u64 a18,.u64 a19,.u64 a20,.u64 a21,.u64 a22,.u64 a23]),(6,.arr 133 (.int .u32) a24),(7,.arr 271 pJ a25)]
abbrev aLs(a1:Bool)(a2:List Int)(a3:List Z2)(a4:Int)(a5:Int)(a6:Bool)(a7:List Tree)(a8:Bool)(a9:Int)(a10:Int)(a11:Int)(a12:Int)(a13:Int)(a14:Int)(a15:Int)(a16:Int)(a17:Bool)(a18:Int)(a19:Int)(a20:Int)(a21:Int)(a22:Int)(a23:Int)(a24:Int)(a25:Int):List (Nat×Tv.Obj):=[(0,.box [.sl 3,.sl 4,.bo a1]),(3,.arr 133 (.int .u32) a2),(4,.arr 271 pJ a3),(5,.box [.u8 a4,.u32 a5,.p a6 (.slice (.tree .u8 .u32)) a7]),(6,.box [.bo a8,.u64 a9,.u64 a10,.u64 a11,.u64 a12,.u64 a13,.u64 a14,.u64 a15,.u64 a16]),(7,.box [.bo a17,.u64 a18,.u64 a19,.u64 a20,.u64 a21,.u64 a22,.u64 a23,.u64 a24,.u64 a25])]
abbrev aGE(a1:Bool)(a2:List Int)(a3:List Z2)(a4:Bool)(a5:Int)(a6:Int)(a7:Int)(a8:Int)(a9:Int)(a10:Int)(a11:Int)(a12:Int):List (Nat×Tv.Obj):=[(0,.box [.sl 3,.sl 4,.bo a1]),(3,.arr 133 (.int .u32) a2),(4,.arr 271 pJ a3),(5,.box [.bo a4,.u64 a5,.u64 a6,.u64 a7,.u64 a8,.u64 a9,.u64 a10,.u64 a11,.u64 a12])]
abbrev aF2(a1:Bool)(a2:List Int)(a3:List Z2)(a4:List G5)(a5:Int)(a6:Int)(a7:Int)(a8:Int)(a9:List (List Int))(a10:List Int)(a11:List Z2)(a12:List (Z2×Int))(a13:Int)(a14:Int)(a15:Int)(a16:Int)(a17:Int)(a18:Int)(a19:Int)(a20:Int):List (Nat×Tv.Obj):=[(0,.box [.nils,.nils]),(1,.box [.sl 2,.sl 3,.bo a1]),(2,.arr 133 (.int .u32) a2),(3,.arr 271 pJ a3),(4,.arr 273 Y16 a4),(5,.box [.u64 a5,.u64 a6,.u64 a7,.u64 a8]),(6,.box [.sl 7,.sl 8]),(7,.arr 134 (.slice (.int .i64)) a9),(8,.arr 133 (.int .u32) a10),(9,.arr 271 pJ a11),(10,.mpo pJ (.int .i64) a12),(11,.box [.u64 a13,.u64 a14,.u64 a15,.u64 a16]),(12,.box [.u64 a17,.u64 a18,.u64 a19,.u64 a20])]
abbrev aIh(a1:Bool)(a2:List Int)(a3:List Z2)(a4:List G5)(a5:Int)(a6:Int)(a7:Int)(a8:Int)(a9:List (List Int))(a10:List Int)(a11:List Z2)(a12:List (Z2×Int))(a13:Int)(a14:Int)(a15:Int)(a16:Int)(a17:List Int)(a18:Int)(a19:Int)(a20:Int)(a21:Int):List (Nat×Tv.Obj):=[(0,.box [.nils,.nils]),(1,.box [.sl 2,.sl 3,.bo a1]),(2,.arr 133 (.int .u32) a2),(3,.arr 271 pJ a3),(4,.arr 273 Y16 a4),(5,.box [.u64 a5,.u64 a6,.u64 a7,.u64 a8]),(6,.box [.sl 7,.sl 8]),(7,.arr 134 (.slice (.int .i64)) a9),(8,.arr 133 (.int .u32) a10),(9,.arr 271 pJ a11),(10,.mpo pJ (.int .i64) a12),(11,.box [.u64 a13,.u64 a14,.u64 a15,.u64 a16]),(12,.arr 3 (.int .i64) a17),(13,.box [.u64 a18,.u64 a19,.u64 a20,.u64 a21])]
abbrev aK0(a1:Bool)(a2:List Int)(a3:List Z2)(a4:List G5)(a5:Int)(a6:Int)(a7:Int)(a8:Int)(a9:List (List Int))(a10:List Int)(a11:List Z2)(a12:List (Z2×Int))(a13:Int)(a14:Int)(a15:Int)(a16:Int)(a17:List Int):List (Nat×Tv.Obj):=[(0,.box [.nils,.nils]),(1,.box [.sl 2,.sl 3,.bo a1]),(2,.arr 133 (.int .u32) a2),(3,.arr 271 pJ a3),(4,.arr 273 Y16 a4),(5,.box [.u64 a5,.u64 a6,.u64 a7,.u64 a8]),(6,.box [.sl 7,.sl 8]),(7,.arr 134 (.slice (.int .i64)) a9),(8,.arr 133 (.int .u32) a10),(9,.arr 271 pJ a11),(10,.mpo pJ (.int .i64) a12),(11,.box [.u64 a13,.u64 a14,.u64 a15,.u64 a16]),(12,.arr 3 (.int .i64) a17)]
abbrev aLJ(a1:Bool)(a2:List Int)(a3:List Z2)(a4:List G5)(a5:Int)(a6:Int)(a7:Int)(a8:Int)(a9:List (List Int))(a10:List Int)(a11:List Z2)(a12:List (Z2×Int))(a13:List Int):List (Nat×Tv.Obj):=[(0,.box [.nils,.nils]),(1,.box [.sl 2,.sl 3,.bo a1]),(2,.arr 133 (.int .u32) a2),(3,.arr 271 pJ a3),(4,.arr 273 Y16 a4),(5,.box [.u64 a5,.u64 a6,.u64 a7,.u64 a8]),(6,.box [.sl 7,.sl 8]),(7,.arr 134 (.slice (.int .i64)) a9),(8,.arr 133 (.int .u32) a10),(9,.arr 271 pJ a11),(10,.mpo pJ (.int .i64) a12),(11,.arr 3 (.int .i64) a13)]
abbrev aLG(a1:Bool)(a2:List Int)(a3:List Z2)(a4:List G5)(a5:Int)(a6:Int)(a7:Int)(a8:Int)(a9:List (List Int))(a10:List Int)(a11:List Z2)(a12:List (Z2×Int))(a13:Int)(a14:Int)(a15:Int)(a16:Int):List (Nat×Tv.Obj):=[(0,.box [.nils,.nils]),(1,.box [.sl 2,.sl 3,.bo a1]),(2,.arr 133 (.int .u32) a2),(3,.arr 271 pJ a3),(4,.arr 273 Y16 a4),(5,.box [.u64 a5,.u64 a6,.u64 a7,.u64 a8]),(6,.box [.sl 7,.sl 8]),(7,.arr 134 (.slice (.int .i64)) a9),(8,.arr 133 (.int .u32) a10),(9,.arr 271 pJ a11),(10,.mpo pJ (.int .i64) a12),(11,.box [.u64 a13,.u64 a14,.u64 a15,.u64 a16])]
abbrev aLN(a1:Bool)(a2:List Int)(a3:List Z2)(a4:List G5)(a5:Int)(a6:Int)(a7:Int)(a8:Int)(a9:List (List Int))(a10:List Int)(a11:List Z2)(a12:List (Z2×Int)):List (Nat×Tv.Obj):=[(0,.box [.nils,.nils]),(1,.box [.sl 2,.sl 3,.bo a1]),(2,.arr 133 (.int .u32) a2),(3,.arr 271 pJ a3),(4,.arr 273 Y16 a4),(5,.box [.u64 a5,.u64 a6,.u64 a7,.u64 a8]),(6,.box [.sl 7,.sl 8]),(7,.arr 134 (.slice (.int .i64)) a9),(8,.arr 133 (.int .u32) a10),(9,.arr 271 pJ a11),(10,.mpo pJ (.int .i64) a12)]
abbrev aKk(a1:List (List Int))(a2:List Int):List (Nat×Tv.Obj):=[(0,.box [.nils,.nils]),(1,.box [.sl 2,.sl 3]),(2,.arr 134 (.slice (.int .i64)) a1),(3,.arr 133 (.int .u32) a2)]
abbrev aKm(a1:Bool)(a2:List Int)(a3:List Z2)(a4:List G5)(a5:Int)(a6:Int)(a7:Int)(a8:Int):List (Nat×Tv.Obj):=[(0,.box [.nils,.nils]),(1,.box [.sl 2,.sl 3,.bo a1]),(2,.arr 133 (.int .u32) a2),(3,.arr 271 pJ a3),(4,.arr 273 Y16 a4),(5,.box [.u64 a5,.u64 a6,.u64 a7,.u64 a8])]
abbrev aKB(a1:Bool)(a2:List Int)(a3:List Z2)(a4:List G5):List (Nat×Tv.Obj):=[(0,.box [.nils,.nils]),(1,.box [.sl 2,.sl 3,.bo a1]),(2,.arr 133 (.int .u32) a2),(3,.arr 271 pJ a3),(4,.arr 273 Y16 a4)]
abbrev aHD(a1:Bool)(a2:List (List Int))(a3:Bool)(a4:List Int):List (Nat×Tv.Obj):=[(0,.box [.p a1 (.slice (.slice (.int .i64))) a2,.p a3 (.slice (.int .u32)) a4])]
abbrev aIZ(a1:List Z4)(a2:List Int)(a3:List Int):List (Nat×Tv.Obj):=[(0,.mpo .str (.int .i64) a1),(1,.arr 3 (.int .i64) a2),(2,.arr 3 (.int .i64) a3)]
abbrev aID(a1:List Z4)(a2:List Int)(a3:List Int)(a4:List Int):List (Nat×Tv.Obj):=[(0,.mpo .str (.int .i64) a1),(1,.arr 3 (.int .i64) a2),(2,.arr 3 (.int .i64) a3),(3,.arr 5 (.int .u8) a4)]
abbrev aLK(a1:Bool)(a2:List (List Int))(a3:Bool)(a4:List Int)(a5:List (List Int))(a6:List Int)(a7:List Int)(a8:List Int):List (Nat×Tv.Obj):=[(0,.box [.p a1 (.slice (.slice (.int .i64))) a2,.p a3 (.slice (.int .u32)) a4]),(1,.box [.nils,.nils]),(2,.box [.sl 3,.sl 4]),(3,.arr 134 (.slice (.int .i64)) a5),(4,.arr 133 (.int .u32) a6),(5,.arr 3 (.int .i64) a7),(6,.arr 3 (.int .i64) a8)]
abbrev aJT(a1:Bool)(a2:List (List Int))(a3:Bool)(a4:List Int)(a5:List (List Int))(a6:List Int)(a7:List Int)(a8:List Int)(a9:List Int):List (Nat×Tv.Obj):=[(0,.box [.p a1 (.slice (.slice (.int .i64))) a2,.p a3 (.slice (.int .u32)) a4]),(1,.box [.nils,.nils]),(2,.box [.sl 3,.sl 4]),(3,.arr 134 (.slice (.int .i64)) a5),(4,.arr 133 (.int .u32) a6),(5,.arr 3 (.int .i64) a7),(6,.arr 3 (.int .i64) a8),(7,.arr 3 (.int .i64) a9)]
abbrev aKT(a1:Bool)(a2:List (List Int))(a3:Bool)(a4:List Int)(a5:List Int):List (Nat×Tv.Obj):=[(0,.box [.p a1 (.slice (.slice (.int .i64))) a2,.p a3 (.slice (.int .u32)) a4]),(1,.box [.nils,.nils]),(2,.box [.nils,.nils]),(3,.arr 3 (.int .i64) a5)]
abbrev aKU(a1:Bool)(a2:List (List Int))(a3:Bool)(a4:List Int)(a5:List Int):List (Nat×Tv.Obj):=[(0,.box [.p a1 (.slice (.slice (.int .i64))) a2,.p a3 (.slice (.int .u32)) a4]),(1,.box [.nils,.nils]),(2,.box [.p false (.slice (.int .i64)) a5])]
abbrev aKg(a1:List (List UInt8))(a2:Int)(a3:Int)(a4:List Int)(a5:List Z7)(a6:List Tree)(a7:List Tree):List (Nat×Tv.Obj):=[(0,.box [.p false (.slice .str) a1,.u32 a2,.u32 a3,.p false (.slice (.int .i64)) a4,.p false (.slice (.prod (.int .u8) Y8)) a5]),(1,.arr 210 (.tree .u8 .u32) a6),(2,.arr 210 (.tree .u8 .u32) a7)]
abbrev aC0(a1:Arr 4352)(a2:List (Arr 256))(a3:List ((Arr 256)×Int))(a4:Arr 256):List (Nat×Tv.Obj):=[(0,.lmp .i64 4352 a1 [.sl 1]),(1,.arr 155 (.arr .u8 256) a2),(2,.mpo (.arr .u8 256) (.int .i64) a3),(3,.lmp .u8 256 a4 [])]
abbrev aKK(a1:Arr 4352)(a2:List (Arr 256))(a3:List ((Arr 256)×Int)):List (Nat×Tv.Obj):=[(0,.lmp .i64 4352 a1 [.sl 1]),(1,.arr 155 (.arr .u8 256) a2),(2,.mpo (.arr .u8 256) (.int .i64) a3)]
abbrev aLF(a1:Arr 4352)(a2:List (Arr 256)):List (Nat×Tv.Obj):=[(0,.lmp .i64 4352 a1 [.sl 1]),(1,.arr 155 (.arr .u8 256) a2)]
abbrev aIP(a1:Int)(a2:Int)(a3:Int)(a4:Int)(a5:Int)(a6:Int):List (Nat×Tv.Obj):=[(0,.box [.i32 a1,.i64 a2,.i64 a3]),(1,.box [.i32 a4,.i64 a5,.i64 a6])]
abbrev aIl(a1:List Int)(a2:List Int):List (Nat×Tv.Obj):=[(0,.box [.nils,.nils]),(1,.box [.sl 2,.sl 3]),(2,.arr 21 (.int .i32) a1),(3,.arr 5 (.int .u8) a2)]
abbrev aKS(a1:List Int)(a2:List Int)(a3:Int)(a4:Int)(a5:Int):List (Nat×Tv.Obj):=[(0,.box [.nils,.nils]),(1,.box [.sl 2,.sl 3]),(2,.arr 21 (.int .i32) a1),(3,.arr 5 (.int .u8) a2),(4,.box [.i32 a3,.i64 a4,.i64 a5])]
abbrev aLt(a1:List Int)(a2:List Int):List (Nat×Tv.Obj):=[(0,.box [.sl 1,.sl 2]),(1,.arr 21 (.int .i32) a1),(2,.arr 5 (.int .u8) a2)]
abbrev aGi(a1:Int)(a2:Int)(a3:List kK)(a4:List kK):List (Nat×Tv.Obj):=[(0,.box [.nils,.nils]),(1,.box [.i64 a1,.i64 a2]),(2,.box [.sl 3,.sl 4]),(3,.arr 221 Q7 a3),(4,.arr 221 Q7 a4)]
abbrev aHC(a1:List Int)(a2:List Int)(a3:List Int):List (Nat×Tv.Obj):=[(0,.arr 71 (.int .u8) a1),(1,.arr 3 (.int .i64) a2),(2,.arr 3 (.int .i64) a3)]
abbrev aKh(a1:Bool)(a2:List (List Int))(a3:Bool)(a4:List Int)(a5:List Int):List (Nat×Tv.Obj):=[(0,.box [.p a1 (.slice (.slice (.int .i64))) a2,.p a3 (.slice (.int .u32)) a4]),(1,.arr 3 (.int .i64) a5)]
abbrev aKG(a1:Bool)(a2:List Int)(a3:List Bool):List (Nat×Tv.Obj):=[(0,.box [.p a1 (.slice (.int .i32)) a2]),(1,.arr 4 .bool a3)]
abbrev aJw(a1:List Z2)(a2:List Int)(a3:Int)(a4:Int)(a5:Int):List (Nat×Tv.Obj):=[(0,.arr 184 cQ a1),(1,.arr 3 (.int .i64) a2),(2,.box [.i32 a3,.i64 a4,.i64 a5])]
abbrev aH2(a1:List Z2)(a2:List Int):List (Nat×Tv.Obj):=[(0,.box [.nils,.nils]),(1,.box [.p false (.slice cQ) a1,.sl 2]),(2,.arr 71 (.int .u8) a2)]
abbrev aLA(a1:Bool)(a2:List Z2)(a3:Bool)(a4:List Int)(a5:List Int):List (Nat×Tv.Obj):=[(0,.box [.p a1 (.slice cQ) a2,.p a3 (.slice (.int .u8)) a4]),(1,.arr 5 (.int .u8) a5)]
abbrev aK7(a1:Bool)(a2:List Z2)(a3:Bool)(a4:List Int):List (Nat×Tv.Obj):=[(0,.box [.p a1 (.slice cQ) a2,.p a3 (.slice (.int .u8)) a4])]
abbrev aKn(a1:Bool)(a2:List Z2)(a3:Bool)(a4:List Int)(a5:Int)(a6:Int)(a7:Int)(a8:Int)(a9:Int)(a10:Option Nat):List (Nat×Tv.Obj):=[(0,.box [.p a1 (.slice cQ) a2,.p a3 (.slice (.int .u8)) a4]),(1,.box [.i64 a5,.i64 a6,.u8 a7,.i64 a8,.i64 a9,.p false .flt a10])]
abbrev aIo(a1:Bool)(a2:List Z2)(a3:Bool)(a4:List Int)(a5:Int)(a6:Int)(a7:Int)(a8:Int)(a9:Int)(a10:Option Nat)(a11:Int)(a12:Int)(a13:Int)(a14:Int):List (Nat×Tv.Obj):=[(0,.box [.p a1 (.slice cQ) a2,.p a3 (.slice (.int .u8)) a4]),(1,.box [.i64 a5,.i64 a6,.u8 a7,.i64 a8,.i64 a9,.p false .flt a10]),(2,.box [.i64 a11,.i64 a12]),(3,.box [.i64 a13,.i64 a14])]
abbrev aJx(a1:Bool)(a2:List Z2)(a3:Bool)(a4:List Int)(a5:Int)(a6:Int)(a7:Int)(a8:Int)(a9:Int)(a10:Option Nat)(a11:Int)(a12:Int)(a13:Int)(a14:Int)(a15:Int)(a16:Int):List (Nat×Tv.Obj):=[(0,.box [.p a1 (.slice cQ) a2,.p a3 (.slice (.int .u8)) a4]),(1,.box [.i64 a5,.i64 a6,.u8 a7,.i64 a8,.i64 a9,.p false .flt a10]),(2,.box [.i64 a11,.i64 a12]),(3,.box [.i64 a13,.i64 a14]),(4,.box [.i64 a15,.i64 a16])]
abbrev aLk(a1:Int)(a2:Int)(a3:Int)(a4:Int):List (Nat×Tv.Obj):=[(0,.box [.i64 a1,.i64 a2]),(1,.box [.i64 a3,.i64 a4])]
abbrev aIL(a1:Bool)(a2:List Z2)(a3:Bool)(a4:List Int)(a5:Int)(a6:Int)(a7:Int)(a8:Int)(a9:Int)(a10:Option Nat)(a11:List (Int×Int)):List (Nat×Tv.Obj):=[(0,.box [.p a1 (.slice cQ) a2,.p a3 (.slice (.int .u8)) a4]),(1,.box [.i64 a5,.i64 a6,.u8 a7,.i64 a8,.i64 a9,.p false .flt a10]),(2,.arr 289 Y2 a11)]
abbrev aLE(a1:Bool)(a2:List Z2)(a3:Bool)(a4:List Int)(a5:List Int):List (Nat×Tv.Obj):=[(0,.box [.p a1 (.slice cQ) a2,.p a3 (.slice (.int .u8)) a4]),(1,.arr 3 (.int .i64) a5)]
abbrev aLh(a1:Bool)(a2:List Z2)(a3:Bool)(a4:List Int)(a5:Int)(a6:Int)(a7:Int)(a8:Int)(a9:Int)(a10:Option Nat)(a11:List (Int×Int))(a12:List Z2):List (Nat×Tv.Obj):=[(0,.box [.p a1 (.slice cQ) a2,.p a3 (.slice (.int .u8)) a4]),(1,.box [.i64 a5,.i64 a6,.u8 a7,.i64 a8,.i64 a9,.p false .flt a10]),(2,.arr 289 Y2 a11),(3,.arr 181 cQ a12)]
abbrev aCq(a1:Bool)(a2:List Z2)(a3:Bool)(a4:List Int)(a5:Int)(a6:Int)(a7:Int)(a8:Int)(a9:Int)(a10:Option Nat)(a11:Int)(a12:Int)(a13:Int)(a14:Int):List (Nat×Tv.Obj):=[(0,.box [.p a1 (.slice cQ) a2,.p a3 (.slice (.int .u8)) a4]),(1,.box [.i64 a5,.i64 a6,.u8 a7,.i64 a8,.i64 a9,.p false .flt a10]),(2,.box [.i64 a11,.i64 a12,.i64 a13,.u8 a14])]
abbrev aJu(a1:Bool)(a2:List Z2)(a3:Bool)(a4:List Int)(a5:Int)(a6:Int)(a7:Int)(a8:Int)(a9:Int)(a10:Option Nat)(a11:List Z2):List (Nat×Tv.Obj):=[(0,.box [.p a1 (.slice cQ) a2,.p a3 (.slice (.int .u8)) a4]),(1,.box [.i64 a5,.i64 a6,.u8 a7,.i64 a8,.i64 a9,.p false .flt a10]),(2,.arr 181 cQ a11)]
abbrev aKH(a1:List Z2)(a2:List Int)(a3:List Z2)(a4:List Int)(a5:List Z2)(a6:List (List Int)):List (Nat×Tv.Obj):=[(0,.box [.p false (.slice cQ) a1,.p false (.slice (.int .u8)) a2]),(1,.box [.p false (.slice cQ) a3,.p false (.slice (.int .u8)) a4,.p false (.slice cQ) a5,.sl 2]),(2,.arr 134 (.slice (.int .i64)) a6)]
abbrev aKR(a1:List Z2)(a2:List Int)(a3:List Z2)(a4:List (List Int)):List (Nat×Tv.Obj):=[(0,.box [.p false (.slice cQ) a1,.p false (.slice (.int .u8)) a2,.p false (.slice cQ) a3,.sl 1]),(1,.arr 134 (.slice (.int .i64)) a4)]
abbrev aKj(a1:List Z2)(a2:List Int)(a3:List Z2)(a4:List Int)(a5:List Z2):List (Nat×Tv.Obj):=[(0,.box [.p false (.slice cQ) a1,.p false (.slice (.int .u8)) a2]),(1,.box [.p false (.slice cQ) a3,.p false (.slice (.int .u8)) a4,.p false (.slice cQ) a5,.nils])]
abbrev aHG(a1:Bool)(a2:Option Z1)(a3:Int)(a4:Int)(a5:Int)(a6:Int)(a7:Int)(a8:Option Nat)(a9:List Int)(a10:List Z2)(a11:List Int)(a12:Option Z6)(a13:List Z9)(a14:List Z2)(a15:List Z2)(a16:List Int)(a17:List ((List UInt8)×Bool)):List (Nat×Tv.Obj):=[(0,.box [.sl 2,.bo a1,.p false (.ptr qJ) a2,.i64 a3,.i64 a4,.u8 a5,.i64 a6,.i64 a7,.p false .flt a8,.p false (.slice (.int .u8)) a9,.p false (.slice cQ) a10,.p false (.slice (.int .u8)) a11,.p false (.ptr (.prod N6 Y30)) a12,.mp 1]),(1,.mpo .str Y31 a13),(2,.arr 181 cQ a14),(3,.box [.p false (.slice cQ) a15,.p false (.slice (.int .u8)) a16]),(4,.mpo .str .bool a17)]
abbrev aK4(a1:Bool)(a2:Option Z1)(a3:Int)(a4:Int)(a5:Int)(a6:Int)(a7:Int)(a8:Option Nat)(a9:List Int)(a10:List Z2)(a11:List Int)(a12:Option Z6)(a13:List Z9)(a14:List Z2)(a15:List Z2)(a16:List Int)(a17:List ((List UInt8)×Bool))(a18:List Z2)(a19:Bool):List (Nat×Tv.Obj):=[(0,.box [.sl 2,.bo a1,.p false (.ptr qJ) a2,.i64 a3,.i64 a4,.u8 a5,.i64 a6,.i64 a7,.p false .flt a8,.p false (.slice (.int .u8)) a9,.p false (.slice cQ) a10,.p false (.slice (.int .u8)) a11,.p false (.ptr (.prod N6 Y30)) a12,.mp 1]),(1,.mpo .str Y31 a13),(2,.arr 181 cQ a14),(3,.box [.p false (.slice cQ) a15,.p false (.slice (.int .u8)) a16]),(4,.mpo .str .bool a17),(5,.box [.p false (.slice cQ) a18,.bo a19])]
abbrev oY(a1:List Z2)(a2:Bool)(a3:Option Z1)(a4:Int)(a5:Int)(a6:Int)(a7:Int)(a8:Int)(a9:Option Nat)(a10:List Int)(a11:List Z2)(a12:List Int)(a13:Option Z6)(a14:List Z9):List (Nat×Tv.Obj):=[(0,.box [.p false (.slice cQ) a1,.bo a2,.p false (.ptr qJ) a3,.i64 a4,.i64 a5,.u8 a6,.i64 a7,.i64 a8,.p false .flt a9,.p false (.slice (.int .u8)) a10,.p false (.slice cQ) a11,.p false (.slice (.int .u8)) a12,.p false (.ptr (.prod N6 Y30)) a13,.mp 1]),(1,.mpo .str Y31 a14)]
abbrev aKD(a1:Int)(a2:Int)(a3:Bool)(a4:List Int):List (Nat×Tv.Obj):=[(0,.box [.i64 a1,.i64 a2,.p a3 (.slice (.int .u8)) a4])]
abbrev aFv(a1:Bool)(a2:List Int)(a3:Bool)(a4:List Int)(a5:Bool)(a6:List Int):List (Nat×Tv.Obj):=[(0,.vrow 3 1 [.p a1 (.slice (.int .u8)) a2,.p a3 (.slice (.int .u8)) a4,.p a5 (.slice (.int .u8)) a6])]
abbrev aKx(a1:Bool)(a2:List Z2)(a3:Bool)(a4:List Int)(a5:List Z2):List (Nat×Tv.Obj):=[(0,.box [.p a1 (.slice cQ) a2,.p a3 (.slice (.int .u8)) a4]),(1,.arr 73 cQ a5)]
abbrev aKo(a1:List Z2)(a2:Bool)(a3:Option Z1)(a4:Int)(a5:Int)(a6:Int)(a7:Int)(a8:Int)(a9:Option Nat)(a10:List Int)(a11:List Z2)(a12:List Int)(a13:Option Z6)(a14:List Z9)(a15:List Z2)(a16:Bool):List (Nat×Tv.Obj):=[(0,.box [.p false (.slice cQ) a1,.bo a2,.p false (.ptr qJ) a3,.i64 a4,.i64 a5,.u8 a6,.i64 a7,.i64 a8,.p false .flt a9,.p false (.slice (.int .u8)) a10,.p false (.slice cQ) a11,.p false (.slice (.int .u8)) a12,.p false (.ptr (.prod N6 Y30)) a13,.mp 1]),(1,.mpo .str Y31 a14),(2,.arr 73 cQ a15),(3,.box [.sl 2,.bo a16])]
abbrev aKi(a1:List Z2)(a2:Bool)(a3:Option Z1)(a4:Int)(a5:Int)(a6:Int)(a7:Int)(a8:Int)(a9:Option Nat)(a10:List Int)(a11:List Z2)(a12:List Int)(a13:Option Z6)(a14:List Z9)(a15:List Z2):List (Nat×Tv.Obj):=[(0,.box [.p false (.slice cQ) a1,.bo a2,.p false (.ptr qJ) a3,.i64 a4,.i64 a5,.u8 a6,.i64 a7,.i64 a8,.p false .flt a9,.p false (.slice (.int .u8)) a10,.p false (.slice cQ) a11,.p false (.slice (.int .u8)) a12,.p false (.ptr (.prod N6 Y30)) a13,.mp 1]),(1,.mpo .str Y31 a14),(2,.arr 73 cQ a15)]
abbrev aI1(a1:List Z2)(a2:Bool)(a3:Option Z1)(a4:Int)(a5:Int)(a6:Int)(a7:Int)(a8:Int)(a9:Option Nat)(a10:List Int)(a11:List Z2)(a12:List Int)(a13:Option Z6)(a14:List Z9)(a15:List Int):List (Nat×Tv.Obj):=[(0,.box [.p false (.slice cQ) a1,.bo a2,.p false (.ptr qJ) a3,.i64 a4,.i64 a5,.u8 a6,.i64 a7,.i64 a8,.p false .flt a9,.p false (.slice (.int .u8)) a10,.p false (.slice cQ) a11,.p false (.slice (.int .u8)) a12,.p false (.ptr (.prod N6 Y30)) a13,.mp 1]),(1,.mpo .str Y31 a14),(2,.arr 5 (.int .u8) a15)]
abbrev aJk(a1:Int)(a2:Int)(a3:Bool)(a4:List Int)(a5:List Int):List (Nat×Tv.Obj):=[(0,.box [.i64 a1,.i64 a2,.p a3 (.slice (.int .u8)) a4]),(1,.arr 5 (.int .u8) a5)]
abbrev aKy(a1:Int)(a2:Int)(a3:Int)(a4:Int)(a5:Int)(a6:Option Nat)(a7:List Int)(a8:List Int):List (Nat×Tv.Obj):=[(0,.box [.u8 a1,.u8 a2,.u8 a3,.p false (.int .u16) a4,.p false (.int .u16) a5,.p false .flt a6]),(1,.arr 5 (.int .u8) a7),(2,.arr 5 (.int .u8) a8)]
abbrev aKC(a1:Int)(a2:Int)(a3:Int)(a4:Int)(a5:Int)(a6:Option Nat)(a7:List Int):List (Nat×Tv.Obj):=[(0,.box [.u8 a1,.u8 a2,.u8 a3,.p false (.int .u16) a4,.p false (.int .u16) a5,.p false .flt a6]),(1,.arr 5 (.int .u8) a7)]
abbrev aI4(a1:Bool)(a2:List Z2)(a3:Bool)(a4:Bool)(a5:List Z2)(a6:Bool):List (Nat×Tv.Obj):=[(0,.box [.p a1 (.slice cQ) a2,.bo a3]),(1,.box [.p a4 (.slice cQ) a5,.bo a6])]
abbrev aJm(a1:Int)(a2:Int)(a3:Int)(a4:Int)(a5:Int)(a6:Option Nat)(a7:List Z2)(a8:Bool)(a9:Option Z1)(a10:Int)(a11:Int)(a12:Int)(a13:Int)(a14:Int)(a15:Option Nat)(a16:List Int)(a17:List Z2)(a18:List Int)(a19:Option Z6)(a20:List Z9)(a21:List Z2):List (Nat×Tv.Obj):=[(0,.box [.u8 a1,.u8 a2,.u8 a3,.p false (.int .u16) a4,.p false (.int .u16) a5,.p false .flt a6]),(1,.box [.p false (.slice cQ) a7,.bo a8,.p false (.ptr qJ) a9,.i64 a10,.i64 a11,.u8 a12,.i64 a13,.i64 a14,.p false .flt a15,.p false (.slice (.int .u8)) a16,.p false (.slice cQ) a17,.p false (.slice (.int .u8)) a18,.p false (.ptr (.prod N6 Y30)) a19,.mp 2]),(2,.mpo .str Y31 a20),(3,.arr 73 cQ a21)]
abbrev aJd(a1:Int)(a2:Int)(a3:Int)(a4:Int)(a5:Int)(a6:Option Nat)(a7:List Z2)(a8:Bool)(a9:Option Z1)(a10:Int)(a11:Int)(a12:Int)(a13:Int)(a14:Int)(a15:Option Nat)(a16:List Int)(a17:List Z2)(a18:List Int)(a19:Option Z6)(a20:List Z9):List (Nat×Tv.Obj):=[(0,.box [.u8 a1,.u8 a2,.u8 a3,.p false (.int .u16) a4,.p false (.int .u16) a5,.p false .flt a6]),(1,.box [.p false (.slice cQ) a7,.bo a8,.p false (.ptr qJ) a9,.i64 a10,.i64 a11,.u8 a12,.i64 a13,.i64 a14,.p false .flt a15,.p false (.slice (.int .u8)) a16,.p false (.slice cQ) a17,.p false (.slice (.int .u8)) a18,.p false (.ptr (.prod N6 Y30)) a19,.mp 2]),(2,.mpo .str Y31 a20)]
abbrev aKs(a1:Int)(a2:Int)(a3:Int)(a4:Int)(a5:Int)(a6:Option Nat)(a7:List Z2)(a8:Bool)(a9:Option Z1)(a10:Int)(a11:Int)(a12:Int)(a13:Int)(a14:Int)(a15:Option Nat)(a16:List Int)(a17:List Z2)(a18:List Int)(a19:Option Z6)(a20:List Z9)(a21:List Int)(a22:List Z2):List (Nat×Tv.Obj):=[(0,.box [.u8 a1,.u8 a2,.u8 a3,.p false (.int .u16) a4,.p false (.int .u16) a5,.p false .flt a6]),(1,.box [.p false (.slice cQ) a7,.bo a8,.p false (.ptr qJ) a9,.i64 a10,.i64 a11,.u8 a12,.i64 a13,.i64 a14,.p false .flt a15,.p false (.slice (.int .u8)) a16,.p false (.slice cQ) a17,.p false (.slice (.int .u8)) a18,.p false (.ptr (.prod N6 Y30)) a19,.mp 2]),(2,.mpo .str Y31 a20),(3,.arr 5 (.int .u8) a21),(4,.arr 73 cQ a22)]
abbrev aKq(a1:Int)(a2:Int)(a3:Int)(a4:Int)(a5:Int)(a6:Option Nat)(a7:List Z2)(a8:Bool)(a9:Option Z1)(a10:Int)(a11:Int)(a12:Int)(a13:Int)(a14:Int)(a15:Option Nat)(a16:List Int)(a17:List Z2)(a18:List Int)(a19:Option Z6)(a20:List Z9)(a21:Int)(a22:Int)(a23:List Int):List (Nat×Tv.Obj):=[(0,.box [.u8 a1,.u8 a2,.u8 a3,.p false (.int .u16) a4,.p false (.int .u16) a5,.p false .flt a6]),(1,.box [.p false (.slice cQ) a7,.bo a8,.p false (.ptr qJ) a9,.i64 a10,.i64 a11,.u8 a12,.i64 a13,.i64 a14,.p false .flt a15,.p false (.slice (.int .u8)) a16,.p false (.slice cQ) a17,.p false (.slice (.int .u8)) a18,.p false (.ptr (.prod N6 Y30)) a19,.mp 2]),(2,.mpo .str Y31 a20),(3,.box [.i64 a21,.i64 a22,.sl 4]),(4,.arr 5 (.int .u8) a23)]
abbrev aK5(a1:Int)(a2:Int)(a3:Int)(a4:Int)(a5:Int)(a6:Option Nat)(a7:List Int)(a8:List Int)(a9:List Z2)(a10:Bool)(a11:Option Z1)(a12:Int)(a13:Int)(a14:Int)(a15:Int)(a16:Int)(a17:Option Nat)(a18:List Int)(a19:List Z2)(a20:List Int)(a21:Option Z6)(a22:List Z9):List (Nat×Tv.Obj):=[(0,.box [.u8 a1,.u8 a2,.u8 a3,.p false (.int .u16) a4,.p false (.int .u16) a5,.p false .flt a6]),(1,.arr 5 (.int .u8) a7),(2,.arr 5 (.int .u8) a8),(3,.box [.p false (.slice cQ) a9,.bo a10,.p false (.ptr qJ) a11,.i64 a12,.i64 a13,.u8 a14,.i64 a15,.i64 a16,.p false .flt a17,.p false (.slice (.int .u8)) a18,.p false (.slice cQ) a19,.p false (.slice (.int .u8)) a20,.p false (.ptr (.prod N6 Y30)) a21,.mp 4]),(4,.mpo .str Y31 a22)]
abbrev aKY(a1:Int)(a2:Int)(a3:Int)(a4:Int)(a5:Int)(a6:Option Nat)(a7:List Int)(a8:List Z2)(a9:Bool)(a10:Option Z1)(a11:Int)(a12:Int)(a13:Int)(a14:Int)(a15:Int)(a16:Option Nat)(a17:List Int)(a18:List Z2)(a19:List Int)(a20:Option Z6)(a21:List Z9):List (Nat×Tv.Obj):=[(0,.box [.u8 a1,.u8 a2,.u8 a3,.p false (.int .u16) a4,.p false (.int .u16) a5,.p false .flt a6]),(1,.arr 5 (.int .u8) a7),(2,.box [.p false (.slice cQ) a8,.bo a9,.p false (.ptr qJ) a10,.i64 a11,.i64 a12,.u8 a13,.i64 a14,.i64 a15,.p false .flt a16,.p false (.slice (.int .u8)) a17,.p false (.slice cQ) a18,.p false (.slice (.int .u8)) a19,.p false (.ptr (.prod N6 Y30)) a20,.mp 3]),(3,.mpo .str Y31 a21)]
abbrev aKl(a1:Int)(a2:Int)(a3:Int)(a4:Int)(a5:Int)(a6:Option Nat):List (Nat×Tv.Obj):=[(0,.box [.u8 a1,.u8 a2,.u8 a3,.p false (.int .u16) a4,.p false (.int .u16) a5,.p false .flt a6])]
def tb:Tab:=[
 (3,⟨some (.int .i64),(.int .i64),1,8,[.i64 0]⟩),
 (4,⟨some .bool,.bool,1,1,[.bo false]⟩),
 (5,⟨some (.int .u8),(.int .u8),1,1,[.u8 0]⟩),
 (9,⟨some .str,.str,1,16,[.st ([]:List UInt8)]⟩),
 (20,⟨none,.other,1,16,[.lit .nilIface]⟩),
 (21,⟨some (.int .i32),(.int .i32),1,4,[.i32 0]⟩),
 (22,⟨some (.slice (.int .u8)),(.sl 5),1,24,[.nils]⟩),
 (28,⟨some (.int .u16),(.int .u16),1,2,[.p false (.int .u16) (0:Int)]⟩),
 (29,⟨some .flt,.flt,1,8,[.p false .flt (eK 0)]⟩),
 (31,⟨some Y37,(.st [(0,5),(1,5),(2,5),(3,28),(4,28),(5,29)]),6,16,[.u8 0,.u8 0,.u8 0,.p false (.int .u16) (0:Int),.p false (.int .u16) (0:Int),.p false .flt (eK 0)]⟩),
 (33,⟨some (.ptr qJ),.other,1,8,[.nilp]⟩),
 (34,⟨some (.int .i64),(.int .i64),1,8,[.i64 0]⟩),
 (36,⟨some Y2,(.st [(0,34),(1,3)]),2,16,[.i64 0,.i64 0]⟩),
 (39,⟨some (.slice (.prod (.int .i32) Y1)),(.sl 106),1,24,[.nils]⟩),
 (41,⟨some Y7,(.st [(0,39),(1,39),(2,39),(3,39),(4,9),(5,9),(6,9),(7,3),(8,3)]),9,160,[.nils,.nils,.nils,.nils,.st ([]:List UInt8),.st ([]:List UInt8),.st ([]:List UInt8),.i64 0,.i64 0]⟩),
 (44,⟨some (.int .u8),(.int .u8),1,1,[.u8 0]⟩),
 (46,⟨some Y34,(.st [(0,3),(1,3),(2,44),(3,3),(4,3),(5,29)]),6,48,[.i64 0,.i64 0,.u8 0,.i64 0,.i64 0,.p false .flt (eK 0)]⟩),
 (48,⟨some (.int .u64),(.int .u64),1,8,[.u64 0]⟩),
 (49,⟨none,.other,1,8,[.nilp]⟩),
 (54,⟨some (.prod (.int .i64) Y38),(.st [(0,3),(1,3),(2,22)]),3,40,[.i64 0,.i64 0,.nils]⟩),
 (57,⟨some (.slice cQ),(.sl 73),1,24,[.nils]⟩),
 (59,⟨some Y31,(.st [(0,57),(1,4)]),2,32,[.nils,.bo false]⟩),
 (71,⟨some (.int .u8),(.int .u8),1,1,[.u8 0]⟩),
 (73,⟨some cQ,(.st [(0,3),(1,3),(2,3),(3,71)]),4,32,[.i64 0,.i64 0,.i64 0,.u8 0]⟩),
 (79,⟨some Y2,(.st [(0,3),(1,3)]),2,16,[.i64 0,.i64 0]⟩),
 (89,⟨some (.ptr qO),.other,1,8,[.nilp]⟩),
 (90,⟨some (.ptr P8),.other,1,8,[.nilp]⟩),
 (91,⟨some (.ptr rF),.other,1,8,[.nilp]⟩),
 (93,⟨some qJ,(.st [(0,89),(1,89),(2,90),(3,90),(4,90),(5,91)]),6,48,[.nilp,.nilp,.nilp,.nilp,.nilp,.nilp]⟩),
 (96,⟨none,.other,1,8,[.nilp]⟩),
 (98,⟨none,(.st [(0,96),(1,39),(2,3)]),3,40,[.nilp,.nils,.i64 0]⟩),
 (99,⟨none,(.sl 98),1,24,[.nils]⟩),
 (106,⟨some (.prod (.int .i32) Y1),(.st [(0,21),(1,21),(2,3)]),3,16,[.i32 0,.i32 0,.i64 0]⟩),
 (109,⟨some (.slice .str),(.sl 9),1,24,[.nils]⟩),
 (111,⟨none,(.mp 9 114),1,8,[.lit (.map none)]⟩),
 (112,⟨some (.slice cQ),(.sl 181),1,24,[.nils]⟩),
 (114,⟨some Y31,(.st [(0,112),(1,4)]),2,32,[.nils,.bo false]⟩),
 (115,⟨some (.slice cQ),(.sl 184),1,24,[.nils]⟩),
 (116,⟨some (.slice (.int .u8)),(.sl 71),1,24,[.nils]⟩),
 (118,⟨some N6,(.st [(0,115),(1,116)]),2,48,[.nils,.nils]⟩),
 (119,⟨some (.ptr (.prod N6 Y30)),.other,1,8,[.nilp]⟩),
 (121,⟨none,(.st [(0,114),(2,33),(3,46),(9,22),(10,118),(12,119),(13,111)]),14,176,[.nils,.bo false,.nilp,.i64 0,.i64 0,.u8 0,.i64 0,.i64 0,.p false .flt (eK 0),.nils,.nils,.nils,.nilp,.lit (.map none)]⟩),
 (132,⟨some (.slice .bool),(.sl 4),1,24,[.nils]⟩),
 (133,⟨some (.int .u32),(.int .u32),1,4,[.u32 0]⟩),
 (134,⟨some (.slice (.int .i64)),(.sl 3),1,24,[.nils]⟩),
 (135,⟨some (.slice (.prod (.int .u8) Y8)),(.sl 212),1,24,[.nils]⟩),
 (137,⟨some Y11,(.st [(0,109),(1,133),(2,133),(3,134),(4,135)]),5,80,[.nils,.u32 0,.u32 0,.nils,.nils]⟩),
 (142,⟨some (.slice (.slice (.int .i64))),(.sl 134),1,24,[.nils]⟩),
 (143,⟨some (.slice (.int .u32)),(.sl 133),1,24,[.nils]⟩),
 (145,⟨some Y12,(.st [(0,142),(1,143)]),2,48,[.nils,.nils]⟩),
 (147,⟨some qO,(.st [(0,137),(5,145),(7,145)]),9,176,[.nils,.u32 0,.u32 0,.nils,.nils,.nils,.nils,.nils,.nils]⟩),
 (149,⟨some (.slice (.arr .u8 256)),(.sl 155),1,24,[.nils]⟩),
 (150,⟨some (.arr .i64 4352),(.ar 4352 3),4352,34816,(List.replicate 4352 (.i64 0))⟩),
 (152,⟨some P8,(.st [(0,150),(4352,149)]),4353,34840,(List.replicate 4352 (.i64 0)++[.nils])⟩),
 (153,⟨none,(.mp 155 3),1,8,[.lit (.map none)]⟩),
 (155,⟨some (.arr .u8 256),(.ar 256 5),256,256,(List.replicate 256 (.u8 0))⟩),
 (158,⟨some (.slice Q7),(.sl 221),1,24,[.nils]⟩),
 (160,⟨some Y26,(.st [(0,158),(1,158)]),2,48,[.nils,.nils]⟩),
 (164,⟨some (.ptr F9),.other,1,8,[.nilp]⟩),
 (167,⟨some rF,(.st [(0,39),(1,164),(2,158),(3,3),(4,3)]),5,72,[.nils,.nilp,.nils,.i64 0,.i64 0]⟩),
 (168,⟨some (.slice (.int .i32)),(.sl 21),1,24,[.nils]⟩),
 (174,⟨none,(.mp 9 4),1,8,[.lit (.map none)]⟩),
 (181,⟨some cQ,(.st [(0,3),(1,3),(2,3),(3,71)]),4,32,[.i64 0,.i64 0,.i64 0,.u8 0]⟩),
 (182,⟨some (.int .u8),(.int .u8),1,1,[.u8 0]⟩),
 (184,⟨some cQ,(.st [(0,3),(1,3),(2,3),(3,182)]),4,32,[.i64 0,.i64 0,.i64 0,.u8 0]⟩),
 (185,⟨some (.slice (.prod (.int .i32) Y2)),(.sl 219),1,24,[.nils]⟩),
 (193,⟨some (.prod N6 Y30),(.st [(0,118),(2,112),(3,142)]),4,96,[.nils,.nils,.nils,.nils]⟩),
 (198,⟨none,.other,1,8,[.unk]⟩),
 (201,⟨none,.other,1,8,[.nilp]⟩),
 (202,⟨none,(.mp 9 133),1,8,[.lit (.map none)]⟩),
 (204,⟨none,(.st [(0,9),(1,3),(2,137),(7,202),(8,3),(9,3)]),10,128,[.st ([]:List UInt8),.i64 0,.nils,.u32 0,.u32 0,.nils,.nils,.lit (.map none),.i64 0,.i64 0]⟩),
 (207,⟨some (.slice (.tree .u8 .u32)),(.sl 210),1,24,[.nils]⟩),
 (208,⟨some (.int .u8),(.int .u8),1,1,[.u8 0]⟩),
 (210,⟨some (.tree .u8 .u32),(.st [(0,208),(1,133),(2,207)]),3,32,[.u8 0,.u32 0,.nils]⟩),
 (212,⟨some (.prod (.int .u8) Y8),(.st [(0,71),(1,210),(4,210)]),7,72,[.u8 0,.u8 0,.u32 0,.nils,.u8 0,.u32 0,.nils]⟩),
 (219,⟨some (.prod (.int .i32) Y2),(.st [(0,21),(1,3),(2,3)]),3,24,[.i32 0,.i64 0,.i64 0]⟩),
 (221,⟨some Q7,(.st [(0,168),(1,22)]),2,48,[.nils,.nils]⟩),
 (227,⟨none,.other,1,8,[.unk]⟩),
 (228,⟨some (.slice Y18),(.sl 233),1,24,[.nils]⟩),
 (230,⟨some F9,(.st [(0,228)]),1,24,[.nils]⟩),
 (231,⟨some (.mapi .i32 .i64),(.mp 21 3),1,8,[.lit (.map none)]⟩),
 (233,⟨some Y18,(.st [(0,231),(1,22)]),2,32,[.lit (.map none),.nils]⟩),
 (241,⟨some (.slice (.slice (.int .u8))),(.sl 22),1,24,[.nils]⟩),
 (255,⟨none,.other,1,8,[.unk]⟩),
 (256,⟨none,(.mp 9 255),1,8,[.lit (.map none)]⟩),
 (257,⟨none,(.mp 9 71),1,8,[.lit (.map none)]⟩),
 (264,⟨none,.other,1,8,[.nilp]⟩),
 (265,⟨some (.slice pJ),(.sl 271),1,24,[.nils]⟩),
 (267,⟨some Y40,(.st [(0,143),(1,265),(2,4)]),3,56,[.nils,.nils,.bo false]⟩),
 (268,⟨some (.slice Y16),(.sl 273),1,24,[.nils]⟩),
 (269,⟨some (.int .u64),(.int .u64),1,8,[.u64 0]⟩),
 (271,⟨some pJ,(.ar 4 269),4,32,[.u64 0,.u64 0,.u64 0,.u64 0]⟩),
 (273,⟨some Y16,(.st [(0,4),(1,271),(5,271)]),9,72,[.bo false,.u64 0,.u64 0,.u64 0,.u64 0,.u64 0,.u64 0,.u64 0,.u64 0]⟩),
 (276,⟨none,(.mp 271 3),1,8,[.lit (.map none)]⟩),
 (281,⟨none,.other,1,8,[.unk]⟩),
 (285,⟨none,.other,1,8,[.unk]⟩),
 (287,⟨some (.slice Y2),(.sl 289),1,24,[.nils]⟩),
 (289,⟨some Y2,(.st [(0,3),(1,3)]),2,16,[.i64 0,.i64 0]⟩),
 (307,⟨none,(.mp 9 3),1,8,[.lit (.map none)]⟩),
 (321,⟨some (.prod (.int .u8) Y43),(.ar 7 5),7,7,[.u8 0,.u8 0,.u8 0,.u8 0,.u8 0,.u8 0,.u8 0]⟩)]
theorem bB:TabOK Tryz.prog tb:=aJ6 (by kernel_rfl) (by kernel_rfl) (by kernel_rfl)
theorem aKa:aJZ Tryz.prog 73 cQ:=aIC 8 (by decide) (by kernel_rfl) ⟨by kernel_rfl,rfl⟩
theorem aE7:KeyOk Tryz.prog 155 (.arr .u8 256):=KeyOk.of_ints (e:=5) rfl rfl rfl (by kernel_rfl) rfl rfl rfl
theorem aB0:KeyOk Tryz.prog 271 pJ:=KeyOk.of_ints (e:=269) rfl rfl rfl (by kernel_rfl) rfl rfl rfl
theorem xG:Tryz.prog.follows .mixedOrders=true:=by kernel_rfl
section
variable{n:NS}{Bw:Nat→Prop}{w0:Base Tryz.prog}{σ:St}{Q:Exit→St→Prop}{id:Nat}{ops:Array Oper}{d:Code}{fid:FuncId}{args:List AVal}{hin hout:List (Nat×Tv.Obj)}{r:AVal}{y:Value}
theorem Ge(hq:∀σ',Le n σ' (jO Tryz.prog tb a0 n ops σ)→Q .normal σ')(h:jR Tryz.prog tb a0 n ops σ=some (cP ops.size 0 []):=by kernel_rfl):W Tryz.prog n Bw w0 (.region id ops false) σ Q:=aG9 bB a0 [] h hq
theorem bS(an:An)(cs:List (Nat×Nat×PP))(hq:∀σ',Le n σ' (jO Tryz.prog tb an n ops σ)→Q .normal σ')(h:jR Tryz.prog tb an n ops σ=some (cP ops.size 0 cs):=by kernel_rfl):W Tryz.prog n Bw w0 (.region id ops false) σ Q:=aG9 bB an cs h hq
theorem qA(an:An)(cs:List (Nat×Nat×PP))(hq:∀σ',Le n σ' (aCY Tryz.prog tb an n ops σ)→Q .normal σ')(h:aDU Tryz.prog tb an n ops σ=some (cP ops.size 0 cs):=by kernel_rfl):W Tryz.prog n Bw w0 (.region id ops true) σ Q:=aKE bB xG an cs h hq
theorem GCe(i:Nat){α:Type}{p:Prop}[Decidable p]{u:Option α}{v:α}(h:(if p then u else none)=some v)(hq:u=some v→∀σ',Le n σ' (jO Tryz.prog tb a0 n ops σ)→Q .normal σ')(hk:jR Tryz.prog tb a0 n ops σ=some (cG ops.size i p):=by kernel_rfl):W Tryz.prog n Bw w0 (.region id ops false) σ Q:=aI5 bB i h hk hq
theorem GPe(i:Nat)(u:Pure Tryz.prog fid args r)(hq:∀σ',Le n σ' (jO Tryz.prog tb ⟨[],[(i,oP u)]⟩ n ops σ)→Q .normal σ')(h:jR Tryz.prog tb ⟨[],[(i,oP u)]⟩ n ops σ=some (cP ops.size 0 [(i,i,oc u)]):=by kernel_rfl):W Tryz.prog n Bw w0 (.region id ops false) σ Q:=aKJ bB i u h hq
theorem pP(i:Nat)(g:List Nat)(u:Owns Tryz.prog fid args hin r hout)(hq:∀σ',Le n σ' (jO Tryz.prog tb ⟨[],[(i,oO u g)]⟩ n ops σ)→Q .normal σ')(h:jR Tryz.prog tb ⟨[],[(i,oO u g)]⟩ n ops σ=some (cP ops.size 0 [(i,i,oc u)]):=by kernel_rfl):W Tryz.prog n Bw w0 (.region id ops false) σ Q:=aKL bB i g u h hq
theorem G(hq:W Tryz.prog n Bw w0 d (jO Tryz.prog tb a0 n ops σ) Q)(h:jR Tryz.prog tb a0 n ops σ=some (cP ops.size 0 []):=by kernel_rfl):W Tryz.prog n Bw w0 (.seq (.region id ops false) d) σ Q:=W_g bB a0 [] h hq
theorem GN(an:An)(cs:List (Nat×Nat×PP))(hq:W Tryz.prog n Bw w0 d (jO Tryz.prog tb an n ops σ) Q)(h:jR Tryz.prog tb an n ops σ=some (cP ops.size 0 cs):=by kernel_rfl):W Tryz.prog n Bw w0 (.seq (.region id ops false) d) σ Q:=W_g bB an cs h hq
theorem GD(an:An)(cs:List (Nat×Nat×PP))(hq:W Tryz.prog n Bw w0 d (aCY Tryz.prog tb an n ops σ) Q)(h:aDU Tryz.prog tb an n ops σ=some (cP ops.size 0 cs):=by kernel_rfl):W Tryz.prog n Bw w0 (.seq (.region id ops true) d) σ Q:=W_d bB xG an cs h hq
theorem GC(i:Nat){α:Type}{p:Prop}[Decidable p]{u:Option α}{v:α}(h:(if p then u else none)=some v)(hq:u=some v→W Tryz.prog n Bw w0 d (jO Tryz.prog tb a0 n ops σ) Q)(hk:jR Tryz.prog tb a0 n ops σ=some (cG ops.size i p):=by kernel_rfl):W Tryz.prog n Bw w0 (.seq (.region id ops false) d) σ Q:=aLp bB i h hk hq
theorem GP(i:Nat)(u:Pure Tryz.prog fid args r)(hq:W Tryz.prog n Bw w0 d (jO Tryz.prog tb ⟨[],[(i,oP u)]⟩ n ops σ) Q)(h:jR Tryz.prog tb ⟨[],[(i,oP u)]⟩ n ops σ=some (cP ops.size 0 [(i,i,oc u)]):=by kernel_rfl):W Tryz.prog n Bw w0 (.seq (.region id ops false) d) σ Q:=aLu bB i u h hq
theorem GO(i:Nat)(g:List Nat)(u:Owns Tryz.prog fid args hin r hout)(hq:W Tryz.prog n Bw w0 d (jO Tryz.prog tb ⟨[],[(i,oO u g)]⟩ n ops σ) Q)(h:jR Tryz.prog tb ⟨[],[(i,oO u g)]⟩ n ops σ=some (cP ops.size 0 [(i,i,oc u)]):=by kernel_rfl):W Tryz.prog n Bw w0 (.seq (.region id ops false) d) σ Q:=aLI bB i g u h hq
theorem GX(i:Nat)(g:List Nat)(u:Dies Tryz.prog fid args hin y)(hq:∀σ',Q (.panic [{ v:=y,recovered:=false }]) σ')(h:aDc Tryz.prog tb ⟨[],[(i,oD u g)]⟩ n ops i σ=some (cP (i+1) 0 [(i,i,oc u)],y):=by kernel_rfl):W Tryz.prog n Bw w0 (.region id ops false) σ Q:=aLS bB i g u h hq
theorem GXn(u:Dies Tryz.prog fid args hin y)(an:An)(i:Nat)(cs:List (Nat×Nat×PP))(hq:∀σ',Q (.panic [{ v:=y,recovered:=false }]) σ')(h:aDc Tryz.prog tb an n ops i σ=some (cP (i+1) 0 cs,y):=by kernel_rfl):W Tryz.prog n Bw w0 (.region id ops false) σ Q:=W_x bB u an i cs h hq
end
end
end Go.Proofs.YtbedjpdfkmfplaaGreatDoor.T
