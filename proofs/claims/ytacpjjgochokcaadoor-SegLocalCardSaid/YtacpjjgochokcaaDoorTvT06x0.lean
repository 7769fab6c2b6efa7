/- Functions of the program as functions on data, and that the program's own come to them. -/
import Derived.Test.YtacpjjgochokcaaDoorTvSam
import Derived.Test.YtacpjjgochokcaaDoorProg
import Derived.KernelRfl
namespace Go.Proofs.YtacpjjgochokcaaDoor.T
open Go Go.Tv Go.Proofs
noncomputable section
set_option maxRecDepth 100000
set_option maxHeartbeats 4000000
abbrev Y1:Ty:=(.prod (.tree .u8 .u32) (.tree .u8 .u32))
abbrev Y2:Ty:=(.prod (.slice (.int .i64)) (.slice (.prod (.int .u8) Y1)))
abbrev Y3:Ty:=(.prod (.int .u32) (.prod (.int .u32) Y2))
abbrev Y4:Ty:=(.prod (.slice .str) Y3)
abbrev Y5:Ty:=(.prod (.int .i64) (.int .i64))
abbrev Y6:Ty:=(.prod (.slice (.slice (.int .i64))) (.slice (.int .u32)))
abbrev Y7:Ty:=(.prod Y4 (.prod Y6 Y6))
abbrev Y8:Ty:=(.prod (.int .u64) (.int .u64))
abbrev Y9:Ty:=(.prod (.int .u64) (.prod (.int .u64) Y8))
abbrev J6:Ty:=(.prod .bool (.prod Y9 Y9))
abbrev Y11:Ty:=(.prod (.slice (.int .u8)) (.slice (.int .u8)))
abbrev Y12:Ty:=(.prod (.slice (.int .u8)) (.slice (.prod (.int .u8) Y11)))
abbrev Y13:Ty:=(.prod (.int .u8) (.prod (.int .u8) Y12))
abbrev Y14:Ty:=(.prod (.int .u8) (.int .u8))
abbrev Y15:Ty:=(.prod (.prod (.int .u8) Y14) (.prod (.int .u8) Y14))
abbrev Y16:Ty:=(.prod (.prod (.int .u8) Y14) Y15)
abbrev Y17:Ty:=(.prod (.int .i64) (.prod (.int .i64) Y5))
abbrev Y18:Ty:=(.prod (.slice (.int .u32)) Y17)
abbrev Y19:Ty:=(.prod (.slice .str) Y18)
abbrev Y20:Ty:=(.prod (.int .i64) (.prod Y4 Y19))
abbrev Y21:Ty:=(.prod (.slice (.int .u8)) (.int .i64))
abbrev Y22:Ty:=(.prod (.slice Y9) .bool)
abbrev Y23:Ty:=(.prod (.slice (.int .u32)) Y22)
abbrev Y24:Ty:=(.prod (.int .u8) (.prod (.int .u8) Y14))
abbrev Y25:Ty:=(.prod (.int .u8) (.prod (.int .u8) Y24))
abbrev ob1(a1:Int)(a2:Int)(a3:Int)(a4:Int)(a5:List UInt8)(a6:Int)(a7:Int)(a8:Int)(a9:Int)(a10:Int)(a11:List ((List UInt8)×Int)):List (Nat×Tv.Obj):=[(0,.box [.nils,.u32 a1,.u32 a2,.nils,.nils]),(1,.box [.i64 a3,.i64 a4]),(2,.box [.st a5,.i64 a6,.nils,.u32 a7,.u32 a8,.nils,.nils,.mp 3,.i64 a9,.i64 a10]),(3,.mpo .str (.int .u32) a11)]
abbrev ob2(a1:List UInt8)(a2:Int)(a3:Int)(a4:Int)(a5:Int)(a6:Int)(a7:List ((List UInt8)×Int)):List (Nat×Tv.Obj):=[(0,.box [.st a1,.i64 a2,.nils,.u32 a3,.u32 a4,.nils,.nils,.mp 1,.i64 a5,.i64 a6]),(1,.mpo .str (.int .u32) a7)]
abbrev ob3(a1:Int)(a2:Int)(a3:Int)(a4:Int):List (Nat×Tv.Obj):=[(0,.box [.nils,.u32 a1,.u32 a2,.nils,.nils]),(1,.box [.i64 a3,.i64 a4])]
abbrev bJ(a1:List UInt8)(a2:Int)(a3:Int)(a4:Int)(a5:Int)(a6:Int)(a7:List (List UInt8))(a8:List Int)(a9:List (Int×Tree×Tree))(a10:List ((List UInt8)×Int)):List (Nat×Tv.Obj):=[(0,.box [.st a1,.i64 a2,.sl 1,.u32 a3,.u32 a4,.sl 2,.sl 3,.mp 4,.i64 a5,.i64 a6]),(1,.arr 9 .str a7),(2,.arr 3 (.int .i64) a8),(3,.arr 74 (.prod (.int .u8) Y1) a9),(4,.mpo .str (.int .u32) a10)]
abbrev aEV(a1:List UInt8)(a2:Int)(a3:Int)(a4:Int)(a5:Int)(a6:Int)(a7:List (Int×Tree×Tree))(a8:List ((List UInt8)×Int))(a9:List (List UInt8))(a10:List Int):List (Nat×Tv.Obj):=[(0,.box [.st a1,.i64 a2,.sl 5,.u32 a3,.u32 a4,.sl 6,.sl 3,.mp 4,.i64 a5,.i64 a6]),(3,.arr 74 (.prod (.int .u8) Y1) a7),(4,.mpo .str (.int .u32) a8),(5,.arr 9 .str a9),(6,.arr 3 (.int .i64) a10)]
abbrev aHV(a1:List UInt8)(a2:Int)(a3:Int)(a4:Int)(a5:Int)(a6:Int)(a7:List (List UInt8))(a8:List Int)(a9:List (Int×Tree×Tree))(a10:List ((List UInt8)×Int))(a11:Int)(a12:Int)(a13:Int)(a14:Int):List (Nat×Tv.Obj):=[(0,.box [.st a1,.i64 a2,.sl 1,.u32 a3,.u32 a4,.sl 2,.sl 3,.mp 4,.i64 a5,.i64 a6]),(1,.arr 9 .str a7),(2,.arr 3 (.int .i64) a8),(3,.arr 74 (.prod (.int .u8) Y1) a9),(4,.mpo .str (.int .u32) a10),(5,.box [.u8 a11,.u32 a12,.nils]),(6,.box [.u8 a13,.u32 a14,.nils])]
abbrev aGY(a1:List UInt8)(a2:Int)(a3:Int)(a4:Int)(a5:Int)(a6:Int)(a7:List (List UInt8))(a8:List Int)(a9:List (Int×Tree×Tree))(a10:List ((List UInt8)×Int))(a11:Int)(a12:Int):List (Nat×Tv.Obj):=[(0,.box [.st a1,.i64 a2,.sl 1,.u32 a3,.u32 a4,.sl 2,.sl 3,.mp 4,.i64 a5,.i64 a6]),(1,.arr 9 .str a7),(2,.arr 3 (.int .i64) a8),(3,.arr 74 (.prod (.int .u8) Y1) a9),(4,.mpo .str (.int .u32) a10),(5,.box [.u8 a11,.u32 a12,.nils])]
abbrev aFU(a1:List UInt8)(a2:Int)(a3:Int)(a4:Int)(a5:Int)(a6:Int)(a7:List (List UInt8))(a8:List Int)(a9:List (Int×Tree×Tree))(a10:List ((List UInt8)×Int))(a11:Int)(a12:Int)(a13:Int)(a14:Int)(a15:List Tree):List (Nat×Tv.Obj):=[(0,.box [.st a1,.i64 a2,.sl 1,.u32 a3,.u32 a4,.sl 2,.sl 3,.mp 4,.i64 a5,.i64 a6]),(1,.arr 9 .str a7),(2,.arr 3 (.int .i64) a8),(3,.arr 74 (.prod (.int .u8) Y1) a9),(4,.mpo .str (.int .u32) a10),(5,.box [.u8 a11,.u32 a12,.nils]),(6,.box [.u8 a13,.u32 a14,.p false (.slice (.tree .u8 .u32)) a15])]
abbrev aGi(a1:List UInt8)(a2:Int)(a3:Int)(a4:Int)(a5:Int)(a6:Int)(a7:List (List UInt8))(a8:List Int)(a9:List (Int×Tree×Tree))(a10:List ((List UInt8)×Int))(a11:Int)(a12:Int)(a13:List Tree):List (Nat×Tv.Obj):=[(0,.box [.st a1,.i64 a2,.sl 1,.u32 a3,.u32 a4,.sl 2,.sl 3,.mp 4,.i64 a5,.i64 a6]),(1,.arr 9 .str a7),(2,.arr 3 (.int .i64) a8),(3,.arr 74 (.prod (.int .u8) Y1) a9),(4,.mpo .str (.int .u32) a10),(5,.box [.u8 a11,.u32 a12,.sl 6]),(6,.arr 72 (.tree .u8 .u32) a13)]
abbrev aEc(a1:List UInt8)(a2:Int)(a3:Int)(a4:Int)(a5:Int)(a6:Int)(a7:List (List UInt8))(a8:List Int)(a9:List (Int×Tree×Tree))(a10:List ((List UInt8)×Int))(a11:Int)(a12:Int)(a13:List Tree):List (Nat×Tv.Obj):=[(0,.box [.st a1,.i64 a2,.sl 1,.u32 a3,.u32 a4,.sl 2,.sl 3,.mp 4,.i64 a5,.i64 a6]),(1,.arr 9 .str a7),(2,.arr 3 (.int .i64) a8),(3,.arr 74 (.prod (.int .u8) Y1) a9),(4,.mpo .str (.int .u32) a10),(5,.box [.u8 a11,.u32 a12,.p false (.slice (.tree .u8 .u32)) a13])]
abbrev aCy(a1:List UInt8)(a2:Int)(a3:Int)(a4:Int)(a5:Int)(a6:Int)(a7:List (List UInt8))(a8:List Int)(a9:List (Int×Tree×Tree))(a10:List ((List UInt8)×Int))(a11:Int)(a12:Int)(a13:List Tree):List (Nat×Tv.Obj):=[(0,.box [.st a1,.i64 a2,.sl 1,.u32 a3,.u32 a4,.sl 2,.sl 3,.mp 4,.i64 a5,.i64 a6]),(1,.arr 9 .str a7),(2,.arr 3 (.int .i64) a8),(3,.arr 74 (.prod (.int .u8) Y1) a9),(4,.mpo .str (.int .u32) a10),(5,.box [.u8 a11,.u32 a12,.nils]),(6,.arr 72 (.tree .u8 .u32) a13)]
abbrev aGP(a1:List UInt8)(a2:Int)(a3:Int)(a4:Int)(a5:Int)(a6:Int)(a7:List (List UInt8))(a8:List Int)(a9:List ((List UInt8)×Int))(a10:List (Int×Tree×Tree)):List (Nat×Tv.Obj):=[(0,.box [.st a1,.i64 a2,.sl 1,.u32 a3,.u32 a4,.sl 2,.sl 5,.mp 4,.i64 a5,.i64 a6]),(1,.arr 9 .str a7),(2,.arr 3 (.int .i64) a8),(4,.mpo .str (.int .u32) a9),(5,.arr 74 (.prod (.int .u8) Y1) a10)]
abbrev aID(a1:List UInt8)(a2:Int)(a3:Int)(a4:Int)(a5:Int)(a6:Int)(a7:List ((List UInt8)×Int))(a8:List (List UInt8))(a9:List Int)(a10:List (Int×Tree×Tree))(a11:List ((List UInt8)×Int)):List (Nat×Tv.Obj):=[(0,.box [.st a1,.i64 a2,.sl 2,.u32 a3,.u32 a4,.sl 3,.sl 4,.mp 1,.i64 a5,.i64 a6]),(1,.mpo .str (.int .u32) a7),(2,.arr 9 .str a8),(3,.arr 3 (.int .i64) a9),(4,.arr 74 (.prod (.int .u8) Y1) a10),(5,.mpl .str [(([99,108,97,115,115]:List UInt8),(C9 49)),(([115,101,116]:List UInt8),(C9 50)),(([106,111,105,110]:List UInt8),(C9 51)),(([116,114,101,97,116]:List UInt8),(C9 52))]),(6,.mpo .str (.int .u8) a11)]
abbrev aFZ(a1:List UInt8)(a2:Int)(a3:Int)(a4:Int)(a5:Int)(a6:Int)(a7:List ((List UInt8)×Int))(a8:List (List UInt8))(a9:List Int)(a10:List (Int×Tree×Tree)):List (Nat×Tv.Obj):=[(0,.box [.st a1,.i64 a2,.sl 2,.u32 a3,.u32 a4,.sl 3,.sl 4,.mp 1,.i64 a5,.i64 a6]),(1,.mpo .str (.int .u32) a7),(2,.arr 9 .str a8),(3,.arr 3 (.int .i64) a9),(4,.arr 74 (.prod (.int .u8) Y1) a10)]
abbrev aIA(a1:Int)(a2:Int)(a3:Bool)(a4:List Tree)(a5:Int)(a6:Int)(a7:Int)(a8:Int)(a9:List Tree)(a10:Int)(a11:Int)(a12:Bool)(a13:List Tree):List (Nat×Tv.Obj):=[(0,.box [.u8 a1,.u32 a2,.p a3 (.slice (.tree .u8 .u32)) a4]),(1,.box [.u8 a5,.u32 a6,.nils]),(2,.box [.u8 a7,.u32 a8,.sl 3]),(3,.arr 72 (.tree .u8 .u32) a9),(4,.box [.u8 a10,.u32 a11,.p a12 (.slice (.tree .u8 .u32)) a13])]
abbrev aIh(a1:Int)(a2:Int)(a3:Bool)(a4:List Tree)(a5:Int)(a6:Int)(a7:Int)(a8:Int)(a9:List Tree):List (Nat×Tv.Obj):=[(0,.box [.u8 a1,.u32 a2,.p a3 (.slice (.tree .u8 .u32)) a4]),(1,.box [.u8 a5,.u32 a6,.nils]),(2,.box [.u8 a7,.u32 a8,.sl 3]),(3,.arr 72 (.tree .u8 .u32) a9)]
abbrev aHP(a1:Int)(a2:Int)(a3:Int)(a4:Int)(a5:List Tree):List (Nat×Tv.Obj):=[(0,.box [.u8 a1,.u32 a2,.nils]),(1,.box [.u8 a3,.u32 a4,.sl 2]),(2,.arr 72 (.tree .u8 .u32) a5)]
abbrev aFC(a1:Bool)(a2:Int)(a3:Int)(a4:Int)(a5:Int)(a6:Int)(a7:Int)(a8:Int)(a9:Int):List (Nat×Tv.Obj):=[(0,.box [.bo a1,.u64 a2,.u64 a3,.u64 a4,.u64 a5,.u64 a6,.u64 a7,.u64 a8,.u64 a9])]
abbrev aGC(a1:Int)(a2:Int)(a3:Int)(a4:Int)(a5:Int)(a6:Int)(a7:Int)(a8:Int):List (Nat×Tv.Obj):=[(0,.box [.u64 a1,.u64 a2,.u64 a3,.u64 a4]),(1,.box [.u64 a5,.u64 a6,.u64 a7,.u64 a8])]
abbrev Z5(a1:Bool)(a2:List Int)(a3:List (Int×Int×Int×Int)):List (Nat×Tv.Obj):=[(0,.box [.sl 1,.sl 2,.bo a1]),(1,.arr 30 (.int .u32) a2),(2,.arr 126 Y9 a3)]
abbrev aIf(a1:Int)(a2:Int)(a3:Int)(a4:Int)(a5:Int)(a6:Int)(a7:Int)(a8:Int)(a9:Int)(a10:Int)(a11:Int)(a12:Int):List (Nat×Tv.Obj):=[(0,.box [.u64 a1,.u64 a2,.u64 a3,.u64 a4]),(1,.box [.u64 a5,.u64 a6,.u64 a7,.u64 a8]),(2,.box [.u64 a9,.u64 a10,.u64 a11,.u64 a12])]
abbrev aHd(a1:Bool)(a2:List Int)(a3:List (Int×Int×Int×Int))(a4:Int)(a5:Int)(a6:Int)(a7:Int)(a8:Int)(a9:Int)(a10:Int)(a11:Int):List (Nat×Tv.Obj):=[(0,.box [.sl 1,.sl 2,.bo a1]),(1,.arr 30 (.int .u32) a2),(2,.arr 126 Y9 a3),(3,.box [.u64 a4,.u64 a5,.u64 a6,.u64 a7]),(4,.box [.u64 a8,.u64 a9,.u64 a10,.u64 a11])]
abbrev aHO(a1:Bool)(a2:List Int)(a3:List (Int×Int×Int×Int))(a4:Int)(a5:Int)(a6:Bool)(a7:List Tree)(a8:Bool)(a9:Int)(a10:Int)(a11:Int)(a12:Int)(a13:Int)(a14:Int)(a15:Int)(a16:Int):List (Nat×Tv.Obj):=[(0,.box [.sl 1,.sl 2,.bo a1]),(1,.arr 30 (.int .u32) a2),(2,.arr 126 Y9 a3),(3,.box [.u8 a4,.u32 a5,.p a6 (.slice (.tree .u8 .u32)) a7]),(4,.box [.bo a8,.u64 a9,.u64 a10,.u64 a11,.u64 a12,.u64 a13,.u64 a14,.u64 a15,.u64 a16])]
abbrev aF0(a1:Bool)(a2:List Int)(a3:List (Int×Int×Int×Int)):List (Nat×Tv.Obj):=[(0,.box [.sl 3,.sl 4,.bo a1]),(3,.arr 30 (.int .u32) a2),(4,.arr 126 Y9 a3)]
abbrev aHr(a1:Bool)(a2:List Int)(a3:List (Int×Int×Int×Int))(a4:Bool)(a5:Int)(a6:Int)(a7:Int)(a8:Int)(a9:Int)(a10:Int)(a11:Int)(a12:Int)(a13:Bool)(a14:Int)(a15:Int)(a16:Int)(a17:Int)(a18:Int)(a19:Int)(a20:Int)(a21:Int)(a22:Bool)(a23:Int)(a24:Int)(a25:Int)(a26:Int)(a27:Int)(a28:Int)(a29:Int)(a30:Int):List (Nat×Tv.Obj):=[(0,.box [.sl 3,.sl 4,.bo a1]),(3,.arr 30 (.int .u32) a2),(4,.arr 126 Y9 a3),(5,.box [.bo a4,.u64 a5,.u64 a6,.u64 a7,.u64 a8,.u64 a9,.u64 a10,.u64 a11,.u64 a12]),(6,.box [.bo a13,.u64 a14,.u64 a15,.u64 a16,.u64 a17,.u64 a18,.u64 a19,.u64 a20,.u64 a21]),(7,.box [.bo a22,.u64 a23,.u64 a24,.u64 a25,.u64 a26,.u64 a27,.u64 a28,.u64 a29,.u64 a30])]
abbrev aEv(a1:Bool)(a2:List Int)(a3:List (Int×Int×Int×Int))(a4:Bool)(a5:Int)(a6:Int)(a7:Int)(a8:Int)(a9:Int)(a10:Int)(a11:Int)(a12:Int)(a13:Bool)(a14:Int)(a15:Int)(a16:Int)(a17:Int)(a18:Int)(a19:Int)(a20:Int)(a21:Int):List (Nat×Tv.Obj):=[(0,.box [.sl 3,.sl 4,.bo a1]),(3,.arr 30 (.int .u32) a2),(4,.arr 126 Y9 a3),(5,.box [.bo a4,.u64 a5,.u64 a6,.u64 a7,.u64 a8,.u64 a9,.u64 a10,.u64 a11,.u64 a12]),(6,.box [.bo a13,.u64 a14,.u64 a15,.u64 a16,.u64 a17,.u64 a18,.u64 a19,.u64 a20,.u64 a21])]
abbrev aF6(a1:Bool)(a2:Bool)(a3:Int)(a4:Int)(a5:Int)(a6:Int)(a7:Int)(a8:Int)(a9:Int)(a10:Int)(a11:Bool)(a12:Int)(a13:Int)(a14:Int)(a15:Int)(a16:Int)(a17:Int)(a18:Int)(a19:Int)(a20:List Int)(a21:List (Int×Int×Int×Int)):List (Nat×Tv.Obj):=[(0,.box [.sl 5,.sl 6,.bo a1]),(3,.box [.bo a2,.u64 a3,.u64 a4,.u64 a5,.u64 a6,.u64 a7,.u64 a8,.u64 a9,.u64 a10]),(4,.box [.bo a11,.u64 a12,.u64 a13,.u64 a14,.u64 a15,.u64 a16,.u64 a17,.u64 a18,.u64 a19]),(5,.arr 30 (.int .u32) a20),(6,.arr 126 Y9 a21)]
abbrev aHR(a1:Bool)(a2:Int)(a3:Int)(a4:Bool)(a5:List Tree)(a6:Bool)(a7:Int)(a8:Int)(a9:Int)(a10:Int)(a11:Int)(a12:Int)(a13:Int)(a14:Int)(a15:Bool)(a16:Int)(a17:Int)(a18:Int)(a19:Int)(a20:Int)(a21:Int)(a22:Int)(a23:Int)(a24:List Int)(a25:List (Int×Int×Int×Int)):List (Nat×Tv.Obj):=[(0,.box [.sl 6,.sl 7,.bo a1]),(3,.box [.u8 a2,.u32 a3,.p a4 (.slice (.tree .u8 .u32)) a5]),(4,.box [.bo a6,.u64 a7,.u64 a8,.u64 a9,.u64 a10,.u64 a11,.u64 a12,.u64 a13,.u64 a14]),(5,.box [.bo a15,.u64 a16,.u64 a17,.u64 a18,.u64 a19,.u64 a20,.u64 a21,.u64 a22,.u64 a23]),(6,.arr 30 (.int .u32) a24),(7,.arr 126 Y9 a25)]
abbrev aIt(a1:Bool)(a2:List Int)(a3:List (Int×Int×Int×Int))(a4:Int)(a5:Int)(a6:Bool)(a7:List Tree)(a8:Bool)(a9:Int)(a10:Int)(a11:Int)(a12:Int)(a13:Int)(a14:Int)(a15:Int)(a16:Int)(a17:Bool)(a18:Int)(a19:Int)(a20:Int)(a21:Int)(a22:Int)(a23:Int)(a24:Int)(a25:Int):List (Nat×Tv.Obj):=[(0,.box [.sl 3,.sl 4,.bo a1]),(3,.arr 30 (.int .u32) a2),(4,.arr 126 Y9 a3),(5,.box [.u8 a4,.u32 a5,.p a6 (.slice (.tree .u8 .u32)) a7]),(6,.box [.bo a8,.u64 a9,.u64 a10,.u64 a11,.u64 a12,.u64 a13,.u64 a14,.u64 a15,.u64 a16]),(7,.box [.bo a17,.u64 a18,.u64 a19,.u64 a20,.u64 a21,.u64 a22,.u64 a23,.u64 a24,.u64 a25])]
abbrev aBB(a1:Bool)(a2:List Int)(a3:List (Int×Int×Int×Int))(a4:Bool)(a5:Int)(a6:Int)(a7:Int)(a8:Int)(a9:Int)(a10:Int)(a11:Int)(a12:Int):List (Nat×Tv.Obj):=[(0,.box [.sl 3,.sl 4,.bo a1]),(3,.arr 30 (.int .u32) a2),(4,.arr 126 Y9 a3),(5,.box [.bo a4,.u64 a5,.u64 a6,.u64 a7,.u64 a8,.u64 a9,.u64 a10,.u64 a11,.u64 a12])]
abbrev aBD(a1:Bool)(a2:List Int)(a3:List (Int×Int×Int×Int))(a4:List (Bool×(Int×Int×Int×Int)×Int×Int×Int×Int))(a5:Int)(a6:Int)(a7:Int)(a8:Int)(a9:List (List Int))(a10:List Int)(a11:List (Int×Int×Int×Int))(a12:List ((Int×Int×Int×Int)×Int))(a13:Int)(a14:Int)(a15:Int)(a16:Int)(a17:Int)(a18:Int)(a19:Int)(a20:Int):List (Nat×Tv.Obj):=[(0,.box [.nils,.nils]),(1,.box [.sl 2,.sl 3,.bo a1]),(2,.arr 30 (.int .u32) a2),(3,.arr 126 Y9 a3),(4,.arr 128 J6 a4),(5,.box [.u64 a5,.u64 a6,.u64 a7,.u64 a8]),(6,.box [.sl 7,.sl 8]),(7,.arr 26 (.slice (.int .i64)) a9),(8,.arr 30 (.int .u32) a10),(9,.arr 126 Y9 a11),(10,.mpo Y9 (.int .i64) a12),(11,.box [.u64 a13,.u64 a14,.u64 a15,.u64 a16]),(12,.box [.u64 a17,.u64 a18,.u64 a19,.u64 a20])]
abbrev aD8(a1:Bool)(a2:List Int)(a3:List (Int×Int×Int×Int))(a4:List (Bool×(Int×Int×Int×Int)×Int×Int×Int×Int))(a5:Int)(a6:Int)(a7:Int)(a8:Int)(a9:List (List Int))(a10:List Int)(a11:List (Int×Int×Int×Int))(a12:List ((Int×Int×Int×Int)×Int))(a13:Int)(a14:Int)(a15:Int)(a16:Int)(a17:List Int)(a18:Int)(a19:Int)(a20:Int)(a21:Int):List (Nat×Tv.Obj):=[(0,.box [.nils,.nils]),(1,.box [.sl 2,.sl 3,.bo a1]),(2,.arr 30 (.int .u32) a2),(3,.arr 126 Y9 a3),(4,.arr 128 J6 a4),(5,.box [.u64 a5,.u64 a6,.u64 a7,.u64 a8]),(6,.box [.sl 7,.sl 8]),(7,.arr 26 (.slice (.int .i64)) a9),(8,.arr 30 (.int .u32) a10),(9,.arr 126 Y9 a11),(10,.mpo Y9 (.int .i64) a12),(11,.box [.u64 a13,.u64 a14,.u64 a15,.u64 a16]),(12,.arr 3 (.int .i64) a17),(13,.box [.u64 a18,.u64 a19,.u64 a20,.u64 a21])]
abbrev aGD(a1:Bool)(a2:List Int)(a3:List (Int×Int×Int×Int))(a4:List (Bool×(Int×Int×Int×Int)×Int×Int×Int×Int))(a5:Int)(a6:Int)(a7:Int)(a8:Int)(a9:List (List Int))(a10:List Int)(a11:List (Int×Int×Int×Int))(a12:List ((Int×Int×Int×Int)×Int))(a13:Int)(a14:Int)(a15:Int)(a16:Int)(a17:List Int):List (Nat×Tv.Obj):=[(0,.box [.nils,.nils]),(1,.box [.sl 2,.sl 3,.bo a1]),(2,.arr 30 (.int .u32) a2),(3,.arr 126 Y9 a3),(4,.arr 128 J6 a4),(5,.box [.u64 a5,.u64 a6,.u64 a7,.u64 a8]),(6,.box [.sl 7,.sl 8]),(7,.arr 26 (.slice (.int .i64)) a9),(8,.arr 30 (.int .u32) a10),(9,.arr 126 Y9 a11),(10,.mpo Y9 (.int .i64) a12),(11,.box [.u64 a13,.u64 a14,.u64 a15,.u64 a16]),(12,.arr 3 (.int .i64) a17)]
abbrev aHX(a1:Bool)(a2:List Int)(a3:List (Int×Int×Int×Int))(a4:List (Bool×(Int×Int×Int×Int)×Int×Int×Int×Int))(a5:Int)(a6:Int)(a7:Int)(a8:Int)(a9:List (List Int))(a10:List Int)(a11:List (Int×Int×Int×Int))(a12:List ((Int×Int×Int×Int)×Int))(a13:List Int):List (Nat×Tv.Obj):=[(0,.box [.nils,.nils]),(1,.box [.sl 2,.sl 3,.bo a1]),(2,.arr 30 (.int .u32) a2),(3,.arr 126 Y9 a3),(4,.arr 128 J6 a4),(5,.box [.u64 a5,.u64 a6,.u64 a7,.u64 a8]),(6,.box [.sl 7,.sl 8]),(7,.arr 26 (.slice (.int .i64)) a9),(8,.arr 30 (.int .u32) a10),(9,.arr 126 Y9 a11),(10,.mpo Y9 (.int .i64) a12),(11,.arr 3 (.int .i64) a13)]
abbrev aIz(a1:Bool)(a2:List Int)(a3:List (Int×Int×Int×Int))(a4:List (Bool×(Int×Int×Int×Int)×Int×Int×Int×Int))(a5:Int)(a6:Int)(a7:Int)(a8:Int)(a9:List (List Int))(a10:List Int)(a11:List (Int×Int×Int×Int))(a12:List ((Int×Int×Int×Int)×Int))(a13:Int)(a14:Int)(a15:Int)(a16:Int):List (Nat×Tv.Obj):=[(0,.box [.nils,.nils]),(1,.box [.sl 2,.sl 3,.bo a1]),(2,.arr 30 (.int .u32) a2),(3,.arr 126 Y9 a3),(4,.arr 128 J6 a4),(5,.box [.u64 a5,.u64 a6,.u64 a7,.u64 a8]),(6,.box [.sl 7,.sl 8]),(7,.arr 26 (.slice (.int .i64)) a9),(8,.arr 30 (.int .u32) a10),(9,.arr 126 Y9 a11),(10,.mpo Y9 (.int .i64) a12),(11,.box [.u64 a13,.u64 a14,.u64 a15,.u64 a16])]
abbrev aIj(a1:Bool)(a2:List Int)(a3:List (Int×Int×Int×Int))(a4:List (Bool×(Int×Int×Int×Int)×Int×Int×Int×Int))(a5:Int)(a6:Int)(a7:Int)(a8:Int)(a9:List (List Int))(a10:List Int)(a11:List (Int×Int×Int×Int))(a12:List ((Int×Int×Int×Int)×Int)):List (Nat×Tv.Obj):=[(0,.box [.nils,.nils]),(1,.box [.sl 2,.sl 3,.bo a1]),(2,.arr 30 (.int .u32) a2),(3,.arr 126 Y9 a3),(4,.arr 128 J6 a4),(5,.box [.u64 a5,.u64 a6,.u64 a7,.u64 a8]),(6,.box [.sl 7,.sl 8]),(7,.arr 26 (.slice (.int .i64)) a9),(8,.arr 30 (.int .u32) a10),(9,.arr 126 Y9 a11),(10,.mpo Y9 (.int .i64) a12)]
abbrev aHf(a1:List (List Int))(a2:List Int):List (Nat×Tv.Obj):=[(0,.box [.nils,.nils]),(1,.box [.sl 2,.sl 3]),(2,.arr 26 (.slice (.int .i64)) a1),(3,.arr 30 (.int .u32) a2)]
abbrev aGA(a1:Bool)(a2:List Int)(a3:List (Int×Int×Int×Int))(a4:List (Bool×(Int×Int×Int×Int)×Int×Int×Int×Int))(a5:Int)(a6:Int)(a7:Int)(a8:Int):List (Nat×Tv.Obj):=[(0,.box [.nils,.nils]),(1,.box [.sl 2,.sl 3,.bo a1]),(2,.arr 30 (.int .u32) a2),(3,.arr 126 Y9 a3),(4,.arr 128 J6 a4),(5,.box [.u64 a5,.u64 a6,.u64 a7,.u64 a8])]
abbrev aGy(a1:Bool)(a2:List Int)(a3:List (Int×Int×Int×Int))(a4:List (Bool×(Int×Int×Int×Int)×Int×Int×Int×Int)):List (Nat×Tv.Obj):=[(0,.box [.nils,.nils]),(1,.box [.sl 2,.sl 3,.bo a1]),(2,.arr 30 (.int .u32) a2),(3,.arr 126 Y9 a3),(4,.arr 128 J6 a4)]
abbrev aDn(a1:Bool)(a2:List (List Int))(a3:Bool)(a4:List Int):List (Nat×Tv.Obj):=[(0,.box [.p a1 (.slice (.slice (.int .i64))) a2,.p a3 (.slice (.int .u32)) a4])]
abbrev aE4(a1:List ((List UInt8)×Int))(a2:List Int)(a3:List Int):List (Nat×Tv.Obj):=[(0,.mpo .str (.int .i64) a1),(1,.arr 3 (.int .i64) a2),(2,.arr 3 (.int .i64) a3)]
abbrev aEX(a1:List ((List UInt8)×Int))(a2:List Int)(a3:List Int)(a4:List Int):List (Nat×Tv.Obj):=[(0,.mpo .str (.int .i64) a1),(1,.arr 3 (.int .i64) a2),(2,.arr 3 (.int .i64) a3),(3,.arr 5 (.int .u8) a4)]
abbrev aHJ(a1:Bool)(a2:List (List Int))(a3:Bool)(a4:List Int)(a5:List (List Int))(a6:List Int)(a7:List Int)(a8:List Int):List (Nat×Tv.Obj):=[(0,.box [.p a1 (.slice (.slice (.int .i64))) a2,.p a3 (.slice (.int .u32)) a4]),(1,.box [.nils,.nils]),(2,.box [.sl 3,.sl 4]),(3,.arr 26 (.slice (.int .i64)) a5),(4,.arr 30 (.int .u32) a6),(5,.arr 3 (.int .i64) a7),(6,.arr 3 (.int .i64) a8)]
abbrev aFF(a1:Bool)(a2:List (List Int))(a3:Bool)(a4:List Int)(a5:List (List Int))(a6:List Int)(a7:List Int)(a8:List Int)(a9:List Int):List (Nat×Tv.Obj):=[(0,.box [.p a1 (.slice (.slice (.int .i64))) a2,.p a3 (.slice (.int .u32)) a4]),(1,.box [.nils,.nils]),(2,.box [.sl 3,.sl 4]),(3,.arr 26 (.slice (.int .i64)) a5),(4,.arr 30 (.int .u32) a6),(5,.arr 3 (.int .i64) a7),(6,.arr 3 (.int .i64) a8),(7,.arr 3 (.int .i64) a9)]
abbrev aHe(a1:Bool)(a2:List (List Int))(a3:Bool)(a4:List Int)(a5:List Int):List (Nat×Tv.Obj):=[(0,.box [.p a1 (.slice (.slice (.int .i64))) a2,.p a3 (.slice (.int .u32)) a4]),(1,.box [.nils,.nils]),(2,.box [.nils,.nils]),(3,.arr 3 (.int .i64) a5)]
abbrev aG2(a1:Bool)(a2:List (List Int))(a3:Bool)(a4:List Int)(a5:List Int):List (Nat×Tv.Obj):=[(0,.box [.p a1 (.slice (.slice (.int .i64))) a2,.p a3 (.slice (.int .u32)) a4]),(1,.box [.nils,.nils]),(2,.box [.p false (.slice (.int .i64)) a5])]
abbrev aG7(a1:List (List UInt8))(a2:Int)(a3:Int)(a4:List Int)(a5:List (Int×Tree×Tree))(a6:List Tree)(a7:List Tree):List (Nat×Tv.Obj):=[(0,.box [.p false (.slice .str) a1,.u32 a2,.u32 a3,.p false (.slice (.int .i64)) a4,.p false (.slice (.prod (.int .u8) Y1)) a5]),(1,.arr 72 (.tree .u8 .u32) a6),(2,.arr 72 (.tree .u8 .u32) a7)]
abbrev aCq(a1:List Int)(a2:List Int)(a3:List Int):List (Nat×Tv.Obj):=[(0,.arr 47 (.int .u8) a1),(1,.arr 3 (.int .i64) a2),(2,.arr 3 (.int .i64) a3)]
abbrev aHi(a1:Bool)(a2:List (List Int))(a3:Bool)(a4:List Int)(a5:List Int):List (Nat×Tv.Obj):=[(0,.box [.p a1 (.slice (.slice (.int .i64))) a2,.p a3 (.slice (.int .u32)) a4]),(1,.arr 3 (.int .i64) a5)]
abbrev aEm(a1:Int)(a2:Int)(a3:Int)(a4:Int)(a5:Int)(a6:Int)(a7:Int)(a8:Int)(a9:Int):List (Nat×Tv.Obj):=[(0,.box [.u8 a1,.u8 a2,.u8 a3,.u8 a4,.u8 a5,.u8 a6,.u8 a7,.u8 a8,.u8 a9])]
abbrev aD9(a1:Int)(a2:Int)(a3:Int)(a4:Int)(a5:Int)(a6:Int)(a7:Int)(a8:Int)(a9:Int)(a10:List Int):List (Nat×Tv.Obj):=[(0,.box [.u8 a1,.u8 a2,.u8 a3,.u8 a4,.u8 a5,.u8 a6,.u8 a7,.u8 a8,.u8 a9]),(1,.arr 3 (.int .i64) a10)]
def tb:Tab:=[
 (3,⟨some (.int .i64),(.int .i64),1,8,[.i64 (0:Int)]⟩),
 (4,⟨some .bool,.bool,1,1,[.bo false]⟩),
 (5,⟨some (.int .u8),(.int .u8),1,1,[.u8 (0:Int)]⟩),
 (9,⟨some .str,.str,1,16,[.st ([]:List UInt8)]⟩),
 (20,⟨none,.other,1,16,[.lit .nilIface]⟩),
 (22,⟨some (.slice (.int .u8)),(.sl 5),1,24,[.nils]⟩),
 (23,⟨some (.slice (.prod (.int .u8) Y11)),(.sl 43),1,24,[.nils]⟩),
 (25,⟨some (.prod (.int .u8) Y13),(.st [(0,5),(1,5),(2,5),(3,22),(4,23)]),5,56,[.u8 (0:Int),.u8 (0:Int),.u8 (0:Int),.nils,.nils]⟩),
 (26,⟨some (.slice (.int .i64)),(.sl 3),1,24,[.nils]⟩),
 (28,⟨some (.ptr Y7),.other,1,8,[.nilp]⟩),
 (29,⟨some (.slice .str),(.sl 9),1,24,[.nils]⟩),
 (30,⟨some (.int .u32),(.int .u32),1,4,[.u32 (0:Int)]⟩),
 (31,⟨some (.slice (.prod (.int .u8) Y1)),(.sl 74),1,24,[.nils]⟩),
 (33,⟨some Y4,(.st [(0,29),(1,30),(2,30),(3,26),(4,31)]),5,80,[.nils,.u32 (0:Int),.u32 (0:Int),.nils,.nils]⟩),
 (36,⟨some (.int .u64),(.int .u64),1,8,[.u64 (0:Int)]⟩),
 (38,⟨some (.slice (.int .u8)),(.sl 47),1,24,[.nils]⟩),
 (43,⟨some (.prod (.int .u8) Y11),(.st [(0,5),(1,22),(2,22)]),3,56,[.u8 (0:Int),.nils,.nils]⟩),
 (46,⟨some (.slice .bool),(.sl 4),1,24,[.nils]⟩),
 (47,⟨some (.int .u8),(.int .u8),1,1,[.u8 (0:Int)]⟩),
 (49,⟨some (.prod (.int .u8) Y14),(.ar 3 47),3,3,[.u8 (0:Int),.u8 (0:Int),.u8 (0:Int)]⟩),
 (50,⟨some Y16,(.ar 3 49),9,9,[.u8 (0:Int),.u8 (0:Int),.u8 (0:Int),.u8 (0:Int),.u8 (0:Int),.u8 (0:Int),.u8 (0:Int),.u8 (0:Int),.u8 (0:Int)]⟩),
 (51,⟨some (.int .i64),(.int .i64),1,8,[.i64 (0:Int)]⟩),
 (53,⟨some Y5,(.st [(0,51),(1,3)]),2,16,[.i64 (0:Int),.i64 (0:Int)]⟩),
 (61,⟨some (.slice (.slice (.int .i64))),(.sl 26),1,24,[.nils]⟩),
 (62,⟨some (.slice (.int .u32)),(.sl 30),1,24,[.nils]⟩),
 (64,⟨some Y6,(.st [(0,61),(1,62)]),2,48,[.nils,.nils]⟩),
 (66,⟨some Y7,(.st [(0,33),(5,64),(7,64)]),9,176,[.nils,.u32 (0:Int),.u32 (0:Int),.nils,.nils,.nils,.nils,.nils,.nils]⟩),
 (69,⟨some (.int .u8),(.int .u8),1,1,[.u8 (0:Int)]⟩),
 (70,⟨some (.slice (.tree .u8 .u32)),(.sl 72),1,24,[.nils]⟩),
 (72,⟨some (.tree .u8 .u32),(.st [(0,69),(1,30),(2,70)]),3,32,[.u8 (0:Int),.u32 (0:Int),.nils]⟩),
 (74,⟨some (.prod (.int .u8) Y1),(.st [(0,47),(1,72),(4,72)]),7,72,[.u8 (0:Int),.u8 (0:Int),.u32 (0:Int),.nils,.u8 (0:Int),.u32 (0:Int),.nils]⟩),
 (84,⟨none,.other,1,8,[.nilp]⟩),
 (86,⟨some (.prod .str Y20),(.st [(0,9),(1,3),(2,33),(7,29),(8,62),(9,3),(10,3),(11,3),(12,3)]),13,184,[.st ([]:List UInt8),.i64 (0:Int),.nils,.u32 (0:Int),.u32 (0:Int),.nils,.nils,.nils,.nils,.i64 (0:Int),.i64 (0:Int),.i64 (0:Int),.i64 (0:Int)]⟩),
 (90,⟨none,.other,1,8,[.nilp]⟩),
 (91,⟨none,(.mp 9 30),1,8,[.unk]⟩),
 (93,⟨none,(.st [(0,9),(1,3),(2,33),(7,91),(8,3),(9,3)]),10,128,[.st ([]:List UInt8),.i64 (0:Int),.nils,.u32 (0:Int),.u32 (0:Int),.nils,.nils,.unk,.i64 (0:Int),.i64 (0:Int)]⟩),
 (101,⟨none,.other,1,8,[.nilp]⟩),
 (103,⟨some Y21,(.st [(0,22),(1,3)]),2,32,[.nils,.i64 (0:Int)]⟩),
 (114,⟨none,.other,1,8,[.unk]⟩),
 (115,⟨none,(.mp 9 114),1,8,[.unk]⟩),
 (116,⟨none,(.mp 9 47),1,8,[.unk]⟩),
 (119,⟨none,.other,1,8,[.nilp]⟩),
 (120,⟨some (.slice Y9),(.sl 126),1,24,[.nils]⟩),
 (122,⟨some Y23,(.st [(0,62),(1,120),(2,4)]),3,56,[.nils,.nils,.bo false]⟩),
 (123,⟨some (.slice J6),(.sl 128),1,24,[.nils]⟩),
 (124,⟨some (.int .u64),(.int .u64),1,8,[.u64 (0:Int)]⟩),
 (126,⟨some Y9,(.ar 4 124),4,32,[.u64 (0:Int),.u64 (0:Int),.u64 (0:Int),.u64 (0:Int)]⟩),
 (128,⟨some J6,(.st [(0,4),(1,126),(5,126)]),9,72,[.bo false,.u64 (0:Int),.u64 (0:Int),.u64 (0:Int),.u64 (0:Int),.u64 (0:Int),.u64 (0:Int),.u64 (0:Int),.u64 (0:Int)]⟩),
 (131,⟨none,(.mp 126 3),1,8,[.unk]⟩),
 (138,⟨none,.other,1,8,[.unk]⟩),
 (148,⟨none,(.mp 9 3),1,8,[.unk]⟩),
 (151,⟨some (.prod (.int .u8) Y25),(.ar 7 5),7,7,[.u8 (0:Int),.u8 (0:Int),.u8 (0:Int),.u8 (0:Int),.u8 (0:Int),.u8 (0:Int),.u8 (0:Int)]⟩)]
theorem ti3:TIok Tryd.prog 3 ⟨some (.int .i64),(.int .i64),1,8,[.i64 (0:Int)]⟩:=⟨⟨_,_,rfl,rfl,rfl,rfl,rfl,rfl,by simp[Value.cells,Value.oneCell']⟩,(⟨_,rfl,rfl⟩),rfl,(fun _=>rfl),(fun T h=>by cases h;exact⟨rfl,rfl,rfl⟩)⟩
theorem ti4:TIok Tryd.prog 4 ⟨some .bool,.bool,1,1,[.bo false]⟩:=⟨⟨_,_,rfl,rfl,rfl,rfl,rfl,rfl,by simp[Value.cells,Value.oneCell']⟩,(⟨_,rfl,rfl⟩),rfl,(fun _=>rfl),(fun T h=>by cases h;exact⟨rfl,rfl,rfl⟩)⟩
theorem ti5:TIok Tryd.prog 5 ⟨some (.int .u8),(.int .u8),1,1,[.u8 (0:Int)]⟩:=⟨⟨_,_,rfl,rfl,rfl,rfl,rfl,rfl,by simp[Value.cells,Value.oneCell']⟩,(⟨_,rfl,rfl⟩),rfl,(fun _=>rfl),(fun T h=>by cases h;exact⟨rfl,rfl,rfl⟩)⟩
theorem ti9:TIok Tryd.prog 9 ⟨some .str,.str,1,16,[.st ([]:List UInt8)]⟩:=⟨⟨_,_,rfl,rfl,rfl,rfl,rfl,rfl,by simp[Value.cells,Value.oneCell']⟩,(⟨_,rfl,rfl⟩),rfl,(fun _=>rfl),(fun T h=>by cases h;exact⟨rfl,rfl,rfl⟩)⟩
theorem aHD:TIok Tryd.prog 20 ⟨none,.other,1,16,[.lit .nilIface]⟩:=⟨⟨_,_,rfl,rfl,rfl,rfl,rfl,rfl,by simp[Value.cells,Value.oneCell']⟩,(⟨_,rfl,rfl⟩),rfl,(fun _=>rfl),(fun T h=>by cases h)⟩
theorem aIg:TIok Tryd.prog 22 ⟨some (.slice (.int .u8)),(.sl 5),1,24,[.nils]⟩:=⟨⟨_,_,rfl,rfl,rfl,rfl,rfl,rfl,by simp[Value.cells,Value.oneCell']⟩,(⟨_,rfl,rfl⟩),rfl,(fun _=>rfl),(fun T h=>by cases h;exact⟨rfl,rfl,rfl⟩)⟩
theorem aIE:TIok Tryd.prog 23 ⟨some (.slice (.prod (.int .u8) Y11)),(.sl 43),1,24,[.nils]⟩:=⟨⟨_,_,rfl,rfl,rfl,rfl,rfl,rfl,by simp[Value.cells,Value.oneCell']⟩,(⟨_,rfl,rfl⟩),rfl,(fun _=>rfl),(fun T h=>by cases h;exact⟨rfl,rfl,rfl⟩)⟩
theorem aIC:TIok Tryd.prog 25 ⟨some (.prod (.int .u8) Y13),(.st [(0,5),(1,5),(2,5),(3,22),(4,23)]),5,56,[.u8 (0:Int),.u8 (0:Int),.u8 (0:Int),.nils,.nils]⟩:=⟨⟨_,_,rfl,rfl,rfl,rfl,rfl,rfl,by simp[Value.cells,Value.oneCell']⟩,(⟨_,rfl,_,rfl,rfl,by
  intro f hf
  simp only[List.mem_cons,List.not_mem_nil,or_false]at hf
  rcases hf with rfl | rfl | rfl | rfl | rfl <;> exact⟨_,rfl,by decide⟩⟩),rfl,(fun h=>by cases h),(fun T h=>by cases h;exact⟨rfl,rfl,rfl⟩)⟩
theorem aHK:TIok Tryd.prog 26 ⟨some (.slice (.int .i64)),(.sl 3),1,24,[.nils]⟩:=⟨⟨_,_,rfl,rfl,rfl,rfl,rfl,rfl,by simp[Value.cells,Value.oneCell']⟩,(⟨_,rfl,rfl⟩),rfl,(fun _=>rfl),(fun T h=>by cases h;exact⟨rfl,rfl,rfl⟩)⟩
theorem aIu:TIok Tryd.prog 28 ⟨some (.ptr Y7),.other,1,8,[.nilp]⟩:=⟨⟨_,_,rfl,rfl,rfl,rfl,rfl,rfl,by simp[Value.cells,Value.oneCell']⟩,(⟨_,rfl,rfl⟩),rfl,(fun _=>rfl),(fun T h=>by cases h;exact⟨rfl,rfl,rfl⟩)⟩
theorem aIe:TIok Tryd.prog 29 ⟨some (.slice .str),(.sl 9),1,24,[.nils]⟩:=⟨⟨_,_,rfl,rfl,rfl,rfl,rfl,rfl,by simp[Value.cells,Value.oneCell']⟩,(⟨_,rfl,rfl⟩),rfl,(fun _=>rfl),(fun T h=>by cases h;exact⟨rfl,rfl,rfl⟩)⟩
theorem aHG:TIok Tryd.prog 30 ⟨some (.int .u32),(.int .u32),1,4,[.u32 (0:Int)]⟩:=⟨⟨_,_,rfl,rfl,rfl,rfl,rfl,rfl,by simp[Value.cells,Value.oneCell']⟩,(⟨_,rfl,rfl⟩),rfl,(fun _=>rfl),(fun T h=>by cases h;exact⟨rfl,rfl,rfl⟩)⟩
theorem aId:TIok Tryd.prog 31 ⟨some (.slice (.prod (.int .u8) Y1)),(.sl 74),1,24,[.nils]⟩:=⟨⟨_,_,rfl,rfl,rfl,rfl,rfl,rfl,by simp[Value.cells,Value.oneCell']⟩,(⟨_,rfl,rfl⟩),rfl,(fun _=>rfl),(fun T h=>by cases h;exact⟨rfl,rfl,rfl⟩)⟩
theorem aHC:TIok Tryd.prog 33 ⟨some Y4,(.st [(0,29),(1,30),(2,30),(3,26),(4,31)]),5,80,[.nils,.u32 (0:Int),.u32 (0:Int),.nils,.nils]⟩:=⟨⟨_,_,rfl,rfl,rfl,rfl,rfl,rfl,by simp[Value.cells,Value.oneCell']⟩,(⟨_,rfl,_,rfl,rfl,by
  intro f hf
  simp only[List.mem_cons,List.not_mem_nil,or_false]at hf
  rcases hf with rfl | rfl | rfl | rfl | rfl <;> exact⟨_,rfl,by decide⟩⟩),rfl,(fun h=>by cases h),(fun T h=>by cases h;exact⟨rfl,rfl,rfl⟩)⟩
theorem aIq:TIok Tryd.prog 36 ⟨some (.int .u64),(.int .u64),1,8,[.u64 (0:Int)]⟩:=⟨⟨_,_,rfl,rfl,rfl,rfl,rfl,rfl,by simp[Value.cells,Value.oneCell']⟩,(⟨_,rfl,rfl⟩),rfl,(fun _=>rfl),(fun T h=>by cases h;exact⟨rfl,rfl,rfl⟩)⟩
theorem aHW:TIok Tryd.prog 38 ⟨some (.slice (.int .u8)),(.sl 47),1,24,[.nils]⟩:=⟨⟨_,_,rfl,rfl,rfl,rfl,rfl,rfl,by simp[Value.cells,Value.oneCell']⟩,(⟨_,rfl,rfl⟩),rfl,(fun _=>rfl),(fun T h=>by cases h;exact⟨rfl,rfl,rfl⟩)⟩
theorem aHB:TIok Tryd.prog 43 ⟨some (.prod (.int .u8) Y11),(.st [(0,5),(1,22),(2,22)]),3,56,[.u8 (0:Int),.nils,.nils]⟩:=⟨⟨_,_,rfl,rfl,rfl,rfl,rfl,rfl,by simp[Value.cells,Value.oneCell']⟩,(⟨_,rfl,_,rfl,rfl,by
  intro f hf
  simp only[List.mem_cons,List.not_mem_nil,or_false]at hf
  rcases hf with rfl | rfl | rfl <;> exact⟨_,rfl,by decide⟩⟩),rfl,(fun h=>by cases h),(fun T h=>by cases h;exact⟨rfl,rfl,rfl⟩)⟩
theorem aIw:TIok Tryd.prog 46 ⟨some (.slice .bool),(.sl 4),1,24,[.nils]⟩:=⟨⟨_,_,rfl,rfl,rfl,rfl,rfl,rfl,by simp[Value.cells,Value.oneCell']⟩,(⟨_,rfl,rfl⟩),rfl,(fun _=>rfl),(fun T h=>by cases h;exact⟨rfl,rfl,rfl⟩)⟩
theorem aHN:TIok Tryd.prog 47 ⟨some (.int .u8),(.int .u8),1,1,[.u8 (0:Int)]⟩:=⟨⟨_,_,rfl,rfl,rfl,rfl,rfl,rfl,by simp[Value.cells,Value.oneCell']⟩,(⟨_,rfl,rfl⟩),rfl,(fun _=>rfl),(fun T h=>by cases h;exact⟨rfl,rfl,rfl⟩)⟩
theorem aH3:TIok Tryd.prog 49 ⟨some (.prod (.int .u8) Y14),(.ar 3 47),3,3,[.u8 (0:Int),.u8 (0:Int),.u8 (0:Int)]⟩:=⟨⟨_,_,rfl,rfl,rfl,rfl,rfl,rfl,by simp[Value.cells,Value.oneCell']⟩,(⟨_,rfl,rfl⟩),rfl,(fun h=>by cases h),(fun T h=>by cases h;exact⟨rfl,rfl,rfl⟩)⟩
theorem aH6:TIok Tryd.prog 50 ⟨some Y16,(.ar 3 49),9,9,[.u8 (0:Int),.u8 (0:Int),.u8 (0:Int),.u8 (0:Int),.u8 (0:Int),.u8 (0:Int),.u8 (0:Int),.u8 (0:Int),.u8 (0:Int)]⟩:=⟨⟨_,_,rfl,rfl,rfl,rfl,rfl,rfl,by simp[Value.cells,Value.oneCell']⟩,(⟨_,rfl,rfl⟩),rfl,(fun h=>by cases h),(fun T h=>by cases h;exact⟨rfl,rfl,rfl⟩)⟩
theorem aIn:TIok Tryd.prog 51 ⟨some (.int .i64),(.int .i64),1,8,[.i64 (0:Int)]⟩:=⟨⟨_,_,rfl,rfl,rfl,rfl,rfl,rfl,by simp[Value.cells,Value.oneCell']⟩,(⟨_,rfl,rfl⟩),rfl,(fun _=>rfl),(fun T h=>by cases h;exact⟨rfl,rfl,rfl⟩)⟩
theorem aIB:TIok Tryd.prog 53 ⟨some Y5,(.st [(0,51),(1,3)]),2,16,[.i64 (0:Int),.i64 (0:Int)]⟩:=⟨⟨_,_,rfl,rfl,rfl,rfl,rfl,rfl,by simp[Value.cells,Value.oneCell']⟩,(⟨_,rfl,_,rfl,rfl,by
  intro f hf
  simp only[List.mem_cons,List.not_mem_nil,or_false]at hf
  rcases hf with rfl | rfl <;> exact⟨_,rfl,by decide⟩⟩),rfl,(fun h=>by cases h),(fun T h=>by cases h;exact⟨rfl,rfl,rfl⟩)⟩
theorem aIc:TIok Tryd.prog 61 ⟨some (.slice (.slice (.int .i64))),(.sl 26),1,24,[.nils]⟩:=⟨⟨_,_,rfl,rfl,rfl,rfl,rfl,rfl,by simp[Value.cells,Value.oneCell']⟩,(⟨_,rfl,rfl⟩),rfl,(fun _=>rfl),(fun T h=>by cases h;exact⟨rfl,rfl,rfl⟩)⟩
theorem aHI:TIok Tryd.prog 62 ⟨some (.slice (.int .u32)),(.sl 30),1,24,[.nils]⟩:=⟨⟨_,_,rfl,rfl,rfl,rfl,rfl,rfl,by simp[Value.cells,Value.oneCell']⟩,(⟨_,rfl,rfl⟩),rfl,(fun _=>rfl),(fun T h=>by cases h;exact⟨rfl,rfl,rfl⟩)⟩
theorem aHM:TIok Tryd.prog 64 ⟨some Y6,(.st [(0,61),(1,62)]),2,48,[.nils,.nils]⟩:=⟨⟨_,_,rfl,rfl,rfl,rfl,rfl,rfl,by simp[Value.cells,Value.oneCell']⟩,(⟨_,rfl,_,rfl,rfl,by
  intro f hf
  simp only[List.mem_cons,List.not_mem_nil,or_false]at hf
  rcases hf with rfl | rfl <;> exact⟨_,rfl,by decide⟩⟩),rfl,(fun h=>by cases h),(fun T h=>by cases h;exact⟨rfl,rfl,rfl⟩)⟩
theorem aH7:TIok Tryd.prog 66 ⟨some Y7,(.st [(0,33),(5,64),(7,64)]),9,176,[.nils,.u32 (0:Int),.u32 (0:Int),.nils,.nils,.nils,.nils,.nils,.nils]⟩:=⟨⟨_,_,rfl,rfl,rfl,rfl,rfl,rfl,by simp[Value.cells,Value.oneCell']⟩,(⟨_,rfl,_,rfl,rfl,by
  intro f hf
  simp only[List.mem_cons,List.not_mem_nil,or_false]at hf
  rcases hf with rfl | rfl | rfl <;> exact⟨_,rfl,by decide⟩⟩),rfl,(fun h=>by cases h),(fun T h=>by cases h;exact⟨rfl,rfl,rfl⟩)⟩
theorem aIi:TIok Tryd.prog 69 ⟨some (.int .u8),(.int .u8),1,1,[.u8 (0:Int)]⟩:=⟨⟨_,_,rfl,rfl,rfl,rfl,rfl,rfl,by simp[Value.cells,Value.oneCell']⟩,(⟨_,rfl,rfl⟩),rfl,(fun _=>rfl),(fun T h=>by cases h;exact⟨rfl,rfl,rfl⟩)⟩
theorem aIp:TIok Tryd.prog 70 ⟨some (.slice (.tree .u8 .u32)),(.sl 72),1,24,[.nils]⟩:=⟨⟨_,_,rfl,rfl,rfl,rfl,rfl,rfl,by simp[Value.cells,Value.oneCell']⟩,(⟨_,rfl,rfl⟩),rfl,(fun _=>rfl),(fun T h=>by cases h;exact⟨rfl,rfl,rfl⟩)⟩
theorem aHY:TIok Tryd.prog 72 ⟨some (.tree .u8 .u32),(.st [(0,69),(1,30),(2,70)]),3,32,[.u8 (0:Int),.u32 (0:Int),.nils]⟩:=⟨⟨_,_,rfl,rfl,rfl,rfl,rfl,rfl,by simp[Value.cells,Value.oneCell']⟩,(⟨_,rfl,_,rfl,rfl,by
  intro f hf
  simp only[List.mem_cons,List.not_mem_nil,or_false]at hf
  rcases hf with rfl | rfl | rfl <;> exact⟨_,rfl,by decide⟩⟩),rfl,(fun h=>by cases h),(fun T h=>by cases h;exact⟨rfl,rfl,rfl⟩)⟩
theorem aHZ:TIok Tryd.prog 74 ⟨some (.prod (.int .u8) Y1),(.st [(0,47),(1,72),(4,72)]),7,72,[.u8 (0:Int),.u8 (0:Int),.u32 (0:Int),.nils,.u8 (0:Int),.u32 (0:Int),.nils]⟩:=⟨⟨_,_,rfl,rfl,rfl,rfl,rfl,rfl,by simp[Value.cells,Value.oneCell']⟩,(⟨_,rfl,_,rfl,rfl,by
  intro f hf
  simp only[List.mem_cons,List.not_mem_nil,or_false]at hf
  rcases hf with rfl | rfl | rfl <;> exact⟨_,rfl,by decide⟩⟩),rfl,(fun h=>by cases h),(fun T h=>by cases h;exact⟨rfl,rfl,rfl⟩)⟩
theorem aIo:TIok Tryd.prog 84 ⟨none,.other,1,8,[.nilp]⟩:=⟨⟨_,_,rfl,rfl,rfl,rfl,rfl,rfl,by simp[Value.cells,Value.oneCell']⟩,(⟨_,rfl,rfl⟩),rfl,(fun _=>rfl),(fun T h=>by cases h)⟩
theorem aIm:TIok Tryd.prog 86 ⟨some (.prod .str Y20),(.st [(0,9),(1,3),(2,33),(7,29),(8,62),(9,3),(10,3),(11,3),(12,3)]),13,184,[.st ([]:List UInt8),.i64 (0:Int),.nils,.u32 (0:Int),.u32 (0:Int),.nils,.nils,.nils,.nils,.i64 (0:Int),.i64 (0:Int),.i64 (0:Int),.i64 (0:Int)]⟩:=⟨⟨_,_,rfl,rfl,rfl,rfl,rfl,rfl,by simp[Value.cells,Value.oneCell']⟩,(⟨_,rfl,_,rfl,rfl,by
  intro f hf
  simp only[List.mem_cons,List.not_mem_nil,or_false]at hf
  rcases hf with rfl | rfl | rfl | rfl | rfl | rfl | rfl | rfl | rfl <;> exact⟨_,rfl,by decide⟩⟩),rfl,(fun h=>by cases h),(fun T h=>by cases h;exact⟨rfl,rfl,rfl⟩)⟩
theorem aH9:TIok Tryd.prog 90 ⟨none,.other,1,8,[.nilp]⟩:=⟨⟨_,_,rfl,rfl,rfl,rfl,rfl,rfl,by simp[Value.cells,Value.oneCell']⟩,(⟨_,rfl,rfl⟩),rfl,(fun _=>rfl),(fun T h=>by cases h)⟩
theorem aHQ:TIok Tryd.prog 91 ⟨none,(.mp 9 30),1,8,[.unk]⟩:=⟨⟨_,_,rfl,rfl,rfl,rfl,rfl,rfl,by simp[Value.cells,Value.oneCell']⟩,(⟨_,rfl,rfl⟩),rfl,(fun _=>rfl),(fun T h=>by cases h)⟩
theorem aIF:TIok Tryd.prog 93 ⟨none,(.st [(0,9),(1,3),(2,33),(7,91),(8,3),(9,3)]),10,128,[.st ([]:List UInt8),.i64 (0:Int),.nils,.u32 (0:Int),.u32 (0:Int),.nils,.nils,.unk,.i64 (0:Int),.i64 (0:Int)]⟩:=⟨⟨_,_,rfl,rfl,rfl,rfl,rfl,rfl,by simp[Value.cells,Value.oneCell']⟩,(⟨_,rfl,_,rfl,rfl,by
  intro f hf
  simp only[List.mem_cons,List.not_mem_nil,or_false]at hf
  rcases hf with rfl | rfl | rfl | rfl | rfl | rfl <;> exact⟨_,rfl,by decide⟩⟩),rfl,(fun h=>by cases h),(fun T h=>by cases h)⟩
theorem aGS:TIok Tryd.prog 101 ⟨none,.other,1,8,[.nilp]⟩:=⟨⟨_,_,rfl,rfl,rfl,rfl,rfl,rfl,by simp[Value.cells,Value.oneCell']⟩,(⟨_,rfl,rfl⟩),rfl,(fun _=>rfl),(fun T h=>by cases h)⟩
theorem aGW:TIok Tryd.prog 103 ⟨some Y21,(.st [(0,22),(1,3)]),2,32,[.nils,.i64 (0:Int)]⟩:=⟨⟨_,_,rfl,rfl,rfl,rfl,rfl,rfl,by simp[Value.cells,Value.oneCell']⟩,(⟨_,rfl,_,rfl,rfl,by
  intro f hf
  simp only[List.mem_cons,List.not_mem_nil,or_false]at hf
  rcases hf with rfl | rfl <;> exact⟨_,rfl,by decide⟩⟩),rfl,(fun h=>by cases h),(fun T h=>by cases h;exact⟨rfl,rfl,rfl⟩)⟩
theorem aHn:TIok Tryd.prog 114 ⟨none,.other,1,8,[.unk]⟩:=⟨⟨_,_,rfl,rfl,rfl,rfl,rfl,rfl,by simp[Value.cells,Value.oneCell']⟩,(⟨_,rfl,rfl⟩),rfl,(fun _=>rfl),(fun T h=>by cases h)⟩
theorem aGB:TIok Tryd.prog 115 ⟨none,(.mp 9 114),1,8,[.unk]⟩:=⟨⟨_,_,rfl,rfl,rfl,rfl,rfl,rfl,by simp[Value.cells,Value.oneCell']⟩,(⟨_,rfl,rfl⟩),rfl,(fun _=>rfl),(fun T h=>by cases h)⟩
theorem aG0:TIok Tryd.prog 116 ⟨none,(.mp 9 47),1,8,[.unk]⟩:=⟨⟨_,_,rfl,rfl,rfl,rfl,rfl,rfl,by simp[Value.cells,Value.oneCell']⟩,(⟨_,rfl,rfl⟩),rfl,(fun _=>rfl),(fun T h=>by cases h)⟩
theorem aHk:TIok Tryd.prog 119 ⟨none,.other,1,8,[.nilp]⟩:=⟨⟨_,_,rfl,rfl,rfl,rfl,rfl,rfl,by simp[Value.cells,Value.oneCell']⟩,(⟨_,rfl,rfl⟩),rfl,(fun _=>rfl),(fun T h=>by cases h)⟩
theorem aG4:TIok Tryd.prog 120 ⟨some (.slice Y9),(.sl 126),1,24,[.nils]⟩:=⟨⟨_,_,rfl,rfl,rfl,rfl,rfl,rfl,by simp[Value.cells,Value.oneCell']⟩,(⟨_,rfl,rfl⟩),rfl,(fun _=>rfl),(fun T h=>by cases h;exact⟨rfl,rfl,rfl⟩)⟩
theorem aGv:TIok Tryd.prog 122 ⟨some Y23,(.st [(0,62),(1,120),(2,4)]),3,56,[.nils,.nils,.bo false]⟩:=⟨⟨_,_,rfl,rfl,rfl,rfl,rfl,rfl,by simp[Value.cells,Value.oneCell']⟩,(⟨_,rfl,_,rfl,rfl,by
  intro f hf
  simp only[List.mem_cons,List.not_mem_nil,or_false]at hf
  rcases hf with rfl | rfl | rfl <;> exact⟨_,rfl,by decide⟩⟩),rfl,(fun h=>by cases h),(fun T h=>by cases h;exact⟨rfl,rfl,rfl⟩)⟩
theorem aHo:TIok Tryd.prog 123 ⟨some (.slice J6),(.sl 128),1,24,[.nils]⟩:=⟨⟨_,_,rfl,rfl,rfl,rfl,rfl,rfl,by simp[Value.cells,Value.oneCell']⟩,(⟨_,rfl,rfl⟩),rfl,(fun _=>rfl),(fun T h=>by cases h;exact⟨rfl,rfl,rfl⟩)⟩
theorem aG5:TIok Tryd.prog 124 ⟨some (.int .u64),(.int .u64),1,8,[.u64 (0:Int)]⟩:=⟨⟨_,_,rfl,rfl,rfl,rfl,rfl,rfl,by simp[Value.cells,Value.oneCell']⟩,(⟨_,rfl,rfl⟩),rfl,(fun _=>rfl),(fun T h=>by cases h;exact⟨rfl,rfl,rfl⟩)⟩
theorem aHj:TIok Tryd.prog 126 ⟨some Y9,(.ar 4 124),4,32,[.u64 (0:Int),.u64 (0:Int),.u64 (0:Int),.u64 (0:Int)]⟩:=⟨⟨_,_,rfl,rfl,rfl,rfl,rfl,rfl,by simp[Value.cells,Value.oneCell']⟩,(⟨_,rfl,rfl⟩),rfl,(fun h=>by cases h),(fun T h=>by cases h;exact⟨rfl,rfl,rfl⟩)⟩
theorem aGL:TIok Tryd.prog 128 ⟨some J6,(.st [(0,4),(1,126),(5,126)]),9,72,[.bo false,.u64 (0:Int),.u64 (0:Int),.u64 (0:Int),.u64 (0:Int),.u64 (0:Int),.u64 (0:Int),.u64 (0:Int),.u64 (0:Int)]⟩:=⟨⟨_,_,rfl,rfl,rfl,rfl,rfl,rfl,by simp[Value.cells,Value.oneCell']⟩,(⟨_,rfl,_,rfl,rfl,by
  intro f hf
  simp only[List.mem_cons,List.not_mem_nil,or_false]at hf
  rcases hf with rfl | rfl | rfl <;> exact⟨_,rfl,by decide⟩⟩),rfl,(fun h=>by cases h),(fun T h=>by cases h;exact⟨rfl,rfl,rfl⟩)⟩
theorem aGE:TIok Tryd.prog 131 ⟨none,(.mp 126 3),1,8,[.unk]⟩:=⟨⟨_,_,rfl,rfl,rfl,rfl,rfl,rfl,by simp[Value.cells,Value.oneCell']⟩,(⟨_,rfl,rfl⟩),rfl,(fun _=>rfl),(fun T h=>by cases h)⟩
theorem aHa:TIok Tryd.prog 138 ⟨none,.other,1,8,[.unk]⟩:=⟨⟨_,_,rfl,rfl,rfl,rfl,rfl,rfl,by simp[Value.cells,Value.oneCell']⟩,(⟨_,rfl,rfl⟩),rfl,(fun _=>rfl),(fun T h=>by cases h)⟩
theorem aGF:TIok Tryd.prog 148 ⟨none,(.mp 9 3),1,8,[.unk]⟩:=⟨⟨_,_,rfl,rfl,rfl,rfl,rfl,rfl,by simp[Value.cells,Value.oneCell']⟩,(⟨_,rfl,rfl⟩),rfl,(fun _=>rfl),(fun T h=>by cases h)⟩
theorem aGT:TIok Tryd.prog 151 ⟨some (.prod (.int .u8) Y25),(.ar 7 5),7,7,[.u8 (0:Int),.u8 (0:Int),.u8 (0:Int),.u8 (0:Int),.u8 (0:Int),.u8 (0:Int),.u8 (0:Int)]⟩:=⟨⟨_,_,rfl,rfl,rfl,rfl,rfl,rfl,by simp[Value.cells,Value.oneCell']⟩,(⟨_,rfl,rfl⟩),rfl,(fun h=>by cases h),(fun T h=>by cases h;exact⟨rfl,rfl,rfl⟩)⟩
theorem bS:TabOK Tryd.prog tb:=by
 intro p hp
 simp only[tb,List.mem_cons,List.not_mem_nil,or_false]at hp
 rcases hp with rfl | rfl | rfl | rfl | rfl | rfl | rfl | rfl | rfl | rfl | rfl | rfl | rfl | rfl | rfl | rfl | rfl | rfl | rfl | rfl | rfl | rfl | rfl | rfl | rfl | rfl | rfl | rfl | rfl | rfl | rfl | rfl | rfl | rfl | rfl | rfl | rfl | rfl | rfl | rfl | rfl | rfl | rfl | rfl | rfl | rfl | rfl | rfl | rfl | rfl | rfl | rfl
 ·exact ti3
 ·exact ti4
 ·exact ti5
 ·exact ti9
 ·exact aHD
 ·exact aIg
 ·exact aIE
 ·exact aIC
 ·exact aHK
 ·exact aIu
 ·exact aIe
 ·exact aHG
 ·exact aId
 ·exact aHC
 ·exact aIq
 ·exact aHW
 ·exact aHB
 ·exact aIw
 ·exact aHN
 ·exact aH3
 ·exact aH6
 ·exact aIn
 ·exact aIB
 ·exact aIc
 ·exact aHI
 ·exact aHM
 ·exact aH7
 ·exact aIi
 ·exact aIp
 ·exact aHY
 ·exact aHZ
 ·exact aIo
 ·exact aIm
 ·exact aH9
 ·exact aHQ
 ·exact aIF
 ·exact aGS
 ·exact aGW
 ·exact aHn
 ·exact aGB
 ·exact aG0
 ·exact aHk
 ·exact aG4
 ·exact aGv
 ·exact aHo
 ·exact aG5
 ·exact aHj
 ·exact aGL
 ·exact aGE
 ·exact aHa
 ·exact aGF
 ·exact aGT
theorem K7:KeyOk Tryd.prog 126 Y9:=KeyOk.of_ints (e:=124) rfl rfl rfl (by kernel_rfl) rfl rfl rfl
theorem rA:Tryd.prog.follows .mixedOrders=true:=by kernel_rfl
section
variable{n:NS}{Bw:Nat→Prop}{w0:Base Tryd.prog}{σ:St}{Q:Exit→St→Prop}{id:Nat}{ops:Array Oper}{d:Code}{fid:FuncId}{args:List AVal}{hin hout:List (Nat×Tv.Obj)}{r:AVal}{y:Value}
theorem Ge(hq:∀σ',Le n σ' (iW Tryd.prog tb a0 n ops σ)→Q .normal σ')(h:iX Tryd.prog tb a0 n ops σ=some (cP ops.size 0 []):=by kernel_rfl):W Tryd.prog n Bw w0 (.region id ops false) σ Q:=aCU bS a0 [] h hq
theorem gS(an:An)(cs:List (Nat×Nat×PP))(hq:∀σ',Le n σ' (iW Tryd.prog tb an n ops σ)→Q .normal σ')(h:iX Tryd.prog tb an n ops σ=some (cP ops.size 0 cs):=by kernel_rfl):W Tryd.prog n Bw w0 (.region id ops false) σ Q:=aCU bS an cs h hq
theorem z7(an:An)(cs:List (Nat×Nat×PP))(hq:∀σ',Le n σ' (S3 Tryd.prog tb an n ops σ)→Q .normal σ')(h:R3 Tryd.prog tb an n ops σ=some (cP ops.size 0 cs):=by kernel_rfl):W Tryd.prog n Bw w0 (.region id ops true) σ Q:=aGI bS rA an cs h hq
theorem GCe(i:Nat){α:Type}{p:Prop}[Decidable p]{u:Option α}{v:α}(h:(if p then u else none)=some v)(hq:u=some v→∀σ',Le n σ' (iW Tryd.prog tb a0 n ops σ)→Q .normal σ')(hk:iX Tryd.prog tb a0 n ops σ=some (cG ops.size i p):=by kernel_rfl):W Tryd.prog n Bw w0 (.region id ops false) σ Q:=aFs bS i h hk hq
theorem GPe(i:Nat)(u:Pure Tryd.prog fid args r)(hq:∀σ',Le n σ' (iW Tryd.prog tb ⟨[],[(i,oP u)]⟩ n ops σ)→Q .normal σ')(h:iX Tryd.prog tb ⟨[],[(i,oP u)]⟩ n ops σ=some (cP ops.size 0 [(i,i,oc u)]):=by kernel_rfl):W Tryd.prog n Bw w0 (.region id ops false) σ Q:=aHl bS i u h hq
theorem nB(i:Nat)(g:List Nat)(u:Owns Tryd.prog fid args hin r hout)(hq:∀σ',Le n σ' (iW Tryd.prog tb ⟨[],[(i,oO u g)]⟩ n ops σ)→Q .normal σ')(h:iX Tryd.prog tb ⟨[],[(i,oO u g)]⟩ n ops σ=some (cP ops.size 0 [(i,i,oc u)]):=by kernel_rfl):W Tryd.prog n Bw w0 (.region id ops false) σ Q:=aGw bS i g u h hq
theorem G(hq:W Tryd.prog n Bw w0 d (iW Tryd.prog tb a0 n ops σ) Q)(h:iX Tryd.prog tb a0 n ops σ=some (cP ops.size 0 []):=by kernel_rfl):W Tryd.prog n Bw w0 (.seq (.region id ops false) d) σ Q:=W_g bS a0 [] h hq
theorem GN(an:An)(cs:List (Nat×Nat×PP))(hq:W Tryd.prog n Bw w0 d (iW Tryd.prog tb an n ops σ) Q)(h:iX Tryd.prog tb an n ops σ=some (cP ops.size 0 cs):=by kernel_rfl):W Tryd.prog n Bw w0 (.seq (.region id ops false) d) σ Q:=W_g bS an cs h hq
theorem GD(an:An)(cs:List (Nat×Nat×PP))(hq:W Tryd.prog n Bw w0 d (S3 Tryd.prog tb an n ops σ) Q)(h:R3 Tryd.prog tb an n ops σ=some (cP ops.size 0 cs):=by kernel_rfl):W Tryd.prog n Bw w0 (.seq (.region id ops true) d) σ Q:=W_d bS rA an cs h hq
theorem GC(i:Nat){α:Type}{p:Prop}[Decidable p]{u:Option α}{v:α}(h:(if p then u else none)=some v)(hq:u=some v→W Tryd.prog n Bw w0 d (iW Tryd.prog tb a0 n ops σ) Q)(hk:iX Tryd.prog tb a0 n ops σ=some (cG ops.size i p):=by kernel_rfl):W Tryd.prog n Bw w0 (.seq (.region id ops false) d) σ Q:=aHH bS i h hk hq
theorem GP(i:Nat)(u:Pure Tryd.prog fid args r)(hq:W Tryd.prog n Bw w0 d (iW Tryd.prog tb ⟨[],[(i,oP u)]⟩ n ops σ) Q)(h:iX Tryd.prog tb ⟨[],[(i,oP u)]⟩ n ops σ=some (cP ops.size 0 [(i,i,oc u)]):=by kernel_rfl):W Tryd.prog n Bw w0 (.seq (.region id ops false) d) σ Q:=aH4 bS i u h hq
theorem GO(i:Nat)(g:List Nat)(u:Owns Tryd.prog fid args hin r hout)(hq:W Tryd.prog n Bw w0 d (iW Tryd.prog tb ⟨[],[(i,oO u g)]⟩ n ops σ) Q)(h:iX Tryd.prog tb ⟨[],[(i,oO u g)]⟩ n ops σ=some (cP ops.size 0 [(i,i,oc u)]):=by kernel_rfl):W Tryd.prog n Bw w0 (.seq (.region id ops false) d) σ Q:=aH8 bS i g u h hq
theorem GX(i:Nat)(g:List Nat)(u:Dies Tryd.prog fid args hin y)(hq:∀σ',Q (.panic [{ v:=y,recovered:=false }]) σ')(h:N8 Tryd.prog tb ⟨[],[(i,oD u g)]⟩ n ops i σ=some (cP (i+1) 0 [(i,i,oc u)],y):=by kernel_rfl):W Tryd.prog n Bw w0 (.region id ops false) σ Q:=aIl bS i g u h hq
theorem GXn(u:Dies Tryd.prog fid args hin y)(an:An)(i:Nat)(cs:List (Nat×Nat×PP))(hq:∀σ',Q (.panic [{ v:=y,recovered:=false }]) σ')(h:N8 Tryd.prog tb an n ops i σ=some (cP (i+1) 0 cs,y):=by kernel_rfl):W Tryd.prog n Bw w0 (.region id ops false) σ Q:=W_x bS u an i cs h hq
end
end
end Go.Proofs.YtacpjjgochokcaaDoor.T
