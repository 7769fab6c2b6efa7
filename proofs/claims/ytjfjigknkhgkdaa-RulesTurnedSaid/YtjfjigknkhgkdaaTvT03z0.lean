/- Functions of the program as functions on data, and that the program's own come to them. -/
import Derived.Test.YtjfjigknkhgkdaaTvSdm
import Derived.Test.YtjfjigknkhgkdaaProg
import Derived.KernelRfl
namespace Go.Proofs.Ytjfjigknkhgkdaa.T
open Go Go.Tv Go.Proofs
noncomputable section
set_option maxRecDepth 100000
set_option maxHeartbeats 4000000
abbrev Y1:Ty:=(.prod (.tree .u8 .u32) (.tree .u8 .u32))
abbrev Y2:Ty:=(.prod (.slice (.int .i64)) (.slice (.prod (.int .u8) Y1)))
abbrev Y3:Ty:=(.prod (.int .u32) (.prod (.int .u32) Y2))
abbrev Y4:Ty:=(.prod (.slice .str) Y3)
abbrev Y5:Ty:=(.prod (.int .i64) (.int .i64))
abbrev Y6:Ty:=(.prod (.slice (.int .u8)) (.slice (.int .u8)))
abbrev Y7:Ty:=(.prod (.slice (.int .u8)) (.slice (.prod (.int .u8) Y6)))
abbrev Y8:Ty:=(.prod (.int .u8) (.prod (.int .u8) Y7))
abbrev Y9:Ty:=(.prod (.int .i64) (.prod (.int .i64) Y5))
abbrev Y10:Ty:=(.prod (.slice (.int .u32)) Y9)
abbrev Y11:Ty:=(.prod (.slice .str) Y10)
abbrev Y12:Ty:=(.prod (.int .i64) (.prod Y4 Y11))
abbrev Y13:Ty:=(.prod (.slice (.int .u8)) (.int .i64))
abbrev Y14:Ty:=(.prod (.int .u8) (.int .u8))
abbrev Y15:Ty:=(.prod (.int .u8) (.prod (.int .u8) Y14))
abbrev Y16:Ty:=(.prod (.int .u8) (.prod (.int .u8) Y15))
abbrev ob1(a1:Int)(a2:Int)(a3:Int)(a4:Int)(a5:List UInt8)(a6:Int)(a7:Int)(a8:Int)(a9:Int)(a10:Int)(a11:List ((List UInt8)×Int)):List (Nat×Tv.Obj):=[(0,.box [.nils,.u32 a1,.u32 a2,.nils,.nils]),(1,.box [.i64 a3,.i64 a4]),(2,.box [.st a5,.i64 a6,.nils,.u32 a7,.u32 a8,.nils,.nils,.mp 3,.i64 a9,.i64 a10]),(3,.mpo .str (.int .u32) a11)]
abbrev ob2(a1:List UInt8)(a2:Int)(a3:Int)(a4:Int)(a5:Int)(a6:Int)(a7:List ((List UInt8)×Int)):List (Nat×Tv.Obj):=[(0,.box [.st a1,.i64 a2,.nils,.u32 a3,.u32 a4,.nils,.nils,.mp 1,.i64 a5,.i64 a6]),(1,.mpo .str (.int .u32) a7)]
abbrev ob3(a1:Int)(a2:Int)(a3:Int)(a4:Int):List (Nat×Tv.Obj):=[(0,.box [.nils,.u32 a1,.u32 a2,.nils,.nils]),(1,.box [.i64 a3,.i64 a4])]
abbrev bK(a1:List UInt8)(a2:Int)(a3:Int)(a4:Int)(a5:Int)(a6:Int)(a7:List (List UInt8))(a8:List Int)(a9:List (Int×Tree×Tree))(a10:List ((List UInt8)×Int)):List (Nat×Tv.Obj):=[(0,.box [.st a1,.i64 a2,.sl 1,.u32 a3,.u32 a4,.sl 2,.sl 3,.mp 4,.i64 a5,.i64 a6]),(1,.arr 9 .str a7),(2,.arr 3 (.int .i64) a8),(3,.arr 52 (.prod (.int .u8) Y1) a9),(4,.mpo .str (.int .u32) a10)]
abbrev aAJ(a1:List UInt8)(a2:Int)(a3:Int)(a4:Int)(a5:Int)(a6:Int)(a7:List (Int×Tree×Tree))(a8:List ((List UInt8)×Int))(a9:List (List UInt8))(a10:List Int):List (Nat×Tv.Obj):=[(0,.box [.st a1,.i64 a2,.sl 5,.u32 a3,.u32 a4,.sl 6,.sl 3,.mp 4,.i64 a5,.i64 a6]),(3,.arr 52 (.prod (.int .u8) Y1) a7),(4,.mpo .str (.int .u32) a8),(5,.arr 9 .str a9),(6,.arr 3 (.int .i64) a10)]
abbrev aCZ(a1:List UInt8)(a2:Int)(a3:Int)(a4:Int)(a5:Int)(a6:Int)(a7:List (List UInt8))(a8:List Int)(a9:List (Int×Tree×Tree))(a10:List ((List UInt8)×Int))(a11:Int)(a12:Int)(a13:Int)(a14:Int):List (Nat×Tv.Obj):=[(0,.box [.st a1,.i64 a2,.sl 1,.u32 a3,.u32 a4,.sl 2,.sl 3,.mp 4,.i64 a5,.i64 a6]),(1,.arr 9 .str a7),(2,.arr 3 (.int .i64) a8),(3,.arr 52 (.prod (.int .u8) Y1) a9),(4,.mpo .str (.int .u32) a10),(5,.box [.u8 a11,.u32 a12,.nils]),(6,.box [.u8 a13,.u32 a14,.nils])]
abbrev aB4(a1:List UInt8)(a2:Int)(a3:Int)(a4:Int)(a5:Int)(a6:Int)(a7:List (List UInt8))(a8:List Int)(a9:List (Int×Tree×Tree))(a10:List ((List UInt8)×Int))(a11:Int)(a12:Int):List (Nat×Tv.Obj):=[(0,.box [.st a1,.i64 a2,.sl 1,.u32 a3,.u32 a4,.sl 2,.sl 3,.mp 4,.i64 a5,.i64 a6]),(1,.arr 9 .str a7),(2,.arr 3 (.int .i64) a8),(3,.arr 52 (.prod (.int .u8) Y1) a9),(4,.mpo .str (.int .u32) a10),(5,.box [.u8 a11,.u32 a12,.nils])]
abbrev aA5(a1:List UInt8)(a2:Int)(a3:Int)(a4:Int)(a5:Int)(a6:Int)(a7:List (List UInt8))(a8:List Int)(a9:List (Int×Tree×Tree))(a10:List ((List UInt8)×Int))(a11:Int)(a12:Int)(a13:Int)(a14:Int)(a15:List Tree):List (Nat×Tv.Obj):=[(0,.box [.st a1,.i64 a2,.sl 1,.u32 a3,.u32 a4,.sl 2,.sl 3,.mp 4,.i64 a5,.i64 a6]),(1,.arr 9 .str a7),(2,.arr 3 (.int .i64) a8),(3,.arr 52 (.prod (.int .u8) Y1) a9),(4,.mpo .str (.int .u32) a10),(5,.box [.u8 a11,.u32 a12,.nils]),(6,.box [.u8 a13,.u32 a14,.p false (.slice (.tree .u8 .u32)) a15])]
abbrev aBy(a1:List UInt8)(a2:Int)(a3:Int)(a4:Int)(a5:Int)(a6:Int)(a7:List (List UInt8))(a8:List Int)(a9:List (Int×Tree×Tree))(a10:List ((List UInt8)×Int))(a11:Int)(a12:Int)(a13:List Tree):List (Nat×Tv.Obj):=[(0,.box [.st a1,.i64 a2,.sl 1,.u32 a3,.u32 a4,.sl 2,.sl 3,.mp 4,.i64 a5,.i64 a6]),(1,.arr 9 .str a7),(2,.arr 3 (.int .i64) a8),(3,.arr 52 (.prod (.int .u8) Y1) a9),(4,.mpo .str (.int .u32) a10),(5,.box [.u8 a11,.u32 a12,.sl 6]),(6,.arr 50 (.tree .u8 .u32) a13)]
abbrev aAB(a1:List UInt8)(a2:Int)(a3:Int)(a4:Int)(a5:Int)(a6:Int)(a7:List (List UInt8))(a8:List Int)(a9:List (Int×Tree×Tree))(a10:List ((List UInt8)×Int))(a11:Int)(a12:Int)(a13:List Tree):List (Nat×Tv.Obj):=[(0,.box [.st a1,.i64 a2,.sl 1,.u32 a3,.u32 a4,.sl 2,.sl 3,.mp 4,.i64 a5,.i64 a6]),(1,.arr 9 .str a7),(2,.arr 3 (.int .i64) a8),(3,.arr 52 (.prod (.int .u8) Y1) a9),(4,.mpo .str (.int .u32) a10),(5,.box [.u8 a11,.u32 a12,.p false (.slice (.tree .u8 .u32)) a13])]
abbrev Z6(a1:List UInt8)(a2:Int)(a3:Int)(a4:Int)(a5:Int)(a6:Int)(a7:List (List UInt8))(a8:List Int)(a9:List (Int×Tree×Tree))(a10:List ((List UInt8)×Int))(a11:Int)(a12:Int)(a13:List Tree):List (Nat×Tv.Obj):=[(0,.box [.st a1,.i64 a2,.sl 1,.u32 a3,.u32 a4,.sl 2,.sl 3,.mp 4,.i64 a5,.i64 a6]),(1,.arr 9 .str a7),(2,.arr 3 (.int .i64) a8),(3,.arr 52 (.prod (.int .u8) Y1) a9),(4,.mpo .str (.int .u32) a10),(5,.box [.u8 a11,.u32 a12,.nils]),(6,.arr 50 (.tree .u8 .u32) a13)]
abbrev aBN(a1:List UInt8)(a2:Int)(a3:Int)(a4:Int)(a5:Int)(a6:Int)(a7:List (List UInt8))(a8:List Int)(a9:List ((List UInt8)×Int))(a10:List (Int×Tree×Tree)):List (Nat×Tv.Obj):=[(0,.box [.st a1,.i64 a2,.sl 1,.u32 a3,.u32 a4,.sl 2,.sl 5,.mp 4,.i64 a5,.i64 a6]),(1,.arr 9 .str a7),(2,.arr 3 (.int .i64) a8),(4,.mpo .str (.int .u32) a9),(5,.arr 52 (.prod (.int .u8) Y1) a10)]
abbrev aCM(a1:List UInt8)(a2:Int)(a3:Int)(a4:Int)(a5:Int)(a6:Int)(a7:List ((List UInt8)×Int))(a8:List (List UInt8))(a9:List Int)(a10:List (Int×Tree×Tree))(a11:List ((List UInt8)×Int)):List (Nat×Tv.Obj):=[(0,.box [.st a1,.i64 a2,.sl 2,.u32 a3,.u32 a4,.sl 3,.sl 4,.mp 1,.i64 a5,.i64 a6]),(1,.mpo .str (.int .u32) a7),(2,.arr 9 .str a8),(3,.arr 3 (.int .i64) a9),(4,.arr 52 (.prod (.int .u8) Y1) a10),(5,.mpl .str [(([99,108,97,115,115]:List UInt8),(yM 29)),(([115,101,116]:List UInt8),(yM 30)),(([106,111,105,110]:List UInt8),(yM 31)),(([116,114,101,97,116]:List UInt8),(yM 32))]),(6,.mpo .str (.int .u8) a11)]
abbrev aBx(a1:List UInt8)(a2:Int)(a3:Int)(a4:Int)(a5:Int)(a6:Int)(a7:List ((List UInt8)×Int))(a8:List (List UInt8))(a9:List Int)(a10:List (Int×Tree×Tree)):List (Nat×Tv.Obj):=[(0,.box [.st a1,.i64 a2,.sl 2,.u32 a3,.u32 a4,.sl 3,.sl 4,.mp 1,.i64 a5,.i64 a6]),(1,.mpo .str (.int .u32) a7),(2,.arr 9 .str a8),(3,.arr 3 (.int .i64) a9),(4,.arr 52 (.prod (.int .u8) Y1) a10)]
abbrev aAq(a1:Int)(a2:Int)(a3:Int)(a4:Bool)(a5:List Int)(a6:List (Int×(List Int)×List Int)):List (Nat×Tv.Obj):=[(0,.box [.u8 a1,.u8 a2,.u8 a3,.p a4 (.slice (.int .u8)) a5,.p false (.slice (.prod (.int .u8) Y6)) a6])]
abbrev aCb(a1:Int)(a2:Int)(a3:Int)(a4:Bool)(a5:List Int)(a6:List (Int×(List Int)×List Int))(a7:List (List UInt8)):List (Nat×Tv.Obj):=[(0,.box [.u8 a1,.u8 a2,.u8 a3,.p a4 (.slice (.int .u8)) a5,.p false (.slice (.prod (.int .u8) Y6)) a6]),(1,.arr 9 .str a7)]
abbrev bJ(a1:List UInt8)(a2:Int)(a3:Int)(a4:Int)(a5:Int)(a6:Int)(a7:Int)(a8:Int)(a9:List (List UInt8))(a10:List Int)(a11:List (Int×Tree×Tree))(a12:List (List UInt8))(a13:List Int):List (Nat×Tv.Obj):=[(0,.box [.st a1,.i64 a2,.sl 1,.u32 a3,.u32 a4,.sl 2,.sl 3,.sl 4,.sl 5,.i64 a5,.i64 a6,.i64 a7,.i64 a8]),(1,.arr 9 .str a9),(2,.arr 3 (.int .i64) a10),(3,.arr 52 (.prod (.int .u8) Y1) a11),(4,.arr 9 .str a12),(5,.arr 34 (.int .u32) a13)]
abbrev aBM(a1:List UInt8)(a2:Int)(a3:Int)(a4:Int)(a5:Int)(a6:Int)(a7:Int)(a8:Int)(a9:List (List UInt8))(a10:List Int)(a11:List (Int×Tree×Tree))(a12:List (List UInt8))(a13:List Int):List (Nat×Tv.Obj):=[(0,.box [.st a1,.i64 a2,.sl 1,.u32 a3,.u32 a4,.sl 2,.sl 3,.sl 6,.sl 7,.i64 a5,.i64 a6,.i64 a7,.i64 a8]),(1,.arr 9 .str a9),(2,.arr 3 (.int .i64) a10),(3,.arr 52 (.prod (.int .u8) Y1) a11),(6,.arr 9 .str a12),(7,.arr 34 (.int .u32) a13)]
abbrev aAf(a1:List UInt8)(a2:Int)(a3:Int)(a4:Int)(a5:Int)(a6:Int)(a7:Int)(a8:Int)(a9:List (Int×Tree×Tree))(a10:List (List UInt8))(a11:List Int)(a12:List (List UInt8))(a13:List Int):List (Nat×Tv.Obj):=[(0,.box [.st a1,.i64 a2,.sl 6,.u32 a3,.u32 a4,.sl 7,.sl 3,.sl 8,.sl 9,.i64 a5,.i64 a6,.i64 a7,.i64 a8]),(3,.arr 52 (.prod (.int .u8) Y1) a9),(6,.arr 9 .str a10),(7,.arr 3 (.int .i64) a11),(8,.arr 9 .str a12),(9,.arr 34 (.int .u32) a13)]
abbrev H7(a1:List UInt8)(a2:Int)(a3:Int)(a4:Int)(a5:Int)(a6:Int)(a7:Int)(a8:Int)(a9:List (List UInt8))(a10:List Int)(a11:List (Int×Tree×Tree))(a12:List (List UInt8))(a13:List Int)(a14:Int)(a15:Int):List (Nat×Tv.Obj):=[(0,.box [.st a1,.i64 a2,.sl 1,.u32 a3,.u32 a4,.sl 2,.sl 3,.sl 4,.sl 5,.i64 a5,.i64 a6,.i64 a7,.i64 a8]),(1,.arr 9 .str a9),(2,.arr 3 (.int .i64) a10),(3,.arr 52 (.prod (.int .u8) Y1) a11),(4,.arr 9 .str a12),(5,.arr 34 (.int .u32) a13),(6,.box [.u8 a14,.u32 a15,.nils])]
abbrev aC8(a1:List UInt8)(a2:Int)(a3:Int)(a4:Int)(a5:Int)(a6:Int)(a7:Int)(a8:Int)(a9:List (List UInt8))(a10:List Int)(a11:List (Int×Tree×Tree))(a12:List (List UInt8))(a13:List Int)(a14:Int)(a15:Int)(a16:List Tree)(a17:Int)(a18:Int)(a19:List Tree):List (Nat×Tv.Obj):=[(0,.box [.st a1,.i64 a2,.sl 1,.u32 a3,.u32 a4,.sl 2,.sl 3,.sl 4,.sl 5,.i64 a5,.i64 a6,.i64 a7,.i64 a8]),(1,.arr 9 .str a9),(2,.arr 3 (.int .i64) a10),(3,.arr 52 (.prod (.int .u8) Y1) a11),(4,.arr 9 .str a12),(5,.arr 34 (.int .u32) a13),(6,.box [.u8 a14,.u32 a15,.nils]),(7,.arr 50 (.tree .u8 .u32) a16),(8,.box [.u8 a17,.u32 a18,.p false (.slice (.tree .u8 .u32)) a19])]
abbrev T6(a1:List UInt8)(a2:Int)(a3:Int)(a4:Int)(a5:Int)(a6:Int)(a7:Int)(a8:Int)(a9:List (List UInt8))(a10:List Int)(a11:List (Int×Tree×Tree))(a12:List (List UInt8))(a13:List Int)(a14:Int)(a15:Int)(a16:List Tree):List (Nat×Tv.Obj):=[(0,.box [.st a1,.i64 a2,.sl 1,.u32 a3,.u32 a4,.sl 2,.sl 3,.sl 4,.sl 5,.i64 a5,.i64 a6,.i64 a7,.i64 a8]),(1,.arr 9 .str a9),(2,.arr 3 (.int .i64) a10),(3,.arr 52 (.prod (.int .u8) Y1) a11),(4,.arr 9 .str a12),(5,.arr 34 (.int .u32) a13),(6,.box [.u8 a14,.u32 a15,.nils]),(7,.arr 50 (.tree .u8 .u32) a16)]
abbrev aBp(a1:List UInt8)(a2:Int)(a3:Int)(a4:Int)(a5:Int)(a6:Int)(a7:Int)(a8:Int)(a9:List (List UInt8))(a10:List Int)(a11:List (Int×Tree×Tree))(a12:List (List UInt8))(a13:List Int)(a14:Int)(a15:Int)(a16:List Tree):List (Nat×Tv.Obj):=[(0,.box [.st a1,.i64 a2,.sl 1,.u32 a3,.u32 a4,.sl 2,.sl 3,.sl 4,.sl 5,.i64 a5,.i64 a6,.i64 a7,.i64 a8]),(1,.arr 9 .str a9),(2,.arr 3 (.int .i64) a10),(3,.arr 52 (.prod (.int .u8) Y1) a11),(4,.arr 9 .str a12),(5,.arr 34 (.int .u32) a13),(6,.box [.u8 a14,.u32 a15,.p false (.slice (.tree .u8 .u32)) a16])]
abbrev aB5(a1:List UInt8)(a2:Int)(a3:Int)(a4:Int)(a5:Int)(a6:Int)(a7:Int)(a8:Int)(a9:List (List UInt8))(a10:List Int)(a11:List (Int×Tree×Tree))(a12:List (List UInt8))(a13:List Int)(a14:Int)(a15:Int)(a16:List Tree):List (Nat×Tv.Obj):=[(0,.box [.st a1,.i64 a2,.sl 1,.u32 a3,.u32 a4,.sl 2,.sl 3,.sl 4,.sl 5,.i64 a5,.i64 a6,.i64 a7,.i64 a8]),(1,.arr 9 .str a9),(2,.arr 3 (.int .i64) a10),(3,.arr 52 (.prod (.int .u8) Y1) a11),(4,.arr 9 .str a12),(5,.arr 34 (.int .u32) a13),(6,.box [.u8 a14,.u32 a15,.sl 7]),(7,.arr 50 (.tree .u8 .u32) a16)]
abbrev aBk(a1:List UInt8)(a2:Int)(a3:Int)(a4:Int)(a5:Int)(a6:Int)(a7:Int)(a8:Int)(a9:List (List UInt8))(a10:List Int)(a11:List (List UInt8))(a12:List Int)(a13:List (Int×Tree×Tree)):List (Nat×Tv.Obj):=[(0,.box [.st a1,.i64 a2,.sl 1,.u32 a3,.u32 a4,.sl 2,.sl 6,.sl 4,.sl 5,.i64 a5,.i64 a6,.i64 a7,.i64 a8]),(1,.arr 9 .str a9),(2,.arr 3 (.int .i64) a10),(4,.arr 9 .str a11),(5,.arr 34 (.int .u32) a12),(6,.arr 52 (.prod (.int .u8) Y1) a13)]
abbrev aBj(a1:List UInt8)(a2:Int)(a3:Int)(a4:Int)(a5:Int)(a6:Int)(a7:Int)(a8:Int)(a9:List (List UInt8))(a10:List Int)(a11:List (Int×Tree×Tree))(a12:List (List UInt8))(a13:List Int):List (Nat×Tv.Obj):=[(0,.box [.st a1,.i64 a2,.sl 6,.u32 a3,.u32 a4,.sl 7,.sl 8,.sl 9,.sl 10,.i64 a5,.i64 a6,.i64 a7,.i64 a8]),(6,.arr 9 .str a9),(7,.arr 3 (.int .i64) a10),(8,.arr 52 (.prod (.int .u8) Y1) a11),(9,.arr 9 .str a12),(10,.arr 34 (.int .u32) a13)]
abbrev aBw(a1:Int)(a2:Int)(a3:List UInt8)(a4:Int)(a5:Int)(a6:Int)(a7:Int)(a8:Int)(a9:Int)(a10:Int)(a11:List (List UInt8))(a12:List Int)(a13:List (Int×Tree×Tree))(a14:List (List UInt8))(a15:List Int):List (Nat×Tv.Obj):=[(0,.box [.nils,.u32 a1,.u32 a2,.nils,.nils]),(1,.box [.st a3,.i64 a4,.sl 2,.u32 a5,.u32 a6,.sl 3,.sl 4,.sl 5,.sl 6,.i64 a7,.i64 a8,.i64 a9,.i64 a10]),(2,.arr 9 .str a11),(3,.arr 3 (.int .i64) a12),(4,.arr 52 (.prod (.int .u8) Y1) a13),(5,.arr 9 .str a14),(6,.arr 34 (.int .u32) a15)]
abbrev aB6(a1:Int)(a2:Int)(a3:Bool)(a4:List Tree)(a5:Int)(a6:Int)(a7:Bool)(a8:List Tree):List (Nat×Tv.Obj):=[(0,.box [.u8 a1,.u32 a2,.p a3 (.slice (.tree .u8 .u32)) a4]),(1,.box [.u8 a5,.u32 a6,.p a7 (.slice (.tree .u8 .u32)) a8])]
abbrev T4(a1:Bool)(a2:List (List UInt8))(a3:Int)(a4:Int)(a5:Bool)(a6:List Int)(a7:Bool)(a8:List (Int×Tree×Tree))(a9:Bool)(a10:List (List UInt8))(a11:Int)(a12:Int)(a13:Bool)(a14:List Int)(a15:Bool)(a16:List (Int×Tree×Tree)):List (Nat×Tv.Obj):=[(0,.box [.p a1 (.slice .str) a2,.u32 a3,.u32 a4,.p a5 (.slice (.int .i64)) a6,.p a7 (.slice (.prod (.int .u8) Y1)) a8]),(1,.box [.p a9 (.slice .str) a10,.u32 a11,.u32 a12,.p a13 (.slice (.int .i64)) a14,.p a15 (.slice (.prod (.int .u8) Y1)) a16])]
def tb:Tab:=[
 (3,⟨some (.int .i64),(.int .i64),1,8,[.i64 (0:Int)]⟩),
 (5,⟨some (.int .u8),(.int .u8),1,1,[.u8 (0:Int)]⟩),
 (9,⟨some .str,.str,1,16,[.st ([]:List UInt8)]⟩),
 (20,⟨none,.other,1,16,[.lit .nilIface]⟩),
 (24,⟨some (.slice (.int .u8)),(.sl 5),1,24,[.nils]⟩),
 (25,⟨some (.slice (.prod (.int .u8) Y6)),(.sl 54),1,24,[.nils]⟩),
 (27,⟨some (.prod (.int .u8) Y8),(.st [(0,5),(1,5),(2,5),(3,24),(4,25)]),5,56,[.u8 (0:Int),.u8 (0:Int),.u8 (0:Int),.nils,.nils]⟩),
 (28,⟨some (.slice (.int .i64)),(.sl 3),1,24,[.nils]⟩),
 (30,⟨some (.int .u64),(.int .u64),1,8,[.u64 (0:Int)]⟩),
 (33,⟨some (.slice .str),(.sl 9),1,24,[.nils]⟩),
 (34,⟨some (.int .u32),(.int .u32),1,4,[.u32 (0:Int)]⟩),
 (35,⟨some (.slice (.prod (.int .u8) Y1)),(.sl 52),1,24,[.nils]⟩),
 (37,⟨some Y4,(.st [(0,33),(1,34),(2,34),(3,28),(4,35)]),5,80,[.nils,.u32 (0:Int),.u32 (0:Int),.nils,.nils]⟩),
 (38,⟨some (.int .i64),(.int .i64),1,8,[.i64 (0:Int)]⟩),
 (40,⟨some Y5,(.st [(0,38),(1,3)]),2,16,[.i64 (0:Int),.i64 (0:Int)]⟩),
 (46,⟨some (.int .u8),(.int .u8),1,1,[.u8 (0:Int)]⟩),
 (47,⟨some (.int .u8),(.int .u8),1,1,[.u8 (0:Int)]⟩),
 (48,⟨some (.slice (.tree .u8 .u32)),(.sl 50),1,24,[.nils]⟩),
 (50,⟨some (.tree .u8 .u32),(.st [(0,47),(1,34),(2,48)]),3,32,[.u8 (0:Int),.u32 (0:Int),.nils]⟩),
 (52,⟨some (.prod (.int .u8) Y1),(.st [(0,46),(1,50),(4,50)]),7,72,[.u8 (0:Int),.u8 (0:Int),.u32 (0:Int),.nils,.u8 (0:Int),.u32 (0:Int),.nils]⟩),
 (54,⟨some (.prod (.int .u8) Y6),(.st [(0,5),(1,24),(2,24)]),3,56,[.u8 (0:Int),.nils,.nils]⟩),
 (64,⟨none,.other,1,8,[.nilp]⟩),
 (65,⟨none,(.mp 9 34),1,8,[.unk]⟩),
 (67,⟨none,(.st [(0,9),(1,3),(2,37),(7,65),(8,3),(9,3)]),10,128,[.st ([]:List UInt8),.i64 (0:Int),.nils,.u32 (0:Int),.u32 (0:Int),.nils,.nils,.unk,.i64 (0:Int),.i64 (0:Int)]⟩),
 (72,⟨none,.other,1,8,[.nilp]⟩),
 (73,⟨some (.slice (.int .u32)),(.sl 34),1,24,[.nils]⟩),
 (75,⟨some (.prod .str Y12),(.st [(0,9),(1,3),(2,37),(7,33),(8,73),(9,3),(10,3),(11,3),(12,3)]),13,184,[.st ([]:List UInt8),.i64 (0:Int),.nils,.u32 (0:Int),.u32 (0:Int),.nils,.nils,.nils,.nils,.i64 (0:Int),.i64 (0:Int),.i64 (0:Int),.i64 (0:Int)]⟩),
 (78,⟨none,.other,1,8,[.nilp]⟩),
 (80,⟨some Y13,(.st [(0,24),(1,3)]),2,32,[.nils,.i64 (0:Int)]⟩),
 (81,⟨none,.other,1,8,[.unk]⟩),
 (82,⟨none,(.mp 9 81),1,8,[.unk]⟩),
 (83,⟨none,(.mp 9 46),1,8,[.unk]⟩),
 (101,⟨some (.prod (.int .u8) Y16),(.ar 7 5),7,7,[.u8 (0:Int),.u8 (0:Int),.u8 (0:Int),.u8 (0:Int),.u8 (0:Int),.u8 (0:Int),.u8 (0:Int)]⟩)]
theorem ti3:TIok Try.prog 3 ⟨some (.int .i64),(.int .i64),1,8,[.i64 (0:Int)]⟩:=⟨⟨_,_,rfl,rfl,rfl,rfl,rfl,rfl,by simp[Value.cells,Value.oneCell']⟩,(⟨_,rfl,rfl⟩),rfl,(fun _=>rfl),(fun T h=>by cases h;exact⟨rfl,rfl,rfl⟩)⟩
theorem ti5:TIok Try.prog 5 ⟨some (.int .u8),(.int .u8),1,1,[.u8 (0:Int)]⟩:=⟨⟨_,_,rfl,rfl,rfl,rfl,rfl,rfl,by simp[Value.cells,Value.oneCell']⟩,(⟨_,rfl,rfl⟩),rfl,(fun _=>rfl),(fun T h=>by cases h;exact⟨rfl,rfl,rfl⟩)⟩
theorem ti9:TIok Try.prog 9 ⟨some .str,.str,1,16,[.st ([]:List UInt8)]⟩:=⟨⟨_,_,rfl,rfl,rfl,rfl,rfl,rfl,by simp[Value.cells,Value.oneCell']⟩,(⟨_,rfl,rfl⟩),rfl,(fun _=>rfl),(fun T h=>by cases h;exact⟨rfl,rfl,rfl⟩)⟩
theorem aCy:TIok Try.prog 20 ⟨none,.other,1,16,[.lit .nilIface]⟩:=⟨⟨_,_,rfl,rfl,rfl,rfl,rfl,rfl,by simp[Value.cells,Value.oneCell']⟩,(⟨_,rfl,rfl⟩),rfl,(fun _=>rfl),(fun T h=>by cases h)⟩
theorem aCN:TIok Try.prog 24 ⟨some (.slice (.int .u8)),(.sl 5),1,24,[.nils]⟩:=⟨⟨_,_,rfl,rfl,rfl,rfl,rfl,rfl,by simp[Value.cells,Value.oneCell']⟩,(⟨_,rfl,rfl⟩),rfl,(fun _=>rfl),(fun T h=>by cases h;exact⟨rfl,rfl,rfl⟩)⟩
theorem aCV:TIok Try.prog 25 ⟨some (.slice (.prod (.int .u8) Y6)),(.sl 54),1,24,[.nils]⟩:=⟨⟨_,_,rfl,rfl,rfl,rfl,rfl,rfl,by simp[Value.cells,Value.oneCell']⟩,(⟨_,rfl,rfl⟩),rfl,(fun _=>rfl),(fun T h=>by cases h;exact⟨rfl,rfl,rfl⟩)⟩
theorem aCP:TIok Try.prog 27 ⟨some (.prod (.int .u8) Y8),(.st [(0,5),(1,5),(2,5),(3,24),(4,25)]),5,56,[.u8 (0:Int),.u8 (0:Int),.u8 (0:Int),.nils,.nils]⟩:=⟨⟨_,_,rfl,rfl,rfl,rfl,rfl,rfl,by simp[Value.cells,Value.oneCell']⟩,(⟨_,rfl,_,rfl,rfl,by
  intro f hf
  simp only[List.mem_cons,List.not_mem_nil,or_false]at hf
  rcases hf with rfl | rfl | rfl | rfl | rfl <;> exact⟨_,rfl,by decide⟩⟩),rfl,(fun h=>by cases h),(fun T h=>by cases h;exact⟨rfl,rfl,rfl⟩)⟩
theorem aCG:TIok Try.prog 28 ⟨some (.slice (.int .i64)),(.sl 3),1,24,[.nils]⟩:=⟨⟨_,_,rfl,rfl,rfl,rfl,rfl,rfl,by simp[Value.cells,Value.oneCell']⟩,(⟨_,rfl,rfl⟩),rfl,(fun _=>rfl),(fun T h=>by cases h;exact⟨rfl,rfl,rfl⟩)⟩
theorem aCY:TIok Try.prog 30 ⟨some (.int .u64),(.int .u64),1,8,[.u64 (0:Int)]⟩:=⟨⟨_,_,rfl,rfl,rfl,rfl,rfl,rfl,by simp[Value.cells,Value.oneCell']⟩,(⟨_,rfl,rfl⟩),rfl,(fun _=>rfl),(fun T h=>by cases h;exact⟨rfl,rfl,rfl⟩)⟩
theorem aCR:TIok Try.prog 33 ⟨some (.slice .str),(.sl 9),1,24,[.nils]⟩:=⟨⟨_,_,rfl,rfl,rfl,rfl,rfl,rfl,by simp[Value.cells,Value.oneCell']⟩,(⟨_,rfl,rfl⟩),rfl,(fun _=>rfl),(fun T h=>by cases h;exact⟨rfl,rfl,rfl⟩)⟩
theorem aCQ:TIok Try.prog 34 ⟨some (.int .u32),(.int .u32),1,4,[.u32 (0:Int)]⟩:=⟨⟨_,_,rfl,rfl,rfl,rfl,rfl,rfl,by simp[Value.cells,Value.oneCell']⟩,(⟨_,rfl,rfl⟩),rfl,(fun _=>rfl),(fun T h=>by cases h;exact⟨rfl,rfl,rfl⟩)⟩
theorem aCv:TIok Try.prog 35 ⟨some (.slice (.prod (.int .u8) Y1)),(.sl 52),1,24,[.nils]⟩:=⟨⟨_,_,rfl,rfl,rfl,rfl,rfl,rfl,by simp[Value.cells,Value.oneCell']⟩,(⟨_,rfl,rfl⟩),rfl,(fun _=>rfl),(fun T h=>by cases h;exact⟨rfl,rfl,rfl⟩)⟩
theorem aCU:TIok Try.prog 37 ⟨some Y4,(.st [(0,33),(1,34),(2,34),(3,28),(4,35)]),5,80,[.nils,.u32 (0:Int),.u32 (0:Int),.nils,.nils]⟩:=⟨⟨_,_,rfl,rfl,rfl,rfl,rfl,rfl,by simp[Value.cells,Value.oneCell']⟩,(⟨_,rfl,_,rfl,rfl,by
  intro f hf
  simp only[List.mem_cons,List.not_mem_nil,or_false]at hf
  rcases hf with rfl | rfl | rfl | rfl | rfl <;> exact⟨_,rfl,by decide⟩⟩),rfl,(fun h=>by cases h),(fun T h=>by cases h;exact⟨rfl,rfl,rfl⟩)⟩
theorem aC4:TIok Try.prog 38 ⟨some (.int .i64),(.int .i64),1,8,[.i64 (0:Int)]⟩:=⟨⟨_,_,rfl,rfl,rfl,rfl,rfl,rfl,by simp[Value.cells,Value.oneCell']⟩,(⟨_,rfl,rfl⟩),rfl,(fun _=>rfl),(fun T h=>by cases h;exact⟨rfl,rfl,rfl⟩)⟩
theorem aCs:TIok Try.prog 40 ⟨some Y5,(.st [(0,38),(1,3)]),2,16,[.i64 (0:Int),.i64 (0:Int)]⟩:=⟨⟨_,_,rfl,rfl,rfl,rfl,rfl,rfl,by simp[Value.cells,Value.oneCell']⟩,(⟨_,rfl,_,rfl,rfl,by
  intro f hf
  simp only[List.mem_cons,List.not_mem_nil,or_false]at hf
  rcases hf with rfl | rfl <;> exact⟨_,rfl,by decide⟩⟩),rfl,(fun h=>by cases h),(fun T h=>by cases h;exact⟨rfl,rfl,rfl⟩)⟩
theorem aCO:TIok Try.prog 46 ⟨some (.int .u8),(.int .u8),1,1,[.u8 (0:Int)]⟩:=⟨⟨_,_,rfl,rfl,rfl,rfl,rfl,rfl,by simp[Value.cells,Value.oneCell']⟩,(⟨_,rfl,rfl⟩),rfl,(fun _=>rfl),(fun T h=>by cases h;exact⟨rfl,rfl,rfl⟩)⟩
theorem aC9:TIok Try.prog 47 ⟨some (.int .u8),(.int .u8),1,1,[.u8 (0:Int)]⟩:=⟨⟨_,_,rfl,rfl,rfl,rfl,rfl,rfl,by simp[Value.cells,Value.oneCell']⟩,(⟨_,rfl,rfl⟩),rfl,(fun _=>rfl),(fun T h=>by cases h;exact⟨rfl,rfl,rfl⟩)⟩
theorem aC2:TIok Try.prog 48 ⟨some (.slice (.tree .u8 .u32)),(.sl 50),1,24,[.nils]⟩:=⟨⟨_,_,rfl,rfl,rfl,rfl,rfl,rfl,by simp[Value.cells,Value.oneCell']⟩,(⟨_,rfl,rfl⟩),rfl,(fun _=>rfl),(fun T h=>by cases h;exact⟨rfl,rfl,rfl⟩)⟩
theorem aC3:TIok Try.prog 50 ⟨some (.tree .u8 .u32),(.st [(0,47),(1,34),(2,48)]),3,32,[.u8 (0:Int),.u32 (0:Int),.nils]⟩:=⟨⟨_,_,rfl,rfl,rfl,rfl,rfl,rfl,by simp[Value.cells,Value.oneCell']⟩,(⟨_,rfl,_,rfl,rfl,by
  intro f hf
  simp only[List.mem_cons,List.not_mem_nil,or_false]at hf
  rcases hf with rfl | rfl | rfl <;> exact⟨_,rfl,by decide⟩⟩),rfl,(fun h=>by cases h),(fun T h=>by cases h;exact⟨rfl,rfl,rfl⟩)⟩
theorem aCD:TIok Try.prog 52 ⟨some (.prod (.int .u8) Y1),(.st [(0,46),(1,50),(4,50)]),7,72,[.u8 (0:Int),.u8 (0:Int),.u32 (0:Int),.nils,.u8 (0:Int),.u32 (0:Int),.nils]⟩:=⟨⟨_,_,rfl,rfl,rfl,rfl,rfl,rfl,by simp[Value.cells,Value.oneCell']⟩,(⟨_,rfl,_,rfl,rfl,by
  intro f hf
  simp only[List.mem_cons,List.not_mem_nil,or_false]at hf
  rcases hf with rfl | rfl | rfl <;> exact⟨_,rfl,by decide⟩⟩),rfl,(fun h=>by cases h),(fun T h=>by cases h;exact⟨rfl,rfl,rfl⟩)⟩
theorem aCW:TIok Try.prog 54 ⟨some (.prod (.int .u8) Y6),(.st [(0,5),(1,24),(2,24)]),3,56,[.u8 (0:Int),.nils,.nils]⟩:=⟨⟨_,_,rfl,rfl,rfl,rfl,rfl,rfl,by simp[Value.cells,Value.oneCell']⟩,(⟨_,rfl,_,rfl,rfl,by
  intro f hf
  simp only[List.mem_cons,List.not_mem_nil,or_false]at hf
  rcases hf with rfl | rfl | rfl <;> exact⟨_,rfl,by decide⟩⟩),rfl,(fun h=>by cases h),(fun T h=>by cases h;exact⟨rfl,rfl,rfl⟩)⟩
theorem aCT:TIok Try.prog 64 ⟨none,.other,1,8,[.nilp]⟩:=⟨⟨_,_,rfl,rfl,rfl,rfl,rfl,rfl,by simp[Value.cells,Value.oneCell']⟩,(⟨_,rfl,rfl⟩),rfl,(fun _=>rfl),(fun T h=>by cases h)⟩
theorem aCH:TIok Try.prog 65 ⟨none,(.mp 9 34),1,8,[.unk]⟩:=⟨⟨_,_,rfl,rfl,rfl,rfl,rfl,rfl,by simp[Value.cells,Value.oneCell']⟩,(⟨_,rfl,rfl⟩),rfl,(fun _=>rfl),(fun T h=>by cases h)⟩
theorem aCE:TIok Try.prog 67 ⟨none,(.st [(0,9),(1,3),(2,37),(7,65),(8,3),(9,3)]),10,128,[.st ([]:List UInt8),.i64 (0:Int),.nils,.u32 (0:Int),.u32 (0:Int),.nils,.nils,.unk,.i64 (0:Int),.i64 (0:Int)]⟩:=⟨⟨_,_,rfl,rfl,rfl,rfl,rfl,rfl,by simp[Value.cells,Value.oneCell']⟩,(⟨_,rfl,_,rfl,rfl,by
  intro f hf
  simp only[List.mem_cons,List.not_mem_nil,or_false]at hf
  rcases hf with rfl | rfl | rfl | rfl | rfl | rfl <;> exact⟨_,rfl,by decide⟩⟩),rfl,(fun h=>by cases h),(fun T h=>by cases h)⟩
theorem aC5:TIok Try.prog 72 ⟨none,.other,1,8,[.nilp]⟩:=⟨⟨_,_,rfl,rfl,rfl,rfl,rfl,rfl,by simp[Value.cells,Value.oneCell']⟩,(⟨_,rfl,rfl⟩),rfl,(fun _=>rfl),(fun T h=>by cases h)⟩
theorem aCz:TIok Try.prog 73 ⟨some (.slice (.int .u32)),(.sl 34),1,24,[.nils]⟩:=⟨⟨_,_,rfl,rfl,rfl,rfl,rfl,rfl,by simp[Value.cells,Value.oneCell']⟩,(⟨_,rfl,rfl⟩),rfl,(fun _=>rfl),(fun T h=>by cases h;exact⟨rfl,rfl,rfl⟩)⟩
theorem aCp:TIok Try.prog 75 ⟨some (.prod .str Y12),(.st [(0,9),(1,3),(2,37),(7,33),(8,73),(9,3),(10,3),(11,3),(12,3)]),13,184,[.st ([]:List UInt8),.i64 (0:Int),.nils,.u32 (0:Int),.u32 (0:Int),.nils,.nils,.nils,.nils,.i64 (0:Int),.i64 (0:Int),.i64 (0:Int),.i64 (0:Int)]⟩:=⟨⟨_,_,rfl,rfl,rfl,rfl,rfl,rfl,by simp[Value.cells,Value.oneCell']⟩,(⟨_,rfl,_,rfl,rfl,by
  intro f hf
  simp only[List.mem_cons,List.not_mem_nil,or_false]at hf
  rcases hf with rfl | rfl | rfl | rfl | rfl | rfl | rfl | rfl | rfl <;> exact⟨_,rfl,by decide⟩⟩),rfl,(fun h=>by cases h),(fun T h=>by cases h;exact⟨rfl,rfl,rfl⟩)⟩
theorem aCB:TIok Try.prog 78 ⟨none,.other,1,8,[.nilp]⟩:=⟨⟨_,_,rfl,rfl,rfl,rfl,rfl,rfl,by simp[Value.cells,Value.oneCell']⟩,(⟨_,rfl,rfl⟩),rfl,(fun _=>rfl),(fun T h=>by cases h)⟩
theorem aC6:TIok Try.prog 80 ⟨some Y13,(.st [(0,24),(1,3)]),2,32,[.nils,.i64 (0:Int)]⟩:=⟨⟨_,_,rfl,rfl,rfl,rfl,rfl,rfl,by simp[Value.cells,Value.oneCell']⟩,(⟨_,rfl,_,rfl,rfl,by
  intro f hf
  simp only[List.mem_cons,List.not_mem_nil,or_false]at hf
  rcases hf with rfl | rfl <;> exact⟨_,rfl,by decide⟩⟩),rfl,(fun h=>by cases h),(fun T h=>by cases h;exact⟨rfl,rfl,rfl⟩)⟩
theorem aCA:TIok Try.prog 81 ⟨none,.other,1,8,[.unk]⟩:=⟨⟨_,_,rfl,rfl,rfl,rfl,rfl,rfl,by simp[Value.cells,Value.oneCell']⟩,(⟨_,rfl,rfl⟩),rfl,(fun _=>rfl),(fun T h=>by cases h)⟩
theorem aCK:TIok Try.prog 82 ⟨none,(.mp 9 81),1,8,[.unk]⟩:=⟨⟨_,_,rfl,rfl,rfl,rfl,rfl,rfl,by simp[Value.cells,Value.oneCell']⟩,(⟨_,rfl,rfl⟩),rfl,(fun _=>rfl),(fun T h=>by cases h)⟩
theorem aCS:TIok Try.prog 83 ⟨none,(.mp 9 46),1,8,[.unk]⟩:=⟨⟨_,_,rfl,rfl,rfl,rfl,rfl,rfl,by simp[Value.cells,Value.oneCell']⟩,(⟨_,rfl,rfl⟩),rfl,(fun _=>rfl),(fun T h=>by cases h)⟩
theorem aB7:TIok Try.prog 101 ⟨some (.prod (.int .u8) Y16),(.ar 7 5),7,7,[.u8 (0:Int),.u8 (0:Int),.u8 (0:Int),.u8 (0:Int),.u8 (0:Int),.u8 (0:Int),.u8 (0:Int)]⟩:=⟨⟨_,_,rfl,rfl,rfl,rfl,rfl,rfl,by simp[Value.cells,Value.oneCell']⟩,(⟨_,rfl,rfl⟩),rfl,(fun h=>by cases h),(fun T h=>by cases h;exact⟨rfl,rfl,rfl⟩)⟩
theorem bL:TabOK Try.prog tb:=by
 intro p hp
 simp only[tb,List.mem_cons,List.not_mem_nil,or_false]at hp
 rcases hp with rfl | rfl | rfl | rfl | rfl | rfl | rfl | rfl | rfl | rfl | rfl | rfl | rfl | rfl | rfl | rfl | rfl | rfl | rfl | rfl | rfl | rfl | rfl | rfl | rfl | rfl | rfl | rfl | rfl | rfl | rfl | rfl | rfl
 ·exact ti3
 ·exact ti5
 ·exact ti9
 ·exact aCy
 ·exact aCN
 ·exact aCV
 ·exact aCP
 ·exact aCG
 ·exact aCY
 ·exact aCR
 ·exact aCQ
 ·exact aCv
 ·exact aCU
 ·exact aC4
 ·exact aCs
 ·exact aCO
 ·exact aC9
 ·exact aC2
 ·exact aC3
 ·exact aCD
 ·exact aCW
 ·exact aCT
 ·exact aCH
 ·exact aCE
 ·exact aC5
 ·exact aCz
 ·exact aCp
 ·exact aCB
 ·exact aC6
 ·exact aCA
 ·exact aCK
 ·exact aCS
 ·exact aB7
theorem O7:aBu Try.prog 40 Y5:=aAF 8 (by decide) (by kernel_rfl) ⟨by kernel_rfl,rfl⟩
theorem pK:Try.prog.follows .mixedOrders=true:=by kernel_rfl
section
variable{n:NS}{Bw:Nat→Prop}{w0:Base Try.prog}{σ:St}{Q:Exit→St→Prop}{id:Nat}{ops:Array Oper}{d:Code}{fid:FuncId}{args:List AVal}{hin hout:List (Nat×Tv.Obj)}{r:AVal}{y:Value}
theorem Ge(hq:∀σ',Le n σ' (gT Try.prog tb a0 n ops σ)→Q .normal σ')(h:gP Try.prog tb a0 n ops σ=some (cP ops.size 0 []):=by kernel_rfl):W Try.prog n Bw w0 (.region id ops false) σ Q:=U2 bL a0 [] h hq
theorem dT(an:An)(cs:List (Nat×Nat×PP))(hq:∀σ',Le n σ' (gT Try.prog tb an n ops σ)→Q .normal σ')(h:gP Try.prog tb an n ops σ=some (cP ops.size 0 cs):=by kernel_rfl):W Try.prog n Bw w0 (.region id ops false) σ Q:=U2 bL an cs h hq
theorem yT(an:An)(cs:List (Nat×Nat×PP))(hq:∀σ',Le n σ' (z9 Try.prog tb an n ops σ)→Q .normal σ')(h:C7 Try.prog tb an n ops σ=some (cP ops.size 0 cs):=by kernel_rfl):W Try.prog n Bw w0 (.region id ops true) σ Q:=aB9 bL pK an cs h hq
theorem GCe(i:Nat){α:Type}{p:Prop}[Decidable p]{u:Option α}{v:α}(h:(if p then u else none)=some v)(hq:u=some v→∀σ',Le n σ' (gT Try.prog tb a0 n ops σ)→Q .normal σ')(hk:gP Try.prog tb a0 n ops σ=some (cG ops.size i p):=by kernel_rfl):W Try.prog n Bw w0 (.region id ops false) σ Q:=aAS bL i h hk hq
theorem GPe(i:Nat)(u:Pure Try.prog fid args r)(hq:∀σ',Le n σ' (gT Try.prog tb ⟨[],[(i,oP u)]⟩ n ops σ)→Q .normal σ')(h:gP Try.prog tb ⟨[],[(i,oP u)]⟩ n ops σ=some (cP ops.size 0 [(i,i,oc u)]):=by kernel_rfl):W Try.prog n Bw w0 (.region id ops false) σ Q:=aBO bL i u h hq
theorem jH(i:Nat)(g:List Nat)(u:Owns Try.prog fid args hin r hout)(hq:∀σ',Le n σ' (gT Try.prog tb ⟨[],[(i,oO u g)]⟩ n ops σ)→Q .normal σ')(h:gP Try.prog tb ⟨[],[(i,oO u g)]⟩ n ops σ=some (cP ops.size 0 [(i,i,oc u)]):=by kernel_rfl):W Try.prog n Bw w0 (.region id ops false) σ Q:=aCd bL i g u h hq
theorem G(hq:W Try.prog n Bw w0 d (gT Try.prog tb a0 n ops σ) Q)(h:gP Try.prog tb a0 n ops σ=some (cP ops.size 0 []):=by kernel_rfl):W Try.prog n Bw w0 (.seq (.region id ops false) d) σ Q:=W_g bL a0 [] h hq
theorem GN(an:An)(cs:List (Nat×Nat×PP))(hq:W Try.prog n Bw w0 d (gT Try.prog tb an n ops σ) Q)(h:gP Try.prog tb an n ops σ=some (cP ops.size 0 cs):=by kernel_rfl):W Try.prog n Bw w0 (.seq (.region id ops false) d) σ Q:=W_g bL an cs h hq
theorem GD(an:An)(cs:List (Nat×Nat×PP))(hq:W Try.prog n Bw w0 d (z9 Try.prog tb an n ops σ) Q)(h:C7 Try.prog tb an n ops σ=some (cP ops.size 0 cs):=by kernel_rfl):W Try.prog n Bw w0 (.seq (.region id ops true) d) σ Q:=W_d bL pK an cs h hq
theorem GC(i:Nat){α:Type}{p:Prop}[Decidable p]{u:Option α}{v:α}(h:(if p then u else none)=some v)(hq:u=some v→W Try.prog n Bw w0 d (gT Try.prog tb a0 n ops σ) Q)(hk:gP Try.prog tb a0 n ops σ=some (cG ops.size i p):=by kernel_rfl):W Try.prog n Bw w0 (.seq (.region id ops false) d) σ Q:=aCm bL i h hk hq
theorem GP(i:Nat)(u:Pure Try.prog fid args r)(hq:W Try.prog n Bw w0 d (gT Try.prog tb ⟨[],[(i,oP u)]⟩ n ops σ) Q)(h:gP Try.prog tb ⟨[],[(i,oP u)]⟩ n ops σ=some (cP ops.size 0 [(i,i,oc u)]):=by kernel_rfl):W Try.prog n Bw w0 (.seq (.region id ops false) d) σ Q:=aCX bL i u h hq
theorem GO(i:Nat)(g:List Nat)(u:Owns Try.prog fid args hin r hout)(hq:W Try.prog n Bw w0 d (gT Try.prog tb ⟨[],[(i,oO u g)]⟩ n ops σ) Q)(h:gP Try.prog tb ⟨[],[(i,oO u g)]⟩ n ops σ=some (cP ops.size 0 [(i,i,oc u)]):=by kernel_rfl):W Try.prog n Bw w0 (.seq (.region id ops false) d) σ Q:=aCn bL i g u h hq
theorem GX(i:Nat)(g:List Nat)(u:Dies Try.prog fid args hin y)(hq:∀σ',Q (.panic [{ v:=y,recovered:=false }]) σ')(h:B9 Try.prog tb ⟨[],[(i,oD u g)]⟩ n ops i σ=some (cP (i+1) 0 [(i,i,oc u)],y):=by kernel_rfl):W Try.prog n Bw w0 (.region id ops false) σ Q:=aCt bL i g u h hq
theorem GXn(u:Dies Try.prog fid args hin y)(an:An)(i:Nat)(cs:List (Nat×Nat×PP))(hq:∀σ',Q (.panic [{ v:=y,recovered:=false }]) σ')(h:B9 Try.prog tb an n ops i σ=some (cP (i+1) 0 cs,y):=by kernel_rfl):W Try.prog n Bw w0 (.region id ops false) σ Q:=W_x bL u an i cs h hq
end
end
end Go.Proofs.Ytjfjigknkhgkdaa.T
