/- Functions of the program as functions on data, and that the program's own come to them. -/
import Derived.Test.YtjfjigknkhgkdaaTvSam
import Derived.Test.YtjfjigknkhgkdaaProg
import Derived.KernelRfl
namespace Go.Proofs.Ytjfjigknkhgkdaa.T
open Go Go.Tv Go.Proofs
noncomputable section
set_option maxRecDepth 100000
set_option maxHeartbeats 4000000
abbrev Y1 : Ty := (.prod (.tree .u8 .u32) (.tree .u8 .u32))
abbrev Y2 : Ty := (.prod (.slice (.int .i64)) (.slice (.prod (.int .u8) Y1)))
abbrev Y3 : Ty := (.prod (.int .u32) (.prod (.int .u32) Y2))
abbrev Y4 : Ty := (.prod (.slice .str) Y3)
abbrev Y5 : Ty := (.prod (.int .i64) (.int .i64))
abbrev Y6 : Ty := (.prod (.slice (.int .u8)) (.slice (.int .u8)))
abbrev Y7 : Ty := (.prod (.slice (.int .u8)) (.slice (.prod (.int .u8) Y6)))
abbrev Y8 : Ty := (.prod (.int .u8) (.prod (.int .u8) Y7))
abbrev Y9 : Ty := (.prod (.int .i64) (.prod (.int .i64) Y5))
abbrev Y10 : Ty := (.prod (.slice (.int .u32)) Y9)
abbrev Y11 : Ty := (.prod (.slice .str) Y10)
abbrev Y12 : Ty := (.prod (.int .i64) (.prod Y4 Y11))
abbrev Y13 : Ty := (.prod (.slice (.int .u8)) (.int .i64))
abbrev Y14 : Ty := (.prod (.int .u8) (.int .u8))
abbrev Y15 : Ty := (.prod (.int .u8) (.prod (.int .u8) Y14))
abbrev Y16 : Ty := (.prod (.int .u8) (.prod (.int .u8) Y15))
abbrev ob1 (a1 : Int) (a2 : Int) (a3 : Int) (a4 : Int) : List (Nat × Tv.Obj) := [(0, .box [.nils, .u32 a1, .u32 a2, .nils, .nils]), (1, .box [.i64 a3, .i64 a4])]
abbrev ob2 (a1 : Int) (a2 : Int) (a3 : Int) (a4 : Int) (a5 : List UInt8) (a6 : Int) (a7 : Int) (a8 : Int) (a9 : Int) (a10 : Int) (a11 : List ((List UInt8) × Int)) : List (Nat × Tv.Obj) := [(0, .box [.nils, .u32 a1, .u32 a2, .nils, .nils]), (1, .box [.i64 a3, .i64 a4]), (2, .box [.st a5, .i64 a6, .nils, .u32 a7, .u32 a8, .nils, .nils, .mp 3, .i64 a9, .i64 a10]), (3, .mpo .str (.int .u32) a11)]
abbrev ob3 (a1 : List UInt8) (a2 : Int) (a3 : Int) (a4 : Int) (a5 : Int) (a6 : Int) (a7 : List ((List UInt8) × Int)) : List (Nat × Tv.Obj) := [(0, .box [.st a1, .i64 a2, .nils, .u32 a3, .u32 a4, .nils, .nils, .mp 1, .i64 a5, .i64 a6]), (1, .mpo .str (.int .u32) a7)]
abbrev ob4 (a1 : List UInt8) (a2 : Int) (a3 : Int) (a4 : Int) (a5 : Int) (a6 : Int) (a7 : List ((List UInt8) × Int)) : List (Nat × Tv.Obj) := [(0, .box [.st a1, .i64 a2, .nils, .u32 a3, .u32 a4, .nils, .nils, .mp 1, .i64 a5, .i64 a6]), (1, .mpo .str (.int .u32) a7), (2, .mpl .str [(([99, 108, 97, 115, 115] : List UInt8), (fnV 29)), (([115, 101, 116] : List UInt8), (fnV 30)), (([106, 111, 105, 110] : List UInt8), (fnV 31)), (([116, 114, 101, 97, 116] : List UInt8), (fnV 32))])]
abbrev ob5 (a1 : List UInt8) (a2 : Int) (a3 : Int) (a4 : Int) (a5 : Int) (a6 : Int) (a7 : List ((List UInt8) × Int)) (a8 : List ((List UInt8) × Int)) : List (Nat × Tv.Obj) := [(0, .box [.st a1, .i64 a2, .nils, .u32 a3, .u32 a4, .nils, .nils, .mp 1, .i64 a5, .i64 a6]), (1, .mpo .str (.int .u32) a7), (2, .mpl .str [(([99, 108, 97, 115, 115] : List UInt8), (fnV 29)), (([115, 101, 116] : List UInt8), (fnV 30)), (([106, 111, 105, 110] : List UInt8), (fnV 31)), (([116, 114, 101, 97, 116] : List UInt8), (fnV 32))]), (3, .mpo .str (.int .u8) a8)]
abbrev ob21 (a1 : List UInt8) (a2 : Int) (a3 : Int) (a4 : Int) (a5 : Int) (a6 : Int) (a7 : List (List UInt8)) (a8 : List Int) (a9 : List (Int × Tree × Tree)) (a10 : List ((List UInt8) × Int)) : List (Nat × Tv.Obj) := [(0, .box [.st a1, .i64 a2, .sl 1, .u32 a3, .u32 a4, .sl 2, .sl 3, .mp 4, .i64 a5, .i64 a6]), (1, .arr 9 .str a7), (2, .arr 3 (.int .i64) a8), (3, .arr 52 (.prod (.int .u8) Y1) a9), (4, .mpo .str (.int .u32) a10)]
abbrev ob22 (a1 : List UInt8) (a2 : Int) (a3 : Int) (a4 : Int) (a5 : Int) (a6 : Int) (a7 : List ((List UInt8) × Int)) (a8 : List (List UInt8)) (a9 : List Int) (a10 : List (Int × Tree × Tree)) (a11 : List ((List UInt8) × Int)) : List (Nat × Tv.Obj) := [(0, .box [.st a1, .i64 a2, .sl 2, .u32 a3, .u32 a4, .sl 3, .sl 4, .mp 1, .i64 a5, .i64 a6]), (1, .mpo .str (.int .u32) a7), (2, .arr 9 .str a8), (3, .arr 3 (.int .i64) a9), (4, .arr 52 (.prod (.int .u8) Y1) a10), (5, .mpl .str [(([99, 108, 97, 115, 115] : List UInt8), (fnV 29)), (([115, 101, 116] : List UInt8), (fnV 30)), (([106, 111, 105, 110] : List UInt8), (fnV 31)), (([116, 114, 101, 97, 116] : List UInt8), (fnV 32))]), (6, .mpo .str (.int .u8) a11)]
abbrev ob24 (a1 : List UInt8) (a2 : Int) (a3 : Int) (a4 : Int) (a5 : Int) (a6 : Int) (a7 : List (Int × Tree × Tree)) (a8 : List ((List UInt8) × Int)) (a9 : List (List UInt8)) (a10 : List Int) : List (Nat × Tv.Obj) := [(0, .box [.st a1, .i64 a2, .sl 5, .u32 a3, .u32 a4, .sl 6, .sl 3, .mp 4, .i64 a5, .i64 a6]), (3, .arr 52 (.prod (.int .u8) Y1) a7), (4, .mpo .str (.int .u32) a8), (5, .arr 9 .str a9), (6, .arr 3 (.int .i64) a10)]
abbrev ob25 (a1 : List UInt8) (a2 : Int) (a3 : Int) (a4 : Int) (a5 : Int) (a6 : Int) (a7 : List (List UInt8)) (a8 : List Int) (a9 : List (Int × Tree × Tree)) (a10 : List ((List UInt8) × Int)) (a11 : Int) (a12 : Int) (a13 : Int) (a14 : Int) (a15 : Int) : List (Nat × Tv.Obj) := [(0, .box [.st a1, .i64 a2, .sl 1, .u32 a3, .u32 a4, .sl 2, .sl 3, .mp 4, .i64 a5, .i64 a6]), (1, .arr 9 .str a7), (2, .arr 3 (.int .i64) a8), (3, .arr 52 (.prod (.int .u8) Y1) a9), (4, .mpo .str (.int .u32) a10), (5, .box [.u8 a11, .u8 a12, .u32 a13, .nils, .u8 a14, .u32 a15, .nils])]
abbrev ob26 (a1 : List UInt8) (a2 : Int) (a3 : Int) (a4 : Int) (a5 : Int) (a6 : Int) (a7 : List (List UInt8)) (a8 : List Int) (a9 : List (Int × Tree × Tree)) (a10 : List ((List UInt8) × Int)) (a11 : Int) (a12 : Int) : List (Nat × Tv.Obj) := [(0, .box [.st a1, .i64 a2, .sl 1, .u32 a3, .u32 a4, .sl 2, .sl 3, .mp 4, .i64 a5, .i64 a6]), (1, .arr 9 .str a7), (2, .arr 3 (.int .i64) a8), (3, .arr 52 (.prod (.int .u8) Y1) a9), (4, .mpo .str (.int .u32) a10), (5, .box [.u8 a11, .u32 a12, .nils])]
abbrev ob27 (a1 : List UInt8) (a2 : Int) (a3 : Int) (a4 : Int) (a5 : Int) (a6 : Int) (a7 : List (List UInt8)) (a8 : List Int) (a9 : List (Int × Tree × Tree)) (a10 : List ((List UInt8) × Int)) (a11 : Int) (a12 : Int) (a13 : Int) (a14 : Int) : List (Nat × Tv.Obj) := [(0, .box [.st a1, .i64 a2, .sl 1, .u32 a3, .u32 a4, .sl 2, .sl 3, .mp 4, .i64 a5, .i64 a6]), (1, .arr 9 .str a7), (2, .arr 3 (.int .i64) a8), (3, .arr 52 (.prod (.int .u8) Y1) a9), (4, .mpo .str (.int .u32) a10), (5, .box [.u8 a11, .u32 a12, .nils]), (6, .box [.u8 a13, .u32 a14, .nils])]
abbrev ob28 (a1 : List UInt8) (a2 : Int) (a3 : Int) (a4 : Int) (a5 : Int) (a6 : Int) (a7 : List (List UInt8)) (a8 : List Int) (a9 : List (Int × Tree × Tree)) (a10 : List ((List UInt8) × Int)) (a11 : Int) (a12 : Int) (a13 : Int) (a14 : Int) (a15 : List Tree) : List (Nat × Tv.Obj) := [(0, .box [.st a1, .i64 a2, .sl 1, .u32 a3, .u32 a4, .sl 2, .sl 3, .mp 4, .i64 a5, .i64 a6]), (1, .arr 9 .str a7), (2, .arr 3 (.int .i64) a8), (3, .arr 52 (.prod (.int .u8) Y1) a9), (4, .mpo .str (.int .u32) a10), (5, .box [.u8 a11, .u32 a12, .nils]), (6, .box [.u8 a13, .u32 a14, .p false (.slice (.tree .u8 .u32)) a15])]
abbrev ob29 (a1 : List UInt8) (a2 : Int) (a3 : Int) (a4 : Int) (a5 : Int) (a6 : Int) (a7 : List (List UInt8)) (a8 : List Int) (a9 : List (Int × Tree × Tree)) (a10 : List ((List UInt8) × Int)) (a11 : Int) (a12 : Int) (a13 : List Tree) : List (Nat × Tv.Obj) := [(0, .box [.st a1, .i64 a2, .sl 1, .u32 a3, .u32 a4, .sl 2, .sl 3, .mp 4, .i64 a5, .i64 a6]), (1, .arr 9 .str a7), (2, .arr 3 (.int .i64) a8), (3, .arr 52 (.prod (.int .u8) Y1) a9), (4, .mpo .str (.int .u32) a10), (5, .box [.u8 a11, .u32 a12, .sl 6]), (6, .arr 50 (.tree .u8 .u32) a13)]
abbrev ob30 (a1 : List UInt8) (a2 : Int) (a3 : Int) (a4 : Int) (a5 : Int) (a6 : Int) (a7 : List (List UInt8)) (a8 : List Int) (a9 : List (Int × Tree × Tree)) (a10 : List ((List UInt8) × Int)) (a11 : Int) (a12 : Int) (a13 : List Tree) : List (Nat × Tv.Obj) := [(0, .box [.st a1, .i64 a2, .sl 1, .u32 a3, .u32 a4, .sl 2, .sl 3, .mp 4, .i64 a5, .i64 a6]), (1, .arr 9 .str a7), (2, .arr 3 (.int .i64) a8), (3, .arr 52 (.prod (.int .u8) Y1) a9), (4, .mpo .str (.int .u32) a10), (5, .box [.u8 a11, .u32 a12, .p false (.slice (.tree .u8 .u32)) a13])]
abbrev ob31 (a1 : List UInt8) (a2 : Int) (a3 : Int) (a4 : Int) (a5 : Int) (a6 : Int) (a7 : List (List UInt8)) (a8 : List Int) (a9 : List (Int × Tree × Tree)) (a10 : List ((List UInt8) × Int)) (a11 : Int) (a12 : Int) (a13 : List Tree) : List (Nat × Tv.Obj) := [(0, .box [.st a1, .i64 a2, .sl 1, .u32 a3, .u32 a4, .sl 2, .sl 3, .mp 4, .i64 a5, .i64 a6]), (1, .arr 9 .str a7), (2, .arr 3 (.int .i64) a8), (3, .arr 52 (.prod (.int .u8) Y1) a9), (4, .mpo .str (.int .u32) a10), (5, .box [.u8 a11, .u32 a12, .nils]), (6, .arr 50 (.tree .u8 .u32) a13)]
abbrev ob32 (a1 : List UInt8) (a2 : Int) (a3 : Int) (a4 : Int) (a5 : Int) (a6 : Int) (a7 : List (List UInt8)) (a8 : List Int) (a9 : List (Int × Tree × Tree)) (a10 : List ((List UInt8) × Int)) (a11 : Int) (a12 : Int) (a13 : Int) (a14 : List Tree) (a15 : Int) (a16 : Int) : List (Nat × Tv.Obj) := [(0, .box [.st a1, .i64 a2, .sl 1, .u32 a3, .u32 a4, .sl 2, .sl 3, .mp 4, .i64 a5, .i64 a6]), (1, .arr 9 .str a7), (2, .arr 3 (.int .i64) a8), (3, .arr 52 (.prod (.int .u8) Y1) a9), (4, .mpo .str (.int .u32) a10), (5, .box [.u8 a11, .u8 a12, .u32 a13, .p false (.slice (.tree .u8 .u32)) a14, .u8 a15, .u32 a16, .nils])]
abbrev ob33 (a1 : List UInt8) (a2 : Int) (a3 : Int) (a4 : Int) (a5 : Int) (a6 : Int) (a7 : List (List UInt8)) (a8 : List Int) (a9 : List (Int × Tree × Tree)) (a10 : List ((List UInt8) × Int)) (a11 : Int) (a12 : Int) (a13 : Int) (a14 : List Tree) (a15 : Int) (a16 : Int) (a17 : List Tree) : List (Nat × Tv.Obj) := [(0, .box [.st a1, .i64 a2, .sl 1, .u32 a3, .u32 a4, .sl 2, .sl 3, .mp 4, .i64 a5, .i64 a6]), (1, .arr 9 .str a7), (2, .arr 3 (.int .i64) a8), (3, .arr 52 (.prod (.int .u8) Y1) a9), (4, .mpo .str (.int .u32) a10), (5, .box [.u8 a11, .u8 a12, .u32 a13, .p false (.slice (.tree .u8 .u32)) a14, .u8 a15, .u32 a16, .p false (.slice (.tree .u8 .u32)) a17])]
abbrev ob34 (a1 : List UInt8) (a2 : Int) (a3 : Int) (a4 : Int) (a5 : Int) (a6 : Int) (a7 : List (List UInt8)) (a8 : List Int) (a9 : List ((List UInt8) × Int)) (a10 : List (Int × Tree × Tree)) : List (Nat × Tv.Obj) := [(0, .box [.st a1, .i64 a2, .sl 1, .u32 a3, .u32 a4, .sl 2, .sl 5, .mp 4, .i64 a5, .i64 a6]), (1, .arr 9 .str a7), (2, .arr 3 (.int .i64) a8), (4, .mpo .str (.int .u32) a9), (5, .arr 52 (.prod (.int .u8) Y1) a10)]
abbrev ob35 (a1 : List UInt8) (a2 : Int) (a3 : Int) (a4 : Int) (a5 : Int) (a6 : Int) (a7 : List ((List UInt8) × Int)) (a8 : List (List UInt8)) (a9 : List Int) (a10 : List (Int × Tree × Tree)) : List (Nat × Tv.Obj) := [(0, .box [.st a1, .i64 a2, .sl 2, .u32 a3, .u32 a4, .sl 3, .sl 4, .mp 1, .i64 a5, .i64 a6]), (1, .mpo .str (.int .u32) a7), (2, .arr 9 .str a8), (3, .arr 3 (.int .i64) a9), (4, .arr 52 (.prod (.int .u8) Y1) a10)]
abbrev ob36 (a1 : Int) (a2 : Int) (a3 : Int) (a4 : Int) (a5 : List UInt8) (a6 : Int) (a7 : Int) (a8 : Int) (a9 : Int) (a10 : Int) (a11 : List (List UInt8)) (a12 : List Int) (a13 : List (Int × Tree × Tree)) (a14 : List ((List UInt8) × Int)) : List (Nat × Tv.Obj) := [(0, .box [.nils, .u32 a1, .u32 a2, .nils, .nils]), (1, .box [.i64 a3, .i64 a4]), (2, .box [.st a5, .i64 a6, .sl 3, .u32 a7, .u32 a8, .sl 4, .sl 5, .mp 6, .i64 a9, .i64 a10]), (3, .arr 9 .str a11), (4, .arr 3 (.int .i64) a12), (5, .arr 52 (.prod (.int .u8) Y1) a13), (6, .mpo .str (.int .u32) a14)]
abbrev ob37 (a1 : Int) (a2 : Int) (a3 : Int) (a4 : Int) (a5 : List (List UInt8)) (a6 : List Int) (a7 : List (Int × Tree × Tree)) : List (Nat × Tv.Obj) := [(0, .box [.sl 2, .u32 a1, .u32 a2, .sl 3, .sl 4]), (1, .box [.i64 a3, .i64 a4]), (2, .arr 9 .str a5), (3, .arr 3 (.int .i64) a6), (4, .arr 52 (.prod (.int .u8) Y1) a7)]
abbrev ob38 (a1 : Int) (a2 : Int) (a3 : Int) (a4 : Int) (a5 : Int) (a6 : Int) : List (Nat × Tv.Obj) := [(0, .box [.nils, .u32 a1, .u32 a2, .nils, .nils]), (1, .box [.i64 a3, .i64 a4]), (2, .box [.i64 a5, .i64 a6])]
abbrev ob39 (a1 : List (List UInt8)) (a2 : Int) (a3 : Int) (a4 : List Int) (a5 : List (Int × Tree × Tree)) (a6 : Int) (a7 : Int) : List (Nat × Tv.Obj) := [(0, .box [.p false (.slice .str) a1, .u32 a2, .u32 a3, .p false (.slice (.int .i64)) a4, .p false (.slice (.prod (.int .u8) Y1)) a5]), (1, .box [.i64 a6, .i64 a7])]
abbrev ob40 (a1 : List (List UInt8)) (a2 : Int) (a3 : Int) (a4 : List Int) (a5 : List (Int × Tree × Tree)) (a6 : Int) (a7 : Int) (a8 : Int) (a9 : Int) : List (Nat × Tv.Obj) := [(0, .box [.p false (.slice .str) a1, .u32 a2, .u32 a3, .p false (.slice (.int .i64)) a4, .p false (.slice (.prod (.int .u8) Y1)) a5]), (1, .box [.i64 a6, .i64 a7]), (2, .box [.i64 a8, .i64 a9])]
abbrev ob41 (a1 : List (List UInt8)) (a2 : Int) (a3 : Int) (a4 : List Int) (a5 : List (Int × Tree × Tree)) (a6 : Int) (a7 : Int) (a8 : Int) (a9 : Int) (a10 : Int) (a11 : Int) : List (Nat × Tv.Obj) := [(0, .box [.p false (.slice .str) a1, .u32 a2, .u32 a3, .p false (.slice (.int .i64)) a4, .p false (.slice (.prod (.int .u8) Y1)) a5]), (1, .box [.i64 a6, .i64 a7]), (2, .box [.i64 a8, .i64 a9]), (3, .box [.i64 a10, .i64 a11])]
abbrev ob42 (a1 : List (List UInt8)) (a2 : Int) (a3 : Int) (a4 : List Int) (a5 : List (Int × Tree × Tree)) (a6 : Int) (a7 : Int) (a8 : Int) (a9 : Int) (a10 : Int) (a11 : Int) (a12 : Int) (a13 : Int) : List (Nat × Tv.Obj) := [(0, .box [.p false (.slice .str) a1, .u32 a2, .u32 a3, .p false (.slice (.int .i64)) a4, .p false (.slice (.prod (.int .u8) Y1)) a5]), (1, .box [.i64 a6, .i64 a7]), (2, .box [.i64 a8, .i64 a9]), (3, .box [.i64 a10, .i64 a11]), (4, .box [.i64 a12, .i64 a13])]
abbrev ob80 (a1 : Bool) (a2 : List (List UInt8)) (a3 : Int) (a4 : Int) (a5 : Bool) (a6 : List Int) (a7 : Bool) (a8 : List (Int × Tree × Tree)) (a9 : Bool) (a10 : List (List UInt8)) (a11 : Int) (a12 : Int) (a13 : Bool) (a14 : List Int) (a15 : Bool) (a16 : List (Int × Tree × Tree)) : List (Nat × Tv.Obj) := [(0, .box [.p a1 (.slice .str) a2, .u32 a3, .u32 a4, .p a5 (.slice (.int .i64)) a6, .p a7 (.slice (.prod (.int .u8) Y1)) a8]), (1, .box [.p a9 (.slice .str) a10, .u32 a11, .u32 a12, .p a13 (.slice (.int .i64)) a14, .p a15 (.slice (.prod (.int .u8) Y1)) a16])]
abbrev ob81 (a1 : Int) (a2 : Int) (a3 : Bool) (a4 : List Tree) (a5 : Int) (a6 : Int) (a7 : Bool) (a8 : List Tree) : List (Nat × Tv.Obj) := [(0, .box [.u8 a1, .u32 a2, .p a3 (.slice (.tree .u8 .u32)) a4]), (1, .box [.u8 a5, .u32 a6, .p a7 (.slice (.tree .u8 .u32)) a8])]
abbrev ob82 (a1 : Int) (a2 : Int) (a3 : Int) (a4 : Bool) (a5 : List Int) (a6 : Bool) (a7 : List (Int × (List Int) × List Int)) : List (Nat × Tv.Obj) := [(0, .box [.u8 a1, .u8 a2, .u8 a3, .p a4 (.slice (.int .u8)) a5, .p a6 (.slice (.prod (.int .u8) Y6)) a7])]
abbrev ob84 (a1 : Int) (a2 : Int) (a3 : Int) (a4 : Bool) (a5 : List Int) (a6 : List (Int × (List Int) × List Int)) : List (Nat × Tv.Obj) := [(0, .box [.u8 a1, .u8 a2, .u8 a3, .p a4 (.slice (.int .u8)) a5, .p false (.slice (.prod (.int .u8) Y6)) a6])]
abbrev ob85 (a1 : Int) (a2 : Int) (a3 : Int) (a4 : Bool) (a5 : List Int) (a6 : List (Int × (List Int) × List Int)) (a7 : List (List UInt8)) : List (Nat × Tv.Obj) := [(0, .box [.u8 a1, .u8 a2, .u8 a3, .p a4 (.slice (.int .u8)) a5, .p false (.slice (.prod (.int .u8) Y6)) a6]), (1, .arr 9 .str a7)]
abbrev ob86 (a1 : List (List UInt8)) (a2 : Int) (a3 : Int) (a4 : List Int) (a5 : List (Int × Tree × Tree)) (a6 : Int) (a7 : Int) (a8 : List (List UInt8)) (a9 : Int) (a10 : Int) (a11 : List Int) (a12 : List (Int × Tree × Tree)) (a13 : Int) (a14 : Int) : List (Nat × Tv.Obj) := [(0, .box [.p false (.slice .str) a1, .u32 a2, .u32 a3, .p false (.slice (.int .i64)) a4, .p false (.slice (.prod (.int .u8) Y1)) a5]), (1, .box [.i64 a6, .i64 a7]), (2, .box [.p false (.slice .str) a8, .u32 a9, .u32 a10, .p false (.slice (.int .i64)) a11, .p false (.slice (.prod (.int .u8) Y1)) a12]), (3, .box [.i64 a13, .i64 a14])]
def tb : Tab := [
  (3, ⟨some (.int .i64), (.int .i64), 1, 8, [.i64 (0 : Int)]⟩),
  (4, ⟨some .bool, .bool, 1, 1, [.bo false]⟩),
  (5, ⟨some (.int .u8), (.int .u8), 1, 1, [.u8 (0 : Int)]⟩),
  (9, ⟨some .str, .str, 1, 16, [.st ([] : List UInt8)]⟩),
  (20, ⟨none, .other, 1, 16, [.lit .nilIface]⟩),
  (24, ⟨some (.slice (.int .u8)), (.sl 5), 1, 24, [.nils]⟩),
  (25, ⟨some (.slice (.prod (.int .u8) Y6)), (.sl 54), 1, 24, [.nils]⟩),
  (27, ⟨some (.prod (.int .u8) Y8), (.st [(0, 5), (1, 5), (2, 5), (3, 24), (4, 25)]), 5, 56, [.u8 (0 : Int), .u8 (0 : Int), .u8 (0 : Int), .nils, .nils]⟩),
  (28, ⟨some (.slice (.int .i64)), (.sl 3), 1, 24, [.nils]⟩),
  (30, ⟨some (.int .u64), (.int .u64), 1, 8, [.u64 (0 : Int)]⟩),
  (33, ⟨some (.slice .str), (.sl 9), 1, 24, [.nils]⟩),
  (34, ⟨some (.int .u32), (.int .u32), 1, 4, [.u32 (0 : Int)]⟩),
  (35, ⟨some (.slice (.prod (.int .u8) Y1)), (.sl 52), 1, 24, [.nils]⟩),
  (37, ⟨some Y4, (.st [(0, 33), (1, 34), (2, 34), (3, 28), (4, 35)]), 5, 80, [.nils, .u32 (0 : Int), .u32 (0 : Int), .nils, .nils]⟩),
  (38, ⟨some (.int .i64), (.int .i64), 1, 8, [.i64 (0 : Int)]⟩),
  (40, ⟨some Y5, (.st [(0, 38), (1, 3)]), 2, 16, [.i64 (0 : Int), .i64 (0 : Int)]⟩),
  (46, ⟨some (.int .u8), (.int .u8), 1, 1, [.u8 (0 : Int)]⟩),
  (47, ⟨some (.int .u8), (.int .u8), 1, 1, [.u8 (0 : Int)]⟩),
  (48, ⟨some (.slice (.tree .u8 .u32)), (.sl 50), 1, 24, [.nils]⟩),
  (50, ⟨some (.tree .u8 .u32), (.st [(0, 47), (1, 34), (2, 48)]), 3, 32, [.u8 (0 : Int), .u32 (0 : Int), .nils]⟩),
  (52, ⟨some (.prod (.int .u8) Y1), (.st [(0, 46), (1, 50), (4, 50)]), 7, 72, [.u8 (0 : Int), .u8 (0 : Int), .u32 (0 : Int), .nils, .u8 (0 : Int), .u32 (0 : Int), .nils]⟩),
  (54, ⟨some (.prod (.int .u8) Y6), (.st [(0, 5), (1, 24), (2, 24)]), 3, 56, [.u8 (0 : Int), .nils, .nils]⟩),
  (64, ⟨none, .other, 1, 8, [.nilp]⟩),
  (65, ⟨none, (.mp 9 34), 1, 8, [.unk]⟩),
  (67, ⟨none, (.st [(0, 9), (1, 3), (2, 37), (7, 65), (8, 3), (9, 3)]), 10, 128, [.st ([] : List UInt8), .i64 (0 : Int), .nils, .u32 (0 : Int), .u32 (0 : Int), .nils, .nils, .unk, .i64 (0 : Int), .i64 (0 : Int)]⟩),
  (72, ⟨none, .other, 1, 8, [.nilp]⟩),
  (73, ⟨some (.slice (.int .u32)), (.sl 34), 1, 24, [.nils]⟩),
  (75, ⟨some (.prod .str Y12), (.st [(0, 9), (1, 3), (2, 37), (7, 33), (8, 73), (9, 3), (10, 3), (11, 3), (12, 3)]), 13, 184, [.st ([] : List UInt8), .i64 (0 : Int), .nils, .u32 (0 : Int), .u32 (0 : Int), .nils, .nils, .nils, .nils, .i64 (0 : Int), .i64 (0 : Int), .i64 (0 : Int), .i64 (0 : Int)]⟩),
  (78, ⟨none, .other, 1, 8, [.nilp]⟩),
  (80, ⟨some Y13, (.st [(0, 24), (1, 3)]), 2, 32, [.nils, .i64 (0 : Int)]⟩),
  (81, ⟨none, .other, 1, 8, [.unk]⟩),
  (82, ⟨none, (.mp 9 81), 1, 8, [.unk]⟩),
  (83, ⟨none, (.mp 9 46), 1, 8, [.unk]⟩),
  (101, ⟨some (.prod (.int .u8) Y16), (.ar 7 5), 7, 7, [.u8 (0 : Int), .u8 (0 : Int), .u8 (0 : Int), .u8 (0 : Int), .u8 (0 : Int), .u8 (0 : Int), .u8 (0 : Int)]⟩)]
theorem ti3 : TIok Try.prog 3 ⟨some (.int .i64), (.int .i64), 1, 8, [.i64 (0 : Int)]⟩ := ⟨⟨_, _, rfl, rfl, rfl, rfl, rfl, rfl, by simp [Value.cells, Value.oneCell']⟩, (⟨_, rfl, rfl⟩), rfl, (fun _ => rfl), (fun T h => by cases h; exact ⟨rfl, rfl, rfl⟩)⟩
theorem ti4 : TIok Try.prog 4 ⟨some .bool, .bool, 1, 1, [.bo false]⟩ := ⟨⟨_, _, rfl, rfl, rfl, rfl, rfl, rfl, by simp [Value.cells, Value.oneCell']⟩, (⟨_, rfl, rfl⟩), rfl, (fun _ => rfl), (fun T h => by cases h; exact ⟨rfl, rfl, rfl⟩)⟩
theorem ti5 : TIok Try.prog 5 ⟨some (.int .u8), (.int .u8), 1, 1, [.u8 (0 : Int)]⟩ := ⟨⟨_, _, rfl, rfl, rfl, rfl, rfl, rfl, by simp [Value.cells, Value.oneCell']⟩, (⟨_, rfl, rfl⟩), rfl, (fun _ => rfl), (fun T h => by cases h; exact ⟨rfl, rfl, rfl⟩)⟩
theorem ti9 : TIok Try.prog 9 ⟨some .str, .str, 1, 16, [.st ([] : List UInt8)]⟩ := ⟨⟨_, _, rfl, rfl, rfl, rfl, rfl, rfl, by simp [Value.cells, Value.oneCell']⟩, (⟨_, rfl, rfl⟩), rfl, (fun _ => rfl), (fun T h => by cases h; exact ⟨rfl, rfl, rfl⟩)⟩
theorem ti20 : TIok Try.prog 20 ⟨none, .other, 1, 16, [.lit .nilIface]⟩ := ⟨⟨_, _, rfl, rfl, rfl, rfl, rfl, rfl, by simp [Value.cells, Value.oneCell']⟩, (⟨_, rfl, rfl⟩), rfl, (fun _ => rfl), (fun T h => by cases h)⟩
theorem ti24 : TIok Try.prog 24 ⟨some (.slice (.int .u8)), (.sl 5), 1, 24, [.nils]⟩ := ⟨⟨_, _, rfl, rfl, rfl, rfl, rfl, rfl, by simp [Value.cells, Value.oneCell']⟩, (⟨_, rfl, rfl⟩), rfl, (fun _ => rfl), (fun T h => by cases h; exact ⟨rfl, rfl, rfl⟩)⟩
theorem ti25 : TIok Try.prog 25 ⟨some (.slice (.prod (.int .u8) Y6)), (.sl 54), 1, 24, [.nils]⟩ := ⟨⟨_, _, rfl, rfl, rfl, rfl, rfl, rfl, by simp [Value.cells, Value.oneCell']⟩, (⟨_, rfl, rfl⟩), rfl, (fun _ => rfl), (fun T h => by cases h; exact ⟨rfl, rfl, rfl⟩)⟩
theorem ti27 : TIok Try.prog 27 ⟨some (.prod (.int .u8) Y8), (.st [(0, 5), (1, 5), (2, 5), (3, 24), (4, 25)]), 5, 56, [.u8 (0 : Int), .u8 (0 : Int), .u8 (0 : Int), .nils, .nils]⟩ := ⟨⟨_, _, rfl, rfl, rfl, rfl, rfl, rfl, by simp [Value.cells, Value.oneCell']⟩, (⟨_, rfl, _, rfl, rfl, by
    intro f hf
    simp only [List.mem_cons, List.not_mem_nil, or_false] at hf
    rcases hf with rfl | rfl | rfl | rfl | rfl <;> exact ⟨_, rfl, by decide⟩⟩), rfl, (fun h => by cases h), (fun T h => by cases h; exact ⟨rfl, rfl, rfl⟩)⟩
theorem ti28 : TIok Try.prog 28 ⟨some (.slice (.int .i64)), (.sl 3), 1, 24, [.nils]⟩ := ⟨⟨_, _, rfl, rfl, rfl, rfl, rfl, rfl, by simp [Value.cells, Value.oneCell']⟩, (⟨_, rfl, rfl⟩), rfl, (fun _ => rfl), (fun T h => by cases h; exact ⟨rfl, rfl, rfl⟩)⟩
theorem ti30 : TIok Try.prog 30 ⟨some (.int .u64), (.int .u64), 1, 8, [.u64 (0 : Int)]⟩ := ⟨⟨_, _, rfl, rfl, rfl, rfl, rfl, rfl, by simp [Value.cells, Value.oneCell']⟩, (⟨_, rfl, rfl⟩), rfl, (fun _ => rfl), (fun T h => by cases h; exact ⟨rfl, rfl, rfl⟩)⟩
theorem ti33 : TIok Try.prog 33 ⟨some (.slice .str), (.sl 9), 1, 24, [.nils]⟩ := ⟨⟨_, _, rfl, rfl, rfl, rfl, rfl, rfl, by simp [Value.cells, Value.oneCell']⟩, (⟨_, rfl, rfl⟩), rfl, (fun _ => rfl), (fun T h => by cases h; exact ⟨rfl, rfl, rfl⟩)⟩
theorem ti34 : TIok Try.prog 34 ⟨some (.int .u32), (.int .u32), 1, 4, [.u32 (0 : Int)]⟩ := ⟨⟨_, _, rfl, rfl, rfl, rfl, rfl, rfl, by simp [Value.cells, Value.oneCell']⟩, (⟨_, rfl, rfl⟩), rfl, (fun _ => rfl), (fun T h => by cases h; exact ⟨rfl, rfl, rfl⟩)⟩
theorem ti35 : TIok Try.prog 35 ⟨some (.slice (.prod (.int .u8) Y1)), (.sl 52), 1, 24, [.nils]⟩ := ⟨⟨_, _, rfl, rfl, rfl, rfl, rfl, rfl, by simp [Value.cells, Value.oneCell']⟩, (⟨_, rfl, rfl⟩), rfl, (fun _ => rfl), (fun T h => by cases h; exact ⟨rfl, rfl, rfl⟩)⟩
theorem ti37 : TIok Try.prog 37 ⟨some Y4, (.st [(0, 33), (1, 34), (2, 34), (3, 28), (4, 35)]), 5, 80, [.nils, .u32 (0 : Int), .u32 (0 : Int), .nils, .nils]⟩ := ⟨⟨_, _, rfl, rfl, rfl, rfl, rfl, rfl, by simp [Value.cells, Value.oneCell']⟩, (⟨_, rfl, _, rfl, rfl, by
    intro f hf
    simp only [List.mem_cons, List.not_mem_nil, or_false] at hf
    rcases hf with rfl | rfl | rfl | rfl | rfl <;> exact ⟨_, rfl, by decide⟩⟩), rfl, (fun h => by cases h), (fun T h => by cases h; exact ⟨rfl, rfl, rfl⟩)⟩
theorem ti38 : TIok Try.prog 38 ⟨some (.int .i64), (.int .i64), 1, 8, [.i64 (0 : Int)]⟩ := ⟨⟨_, _, rfl, rfl, rfl, rfl, rfl, rfl, by simp [Value.cells, Value.oneCell']⟩, (⟨_, rfl, rfl⟩), rfl, (fun _ => rfl), (fun T h => by cases h; exact ⟨rfl, rfl, rfl⟩)⟩
theorem ti40 : TIok Try.prog 40 ⟨some Y5, (.st [(0, 38), (1, 3)]), 2, 16, [.i64 (0 : Int), .i64 (0 : Int)]⟩ := ⟨⟨_, _, rfl, rfl, rfl, rfl, rfl, rfl, by simp [Value.cells, Value.oneCell']⟩, (⟨_, rfl, _, rfl, rfl, by
    intro f hf
    simp only [List.mem_cons, List.not_mem_nil, or_false] at hf
    rcases hf with rfl | rfl <;> exact ⟨_, rfl, by decide⟩⟩), rfl, (fun h => by cases h), (fun T h => by cases h; exact ⟨rfl, rfl, rfl⟩)⟩
theorem ti46 : TIok Try.prog 46 ⟨some (.int .u8), (.int .u8), 1, 1, [.u8 (0 : Int)]⟩ := ⟨⟨_, _, rfl, rfl, rfl, rfl, rfl, rfl, by simp [Value.cells, Value.oneCell']⟩, (⟨_, rfl, rfl⟩), rfl, (fun _ => rfl), (fun T h => by cases h; exact ⟨rfl, rfl, rfl⟩)⟩
theorem ti47 : TIok Try.prog 47 ⟨some (.int .u8), (.int .u8), 1, 1, [.u8 (0 : Int)]⟩ := ⟨⟨_, _, rfl, rfl, rfl, rfl, rfl, rfl, by simp [Value.cells, Value.oneCell']⟩, (⟨_, rfl, rfl⟩), rfl, (fun _ => rfl), (fun T h => by cases h; exact ⟨rfl, rfl, rfl⟩)⟩
theorem ti48 : TIok Try.prog 48 ⟨some (.slice (.tree .u8 .u32)), (.sl 50), 1, 24, [.nils]⟩ := ⟨⟨_, _, rfl, rfl, rfl, rfl, rfl, rfl, by simp [Value.cells, Value.oneCell']⟩, (⟨_, rfl, rfl⟩), rfl, (fun _ => rfl), (fun T h => by cases h; exact ⟨rfl, rfl, rfl⟩)⟩
theorem ti50 : TIok Try.prog 50 ⟨some (.tree .u8 .u32), (.st [(0, 47), (1, 34), (2, 48)]), 3, 32, [.u8 (0 : Int), .u32 (0 : Int), .nils]⟩ := ⟨⟨_, _, rfl, rfl, rfl, rfl, rfl, rfl, by simp [Value.cells, Value.oneCell']⟩, (⟨_, rfl, _, rfl, rfl, by
    intro f hf
    simp only [List.mem_cons, List.not_mem_nil, or_false] at hf
    rcases hf with rfl | rfl | rfl <;> exact ⟨_, rfl, by decide⟩⟩), rfl, (fun h => by cases h), (fun T h => by cases h; exact ⟨rfl, rfl, rfl⟩)⟩
theorem ti52 : TIok Try.prog 52 ⟨some (.prod (.int .u8) Y1), (.st [(0, 46), (1, 50), (4, 50)]), 7, 72, [.u8 (0 : Int), .u8 (0 : Int), .u32 (0 : Int), .nils, .u8 (0 : Int), .u32 (0 : Int), .nils]⟩ := ⟨⟨_, _, rfl, rfl, rfl, rfl, rfl, rfl, by simp [Value.cells, Value.oneCell']⟩, (⟨_, rfl, _, rfl, rfl, by
    intro f hf
    simp only [List.mem_cons, List.not_mem_nil, or_false] at hf
    rcases hf with rfl | rfl | rfl <;> exact ⟨_, rfl, by decide⟩⟩), rfl, (fun h => by cases h), (fun T h => by cases h; exact ⟨rfl, rfl, rfl⟩)⟩
theorem ti54 : TIok Try.prog 54 ⟨some (.prod (.int .u8) Y6), (.st [(0, 5), (1, 24), (2, 24)]), 3, 56, [.u8 (0 : Int), .nils, .nils]⟩ := ⟨⟨_, _, rfl, rfl, rfl, rfl, rfl, rfl, by simp [Value.cells, Value.oneCell']⟩, (⟨_, rfl, _, rfl, rfl, by
    intro f hf
    simp only [List.mem_cons, List.not_mem_nil, or_false] at hf
    rcases hf with rfl | rfl | rfl <;> exact ⟨_, rfl, by decide⟩⟩), rfl, (fun h => by cases h), (fun T h => by cases h; exact ⟨rfl, rfl, rfl⟩)⟩
theorem ti64 : TIok Try.prog 64 ⟨none, .other, 1, 8, [.nilp]⟩ := ⟨⟨_, _, rfl, rfl, rfl, rfl, rfl, rfl, by simp [Value.cells, Value.oneCell']⟩, (⟨_, rfl, rfl⟩), rfl, (fun _ => rfl), (fun T h => by cases h)⟩
theorem ti65 : TIok Try.prog 65 ⟨none, (.mp 9 34), 1, 8, [.unk]⟩ := ⟨⟨_, _, rfl, rfl, rfl, rfl, rfl, rfl, by simp [Value.cells, Value.oneCell']⟩, (⟨_, rfl, rfl⟩), rfl, (fun _ => rfl), (fun T h => by cases h)⟩
theorem ti67 : TIok Try.prog 67 ⟨none, (.st [(0, 9), (1, 3), (2, 37), (7, 65), (8, 3), (9, 3)]), 10, 128, [.st ([] : List UInt8), .i64 (0 : Int), .nils, .u32 (0 : Int), .u32 (0 : Int), .nils, .nils, .unk, .i64 (0 : Int), .i64 (0 : Int)]⟩ := ⟨⟨_, _, rfl, rfl, rfl, rfl, rfl, rfl, by simp [Value.cells, Value.oneCell']⟩, (⟨_, rfl, _, rfl, rfl, by
    intro f hf
    simp only [List.mem_cons, List.not_mem_nil, or_false] at hf
    rcases hf with rfl | rfl | rfl | rfl | rfl | rfl <;> exact ⟨_, rfl, by decide⟩⟩), rfl, (fun h => by cases h), (fun T h => by cases h)⟩
theorem ti72 : TIok Try.prog 72 ⟨none, .other, 1, 8, [.nilp]⟩ := ⟨⟨_, _, rfl, rfl, rfl, rfl, rfl, rfl, by simp [Value.cells, Value.oneCell']⟩, (⟨_, rfl, rfl⟩), rfl, (fun _ => rfl), (fun T h => by cases h)⟩
theorem ti73 : TIok Try.prog 73 ⟨some (.slice (.int .u32)), (.sl 34), 1, 24, [.nils]⟩ := ⟨⟨_, _, rfl, rfl, rfl, rfl, rfl, rfl, by simp [Value.cells, Value.oneCell']⟩, (⟨_, rfl, rfl⟩), rfl, (fun _ => rfl), (fun T h => by cases h; exact ⟨rfl, rfl, rfl⟩)⟩
theorem ti75 : TIok Try.prog 75 ⟨some (.prod .str Y12), (.st [(0, 9), (1, 3), (2, 37), (7, 33), (8, 73), (9, 3), (10, 3), (11, 3), (12, 3)]), 13, 184, [.st ([] : List UInt8), .i64 (0 : Int), .nils, .u32 (0 : Int), .u32 (0 : Int), .nils, .nils, .nils, .nils, .i64 (0 : Int), .i64 (0 : Int), .i64 (0 : Int), .i64 (0 : Int)]⟩ := ⟨⟨_, _, rfl, rfl, rfl, rfl, rfl, rfl, by simp [Value.cells, Value.oneCell']⟩, (⟨_, rfl, _, rfl, rfl, by
    intro f hf
    simp only [List.mem_cons, List.not_mem_nil, or_false] at hf
    rcases hf with rfl | rfl | rfl | rfl | rfl | rfl | rfl | rfl | rfl <;> exact ⟨_, rfl, by decide⟩⟩), rfl, (fun h => by cases h), (fun T h => by cases h; exact ⟨rfl, rfl, rfl⟩)⟩
theorem ti78 : TIok Try.prog 78 ⟨none, .other, 1, 8, [.nilp]⟩ := ⟨⟨_, _, rfl, rfl, rfl, rfl, rfl, rfl, by simp [Value.cells, Value.oneCell']⟩, (⟨_, rfl, rfl⟩), rfl, (fun _ => rfl), (fun T h => by cases h)⟩
theorem ti80 : TIok Try.prog 80 ⟨some Y13, (.st [(0, 24), (1, 3)]), 2, 32, [.nils, .i64 (0 : Int)]⟩ := ⟨⟨_, _, rfl, rfl, rfl, rfl, rfl, rfl, by simp [Value.cells, Value.oneCell']⟩, (⟨_, rfl, _, rfl, rfl, by
    intro f hf
    simp only [List.mem_cons, List.not_mem_nil, or_false] at hf
    rcases hf with rfl | rfl <;> exact ⟨_, rfl, by decide⟩⟩), rfl, (fun h => by cases h), (fun T h => by cases h; exact ⟨rfl, rfl, rfl⟩)⟩
theorem ti81 : TIok Try.prog 81 ⟨none, .other, 1, 8, [.unk]⟩ := ⟨⟨_, _, rfl, rfl, rfl, rfl, rfl, rfl, by simp [Value.cells, Value.oneCell']⟩, (⟨_, rfl, rfl⟩), rfl, (fun _ => rfl), (fun T h => by cases h)⟩
theorem ti82 : TIok Try.prog 82 ⟨none, (.mp 9 81), 1, 8, [.unk]⟩ := ⟨⟨_, _, rfl, rfl, rfl, rfl, rfl, rfl, by simp [Value.cells, Value.oneCell']⟩, (⟨_, rfl, rfl⟩), rfl, (fun _ => rfl), (fun T h => by cases h)⟩
theorem ti83 : TIok Try.prog 83 ⟨none, (.mp 9 46), 1, 8, [.unk]⟩ := ⟨⟨_, _, rfl, rfl, rfl, rfl, rfl, rfl, by simp [Value.cells, Value.oneCell']⟩, (⟨_, rfl, rfl⟩), rfl, (fun _ => rfl), (fun T h => by cases h)⟩
theorem ti101 : TIok Try.prog 101 ⟨some (.prod (.int .u8) Y16), (.ar 7 5), 7, 7, [.u8 (0 : Int), .u8 (0 : Int), .u8 (0 : Int), .u8 (0 : Int), .u8 (0 : Int), .u8 (0 : Int), .u8 (0 : Int)]⟩ := ⟨⟨_, _, rfl, rfl, rfl, rfl, rfl, rfl, by simp [Value.cells, Value.oneCell']⟩, (⟨_, rfl, rfl⟩), rfl, (fun h => by cases h), (fun T h => by cases h; exact ⟨rfl, rfl, rfl⟩)⟩
theorem tbok : TabOK Try.prog tb := by
  intro p hp
  simp only [tb, List.mem_cons, List.not_mem_nil, or_false] at hp
  rcases hp with rfl | rfl | rfl | rfl | rfl | rfl | rfl | rfl | rfl | rfl | rfl | rfl | rfl | rfl | rfl | rfl | rfl | rfl | rfl | rfl | rfl | rfl | rfl | rfl | rfl | rfl | rfl | rfl | rfl | rfl | rfl | rfl | rfl | rfl
  · exact ti3
  · exact ti4
  · exact ti5
  · exact ti9
  · exact ti20
  · exact ti24
  · exact ti25
  · exact ti27
  · exact ti28
  · exact ti30
  · exact ti33
  · exact ti34
  · exact ti35
  · exact ti37
  · exact ti38
  · exact ti40
  · exact ti46
  · exact ti47
  · exact ti48
  · exact ti50
  · exact ti52
  · exact ti54
  · exact ti64
  · exact ti65
  · exact ti67
  · exact ti72
  · exact ti73
  · exact ti75
  · exact ti78
  · exact ti80
  · exact ti81
  · exact ti82
  · exact ti83
  · exact ti101
theorem eq40 : EqOk Try.prog 40 Y5 := eqOk_of 8 (by decide) (by kernel_rfl) ⟨by kernel_rfl, rfl⟩
theorem mixed : Try.prog.follows .mixedOrders = true := by kernel_rfl
end
end Go.Proofs.Ytjfjigknkhgkdaa.T
