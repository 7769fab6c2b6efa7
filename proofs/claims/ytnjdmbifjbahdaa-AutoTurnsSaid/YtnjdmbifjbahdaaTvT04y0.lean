/- Functions of the program as functions on data, and that the program's own come to them. -/
import Derived.Test.YtnjdmbifjbahdaaTvSdm
import Derived.Test.YtnjdmbifjbahdaaProg
import Derived.KernelRfl
namespace Go.Proofs.Ytnjdmbifjbahdaa.T
open Go Go.Tv Go.Proofs
noncomputable section
set_option maxRecDepth 100000
set_option maxHeartbeats 4000000
abbrev Y1 : Ty := (.prod (.slice (.slice (.int .i64))) (.slice (.int .u32)))
abbrev Y2 : Ty := (.prod (.int .u64) (.int .u64))
abbrev Y3 : Ty := (.prod (.int .u64) (.prod (.int .u64) Y2))
abbrev Y4 : Ty := (.prod .bool (.prod Y3 Y3))
abbrev Y5 : Ty := (.prod (.slice (.int .u8)) (.slice (.int .u8)))
abbrev Y6 : Ty := (.prod (.tree .u8 .u32) (.tree .u8 .u32))
abbrev Y7 : Ty := (.prod (.slice (.int .i64)) (.slice (.prod (.int .u8) Y6)))
abbrev Y8 : Ty := (.prod (.int .u32) (.prod (.int .u32) Y7))
abbrev Y9 : Ty := (.prod (.slice .str) Y8)
abbrev Y10 : Ty := (.prod (.int .i64) (.int .i64))
abbrev Y11 : Ty := (.prod (.slice (.int .u8)) (.slice (.prod (.int .u8) Y5)))
abbrev Y12 : Ty := (.prod (.int .u8) (.prod (.int .u8) Y11))
abbrev Y13 : Ty := (.prod (.slice Y3) .bool)
abbrev Y14 : Ty := (.prod (.slice (.int .u32)) Y13)
abbrev Y15 : Ty := (.prod (.slice (.int .u8)) (.int .i64))
abbrev Y16 : Ty := (.prod (.int .u8) (.int .u8))
abbrev Y17 : Ty := (.prod (.int .u8) (.prod (.int .u8) Y16))
abbrev Y18 : Ty := (.prod (.int .u8) (.prod (.int .u8) Y17))
abbrev ob1 (a1 : Bool) (a2 : Int) (a3 : Int) (a4 : Int) (a5 : Int) (a6 : Int) (a7 : Int) (a8 : Int) (a9 : Int) : List (Nat × Tv.Obj) := [(0, .box [.bo a1, .u64 a2, .u64 a3, .u64 a4, .u64 a5, .u64 a6, .u64 a7, .u64 a8, .u64 a9])]
abbrev ob3 (a1 : Int) (a2 : Int) (a3 : Int) (a4 : Int) (a5 : Int) (a6 : Int) (a7 : Int) (a8 : Int) : List (Nat × Tv.Obj) := [(0, .box [.u64 a1, .u64 a2, .u64 a3, .u64 a4]), (1, .box [.u64 a5, .u64 a6, .u64 a7, .u64 a8])]
abbrev ob6 (a1 : Bool) (a2 : List Int) (a3 : List (Int × Int × Int × Int)) : List (Nat × Tv.Obj) := [(0, .box [.sl 1, .sl 2, .bo a1]), (1, .arr 24 (.int .u32) a2), (2, .arr 60 Y3 a3)]
abbrev ob7 (a1 : Int) (a2 : Int) (a3 : Int) (a4 : Int) (a5 : Int) (a6 : Int) (a7 : Int) (a8 : Int) (a9 : Int) (a10 : Int) (a11 : Int) (a12 : Int) : List (Nat × Tv.Obj) := [(0, .box [.u64 a1, .u64 a2, .u64 a3, .u64 a4]), (1, .box [.u64 a5, .u64 a6, .u64 a7, .u64 a8]), (2, .box [.u64 a9, .u64 a10, .u64 a11, .u64 a12])]
abbrev ob8 (a1 : Bool) (a2 : List Int) (a3 : List (Int × Int × Int × Int)) (a4 : Int) (a5 : Int) (a6 : Int) (a7 : Int) (a8 : Int) (a9 : Int) (a10 : Int) (a11 : Int) : List (Nat × Tv.Obj) := [(0, .box [.sl 1, .sl 2, .bo a1]), (1, .arr 24 (.int .u32) a2), (2, .arr 60 Y3 a3), (3, .box [.u64 a4, .u64 a5, .u64 a6, .u64 a7]), (4, .box [.u64 a8, .u64 a9, .u64 a10, .u64 a11])]
abbrev ob12 (a1 : Bool) (a2 : List Int) (a3 : List (Int × Int × Int × Int)) (a4 : Int) (a5 : Int) (a6 : Bool) (a7 : List Tree) (a8 : Bool) (a9 : Int) (a10 : Int) (a11 : Int) (a12 : Int) (a13 : Int) (a14 : Int) (a15 : Int) (a16 : Int) : List (Nat × Tv.Obj) := [(0, .box [.sl 1, .sl 2, .bo a1]), (1, .arr 24 (.int .u32) a2), (2, .arr 60 Y3 a3), (3, .box [.u8 a4, .u32 a5, .p a6 (.slice (.tree .u8 .u32)) a7]), (4, .box [.bo a8, .u64 a9, .u64 a10, .u64 a11, .u64 a12, .u64 a13, .u64 a14, .u64 a15, .u64 a16])]
abbrev ob13 (a1 : Bool) (a2 : List Int) (a3 : List (Int × Int × Int × Int)) : List (Nat × Tv.Obj) := [(0, .box [.sl 3, .sl 4, .bo a1]), (3, .arr 24 (.int .u32) a2), (4, .arr 60 Y3 a3)]
abbrev ob14 (a1 : Bool) (a2 : List Int) (a3 : List (Int × Int × Int × Int)) (a4 : Bool) (a5 : Int) (a6 : Int) (a7 : Int) (a8 : Int) (a9 : Int) (a10 : Int) (a11 : Int) (a12 : Int) (a13 : Bool) (a14 : Int) (a15 : Int) (a16 : Int) (a17 : Int) (a18 : Int) (a19 : Int) (a20 : Int) (a21 : Int) (a22 : Bool) (a23 : Int) (a24 : Int) (a25 : Int) (a26 : Int) (a27 : Int) (a28 : Int) (a29 : Int) (a30 : Int) : List (Nat × Tv.Obj) := [(0, .box [.sl 3, .sl 4, .bo a1]), (3, .arr 24 (.int .u32) a2), (4, .arr 60 Y3 a3), (5, .box [.bo a4, .u64 a5, .u64 a6, .u64 a7, .u64 a8, .u64 a9, .u64 a10, .u64 a11, .u64 a12]), (6, .box [.bo a13, .u64 a14, .u64 a15, .u64 a16, .u64 a17, .u64 a18, .u64 a19, .u64 a20, .u64 a21]), (7, .box [.bo a22, .u64 a23, .u64 a24, .u64 a25, .u64 a26, .u64 a27, .u64 a28, .u64 a29, .u64 a30])]
abbrev ob15 (a1 : Bool) (a2 : List Int) (a3 : List (Int × Int × Int × Int)) (a4 : Bool) (a5 : Int) (a6 : Int) (a7 : Int) (a8 : Int) (a9 : Int) (a10 : Int) (a11 : Int) (a12 : Int) (a13 : Bool) (a14 : Int) (a15 : Int) (a16 : Int) (a17 : Int) (a18 : Int) (a19 : Int) (a20 : Int) (a21 : Int) : List (Nat × Tv.Obj) := [(0, .box [.sl 3, .sl 4, .bo a1]), (3, .arr 24 (.int .u32) a2), (4, .arr 60 Y3 a3), (5, .box [.bo a4, .u64 a5, .u64 a6, .u64 a7, .u64 a8, .u64 a9, .u64 a10, .u64 a11, .u64 a12]), (6, .box [.bo a13, .u64 a14, .u64 a15, .u64 a16, .u64 a17, .u64 a18, .u64 a19, .u64 a20, .u64 a21])]
abbrev ob16 (a1 : Bool) (a2 : Bool) (a3 : Int) (a4 : Int) (a5 : Int) (a6 : Int) (a7 : Int) (a8 : Int) (a9 : Int) (a10 : Int) (a11 : Bool) (a12 : Int) (a13 : Int) (a14 : Int) (a15 : Int) (a16 : Int) (a17 : Int) (a18 : Int) (a19 : Int) (a20 : List Int) (a21 : List (Int × Int × Int × Int)) : List (Nat × Tv.Obj) := [(0, .box [.sl 5, .sl 6, .bo a1]), (3, .box [.bo a2, .u64 a3, .u64 a4, .u64 a5, .u64 a6, .u64 a7, .u64 a8, .u64 a9, .u64 a10]), (4, .box [.bo a11, .u64 a12, .u64 a13, .u64 a14, .u64 a15, .u64 a16, .u64 a17, .u64 a18, .u64 a19]), (5, .arr 24 (.int .u32) a20), (6, .arr 60 Y3 a21)]
abbrev ob17 (a1 : Bool) (a2 : Int) (a3 : Int) (a4 : Bool) (a5 : List Tree) (a6 : Bool) (a7 : Int) (a8 : Int) (a9 : Int) (a10 : Int) (a11 : Int) (a12 : Int) (a13 : Int) (a14 : Int) (a15 : Bool) (a16 : Int) (a17 : Int) (a18 : Int) (a19 : Int) (a20 : Int) (a21 : Int) (a22 : Int) (a23 : Int) (a24 : List Int) (a25 : List (Int × Int × Int × Int)) : List (Nat × Tv.Obj) := [(0, .box [.sl 6, .sl 7, .bo a1]), (3, .box [.u8 a2, .u32 a3, .p a4 (.slice (.tree .u8 .u32)) a5]), (4, .box [.bo a6, .u64 a7, .u64 a8, .u64 a9, .u64 a10, .u64 a11, .u64 a12, .u64 a13, .u64 a14]), (5, .box [.bo a15, .u64 a16, .u64 a17, .u64 a18, .u64 a19, .u64 a20, .u64 a21, .u64 a22, .u64 a23]), (6, .arr 24 (.int .u32) a24), (7, .arr 60 Y3 a25)]
abbrev ob18 (a1 : Bool) (a2 : List Int) (a3 : List (Int × Int × Int × Int)) (a4 : Int) (a5 : Int) (a6 : Bool) (a7 : List Tree) (a8 : Bool) (a9 : Int) (a10 : Int) (a11 : Int) (a12 : Int) (a13 : Int) (a14 : Int) (a15 : Int) (a16 : Int) (a17 : Bool) (a18 : Int) (a19 : Int) (a20 : Int) (a21 : Int) (a22 : Int) (a23 : Int) (a24 : Int) (a25 : Int) : List (Nat × Tv.Obj) := [(0, .box [.sl 3, .sl 4, .bo a1]), (3, .arr 24 (.int .u32) a2), (4, .arr 60 Y3 a3), (5, .box [.u8 a4, .u32 a5, .p a6 (.slice (.tree .u8 .u32)) a7]), (6, .box [.bo a8, .u64 a9, .u64 a10, .u64 a11, .u64 a12, .u64 a13, .u64 a14, .u64 a15, .u64 a16]), (7, .box [.bo a17, .u64 a18, .u64 a19, .u64 a20, .u64 a21, .u64 a22, .u64 a23, .u64 a24, .u64 a25])]
abbrev ob19 (a1 : Bool) (a2 : List Int) (a3 : List (Int × Int × Int × Int)) (a4 : Bool) (a5 : Int) (a6 : Int) (a7 : Int) (a8 : Int) (a9 : Int) (a10 : Int) (a11 : Int) (a12 : Int) : List (Nat × Tv.Obj) := [(0, .box [.sl 3, .sl 4, .bo a1]), (3, .arr 24 (.int .u32) a2), (4, .arr 60 Y3 a3), (5, .box [.bo a4, .u64 a5, .u64 a6, .u64 a7, .u64 a8, .u64 a9, .u64 a10, .u64 a11, .u64 a12])]
abbrev ob28 (a1 : Bool) (a2 : List Int) (a3 : List (Int × Int × Int × Int)) (a4 : List (Bool × (Int × Int × Int × Int) × Int × Int × Int × Int)) (a5 : Int) (a6 : Int) (a7 : Int) (a8 : Int) (a9 : List (List Int)) (a10 : List Int) (a11 : List (Int × Int × Int × Int)) (a12 : List ((Int × Int × Int × Int) × Int)) (a13 : Int) (a14 : Int) (a15 : Int) (a16 : Int) (a17 : Int) (a18 : Int) (a19 : Int) (a20 : Int) : List (Nat × Tv.Obj) := [(0, .box [.nils, .nils]), (1, .box [.sl 2, .sl 3, .bo a1]), (2, .arr 24 (.int .u32) a2), (3, .arr 60 Y3 a3), (4, .arr 62 Y4 a4), (5, .box [.u64 a5, .u64 a6, .u64 a7, .u64 a8]), (6, .box [.sl 7, .sl 8]), (7, .arr 36 (.slice (.int .i64)) a9), (8, .arr 24 (.int .u32) a10), (9, .arr 60 Y3 a11), (10, .mpo Y3 (.int .i64) a12), (11, .box [.u64 a13, .u64 a14, .u64 a15, .u64 a16]), (12, .box [.u64 a17, .u64 a18, .u64 a19, .u64 a20])]
abbrev ob29 (a1 : Bool) (a2 : List Int) (a3 : List (Int × Int × Int × Int)) (a4 : List (Bool × (Int × Int × Int × Int) × Int × Int × Int × Int)) (a5 : Int) (a6 : Int) (a7 : Int) (a8 : Int) (a9 : List (List Int)) (a10 : List Int) (a11 : List (Int × Int × Int × Int)) (a12 : List ((Int × Int × Int × Int) × Int)) (a13 : Int) (a14 : Int) (a15 : Int) (a16 : Int) (a17 : List Int) (a18 : Int) (a19 : Int) (a20 : Int) (a21 : Int) : List (Nat × Tv.Obj) := [(0, .box [.nils, .nils]), (1, .box [.sl 2, .sl 3, .bo a1]), (2, .arr 24 (.int .u32) a2), (3, .arr 60 Y3 a3), (4, .arr 62 Y4 a4), (5, .box [.u64 a5, .u64 a6, .u64 a7, .u64 a8]), (6, .box [.sl 7, .sl 8]), (7, .arr 36 (.slice (.int .i64)) a9), (8, .arr 24 (.int .u32) a10), (9, .arr 60 Y3 a11), (10, .mpo Y3 (.int .i64) a12), (11, .box [.u64 a13, .u64 a14, .u64 a15, .u64 a16]), (12, .arr 3 (.int .i64) a17), (13, .box [.u64 a18, .u64 a19, .u64 a20, .u64 a21])]
abbrev ob30 (a1 : Bool) (a2 : List Int) (a3 : List (Int × Int × Int × Int)) (a4 : List (Bool × (Int × Int × Int × Int) × Int × Int × Int × Int)) (a5 : Int) (a6 : Int) (a7 : Int) (a8 : Int) (a9 : List (List Int)) (a10 : List Int) (a11 : List (Int × Int × Int × Int)) (a12 : List ((Int × Int × Int × Int) × Int)) (a13 : Int) (a14 : Int) (a15 : Int) (a16 : Int) (a17 : List Int) : List (Nat × Tv.Obj) := [(0, .box [.nils, .nils]), (1, .box [.sl 2, .sl 3, .bo a1]), (2, .arr 24 (.int .u32) a2), (3, .arr 60 Y3 a3), (4, .arr 62 Y4 a4), (5, .box [.u64 a5, .u64 a6, .u64 a7, .u64 a8]), (6, .box [.sl 7, .sl 8]), (7, .arr 36 (.slice (.int .i64)) a9), (8, .arr 24 (.int .u32) a10), (9, .arr 60 Y3 a11), (10, .mpo Y3 (.int .i64) a12), (11, .box [.u64 a13, .u64 a14, .u64 a15, .u64 a16]), (12, .arr 3 (.int .i64) a17)]
abbrev ob31 (a1 : Bool) (a2 : List Int) (a3 : List (Int × Int × Int × Int)) (a4 : List (Bool × (Int × Int × Int × Int) × Int × Int × Int × Int)) (a5 : Int) (a6 : Int) (a7 : Int) (a8 : Int) (a9 : List (List Int)) (a10 : List Int) (a11 : List (Int × Int × Int × Int)) (a12 : List ((Int × Int × Int × Int) × Int)) (a13 : List Int) : List (Nat × Tv.Obj) := [(0, .box [.nils, .nils]), (1, .box [.sl 2, .sl 3, .bo a1]), (2, .arr 24 (.int .u32) a2), (3, .arr 60 Y3 a3), (4, .arr 62 Y4 a4), (5, .box [.u64 a5, .u64 a6, .u64 a7, .u64 a8]), (6, .box [.sl 7, .sl 8]), (7, .arr 36 (.slice (.int .i64)) a9), (8, .arr 24 (.int .u32) a10), (9, .arr 60 Y3 a11), (10, .mpo Y3 (.int .i64) a12), (11, .arr 3 (.int .i64) a13)]
abbrev ob32 (a1 : Bool) (a2 : List Int) (a3 : List (Int × Int × Int × Int)) (a4 : List (Bool × (Int × Int × Int × Int) × Int × Int × Int × Int)) (a5 : Int) (a6 : Int) (a7 : Int) (a8 : Int) (a9 : List (List Int)) (a10 : List Int) (a11 : List (Int × Int × Int × Int)) (a12 : List ((Int × Int × Int × Int) × Int)) (a13 : Int) (a14 : Int) (a15 : Int) (a16 : Int) : List (Nat × Tv.Obj) := [(0, .box [.nils, .nils]), (1, .box [.sl 2, .sl 3, .bo a1]), (2, .arr 24 (.int .u32) a2), (3, .arr 60 Y3 a3), (4, .arr 62 Y4 a4), (5, .box [.u64 a5, .u64 a6, .u64 a7, .u64 a8]), (6, .box [.sl 7, .sl 8]), (7, .arr 36 (.slice (.int .i64)) a9), (8, .arr 24 (.int .u32) a10), (9, .arr 60 Y3 a11), (10, .mpo Y3 (.int .i64) a12), (11, .box [.u64 a13, .u64 a14, .u64 a15, .u64 a16])]
abbrev ob33 (a1 : Bool) (a2 : List Int) (a3 : List (Int × Int × Int × Int)) (a4 : List (Bool × (Int × Int × Int × Int) × Int × Int × Int × Int)) (a5 : Int) (a6 : Int) (a7 : Int) (a8 : Int) (a9 : List (List Int)) (a10 : List Int) (a11 : List (Int × Int × Int × Int)) (a12 : List ((Int × Int × Int × Int) × Int)) : List (Nat × Tv.Obj) := [(0, .box [.nils, .nils]), (1, .box [.sl 2, .sl 3, .bo a1]), (2, .arr 24 (.int .u32) a2), (3, .arr 60 Y3 a3), (4, .arr 62 Y4 a4), (5, .box [.u64 a5, .u64 a6, .u64 a7, .u64 a8]), (6, .box [.sl 7, .sl 8]), (7, .arr 36 (.slice (.int .i64)) a9), (8, .arr 24 (.int .u32) a10), (9, .arr 60 Y3 a11), (10, .mpo Y3 (.int .i64) a12)]
abbrev ob34 (a1 : List (List Int)) (a2 : List Int) : List (Nat × Tv.Obj) := [(0, .box [.nils, .nils]), (1, .box [.sl 2, .sl 3]), (2, .arr 36 (.slice (.int .i64)) a1), (3, .arr 24 (.int .u32) a2)]
abbrev ob35 (a1 : Bool) (a2 : List Int) (a3 : List (Int × Int × Int × Int)) (a4 : List (Bool × (Int × Int × Int × Int) × Int × Int × Int × Int)) (a5 : Int) (a6 : Int) (a7 : Int) (a8 : Int) : List (Nat × Tv.Obj) := [(0, .box [.nils, .nils]), (1, .box [.sl 2, .sl 3, .bo a1]), (2, .arr 24 (.int .u32) a2), (3, .arr 60 Y3 a3), (4, .arr 62 Y4 a4), (5, .box [.u64 a5, .u64 a6, .u64 a7, .u64 a8])]
abbrev ob36 (a1 : Bool) (a2 : List Int) (a3 : List (Int × Int × Int × Int)) (a4 : List (Bool × (Int × Int × Int × Int) × Int × Int × Int × Int)) : List (Nat × Tv.Obj) := [(0, .box [.nils, .nils]), (1, .box [.sl 2, .sl 3, .bo a1]), (2, .arr 24 (.int .u32) a2), (3, .arr 60 Y3 a3), (4, .arr 62 Y4 a4)]
abbrev ob38 (a1 : Int) (a2 : Int) (a3 : Int) (a4 : Bool) (a5 : List Int) (a6 : List (Int × (List Int) × List Int)) : List (Nat × Tv.Obj) := [(0, .box [.u8 a1, .u8 a2, .u8 a3, .p a4 (.slice (.int .u8)) a5, .p false (.slice (.prod (.int .u8) Y5)) a6])]
abbrev ob39 (a1 : Int) (a2 : Int) (a3 : Int) (a4 : Bool) (a5 : List Int) (a6 : List (Int × (List Int) × List Int)) (a7 : List (List UInt8)) : List (Nat × Tv.Obj) := [(0, .box [.u8 a1, .u8 a2, .u8 a3, .p a4 (.slice (.int .u8)) a5, .p false (.slice (.prod (.int .u8) Y5)) a6]), (1, .arr 9 .str a7)]
abbrev ob40 (a1 : Int) (a2 : Int) (a3 : Int) (a4 : Int) (a5 : List UInt8) (a6 : Int) (a7 : Int) (a8 : Int) (a9 : Int) (a10 : Int) (a11 : List ((List UInt8) × Int)) : List (Nat × Tv.Obj) := [(0, .box [.nils, .u32 a1, .u32 a2, .nils, .nils]), (1, .box [.i64 a3, .i64 a4]), (2, .box [.st a5, .i64 a6, .nils, .u32 a7, .u32 a8, .nils, .nils, .mp 3, .i64 a9, .i64 a10]), (3, .mpo .str (.int .u32) a11)]
abbrev ob41 (a1 : List UInt8) (a2 : Int) (a3 : Int) (a4 : Int) (a5 : Int) (a6 : Int) (a7 : List ((List UInt8) × Int)) : List (Nat × Tv.Obj) := [(0, .box [.st a1, .i64 a2, .nils, .u32 a3, .u32 a4, .nils, .nils, .mp 1, .i64 a5, .i64 a6]), (1, .mpo .str (.int .u32) a7)]
abbrev ob42 (a1 : Int) (a2 : Int) (a3 : Int) (a4 : Int) : List (Nat × Tv.Obj) := [(0, .box [.nils, .u32 a1, .u32 a2, .nils, .nils]), (1, .box [.i64 a3, .i64 a4])]
abbrev ob52 (a1 : List UInt8) (a2 : Int) (a3 : Int) (a4 : Int) (a5 : Int) (a6 : Int) (a7 : List (List UInt8)) (a8 : List Int) (a9 : List (Int × Tree × Tree)) (a10 : List ((List UInt8) × Int)) : List (Nat × Tv.Obj) := [(0, .box [.st a1, .i64 a2, .sl 1, .u32 a3, .u32 a4, .sl 2, .sl 3, .mp 4, .i64 a5, .i64 a6]), (1, .arr 9 .str a7), (2, .arr 3 (.int .i64) a8), (3, .arr 81 (.prod (.int .u8) Y6) a9), (4, .mpo .str (.int .u32) a10)]
abbrev ob53 (a1 : List UInt8) (a2 : Int) (a3 : Int) (a4 : Int) (a5 : Int) (a6 : Int) (a7 : List (Int × Tree × Tree)) (a8 : List ((List UInt8) × Int)) (a9 : List (List UInt8)) (a10 : List Int) : List (Nat × Tv.Obj) := [(0, .box [.st a1, .i64 a2, .sl 5, .u32 a3, .u32 a4, .sl 6, .sl 3, .mp 4, .i64 a5, .i64 a6]), (3, .arr 81 (.prod (.int .u8) Y6) a7), (4, .mpo .str (.int .u32) a8), (5, .arr 9 .str a9), (6, .arr 3 (.int .i64) a10)]
abbrev ob54 (a1 : List UInt8) (a2 : Int) (a3 : Int) (a4 : Int) (a5 : Int) (a6 : Int) (a7 : List (List UInt8)) (a8 : List Int) (a9 : List (Int × Tree × Tree)) (a10 : List ((List UInt8) × Int)) (a11 : Int) (a12 : Int) (a13 : Int) (a14 : Int) : List (Nat × Tv.Obj) := [(0, .box [.st a1, .i64 a2, .sl 1, .u32 a3, .u32 a4, .sl 2, .sl 3, .mp 4, .i64 a5, .i64 a6]), (1, .arr 9 .str a7), (2, .arr 3 (.int .i64) a8), (3, .arr 81 (.prod (.int .u8) Y6) a9), (4, .mpo .str (.int .u32) a10), (5, .box [.u8 a11, .u32 a12, .nils]), (6, .box [.u8 a13, .u32 a14, .nils])]
abbrev ob55 (a1 : List UInt8) (a2 : Int) (a3 : Int) (a4 : Int) (a5 : Int) (a6 : Int) (a7 : List (List UInt8)) (a8 : List Int) (a9 : List (Int × Tree × Tree)) (a10 : List ((List UInt8) × Int)) (a11 : Int) (a12 : Int) : List (Nat × Tv.Obj) := [(0, .box [.st a1, .i64 a2, .sl 1, .u32 a3, .u32 a4, .sl 2, .sl 3, .mp 4, .i64 a5, .i64 a6]), (1, .arr 9 .str a7), (2, .arr 3 (.int .i64) a8), (3, .arr 81 (.prod (.int .u8) Y6) a9), (4, .mpo .str (.int .u32) a10), (5, .box [.u8 a11, .u32 a12, .nils])]
abbrev ob56 (a1 : List UInt8) (a2 : Int) (a3 : Int) (a4 : Int) (a5 : Int) (a6 : Int) (a7 : List (List UInt8)) (a8 : List Int) (a9 : List (Int × Tree × Tree)) (a10 : List ((List UInt8) × Int)) (a11 : Int) (a12 : Int) (a13 : Int) (a14 : Int) (a15 : List Tree) : List (Nat × Tv.Obj) := [(0, .box [.st a1, .i64 a2, .sl 1, .u32 a3, .u32 a4, .sl 2, .sl 3, .mp 4, .i64 a5, .i64 a6]), (1, .arr 9 .str a7), (2, .arr 3 (.int .i64) a8), (3, .arr 81 (.prod (.int .u8) Y6) a9), (4, .mpo .str (.int .u32) a10), (5, .box [.u8 a11, .u32 a12, .nils]), (6, .box [.u8 a13, .u32 a14, .p false (.slice (.tree .u8 .u32)) a15])]
abbrev ob57 (a1 : List UInt8) (a2 : Int) (a3 : Int) (a4 : Int) (a5 : Int) (a6 : Int) (a7 : List (List UInt8)) (a8 : List Int) (a9 : List (Int × Tree × Tree)) (a10 : List ((List UInt8) × Int)) (a11 : Int) (a12 : Int) (a13 : List Tree) : List (Nat × Tv.Obj) := [(0, .box [.st a1, .i64 a2, .sl 1, .u32 a3, .u32 a4, .sl 2, .sl 3, .mp 4, .i64 a5, .i64 a6]), (1, .arr 9 .str a7), (2, .arr 3 (.int .i64) a8), (3, .arr 81 (.prod (.int .u8) Y6) a9), (4, .mpo .str (.int .u32) a10), (5, .box [.u8 a11, .u32 a12, .sl 6]), (6, .arr 27 (.tree .u8 .u32) a13)]
abbrev ob58 (a1 : List UInt8) (a2 : Int) (a3 : Int) (a4 : Int) (a5 : Int) (a6 : Int) (a7 : List (List UInt8)) (a8 : List Int) (a9 : List (Int × Tree × Tree)) (a10 : List ((List UInt8) × Int)) (a11 : Int) (a12 : Int) (a13 : List Tree) : List (Nat × Tv.Obj) := [(0, .box [.st a1, .i64 a2, .sl 1, .u32 a3, .u32 a4, .sl 2, .sl 3, .mp 4, .i64 a5, .i64 a6]), (1, .arr 9 .str a7), (2, .arr 3 (.int .i64) a8), (3, .arr 81 (.prod (.int .u8) Y6) a9), (4, .mpo .str (.int .u32) a10), (5, .box [.u8 a11, .u32 a12, .p false (.slice (.tree .u8 .u32)) a13])]
abbrev ob59 (a1 : List UInt8) (a2 : Int) (a3 : Int) (a4 : Int) (a5 : Int) (a6 : Int) (a7 : List (List UInt8)) (a8 : List Int) (a9 : List (Int × Tree × Tree)) (a10 : List ((List UInt8) × Int)) (a11 : Int) (a12 : Int) (a13 : List Tree) : List (Nat × Tv.Obj) := [(0, .box [.st a1, .i64 a2, .sl 1, .u32 a3, .u32 a4, .sl 2, .sl 3, .mp 4, .i64 a5, .i64 a6]), (1, .arr 9 .str a7), (2, .arr 3 (.int .i64) a8), (3, .arr 81 (.prod (.int .u8) Y6) a9), (4, .mpo .str (.int .u32) a10), (5, .box [.u8 a11, .u32 a12, .nils]), (6, .arr 27 (.tree .u8 .u32) a13)]
abbrev ob60 (a1 : List UInt8) (a2 : Int) (a3 : Int) (a4 : Int) (a5 : Int) (a6 : Int) (a7 : List (List UInt8)) (a8 : List Int) (a9 : List ((List UInt8) × Int)) (a10 : List (Int × Tree × Tree)) : List (Nat × Tv.Obj) := [(0, .box [.st a1, .i64 a2, .sl 1, .u32 a3, .u32 a4, .sl 2, .sl 5, .mp 4, .i64 a5, .i64 a6]), (1, .arr 9 .str a7), (2, .arr 3 (.int .i64) a8), (4, .mpo .str (.int .u32) a9), (5, .arr 81 (.prod (.int .u8) Y6) a10)]
abbrev ob61 (a1 : List UInt8) (a2 : Int) (a3 : Int) (a4 : Int) (a5 : Int) (a6 : Int) (a7 : List ((List UInt8) × Int)) (a8 : List (List UInt8)) (a9 : List Int) (a10 : List (Int × Tree × Tree)) (a11 : List ((List UInt8) × Int)) : List (Nat × Tv.Obj) := [(0, .box [.st a1, .i64 a2, .sl 2, .u32 a3, .u32 a4, .sl 3, .sl 4, .mp 1, .i64 a5, .i64 a6]), (1, .mpo .str (.int .u32) a7), (2, .arr 9 .str a8), (3, .arr 3 (.int .i64) a9), (4, .arr 81 (.prod (.int .u8) Y6) a10), (5, .mpl .str [(([99, 108, 97, 115, 115] : List UInt8), (fnV 37)), (([115, 101, 116] : List UInt8), (fnV 38)), (([106, 111, 105, 110] : List UInt8), (fnV 39)), (([116, 114, 101, 97, 116] : List UInt8), (fnV 40))]), (6, .mpo .str (.int .u8) a11)]
abbrev ob62 (a1 : List UInt8) (a2 : Int) (a3 : Int) (a4 : Int) (a5 : Int) (a6 : Int) (a7 : List ((List UInt8) × Int)) (a8 : List (List UInt8)) (a9 : List Int) (a10 : List (Int × Tree × Tree)) : List (Nat × Tv.Obj) := [(0, .box [.st a1, .i64 a2, .sl 2, .u32 a3, .u32 a4, .sl 3, .sl 4, .mp 1, .i64 a5, .i64 a6]), (1, .mpo .str (.int .u32) a7), (2, .arr 9 .str a8), (3, .arr 3 (.int .i64) a9), (4, .arr 81 (.prod (.int .u8) Y6) a10)]
abbrev ob63 (a1 : List (List UInt8)) (a2 : Int) (a3 : Int) (a4 : List Int) (a5 : List (Int × Tree × Tree)) (a6 : List Tree) : List (Nat × Tv.Obj) := [(0, .box [.p false (.slice .str) a1, .u32 a2, .u32 a3, .p false (.slice (.int .i64)) a4, .p false (.slice (.prod (.int .u8) Y6)) a5]), (1, .arr 27 (.tree .u8 .u32) a6)]
abbrev ob65 (a1 : Int) (a2 : Int) (a3 : Bool) (a4 : List Tree) (a5 : Int) (a6 : Int) (a7 : Int) (a8 : Int) (a9 : List Tree) (a10 : Int) (a11 : Int) (a12 : Bool) (a13 : List Tree) : List (Nat × Tv.Obj) := [(0, .box [.u8 a1, .u32 a2, .p a3 (.slice (.tree .u8 .u32)) a4]), (1, .box [.u8 a5, .u32 a6, .nils]), (2, .box [.u8 a7, .u32 a8, .sl 3]), (3, .arr 27 (.tree .u8 .u32) a9), (4, .box [.u8 a10, .u32 a11, .p a12 (.slice (.tree .u8 .u32)) a13])]
abbrev ob66 (a1 : Int) (a2 : Int) (a3 : Bool) (a4 : List Tree) (a5 : Int) (a6 : Int) (a7 : Int) (a8 : Int) (a9 : List Tree) : List (Nat × Tv.Obj) := [(0, .box [.u8 a1, .u32 a2, .p a3 (.slice (.tree .u8 .u32)) a4]), (1, .box [.u8 a5, .u32 a6, .nils]), (2, .box [.u8 a7, .u32 a8, .sl 3]), (3, .arr 27 (.tree .u8 .u32) a9)]
abbrev ob67 (a1 : Int) (a2 : Int) (a3 : Int) (a4 : Int) (a5 : List Tree) : List (Nat × Tv.Obj) := [(0, .box [.u8 a1, .u32 a2, .nils]), (1, .box [.u8 a3, .u32 a4, .sl 2]), (2, .arr 27 (.tree .u8 .u32) a5)]
abbrev ob69 (a1 : Int) (a2 : Int) (a3 : Bool) (a4 : List Tree) (a5 : Int) (a6 : Int) (a7 : Bool) (a8 : List Tree) : List (Nat × Tv.Obj) := [(0, .box [.u8 a1, .u32 a2, .p a3 (.slice (.tree .u8 .u32)) a4]), (1, .box [.u8 a5, .u32 a6, .p a7 (.slice (.tree .u8 .u32)) a8])]
abbrev ob70 (a1 : Int) (a2 : Int) (a3 : Bool) (a4 : List Tree) (a5 : List Bool) : List (Nat × Tv.Obj) := [(0, .box [.u8 a1, .u32 a2, .p a3 (.slice (.tree .u8 .u32)) a4]), (1, .arr 4 .bool a5)]
abbrev ob71 (a1 : Int) (a2 : Int) (a3 : Bool) (a4 : List Tree) : List (Nat × Tv.Obj) := [(0, .box [.u8 a1, .u32 a2, .p a3 (.slice (.tree .u8 .u32)) a4])]
def tb : Tab := [
  (3, ⟨some (.int .i64), (.int .i64), 1, 8, [.i64 (0 : Int)]⟩),
  (4, ⟨some .bool, .bool, 1, 1, [.bo false]⟩),
  (5, ⟨some (.int .u8), (.int .u8), 1, 1, [.u8 (0 : Int)]⟩),
  (9, ⟨some .str, .str, 1, 16, [.st ([] : List UInt8)]⟩),
  (20, ⟨none, .other, 1, 16, [.lit .nilIface]⟩),
  (23, ⟨some (.int .u8), (.int .u8), 1, 1, [.u8 (0 : Int)]⟩),
  (24, ⟨some (.int .u32), (.int .u32), 1, 4, [.u32 (0 : Int)]⟩),
  (25, ⟨some (.slice (.tree .u8 .u32)), (.sl 27), 1, 24, [.nils]⟩),
  (27, ⟨some (.tree .u8 .u32), (.st [(0, 23), (1, 24), (2, 25)]), 3, 32, [.u8 (0 : Int), .u32 (0 : Int), .nils]⟩),
  (28, ⟨some (.slice (.slice (.int .i64))), (.sl 36), 1, 24, [.nils]⟩),
  (29, ⟨some (.slice (.int .u32)), (.sl 24), 1, 24, [.nils]⟩),
  (31, ⟨some Y1, (.st [(0, 28), (1, 29)]), 2, 48, [.nils, .nils]⟩),
  (32, ⟨some (.int .i64), (.int .i64), 1, 8, [.i64 (0 : Int)]⟩),
  (36, ⟨some (.slice (.int .i64)), (.sl 3), 1, 24, [.nils]⟩),
  (39, ⟨some (.int .u64), (.int .u64), 1, 8, [.u64 (0 : Int)]⟩),
  (42, ⟨some (.slice (.int .u8)), (.sl 5), 1, 24, [.nils]⟩),
  (43, ⟨some (.slice (.prod (.int .u8) Y5)), (.sl 96), 1, 24, [.nils]⟩),
  (45, ⟨some (.prod (.int .u8) Y12), (.st [(0, 5), (1, 5), (2, 5), (3, 42), (4, 43)]), 5, 56, [.u8 (0 : Int), .u8 (0 : Int), .u8 (0 : Int), .nils, .nils]⟩),
  (53, ⟨none, .other, 1, 8, [.nilp]⟩),
  (54, ⟨some (.slice Y3), (.sl 60), 1, 24, [.nils]⟩),
  (56, ⟨some Y14, (.st [(0, 29), (1, 54), (2, 4)]), 3, 56, [.nils, .nils, .bo false]⟩),
  (57, ⟨some (.slice Y4), (.sl 62), 1, 24, [.nils]⟩),
  (58, ⟨some (.int .u64), (.int .u64), 1, 8, [.u64 (0 : Int)]⟩),
  (60, ⟨some Y3, (.ar 4 58), 4, 32, [.u64 (0 : Int), .u64 (0 : Int), .u64 (0 : Int), .u64 (0 : Int)]⟩),
  (62, ⟨some Y4, (.st [(0, 4), (1, 60), (5, 60)]), 9, 72, [.bo false, .u64 (0 : Int), .u64 (0 : Int), .u64 (0 : Int), .u64 (0 : Int), .u64 (0 : Int), .u64 (0 : Int), .u64 (0 : Int), .u64 (0 : Int)]⟩),
  (65, ⟨none, (.mp 60 3), 1, 8, [.unk]⟩),
  (70, ⟨some (.slice .str), (.sl 9), 1, 24, [.nils]⟩),
  (71, ⟨some (.slice (.prod (.int .u8) Y6)), (.sl 81), 1, 24, [.nils]⟩),
  (73, ⟨some Y9, (.st [(0, 70), (1, 24), (2, 24), (3, 36), (4, 71)]), 5, 80, [.nils, .u32 (0 : Int), .u32 (0 : Int), .nils, .nils]⟩),
  (75, ⟨some Y10, (.st [(0, 32), (1, 3)]), 2, 16, [.i64 (0 : Int), .i64 (0 : Int)]⟩),
  (79, ⟨some (.int .u8), (.int .u8), 1, 1, [.u8 (0 : Int)]⟩),
  (81, ⟨some (.prod (.int .u8) Y6), (.st [(0, 79), (1, 27), (4, 27)]), 7, 72, [.u8 (0 : Int), .u8 (0 : Int), .u32 (0 : Int), .nils, .u8 (0 : Int), .u32 (0 : Int), .nils]⟩),
  (82, ⟨some (.slice .bool), (.sl 4), 1, 24, [.nils]⟩),
  (86, ⟨none, .other, 1, 8, [.nilp]⟩),
  (87, ⟨none, (.mp 9 24), 1, 8, [.unk]⟩),
  (89, ⟨none, (.st [(0, 9), (1, 3), (2, 73), (7, 87), (8, 3), (9, 3)]), 10, 128, [.st ([] : List UInt8), .i64 (0 : Int), .nils, .u32 (0 : Int), .u32 (0 : Int), .nils, .nils, .unk, .i64 (0 : Int), .i64 (0 : Int)]⟩),
  (96, ⟨some (.prod (.int .u8) Y5), (.st [(0, 5), (1, 42), (2, 42)]), 3, 56, [.u8 (0 : Int), .nils, .nils]⟩),
  (100, ⟨none, .other, 1, 8, [.unk]⟩),
  (101, ⟨none, (.mp 9 100), 1, 8, [.unk]⟩),
  (102, ⟨none, (.mp 9 79), 1, 8, [.unk]⟩),
  (110, ⟨none, .other, 1, 8, [.nilp]⟩),
  (112, ⟨some Y15, (.st [(0, 42), (1, 3)]), 2, 32, [.nils, .i64 (0 : Int)]⟩),
  (121, ⟨some (.prod (.int .u8) Y18), (.ar 7 5), 7, 7, [.u8 (0 : Int), .u8 (0 : Int), .u8 (0 : Int), .u8 (0 : Int), .u8 (0 : Int), .u8 (0 : Int), .u8 (0 : Int)]⟩)]
theorem ti3 : TIok Try.prog 3 ⟨some (.int .i64), (.int .i64), 1, 8, [.i64 (0 : Int)]⟩ := ⟨⟨_, _, rfl, rfl, rfl, rfl, rfl, rfl, by simp [Value.cells, Value.oneCell']⟩, (⟨_, rfl, rfl⟩), rfl, (fun _ => rfl), (fun T h => by cases h; exact ⟨rfl, rfl, rfl⟩)⟩
theorem ti4 : TIok Try.prog 4 ⟨some .bool, .bool, 1, 1, [.bo false]⟩ := ⟨⟨_, _, rfl, rfl, rfl, rfl, rfl, rfl, by simp [Value.cells, Value.oneCell']⟩, (⟨_, rfl, rfl⟩), rfl, (fun _ => rfl), (fun T h => by cases h; exact ⟨rfl, rfl, rfl⟩)⟩
theorem ti5 : TIok Try.prog 5 ⟨some (.int .u8), (.int .u8), 1, 1, [.u8 (0 : Int)]⟩ := ⟨⟨_, _, rfl, rfl, rfl, rfl, rfl, rfl, by simp [Value.cells, Value.oneCell']⟩, (⟨_, rfl, rfl⟩), rfl, (fun _ => rfl), (fun T h => by cases h; exact ⟨rfl, rfl, rfl⟩)⟩
theorem ti9 : TIok Try.prog 9 ⟨some .str, .str, 1, 16, [.st ([] : List UInt8)]⟩ := ⟨⟨_, _, rfl, rfl, rfl, rfl, rfl, rfl, by simp [Value.cells, Value.oneCell']⟩, (⟨_, rfl, rfl⟩), rfl, (fun _ => rfl), (fun T h => by cases h; exact ⟨rfl, rfl, rfl⟩)⟩
theorem ti20 : TIok Try.prog 20 ⟨none, .other, 1, 16, [.lit .nilIface]⟩ := ⟨⟨_, _, rfl, rfl, rfl, rfl, rfl, rfl, by simp [Value.cells, Value.oneCell']⟩, (⟨_, rfl, rfl⟩), rfl, (fun _ => rfl), (fun T h => by cases h)⟩
theorem ti23 : TIok Try.prog 23 ⟨some (.int .u8), (.int .u8), 1, 1, [.u8 (0 : Int)]⟩ := ⟨⟨_, _, rfl, rfl, rfl, rfl, rfl, rfl, by simp [Value.cells, Value.oneCell']⟩, (⟨_, rfl, rfl⟩), rfl, (fun _ => rfl), (fun T h => by cases h; exact ⟨rfl, rfl, rfl⟩)⟩
theorem ti24 : TIok Try.prog 24 ⟨some (.int .u32), (.int .u32), 1, 4, [.u32 (0 : Int)]⟩ := ⟨⟨_, _, rfl, rfl, rfl, rfl, rfl, rfl, by simp [Value.cells, Value.oneCell']⟩, (⟨_, rfl, rfl⟩), rfl, (fun _ => rfl), (fun T h => by cases h; exact ⟨rfl, rfl, rfl⟩)⟩
theorem ti25 : TIok Try.prog 25 ⟨some (.slice (.tree .u8 .u32)), (.sl 27), 1, 24, [.nils]⟩ := ⟨⟨_, _, rfl, rfl, rfl, rfl, rfl, rfl, by simp [Value.cells, Value.oneCell']⟩, (⟨_, rfl, rfl⟩), rfl, (fun _ => rfl), (fun T h => by cases h; exact ⟨rfl, rfl, rfl⟩)⟩
theorem ti27 : TIok Try.prog 27 ⟨some (.tree .u8 .u32), (.st [(0, 23), (1, 24), (2, 25)]), 3, 32, [.u8 (0 : Int), .u32 (0 : Int), .nils]⟩ := ⟨⟨_, _, rfl, rfl, rfl, rfl, rfl, rfl, by simp [Value.cells, Value.oneCell']⟩, (⟨_, rfl, _, rfl, rfl, by
    intro f hf
    simp only [List.mem_cons, List.not_mem_nil, or_false] at hf
    rcases hf with rfl | rfl | rfl <;> exact ⟨_, rfl, by decide⟩⟩), rfl, (fun h => by cases h), (fun T h => by cases h; exact ⟨rfl, rfl, rfl⟩)⟩
theorem ti28 : TIok Try.prog 28 ⟨some (.slice (.slice (.int .i64))), (.sl 36), 1, 24, [.nils]⟩ := ⟨⟨_, _, rfl, rfl, rfl, rfl, rfl, rfl, by simp [Value.cells, Value.oneCell']⟩, (⟨_, rfl, rfl⟩), rfl, (fun _ => rfl), (fun T h => by cases h; exact ⟨rfl, rfl, rfl⟩)⟩
theorem ti29 : TIok Try.prog 29 ⟨some (.slice (.int .u32)), (.sl 24), 1, 24, [.nils]⟩ := ⟨⟨_, _, rfl, rfl, rfl, rfl, rfl, rfl, by simp [Value.cells, Value.oneCell']⟩, (⟨_, rfl, rfl⟩), rfl, (fun _ => rfl), (fun T h => by cases h; exact ⟨rfl, rfl, rfl⟩)⟩
theorem ti31 : TIok Try.prog 31 ⟨some Y1, (.st [(0, 28), (1, 29)]), 2, 48, [.nils, .nils]⟩ := ⟨⟨_, _, rfl, rfl, rfl, rfl, rfl, rfl, by simp [Value.cells, Value.oneCell']⟩, (⟨_, rfl, _, rfl, rfl, by
    intro f hf
    simp only [List.mem_cons, List.not_mem_nil, or_false] at hf
    rcases hf with rfl | rfl <;> exact ⟨_, rfl, by decide⟩⟩), rfl, (fun h => by cases h), (fun T h => by cases h; exact ⟨rfl, rfl, rfl⟩)⟩
theorem ti32 : TIok Try.prog 32 ⟨some (.int .i64), (.int .i64), 1, 8, [.i64 (0 : Int)]⟩ := ⟨⟨_, _, rfl, rfl, rfl, rfl, rfl, rfl, by simp [Value.cells, Value.oneCell']⟩, (⟨_, rfl, rfl⟩), rfl, (fun _ => rfl), (fun T h => by cases h; exact ⟨rfl, rfl, rfl⟩)⟩
theorem ti36 : TIok Try.prog 36 ⟨some (.slice (.int .i64)), (.sl 3), 1, 24, [.nils]⟩ := ⟨⟨_, _, rfl, rfl, rfl, rfl, rfl, rfl, by simp [Value.cells, Value.oneCell']⟩, (⟨_, rfl, rfl⟩), rfl, (fun _ => rfl), (fun T h => by cases h; exact ⟨rfl, rfl, rfl⟩)⟩
theorem ti39 : TIok Try.prog 39 ⟨some (.int .u64), (.int .u64), 1, 8, [.u64 (0 : Int)]⟩ := ⟨⟨_, _, rfl, rfl, rfl, rfl, rfl, rfl, by simp [Value.cells, Value.oneCell']⟩, (⟨_, rfl, rfl⟩), rfl, (fun _ => rfl), (fun T h => by cases h; exact ⟨rfl, rfl, rfl⟩)⟩
theorem ti42 : TIok Try.prog 42 ⟨some (.slice (.int .u8)), (.sl 5), 1, 24, [.nils]⟩ := ⟨⟨_, _, rfl, rfl, rfl, rfl, rfl, rfl, by simp [Value.cells, Value.oneCell']⟩, (⟨_, rfl, rfl⟩), rfl, (fun _ => rfl), (fun T h => by cases h; exact ⟨rfl, rfl, rfl⟩)⟩
theorem ti43 : TIok Try.prog 43 ⟨some (.slice (.prod (.int .u8) Y5)), (.sl 96), 1, 24, [.nils]⟩ := ⟨⟨_, _, rfl, rfl, rfl, rfl, rfl, rfl, by simp [Value.cells, Value.oneCell']⟩, (⟨_, rfl, rfl⟩), rfl, (fun _ => rfl), (fun T h => by cases h; exact ⟨rfl, rfl, rfl⟩)⟩
theorem ti45 : TIok Try.prog 45 ⟨some (.prod (.int .u8) Y12), (.st [(0, 5), (1, 5), (2, 5), (3, 42), (4, 43)]), 5, 56, [.u8 (0 : Int), .u8 (0 : Int), .u8 (0 : Int), .nils, .nils]⟩ := ⟨⟨_, _, rfl, rfl, rfl, rfl, rfl, rfl, by simp [Value.cells, Value.oneCell']⟩, (⟨_, rfl, _, rfl, rfl, by
    intro f hf
    simp only [List.mem_cons, List.not_mem_nil, or_false] at hf
    rcases hf with rfl | rfl | rfl | rfl | rfl <;> exact ⟨_, rfl, by decide⟩⟩), rfl, (fun h => by cases h), (fun T h => by cases h; exact ⟨rfl, rfl, rfl⟩)⟩
theorem ti53 : TIok Try.prog 53 ⟨none, .other, 1, 8, [.nilp]⟩ := ⟨⟨_, _, rfl, rfl, rfl, rfl, rfl, rfl, by simp [Value.cells, Value.oneCell']⟩, (⟨_, rfl, rfl⟩), rfl, (fun _ => rfl), (fun T h => by cases h)⟩
theorem ti54 : TIok Try.prog 54 ⟨some (.slice Y3), (.sl 60), 1, 24, [.nils]⟩ := ⟨⟨_, _, rfl, rfl, rfl, rfl, rfl, rfl, by simp [Value.cells, Value.oneCell']⟩, (⟨_, rfl, rfl⟩), rfl, (fun _ => rfl), (fun T h => by cases h; exact ⟨rfl, rfl, rfl⟩)⟩
theorem ti56 : TIok Try.prog 56 ⟨some Y14, (.st [(0, 29), (1, 54), (2, 4)]), 3, 56, [.nils, .nils, .bo false]⟩ := ⟨⟨_, _, rfl, rfl, rfl, rfl, rfl, rfl, by simp [Value.cells, Value.oneCell']⟩, (⟨_, rfl, _, rfl, rfl, by
    intro f hf
    simp only [List.mem_cons, List.not_mem_nil, or_false] at hf
    rcases hf with rfl | rfl | rfl <;> exact ⟨_, rfl, by decide⟩⟩), rfl, (fun h => by cases h), (fun T h => by cases h; exact ⟨rfl, rfl, rfl⟩)⟩
theorem ti57 : TIok Try.prog 57 ⟨some (.slice Y4), (.sl 62), 1, 24, [.nils]⟩ := ⟨⟨_, _, rfl, rfl, rfl, rfl, rfl, rfl, by simp [Value.cells, Value.oneCell']⟩, (⟨_, rfl, rfl⟩), rfl, (fun _ => rfl), (fun T h => by cases h; exact ⟨rfl, rfl, rfl⟩)⟩
theorem ti58 : TIok Try.prog 58 ⟨some (.int .u64), (.int .u64), 1, 8, [.u64 (0 : Int)]⟩ := ⟨⟨_, _, rfl, rfl, rfl, rfl, rfl, rfl, by simp [Value.cells, Value.oneCell']⟩, (⟨_, rfl, rfl⟩), rfl, (fun _ => rfl), (fun T h => by cases h; exact ⟨rfl, rfl, rfl⟩)⟩
theorem ti60 : TIok Try.prog 60 ⟨some Y3, (.ar 4 58), 4, 32, [.u64 (0 : Int), .u64 (0 : Int), .u64 (0 : Int), .u64 (0 : Int)]⟩ := ⟨⟨_, _, rfl, rfl, rfl, rfl, rfl, rfl, by simp [Value.cells, Value.oneCell']⟩, (⟨_, rfl, rfl⟩), rfl, (fun h => by cases h), (fun T h => by cases h; exact ⟨rfl, rfl, rfl⟩)⟩
theorem ti62 : TIok Try.prog 62 ⟨some Y4, (.st [(0, 4), (1, 60), (5, 60)]), 9, 72, [.bo false, .u64 (0 : Int), .u64 (0 : Int), .u64 (0 : Int), .u64 (0 : Int), .u64 (0 : Int), .u64 (0 : Int), .u64 (0 : Int), .u64 (0 : Int)]⟩ := ⟨⟨_, _, rfl, rfl, rfl, rfl, rfl, rfl, by simp [Value.cells, Value.oneCell']⟩, (⟨_, rfl, _, rfl, rfl, by
    intro f hf
    simp only [List.mem_cons, List.not_mem_nil, or_false] at hf
    rcases hf with rfl | rfl | rfl <;> exact ⟨_, rfl, by decide⟩⟩), rfl, (fun h => by cases h), (fun T h => by cases h; exact ⟨rfl, rfl, rfl⟩)⟩
theorem ti65 : TIok Try.prog 65 ⟨none, (.mp 60 3), 1, 8, [.unk]⟩ := ⟨⟨_, _, rfl, rfl, rfl, rfl, rfl, rfl, by simp [Value.cells, Value.oneCell']⟩, (⟨_, rfl, rfl⟩), rfl, (fun _ => rfl), (fun T h => by cases h)⟩
theorem ti70 : TIok Try.prog 70 ⟨some (.slice .str), (.sl 9), 1, 24, [.nils]⟩ := ⟨⟨_, _, rfl, rfl, rfl, rfl, rfl, rfl, by simp [Value.cells, Value.oneCell']⟩, (⟨_, rfl, rfl⟩), rfl, (fun _ => rfl), (fun T h => by cases h; exact ⟨rfl, rfl, rfl⟩)⟩
theorem ti71 : TIok Try.prog 71 ⟨some (.slice (.prod (.int .u8) Y6)), (.sl 81), 1, 24, [.nils]⟩ := ⟨⟨_, _, rfl, rfl, rfl, rfl, rfl, rfl, by simp [Value.cells, Value.oneCell']⟩, (⟨_, rfl, rfl⟩), rfl, (fun _ => rfl), (fun T h => by cases h; exact ⟨rfl, rfl, rfl⟩)⟩
theorem ti73 : TIok Try.prog 73 ⟨some Y9, (.st [(0, 70), (1, 24), (2, 24), (3, 36), (4, 71)]), 5, 80, [.nils, .u32 (0 : Int), .u32 (0 : Int), .nils, .nils]⟩ := ⟨⟨_, _, rfl, rfl, rfl, rfl, rfl, rfl, by simp [Value.cells, Value.oneCell']⟩, (⟨_, rfl, _, rfl, rfl, by
    intro f hf
    simp only [List.mem_cons, List.not_mem_nil, or_false] at hf
    rcases hf with rfl | rfl | rfl | rfl | rfl <;> exact ⟨_, rfl, by decide⟩⟩), rfl, (fun h => by cases h), (fun T h => by cases h; exact ⟨rfl, rfl, rfl⟩)⟩
theorem ti75 : TIok Try.prog 75 ⟨some Y10, (.st [(0, 32), (1, 3)]), 2, 16, [.i64 (0 : Int), .i64 (0 : Int)]⟩ := ⟨⟨_, _, rfl, rfl, rfl, rfl, rfl, rfl, by simp [Value.cells, Value.oneCell']⟩, (⟨_, rfl, _, rfl, rfl, by
    intro f hf
    simp only [List.mem_cons, List.not_mem_nil, or_false] at hf
    rcases hf with rfl | rfl <;> exact ⟨_, rfl, by decide⟩⟩), rfl, (fun h => by cases h), (fun T h => by cases h; exact ⟨rfl, rfl, rfl⟩)⟩
theorem ti79 : TIok Try.prog 79 ⟨some (.int .u8), (.int .u8), 1, 1, [.u8 (0 : Int)]⟩ := ⟨⟨_, _, rfl, rfl, rfl, rfl, rfl, rfl, by simp [Value.cells, Value.oneCell']⟩, (⟨_, rfl, rfl⟩), rfl, (fun _ => rfl), (fun T h => by cases h; exact ⟨rfl, rfl, rfl⟩)⟩
theorem ti81 : TIok Try.prog 81 ⟨some (.prod (.int .u8) Y6), (.st [(0, 79), (1, 27), (4, 27)]), 7, 72, [.u8 (0 : Int), .u8 (0 : Int), .u32 (0 : Int), .nils, .u8 (0 : Int), .u32 (0 : Int), .nils]⟩ := ⟨⟨_, _, rfl, rfl, rfl, rfl, rfl, rfl, by simp [Value.cells, Value.oneCell']⟩, (⟨_, rfl, _, rfl, rfl, by
    intro f hf
    simp only [List.mem_cons, List.not_mem_nil, or_false] at hf
    rcases hf with rfl | rfl | rfl <;> exact ⟨_, rfl, by decide⟩⟩), rfl, (fun h => by cases h), (fun T h => by cases h; exact ⟨rfl, rfl, rfl⟩)⟩
theorem ti82 : TIok Try.prog 82 ⟨some (.slice .bool), (.sl 4), 1, 24, [.nils]⟩ := ⟨⟨_, _, rfl, rfl, rfl, rfl, rfl, rfl, by simp [Value.cells, Value.oneCell']⟩, (⟨_, rfl, rfl⟩), rfl, (fun _ => rfl), (fun T h => by cases h; exact ⟨rfl, rfl, rfl⟩)⟩
theorem ti86 : TIok Try.prog 86 ⟨none, .other, 1, 8, [.nilp]⟩ := ⟨⟨_, _, rfl, rfl, rfl, rfl, rfl, rfl, by simp [Value.cells, Value.oneCell']⟩, (⟨_, rfl, rfl⟩), rfl, (fun _ => rfl), (fun T h => by cases h)⟩
theorem ti87 : TIok Try.prog 87 ⟨none, (.mp 9 24), 1, 8, [.unk]⟩ := ⟨⟨_, _, rfl, rfl, rfl, rfl, rfl, rfl, by simp [Value.cells, Value.oneCell']⟩, (⟨_, rfl, rfl⟩), rfl, (fun _ => rfl), (fun T h => by cases h)⟩
theorem ti89 : TIok Try.prog 89 ⟨none, (.st [(0, 9), (1, 3), (2, 73), (7, 87), (8, 3), (9, 3)]), 10, 128, [.st ([] : List UInt8), .i64 (0 : Int), .nils, .u32 (0 : Int), .u32 (0 : Int), .nils, .nils, .unk, .i64 (0 : Int), .i64 (0 : Int)]⟩ := ⟨⟨_, _, rfl, rfl, rfl, rfl, rfl, rfl, by simp [Value.cells, Value.oneCell']⟩, (⟨_, rfl, _, rfl, rfl, by
    intro f hf
    simp only [List.mem_cons, List.not_mem_nil, or_false] at hf
    rcases hf with rfl | rfl | rfl | rfl | rfl | rfl <;> exact ⟨_, rfl, by decide⟩⟩), rfl, (fun h => by cases h), (fun T h => by cases h)⟩
theorem ti96 : TIok Try.prog 96 ⟨some (.prod (.int .u8) Y5), (.st [(0, 5), (1, 42), (2, 42)]), 3, 56, [.u8 (0 : Int), .nils, .nils]⟩ := ⟨⟨_, _, rfl, rfl, rfl, rfl, rfl, rfl, by simp [Value.cells, Value.oneCell']⟩, (⟨_, rfl, _, rfl, rfl, by
    intro f hf
    simp only [List.mem_cons, List.not_mem_nil, or_false] at hf
    rcases hf with rfl | rfl | rfl <;> exact ⟨_, rfl, by decide⟩⟩), rfl, (fun h => by cases h), (fun T h => by cases h; exact ⟨rfl, rfl, rfl⟩)⟩
theorem ti100 : TIok Try.prog 100 ⟨none, .other, 1, 8, [.unk]⟩ := ⟨⟨_, _, rfl, rfl, rfl, rfl, rfl, rfl, by simp [Value.cells, Value.oneCell']⟩, (⟨_, rfl, rfl⟩), rfl, (fun _ => rfl), (fun T h => by cases h)⟩
theorem ti101 : TIok Try.prog 101 ⟨none, (.mp 9 100), 1, 8, [.unk]⟩ := ⟨⟨_, _, rfl, rfl, rfl, rfl, rfl, rfl, by simp [Value.cells, Value.oneCell']⟩, (⟨_, rfl, rfl⟩), rfl, (fun _ => rfl), (fun T h => by cases h)⟩
theorem ti102 : TIok Try.prog 102 ⟨none, (.mp 9 79), 1, 8, [.unk]⟩ := ⟨⟨_, _, rfl, rfl, rfl, rfl, rfl, rfl, by simp [Value.cells, Value.oneCell']⟩, (⟨_, rfl, rfl⟩), rfl, (fun _ => rfl), (fun T h => by cases h)⟩
theorem ti110 : TIok Try.prog 110 ⟨none, .other, 1, 8, [.nilp]⟩ := ⟨⟨_, _, rfl, rfl, rfl, rfl, rfl, rfl, by simp [Value.cells, Value.oneCell']⟩, (⟨_, rfl, rfl⟩), rfl, (fun _ => rfl), (fun T h => by cases h)⟩
theorem ti112 : TIok Try.prog 112 ⟨some Y15, (.st [(0, 42), (1, 3)]), 2, 32, [.nils, .i64 (0 : Int)]⟩ := ⟨⟨_, _, rfl, rfl, rfl, rfl, rfl, rfl, by simp [Value.cells, Value.oneCell']⟩, (⟨_, rfl, _, rfl, rfl, by
    intro f hf
    simp only [List.mem_cons, List.not_mem_nil, or_false] at hf
    rcases hf with rfl | rfl <;> exact ⟨_, rfl, by decide⟩⟩), rfl, (fun h => by cases h), (fun T h => by cases h; exact ⟨rfl, rfl, rfl⟩)⟩
theorem ti121 : TIok Try.prog 121 ⟨some (.prod (.int .u8) Y18), (.ar 7 5), 7, 7, [.u8 (0 : Int), .u8 (0 : Int), .u8 (0 : Int), .u8 (0 : Int), .u8 (0 : Int), .u8 (0 : Int), .u8 (0 : Int)]⟩ := ⟨⟨_, _, rfl, rfl, rfl, rfl, rfl, rfl, by simp [Value.cells, Value.oneCell']⟩, (⟨_, rfl, rfl⟩), rfl, (fun h => by cases h), (fun T h => by cases h; exact ⟨rfl, rfl, rfl⟩)⟩
theorem tbok : TabOK Try.prog tb := by
  intro p hp
  simp only [tb, List.mem_cons, List.not_mem_nil, or_false] at hp
  rcases hp with rfl | rfl | rfl | rfl | rfl | rfl | rfl | rfl | rfl | rfl | rfl | rfl | rfl | rfl | rfl | rfl | rfl | rfl | rfl | rfl | rfl | rfl | rfl | rfl | rfl | rfl | rfl | rfl | rfl | rfl | rfl | rfl | rfl | rfl | rfl | rfl | rfl | rfl | rfl | rfl | rfl | rfl | rfl
  · exact ti3
  · exact ti4
  · exact ti5
  · exact ti9
  · exact ti20
  · exact ti23
  · exact ti24
  · exact ti25
  · exact ti27
  · exact ti28
  · exact ti29
  · exact ti31
  · exact ti32
  · exact ti36
  · exact ti39
  · exact ti42
  · exact ti43
  · exact ti45
  · exact ti53
  · exact ti54
  · exact ti56
  · exact ti57
  · exact ti58
  · exact ti60
  · exact ti62
  · exact ti65
  · exact ti70
  · exact ti71
  · exact ti73
  · exact ti75
  · exact ti79
  · exact ti81
  · exact ti82
  · exact ti86
  · exact ti87
  · exact ti89
  · exact ti96
  · exact ti100
  · exact ti101
  · exact ti102
  · exact ti110
  · exact ti112
  · exact ti121
theorem key60 : KeyOk Try.prog 60 Y3 := KeyOk.of_ints (e := 58) rfl rfl rfl (by kernel_rfl) rfl rfl rfl
theorem mixed : Try.prog.follows .mixedOrders = true := by kernel_rfl
section
variable {n : NS} {Bw : Nat → Prop} {w0 : Base} {σ : St} {Q : Exit → St → Prop} {id : Nat} {ops : Array Oper} {d : Code} {fid : FuncId} {args : List AVal} {hin hout : List (Nat × Tv.Obj)} {r : AVal} {y : Value}
theorem Ge (hq : ∀ σ', Le n σ' (nextG Try.prog tb a0 n ops σ) → Q .normal σ') (h : condG Try.prog tb a0 n ops σ = some (cP ops.size 0 []) := by kernel_rfl) : W Try.prog n Bw w0 (.region id ops false) σ Q := W_ge tbok a0 [] h hq
theorem GNe (an : An) (cs : List (Nat × Nat × PP)) (hq : ∀ σ', Le n σ' (nextG Try.prog tb an n ops σ) → Q .normal σ') (h : condG Try.prog tb an n ops σ = some (cP ops.size 0 cs) := by kernel_rfl) : W Try.prog n Bw w0 (.region id ops false) σ Q := W_ge tbok an cs h hq
theorem GDe (an : An) (cs : List (Nat × Nat × PP)) (hq : ∀ σ', Le n σ' (nextD Try.prog tb an n ops σ) → Q .normal σ') (h : condD Try.prog tb an n ops σ = some (cP ops.size 0 cs) := by kernel_rfl) : W Try.prog n Bw w0 (.region id ops true) σ Q := W_de tbok mixed an cs h hq
theorem GCe (i : Nat) {α : Type} {p : Prop} [Decidable p] {u : Option α} {v : α} (h : (if p then u else none) = some v) (hq : u = some v → ∀ σ', Le n σ' (nextG Try.prog tb a0 n ops σ) → Q .normal σ') (hk : condG Try.prog tb a0 n ops σ = some (cG ops.size i p) := by kernel_rfl) : W Try.prog n Bw w0 (.region id ops false) σ Q := W_gce tbok i h hk hq
theorem GPe (i : Nat) (u : Pure Try.prog fid args r) (hq : ∀ σ', Le n σ' (nextG Try.prog tb ⟨[], [(i, oP u)]⟩ n ops σ) → Q .normal σ') (h : condG Try.prog tb ⟨[], [(i, oP u)]⟩ n ops σ = some (cP ops.size 0 [(i, i, oc u)]) := by kernel_rfl) : W Try.prog n Bw w0 (.region id ops false) σ Q := W_cPe tbok i u h hq
theorem GOe (i : Nat) (g : List Nat) (u : Owns Try.prog fid args hin r hout) (hq : ∀ σ', Le n σ' (nextG Try.prog tb ⟨[], [(i, oO u g)]⟩ n ops σ) → Q .normal σ') (h : condG Try.prog tb ⟨[], [(i, oO u g)]⟩ n ops σ = some (cP ops.size 0 [(i, i, oc u)]) := by kernel_rfl) : W Try.prog n Bw w0 (.region id ops false) σ Q := W_cOe tbok i g u h hq
theorem G (hq : W Try.prog n Bw w0 d (nextG Try.prog tb a0 n ops σ) Q) (h : condG Try.prog tb a0 n ops σ = some (cP ops.size 0 []) := by kernel_rfl) : W Try.prog n Bw w0 (.seq (.region id ops false) d) σ Q := W_g tbok a0 [] h hq
theorem GN (an : An) (cs : List (Nat × Nat × PP)) (hq : W Try.prog n Bw w0 d (nextG Try.prog tb an n ops σ) Q) (h : condG Try.prog tb an n ops σ = some (cP ops.size 0 cs) := by kernel_rfl) : W Try.prog n Bw w0 (.seq (.region id ops false) d) σ Q := W_g tbok an cs h hq
theorem GD (an : An) (cs : List (Nat × Nat × PP)) (hq : W Try.prog n Bw w0 d (nextD Try.prog tb an n ops σ) Q) (h : condD Try.prog tb an n ops σ = some (cP ops.size 0 cs) := by kernel_rfl) : W Try.prog n Bw w0 (.seq (.region id ops true) d) σ Q := W_d tbok mixed an cs h hq
theorem GC (i : Nat) {α : Type} {p : Prop} [Decidable p] {u : Option α} {v : α} (h : (if p then u else none) = some v) (hq : u = some v → W Try.prog n Bw w0 d (nextG Try.prog tb a0 n ops σ) Q) (hk : condG Try.prog tb a0 n ops σ = some (cG ops.size i p) := by kernel_rfl) : W Try.prog n Bw w0 (.seq (.region id ops false) d) σ Q := W_gc tbok i h hk hq
theorem GP (i : Nat) (u : Pure Try.prog fid args r) (hq : W Try.prog n Bw w0 d (nextG Try.prog tb ⟨[], [(i, oP u)]⟩ n ops σ) Q) (h : condG Try.prog tb ⟨[], [(i, oP u)]⟩ n ops σ = some (cP ops.size 0 [(i, i, oc u)]) := by kernel_rfl) : W Try.prog n Bw w0 (.seq (.region id ops false) d) σ Q := W_cP tbok i u h hq
theorem GO (i : Nat) (g : List Nat) (u : Owns Try.prog fid args hin r hout) (hq : W Try.prog n Bw w0 d (nextG Try.prog tb ⟨[], [(i, oO u g)]⟩ n ops σ) Q) (h : condG Try.prog tb ⟨[], [(i, oO u g)]⟩ n ops σ = some (cP ops.size 0 [(i, i, oc u)]) := by kernel_rfl) : W Try.prog n Bw w0 (.seq (.region id ops false) d) σ Q := W_cO tbok i g u h hq
theorem GX (i : Nat) (g : List Nat) (u : Dies Try.prog fid args hin y) (hq : ∀ σ', Q (.panic [{ v := y, recovered := false }]) σ') (h : condX Try.prog tb ⟨[], [(i, oD u g)]⟩ n ops i σ = some (cP (i + 1) 0 [(i, i, oc u)], y) := by kernel_rfl) : W Try.prog n Bw w0 (.region id ops false) σ Q := W_cX tbok i g u h hq
theorem GXn (u : Dies Try.prog fid args hin y) (an : An) (i : Nat) (cs : List (Nat × Nat × PP)) (hq : ∀ σ', Q (.panic [{ v := y, recovered := false }]) σ') (h : condX Try.prog tb an n ops i σ = some (cP (i + 1) 0 cs, y) := by kernel_rfl) : W Try.prog n Bw w0 (.region id ops false) σ Q := W_x tbok u an i cs h hq
end
end
end Go.Proofs.Ytnjdmbifjbahdaa.T
