/- Functions of the program as functions on data, and that the program's own come to them. -/
import Derived.Test.YtcdmdcfpjeomfaaTvS
import Derived.Test.YtcdmdcfpjeomfaaProg
import Derived.KernelRfl
namespace Go.Proofs.Ytcdmdcfpjeomfaa.T
open Go Go.Tv Go.Proofs
noncomputable section

def tb : Tab := [
  (3, ⟨some (.int .i64), (.int .i64), 1, 8, [.p false (.int .i64) (0 : Int)]⟩),
  (4, ⟨some .bool, .bool, 1, 1, [.p false .bool false]⟩),
  (5, ⟨some (.int .u8), (.int .u8), 1, 1, [.p false (.int .u8) (0 : Int)]⟩),
  (9, ⟨some .str, .str, 1, 16, [.p false .str ([] : List UInt8)]⟩),
  (21, ⟨some (.int .i32), (.int .i32), 1, 4, [.p false (.int .i32) (0 : Int)]⟩),
  (24, ⟨some (.slice .str), (.sl 9), 1, 24, [.nils]⟩),
  (26, ⟨some (.slice (.prod (.slice (.int .i32)) (.slice (.int .u8)))), (.sl 37), 1, 24, [.nils]⟩),
  (28, ⟨some (.prod (.slice (.prod (.slice (.int .i32)) (.slice (.int .u8)))) (.slice (.prod (.slice (.int .i32)) (.slice (.int .u8))))), (.st [(0, 26), (1, 26)]), 2, 48, [.nils, .nils]⟩),
  (29, ⟨some (.int .i64), (.int .i64), 1, 8, [.p false (.int .i64) (0 : Int)]⟩),
  (31, ⟨some (.prod (.int .i64) (.int .i64)), (.st [(0, 29), (1, 3)]), 2, 16, [.p false (.int .i64) (0 : Int), .p false (.int .i64) (0 : Int)]⟩),
  (34, ⟨some (.slice (.int .i32)), (.sl 21), 1, 24, [.nils]⟩),
  (35, ⟨some (.slice (.int .u8)), (.sl 5), 1, 24, [.nils]⟩),
  (37, ⟨some (.prod (.slice (.int .i32)) (.slice (.int .u8))), (.st [(0, 34), (1, 35)]), 2, 48, [.nils, .nils]⟩),
  (44, ⟨some (.slice (.prod (.int .i32) (.prod (.int .i64) (.int .i64)))), (.sl 48), 1, 24, [.nils]⟩),
  (48, ⟨some (.prod (.int .i32) (.prod (.int .i64) (.int .i64))), (.st [(0, 21), (1, 3), (2, 3)]), 3, 24, [.p false (.int .i32) (0 : Int), .p false (.int .i64) (0 : Int), .p false (.int .i64) (0 : Int)]⟩),
  (54, ⟨none, .other, 1, 8, [.unk]⟩),
  (58, ⟨none, .other, 1, 8, [.unk]⟩)]

theorem ti3 : TIok Try.prog 3 ⟨some (.int .i64), (.int .i64), 1, 8, [.p false (.int .i64) (0 : Int)]⟩ where
  hi := ⟨_, _, rfl, rfl, rfl, rfl, rfl, rfl, by simp [Value.cells, Value.oneCell']⟩
  hu := ⟨_, rfl, rfl⟩
  hz := rfl
  ha := fun _ => rfl
  hT := fun T h => by cases h; exact ⟨rfl, rfl, rfl⟩

theorem ti4 : TIok Try.prog 4 ⟨some .bool, .bool, 1, 1, [.p false .bool false]⟩ where
  hi := ⟨_, _, rfl, rfl, rfl, rfl, rfl, rfl, by simp [Value.cells, Value.oneCell']⟩
  hu := ⟨_, rfl, rfl⟩
  hz := rfl
  ha := fun _ => rfl
  hT := fun T h => by cases h; exact ⟨rfl, rfl, rfl⟩

theorem ti5 : TIok Try.prog 5 ⟨some (.int .u8), (.int .u8), 1, 1, [.p false (.int .u8) (0 : Int)]⟩ where
  hi := ⟨_, _, rfl, rfl, rfl, rfl, rfl, rfl, by simp [Value.cells, Value.oneCell']⟩
  hu := ⟨_, rfl, rfl⟩
  hz := rfl
  ha := fun _ => rfl
  hT := fun T h => by cases h; exact ⟨rfl, rfl, rfl⟩

theorem ti9 : TIok Try.prog 9 ⟨some .str, .str, 1, 16, [.p false .str ([] : List UInt8)]⟩ where
  hi := ⟨_, _, rfl, rfl, rfl, rfl, rfl, rfl, by simp [Value.cells, Value.oneCell']⟩
  hu := ⟨_, rfl, rfl⟩
  hz := rfl
  ha := fun _ => rfl
  hT := fun T h => by cases h; exact ⟨rfl, rfl, rfl⟩

theorem ti21 : TIok Try.prog 21 ⟨some (.int .i32), (.int .i32), 1, 4, [.p false (.int .i32) (0 : Int)]⟩ where
  hi := ⟨_, _, rfl, rfl, rfl, rfl, rfl, rfl, by simp [Value.cells, Value.oneCell']⟩
  hu := ⟨_, rfl, rfl⟩
  hz := rfl
  ha := fun _ => rfl
  hT := fun T h => by cases h; exact ⟨rfl, rfl, rfl⟩

theorem ti24 : TIok Try.prog 24 ⟨some (.slice .str), (.sl 9), 1, 24, [.nils]⟩ where
  hi := ⟨_, _, rfl, rfl, rfl, rfl, rfl, rfl, by simp [Value.cells, Value.oneCell']⟩
  hu := ⟨_, rfl, rfl⟩
  hz := rfl
  ha := fun _ => rfl
  hT := fun T h => by cases h; exact ⟨rfl, rfl, rfl⟩

theorem ti26 : TIok Try.prog 26 ⟨some (.slice (.prod (.slice (.int .i32)) (.slice (.int .u8)))), (.sl 37), 1, 24, [.nils]⟩ where
  hi := ⟨_, _, rfl, rfl, rfl, rfl, rfl, rfl, by simp [Value.cells, Value.oneCell']⟩
  hu := ⟨_, rfl, rfl⟩
  hz := rfl
  ha := fun _ => rfl
  hT := fun T h => by cases h; exact ⟨rfl, rfl, rfl⟩

theorem ti28 : TIok Try.prog 28 ⟨some (.prod (.slice (.prod (.slice (.int .i32)) (.slice (.int .u8)))) (.slice (.prod (.slice (.int .i32)) (.slice (.int .u8))))), (.st [(0, 26), (1, 26)]), 2, 48, [.nils, .nils]⟩ where
  hi := ⟨_, _, rfl, rfl, rfl, rfl, rfl, rfl, by simp [Value.cells, Value.oneCell']⟩
  hu := ⟨_, rfl, _, rfl, rfl, by
    intro f hf
    simp only [List.mem_cons, List.not_mem_nil, or_false] at hf
    rcases hf with rfl | rfl <;> exact ⟨_, rfl, by decide⟩⟩
  hz := rfl
  ha := fun h => by cases h
  hT := fun T h => by cases h; exact ⟨rfl, rfl, rfl⟩

theorem ti29 : TIok Try.prog 29 ⟨some (.int .i64), (.int .i64), 1, 8, [.p false (.int .i64) (0 : Int)]⟩ where
  hi := ⟨_, _, rfl, rfl, rfl, rfl, rfl, rfl, by simp [Value.cells, Value.oneCell']⟩
  hu := ⟨_, rfl, rfl⟩
  hz := rfl
  ha := fun _ => rfl
  hT := fun T h => by cases h; exact ⟨rfl, rfl, rfl⟩

theorem ti31 : TIok Try.prog 31 ⟨some (.prod (.int .i64) (.int .i64)), (.st [(0, 29), (1, 3)]), 2, 16, [.p false (.int .i64) (0 : Int), .p false (.int .i64) (0 : Int)]⟩ where
  hi := ⟨_, _, rfl, rfl, rfl, rfl, rfl, rfl, by simp [Value.cells, Value.oneCell']⟩
  hu := ⟨_, rfl, _, rfl, rfl, by
    intro f hf
    simp only [List.mem_cons, List.not_mem_nil, or_false] at hf
    rcases hf with rfl | rfl <;> exact ⟨_, rfl, by decide⟩⟩
  hz := rfl
  ha := fun h => by cases h
  hT := fun T h => by cases h; exact ⟨rfl, rfl, rfl⟩

theorem ti34 : TIok Try.prog 34 ⟨some (.slice (.int .i32)), (.sl 21), 1, 24, [.nils]⟩ where
  hi := ⟨_, _, rfl, rfl, rfl, rfl, rfl, rfl, by simp [Value.cells, Value.oneCell']⟩
  hu := ⟨_, rfl, rfl⟩
  hz := rfl
  ha := fun _ => rfl
  hT := fun T h => by cases h; exact ⟨rfl, rfl, rfl⟩

theorem ti35 : TIok Try.prog 35 ⟨some (.slice (.int .u8)), (.sl 5), 1, 24, [.nils]⟩ where
  hi := ⟨_, _, rfl, rfl, rfl, rfl, rfl, rfl, by simp [Value.cells, Value.oneCell']⟩
  hu := ⟨_, rfl, rfl⟩
  hz := rfl
  ha := fun _ => rfl
  hT := fun T h => by cases h; exact ⟨rfl, rfl, rfl⟩

theorem ti37 : TIok Try.prog 37 ⟨some (.prod (.slice (.int .i32)) (.slice (.int .u8))), (.st [(0, 34), (1, 35)]), 2, 48, [.nils, .nils]⟩ where
  hi := ⟨_, _, rfl, rfl, rfl, rfl, rfl, rfl, by simp [Value.cells, Value.oneCell']⟩
  hu := ⟨_, rfl, _, rfl, rfl, by
    intro f hf
    simp only [List.mem_cons, List.not_mem_nil, or_false] at hf
    rcases hf with rfl | rfl <;> exact ⟨_, rfl, by decide⟩⟩
  hz := rfl
  ha := fun h => by cases h
  hT := fun T h => by cases h; exact ⟨rfl, rfl, rfl⟩

theorem ti44 : TIok Try.prog 44 ⟨some (.slice (.prod (.int .i32) (.prod (.int .i64) (.int .i64)))), (.sl 48), 1, 24, [.nils]⟩ where
  hi := ⟨_, _, rfl, rfl, rfl, rfl, rfl, rfl, by simp [Value.cells, Value.oneCell']⟩
  hu := ⟨_, rfl, rfl⟩
  hz := rfl
  ha := fun _ => rfl
  hT := fun T h => by cases h; exact ⟨rfl, rfl, rfl⟩

theorem ti48 : TIok Try.prog 48 ⟨some (.prod (.int .i32) (.prod (.int .i64) (.int .i64))), (.st [(0, 21), (1, 3), (2, 3)]), 3, 24, [.p false (.int .i32) (0 : Int), .p false (.int .i64) (0 : Int), .p false (.int .i64) (0 : Int)]⟩ where
  hi := ⟨_, _, rfl, rfl, rfl, rfl, rfl, rfl, by simp [Value.cells, Value.oneCell']⟩
  hu := ⟨_, rfl, _, rfl, rfl, by
    intro f hf
    simp only [List.mem_cons, List.not_mem_nil, or_false] at hf
    rcases hf with rfl | rfl | rfl <;> exact ⟨_, rfl, by decide⟩⟩
  hz := rfl
  ha := fun h => by cases h
  hT := fun T h => by cases h; exact ⟨rfl, rfl, rfl⟩

theorem ti54 : TIok Try.prog 54 ⟨none, .other, 1, 8, [.unk]⟩ where
  hi := ⟨_, _, rfl, rfl, rfl, rfl, rfl, rfl, by simp [Value.cells, Value.oneCell']⟩
  hu := ⟨_, rfl, rfl⟩
  hz := rfl
  ha := fun _ => rfl
  hT := fun T h => by cases h

theorem ti58 : TIok Try.prog 58 ⟨none, .other, 1, 8, [.unk]⟩ where
  hi := ⟨_, _, rfl, rfl, rfl, rfl, rfl, rfl, by simp [Value.cells, Value.oneCell']⟩
  hu := ⟨_, rfl, rfl⟩
  hz := rfl
  ha := fun _ => rfl
  hT := fun T h => by cases h

theorem tbok : TabOK Try.prog tb := by
  intro p hp
  simp only [tb, List.mem_cons, List.not_mem_nil, or_false] at hp
  rcases hp with rfl | rfl | rfl | rfl | rfl | rfl | rfl | rfl | rfl | rfl | rfl | rfl | rfl | rfl | rfl | rfl | rfl
  · exact ti3
  · exact ti4
  · exact ti5
  · exact ti9
  · exact ti21
  · exact ti24
  · exact ti26
  · exact ti28
  · exact ti29
  · exact ti31
  · exact ti34
  · exact ti35
  · exact ti37
  · exact ti44
  · exact ti48
  · exact ti54
  · exact ti58

theorem eq31 : EqOk Try.prog 31 (.prod (.int .i64) (.int .i64)) := eqOk_of 8 (by decide) (by kernel_rfl) ⟨by kernel_rfl, rfl⟩

theorem mixed : Try.prog.follows .mixedOrders = true := by kernel_rfl

end
end Go.Proofs.Ytcdmdcfpjeomfaa.T
