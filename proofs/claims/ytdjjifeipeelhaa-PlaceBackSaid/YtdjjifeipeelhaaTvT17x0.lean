/- Functions of the program as functions on data, and that the program's own come to them. -/
import Derived.Test.YtdjjifeipeelhaaTvS
import Derived.Test.YtdjjifeipeelhaaProg
import Derived.KernelRfl
namespace Go.Proofs.Ytdjjifeipeelhaa.T
open Go Go.Tv Go.Proofs
noncomputable section

def tb : Tab := [
  (3, ⟨some (.int .i64), (.int .i64), 1, 8, [.p false (.int .i64) (0 : Int)]⟩),
  (4, ⟨some .bool, .bool, 1, 1, [.p false .bool false]⟩),
  (5, ⟨some (.int .u8), (.int .u8), 1, 1, [.p false (.int .u8) (0 : Int)]⟩),
  (23, ⟨some (.prod (.int .i64) (.int .i64)), (.st [(0, 3), (1, 3)]), 2, 16, [.p false (.int .i64) (0 : Int), .p false (.int .i64) (0 : Int)]⟩),
  (25, ⟨none, .other, 1, 8, [.nilp]⟩),
  (26, ⟨some (.int .i64), (.int .i64), 1, 8, [.p false (.int .i64) (0 : Int)]⟩),
  (33, ⟨some (.slice (.prod (.int .u8) (.prod (.int .u8) (.prod (.int .u8) (.int .u8))))), (.sl 65), 1, 24, [.nils]⟩),
  (34, ⟨some (.int .u16), (.int .u16), 1, 2, [.p false (.int .u16) (0 : Int)]⟩),
  (35, ⟨some .flt, .flt, 1, 8, [.p false .flt (0 : Nat)]⟩),
  (37, ⟨some (.prod (.int .u8) (.prod (.int .u8) (.prod (.int .u8) (.prod (.int .u16) (.prod (.int .u16) .flt))))), (.st [(0, 5), (1, 5), (2, 5), (3, 34), (4, 34), (5, 35)]), 6, 16, [.p false (.int .u8) (0 : Int), .p false (.int .u8) (0 : Int), .p false (.int .u8) (0 : Int), .p false (.int .u16) (0 : Int), .p false (.int .u16) (0 : Int), .p false .flt (0 : Nat)]⟩),
  (38, ⟨some (.slice (.prod (.int .i64) (.prod (.int .i64) (.prod (.int .i64) (.int .u8))))), (.sl 56), 1, 24, [.nils]⟩),
  (39, ⟨some (.slice (.int .u8)), (.sl 58), 1, 24, [.nils]⟩),
  (41, ⟨some (.prod (.slice (.prod (.int .i64) (.prod (.int .i64) (.prod (.int .i64) (.int .u8))))) (.slice (.int .u8))), (.st [(0, 38), (1, 39)]), 2, 48, [.nils, .nils]⟩),
  (42, ⟨some (.slice (.prod (.int .i64) (.prod (.int .i64) (.prod (.int .i64) (.int .u8))))), (.sl 60), 1, 24, [.nils]⟩),
  (45, ⟨some (.int .u64), (.int .u64), 1, 8, [.p false (.int .u64) (0 : Int)]⟩),
  (46, ⟨some (.slice (.int .i64)), (.sl 3), 1, 24, [.nils]⟩),
  (50, ⟨some (.slice (.prod (.int .i64) (.int .i64))), (.sl 23), 1, 24, [.nils]⟩),
  (54, ⟨some (.int .u8), (.int .u8), 1, 1, [.p false (.int .u8) (0 : Int)]⟩),
  (56, ⟨some (.prod (.int .i64) (.prod (.int .i64) (.prod (.int .i64) (.int .u8)))), (.st [(0, 3), (1, 3), (2, 3), (3, 54)]), 4, 32, [.p false (.int .i64) (0 : Int), .p false (.int .i64) (0 : Int), .p false (.int .i64) (0 : Int), .p false (.int .u8) (0 : Int)]⟩),
  (58, ⟨some (.int .u8), (.int .u8), 1, 1, [.p false (.int .u8) (0 : Int)]⟩),
  (60, ⟨some (.prod (.int .i64) (.prod (.int .i64) (.prod (.int .i64) (.int .u8)))), (.st [(0, 3), (1, 3), (2, 3), (3, 58)]), 4, 32, [.p false (.int .i64) (0 : Int), .p false (.int .i64) (0 : Int), .p false (.int .i64) (0 : Int), .p false (.int .u8) (0 : Int)]⟩),
  (65, ⟨some (.prod (.int .u8) (.prod (.int .u8) (.prod (.int .u8) (.int .u8)))), (.st [(0, 5), (1, 5), (2, 5), (3, 5)]), 4, 4, [.p false (.int .u8) (0 : Int), .p false (.int .u8) (0 : Int), .p false (.int .u8) (0 : Int), .p false (.int .u8) (0 : Int)]⟩),
  (68, ⟨some (.slice (.slice (.int .i64))), (.sl 46), 1, 24, [.nils]⟩),
  (70, ⟨some (.prod (.prod (.slice (.prod (.int .i64) (.prod (.int .i64) (.prod (.int .i64) (.int .u8))))) (.slice (.int .u8))) (.prod (.slice (.prod (.int .i64) (.prod (.int .i64) (.prod (.int .i64) (.int .u8))))) (.slice (.slice (.int .i64))))), (.st [(0, 41), (2, 42), (3, 68)]), 4, 96, [.nils, .nils, .nils, .nils]⟩),
  (71, ⟨none, .other, 1, 8, [.unk]⟩),
  (73, ⟨none, .other, 1, 8, [.unk]⟩),
  (75, ⟨none, .other, 1, 8, [.unk]⟩),
  (77, ⟨some (.int .u8), (.int .u8), 1, 1, [.p false (.int .u8) (0 : Int)]⟩),
  (79, ⟨some (.prod (.int .i64) (.prod (.int .i64) (.prod (.int .u8) (.prod (.int .i64) (.prod (.int .i64) .flt))))), (.st [(0, 3), (1, 3), (2, 77), (3, 3), (4, 3), (5, 35)]), 6, 48, [.p false (.int .i64) (0 : Int), .p false (.int .i64) (0 : Int), .p false (.int .u8) (0 : Int), .p false (.int .i64) (0 : Int), .p false (.int .i64) (0 : Int), .p false .flt (0 : Nat)]⟩)]

theorem ti3 : TIok Try.prog 3 ⟨some (.int .i64), (.int .i64), 1, 8, [.p false (.int .i64) (0 : Int)]⟩ where
  hi := ⟨_, _, rfl, rfl, rfl, rfl, rfl, rfl, by simp [Value.cells, Value.oneCell']⟩
  hu := ⟨_, rfl, rfl⟩
  hz := rfl
  ha := fun _ => rfl
  hT := fun T h => by cases h; exact ⟨rfl, rfl, rfl⟩

theorem ti4 : TIok Try.prog 4 ⟨some .bool, .bool, 1, 1, [.p false .bool false]⟩ where
  hi := ⟨_, _, rfl, rfl, rfl, rfl, rfl, rfl, by simp [Value.cells, Value.oneCell']⟩
  hu := ⟨_, rfl, rfl⟩
  hz := rfl
  ha := fun _ => rfl
  hT := fun T h => by cases h; exact ⟨rfl, rfl, rfl⟩

theorem ti5 : TIok Try.prog 5 ⟨some (.int .u8), (.int .u8), 1, 1, [.p false (.int .u8) (0 : Int)]⟩ where
  hi := ⟨_, _, rfl, rfl, rfl, rfl, rfl, rfl, by simp [Value.cells, Value.oneCell']⟩
  hu := ⟨_, rfl, rfl⟩
  hz := rfl
  ha := fun _ => rfl
  hT := fun T h => by cases h; exact ⟨rfl, rfl, rfl⟩

theorem ti23 : TIok Try.prog 23 ⟨some (.prod (.int .i64) (.int .i64)), (.st [(0, 3), (1, 3)]), 2, 16, [.p false (.int .i64) (0 : Int), .p false (.int .i64) (0 : Int)]⟩ where
  hi := ⟨_, _, rfl, rfl, rfl, rfl, rfl, rfl, by simp [Value.cells, Value.oneCell']⟩
  hu := ⟨_, rfl, _, rfl, rfl, by
    intro f hf
    simp only [List.mem_cons, List.not_mem_nil, or_false] at hf
    rcases hf with rfl | rfl <;> exact ⟨_, rfl, by decide⟩⟩
  hz := rfl
  ha := fun h => by cases h
  hT := fun T h => by cases h; exact ⟨rfl, rfl, rfl⟩

theorem ti25 : TIok Try.prog 25 ⟨none, .other, 1, 8, [.nilp]⟩ where
  hi := ⟨_, _, rfl, rfl, rfl, rfl, rfl, rfl, by simp [Value.cells, Value.oneCell']⟩
  hu := ⟨_, rfl, rfl⟩
  hz := rfl
  ha := fun _ => rfl
  hT := fun T h => by cases h

theorem ti26 : TIok Try.prog 26 ⟨some (.int .i64), (.int .i64), 1, 8, [.p false (.int .i64) (0 : Int)]⟩ where
  hi := ⟨_, _, rfl, rfl, rfl, rfl, rfl, rfl, by simp [Value.cells, Value.oneCell']⟩
  hu := ⟨_, rfl, rfl⟩
  hz := rfl
  ha := fun _ => rfl
  hT := fun T h => by cases h; exact ⟨rfl, rfl, rfl⟩

theorem ti33 : TIok Try.prog 33 ⟨some (.slice (.prod (.int .u8) (.prod (.int .u8) (.prod (.int .u8) (.int .u8))))), (.sl 65), 1, 24, [.nils]⟩ where
  hi := ⟨_, _, rfl, rfl, rfl, rfl, rfl, rfl, by simp [Value.cells, Value.oneCell']⟩
  hu := ⟨_, rfl, rfl⟩
  hz := rfl
  ha := fun _ => rfl
  hT := fun T h => by cases h; exact ⟨rfl, rfl, rfl⟩

theorem ti34 : TIok Try.prog 34 ⟨some (.int .u16), (.int .u16), 1, 2, [.p false (.int .u16) (0 : Int)]⟩ where
  hi := ⟨_, _, rfl, rfl, rfl, rfl, rfl, rfl, by simp [Value.cells, Value.oneCell']⟩
  hu := ⟨_, rfl, rfl⟩
  hz := rfl
  ha := fun _ => rfl
  hT := fun T h => by cases h; exact ⟨rfl, rfl, rfl⟩

theorem ti35 : TIok Try.prog 35 ⟨some .flt, .flt, 1, 8, [.p false .flt (0 : Nat)]⟩ where
  hi := ⟨_, _, rfl, rfl, rfl, rfl, rfl, rfl, by simp [Value.cells, Value.oneCell']⟩
  hu := ⟨_, rfl, rfl⟩
  hz := rfl
  ha := fun _ => rfl
  hT := fun T h => by cases h; exact ⟨rfl, rfl, rfl⟩

theorem ti37 : TIok Try.prog 37 ⟨some (.prod (.int .u8) (.prod (.int .u8) (.prod (.int .u8) (.prod (.int .u16) (.prod (.int .u16) .flt))))), (.st [(0, 5), (1, 5), (2, 5), (3, 34), (4, 34), (5, 35)]), 6, 16, [.p false (.int .u8) (0 : Int), .p false (.int .u8) (0 : Int), .p false (.int .u8) (0 : Int), .p false (.int .u16) (0 : Int), .p false (.int .u16) (0 : Int), .p false .flt (0 : Nat)]⟩ where
  hi := ⟨_, _, rfl, rfl, rfl, rfl, rfl, rfl, by simp [Value.cells, Value.oneCell']⟩
  hu := ⟨_, rfl, _, rfl, rfl, by
    intro f hf
    simp only [List.mem_cons, List.not_mem_nil, or_false] at hf
    rcases hf with rfl | rfl | rfl | rfl | rfl | rfl <;> exact ⟨_, rfl, by decide⟩⟩
  hz := rfl
  ha := fun h => by cases h
  hT := fun T h => by cases h; exact ⟨rfl, rfl, rfl⟩

theorem ti38 : TIok Try.prog 38 ⟨some (.slice (.prod (.int .i64) (.prod (.int .i64) (.prod (.int .i64) (.int .u8))))), (.sl 56), 1, 24, [.nils]⟩ where
  hi := ⟨_, _, rfl, rfl, rfl, rfl, rfl, rfl, by simp [Value.cells, Value.oneCell']⟩
  hu := ⟨_, rfl, rfl⟩
  hz := rfl
  ha := fun _ => rfl
  hT := fun T h => by cases h; exact ⟨rfl, rfl, rfl⟩

theorem ti39 : TIok Try.prog 39 ⟨some (.slice (.int .u8)), (.sl 58), 1, 24, [.nils]⟩ where
  hi := ⟨_, _, rfl, rfl, rfl, rfl, rfl, rfl, by simp [Value.cells, Value.oneCell']⟩
  hu := ⟨_, rfl, rfl⟩
  hz := rfl
  ha := fun _ => rfl
  hT := fun T h => by cases h; exact ⟨rfl, rfl, rfl⟩

theorem ti41 : TIok Try.prog 41 ⟨some (.prod (.slice (.prod (.int .i64) (.prod (.int .i64) (.prod (.int .i64) (.int .u8))))) (.slice (.int .u8))), (.st [(0, 38), (1, 39)]), 2, 48, [.nils, .nils]⟩ where
  hi := ⟨_, _, rfl, rfl, rfl, rfl, rfl, rfl, by simp [Value.cells, Value.oneCell']⟩
  hu := ⟨_, rfl, _, rfl, rfl, by
    intro f hf
    simp only [List.mem_cons, List.not_mem_nil, or_false] at hf
    rcases hf with rfl | rfl <;> exact ⟨_, rfl, by decide⟩⟩
  hz := rfl
  ha := fun h => by cases h
  hT := fun T h => by cases h; exact ⟨rfl, rfl, rfl⟩

theorem ti42 : TIok Try.prog 42 ⟨some (.slice (.prod (.int .i64) (.prod (.int .i64) (.prod (.int .i64) (.int .u8))))), (.sl 60), 1, 24, [.nils]⟩ where
  hi := ⟨_, _, rfl, rfl, rfl, rfl, rfl, rfl, by simp [Value.cells, Value.oneCell']⟩
  hu := ⟨_, rfl, rfl⟩
  hz := rfl
  ha := fun _ => rfl
  hT := fun T h => by cases h; exact ⟨rfl, rfl, rfl⟩

theorem ti45 : TIok Try.prog 45 ⟨some (.int .u64), (.int .u64), 1, 8, [.p false (.int .u64) (0 : Int)]⟩ where
  hi := ⟨_, _, rfl, rfl, rfl, rfl, rfl, rfl, by simp [Value.cells, Value.oneCell']⟩
  hu := ⟨_, rfl, rfl⟩
  hz := rfl
  ha := fun _ => rfl
  hT := fun T h => by cases h; exact ⟨rfl, rfl, rfl⟩

theorem ti46 : TIok Try.prog 46 ⟨some (.slice (.int .i64)), (.sl 3), 1, 24, [.nils]⟩ where
  hi := ⟨_, _, rfl, rfl, rfl, rfl, rfl, rfl, by simp [Value.cells, Value.oneCell']⟩
  hu := ⟨_, rfl, rfl⟩
  hz := rfl
  ha := fun _ => rfl
  hT := fun T h => by cases h; exact ⟨rfl, rfl, rfl⟩

theorem ti50 : TIok Try.prog 50 ⟨some (.slice (.prod (.int .i64) (.int .i64))), (.sl 23), 1, 24, [.nils]⟩ where
  hi := ⟨_, _, rfl, rfl, rfl, rfl, rfl, rfl, by simp [Value.cells, Value.oneCell']⟩
  hu := ⟨_, rfl, rfl⟩
  hz := rfl
  ha := fun _ => rfl
  hT := fun T h => by cases h; exact ⟨rfl, rfl, rfl⟩

theorem ti54 : TIok Try.prog 54 ⟨some (.int .u8), (.int .u8), 1, 1, [.p false (.int .u8) (0 : Int)]⟩ where
  hi := ⟨_, _, rfl, rfl, rfl, rfl, rfl, rfl, by simp [Value.cells, Value.oneCell']⟩
  hu := ⟨_, rfl, rfl⟩
  hz := rfl
  ha := fun _ => rfl
  hT := fun T h => by cases h; exact ⟨rfl, rfl, rfl⟩

theorem ti56 : TIok Try.prog 56 ⟨some (.prod (.int .i64) (.prod (.int .i64) (.prod (.int .i64) (.int .u8)))), (.st [(0, 3), (1, 3), (2, 3), (3, 54)]), 4, 32, [.p false (.int .i64) (0 : Int), .p false (.int .i64) (0 : Int), .p false (.int .i64) (0 : Int), .p false (.int .u8) (0 : Int)]⟩ where
  hi := ⟨_, _, rfl, rfl, rfl, rfl, rfl, rfl, by simp [Value.cells, Value.oneCell']⟩
  hu := ⟨_, rfl, _, rfl, rfl, by
    intro f hf
    simp only [List.mem_cons, List.not_mem_nil, or_false] at hf
    rcases hf with rfl | rfl | rfl | rfl <;> exact ⟨_, rfl, by decide⟩⟩
  hz := rfl
  ha := fun h => by cases h
  hT := fun T h => by cases h; exact ⟨rfl, rfl, rfl⟩

theorem ti58 : TIok Try.prog 58 ⟨some (.int .u8), (.int .u8), 1, 1, [.p false (.int .u8) (0 : Int)]⟩ where
  hi := ⟨_, _, rfl, rfl, rfl, rfl, rfl, rfl, by simp [Value.cells, Value.oneCell']⟩
  hu := ⟨_, rfl, rfl⟩
  hz := rfl
  ha := fun _ => rfl
  hT := fun T h => by cases h; exact ⟨rfl, rfl, rfl⟩

theorem ti60 : TIok Try.prog 60 ⟨some (.prod (.int .i64) (.prod (.int .i64) (.prod (.int .i64) (.int .u8)))), (.st [(0, 3), (1, 3), (2, 3), (3, 58)]), 4, 32, [.p false (.int .i64) (0 : Int), .p false (.int .i64) (0 : Int), .p false (.int .i64) (0 : Int), .p false (.int .u8) (0 : Int)]⟩ where
  hi := ⟨_, _, rfl, rfl, rfl, rfl, rfl, rfl, by simp [Value.cells, Value.oneCell']⟩
  hu := ⟨_, rfl, _, rfl, rfl, by
    intro f hf
    simp only [List.mem_cons, List.not_mem_nil, or_false] at hf
    rcases hf with rfl | rfl | rfl | rfl <;> exact ⟨_, rfl, by decide⟩⟩
  hz := rfl
  ha := fun h => by cases h
  hT := fun T h => by cases h; exact ⟨rfl, rfl, rfl⟩

theorem ti65 : TIok Try.prog 65 ⟨some (.prod (.int .u8) (.prod (.int .u8) (.prod (.int .u8) (.int .u8)))), (.st [(0, 5), (1, 5), (2, 5), (3, 5)]), 4, 4, [.p false (.int .u8) (0 : Int), .p false (.int .u8) (0 : Int), .p false (.int .u8) (0 : Int), .p false (.int .u8) (0 : Int)]⟩ where
  hi := ⟨_, _, rfl, rfl, rfl, rfl, rfl, rfl, by simp [Value.cells, Value.oneCell']⟩
  hu := ⟨_, rfl, _, rfl, rfl, by
    intro f hf
    simp only [List.mem_cons, List.not_mem_nil, or_false] at hf
    rcases hf with rfl | rfl | rfl | rfl <;> exact ⟨_, rfl, by decide⟩⟩
  hz := rfl
  ha := fun h => by cases h
  hT := fun T h => by cases h; exact ⟨rfl, rfl, rfl⟩

theorem ti68 : TIok Try.prog 68 ⟨some (.slice (.slice (.int .i64))), (.sl 46), 1, 24, [.nils]⟩ where
  hi := ⟨_, _, rfl, rfl, rfl, rfl, rfl, rfl, by simp [Value.cells, Value.oneCell']⟩
  hu := ⟨_, rfl, rfl⟩
  hz := rfl
  ha := fun _ => rfl
  hT := fun T h => by cases h; exact ⟨rfl, rfl, rfl⟩

theorem ti70 : TIok Try.prog 70 ⟨some (.prod (.prod (.slice (.prod (.int .i64) (.prod (.int .i64) (.prod (.int .i64) (.int .u8))))) (.slice (.int .u8))) (.prod (.slice (.prod (.int .i64) (.prod (.int .i64) (.prod (.int .i64) (.int .u8))))) (.slice (.slice (.int .i64))))), (.st [(0, 41), (2, 42), (3, 68)]), 4, 96, [.nils, .nils, .nils, .nils]⟩ where
  hi := ⟨_, _, rfl, rfl, rfl, rfl, rfl, rfl, by simp [Value.cells, Value.oneCell']⟩
  hu := ⟨_, rfl, _, rfl, rfl, by
    intro f hf
    simp only [List.mem_cons, List.not_mem_nil, or_false] at hf
    rcases hf with rfl | rfl | rfl <;> exact ⟨_, rfl, by decide⟩⟩
  hz := rfl
  ha := fun h => by cases h
  hT := fun T h => by cases h; exact ⟨rfl, rfl, rfl⟩

theorem ti71 : TIok Try.prog 71 ⟨none, .other, 1, 8, [.unk]⟩ where
  hi := ⟨_, _, rfl, rfl, rfl, rfl, rfl, rfl, by simp [Value.cells, Value.oneCell']⟩
  hu := ⟨_, rfl, rfl⟩
  hz := rfl
  ha := fun _ => rfl
  hT := fun T h => by cases h

theorem ti73 : TIok Try.prog 73 ⟨none, .other, 1, 8, [.unk]⟩ where
  hi := ⟨_, _, rfl, rfl, rfl, rfl, rfl, rfl, by simp [Value.cells, Value.oneCell']⟩
  hu := ⟨_, rfl, rfl⟩
  hz := rfl
  ha := fun _ => rfl
  hT := fun T h => by cases h

theorem ti75 : TIok Try.prog 75 ⟨none, .other, 1, 8, [.unk]⟩ where
  hi := ⟨_, _, rfl, rfl, rfl, rfl, rfl, rfl, by simp [Value.cells, Value.oneCell']⟩
  hu := ⟨_, rfl, rfl⟩
  hz := rfl
  ha := fun _ => rfl
  hT := fun T h => by cases h

theorem ti77 : TIok Try.prog 77 ⟨some (.int .u8), (.int .u8), 1, 1, [.p false (.int .u8) (0 : Int)]⟩ where
  hi := ⟨_, _, rfl, rfl, rfl, rfl, rfl, rfl, by simp [Value.cells, Value.oneCell']⟩
  hu := ⟨_, rfl, rfl⟩
  hz := rfl
  ha := fun _ => rfl
  hT := fun T h => by cases h; exact ⟨rfl, rfl, rfl⟩

theorem ti79 : TIok Try.prog 79 ⟨some (.prod (.int .i64) (.prod (.int .i64) (.prod (.int .u8) (.prod (.int .i64) (.prod (.int .i64) .flt))))), (.st [(0, 3), (1, 3), (2, 77), (3, 3), (4, 3), (5, 35)]), 6, 48, [.p false (.int .i64) (0 : Int), .p false (.int .i64) (0 : Int), .p false (.int .u8) (0 : Int), .p false (.int .i64) (0 : Int), .p false (.int .i64) (0 : Int), .p false .flt (0 : Nat)]⟩ where
  hi := ⟨_, _, rfl, rfl, rfl, rfl, rfl, rfl, by simp [Value.cells, Value.oneCell']⟩
  hu := ⟨_, rfl, _, rfl, rfl, by
    intro f hf
    simp only [List.mem_cons, List.not_mem_nil, or_false] at hf
    rcases hf with rfl | rfl | rfl | rfl | rfl | rfl <;> exact ⟨_, rfl, by decide⟩⟩
  hz := rfl
  ha := fun h => by cases h
  hT := fun T h => by cases h; exact ⟨rfl, rfl, rfl⟩

theorem tbok : TabOK Try.prog tb := by
  intro p hp
  simp only [tb, List.mem_cons, List.not_mem_nil, or_false] at hp
  rcases hp with rfl | rfl | rfl | rfl | rfl | rfl | rfl | rfl | rfl | rfl | rfl | rfl | rfl | rfl | rfl | rfl | rfl | rfl | rfl | rfl | rfl | rfl | rfl | rfl | rfl | rfl | rfl | rfl | rfl
  · exact ti3
  · exact ti4
  · exact ti5
  · exact ti23
  · exact ti25
  · exact ti26
  · exact ti33
  · exact ti34
  · exact ti35
  · exact ti37
  · exact ti38
  · exact ti39
  · exact ti41
  · exact ti42
  · exact ti45
  · exact ti46
  · exact ti50
  · exact ti54
  · exact ti56
  · exact ti58
  · exact ti60
  · exact ti65
  · exact ti68
  · exact ti70
  · exact ti71
  · exact ti73
  · exact ti75
  · exact ti77
  · exact ti79

theorem eq23 : EqOk Try.prog 23 (.prod (.int .i64) (.int .i64)) := eqOk_of 8 (by decide) (by kernel_rfl) ⟨by kernel_rfl, rfl⟩

theorem mixed : Try.prog.follows .mixedOrders = true := by kernel_rfl

end
end Go.Proofs.Ytdjjifeipeelhaa.T
