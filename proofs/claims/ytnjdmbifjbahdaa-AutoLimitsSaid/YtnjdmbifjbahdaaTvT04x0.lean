/- Functions of the program as functions on data, and that the program's own come to them. -/
import Derived.Test.YtnjdmbifjbahdaaTvS
import Derived.Test.YtnjdmbifjbahdaaProg
import Derived.KernelRfl
namespace Go.Proofs.Ytnjdmbifjbahdaa.T
open Go Go.Tv Go.Proofs
noncomputable section

def tb : Tab := [
  (3, ⟨some (.int .i64), (.int .i64), 1, 8, [.p false (.int .i64) (0 : Int)]⟩),
  (4, ⟨some .bool, .bool, 1, 1, [.p false .bool false]⟩),
  (5, ⟨some (.int .u8), (.int .u8), 1, 1, [.p false (.int .u8) (0 : Int)]⟩),
  (23, ⟨some (.int .u8), (.int .u8), 1, 1, [.p false (.int .u8) (0 : Int)]⟩),
  (24, ⟨some (.int .u32), (.int .u32), 1, 4, [.p false (.int .u32) (0 : Int)]⟩),
  (25, ⟨some (.slice (.tree .u8 .u32)), (.sl 27), 1, 24, [.nils]⟩),
  (27, ⟨some (.tree .u8 .u32), (.st [(0, 23), (1, 24), (2, 25)]), 3, 32, [.p false (.int .u8) (0 : Int), .p false (.int .u32) (0 : Int), .nils]⟩),
  (28, ⟨some (.slice (.slice (.int .i64))), (.sl 36), 1, 24, [.nils]⟩),
  (29, ⟨some (.slice (.int .u32)), (.sl 24), 1, 24, [.nils]⟩),
  (31, ⟨some (.prod (.slice (.slice (.int .i64))) (.slice (.int .u32))), (.st [(0, 28), (1, 29)]), 2, 48, [.nils, .nils]⟩),
  (32, ⟨some (.int .i64), (.int .i64), 1, 8, [.p false (.int .i64) (0 : Int)]⟩),
  (36, ⟨some (.slice (.int .i64)), (.sl 3), 1, 24, [.nils]⟩),
  (39, ⟨some (.int .u64), (.int .u64), 1, 8, [.p false (.int .u64) (0 : Int)]⟩),
  (53, ⟨none, .other, 1, 8, [.nilp]⟩),
  (54, ⟨some (.slice (.prod (.int .u64) (.prod (.int .u64) (.prod (.int .u64) (.int .u64))))), (.sl 60), 1, 24, [.nils]⟩),
  (56, ⟨some (.prod (.slice (.int .u32)) (.prod (.slice (.prod (.int .u64) (.prod (.int .u64) (.prod (.int .u64) (.int .u64))))) .bool)), (.st [(0, 29), (1, 54), (2, 4)]), 3, 56, [.nils, .nils, .p false .bool false]⟩),
  (57, ⟨some (.slice (.prod .bool (.prod (.prod (.int .u64) (.prod (.int .u64) (.prod (.int .u64) (.int .u64)))) (.prod (.int .u64) (.prod (.int .u64) (.prod (.int .u64) (.int .u64))))))), (.sl 62), 1, 24, [.nils]⟩),
  (58, ⟨some (.int .u64), (.int .u64), 1, 8, [.p false (.int .u64) (0 : Int)]⟩),
  (60, ⟨some (.prod (.int .u64) (.prod (.int .u64) (.prod (.int .u64) (.int .u64)))), (.ar 4 58), 4, 32, [.p false (.int .u64) (0 : Int), .p false (.int .u64) (0 : Int), .p false (.int .u64) (0 : Int), .p false (.int .u64) (0 : Int)]⟩),
  (62, ⟨some (.prod .bool (.prod (.prod (.int .u64) (.prod (.int .u64) (.prod (.int .u64) (.int .u64)))) (.prod (.int .u64) (.prod (.int .u64) (.prod (.int .u64) (.int .u64)))))), (.st [(0, 4), (1, 60), (5, 60)]), 9, 72, [.p false .bool false, .p false (.int .u64) (0 : Int), .p false (.int .u64) (0 : Int), .p false (.int .u64) (0 : Int), .p false (.int .u64) (0 : Int), .p false (.int .u64) (0 : Int), .p false (.int .u64) (0 : Int), .p false (.int .u64) (0 : Int), .p false (.int .u64) (0 : Int)]⟩),
  (65, ⟨none, (.mp 60 3), 1, 8, [.unk]⟩)]

set_option maxRecDepth 100000 in
theorem ti3 : TIok Try.prog 3 ⟨some (.int .i64), (.int .i64), 1, 8, [.p false (.int .i64) (0 : Int)]⟩ where
  hi := ⟨_, _, rfl, rfl, rfl, rfl, rfl, rfl, by simp [Value.cells, Value.oneCell']⟩
  hu := ⟨_, rfl, rfl⟩
  hz := rfl
  ha := fun _ => rfl
  hT := fun T h => by cases h; exact ⟨rfl, rfl, rfl⟩

set_option maxRecDepth 100000 in
theorem ti4 : TIok Try.prog 4 ⟨some .bool, .bool, 1, 1, [.p false .bool false]⟩ where
  hi := ⟨_, _, rfl, rfl, rfl, rfl, rfl, rfl, by simp [Value.cells, Value.oneCell']⟩
  hu := ⟨_, rfl, rfl⟩
  hz := rfl
  ha := fun _ => rfl
  hT := fun T h => by cases h; exact ⟨rfl, rfl, rfl⟩

set_option maxRecDepth 100000 in
theorem ti5 : TIok Try.prog 5 ⟨some (.int .u8), (.int .u8), 1, 1, [.p false (.int .u8) (0 : Int)]⟩ where
  hi := ⟨_, _, rfl, rfl, rfl, rfl, rfl, rfl, by simp [Value.cells, Value.oneCell']⟩
  hu := ⟨_, rfl, rfl⟩
  hz := rfl
  ha := fun _ => rfl
  hT := fun T h => by cases h; exact ⟨rfl, rfl, rfl⟩

set_option maxRecDepth 100000 in
theorem ti23 : TIok Try.prog 23 ⟨some (.int .u8), (.int .u8), 1, 1, [.p false (.int .u8) (0 : Int)]⟩ where
  hi := ⟨_, _, rfl, rfl, rfl, rfl, rfl, rfl, by simp [Value.cells, Value.oneCell']⟩
  hu := ⟨_, rfl, rfl⟩
  hz := rfl
  ha := fun _ => rfl
  hT := fun T h => by cases h; exact ⟨rfl, rfl, rfl⟩

set_option maxRecDepth 100000 in
theorem ti24 : TIok Try.prog 24 ⟨some (.int .u32), (.int .u32), 1, 4, [.p false (.int .u32) (0 : Int)]⟩ where
  hi := ⟨_, _, rfl, rfl, rfl, rfl, rfl, rfl, by simp [Value.cells, Value.oneCell']⟩
  hu := ⟨_, rfl, rfl⟩
  hz := rfl
  ha := fun _ => rfl
  hT := fun T h => by cases h; exact ⟨rfl, rfl, rfl⟩

set_option maxRecDepth 100000 in
theorem ti25 : TIok Try.prog 25 ⟨some (.slice (.tree .u8 .u32)), (.sl 27), 1, 24, [.nils]⟩ where
  hi := ⟨_, _, rfl, rfl, rfl, rfl, rfl, rfl, by simp [Value.cells, Value.oneCell']⟩
  hu := ⟨_, rfl, rfl⟩
  hz := rfl
  ha := fun _ => rfl
  hT := fun T h => by cases h; exact ⟨rfl, rfl, rfl⟩

set_option maxRecDepth 100000 in
theorem ti27 : TIok Try.prog 27 ⟨some (.tree .u8 .u32), (.st [(0, 23), (1, 24), (2, 25)]), 3, 32, [.p false (.int .u8) (0 : Int), .p false (.int .u32) (0 : Int), .nils]⟩ where
  hi := ⟨_, _, rfl, rfl, rfl, rfl, rfl, rfl, by simp [Value.cells, Value.oneCell']⟩
  hu := ⟨_, rfl, _, rfl, rfl, by
    intro f hf
    simp only [List.mem_cons, List.not_mem_nil, or_false] at hf
    rcases hf with rfl | rfl | rfl <;> exact ⟨_, rfl, by decide⟩⟩
  hz := rfl
  ha := fun h => by cases h
  hT := fun T h => by cases h; exact ⟨rfl, rfl, rfl⟩

set_option maxRecDepth 100000 in
theorem ti28 : TIok Try.prog 28 ⟨some (.slice (.slice (.int .i64))), (.sl 36), 1, 24, [.nils]⟩ where
  hi := ⟨_, _, rfl, rfl, rfl, rfl, rfl, rfl, by simp [Value.cells, Value.oneCell']⟩
  hu := ⟨_, rfl, rfl⟩
  hz := rfl
  ha := fun _ => rfl
  hT := fun T h => by cases h; exact ⟨rfl, rfl, rfl⟩

set_option maxRecDepth 100000 in
theorem ti29 : TIok Try.prog 29 ⟨some (.slice (.int .u32)), (.sl 24), 1, 24, [.nils]⟩ where
  hi := ⟨_, _, rfl, rfl, rfl, rfl, rfl, rfl, by simp [Value.cells, Value.oneCell']⟩
  hu := ⟨_, rfl, rfl⟩
  hz := rfl
  ha := fun _ => rfl
  hT := fun T h => by cases h; exact ⟨rfl, rfl, rfl⟩

set_option maxRecDepth 100000 in
theorem ti31 : TIok Try.prog 31 ⟨some (.prod (.slice (.slice (.int .i64))) (.slice (.int .u32))), (.st [(0, 28), (1, 29)]), 2, 48, [.nils, .nils]⟩ where
  hi := ⟨_, _, rfl, rfl, rfl, rfl, rfl, rfl, by simp [Value.cells, Value.oneCell']⟩
  hu := ⟨_, rfl, _, rfl, rfl, by
    intro f hf
    simp only [List.mem_cons, List.not_mem_nil, or_false] at hf
    rcases hf with rfl | rfl <;> exact ⟨_, rfl, by decide⟩⟩
  hz := rfl
  ha := fun h => by cases h
  hT := fun T h => by cases h; exact ⟨rfl, rfl, rfl⟩

set_option maxRecDepth 100000 in
theorem ti32 : TIok Try.prog 32 ⟨some (.int .i64), (.int .i64), 1, 8, [.p false (.int .i64) (0 : Int)]⟩ where
  hi := ⟨_, _, rfl, rfl, rfl, rfl, rfl, rfl, by simp [Value.cells, Value.oneCell']⟩
  hu := ⟨_, rfl, rfl⟩
  hz := rfl
  ha := fun _ => rfl
  hT := fun T h => by cases h; exact ⟨rfl, rfl, rfl⟩

set_option maxRecDepth 100000 in
theorem ti36 : TIok Try.prog 36 ⟨some (.slice (.int .i64)), (.sl 3), 1, 24, [.nils]⟩ where
  hi := ⟨_, _, rfl, rfl, rfl, rfl, rfl, rfl, by simp [Value.cells, Value.oneCell']⟩
  hu := ⟨_, rfl, rfl⟩
  hz := rfl
  ha := fun _ => rfl
  hT := fun T h => by cases h; exact ⟨rfl, rfl, rfl⟩

set_option maxRecDepth 100000 in
theorem ti39 : TIok Try.prog 39 ⟨some (.int .u64), (.int .u64), 1, 8, [.p false (.int .u64) (0 : Int)]⟩ where
  hi := ⟨_, _, rfl, rfl, rfl, rfl, rfl, rfl, by simp [Value.cells, Value.oneCell']⟩
  hu := ⟨_, rfl, rfl⟩
  hz := rfl
  ha := fun _ => rfl
  hT := fun T h => by cases h; exact ⟨rfl, rfl, rfl⟩

set_option maxRecDepth 100000 in
theorem ti53 : TIok Try.prog 53 ⟨none, .other, 1, 8, [.nilp]⟩ where
  hi := ⟨_, _, rfl, rfl, rfl, rfl, rfl, rfl, by simp [Value.cells, Value.oneCell']⟩
  hu := ⟨_, rfl, rfl⟩
  hz := rfl
  ha := fun _ => rfl
  hT := fun T h => by cases h

set_option maxRecDepth 100000 in
theorem ti54 : TIok Try.prog 54 ⟨some (.slice (.prod (.int .u64) (.prod (.int .u64) (.prod (.int .u64) (.int .u64))))), (.sl 60), 1, 24, [.nils]⟩ where
  hi := ⟨_, _, rfl, rfl, rfl, rfl, rfl, rfl, by simp [Value.cells, Value.oneCell']⟩
  hu := ⟨_, rfl, rfl⟩
  hz := rfl
  ha := fun _ => rfl
  hT := fun T h => by cases h; exact ⟨rfl, rfl, rfl⟩

set_option maxRecDepth 100000 in
theorem ti56 : TIok Try.prog 56 ⟨some (.prod (.slice (.int .u32)) (.prod (.slice (.prod (.int .u64) (.prod (.int .u64) (.prod (.int .u64) (.int .u64))))) .bool)), (.st [(0, 29), (1, 54), (2, 4)]), 3, 56, [.nils, .nils, .p false .bool false]⟩ where
  hi := ⟨_, _, rfl, rfl, rfl, rfl, rfl, rfl, by simp [Value.cells, Value.oneCell']⟩
  hu := ⟨_, rfl, _, rfl, rfl, by
    intro f hf
    simp only [List.mem_cons, List.not_mem_nil, or_false] at hf
    rcases hf with rfl | rfl | rfl <;> exact ⟨_, rfl, by decide⟩⟩
  hz := rfl
  ha := fun h => by cases h
  hT := fun T h => by cases h; exact ⟨rfl, rfl, rfl⟩

set_option maxRecDepth 100000 in
theorem ti57 : TIok Try.prog 57 ⟨some (.slice (.prod .bool (.prod (.prod (.int .u64) (.prod (.int .u64) (.prod (.int .u64) (.int .u64)))) (.prod (.int .u64) (.prod (.int .u64) (.prod (.int .u64) (.int .u64))))))), (.sl 62), 1, 24, [.nils]⟩ where
  hi := ⟨_, _, rfl, rfl, rfl, rfl, rfl, rfl, by simp [Value.cells, Value.oneCell']⟩
  hu := ⟨_, rfl, rfl⟩
  hz := rfl
  ha := fun _ => rfl
  hT := fun T h => by cases h; exact ⟨rfl, rfl, rfl⟩

set_option maxRecDepth 100000 in
theorem ti58 : TIok Try.prog 58 ⟨some (.int .u64), (.int .u64), 1, 8, [.p false (.int .u64) (0 : Int)]⟩ where
  hi := ⟨_, _, rfl, rfl, rfl, rfl, rfl, rfl, by simp [Value.cells, Value.oneCell']⟩
  hu := ⟨_, rfl, rfl⟩
  hz := rfl
  ha := fun _ => rfl
  hT := fun T h => by cases h; exact ⟨rfl, rfl, rfl⟩

set_option maxRecDepth 100000 in
theorem ti60 : TIok Try.prog 60 ⟨some (.prod (.int .u64) (.prod (.int .u64) (.prod (.int .u64) (.int .u64)))), (.ar 4 58), 4, 32, [.p false (.int .u64) (0 : Int), .p false (.int .u64) (0 : Int), .p false (.int .u64) (0 : Int), .p false (.int .u64) (0 : Int)]⟩ where
  hi := ⟨_, _, rfl, rfl, rfl, rfl, rfl, rfl, by simp [Value.cells, Value.oneCell']⟩
  hu := ⟨_, rfl, rfl⟩
  hz := rfl
  ha := fun h => by cases h
  hT := fun T h => by cases h; exact ⟨rfl, rfl, rfl⟩

set_option maxRecDepth 100000 in
theorem ti62 : TIok Try.prog 62 ⟨some (.prod .bool (.prod (.prod (.int .u64) (.prod (.int .u64) (.prod (.int .u64) (.int .u64)))) (.prod (.int .u64) (.prod (.int .u64) (.prod (.int .u64) (.int .u64)))))), (.st [(0, 4), (1, 60), (5, 60)]), 9, 72, [.p false .bool false, .p false (.int .u64) (0 : Int), .p false (.int .u64) (0 : Int), .p false (.int .u64) (0 : Int), .p false (.int .u64) (0 : Int), .p false (.int .u64) (0 : Int), .p false (.int .u64) (0 : Int), .p false (.int .u64) (0 : Int), .p false (.int .u64) (0 : Int)]⟩ where
  hi := ⟨_, _, rfl, rfl, rfl, rfl, rfl, rfl, by simp [Value.cells, Value.oneCell']⟩
  hu := ⟨_, rfl, _, rfl, rfl, by
    intro f hf
    simp only [List.mem_cons, List.not_mem_nil, or_false] at hf
    rcases hf with rfl | rfl | rfl <;> exact ⟨_, rfl, by decide⟩⟩
  hz := rfl
  ha := fun h => by cases h
  hT := fun T h => by cases h; exact ⟨rfl, rfl, rfl⟩

set_option maxRecDepth 100000 in
theorem ti65 : TIok Try.prog 65 ⟨none, (.mp 60 3), 1, 8, [.unk]⟩ where
  hi := ⟨_, _, rfl, rfl, rfl, rfl, rfl, rfl, by simp [Value.cells, Value.oneCell']⟩
  hu := ⟨_, rfl, rfl⟩
  hz := rfl
  ha := fun _ => rfl
  hT := fun T h => by cases h

set_option maxRecDepth 100000 in
theorem tbok : TabOK Try.prog tb := by
  intro p hp
  simp only [tb, List.mem_cons, List.not_mem_nil, or_false] at hp
  rcases hp with rfl | rfl | rfl | rfl | rfl | rfl | rfl | rfl | rfl | rfl | rfl | rfl | rfl | rfl | rfl | rfl | rfl | rfl | rfl | rfl | rfl
  · exact ti3
  · exact ti4
  · exact ti5
  · exact ti23
  · exact ti24
  · exact ti25
  · exact ti27
  · exact ti28
  · exact ti29
  · exact ti31
  · exact ti32
  · exact ti36
  · exact ti39
  · exact ti53
  · exact ti54
  · exact ti56
  · exact ti57
  · exact ti58
  · exact ti60
  · exact ti62
  · exact ti65

set_option maxRecDepth 100000 in
theorem key60 : KeyOk Try.prog 60 (.prod (.int .u64) (.prod (.int .u64) (.prod (.int .u64) (.int .u64)))) := KeyOk.of_ints (e := 58) rfl rfl rfl (by kernel_rfl) rfl rfl rfl

set_option maxRecDepth 100000 in
theorem mixed : Try.prog.follows .mixedOrders = true := by kernel_rfl

end
end Go.Proofs.Ytnjdmbifjbahdaa.T
