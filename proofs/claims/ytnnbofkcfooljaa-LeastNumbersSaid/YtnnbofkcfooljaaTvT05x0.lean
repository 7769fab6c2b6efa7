/- Functions of the program as functions on data, and that the program's own come to them. -/
import Derived.Test.YtnnbofkcfooljaaTvS
import Derived.Test.YtnnbofkcfooljaaProg
import Derived.KernelRfl
namespace Go.Proofs.Ytnnbofkcfooljaa.T
open Go Go.Tv Go.Proofs
noncomputable section

def tb : Tab := [
  (3, ⟨some (.int .i64), (.int .i64), 1, 8, [.p false (.int .i64) (0 : Int)]⟩),
  (4, ⟨some .bool, .bool, 1, 1, [.p false .bool false]⟩),
  (5, ⟨some (.int .u8), (.int .u8), 1, 1, [.p false (.int .u8) (0 : Int)]⟩),
  (9, ⟨some .str, .str, 1, 16, [.p false .str ([] : List UInt8)]⟩),
  (22, ⟨some (.slice (.int .u32)), (.sl 37), 1, 24, [.nils]⟩),
  (23, ⟨some (.slice (.int .i64)), (.sl 3), 1, 24, [.nils]⟩),
  (25, ⟨some (.slice (.slice (.int .i64))), (.sl 23), 1, 24, [.nils]⟩),
  (27, ⟨some (.prod (.slice (.slice (.int .i64))) (.slice (.int .u32))), (.st [(0, 25), (1, 22)]), 2, 48, [.nils, .nils]⟩),
  (31, ⟨some (.int .i64), (.int .i64), 1, 8, [.p false (.int .i64) (0 : Int)]⟩),
  (36, ⟨some (.int .u64), (.int .u64), 1, 8, [.p false (.int .u64) (0 : Int)]⟩),
  (37, ⟨some (.int .u32), (.int .u32), 1, 4, [.p false (.int .u32) (0 : Int)]⟩),
  (43, ⟨none, .other, 1, 8, [.unk]⟩),
  (46, ⟨some (.slice (.slice .bool)), (.sl 47), 1, 24, [.nils]⟩),
  (47, ⟨some (.slice .bool), (.sl 4), 1, 24, [.nils]⟩),
  (48, ⟨none, (.mp 9 3), 1, 8, [.unk]⟩),
  (49, ⟨some (.slice (.int .u8)), (.sl 5), 1, 24, [.nils]⟩)]

theorem ti3 : TIok Try.prog 3 ⟨some (.int .i64), (.int .i64), 1, 8, [.p false (.int .i64) (0 : Int)]⟩ where
  hi := ⟨_, _, rfl, rfl, rfl, rfl, rfl, rfl, by simp [Value.cells, Value.oneCell']⟩
  hu := ⟨_, rfl, rfl⟩
  hz := rfl
  ha := fun _ => rfl
  hT := fun T h => by cases h; exact ⟨rfl, rfl, rfl⟩

theorem ti4 : TIok Try.prog 4 ⟨some .bool, .bool, 1, 1, [.p false .bool false]⟩ where
  hi := ⟨_, _, rfl, rfl, rfl, rfl, rfl, rfl, by simp [Value.cells, Value.oneCell']⟩
  hu := ⟨_, rfl, rfl⟩
  hz := rfl
  ha := fun _ => rfl
  hT := fun T h => by cases h; exact ⟨rfl, rfl, rfl⟩

theorem ti5 : TIok Try.prog 5 ⟨some (.int .u8), (.int .u8), 1, 1, [.p false (.int .u8) (0 : Int)]⟩ where
  hi := ⟨_, _, rfl, rfl, rfl, rfl, rfl, rfl, by simp [Value.cells, Value.oneCell']⟩
  hu := ⟨_, rfl, rfl⟩
  hz := rfl
  ha := fun _ => rfl
  hT := fun T h => by cases h; exact ⟨rfl, rfl, rfl⟩

theorem ti9 : TIok Try.prog 9 ⟨some .str, .str, 1, 16, [.p false .str ([] : List UInt8)]⟩ where
  hi := ⟨_, _, rfl, rfl, rfl, rfl, rfl, rfl, by simp [Value.cells, Value.oneCell']⟩
  hu := ⟨_, rfl, rfl⟩
  hz := rfl
  ha := fun _ => rfl
  hT := fun T h => by cases h; exact ⟨rfl, rfl, rfl⟩

theorem ti22 : TIok Try.prog 22 ⟨some (.slice (.int .u32)), (.sl 37), 1, 24, [.nils]⟩ where
  hi := ⟨_, _, rfl, rfl, rfl, rfl, rfl, rfl, by simp [Value.cells, Value.oneCell']⟩
  hu := ⟨_, rfl, rfl⟩
  hz := rfl
  ha := fun _ => rfl
  hT := fun T h => by cases h; exact ⟨rfl, rfl, rfl⟩

theorem ti23 : TIok Try.prog 23 ⟨some (.slice (.int .i64)), (.sl 3), 1, 24, [.nils]⟩ where
  hi := ⟨_, _, rfl, rfl, rfl, rfl, rfl, rfl, by simp [Value.cells, Value.oneCell']⟩
  hu := ⟨_, rfl, rfl⟩
  hz := rfl
  ha := fun _ => rfl
  hT := fun T h => by cases h; exact ⟨rfl, rfl, rfl⟩

theorem ti25 : TIok Try.prog 25 ⟨some (.slice (.slice (.int .i64))), (.sl 23), 1, 24, [.nils]⟩ where
  hi := ⟨_, _, rfl, rfl, rfl, rfl, rfl, rfl, by simp [Value.cells, Value.oneCell']⟩
  hu := ⟨_, rfl, rfl⟩
  hz := rfl
  ha := fun _ => rfl
  hT := fun T h => by cases h; exact ⟨rfl, rfl, rfl⟩

theorem ti27 : TIok Try.prog 27 ⟨some (.prod (.slice (.slice (.int .i64))) (.slice (.int .u32))), (.st [(0, 25), (1, 22)]), 2, 48, [.nils, .nils]⟩ where
  hi := ⟨_, _, rfl, rfl, rfl, rfl, rfl, rfl, by simp [Value.cells, Value.oneCell']⟩
  hu := ⟨_, rfl, _, rfl, rfl, by
    intro f hf
    simp only [List.mem_cons, List.not_mem_nil, or_false] at hf
    rcases hf with rfl | rfl <;> exact ⟨_, rfl, by decide⟩⟩
  hz := rfl
  ha := fun h => by cases h
  hT := fun T h => by cases h; exact ⟨rfl, rfl, rfl⟩

theorem ti31 : TIok Try.prog 31 ⟨some (.int .i64), (.int .i64), 1, 8, [.p false (.int .i64) (0 : Int)]⟩ where
  hi := ⟨_, _, rfl, rfl, rfl, rfl, rfl, rfl, by simp [Value.cells, Value.oneCell']⟩
  hu := ⟨_, rfl, rfl⟩
  hz := rfl
  ha := fun _ => rfl
  hT := fun T h => by cases h; exact ⟨rfl, rfl, rfl⟩

theorem ti36 : TIok Try.prog 36 ⟨some (.int .u64), (.int .u64), 1, 8, [.p false (.int .u64) (0 : Int)]⟩ where
  hi := ⟨_, _, rfl, rfl, rfl, rfl, rfl, rfl, by simp [Value.cells, Value.oneCell']⟩
  hu := ⟨_, rfl, rfl⟩
  hz := rfl
  ha := fun _ => rfl
  hT := fun T h => by cases h; exact ⟨rfl, rfl, rfl⟩

theorem ti37 : TIok Try.prog 37 ⟨some (.int .u32), (.int .u32), 1, 4, [.p false (.int .u32) (0 : Int)]⟩ where
  hi := ⟨_, _, rfl, rfl, rfl, rfl, rfl, rfl, by simp [Value.cells, Value.oneCell']⟩
  hu := ⟨_, rfl, rfl⟩
  hz := rfl
  ha := fun _ => rfl
  hT := fun T h => by cases h; exact ⟨rfl, rfl, rfl⟩

theorem ti43 : TIok Try.prog 43 ⟨none, .other, 1, 8, [.unk]⟩ where
  hi := ⟨_, _, rfl, rfl, rfl, rfl, rfl, rfl, by simp [Value.cells, Value.oneCell']⟩
  hu := ⟨_, rfl, rfl⟩
  hz := rfl
  ha := fun _ => rfl
  hT := fun T h => by cases h

theorem ti46 : TIok Try.prog 46 ⟨some (.slice (.slice .bool)), (.sl 47), 1, 24, [.nils]⟩ where
  hi := ⟨_, _, rfl, rfl, rfl, rfl, rfl, rfl, by simp [Value.cells, Value.oneCell']⟩
  hu := ⟨_, rfl, rfl⟩
  hz := rfl
  ha := fun _ => rfl
  hT := fun T h => by cases h; exact ⟨rfl, rfl, rfl⟩

theorem ti47 : TIok Try.prog 47 ⟨some (.slice .bool), (.sl 4), 1, 24, [.nils]⟩ where
  hi := ⟨_, _, rfl, rfl, rfl, rfl, rfl, rfl, by simp [Value.cells, Value.oneCell']⟩
  hu := ⟨_, rfl, rfl⟩
  hz := rfl
  ha := fun _ => rfl
  hT := fun T h => by cases h; exact ⟨rfl, rfl, rfl⟩

theorem ti48 : TIok Try.prog 48 ⟨none, (.mp 9 3), 1, 8, [.unk]⟩ where
  hi := ⟨_, _, rfl, rfl, rfl, rfl, rfl, rfl, by simp [Value.cells, Value.oneCell']⟩
  hu := ⟨_, rfl, rfl⟩
  hz := rfl
  ha := fun _ => rfl
  hT := fun T h => by cases h

theorem ti49 : TIok Try.prog 49 ⟨some (.slice (.int .u8)), (.sl 5), 1, 24, [.nils]⟩ where
  hi := ⟨_, _, rfl, rfl, rfl, rfl, rfl, rfl, by simp [Value.cells, Value.oneCell']⟩
  hu := ⟨_, rfl, rfl⟩
  hz := rfl
  ha := fun _ => rfl
  hT := fun T h => by cases h; exact ⟨rfl, rfl, rfl⟩

theorem tbok : TabOK Try.prog tb := by
  intro p hp
  simp only [tb, List.mem_cons, List.not_mem_nil, or_false] at hp
  rcases hp with rfl | rfl | rfl | rfl | rfl | rfl | rfl | rfl | rfl | rfl | rfl | rfl | rfl | rfl | rfl | rfl
  · exact ti3
  · exact ti4
  · exact ti5
  · exact ti9
  · exact ti22
  · exact ti23
  · exact ti25
  · exact ti27
  · exact ti31
  · exact ti36
  · exact ti37
  · exact ti43
  · exact ti46
  · exact ti47
  · exact ti48
  · exact ti49

theorem mixed : Try.prog.follows .mixedOrders = true := by kernel_rfl

end
end Go.Proofs.Ytnnbofkcfooljaa.T
