/- Least: keys as bytes tell the keys. -/
import Derived.Test.YtnnbofkcfooljaaTvLb
namespace Go.Proofs.Ytnnbofkcfooljaa.T
open Go Go.Tv Go.Proofs

theorem u8_wrap (x : Int) : IntKind.u8.wrap x = x % 256 := by
  simp [IntKind.wrap, IntKind.bits, IntKind.signed]

def In32 (x : Int) : Prop := 0 ≤ x ∧ x < 4294967296

theorem four_eq (x : Int) : four x = [x % 256, (x / 256) % 256, (x / 65536) % 256, (x / 16777216) % 256] := by
  have e1 : ((2 : Int) ^ (min (8 : Int).toNat IntKind.i64.bits)) = 256 := by decide
  have e2 : ((2 : Int) ^ (min (16 : Int).toNat IntKind.i64.bits)) = 65536 := by decide
  have e3 : ((2 : Int) ^ (min (24 : Int).toNat IntKind.i64.bits)) = 16777216 := by decide
  unfold four
  rw [e1, e2, e3, u8_wrap, u8_wrap, u8_wrap, u8_wrap]
  rw [Int.fdiv_eq_ediv_of_nonneg _ (by decide), Int.fdiv_eq_ediv_of_nonneg _ (by decide), Int.fdiv_eq_ediv_of_nonneg _ (by decide)]

theorem four_inj {x y : Int} (hx : In32 x) (hy : In32 y) (h : bytesOf (four x) = bytesOf (four y)) : x = y := by
  rw [four_eq, four_eq] at h
  unfold In32 at hx hy
  simp only [bytesOf, List.map_cons, List.map_nil, List.cons.injEq, and_true] at h
  obtain ⟨h1, h2, h3, h4⟩ := h
  have key : ∀ a b : Int, 0 ≤ a → a < 256 → 0 ≤ b → b < 256 → UInt8.ofNat a.toNat = UInt8.ofNat b.toNat → a = b := fun a b a0 a1 b0 b1 e => by
    have := congrArg UInt8.toNat e
    simp only [UInt8.toNat_ofNat'] at this
    omega
  have k1 := key _ _ (by omega) (by omega) (by omega) (by omega) h1
  have k2 := key _ _ (by omega) (by omega) (by omega) (by omega) h2
  have k3 := key _ _ (by omega) (by omega) (by omega) (by omega) h3
  have k4 := key _ _ (by omega) (by omega) (by omega) (by omega) h4
  omega

theorem code_inj : ∀ {l l' : List Int}, l.length = l'.length → (∀ x ∈ l, In32 x) → (∀ x ∈ l', In32 x) → code l = code l' → l = l'
  | [], [], _, _, _, _ => rfl
  | [], _ :: _, h, _, _, _ => by simp at h
  | _ :: _, [], h, _, _, _ => by simp at h
  | x :: l, y :: l', hl, h1, h2, h => by
    have e : ∀ z m, code (z :: m) = bytesOf (four z) ++ code m := fun z m => by simp [code, bytesOf]
    rw [e, e] at h
    have hlen : (bytesOf (four x)).length = (bytesOf (four y)).length := by simp [bytesOf, four]
    obtain ⟨q1, q2⟩ := List.append_inj h hlen
    rw [four_inj (h1 x (by simp)) (h2 y (by simp)) q1, code_inj (by simpa using hl) (fun z hz => h1 z (by simp [hz])) (fun z hz => h2 z (by simp [hz])) q2]

theorem kap_eq {B : Nat → List UInt8} {n s t : Nat} (hs : s < n) (ht : t < n) : kap B n s = kap B n t ↔ B s = B t := by
  unfold kap
  constructor
  · intro h
    have h' : (dist B n).idxOf (B s) = (dist B n).idxOf (B t) := by omega
    have h1 : (dist B n)[(dist B n).idxOf (B s)]'(List.idxOf_lt_length_of_mem (dist_mem hs)) = B s := List.getElem_idxOf _
    have h2 : (dist B n)[(dist B n).idxOf (B t)]'(List.idxOf_lt_length_of_mem (dist_mem ht)) = B t := List.getElem_idxOf _
    rw [← h1, ← h2]
    congr 1
  · intro h; rw [h]

theorem kap_lt {B : Nat → List UInt8} {n s : Nat} (hs : s < n) : 0 ≤ kap B n s ∧ kap B n s < ((dist B n).length : Int) := by
  have := List.idxOf_lt_length_of_mem (dist_mem (B := B) hs)
  unfold kap
  omega

theorem foldl_max : ∀ (l : List Int) (a : Int), a ≤ l.foldl max a ∧ (∀ x ∈ l, x ≤ l.foldl max a) ∧ (l.foldl max a = a ∨ l.foldl max a ∈ l)
  | [], a => ⟨Int.le_refl _, by simp, .inl rfl⟩
  | x :: l, a => by
    obtain ⟨h1, h2, h3⟩ := foldl_max l (max a x)
    simp only [List.foldl_cons]
    refine ⟨by omega, fun y hy => ?_, ?_⟩
    · rcases List.mem_cons.1 hy with rfl | hy
      · omega
      · exact h2 y hy
    · rcases h3 with h3 | h3
      · rw [h3]
        rcases Int.le_total a x with h | h
        · right; rw [Int.max_eq_right h]; simp
        · left; exact Int.max_eq_left h
      · exact .inr (List.mem_cons_of_mem _ h3)

/-- The greatest kind tells how many there are. -/
theorem most_kap {B : Nat → List UInt8} {n : Nat} (hn : 0 < n) : ((List.range n).map (kap B n)).foldl max 0 = ((dist B n).length : Int) - 1 := by
  obtain ⟨h1, h2, h3⟩ := foldl_max ((List.range n).map (kap B n)) 0
  have hpos : 0 < (dist B n).length := List.length_pos_of_mem (dist_mem (B := B) hn)
  apply Int.le_antisymm
  · rcases h3 with h3 | h3
    · omega
    · obtain ⟨s, hs, e⟩ := List.mem_map.1 h3
      have := (kap_lt (B := B) (List.mem_range.1 hs)).2
      omega
  · obtain ⟨s, hs, e⟩ := dist_of (B := B) (n := n) (List.getElem_mem (l := dist B n) (n := (dist B n).length - 1) (by omega))
    have hk : kap B n s = ((dist B n).length : Int) - 1 := by
      unfold kap
      rw [e, (dist_nodup B n).idxOf_getElem]
      omega
    rw [← hk]
    exact h2 _ (List.mem_map.2 ⟨s, List.mem_range.2 hs, rfl⟩)
end Go.Proofs.Ytnnbofkcfooljaa.T
