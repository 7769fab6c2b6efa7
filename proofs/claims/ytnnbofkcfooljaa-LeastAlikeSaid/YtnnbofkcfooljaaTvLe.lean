/- Least: the last kinds are the states that nothing tells apart. -/
import Derived.Test.YtnnbofkcfooljaaTvLd
namespace Go.Proofs.Ytnnbofkcfooljaa.T
open Go Go.Tv Go.Proofs

def run (nx : List (List Int)) (s : Nat) (w : List Nat) : Nat := w.foldl (dl nx) s
/-- Nothing tells them apart. -/
def Leq (nx : List (List Int)) (ot : List Int) (c s t : Nat) : Prop := ∀ w : List Nat, (∀ k ∈ w, k < c) → ot.getD (run nx s w) 0 = ot.getD (run nx t w) 0

theorem range_get {f : Nat → Int} {n s : Nat} (hs : s < n) : ((List.range n).map f).getD s 0 = f s := by
  rw [List.getD_eq_getElem?_getD, List.getElem?_map, List.getElem?_range hs]
  rfl

theorem leq_step {nx : List (List Int)} {ot : List Int} {c s t k : Nat} (hk : k < c) (e : Leq nx ot c s t) : Leq nx ot c (dl nx s k) (dl nx t k) := fun w hw =>
  e (k :: w) (by intro j hj; rcases List.mem_cons.1 hj with rfl | hj; exact hk; exact hw j hj)

section
variable {nx : List (List Int)} {ot : List Int} {n c : Nat} (h : OkA nx ot n c)
include h

theorem key2_code {B : Nat → List UInt8} {s t : Nat} (hs : s < n) (ht : t < n) :
    code (key2 ((List.range n).map (kap B n)) nx s) = code (key2 ((List.range n).map (kap B n)) nx t) ↔ B s = B t ∧ ∀ k, k < c → B (dl nx s k) = B (dl nx t k) := by
  have hsm := h.small
  have hk : ∀ s, s < n → In32 (kap B n s) := fun s hs => by
    obtain ⟨a, b⟩ := kap_lt (B := B) hs
    have := dist_length B n
    exact ⟨a, by omega⟩
  have hmem : ∀ s, s < n → ∀ x ∈ key2 ((List.range n).map (kap B n)) nx s, In32 x := fun s hs x hx => by
    simp only [key2, List.mem_cons, List.mem_map] at hx
    rcases hx with rfl | ⟨y, hy, rfl⟩
    · rw [range_get hs]; exact hk s hs
    · obtain ⟨j, hj⟩ := List.mem_iff_getElem?.1 hy
      have hjl : j < c := by rw [← h.row s hs]; exact (List.getElem?_eq_some_iff.1 hj).1
      have hw := h.way s j hs hjl
      have : (nx.getD s []).getD j 0 = y := by
        generalize nx.getD s [] = l at hj
        rw [List.getD_eq_getElem?_getD, hj]; rfl
      rw [this] at hw
      rw [range_get (by omega)]
      exact hk _ (by omega)
  have hget : ∀ s, s < n → ∀ k, k < c → ((nx.getD s []).map fun t => ((List.range n).map (kap B n)).getD t.toNat 0)[k]? = some (kap B n (dl nx s k)) := fun s hs k hkc => by
    have hl : k < (nx.getD s []).length := by rw [h.row s hs]; exact hkc
    have hd := h.dl_lt hs hkc
    have e : (nx.getD s [])[k]? = some ((nx.getD s []).getD k 0) := by
      generalize nx.getD s [] = l at hl
      rw [List.getD_eq_getElem?_getD, List.getElem?_eq_getElem hl]; rfl
    rw [List.getElem?_map, e]
    simp only [Option.map_some, Option.some.injEq]
    exact range_get (f := kap B n) hd
  have hlen : ∀ s, s < n → ((nx.getD s []).map fun t => ((List.range n).map (kap B n)).getD t.toNat 0).length = c := fun s hs => by rw [List.length_map, h.row s hs]
  constructor
  · intro e
    have e2 := code_inj (by simp only [key2, List.length_cons]; rw [hlen s hs, hlen t ht]) (hmem s hs) (hmem t ht) e
    simp only [key2, List.cons.injEq] at e2
    obtain ⟨q1, q2⟩ := e2
    rw [range_get hs, range_get ht] at q1
    refine ⟨(kap_eq hs ht).1 q1, fun k hkc => ?_⟩
    have := hget s hs k hkc
    rw [q2, hget t ht k hkc] at this
    exact (kap_eq (h.dl_lt hs hkc) (h.dl_lt ht hkc)).1 (Option.some.inj this).symm
  · rintro ⟨q1, q2⟩
    congr 1
    simp only [key2, List.cons.injEq]
    refine ⟨by rw [range_get hs, range_get ht]; exact (kap_eq hs ht).2 q1, List.ext_getElem? fun k => ?_⟩
    rcases Nat.lt_or_ge k c with hkc | hkc
    · rw [hget s hs k hkc, hget t ht k hkc, (kap_eq (h.dl_lt hs hkc) (h.dl_lt ht hkc)).2 (q2 k hkc)]
    · rw [List.getElem?_eq_none (by rw [hlen s hs]; exact hkc), List.getElem?_eq_none (by rw [hlen t ht]; exact hkc)]

theorem run_lt : ∀ (w : List Nat) {s : Nat}, s < n → (∀ k ∈ w, k < c) → run nx s w < n
  | [], s, hs, _ => hs
  | k :: w, s, hs, hw => run_lt w (h.dl_lt hs (hw k (by simp))) (fun k hk => hw k (by simp [hk]))

/-- The loop of Make: the last kinds. -/
theorem kinds_end : ∃ B : Nat → List UInt8, (least_split (ot.length : Int) nx ot).bind (iter (least_Make_L1 nx ot)) = some ((List.range n).map (kap B n)) ∧ ∀ s t, s < n → t < n → (B s = B t ↔ Leq nx ot c s t) := by
  rw [split1 h]
  simp only [Option.bind_some]
  have hsm := h.small
  have hmost : ∀ B : Nat → List UInt8, least_most ((List.range n).map (kap B n)) = some (((dist B n).length : Int) - 1) := fun B => by
    rw [most_eq _ (by simp; omega), most_kap h.pos]
  obtain ⟨r, h1, B, h2, h3⟩ := iter_rule (body := least_Make_L1 nx ot)
    (fun kd => ∃ B : Nat → List UInt8, kd = (List.range n).map (kap B n) ∧ (∀ s t, s < n → t < n → Leq nx ot c s t → B s = B t) ∧ (∀ s t, s < n → t < n → B s = B t → ot.getD s 0 = ot.getD t 0))
    (fun kd => n - (kd.foldl max 0).toNat)
    (fun kd => ∃ B : Nat → List UInt8, kd = (List.range n).map (kap B n) ∧ ∀ s t, s < n → t < n → (B s = B t ↔ Leq nx ot c s t))
    (fun kd ⟨B, hB, hc, ho⟩ => by
      have hl : kd.length = n := by rw [hB]; simp
      obtain ⟨f1, f2⟩ := finer (B := B) (B' := fun s => code (key2 kd nx s)) n (fun s t hs ht e => by
        simp only [hB] at e
        exact ((key2_code h hs ht).1 e).1)
      simp only [least_Make_L1]
      rw [split2 h hl]
      simp only [Option.bind_some]
      rw [hmost]
      simp only [Option.bind_some]
      have hmk : least_most kd = some (((dist B n).length : Int) - 1) := by rw [hB]; exact hmost B
      rw [hmk]
      simp only [Option.bind_some]
      by_cases e : (dist (fun s => code (key2 kd nx s)) n).length = (dist B n).length
      · right
        rw [if_pos (by simp [e])]
        refine ⟨kd, rfl, B, hB, fun s t hs ht => ⟨fun est => ?_, hc s t hs ht⟩⟩
        have stab : ∀ s t, s < n → t < n → B s = B t → ∀ k, k < c → B (dl nx s k) = B (dl nx t k) := fun s t hs ht est k hk => by
          have := f2 e.symm s t hs ht est
          simp only [hB] at this
          exact ((key2_code h hs ht).1 this).2 k hk
        have all : ∀ (w : List Nat) (s t : Nat), s < n → t < n → B s = B t → (∀ k ∈ w, k < c) → ot.getD (run nx s w) 0 = ot.getD (run nx t w) 0 := fun w => by
          induction w with
          | nil => intro s t hs ht est _; exact ho s t hs ht est
          | cons k w ih =>
            intro s t hs ht est hw
            have hk := hw k (by simp)
            exact ih _ _ (h.dl_lt hs hk) (h.dl_lt ht hk) (stab s t hs ht est k hk) (fun j hj => hw j (by simp [hj]))
        exact fun w hw => all w s t hs ht est hw
      · left
        rw [if_neg (by simp; omega)]
        refine ⟨_, rfl, ⟨fun s => code (key2 kd nx s), rfl, fun s t hs ht est => ?_, fun s t hs ht est => ?_⟩, ?_⟩
        · simp only [hB]
          exact (key2_code h hs ht).2 ⟨hc s t hs ht est, fun k hk => hc _ _ (h.dl_lt hs hk) (h.dl_lt ht hk) (leq_step hk est)⟩
        · simp only [hB] at est
          exact ho s t hs ht ((key2_code h hs ht).1 est).1
        · have hn := dist_length (fun s => code (key2 kd nx s)) n
          have hp : 0 < (dist B n).length := List.length_pos_of_mem (dist_mem (B := B) h.pos)
          have m1 : kd.foldl max 0 = ((dist B n).length : Int) - 1 := by rw [hB]; exact most_kap h.pos
          have m2 := most_kap (B := fun s => code (key2 kd nx s)) h.pos
          simp only [m1, m2]
          omega)
    (s := (List.range n).map (kap (fun s => code [ot.getD s 0]) n))
    ⟨_, rfl, fun s t hs ht e => by
      have := e [] (by simp)
      simp only [run, List.foldl_nil] at this
      rw [this], fun s t hs ht e => by
      have := code_inj (by simp) (fun x hx => by simp at hx; rw [hx]; exact h.out s hs) (fun x hx => by simp at hx; rw [hx]; exact h.out t ht) e
      simpa using this⟩
  exact ⟨B, by rw [h1, h2], h3⟩
end
end Go.Proofs.Ytnnbofkcfooljaa.T
