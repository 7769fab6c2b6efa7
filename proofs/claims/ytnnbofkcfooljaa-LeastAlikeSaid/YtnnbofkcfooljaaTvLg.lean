/- Least: number, without its table of places. -/
import Derived.Test.YtnnbofkcfooljaaTvLf
namespace Go.Proofs.Ytnnbofkcfooljaa.T
open Go Go.Tv Go.Proofs

theorem pigeon : ∀ (M : Nat) (l : List Nat), l.Nodup → (∀ x ∈ l, x < M) → l.length ≤ M
  | 0, l, _, h => by
    cases l with
    | nil => exact Nat.le_refl _
    | cons x l => exact absurd (h x (by simp)) (by omega)
  | M + 1, l, hn, h => by
    by_cases hm : M ∈ l
    · have h1 := pigeon M (l.erase M) (hn.erase M) fun x hx => by
        have := (hn.mem_erase_iff).1 hx
        have := h x this.2
        omega
      rw [List.length_erase_of_mem hm] at h1
      omega
    · have := pigeon M l hn fun x hx => by
        have h1 := h x hx
        have h2 : x ≠ M := fun e => hm (e ▸ hx)
        omega
      omega

/-- A state that is come to. -/
def add1 (kd : Nat → Int) (ln : List Nat) (t : Nat) : List Nat := if kd t ∈ ln.map kd then ln else ln ++ [t]
/-- The ways of one state. -/
def walk (kd : Nat → Int) : List Nat → List Nat → List Int → List Nat × List Int
  | ln, [], r => (ln, r)
  | ln, t :: ts, r => walk kd (add1 kd ln t) ts (r ++ [((ln.map kd).idxOf (kd t) : Int)])

def ways (nx : List (List Int)) (s : Nat) : List Nat := (nx.getD s []).map Int.toNat

/-- One state more. -/
def specB (kd : Nat → Int) (nx : List (List Int)) (ot : List Int) : (List (List Int) × List Int × List Nat × Nat) → Option ((List (List Int) × List Int × List Nat × Nat) ⊕ (List (List Int) × List Int)) := fun (N, O, ln, i) =>
  if i < ln.length then some (.inl (N ++ [(walk kd ln (ways nx (ln.getD i 0)) []).2], O ++ [ot.getD (ln.getD i 0) 0], (walk kd ln (ways nx (ln.getD i 0)) []).1, i + 1)) else some (.inr (N, O))

/-- Kinds apart, in [0, M), of states. -/
structure Lane (kd : Nat → Int) (n M : Nat) (ln : List Nat) : Prop where
  nodup : (ln.map kd).Nodup
  lt : ∀ s ∈ ln, s < n

theorem Lane.le {kd : Nat → Int} {n M : Nat} {ln : List Nat} (h : Lane kd n M ln) (hk : ∀ s, s < n → 0 ≤ kd s ∧ kd s < M) : ln.length ≤ M := by
  have h1 : (ln.map fun s => (kd s).toNat).Nodup := by
    have : ln.map (fun s => (kd s).toNat) = (ln.map kd).map Int.toNat := by simp
    rw [this, List.Nodup, List.pairwise_map]
    refine List.Pairwise.imp_of_mem (fun {a b} ha hb hab e => hab ?_) h.nodup
    obtain ⟨s, hs, rfl⟩ := List.mem_map.1 ha
    obtain ⟨t, ht, rfl⟩ := List.mem_map.1 hb
    have := hk s (h.lt s hs)
    have := hk t (h.lt t ht)
    omega
  have := pigeon M _ h1 fun x hx => by
    obtain ⟨s, hs, rfl⟩ := List.mem_map.1 hx
    have := hk s (h.lt s hs)
    omega
  simpa using this

theorem Lane.add {kd : Nat → Int} {n M : Nat} {ln : List Nat} (h : Lane kd n M ln) {t : Nat} (ht : t < n) : Lane kd n M (add1 kd ln t) := by
  unfold add1
  split
  · exact h
  · rename_i hm
    refine ⟨?_, fun s hs => ?_⟩
    · rw [List.map_append]
      refine List.nodup_append.2 ⟨h.nodup, by simp, fun a ha b hb e => ?_⟩
      simp only [List.map_cons, List.map_nil, List.mem_singleton] at hb
      subst hb
      subst e
      exact hm ha
    · rcases List.mem_append.1 hs with hs | hs
      · exact h.lt s hs
      · simp at hs; omega

theorem Lane.walked {kd : Nat → Int} {n M : Nat} : ∀ (ts ln : List Nat) (r : List Int), Lane kd n M ln → (∀ t ∈ ts, t < n) → Lane kd n M (walk kd ln ts r).1
  | [], _, _, h, _ => h
  | t :: ts, ln, r, h, ht => by
    simp only [walk]
    exact Lane.walked ts _ _ (h.add (ht t (by simp))) (fun s hs => ht s (by simp [hs]))

theorem walk_grows {kd : Nat → Int} : ∀ {ts ln : List Nat} {r : List Int}, ∃ l, (walk kd ln ts r).1 = ln ++ l
  | [], ln, _ => ⟨[], by simp [walk]⟩
  | t :: ts, ln, r => by
    obtain ⟨l, e⟩ := walk_grows (kd := kd) (ts := ts) (ln := add1 kd ln t) (r := r ++ [((ln.map kd).idxOf (kd t) : Int)])
    simp only [walk]
    rw [e]
    unfold add1
    split
    · exact ⟨l, rfl⟩
    · exact ⟨t :: l, by simp⟩

theorem walk_snoc {kd : Nat → Int} : ∀ (ts : List Nat) (ln : List Nat) (r : List Int) (t : Nat), walk kd ln (ts ++ [t]) r = (add1 kd (walk kd ln ts r).1 t, (walk kd ln ts r).2 ++ [(((walk kd ln ts r).1.map kd).idxOf (kd t) : Int)])
  | [], ln, r, t => rfl
  | x :: ts, ln, r, t => by simp only [List.cons_append, walk]; exact walk_snoc ts _ _ t

theorem walk_len {kd : Nat → Int} : ∀ (ts : List Nat) (ln : List Nat) (r : List Int), (walk kd ln ts r).2.length = r.length + ts.length
  | [], ln, r => by simp [walk]
  | x :: ts, ln, r => by simp only [walk, walk_len ts, List.length_append, List.length_cons, List.length_nil]; omega

/-- The table of places. -/
def placeOf (kd : Nat → Int) (M : Nat) (ln : List Nat) : List Int := (List.range M).map fun (k : Nat) => if (k : Int) ∈ ln.map kd then ((ln.map kd).idxOf (k : Int) : Int) else -1

theorem placeOf_get {kd : Nat → Int} {M : Nat} {ln : List Nat} {k : Nat} (hk : k < M) : (placeOf kd M ln).getD k 0 = if (k : Int) ∈ ln.map kd then ((ln.map kd).idxOf (k : Int) : Int) else -1 := range_get hk

theorem idx_memI {b : Int} : ∀ {d l : List Int}, b ∈ d → (d ++ l).idxOf b = d.idxOf b
  | [], _, h => by simp at h
  | x :: d, l, h => by
    simp only [List.cons_append, List.idxOf_cons]
    by_cases e : x = b
    · subst e; simp
    · have : (x == b) = false := by simpa using e
      rw [this]
      rcases List.mem_cons.1 h with h | h
      · exact absurd h.symm e
      · rw [idx_memI (l := l) h]
theorem idx_notI {b : Int} : ∀ {d l : List Int}, b ∉ d → (d ++ b :: l).idxOf b = d.length
  | [], _, _ => by simp
  | x :: d, l, h => by
    have e : (x == b) = false := by
      simp only [List.mem_cons, not_or] at h
      simpa using fun e => h.1 e.symm
    simp only [List.cons_append, List.idxOf_cons, e, cond_false, List.length_cons]
    rw [idx_notI (fun hm => h (List.mem_cons_of_mem _ hm))]

theorem placeOf_add {kd : Nat → Int} {M : Nat} {ln : List Nat} {t : Nat} (h0 : 0 ≤ kd t) (h1 : kd t < M) (hm : kd t ∉ ln.map kd) : (placeOf kd M ln).set (kd t).toNat (ln.length : Int) = placeOf kd M (ln ++ [t]) := by
  refine List.ext_getElem? fun k => ?_
  rw [List.getElem?_set]
  have hlen : ∀ l, (placeOf kd M l).length = M := fun l => by simp [placeOf]
  rcases Nat.lt_or_ge k M with hk | hk
  · have g : ∀ l, (placeOf kd M l)[k]? = some (if (k : Int) ∈ l.map kd then ((l.map kd).idxOf (k : Int) : Int) else -1) := fun l => by
      unfold placeOf
      rw [List.getElem?_map, List.getElem?_range hk]
      rfl
    by_cases e : (kd t).toNat = k
    · have ek : (k : Int) = kd t := by omega
      rw [if_pos e, if_pos (by rw [hlen]; omega), g, ek, List.map_append]
      simp only [List.map_cons, List.map_nil]
      rw [if_pos (by simp), idx_notI hm, List.length_map]
    · rw [if_neg e, g, g, List.map_append]
      simp only [List.map_cons, List.map_nil, List.mem_append, List.mem_singleton]
      have ne : (k : Int) ≠ kd t := fun h => e (by omega)
      by_cases hkm : (k : Int) ∈ ln.map kd
      · rw [if_pos hkm, if_pos (.inl hkm), idx_memI hkm]
      · rw [if_neg hkm, if_neg (by intro h; rcases h with h | h; exact hkm h; exact ne h)]
  · rw [List.getElem?_eq_none (by rw [hlen]; exact hk), List.getElem?_eq_none (by rw [hlen]; exact hk)]
    split
    · rw [if_neg (by rw [hlen]; omega)]
    · rfl
end Go.Proofs.Ytnnbofkcfooljaa.T
