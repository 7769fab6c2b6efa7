/- Least: split numbers keys by their first places. -/
import Derived.Test.YtnnbofkcfooljaaTvLa
namespace Go.Proofs.Ytnnbofkcfooljaa.T
open Go Go.Tv Go.Proofs

/-- The keys, each once, as they come. -/
def dist (B : Nat → List UInt8) : Nat → List (List UInt8)
  | 0 => []
  | s + 1 => if B s ∈ dist B s then dist B s else dist B s ++ [B s]
def kap (B : Nat → List UInt8) (n s : Nat) : Int := ((dist B n).idxOf (B s) : Int)
def seenFrom : Nat → List (List UInt8) → List (List UInt8 × Int)
  | _, [] => []
  | k, b :: d => (b, (k : Int)) :: seenFrom (k + 1) d

theorem dist_pre (B : Nat → List UInt8) (s : Nat) : ∀ j, ∃ l, dist B (s + j) = dist B s ++ l
  | 0 => ⟨[], by simp⟩
  | j + 1 => by
    obtain ⟨l, h⟩ := dist_pre B s j
    rw [show s + (j + 1) = (s + j) + 1 from rfl]
    simp only [dist]
    split
    · exact ⟨l, h⟩
    · exact ⟨l ++ [B (s + j)], by rw [h, List.append_assoc]⟩
theorem dist_mem {B : Nat → List UInt8} {s n : Nat} (h : s < n) : B s ∈ dist B n := by
  obtain ⟨l, e⟩ := dist_pre B (s + 1) (n - (s + 1))
  rw [show s + 1 + (n - (s + 1)) = n by omega] at e
  rw [e]
  refine List.mem_append_left _ ?_
  simp only [dist]
  split
  · assumption
  · simp
theorem dist_nodup (B : Nat → List UInt8) : ∀ n, (dist B n).Nodup
  | 0 => List.nodup_nil
  | n + 1 => by
    simp only [dist]
    split
    · exact dist_nodup B n
    · rename_i h
      refine List.nodup_append.2 ⟨dist_nodup B n, by simp, fun a ha b hb e => ?_⟩
      simp only [List.mem_singleton] at hb
      subst hb
      subst e
      exact h ha
theorem dist_of {B : Nat → List UInt8} : ∀ {n : Nat} {b : List UInt8}, b ∈ dist B n → ∃ s, s < n ∧ B s = b
  | 0, b, h => by simp [dist] at h
  | n + 1, b, h => by
    simp only [dist] at h
    split at h
    · obtain ⟨s, h1, h2⟩ := dist_of h
      exact ⟨s, by omega, h2⟩
    · rcases List.mem_append.1 h with h | h
      · obtain ⟨s, h1, h2⟩ := dist_of h
        exact ⟨s, by omega, h2⟩
      · simp at h
        exact ⟨n, by omega, h.symm⟩
theorem dist_length (B : Nat → List UInt8) : ∀ n, (dist B n).length ≤ n
  | 0 => by simp [dist]
  | n + 1 => by
    have := dist_length B n
    simp only [dist]
    split
    · omega
    · simp; omega

theorem idx_mem {b : List UInt8} : ∀ {d l : List (List UInt8)}, b ∈ d → (d ++ l).idxOf b = d.idxOf b
  | [], _, h => by simp at h
  | x :: d, l, h => by
    simp only [List.cons_append, List.idxOf_cons]
    by_cases e : x = b
    · subst e; simp
    · have : (x == b) = false := by simpa using e
      rw [this]
      rcases List.mem_cons.1 h with h | h
      · exact absurd h.symm e
      · rw [idx_mem (l := l) h]
theorem idx_not {b : List UInt8} : ∀ {d : List (List UInt8)}, b ∉ d → (d ++ [b]).idxOf b = d.length
  | [], _ => by simp
  | x :: d, h => by
    have e : (x == b) = false := by
      simp only [List.mem_cons, not_or] at h
      simpa using fun e => h.1 e.symm
    simp only [List.cons_append, List.idxOf_cons, e, cond_false, List.length_cons]
    rw [idx_not (fun hm => h (List.mem_cons_of_mem _ hm))]

theorem idx_pre {B : Nat → List UInt8} {s n : Nat} (h : s < n) : kap B n s = ((dist B (s + 1)).idxOf (B s) : Int) := by
  obtain ⟨l, e⟩ := dist_pre B (s + 1) (n - (s + 1))
  rw [show s + 1 + (n - (s + 1)) = n by omega] at e
  unfold kap
  rw [e, idx_mem (dist_mem (Nat.lt_succ_self s))]

theorem mfind_seen (b : List UInt8) : ∀ (d : List (List UInt8)) (k : Nat), mfind .str (seenFrom k d) b = if b ∈ d then some ((k + d.idxOf b : Nat) : Int) else none
  | [], k => rfl
  | x :: d, k => by
    have ih := mfind_seen b d (k + 1)
    simp only [seenFrom, mfind]
    by_cases e : x = b
    · subst e
      rw [if_pos ((keyEq_iff (K := .str) rfl).2 rfl)]
      simp
    · rw [if_neg (fun h => e ((keyEq_iff (K := .str) rfl).1 h)), ih]
      have e' : ¬ b = x := fun h => e h.symm
      by_cases hm : b ∈ d
      · rw [if_pos hm, if_pos (List.mem_cons_of_mem _ hm)]
        simp only [List.idxOf_cons]
        have : (x == b) = false := by simpa using e
        rw [this]
        simp only [cond_false, Option.some.injEq]
        omega
      · rw [if_neg hm, if_neg (by simp [e', hm])]
theorem seen_append (b : List UInt8) : ∀ (d : List (List UInt8)) (k : Nat), seenFrom k (d ++ [b]) = seenFrom k d ++ [(b, ((k + d.length : Nat) : Int))]
  | [], k => rfl
  | x :: d, k => by
    simp only [List.cons_append, seenFrom, seen_append b d (k + 1), List.length_cons]
    rw [show k + 1 + d.length = k + (d.length + 1) by omega]
theorem seen_length : ∀ (d : List (List UInt8)) (k : Nat), (seenFrom k d).length = d.length
  | [], k => rfl
  | x :: d, k => by simp [seenFrom, seen_length d (k + 1)]
theorem seen_keys : ∀ (d : List (List UInt8)) (k : Nat) (p : List UInt8 × Int), p ∈ seenFrom k d → p.1 ∈ d
  | [], k, p, h => by simp [seenFrom] at h
  | x :: d, k, p, h => by
    simp only [seenFrom, List.mem_cons] at h ⊢
    rcases h with rfl | h
    · exact .inl rfl
    · exact .inr (seen_keys d (k + 1) p h)

/-- One round of split, for any keys. -/
noncomputable def splitL (key : Int → List Int → Option (List Int)) (d1 : Int) : ((List ((List UInt8) × Int)) × (List Int) × (List Int) × Int) → Option (((List ((List UInt8) × Int)) × (List Int) × (List Int) × Int) ⊕ (List Int)) := fun ((v19, v20, v21, v22) : (List ((List UInt8) × Int)) × (List Int) × (List Int) × Int) =>
  (if (decide (v22 < d1)) = true then (if 0 ≤ (0 : Int) ∧ (0 : Int) ≤ (v21.length : Int) then ((key v22 (v21.take (0 : Int).toNat)).bind fun (r8 : List Int) =>
  ((iter (least_split_L1 r8) (([] : List Int), (0 : Int))).bind fun (v28 : List Int) => (((if (!((mfind .str v19 (bytesOf v28)).isSome)) = true then some (((mset .str v19 (bytesOf v28) (v19.length : Int)), (v19.length : Int)))
  else some ((v19, ((mfind .str v19 (bytesOf v28)).getD (0 : Int)))))).bind fun ((v29, v30) : (List ((List UInt8) × Int)) × Int) => (if 0 ≤ v22 ∧ v22 < (v20.length : Int) then (if v22.toNat < v20.length then some (Sum.inl (v29, (v20.set v22.toNat v30), r8, (IntKind.i64.wrap (v22 + (1 : Int))))) else none) else none)))) else none)
  else some (Sum.inr v20))

theorem split_is (i1 : List (List Int)) (i2 : List Int) (d : Int) : least_split_L2 d i1 i2 = splitL (fun s k => least_Make_1_v2 s i1 i2 k) d := rfl
theorem split1_is (i1 : List Int) (i2 : List (List Int)) (i3 : List Int) (d : Int) : least_split_v1_L2 d i1 i2 i3 = splitL (fun s k => least_Make_2_v2 s i1 i2 i3 k) d := rfl

def code (l : List Int) : List UInt8 := bytesOf (l.flatMap four)

theorem splitL_eq (key : Int → List Int → Option (List Int)) (K : Nat → List Int) (n : Nat) (hn : n ≤ 1000000) (hK : ∀ s, s < n → key (s : Int) [] = some (K s)) (hl : ∀ s, s < n → (K s).length ≤ 1000000) :
    iter (splitL key (n : Int)) (([] : List (List UInt8 × Int)), List.replicate n (0 : Int), ([] : List Int), (0 : Int)) = some ((List.range n).map (kap (fun s => code (K s)) n)) := by
  generalize hB : (fun s => code (K s)) = B
  have hBs : ∀ s, B s = code (K s) := fun s => by rw [← hB]
  have h := iter_count (body := splitL key (n : Int)) (fun s => (seenFrom 0 (dist B s), (List.range s).map (kap B n) ++ List.replicate (n - s) (0 : Int), (if s = 0 then [] else K (s - 1)), (s : Int))) n (r := (List.range n).map (kap B n)) (fun s hs => by
    simp only [splitL]
    rw [if_pos (by simpa using hs), if_pos ⟨by omega, by omega⟩]
    have e0 : (if s = 0 then ([] : List Int) else K (s - 1)).take (0 : Int).toNat = [] := by simp
    rw [e0, hK s hs]
    simp only [Option.bind_some]
    rw [bytes_eq (K s) (hl s hs)]
    simp only [Option.bind_some]
    have eb : bytesOf ((K s).flatMap four) = B s := (hBs s).symm
    rw [eb, mfind_seen]
    have hlen : ((List.range s).map (kap B n) ++ List.replicate (n - s) (0 : Int)).length = n := by simp; omega
    have hset : ∀ v : Int, v = kap B n s → ((List.range s).map (kap B n) ++ List.replicate (n - s) (0 : Int)).set s v = (List.range (s + 1)).map (kap B n) ++ List.replicate (n - (s + 1)) (0 : Int) := fun v hv => by
      subst hv
      rw [List.set_append_right _ _ (by simp), List.range_succ, List.map_append]
      simp only [List.length_map, List.length_range, Nat.sub_self, List.append_assoc]
      rw [show n - s = (n - (s + 1)) + 1 by omega, List.replicate_succ]
      rfl
    have hw : IntKind.i64.wrap ((s : Int) + 1) = ((s + 1 : Nat) : Int) := by rw [wrap_i64 (by omega) (by omega)]; omega
    by_cases hm : B s ∈ dist B s
    · have hd : dist B (s + 1) = dist B s := by simp only [dist]; rw [if_pos hm]
      rw [if_pos hm]
      simp only [Option.isSome_some, Bool.not_true, Bool.false_eq_true, if_false, Option.bind_some, Option.getD_some]
      rw [if_pos ⟨by omega, by rw [hlen]; omega⟩, if_pos (by rw [hlen]; simpa using hs), hw]
      simp only [Int.toNat_natCast]
      rw [hset _ (by rw [idx_pre hs, hd]; simp), hd]
      simp
    · have hd : dist B (s + 1) = dist B s ++ [B s] := by simp only [dist]; rw [if_neg hm]
      rw [if_neg hm]
      simp only [Option.isSome_none, Bool.not_false, if_true, Option.bind_some]
      rw [if_pos ⟨by omega, by rw [hlen]; omega⟩, if_pos (by rw [hlen]; simpa using hs), hw]
      simp only [Int.toNat_natCast]
      have hms : mset .str (seenFrom 0 (dist B s)) (B s) ((seenFrom 0 (dist B s)).length : Int) = seenFrom 0 (dist B (s + 1)) := by
        rw [mset_none (K := .str) rfl (fun p hp e => hm (by rw [← e]; exact seen_keys _ _ _ hp)), hd, seen_append, seen_length]
        simp
      rw [hms, hset _ (by rw [idx_pre hs, hd, idx_not hm, seen_length])]
      simp) (by simp [splitL])
  have h0 : (seenFrom 0 (dist B 0), (List.range 0).map (kap B n) ++ List.replicate (n - 0) (0 : Int), (if 0 = 0 then ([] : List Int) else K (0 - 1)), ((0 : Nat) : Int)) = (([] : List (List UInt8 × Int)), List.replicate n (0 : Int), ([] : List Int), (0 : Int)) := by simp [dist, seenFrom]
  rw [← h0]
  exact h
end Go.Proofs.Ytnnbofkcfooljaa.T
