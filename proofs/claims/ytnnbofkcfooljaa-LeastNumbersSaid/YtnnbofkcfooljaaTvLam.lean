/- Least: kinds by keys. -/
import Derived.Test.YtnnbofkcfooljaaTvT05xa
import Derived.Test.YtnnbofkcfooljaaTvT05xb
import Derived.Test.YtnnbofkcfooljaaTvY
namespace Go.Proofs.Ytnnbofkcfooljaa.T
open Go Go.Tv Go.Proofs

theorem most_eq (l : List Int) (hl : l.length ≤ 4611686018427387904) : least_most l = some (l.foldl max 0) := by
  unfold least_most
  have h := iter_count (body := least_most_L1 l) (fun k => ((l.take k).foldl max 0, (k : Int))) l.length (r := l.foldl max 0) (fun k hk => by
    have e : (l.take (k + 1)).foldl max 0 = max ((l.take k).foldl max 0) (l.getD k 0) := by
      rw [List.take_add_one, List.foldl_append]
      have : l[k]? = some l[k] := List.getElem?_eq_getElem hk
      simp [this, List.getD_eq_getElem?_getD]
    simp only [least_most_L1]
    rw [if_pos (by simpa using hk), if_pos ⟨by omega, by omega⟩, wrap_i64 (by omega) (by omega)]
    simp [e]) (by simp [least_most_L1])
  have h' : iter (least_most_L1 l) ((0 : Int), (0 : Int)) = some (l.foldl max 0) := h
  rw [h']
  rfl

/-- A number as four bytes. -/
def four (x : Int) : List Int := [IntKind.u8.wrap x, IntKind.u8.wrap (Int.fdiv x (2 ^ (min (8 : Int).toNat IntKind.i64.bits))), IntKind.u8.wrap (Int.fdiv x (2 ^ (min (16 : Int).toNat IntKind.i64.bits))), IntKind.u8.wrap (Int.fdiv x (2 ^ (min (24 : Int).toNat IntKind.i64.bits)))]

theorem bytes_eq (l : List Int) (hl : l.length ≤ 1000000) : iter (least_split_L1 l) (([] : List Int), (0 : Int)) = some (l.flatMap four) := by
  have h := iter_count (body := least_split_L1 l) (fun k => ((l.take k).flatMap four, (k : Int))) l.length (r := l.flatMap four) (fun k hk => by
    have e : (l.take (k + 1)).flatMap four = (l.take k).flatMap four ++ four (l.getD k 0) := by
      rw [List.take_add_one, List.flatMap_append]
      have : l[k]? = some l[k] := List.getElem?_eq_getElem hk
      simp [this, List.getD_eq_getElem?_getD]
    have hlen : ((l.take k).flatMap four).length = 4 * k := by
      have : ∀ m : List Int, (m.flatMap four).length = 4 * m.length := fun m => by
        induction m with
        | nil => rfl
        | cons x m ih => simp only [List.flatMap_cons, List.length_append, ih, four, List.length_cons, List.length_nil]; omega
      rw [this, List.length_take]; omega
    simp only [least_split_L1]
    rw [if_pos (by simpa using hk), if_pos ⟨by omega, by omega⟩, if_pos (by simpa using hk), if_pos (by omega), if_pos (by omega), if_pos (by omega)]
    rw [if_pos ⟨by rw [hlen]; simp only [List.length_cons, List.length_nil]; omega, by rw [hlen]; simp only [List.length_cons, List.length_nil]; omega⟩, wrap_i64 (by omega) (by omega)]
    simp only [Int.toNat_natCast, e]
    rfl) (by simp [least_split_L1])
  simpa using h
end Go.Proofs.Ytnnbofkcfooljaa.T
namespace Go.Proofs.Ytnnbofkcfooljaa.T
open Go Go.Tv Go.Proofs

/-- The keys, each once, as they come. -/
def dist (B : Nat → List UInt8) : Nat → List (List UInt8)
  | 0 => []
  | s + 1 => if B s ∈ dist B s then dist B s else dist B s ++ [B s]
def kap (B : Nat → List UInt8) (n s : Nat) : Int := ((dist B n).idxOf (B s) : Int)
def seenFrom : Nat → List (List UInt8) → List (List UInt8 × Int)
  | _, [] => []
  | k, b :: d => (b, (k : Int)) :: seenFrom (k + 1) d

theorem dist_pre (B : Nat → List UInt8) (s : Nat) : ∀ j, ∃ l, dist B (s + j) = dist B s ++ l
  | 0 => ⟨[], by simp⟩
  | j + 1 => by
    obtain ⟨l, h⟩ := dist_pre B s j
    rw [show s + (j + 1) = (s + j) + 1 from rfl]
    simp only [dist]
    split
    · exact ⟨l, h⟩
    · exact ⟨l ++ [B (s + j)], by rw [h, List.append_assoc]⟩
theorem dist_mem {B : Nat → List UInt8} {s n : Nat} (h : s < n) : B s ∈ dist B n := by
  obtain ⟨l, e⟩ := dist_pre B (s + 1) (n - (s + 1))
  rw [show s + 1 + (n - (s + 1)) = n by omega] at e
  rw [e]
  refine List.mem_append_left _ ?_
  simp only [dist]
  split
  · assumption
  · simp
theorem dist_nodup (B : Nat → List UInt8) : ∀ n, (dist B n).Nodup
  | 0 => List.nodup_nil
  | n + 1 => by
    simp only [dist]
    split
    · exact dist_nodup B n
    · rename_i h
      refine List.nodup_append.2 ⟨dist_nodup B n, by simp, fun a ha b hb e => ?_⟩
      simp only [List.mem_singleton] at hb
      subst hb
      subst e
      exact h ha
theorem dist_of {B : Nat → List UInt8} : ∀ {n : Nat} {b : List UInt8}, b ∈ dist B n → ∃ s, s < n ∧ B s = b
  | 0, b, h => by simp [dist] at h
  | n + 1, b, h => by
    simp only [dist] at h
    split at h
    · obtain ⟨s, h1, h2⟩ := dist_of h
      exact ⟨s, by omega, h2⟩
    · rcases List.mem_append.1 h with h | h
      · obtain ⟨s, h1, h2⟩ := dist_of h
        exact ⟨s, by omega, h2⟩
      · simp at h
        exact ⟨n, by omega, h.symm⟩
theorem dist_length (B : Nat → List UInt8) : ∀ n, (dist B n).length ≤ n
  | 0 => by simp [dist]
  | n + 1 => by
    have := dist_length B n
    simp only [dist]
    split
    · omega
    · simp; omega

theorem idx_mem {b : List UInt8} : ∀ {d l : List (List UInt8)}, b ∈ d → (d ++ l).idxOf b = d.idxOf b
  | [], _, h => by simp at h
  | x :: d, l, h => by
    simp only [List.cons_append, List.idxOf_cons]
    by_cases e : x = b
    · subst e; simp
    · have : (x == b) = false := by simpa using e
      rw [this]
      rcases List.mem_cons.1 h with h | h
      · exact absurd h.symm e
      · rw [idx_mem (l := l) h]
theorem idx_not {b : List UInt8} : ∀ {d : List (List UInt8)}, b ∉ d → (d ++ [b]).idxOf b = d.length
  | [], _ => by simp
  | x :: d, h => by
    have e : (x == b) = false := by
      simp only [List.mem_cons, not_or] at h
      simpa using fun e => h.1 e.symm
    simp only [List.cons_append, List.idxOf_cons, e, cond_false, List.length_cons]
    rw [idx_not (fun hm => h (List.mem_cons_of_mem _ hm))]

theorem idx_pre {B : Nat → List UInt8} {s n : Nat} (h : s < n) : kap B n s = ((dist B (s + 1)).idxOf (B s) : Int) := by
  obtain ⟨l, e⟩ := dist_pre B (s + 1) (n - (s + 1))
  rw [show s + 1 + (n - (s + 1)) = n by omega] at e
  unfold kap
  rw [e, idx_mem (dist_mem (Nat.lt_succ_self s))]

theorem mfind_seen (b : List UInt8) : ∀ (d : List (List UInt8)) (k : Nat), mfind .str (seenFrom k d) b = if b ∈ d then some ((k + d.idxOf b : Nat) : Int) else none
  | [], k => rfl
  | x :: d, k => by
    have ih := mfind_seen b d (k + 1)
    simp only [seenFrom, mfind]
    by_cases e : x = b
    · subst e
      rw [if_pos ((keyEq_iff (K := .str) rfl).2 rfl)]
      simp
    · rw [if_neg (fun h => e ((keyEq_iff (K := .str) rfl).1 h)), ih]
      have e' : ¬ b = x := fun h => e h.symm
      by_cases hm : b ∈ d
      · rw [if_pos hm, if_pos (List.mem_cons_of_mem _ hm)]
        simp only [List.idxOf_cons]
        have : (x == b) = false := by simpa using e
        rw [this]
        simp only [cond_false, Option.some.injEq]
        omega
      · rw [if_neg hm, if_neg (by simp [e', hm])]
theorem seen_append (b : List UInt8) : ∀ (d : List (List UInt8)) (k : Nat), seenFrom k (d ++ [b]) = seenFrom k d ++ [(b, ((k + d.length : Nat) : Int))]
  | [], k => rfl
  | x :: d, k => by
    simp only [List.cons_append, seenFrom, seen_append b d (k + 1), List.length_cons]
    rw [show k + 1 + d.length = k + (d.length + 1) by omega]
theorem seen_length : ∀ (d : List (List UInt8)) (k : Nat), (seenFrom k d).length = d.length
  | [], k => rfl
  | x :: d, k => by simp [seenFrom, seen_length d (k + 1)]
theorem seen_keys : ∀ (d : List (List UInt8)) (k : Nat) (p : List UInt8 × Int), p ∈ seenFrom k d → p.1 ∈ d
  | [], k, p, h => by simp [seenFrom] at h
  | x :: d, k, p, h => by
    simp only [seenFrom, List.mem_cons] at h ⊢
    rcases h with rfl | h
    · exact .inl rfl
    · exact .inr (seen_keys d (k + 1) p h)

/-- One round of split, for any keys. -/
noncomputable def splitL (key : Int → List Int → Option (List Int)) (d1 : Int) : ((List ((List UInt8) × Int)) × (List Int) × (List Int) × Int) → Option (((List ((List UInt8) × Int)) × (List Int) × (List Int) × Int) ⊕ (List Int)) := fun ((v19, v20, v21, v22) : (List ((List UInt8) × Int)) × (List Int) × (List Int) × Int) =>
  (if (decide (v22 < d1)) = true then (if 0 ≤ (0 : Int) ∧ (0 : Int) ≤ (v21.length : Int) then ((key v22 (v21.take (0 : Int).toNat)).bind fun (r8 : List Int) =>
  ((iter (least_split_L1 r8) (([] : List Int), (0 : Int))).bind fun (v28 : List Int) => (((if (!((mfind .str v19 (bytesOf v28)).isSome)) = true then some (((mset .str v19 (bytesOf v28) (v19.length : Int)), (v19.length : Int)))
  else some ((v19, ((mfind .str v19 (bytesOf v28)).getD (0 : Int)))))).bind fun ((v29, v30) : (List ((List UInt8) × Int)) × Int) => (if 0 ≤ v22 ∧ v22 < (v20.length : Int) then (if v22.toNat < v20.length then some (Sum.inl (v29, (v20.set v22.toNat v30), r8, (IntKind.i64.wrap (v22 + (1 : Int))))) else none) else none)))) else none)
  else some (Sum.inr v20))

theorem split_is (i1 : List (List Int)) (i2 : List Int) (d : Int) : least_split_L2 d i1 i2 = splitL (fun s k => least_Make_1_v2 s i1 i2 k) d := rfl
theorem split1_is (i1 : List Int) (i2 : List (List Int)) (i3 : List Int) (d : Int) : least_split_v1_L2 d i1 i2 i3 = splitL (fun s k => least_Make_2_v2 s i1 i2 i3 k) d := rfl

def code (l : List Int) : List UInt8 := bytesOf (l.flatMap four)

theorem splitL_eq (key : Int → List Int → Option (List Int)) (K : Nat → List Int) (n : Nat) (hn : n ≤ 1000000) (hK : ∀ s, s < n → key (s : Int) [] = some (K s)) (hl : ∀ s, s < n → (K s).length ≤ 1000000) :
    iter (splitL key (n : Int)) (([] : List (List UInt8 × Int)), List.replicate n (0 : Int), ([] : List Int), (0 : Int)) = some ((List.range n).map (kap (fun s => code (K s)) n)) := by
  generalize hB : (fun s => code (K s)) = B
  have hBs : ∀ s, B s = code (K s) := fun s => by rw [← hB]
  have h := iter_count (body := splitL key (n : Int)) (fun s => (seenFrom 0 (dist B s), (List.range s).map (kap B n) ++ List.replicate (n - s) (0 : Int), (if s = 0 then [] else K (s - 1)), (s : Int))) n (r := (List.range n).map (kap B n)) (fun s hs => by
    simp only [splitL]
    rw [if_pos (by simpa using hs), if_pos ⟨by omega, by omega⟩]
    have e0 : (if s = 0 then ([] : List Int) else K (s - 1)).take (0 : Int).toNat = [] := by simp
    rw [e0, hK s hs]
    simp only [Option.bind_some]
    rw [bytes_eq (K s) (hl s hs)]
    simp only [Option.bind_some]
    have eb : bytesOf ((K s).flatMap four) = B s := (hBs s).symm
    rw [eb, mfind_seen]
    have hlen : ((List.range s).map (kap B n) ++ List.replicate (n - s) (0 : Int)).length = n := by simp; omega
    have hset : ∀ v : Int, v = kap B n s → ((List.range s).map (kap B n) ++ List.replicate (n - s) (0 : Int)).set s v = (List.range (s + 1)).map (kap B n) ++ List.replicate (n - (s + 1)) (0 : Int) := fun v hv => by
      subst hv
      rw [List.set_append_right _ _ (by simp), List.range_succ, List.map_append]
      simp only [List.length_map, List.length_range, Nat.sub_self, List.append_assoc]
      rw [show n - s = (n - (s + 1)) + 1 by omega, List.replicate_succ]
      rfl
    have hw : IntKind.i64.wrap ((s : Int) + 1) = ((s + 1 : Nat) : Int) := by rw [wrap_i64 (by omega) (by omega)]; omega
    by_cases hm : B s ∈ dist B s
    · have hd : dist B (s + 1) = dist B s := by simp only [dist]; rw [if_pos hm]
      rw [if_pos hm]
      simp only [Option.isSome_some, Bool.not_true, Bool.false_eq_true, if_false, Option.bind_some, Option.getD_some]
      rw [if_pos ⟨by omega, by rw [hlen]; omega⟩, if_pos (by rw [hlen]; simpa using hs), hw]
      simp only [Int.toNat_natCast]
      rw [hset _ (by rw [idx_pre hs, hd]; simp), hd]
      simp
    · have hd : dist B (s + 1) = dist B s ++ [B s] := by simp only [dist]; rw [if_neg hm]
      rw [if_neg hm]
      simp only [Option.isSome_none, Bool.not_false, if_true, Option.bind_some]
      rw [if_pos ⟨by omega, by rw [hlen]; omega⟩, if_pos (by rw [hlen]; simpa using hs), hw]
      simp only [Int.toNat_natCast]
      have hms : mset .str (seenFrom 0 (dist B s)) (B s) ((seenFrom 0 (dist B s)).length : Int) = seenFrom 0 (dist B (s + 1)) := by
        rw [mset_none (K := .str) rfl (fun p hp e => hm (by rw [← e]; exact seen_keys _ _ _ hp)), hd, seen_append, seen_length]
        simp
      rw [hms, hset _ (by rw [idx_pre hs, hd, idx_not hm, seen_length])]
      simp) (by simp [splitL])
  have h0 : (seenFrom 0 (dist B 0), (List.range 0).map (kap B n) ++ List.replicate (n - 0) (0 : Int), (if 0 = 0 then ([] : List Int) else K (0 - 1)), ((0 : Nat) : Int)) = (([] : List (List UInt8 × Int)), List.replicate n (0 : Int), ([] : List Int), (0 : Int)) := by simp [dist, seenFrom]
  rw [← h0]
  exact h
end Go.Proofs.Ytnnbofkcfooljaa.T
namespace Go.Proofs.Ytnnbofkcfooljaa.T
open Go Go.Tv Go.Proofs

theorem u8_wrap (x : Int) : IntKind.u8.wrap x = x % 256 := by
  simp [IntKind.wrap, IntKind.bits, IntKind.signed]

def In32 (x : Int) : Prop := 0 ≤ x ∧ x < 4294967296

theorem four_eq (x : Int) : four x = [x % 256, (x / 256) % 256, (x / 65536) % 256, (x / 16777216) % 256] := by
  have e1 : ((2 : Int) ^ (min (8 : Int).toNat IntKind.i64.bits)) = 256 := by decide
  have e2 : ((2 : Int) ^ (min (16 : Int).toNat IntKind.i64.bits)) = 65536 := by decide
  have e3 : ((2 : Int) ^ (min (24 : Int).toNat IntKind.i64.bits)) = 16777216 := by decide
  unfold four
  rw [e1, e2, e3, u8_wrap, u8_wrap, u8_wrap, u8_wrap]
  rw [Int.fdiv_eq_ediv_of_nonneg _ (by decide), Int.fdiv_eq_ediv_of_nonneg _ (by decide), Int.fdiv_eq_ediv_of_nonneg _ (by decide)]

theorem four_inj {x y : Int} (hx : In32 x) (hy : In32 y) (h : bytesOf (four x) = bytesOf (four y)) : x = y := by
  rw [four_eq, four_eq] at h
  unfold In32 at hx hy
  simp only [bytesOf, List.map_cons, List.map_nil, List.cons.injEq, and_true] at h
  obtain ⟨h1, h2, h3, h4⟩ := h
  have key : ∀ a b : Int, 0 ≤ a → a < 256 → 0 ≤ b → b < 256 → UInt8.ofNat a.toNat = UInt8.ofNat b.toNat → a = b := fun a b a0 a1 b0 b1 e => by
    have := congrArg UInt8.toNat e
    simp only [UInt8.toNat_ofNat'] at this
    omega
  have k1 := key _ _ (by omega) (by omega) (by omega) (by omega) h1
  have k2 := key _ _ (by omega) (by omega) (by omega) (by omega) h2
  have k3 := key _ _ (by omega) (by omega) (by omega) (by omega) h3
  have k4 := key _ _ (by omega) (by omega) (by omega) (by omega) h4
  omega

theorem code_inj : ∀ {l l' : List Int}, l.length = l'.length → (∀ x ∈ l, In32 x) → (∀ x ∈ l', In32 x) → code l = code l' → l = l'
  | [], [], _, _, _, _ => rfl
  | [], _ :: _, h, _, _, _ => by simp at h
  | _ :: _, [], h, _, _, _ => by simp at h
  | x :: l, y :: l', hl, h1, h2, h => by
    have e : ∀ z m, code (z :: m) = bytesOf (four z) ++ code m := fun z m => by simp [code, bytesOf]
    rw [e, e] at h
    have hlen : (bytesOf (four x)).length = (bytesOf (four y)).length := by simp [bytesOf, four]
    obtain ⟨q1, q2⟩ := List.append_inj h hlen
    rw [four_inj (h1 x (by simp)) (h2 y (by simp)) q1, code_inj (by simpa using hl) (fun z hz => h1 z (by simp [hz])) (fun z hz => h2 z (by simp [hz])) q2]

theorem kap_eq {B : Nat → List UInt8} {n s t : Nat} (hs : s < n) (ht : t < n) : kap B n s = kap B n t ↔ B s = B t := by
  unfold kap
  constructor
  · intro h
    have h' : (dist B n).idxOf (B s) = (dist B n).idxOf (B t) := by omega
    have h1 : (dist B n)[(dist B n).idxOf (B s)]'(List.idxOf_lt_length_of_mem (dist_mem hs)) = B s := List.getElem_idxOf _
    have h2 : (dist B n)[(dist B n).idxOf (B t)]'(List.idxOf_lt_length_of_mem (dist_mem ht)) = B t := List.getElem_idxOf _
    rw [← h1, ← h2]
    congr 1
  · intro h; rw [h]

theorem kap_lt {B : Nat → List UInt8} {n s : Nat} (hs : s < n) : 0 ≤ kap B n s ∧ kap B n s < ((dist B n).length : Int) := by
  have := List.idxOf_lt_length_of_mem (dist_mem (B := B) hs)
  unfold kap
  omega

theorem foldl_max : ∀ (l : List Int) (a : Int), a ≤ l.foldl max a ∧ (∀ x ∈ l, x ≤ l.foldl max a) ∧ (l.foldl max a = a ∨ l.foldl max a ∈ l)
  | [], a => ⟨Int.le_refl _, by simp, .inl rfl⟩
  | x :: l, a => by
    obtain ⟨h1, h2, h3⟩ := foldl_max l (max a x)
    simp only [List.foldl_cons]
    refine ⟨by omega, fun y hy => ?_, ?_⟩
    · rcases List.mem_cons.1 hy with rfl | hy
      · omega
      · exact h2 y hy
    · rcases h3 with h3 | h3
      · rw [h3]
        rcases Int.le_total a x with h | h
        · right; rw [Int.max_eq_right h]; simp
        · left; exact Int.max_eq_left h
      · exact .inr (List.mem_cons_of_mem _ h3)

/-- The greatest kind tells how many there are. -/
theorem most_kap {B : Nat → List UInt8} {n : Nat} (hn : 0 < n) : ((List.range n).map (kap B n)).foldl max 0 = ((dist B n).length : Int) - 1 := by
  obtain ⟨h1, h2, h3⟩ := foldl_max ((List.range n).map (kap B n)) 0
  have hpos : 0 < (dist B n).length := List.length_pos_of_mem (dist_mem (B := B) hn)
  apply Int.le_antisymm
  · rcases h3 with h3 | h3
    · omega
    · obtain ⟨s, hs, e⟩ := List.mem_map.1 h3
      have := (kap_lt (B := B) (List.mem_range.1 hs)).2
      omega
  · obtain ⟨s, hs, e⟩ := dist_of (B := B) (n := n) (List.getElem_mem (l := dist B n) (n := (dist B n).length - 1) (by omega))
    have hk : kap B n s = ((dist B n).length : Int) - 1 := by
      unfold kap
      rw [e, (dist_nodup B n).idxOf_getElem]
      omega
    rw [← hk]
    exact h2 _ (List.mem_map.2 ⟨s, List.mem_range.2 hs, rfl⟩)
end Go.Proofs.Ytnnbofkcfooljaa.T
namespace Go.Proofs.Ytnnbofkcfooljaa.T
open Go Go.Tv Go.Proofs

/-- Finer keys: no fewer kinds; if as many, the same ones. -/
theorem finer {B B' : Nat → List UInt8} : ∀ n, (∀ s t, s < n → t < n → B' s = B' t → B s = B t) →
    (dist B n).length ≤ (dist B' n).length ∧ ((dist B n).length = (dist B' n).length → ∀ s t, s < n → t < n → B s = B t → B' s = B' t)
  | 0, _ => ⟨Nat.le_refl _, fun _ s t hs => absurd hs (by omega)⟩
  | n + 1, h => by
    obtain ⟨i1, i2⟩ := finer n fun s t hs ht => h s t (by omega) (by omega)
    simp only [dist]
    by_cases h' : B' n ∈ dist B' n
    · obtain ⟨s0, q1, q2⟩ := dist_of h'
      have q3 := h s0 n (by omega) (by omega) q2
      have hb : B n ∈ dist B n := by rw [← q3]; exact dist_mem q1
      rw [if_pos h', if_pos hb]
      refine ⟨i1, fun e s t hs ht est => ?_⟩
      have key : ∀ s, s < n → B s = B n → B' s = B' n := fun s hs est => by rw [← q2]; exact i2 e s s0 hs q1 (by rw [est, q3])
      rcases Nat.lt_or_ge s n with hs' | hs' <;> rcases Nat.lt_or_ge t n with ht' | ht'
      · exact i2 e s t hs' ht' est
      · obtain rfl : t = n := by omega
        exact key s hs' est
      · obtain rfl : s = n := by omega
        exact (key t ht' est.symm).symm
      · obtain rfl : s = n := by omega
        obtain rfl : t = s := by omega
        rfl
    · rw [if_neg h']
      by_cases hb : B n ∈ dist B n
      · rw [if_pos hb]
        simp only [List.length_append, List.length_cons, List.length_nil]
        exact ⟨by omega, fun e => absurd e (by omega)⟩
      · rw [if_neg hb]
        simp only [List.length_append, List.length_cons, List.length_nil]
        refine ⟨by omega, fun e s t hs ht est => ?_⟩
        rcases Nat.lt_or_ge s n with hs' | hs' <;> rcases Nat.lt_or_ge t n with ht' | ht'
        · exact i2 (by omega) s t hs' ht' est
        · obtain rfl : t = n := by omega
          exact absurd (by rw [← est]; exact dist_mem hs') hb
        · obtain rfl : s = n := by omega
          exact absurd (by rw [est]; exact dist_mem ht') hb
        · obtain rfl : s = n := by omega
          obtain rfl : t = s := by omega
          rfl

/-- An automaton of n states and c classes. -/
structure OkA (nx : List (List Int)) (ot : List Int) (n c : Nat) : Prop where
  hn : nx.length = n
  ho : ot.length = n
  pos : 0 < n
  small : n ≤ 1000
  cs : c ≤ 1000
  row : ∀ s, s < n → (nx.getD s []).length = c
  way : ∀ s k, s < n → k < c → 0 ≤ (nx.getD s []).getD k 0 ∧ (nx.getD s []).getD k 0 < (n : Int)
  out : ∀ s, s < n → In32 (ot.getD s 0)

def dl (nx : List (List Int)) (s k : Nat) : Nat := ((nx.getD s []).getD k 0).toNat

theorem OkA.dl_lt {nx : List (List Int)} {ot : List Int} {n c : Nat} (h : OkA nx ot n c) {s k : Nat} (hs : s < n) (hk : k < c) : dl nx s k < n := by
  have := h.way s k hs hk
  unfold dl
  omega

section
variable {nx : List (List Int)} {ot : List Int} {n c : Nat} (h : OkA nx ot n c)
include h

theorem key1 {s : Nat} (hs : s < n) : least_Make_1_v2 (s : Int) nx ot [] = some [ot.getD s 0] := by
  have ho := h.ho
  have hw : IntKind.i64.wrap (ot.getD s 0) = ot.getD s 0 := by
    obtain ⟨a, b⟩ := h.out s hs
    exact wrap_i64 (by omega) (by omega)
  unfold least_Make_1_v2
  simp only [Int.toNat_natCast, hw]
  rw [if_pos ⟨by omega, by omega⟩, if_pos ⟨by simp, by simp⟩]
  rfl

/-- A state's key in later rounds. -/
def key2 (kd : List Int) (nx : List (List Int)) (s : Nat) : List Int := kd.getD s 0 :: (nx.getD s []).map fun t => kd.getD t.toNat 0

theorem key2_eq {kd : List Int} (hk : kd.length = n) {s : Nat} (hs : s < n) : least_Make_2_v2 (s : Int) kd nx ot [] = some (key2 kd nx s) := by
  have hn := h.hn
  have hrow := h.row s hs
  have hc := h.cs
  unfold least_Make_2_v2
  simp only [Int.toNat_natCast, List.nil_append]
  rw [if_pos ⟨by omega, by omega⟩, if_pos ⟨by simp, by simp⟩, if_pos ⟨by omega, by omega⟩]
  have hi := iter_count (body := least_Make_2_v2_L1 (s : Int) kd nx) (fun k => (kd.getD s 0 :: ((nx.getD s []).take k).map (fun t => kd.getD t.toNat 0), (k : Int))) (nx.getD s []).length (r := key2 kd nx s) (fun k hkl => by
    have hw := h.way s k hs (by omega)
    have hg : (nx.getD s [])[k]? = some ((nx.getD s []).getD k 0) := by
      generalize nx.getD s [] = l at hkl
      rw [List.getD_eq_getElem?_getD, List.getElem?_eq_getElem hkl]; rfl
    have e : ((nx.getD s []).take (k + 1)).map (fun t => kd.getD t.toNat 0) = ((nx.getD s []).take k).map (fun t => kd.getD t.toNat 0) ++ [kd.getD ((nx.getD s []).getD k 0).toNat 0] := by
      rw [List.take_add_one, List.map_append, hg]
      rfl
    simp only [least_Make_2_v2_L1, Int.toNat_natCast]
    rw [if_pos (by simp only [decide_eq_true_eq]; omega), if_pos ⟨by omega, by omega⟩, if_pos ⟨by omega, by omega⟩]
    have hl : (((nx.getD s []).take k).map (fun t => kd.getD t.toNat 0)).length ≤ 1000 := by simp only [List.length_map, List.length_take]; omega
    rw [if_pos ⟨by simp only [List.length_cons, List.length_nil]; omega, by simp only [List.length_cons, List.length_nil]; omega⟩, wrap_i64 (by omega) (by omega), e]
    rfl) (by simp [least_Make_2_v2_L1, key2])
  have hi' : iter (least_Make_2_v2_L1 (s : Int) kd nx) ([kd.getD s 0], (0 : Int)) = some (key2 kd nx s) := hi
  rw [hi']
  rfl

theorem split1 : least_split (ot.length : Int) nx ot = some ((List.range n).map (kap (fun s => code [ot.getD s 0]) n)) := by
  have ho := h.ho
  have hs := h.small
  unfold least_split
  rw [ho, if_pos ⟨by omega, by omega, by omega, by omega⟩, split_is, Int.toNat_natCast]
  rw [splitL_eq (fun s k => least_Make_1_v2 s nx ot k) (fun s => [ot.getD s 0]) n (by omega) (fun s hs => key1 h hs) (fun s hs => by simp)]
  rfl

theorem split2 {kd : List Int} (hk : kd.length = n) : least_split_v1 (kd.length : Int) kd nx ot = some ((List.range n).map (kap (fun s => code (key2 kd nx s)) n)) := by
  have hs := h.small
  unfold least_split_v1
  rw [hk, if_pos ⟨by omega, by omega, by omega, by omega⟩, split1_is, Int.toNat_natCast]
  rw [splitL_eq (fun s k => least_Make_2_v2 s kd nx ot k) (fun s => key2 kd nx s) n (by omega) (fun s hs => key2_eq h hk hs) (fun s hs => by
    simp only [key2, List.length_cons, List.length_map, h.row s hs]
    have := h.cs
    omega)]
  rfl
end
end Go.Proofs.Ytnnbofkcfooljaa.T
namespace Go.Proofs.Ytnnbofkcfooljaa.T
open Go Go.Tv Go.Proofs

def run (nx : List (List Int)) (s : Nat) (w : List Nat) : Nat := w.foldl (dl nx) s
/-- Nothing tells them apart. -/
def Leq (nx : List (List Int)) (ot : List Int) (c s t : Nat) : Prop := ∀ w : List Nat, (∀ k ∈ w, k < c) → ot.getD (run nx s w) 0 = ot.getD (run nx t w) 0

theorem range_get {f : Nat → Int} {n s : Nat} (hs : s < n) : ((List.range n).map f).getD s 0 = f s := by
  rw [List.getD_eq_getElem?_getD, List.getElem?_map, List.getElem?_range hs]
  rfl

theorem leq_step {nx : List (List Int)} {ot : List Int} {c s t k : Nat} (hk : k < c) (e : Leq nx ot c s t) : Leq nx ot c (dl nx s k) (dl nx t k) := fun w hw =>
  e (k :: w) (by intro j hj; rcases List.mem_cons.1 hj with rfl | hj; exact hk; exact hw j hj)

section
variable {nx : List (List Int)} {ot : List Int} {n c : Nat} (h : OkA nx ot n c)
include h

theorem key2_code {B : Nat → List UInt8} {s t : Nat} (hs : s < n) (ht : t < n) :
    code (key2 ((List.range n).map (kap B n)) nx s) = code (key2 ((List.range n).map (kap B n)) nx t) ↔ B s = B t ∧ ∀ k, k < c → B (dl nx s k) = B (dl nx t k) := by
  have hsm := h.small
  have hk : ∀ s, s < n → In32 (kap B n s) := fun s hs => by
    obtain ⟨a, b⟩ := kap_lt (B := B) hs
    have := dist_length B n
    exact ⟨a, by omega⟩
  have hmem : ∀ s, s < n → ∀ x ∈ key2 ((List.range n).map (kap B n)) nx s, In32 x := fun s hs x hx => by
    simp only [key2, List.mem_cons, List.mem_map] at hx
    rcases hx with rfl | ⟨y, hy, rfl⟩
    · rw [range_get hs]; exact hk s hs
    · obtain ⟨j, hj⟩ := List.mem_iff_getElem?.1 hy
      have hjl : j < c := by rw [← h.row s hs]; exact (List.getElem?_eq_some_iff.1 hj).1
      have hw := h.way s j hs hjl
      have : (nx.getD s []).getD j 0 = y := by
        generalize nx.getD s [] = l at hj
        rw [List.getD_eq_getElem?_getD, hj]; rfl
      rw [this] at hw
      rw [range_get (by omega)]
      exact hk _ (by omega)
  have hget : ∀ s, s < n → ∀ k, k < c → ((nx.getD s []).map fun t => ((List.range n).map (kap B n)).getD t.toNat 0)[k]? = some (kap B n (dl nx s k)) := fun s hs k hkc => by
    have hl : k < (nx.getD s []).length := by rw [h.row s hs]; exact hkc
    have hd := h.dl_lt hs hkc
    have e : (nx.getD s [])[k]? = some ((nx.getD s []).getD k 0) := by
      generalize nx.getD s [] = l at hl
      rw [List.getD_eq_getElem?_getD, List.getElem?_eq_getElem hl]; rfl
    rw [List.getElem?_map, e]
    simp only [Option.map_some, Option.some.injEq]
    exact range_get (f := kap B n) hd
  have hlen : ∀ s, s < n → ((nx.getD s []).map fun t => ((List.range n).map (kap B n)).getD t.toNat 0).length = c := fun s hs => by rw [List.length_map, h.row s hs]
  constructor
  · intro e
    have e2 := code_inj (by simp only [key2, List.length_cons]; rw [hlen s hs, hlen t ht]) (hmem s hs) (hmem t ht) e
    simp only [key2, List.cons.injEq] at e2
    obtain ⟨q1, q2⟩ := e2
    rw [range_get hs, range_get ht] at q1
    refine ⟨(kap_eq hs ht).1 q1, fun k hkc => ?_⟩
    have := hget s hs k hkc
    rw [q2, hget t ht k hkc] at this
    exact (kap_eq (h.dl_lt hs hkc) (h.dl_lt ht hkc)).1 (Option.some.inj this).symm
  · rintro ⟨q1, q2⟩
    congr 1
    simp only [key2, List.cons.injEq]
    refine ⟨by rw [range_get hs, range_get ht]; exact (kap_eq hs ht).2 q1, List.ext_getElem? fun k => ?_⟩
    rcases Nat.lt_or_ge k c with hkc | hkc
    · rw [hget s hs k hkc, hget t ht k hkc, (kap_eq (h.dl_lt hs hkc) (h.dl_lt ht hkc)).2 (q2 k hkc)]
    · rw [List.getElem?_eq_none (by rw [hlen s hs]; exact hkc), List.getElem?_eq_none (by rw [hlen t ht]; exact hkc)]

theorem run_lt : ∀ (w : List Nat) {s : Nat}, s < n → (∀ k ∈ w, k < c) → run nx s w < n
  | [], s, hs, _ => hs
  | k :: w, s, hs, hw => run_lt w (h.dl_lt hs (hw k (by simp))) (fun k hk => hw k (by simp [hk]))

/-- The loop of Make: the last kinds. -/
theorem kinds_end : ∃ B : Nat → List UInt8, (least_split (ot.length : Int) nx ot).bind (iter (least_Make_L1 nx ot)) = some ((List.range n).map (kap B n)) ∧ ∀ s t, s < n → t < n → (B s = B t ↔ Leq nx ot c s t) := by
  rw [split1 h]
  simp only [Option.bind_some]
  have hsm := h.small
  have hmost : ∀ B : Nat → List UInt8, least_most ((List.range n).map (kap B n)) = some (((dist B n).length : Int) - 1) := fun B => by
    rw [most_eq _ (by simp; omega), most_kap h.pos]
  obtain ⟨r, h1, B, h2, h3⟩ := iter_rule (body := least_Make_L1 nx ot)
    (fun kd => ∃ B : Nat → List UInt8, kd = (List.range n).map (kap B n) ∧ (∀ s t, s < n → t < n → Leq nx ot c s t → B s = B t) ∧ (∀ s t, s < n → t < n → B s = B t → ot.getD s 0 = ot.getD t 0))
    (fun kd => n - (kd.foldl max 0).toNat)
    (fun kd => ∃ B : Nat → List UInt8, kd = (List.range n).map (kap B n) ∧ ∀ s t, s < n → t < n → (B s = B t ↔ Leq nx ot c s t))
    (fun kd ⟨B, hB, hc, ho⟩ => by
      have hl : kd.length = n := by rw [hB]; simp
      obtain ⟨f1, f2⟩ := finer (B := B) (B' := fun s => code (key2 kd nx s)) n (fun s t hs ht e => by
        simp only [hB] at e
        exact ((key2_code h hs ht).1 e).1)
      simp only [least_Make_L1]
      rw [split2 h hl]
      simp only [Option.bind_some]
      rw [hmost]
      simp only [Option.bind_some]
      have hmk : least_most kd = some (((dist B n).length : Int) - 1) := by rw [hB]; exact hmost B
      rw [hmk]
      simp only [Option.bind_some]
      by_cases e : (dist (fun s => code (key2 kd nx s)) n).length = (dist B n).length
      · right
        rw [if_pos (by simp [e])]
        refine ⟨kd, rfl, B, hB, fun s t hs ht => ⟨fun est => ?_, hc s t hs ht⟩⟩
        have stab : ∀ s t, s < n → t < n → B s = B t → ∀ k, k < c → B (dl nx s k) = B (dl nx t k) := fun s t hs ht est k hk => by
          have := f2 e.symm s t hs ht est
          simp only [hB] at this
          exact ((key2_code h hs ht).1 this).2 k hk
        have all : ∀ (w : List Nat) (s t : Nat), s < n → t < n → B s = B t → (∀ k ∈ w, k < c) → ot.getD (run nx s w) 0 = ot.getD (run nx t w) 0 := fun w => by
          induction w with
          | nil => intro s t hs ht est _; exact ho s t hs ht est
          | cons k w ih =>
            intro s t hs ht est hw
            have hk := hw k (by simp)
            exact ih _ _ (h.dl_lt hs hk) (h.dl_lt ht hk) (stab s t hs ht est k hk) (fun j hj => hw j (by simp [hj]))
        exact fun w hw => all w s t hs ht est hw
      · left
        rw [if_neg (by simp; omega)]
        refine ⟨_, rfl, ⟨fun s => code (key2 kd nx s), rfl, fun s t hs ht est => ?_, fun s t hs ht est => ?_⟩, ?_⟩
        · simp only [hB]
          exact (key2_code h hs ht).2 ⟨hc s t hs ht est, fun k hk => hc _ _ (h.dl_lt hs hk) (h.dl_lt ht hk) (leq_step hk est)⟩
        · simp only [hB] at est
          exact ho s t hs ht ((key2_code h hs ht).1 est).1
        · have hn := dist_length (fun s => code (key2 kd nx s)) n
          have hp : 0 < (dist B n).length := List.length_pos_of_mem (dist_mem (B := B) h.pos)
          have m1 : kd.foldl max 0 = ((dist B n).length : Int) - 1 := by rw [hB]; exact most_kap h.pos
          have m2 := most_kap (B := fun s => code (key2 kd nx s)) h.pos
          simp only [m1, m2]
          omega)
    (s := (List.range n).map (kap (fun s => code [ot.getD s 0]) n))
    ⟨_, rfl, fun s t hs ht e => by
      have := e [] (by simp)
      simp only [run, List.foldl_nil] at this
      rw [this], fun s t hs ht e => by
      have := code_inj (by simp) (fun x hx => by simp at hx; rw [hx]; exact h.out s hs) (fun x hx => by simp at hx; rw [hx]; exact h.out t ht) e
      simpa using this⟩
  exact ⟨B, by rw [h1, h2], h3⟩
end
end Go.Proofs.Ytnnbofkcfooljaa.T
namespace Go.Proofs.Ytnnbofkcfooljaa.T
open Go Go.Tv Go.Proofs

section
variable {nx : List (List Int)} {ot : List Int} {n c : Nat} (h : OkA nx ot n c)
include h

theorem check1 {s : Nat} (hs : s < n) : iter (least_Check_L1 nx (s : Int)) (0 : Int) = some (Sum.inl ()) := by
  have hn := h.hn
  have hc := h.cs
  have hrow := h.row s hs
  exact iter_count (body := least_Check_L1 nx (s : Int)) (fun k => (k : Int)) c (r := Sum.inl ()) (fun k hk => by
    have hw := h.way s k hs hk
    simp only [least_Check_L1, Int.toNat_natCast]
    rw [if_pos (by simp only [decide_eq_true_eq]; omega), if_pos ⟨by omega, by omega⟩, if_neg (by simp only [decide_eq_true_eq]; omega)]
    simp only [Option.bind_some]
    rw [if_neg (by simp only [decide_eq_true_eq]; omega), wrap_i64 (by omega) (by omega)]
    rfl) (by simp only [least_Check_L1, Int.toNat_natCast]; rw [if_neg (by simp only [decide_eq_true_eq]; omega)])

theorem check_true : least_Check nx ot = some true := by
  have hn := h.hn
  have ho := h.ho
  have hp := h.pos
  have hs := h.small
  have hi : iter (least_Check_L2 nx) (0 : Int) = some (Sum.inl ()) := iter_count (body := least_Check_L2 nx) (fun k => (k : Int)) n (r := Sum.inl ()) (fun k hk => by
    simp only [least_Check_L2, Int.toNat_natCast]
    have h0 : (nx.getD ((0 : Int).toNat) ([] : List Int)).length = c := h.row 0 hp
    rw [if_pos (by simp only [hn, decide_eq_true_eq]; omega), if_pos ⟨by omega, by omega⟩, if_pos ⟨by omega, by omega⟩, if_neg (by simp only [h.row k hk, h0]; simp), check1 h hk]
    simp only [Option.bind_some]
    rw [wrap_i64 (by omega) (by omega)]
    rfl) (by simp only [least_Check_L2]; rw [if_neg (by simp [hn])])
  unfold least_Check
  rw [if_neg (by simp only [beq_iff_eq]; omega)]
  simp only [Option.bind_some]
  rw [if_neg (by simp only [bne_iff_ne, ne_eq]; omega), hi]
  rfl

/-- Make of an automaton: number, by kinds that tell just what can be told apart. -/
theorem make_is : ∃ B : Nat → List UInt8, (∀ s t, s < n → t < n → (B s = B t ↔ Leq nx ot c s t)) ∧
    least_Make nx ot = (least_number nx ot ((List.range n).map (kap B n))).bind fun r => some ((r.1, r.2), (0 : Int)) := by
  obtain ⟨B, h1, h2⟩ := kinds_end h
  refine ⟨B, h2, ?_⟩
  unfold least_Make
  rw [check_true h]
  simp only [Option.bind_some, Bool.not_true, Bool.false_eq_true, if_false]
  cases hsp : least_split (ot.length : Int) nx ot with
  | none => rw [hsp] at h1; cases h1
  | some kd =>
    rw [hsp] at h1
    simp only [Option.bind_some] at h1 ⊢
    rw [h1]
    rfl
end
end Go.Proofs.Ytnnbofkcfooljaa.T
namespace Go.Proofs.Ytnnbofkcfooljaa.T
open Go Go.Tv Go.Proofs

theorem pigeon : ∀ (M : Nat) (l : List Nat), l.Nodup → (∀ x ∈ l, x < M) → l.length ≤ M
  | 0, l, _, h => by
    cases l with
    | nil => exact Nat.le_refl _
    | cons x l => exact absurd (h x (by simp)) (by omega)
  | M + 1, l, hn, h => by
    by_cases hm : M ∈ l
    · have h1 := pigeon M (l.erase M) (hn.erase M) fun x hx => by
        have := (hn.mem_erase_iff).1 hx
        have := h x this.2
        omega
      rw [List.length_erase_of_mem hm] at h1
      omega
    · have := pigeon M l hn fun x hx => by
        have h1 := h x hx
        have h2 : x ≠ M := fun e => hm (e ▸ hx)
        omega
      omega

/-- A state that is come to. -/
def add1 (kd : Nat → Int) (ln : List Nat) (t : Nat) : List Nat := if kd t ∈ ln.map kd then ln else ln ++ [t]
/-- The ways of one state. -/
def walk (kd : Nat → Int) : List Nat → List Nat → List Int → List Nat × List Int
  | ln, [], r => (ln, r)
  | ln, t :: ts, r => walk kd (add1 kd ln t) ts (r ++ [((ln.map kd).idxOf (kd t) : Int)])

def ways (nx : List (List Int)) (s : Nat) : List Nat := (nx.getD s []).map Int.toNat

/-- One state more. -/
def specB (kd : Nat → Int) (nx : List (List Int)) (ot : List Int) : (List (List Int) × List Int × List Nat × Nat) → Option ((List (List Int) × List Int × List Nat × Nat) ⊕ (List (List Int) × List Int)) := fun (N, O, ln, i) =>
  if i < ln.length then some (.inl (N ++ [(walk kd ln (ways nx (ln.getD i 0)) []).2], O ++ [ot.getD (ln.getD i 0) 0], (walk kd ln (ways nx (ln.getD i 0)) []).1, i + 1)) else some (.inr (N, O))

/-- Kinds apart, in [0, M), of states. -/
structure Lane (kd : Nat → Int) (n M : Nat) (ln : List Nat) : Prop where
  nodup : (ln.map kd).Nodup
  lt : ∀ s ∈ ln, s < n

theorem Lane.le {kd : Nat → Int} {n M : Nat} {ln : List Nat} (h : Lane kd n M ln) (hk : ∀ s, s < n → 0 ≤ kd s ∧ kd s < M) : ln.length ≤ M := by
  have h1 : (ln.map fun s => (kd s).toNat).Nodup := by
    have : ln.map (fun s => (kd s).toNat) = (ln.map kd).map Int.toNat := by simp
    rw [this, List.Nodup, List.pairwise_map]
    refine List.Pairwise.imp_of_mem (fun {a b} ha hb hab e => hab ?_) h.nodup
    obtain ⟨s, hs, rfl⟩ := List.mem_map.1 ha
    obtain ⟨t, ht, rfl⟩ := List.mem_map.1 hb
    have := hk s (h.lt s hs)
    have := hk t (h.lt t ht)
    omega
  have := pigeon M _ h1 fun x hx => by
    obtain ⟨s, hs, rfl⟩ := List.mem_map.1 hx
    have := hk s (h.lt s hs)
    omega
  simpa using this

theorem Lane.add {kd : Nat → Int} {n M : Nat} {ln : List Nat} (h : Lane kd n M ln) {t : Nat} (ht : t < n) : Lane kd n M (add1 kd ln t) := by
  unfold add1
  split
  · exact h
  · rename_i hm
    refine ⟨?_, fun s hs => ?_⟩
    · rw [List.map_append]
      refine List.nodup_append.2 ⟨h.nodup, by simp, fun a ha b hb e => ?_⟩
      simp only [List.map_cons, List.map_nil, List.mem_singleton] at hb
      subst hb
      subst e
      exact hm ha
    · rcases List.mem_append.1 hs with hs | hs
      · exact h.lt s hs
      · simp at hs; omega

theorem Lane.walked {kd : Nat → Int} {n M : Nat} : ∀ (ts ln : List Nat) (r : List Int), Lane kd n M ln → (∀ t ∈ ts, t < n) → Lane kd n M (walk kd ln ts r).1
  | [], _, _, h, _ => h
  | t :: ts, ln, r, h, ht => by
    simp only [walk]
    exact Lane.walked ts _ _ (h.add (ht t (by simp))) (fun s hs => ht s (by simp [hs]))

theorem walk_grows {kd : Nat → Int} : ∀ {ts ln : List Nat} {r : List Int}, ∃ l, (walk kd ln ts r).1 = ln ++ l
  | [], ln, _ => ⟨[], by simp [walk]⟩
  | t :: ts, ln, r => by
    obtain ⟨l, e⟩ := walk_grows (kd := kd) (ts := ts) (ln := add1 kd ln t) (r := r ++ [((ln.map kd).idxOf (kd t) : Int)])
    simp only [walk]
    rw [e]
    unfold add1
    split
    · exact ⟨l, rfl⟩
    · exact ⟨t :: l, by simp⟩

theorem walk_snoc {kd : Nat → Int} : ∀ (ts : List Nat) (ln : List Nat) (r : List Int) (t : Nat), walk kd ln (ts ++ [t]) r = (add1 kd (walk kd ln ts r).1 t, (walk kd ln ts r).2 ++ [(((walk kd ln ts r).1.map kd).idxOf (kd t) : Int)])
  | [], ln, r, t => rfl
  | x :: ts, ln, r, t => by simp only [List.cons_append, walk]; exact walk_snoc ts _ _ t

theorem walk_len {kd : Nat → Int} : ∀ (ts : List Nat) (ln : List Nat) (r : List Int), (walk kd ln ts r).2.length = r.length + ts.length
  | [], ln, r => by simp [walk]
  | x :: ts, ln, r => by simp only [walk, walk_len ts, List.length_append, List.length_cons, List.length_nil]; omega

/-- The table of places. -/
def placeOf (kd : Nat → Int) (M : Nat) (ln : List Nat) : List Int := (List.range M).map fun (k : Nat) => if (k : Int) ∈ ln.map kd then ((ln.map kd).idxOf (k : Int) : Int) else -1

theorem placeOf_get {kd : Nat → Int} {M : Nat} {ln : List Nat} {k : Nat} (hk : k < M) : (placeOf kd M ln).getD k 0 = if (k : Int) ∈ ln.map kd then ((ln.map kd).idxOf (k : Int) : Int) else -1 := range_get hk

theorem idx_memI {b : Int} : ∀ {d l : List Int}, b ∈ d → (d ++ l).idxOf b = d.idxOf b
  | [], _, h => by simp at h
  | x :: d, l, h => by
    simp only [List.cons_append, List.idxOf_cons]
    by_cases e : x = b
    · subst e; simp
    · have : (x == b) = false := by simpa using e
      rw [this]
      rcases List.mem_cons.1 h with h | h
      · exact absurd h.symm e
      · rw [idx_memI (l := l) h]
theorem idx_notI {b : Int} : ∀ {d l : List Int}, b ∉ d → (d ++ b :: l).idxOf b = d.length
  | [], _, _ => by simp
  | x :: d, l, h => by
    have e : (x == b) = false := by
      simp only [List.mem_cons, not_or] at h
      simpa using fun e => h.1 e.symm
    simp only [List.cons_append, List.idxOf_cons, e, cond_false, List.length_cons]
    rw [idx_notI (fun hm => h (List.mem_cons_of_mem _ hm))]

theorem placeOf_add {kd : Nat → Int} {M : Nat} {ln : List Nat} {t : Nat} (h0 : 0 ≤ kd t) (h1 : kd t < M) (hm : kd t ∉ ln.map kd) : (placeOf kd M ln).set (kd t).toNat (ln.length : Int) = placeOf kd M (ln ++ [t]) := by
  refine List.ext_getElem? fun k => ?_
  rw [List.getElem?_set]
  have hlen : ∀ l, (placeOf kd M l).length = M := fun l => by simp [placeOf]
  rcases Nat.lt_or_ge k M with hk | hk
  · have g : ∀ l, (placeOf kd M l)[k]? = some (if (k : Int) ∈ l.map kd then ((l.map kd).idxOf (k : Int) : Int) else -1) := fun l => by
      unfold placeOf
      rw [List.getElem?_map, List.getElem?_range hk]
      rfl
    by_cases e : (kd t).toNat = k
    · have ek : (k : Int) = kd t := by omega
      rw [if_pos e, if_pos (by rw [hlen]; omega), g, ek, List.map_append]
      simp only [List.map_cons, List.map_nil]
      rw [if_pos (by simp), idx_notI hm, List.length_map]
    · rw [if_neg e, g, g, List.map_append]
      simp only [List.map_cons, List.map_nil, List.mem_append, List.mem_singleton]
      have ne : (k : Int) ≠ kd t := fun h => e (by omega)
      by_cases hkm : (k : Int) ∈ ln.map kd
      · rw [if_pos hkm, if_pos (.inl hkm), idx_memI hkm]
      · rw [if_neg hkm, if_neg (by intro h; rcases h with h | h; exact hkm h; exact ne h)]
  · rw [List.getElem?_eq_none (by rw [hlen]; exact hk), List.getElem?_eq_none (by rw [hlen]; exact hk)]
    split
    · rw [if_neg (by rw [hlen]; omega)]
    · rfl
end Go.Proofs.Ytnnbofkcfooljaa.T
namespace Go.Proofs.Ytnnbofkcfooljaa.T
open Go Go.Tv Go.Proofs

def ints (l : List Nat) : List Int := l.map fun (x : Nat) => (x : Int)
theorem ints_len (l : List Nat) : (ints l).length = l.length := by simp [ints]
theorem ints_get {l : List Nat} {i : Nat} (hi : i < l.length) : ((ints l).getD i 0) = ((l.getD i 0 : Nat) : Int) := by
  simp [ints, List.getD_eq_getElem?_getD, hi]
theorem ints_add (l : List Nat) (t : Nat) : ints (l ++ [t]) = ints l ++ [(t : Int)] := by simp [ints]

theorem ways_lt {nx : List (List Int)} {ot : List Int} {n c : Nat} (h : OkA nx ot n c) {s : Nat} (hs : s < n) : ∀ t ∈ ways nx s, t < n := fun t ht => by
  simp only [ways, List.mem_map] at ht
  obtain ⟨x, hx, rfl⟩ := ht
  obtain ⟨j, hj⟩ := List.mem_iff_getElem?.1 hx
  have hjl : j < c := by rw [← h.row s hs]; exact (List.getElem?_eq_some_iff.1 hj).1
  have hw := h.way s j hs hjl
  have : (nx.getD s []).getD j 0 = x := by
    generalize nx.getD s [] = l at hj
    rw [List.getD_eq_getElem?_getD, hj]; rfl
  omega

section
variable {nx : List (List Int)} {ot : List Int} {n c : Nat} (h : OkA nx ot n c) {kd : Nat → Int} {M : Nat} (hM : M ≤ 1000) (hk : ∀ s, s < n → 0 ≤ kd s ∧ kd s < M)
include h hM hk

theorem number_L2 {ln : List Nat} (hl : Lane kd n M ln) {i : Nat} (hi : i < ln.length) :
    iter (least_number_L2 nx ((List.range n).map kd) (ints ln) (i : Int)) (placeOf kd M ln, ints ln, ([] : List Int), (0 : Int)) =
      some (placeOf kd M (walk kd ln (ways nx (ln.getD i 0)) []).1, ints (walk kd ln (ways nx (ln.getD i 0)) []).1, (walk kd ln (ways nx (ln.getD i 0)) []).2) := by
  have hsm := h.small
  have hs : ln.getD i 0 < n := by
    rw [List.getD_eq_getElem?_getD, List.getElem?_eq_getElem hi]
    exact hl.lt _ (List.getElem_mem hi)
  generalize hsd : ln.getD i 0 = s at hs ⊢
  have e1 : ((ints ln).getD i 0).toNat = s := by rw [ints_get hi, hsd]; simp
  have hrow := h.row s hs
  have hcs := h.cs
  have hpl : ∀ l, (placeOf kd M l).length = M := fun l => by simp [placeOf]
  have hwl : (ways nx s).length = c := by unfold ways; rw [List.length_map, hrow]
  have hall := ways_lt h hs
  have hi2 := iter_count (body := least_number_L2 nx ((List.range n).map kd) (ints ln) (i : Int))
    (fun k => (placeOf kd M (walk kd ln ((ways nx s).take k) []).1, ints (walk kd ln ((ways nx s).take k) []).1, (walk kd ln ((ways nx s).take k) []).2, (k : Int))) c
    (r := (placeOf kd M (walk kd ln (ways nx s) []).1, ints (walk kd ln (ways nx s) []).1, (walk kd ln (ways nx s) []).2)) (fun k hkc => by
      have hw := h.way s k hs hkc
      have hg : (ways nx s)[k]? = some ((nx.getD s []).getD k 0).toNat := by
        have hkl : k < (nx.getD s []).length := by omega
        unfold ways
        generalize nx.getD s [] = l at hkl
        rw [List.getElem?_map, List.getD_eq_getElem?_getD, List.getElem?_eq_getElem hkl]; rfl
      have hL := Lane.walked ((ways nx s).take k) ln [] hl (fun t ht => hall t (List.mem_of_mem_take ht))
      have hln := hL.le hk
      have hr := walk_len (kd := kd) ((ways nx s).take k) ln []
      have htk : (ways nx s).take (k + 1) = (ways nx s).take k ++ [((nx.getD s []).getD k 0).toNat] := by rw [List.take_add_one, hg]; rfl
      rw [htk, walk_snoc]
      simp only [List.length_take, List.length_nil, hwl] at hr
      generalize hW : walk kd ln ((ways nx s).take k) [] = W at hL hln hr
      obtain ⟨L, r⟩ := W
      simp only at hL hln hr ⊢
      simp only [least_number_L2, Int.toNat_natCast, e1]
      generalize hT : (nx.getD s []).getD k 0 = tI at hw
      have ekd : ((List.range n).map kd).getD tI.toNat 0 = kd tI.toNat := range_get (by omega)
      have hkt := hk tI.toNat (by omega)
      have hln2 : ((List.range n).map kd).length = n := by simp
      have hcast : ((kd tI.toNat).toNat : Int) = kd tI.toNat := by omega
      rw [ekd, if_pos (by simp only [decide_eq_true_eq]; omega), if_pos ⟨by omega, by omega⟩, if_pos ⟨by omega, by omega⟩, if_pos ⟨by omega, by rw [hpl]; omega⟩, if_pos (by rw [hpl]; omega)]
      have hpg : (placeOf kd M L).getD (kd tI.toNat).toNat 0 = if kd tI.toNat ∈ L.map kd then ((L.map kd).idxOf (kd tI.toNat) : Int) else -1 := by
        rw [placeOf_get (by omega), hcast]
      have hwr : IntKind.i64.wrap ((k : Int) + 1) = ((k + 1 : Nat) : Int) := by rw [wrap_i64 (by omega) (by omega)]; omega
      by_cases hm : kd tI.toNat ∈ L.map kd
      · rw [if_neg (by rw [hpg, if_pos hm]; simp only [decide_eq_true_eq]; omega)]
        simp only [Option.bind_some]
        rw [if_pos ⟨by omega, by omega⟩, if_pos ⟨by omega, by rw [hpl]; omega⟩, if_pos (by rw [hpl]; omega), if_pos ⟨by simp only [List.length_cons, List.length_nil]; omega, by simp only [List.length_cons, List.length_nil]; omega⟩, hpg, if_pos hm, hwr]
        simp only [add1, if_pos hm]
      · have e2 := placeOf_add (M := M) hkt.1 hkt.2 hm
        rw [if_pos (by rw [hpg, if_neg hm]; rfl), if_pos ⟨by omega, by omega⟩, if_pos ⟨by omega, by rw [hpl]; omega⟩, if_pos (by rw [hpl]; omega), if_pos ⟨by simp only [ints_len, List.length_cons, List.length_nil]; omega, by simp only [ints_len, List.length_cons, List.length_nil]; omega⟩]
        simp only [Option.bind_some, ints_len]
        have htc : ((tI.toNat : Nat) : Int) = tI := by omega
        have e3 : ints L ++ ([tI] : List Int) = ints (L ++ [tI.toNat]) := by rw [ints_add, htc]
        rw [e2, e3, if_pos ⟨by omega, by omega⟩, if_pos ⟨by omega, by rw [hpl]; omega⟩, if_pos (by rw [hpl]; omega), if_pos ⟨by simp only [List.length_cons, List.length_nil]; omega, by simp only [List.length_cons, List.length_nil]; omega⟩, hwr]
        have hpg2 : (placeOf kd M (L ++ [tI.toNat])).getD (kd tI.toNat).toNat 0 = ((L.map kd).idxOf (kd tI.toNat) : Int) := by
          rw [placeOf_get (by omega), hcast, List.map_append]
          simp only [List.map_cons, List.map_nil]
          rw [if_pos (by simp), idx_notI hm, List.idxOf_eq_length hm]
        rw [hpg2]
        simp only [add1, if_neg hm])
    (by
      simp only [least_number_L2, Int.toNat_natCast, e1]
      rw [if_neg (by simp only [decide_eq_true_eq]; omega), List.take_of_length_le (by omega)])
  exact hi2
end
end Go.Proofs.Ytnnbofkcfooljaa.T
namespace Go.Proofs.Ytnnbofkcfooljaa.T
open Go Go.Tv Go.Proofs

section
variable {nx : List (List Int)} {ot : List Int} {n c : Nat} (h : OkA nx ot n c) {kd : Nat → Int} {M : Nat} (hM : M ≤ 1000) (hk : ∀ s, s < n → 0 ≤ kd s ∧ kd s < M)
include h hM hk

/-- The spec ends. -/
theorem spec_ends : ∃ r, iter (specB kd nx ot) (([] : List (List Int)), ([] : List Int), [0], 0) = some r ∧ True := by
  refine iter_rule (body := specB kd nx ot) (fun st => Lane kd n M st.2.2.1) (fun st => (M - st.2.2.1.length) * (M + 1) + (st.2.2.1.length - st.2.2.2)) (fun _ => True) ?_ (s := (([] : List (List Int)), ([] : List Int), [0], 0)) ⟨by simp, by simp [h.pos]⟩
  rintro ⟨N, O, ln, i⟩ hl
  simp only at hl
  simp only [specB]
  by_cases hi : i < ln.length
  · left
    rw [if_pos hi]
    have hs : ln.getD i 0 < n := by
      rw [List.getD_eq_getElem?_getD, List.getElem?_eq_getElem hi]
      exact hl.lt _ (List.getElem_mem hi)
    have h2 := Lane.walked (ways nx (ln.getD i 0)) ln [] hl (ways_lt h hs)
    refine ⟨_, rfl, h2, ?_⟩
    obtain ⟨l, e⟩ := walk_grows (kd := kd) (ts := ways nx (ln.getD i 0)) (ln := ln) (r := [])
    have h3 := h2.le hk
    rw [e] at h3
    simp only [e, List.length_append] at h3 ⊢
    have h4 : (M - (ln.length + l.length)) * (M + 1) + l.length * (M + 1) = (M - ln.length) * (M + 1) := by rw [← Nat.add_mul]; congr 1; omega
    have h5 : l.length ≤ l.length * (M + 1) := Nat.le_mul_of_pos_right _ (by omega)
    omega
  · right
    rw [if_neg hi]
    exact ⟨_, rfl, trivial⟩

theorem number_eq (hmost : ((List.range n).map kd).foldl max 0 = (M : Int) - 1) : least_number nx ot ((List.range n).map kd) = iter (specB kd nx ot) (([] : List (List Int)), ([] : List Int), [0], 0) := by
  obtain ⟨r, hr, _⟩ := spec_ends h hM hk
  rw [hr]
  have hsm := h.small
  have hn := h.hn
  have ho := h.ho
  have hp := h.pos
  have hk0 := hk 0 hp
  have hpl : ∀ l, (placeOf kd M l).length = M := fun l => by simp [placeOf]
  obtain ⟨r', h1, h2⟩ := iter_sim (body := specB kd nx ot) (body' := least_number_L3 nx ot ((List.range n).map kd))
    (fun st st' => st'.1 = st.1 ∧ st'.2.1 = st.2.1 ∧ st'.2.2.1 = placeOf kd M st.2.2.1 ∧ st'.2.2.2.1 = ints st.2.2.1 ∧ st'.2.2.2.2 = (st.2.2.2 : Int) ∧ Lane kd n M st.2.2.1 ∧ st.1.length = st.2.2.2 ∧ st.2.1.length = st.2.2.2 ∧ st.2.2.2 ≤ st.2.2.1.length)
    (fun r r' => r' = r)
    (fun ⟨N, O, ln, i⟩ ⟨N', O', pl, line, i'⟩ o ⟨e1, e2, e3, e4, e5, hl, l1, l2, l3⟩ hb => by
      simp only at e1 e2 e3 e4 e5 hl l1 l2 l3
      subst e1 e2 e3 e4 e5
      have hle := hl.le hk
      simp only [specB] at hb
      by_cases hi : i < ln.length
      · rw [if_pos hi] at hb
        obtain rfl := Option.some.inj hb
        have hs : ln.getD i 0 < n := by
          rw [List.getD_eq_getElem?_getD, List.getElem?_eq_getElem hi]
          exact hl.lt _ (List.getElem_mem hi)
        have h2 := Lane.walked (ways nx (ln.getD i 0)) ln [] hl (ways_lt h hs)
        obtain ⟨l, eg⟩ := walk_grows (kd := kd) (ts := ways nx (ln.getD i 0)) (ln := ln) (r := [])
        have hlg : i < (walk kd ln (ways nx (ln.getD i 0)) []).1.length := by rw [eg, List.length_append]; omega
        have hgg : (walk kd ln (ways nx (ln.getD i 0)) []).1.getD i 0 = ln.getD i 0 := by
          rw [eg, List.getD_eq_getElem?_getD, List.getD_eq_getElem?_getD, List.getElem?_append_left hi]
        have g1 := ints_get hi
        have g2 := ints_get hlg
        rw [hgg] at g2
        refine ⟨.inl (N' ++ [(walk kd ln (ways nx (ln.getD i 0)) []).2], O' ++ [ot.getD (ln.getD i 0) 0], placeOf kd M (walk kd ln (ways nx (ln.getD i 0)) []).1, ints (walk kd ln (ways nx (ln.getD i 0)) []).1, ((i + 1 : Nat) : Int)), ?_, rfl, rfl, rfl, rfl, rfl, h2, by simp [l1], by simp [l2], hlg⟩
        simp only [least_number_L3]
        rw [if_pos (by simp only [ints_len, decide_eq_true_eq]; omega), if_pos ⟨by omega, by rw [ints_len]; omega⟩, if_pos (by rw [ints_len]; omega)]
        simp only [Int.toNat_natCast]
        rw [g1, if_pos ⟨by omega, by omega⟩, number_L2 h hM hk hl hi]
        simp only [Option.bind_some]
        rw [if_pos ⟨by simp only [List.length_cons, List.length_nil]; omega, by simp only [List.length_cons, List.length_nil]; omega⟩, if_pos ⟨by omega, by rw [ints_len]; omega⟩, if_pos (by rw [ints_len]; omega), g2, if_pos ⟨by omega, by omega⟩]
        rw [if_pos ⟨by simp only [List.length_cons, List.length_nil]; omega, by simp only [List.length_cons, List.length_nil]; omega⟩, wrap_i64 (by omega) (by omega)]
        simp only [Int.toNat_natCast]
        rfl
      · rw [if_neg hi] at hb
        obtain rfl := Option.some.inj hb
        refine ⟨.inr (N', O'), ?_, rfl⟩
        simp only [least_number_L3]
        rw [if_neg (by simp only [ints_len, decide_eq_true_eq]; omega)])
    (s := (([] : List (List Int)), ([] : List Int), [0], 0)) (s' := (([] : List (List Int)), ([] : List Int), placeOf kd M [0], [(0 : Int)], (0 : Int)))
    ⟨rfl, rfl, rfl, rfl, rfl, ⟨by simp, by simp [hp]⟩, rfl, rfl, by simp⟩ hr
  have hfill : iter (least_number_L1 ((M : Int) - 1)) (List.replicate M (0 : Int), (0 : Int)) = some (List.replicate M (-1 : Int)) := by
    have hwM : IntKind.i64.wrap ((M : Int) - 1 + 1) = (M : Int) := by rw [wrap_i64 (by omega) (by omega)]; omega
    have := iter_count (body := least_number_L1 ((M : Int) - 1)) (fun k => (List.replicate k (-1 : Int) ++ List.replicate (M - k) (0 : Int), (k : Int))) M (r := List.replicate M (-1 : Int)) (fun k hkM => by
      simp only [least_number_L1, hwM, Int.toNat_natCast, List.length_replicate]
      rw [if_pos (by simp only [decide_eq_true_eq]; omega), if_pos ⟨by omega, by simp only [List.length_append, List.length_replicate]; omega⟩, if_pos (by simp only [List.length_append, List.length_replicate]; omega), wrap_i64 (by omega) (by omega)]
      have e : (List.replicate k (-1 : Int) ++ List.replicate (M - k) (0 : Int)).set k (-1 : Int) = List.replicate (k + 1) (-1 : Int) ++ List.replicate (M - (k + 1)) (0 : Int) := by
        rw [List.set_append_right _ _ (by simp), List.length_replicate, Nat.sub_self, show M - k = (M - (k + 1)) + 1 by omega, List.replicate_succ, List.set_cons_zero, List.replicate_succ', List.append_assoc]
        rfl
      rw [e]
      rfl) (by
        simp only [least_number_L1, hwM, Int.toNat_natCast, List.length_replicate]
        rw [if_neg (by simp)]
        simp)
    simpa using this
  unfold least_number
  rw [most_eq _ (by simp; omega), hmost]
  simp only [Option.bind_some]
  have hwM : IntKind.i64.wrap ((M : Int) - 1 + 1) = (M : Int) := by rw [wrap_i64 (by omega) (by omega)]; omega
  have hMp : 0 < M := by omega
  have ek0 : ((List.range n).map kd).getD ((0 : Int).toNat) 0 = kd 0 := range_get hp
  have hset : (List.replicate M (-1 : Int)).set (kd 0).toNat (0 : Int) = placeOf kd M [0] := by
    have e := placeOf_add (kd := kd) (M := M) (ln := []) (t := 0) hk0.1 hk0.2 (by simp)
    have e2 : placeOf kd M [] = List.replicate M (-1 : Int) := by
      unfold placeOf
      refine List.ext_getElem? fun k => ?_
      rw [List.getElem?_map, List.getElem?_replicate]
      rcases Nat.lt_or_ge k M with hkm | hkm
      · rw [List.getElem?_range hkm, if_pos hkm]; simp
      · rw [List.getElem?_eq_none (by simp; omega), if_neg (by omega)]; rfl
    rw [e2] at e
    exact e
  rw [hwM, if_pos ⟨by omega, by omega, by omega, by omega⟩, Int.toNat_natCast, hfill]
  simp only [Option.bind_some]
  rw [ek0, if_pos ⟨by omega, by simp; omega⟩, if_pos ⟨by omega, by simp only [List.length_replicate]; omega⟩, if_pos (by simp only [List.length_replicate]; omega), hset, h1, h2]
  rfl
end
end Go.Proofs.Ytnnbofkcfooljaa.T
namespace Go.Proofs.Ytnnbofkcfooljaa.T
open Go Go.Tv Go.Proofs

inductive All2 (R : Nat → Nat → Prop) : List Nat → List Nat → Prop where
  | nil : All2 R [] []
  | cons {a b : Nat} {l m : List Nat} : R a b → All2 R l m → All2 R (a :: l) (b :: m)

section
variable {R : Nat → Nat → Prop}
theorem All2.length : ∀ {l m : List Nat}, All2 R l m → l.length = m.length
  | _, _, .nil => rfl
  | _, _, .cons _ h => by simp [h.length]
theorem All2.get : ∀ {l m : List Nat}, All2 R l m → ∀ {i : Nat}, i < l.length → R (l.getD i 0) (m.getD i 0)
  | _, _, .cons h _, 0, _ => h
  | _, _, .cons _ h, i + 1, hi => by simpa using h.get (i := i) (by simpa using hi)
theorem All2.snoc {a b : Nat} (hab : R a b) : ∀ {l m : List Nat}, All2 R l m → All2 R (l ++ [a]) (m ++ [b])
  | _, _, .nil => .cons hab .nil
  | _, _, .cons h r => .cons h (r.snoc hab)
theorem All2.of_get : ∀ {l m : List Nat}, l.length = m.length → (∀ i, i < l.length → R (l.getD i 0) (m.getD i 0)) → All2 R l m
  | [], [], _, _ => .nil
  | [], _ :: _, h, _ => by simp at h
  | _ :: _, [], h, _ => by simp at h
  | a :: l, b :: m, h, g => .cons (g 0 (by simp)) (All2.of_get (by simpa using h) fun i hi => by simpa using g (i + 1) (by simpa using hi))

variable {kd kd' : Nat → Int} (Rk : ∀ s t s' t', R s t → R s' t' → (kd s = kd s' ↔ kd' t = kd' t'))
include Rk

theorem side_mem {t t' : Nat} (ht : R t t') : ∀ {l m : List Nat}, All2 R l m → (kd t ∈ l.map kd ↔ kd' t' ∈ m.map kd') ∧ (l.map kd).idxOf (kd t) = (m.map kd').idxOf (kd' t')
  | _, _, .nil => by simp
  | _, _, .cons (a := a) (b := b) h r => by
    obtain ⟨i1, i2⟩ := side_mem ht r
    have e := Rk t t' a b ht h
    have e' := Rk a b t t' h ht
    simp only [List.map_cons, List.mem_cons, List.idxOf_cons, i2, e, i1]
    refine ⟨trivial, ?_⟩
    by_cases q : kd a = kd t
    · have q' := e'.1 q
      simp [q, q']
    · have q' : ¬ kd' b = kd' t' := fun h => q (e'.2 h)
      have b1 : (kd a == kd t) = false := by simpa using q
      have b2 : (kd' b == kd' t') = false := by simpa using q'
      rw [b1, b2]

theorem side_walk : ∀ {ts ts' : List Nat}, All2 R ts ts' → ∀ {ln ln' : List Nat} (r : List Int), All2 R ln ln' → All2 R (walk kd ln ts r).1 (walk kd' ln' ts' r).1 ∧ (walk kd ln ts r).2 = (walk kd' ln' ts' r).2
  | _, _, .nil, _, _, r, hl => ⟨hl, rfl⟩
  | _, _, .cons (a := a) (b := b) h q, ln, ln', r, hl => by
    obtain ⟨i1, i2⟩ := side_mem Rk h hl
    simp only [walk, i2]
    refine side_walk q _ ?_
    unfold add1
    by_cases hm : kd a ∈ ln.map kd
    · rw [if_pos hm, if_pos (i1.1 hm)]; exact hl
    · rw [if_neg hm, if_neg (fun h => hm (i1.2 h))]; exact hl.snoc h

theorem spec_sim {nx nx' : List (List Int)} {ot ot' : List Int} (R0 : R 0 0) (Rw : ∀ s t, R s t → All2 R (ways nx s) (ways nx' t)) (Ro : ∀ s t, R s t → ot.getD s 0 = ot'.getD t 0) {r : List (List Int) × List Int}
    (hr : iter (specB kd nx ot) (([] : List (List Int)), ([] : List Int), [0], 0) = some r) : iter (specB kd' nx' ot') (([] : List (List Int)), ([] : List Int), [0], 0) = some r := by
  obtain ⟨r', h1, h2⟩ := iter_sim (body := specB kd nx ot) (body' := specB kd' nx' ot') (fun st st' => st'.1 = st.1 ∧ st'.2.1 = st.2.1 ∧ All2 R st.2.2.1 st'.2.2.1 ∧ st'.2.2.2 = st.2.2.2) (fun r r' => r' = r)
    (fun ⟨N, O, ln, i⟩ ⟨N', O', ln', i'⟩ o ⟨e1, e2, e3, e4⟩ hb => by
      simp only at e1 e2 e3 e4
      subst e1 e2 e4
      have hlen := e3.length
      simp only [specB] at hb ⊢
      by_cases hi : i' < ln.length
      · rw [if_pos hi] at hb
        obtain rfl := Option.some.inj hb
        have hR := e3.get hi
        obtain ⟨w1, w2⟩ := side_walk Rk (Rw _ _ hR) [] e3
        refine ⟨.inl (N' ++ [(walk kd' ln' (ways nx' (ln'.getD i' 0)) []).2], O' ++ [ot'.getD (ln'.getD i' 0) 0], (walk kd' ln' (ways nx' (ln'.getD i' 0)) []).1, i' + 1), by rw [if_pos (by omega)], ?_⟩
        exact ⟨by rw [w2], by rw [Ro _ _ hR], w1, rfl⟩
      · rw [if_neg hi] at hb
        obtain rfl := Option.some.inj hb
        exact ⟨.inr (N', O'), by rw [if_neg (by omega)], rfl⟩) ⟨rfl, rfl, .cons R0 .nil, rfl⟩ hr
  rw [h1, h2]
end

/-- Make of two automata that go side by side. -/
theorem make_sim {R : Nat → Nat → Prop} {nx nx' : List (List Int)} {ot ot' : List Int} {n n' c : Nat} (h : OkA nx ot n c) (h' : OkA nx' ot' n' c) (R0 : R 0 0) (Rl : ∀ s t, R s t → s < n ∧ t < n')
    (Rw : ∀ s t, R s t → ∀ k, k < c → R (dl nx s k) (dl nx' t k)) (Ro : ∀ s t, R s t → ot.getD s 0 = ot'.getD t 0) :
    ∃ x, least_Make nx ot = some (x, 0) ∧ least_Make nx' ot' = some (x, 0) := by
  obtain ⟨B, hB, e⟩ := make_is h
  obtain ⟨B', hB', e'⟩ := make_is h'
  have hd := dist_length B n
  have hd' := dist_length B' n'
  have hs := h.small
  have hs' := h'.small
  have hk : ∀ s, s < n → 0 ≤ kap B n s ∧ kap B n s < ((dist B n).length : Nat) := fun s hs => kap_lt hs
  have hk' : ∀ s, s < n' → 0 ≤ kap B' n' s ∧ kap B' n' s < ((dist B' n').length : Nat) := fun s hs => kap_lt hs
  have q := number_eq h (by omega) hk (most_kap h.pos)
  have q' := number_eq h' (by omega) hk' (most_kap h'.pos)
  obtain ⟨r, hr, _⟩ := spec_ends h (by omega) hk
  have run : ∀ w s t, R s t → (∀ k ∈ w, k < c) → R (run nx s w) (T.run nx' t w) := fun w => by
    induction w with
    | nil => intro s t hR _; exact hR
    | cons k w ih => intro s t hR hw; exact ih _ _ (Rw s t hR k (hw k (by simp))) (fun j hj => hw j (by simp [hj]))
  have Rk : ∀ s t s' t', R s t → R s' t' → (kap B n s = kap B n s' ↔ kap B' n' t = kap B' n' t') := fun s t s' t' a b => by
    obtain ⟨a1, a2⟩ := Rl s t a
    obtain ⟨b1, b2⟩ := Rl s' t' b
    rw [kap_eq a1 b1, kap_eq a2 b2, hB s s' a1 b1, hB' t t' a2 b2]
    constructor
    · intro e w hw
      rw [← Ro _ _ (run w s t a hw), ← Ro _ _ (run w s' t' b hw)]
      exact e w hw
    · intro e w hw
      rw [Ro _ _ (run w s t a hw), Ro _ _ (run w s' t' b hw)]
      exact e w hw
  have hg : ∀ (nx : List (List Int)) s k, (ways nx s).getD k 0 = dl nx s k := fun nx s k => by
    unfold ways dl
    generalize nx.getD s [] = l
    rw [List.getD_eq_getElem?_getD, List.getD_eq_getElem?_getD, List.getElem?_map]
    cases l[k]? <;> rfl
  have hr' := spec_sim (nx := nx) (nx' := nx') (ot := ot) (ot' := ot') Rk R0 (fun s t hR => by
    obtain ⟨a1, a2⟩ := Rl s t hR
    refine All2.of_get (by unfold ways; rw [List.length_map, List.length_map, h.row s a1, h'.row t a2]) fun k hkl => ?_
    rw [hg, hg]
    refine Rw s t hR k ?_
    unfold ways at hkl
    rwa [List.length_map, h.row s a1] at hkl) Ro hr
  exact ⟨r, by rw [e, q, hr]; rfl, by rw [e', q', hr']; rfl⟩
end Go.Proofs.Ytnnbofkcfooljaa.T
namespace Go.Proofs.Ytnnbofkcfooljaa.T
open Go Go.Tv Go.Proofs

/-- What Make answers is small. -/
def Small (x : List (List Int) × List Int) : Prop := x.1.length ≤ 1000 ∧ x.2.length = x.1.length ∧ ∀ l ∈ x.1, l.length ≤ 1000

theorem spec_small {nx : List (List Int)} {ot : List Int} {n c : Nat} (h : OkA nx ot n c) {kd : Nat → Int} {M : Nat} (hM : M ≤ 1000) (hk : ∀ s, s < n → 0 ≤ kd s ∧ kd s < M) {r : List (List Int) × List Int}
    (hr : iter (specB kd nx ot) (([] : List (List Int)), ([] : List Int), [0], 0) = some r) : Small r := by
  obtain ⟨r', h1, h2⟩ := iter_sim (body := specB kd nx ot) (body' := specB kd nx ot) (fun st st' => st' = st ∧ Lane kd n M st.2.2.1 ∧ st.2.2.2 ≤ st.2.2.1.length ∧ st.1.length = st.2.2.2 ∧ st.2.1.length = st.2.2.2 ∧ ∀ l ∈ st.1, l.length ≤ 1000)
    (fun r r' => r' = r ∧ Small r)
    (fun ⟨N, O, ln, i⟩ st' o ⟨e, hl, l1, l2, l3, l4⟩ hb => by
      subst e
      refine ⟨o, hb, ?_⟩
      simp only at hl l1 l2 l3 l4
      simp only [specB] at hb
      by_cases hi : i < ln.length
      · rw [if_pos hi] at hb
        obtain rfl := Option.some.inj hb
        have hs : ln.getD i 0 < n := by
          rw [List.getD_eq_getElem?_getD, List.getElem?_eq_getElem hi]
          exact hl.lt _ (List.getElem_mem hi)
        obtain ⟨l, eg⟩ := walk_grows (kd := kd) (ts := ways nx (ln.getD i 0)) (ln := ln) (r := [])
        refine ⟨rfl, Lane.walked _ _ _ hl (ways_lt h hs), ?_, by simp [l2], by simp [l3], fun l hl' => ?_⟩
        · simp only [eg, List.length_append]; omega
        · rcases List.mem_append.1 hl' with q | q
          · exact l4 l q
          · simp only [List.mem_singleton] at q
            rw [q, walk_len]
            unfold ways
            rw [List.length_map, h.row _ hs]
            have := h.cs
            simp only [List.length_nil]; omega
      · rw [if_neg hi] at hb
        obtain rfl := Option.some.inj hb
        have := hl.le hk
        refine ⟨rfl, ?_, ?_, l4⟩ <;> simp only <;> omega)
    (s := (([] : List (List Int)), ([] : List Int), [0], 0)) (s' := (([] : List (List Int)), ([] : List Int), [0], 0))
    ⟨rfl, ⟨by simp, by simp [h.pos]⟩, by simp, rfl, rfl, by simp⟩ hr
  exact h2.2

theorem make_small {nx : List (List Int)} {ot : List Int} {n c : Nat} (h : OkA nx ot n c) {x : List (List Int) × List Int} (hx : least_Make nx ot = some (x, 0)) : Small x := by
  obtain ⟨B, hB, e⟩ := make_is h
  have hd := dist_length B n
  have hs := h.small
  have hk : ∀ s, s < n → 0 ≤ kap B n s ∧ kap B n s < ((dist B n).length : Nat) := fun s hs => kap_lt hs
  rw [e, number_eq h (by omega) hk (most_kap h.pos)] at hx
  obtain ⟨r, hr, _⟩ := spec_ends h (by omega) hk
  rw [hr] at hx
  simp only [Option.bind_some, Option.some.injEq, Prod.mk.injEq] at hx
  have := spec_small h (by omega) hk hr
  rw [← hx.1]
  exact this

theorem same_ints {a : List Int} (ha : a.length ≤ 1000000) : stanzaref01_SameInts a a = some true := by
  have hi : iter (stanzaref01_SameInts_L1 a a) (0 : Int) = some (Sum.inl ()) := iter_count (body := stanzaref01_SameInts_L1 a a) (fun k => (k : Int)) a.length (fun k hk => by
    simp only [stanzaref01_SameInts_L1]
    rw [if_pos (by simp only [decide_eq_true_eq]; omega), if_pos ⟨by omega, by omega⟩, if_pos ⟨by omega, by omega⟩, if_neg (by simp), wrap_i64 (by omega) (by omega)]
    rfl) (by simp only [stanzaref01_SameInts_L1]; rw [if_neg (by simp)])
  unfold stanzaref01_SameInts
  rw [if_neg (by simp), hi]
  rfl

theorem same_auto {x : List (List Int) × List Int} (hx : Small x) : stanzaref04_SameAuto x.1 x.2 x.1 x.2 = some true := by
  obtain ⟨h1, h2, h3⟩ := hx
  have hi : iter (stanzaref04_SameAuto_L1 x.2 x.2) (0 : Int) = some (Sum.inl ()) := iter_count (body := stanzaref04_SameAuto_L1 x.2 x.2) (fun k => (k : Int)) x.2.length (fun k hk => by
    simp only [stanzaref04_SameAuto_L1]
    rw [if_pos (by simp only [decide_eq_true_eq]; omega), if_pos ⟨by omega, by omega⟩, if_pos ⟨by omega, by omega⟩, if_neg (by simp), wrap_i64 (by omega) (by omega)]
    rfl) (by simp only [stanzaref04_SameAuto_L1]; rw [if_neg (by simp)])
  have hj : iter (stanzaref04_SameAuto_L2 x.1 x.1) (0 : Int) = some (Sum.inl ()) := iter_count (body := stanzaref04_SameAuto_L2 x.1 x.1) (fun k => (k : Int)) x.1.length (fun k hk => by
    simp only [stanzaref04_SameAuto_L2, Int.toNat_natCast]
    have hl : (x.1.getD k []).length ≤ 1000 := by
      rw [List.getD_eq_getElem?_getD, List.getElem?_eq_getElem hk]
      exact h3 _ (List.getElem_mem hk)
    rw [if_pos (by simp only [decide_eq_true_eq]; omega), if_pos ⟨by omega, by omega⟩, if_pos ⟨by omega, by omega⟩, same_ints (by omega)]
    simp only [Option.bind_some, Bool.not_true, Bool.false_eq_true, if_false]
    rw [wrap_i64 (by omega) (by omega)]
    rfl) (by simp only [stanzaref04_SameAuto_L2]; rw [if_neg (by simp)])
  unfold stanzaref04_SameAuto
  rw [if_neg (by simp)]
  simp only [Option.bind_some]
  rw [if_neg (by simp), hi]
  simp only [Option.bind_some]
  rw [hj]
  rfl
end Go.Proofs.Ytnnbofkcfooljaa.T
namespace Go.Proofs.Ytnnbofkcfooljaa.T
open Go Go.Tv Go.Proofs

theorem u64_wrap (x : Int) : IntKind.u64.wrap x = x % 18446744073709551616 := by
  simp [IntKind.wrap, IntKind.bits, IntKind.signed]

def wayM (d1 i1 : List Int) (c i k : Nat) : Int :=
  IntKind.i64.wrap (Int.tmod (IntKind.u64.wrap (if 0 < i1.length then i1.getD ((i * c + k) % i1.length) 0 else 0)) (IntKind.u64.wrap (min (d1.length : Int) (30 : Int))))

theorem wayM_in {d1 i1 : List Int} (hd : 0 < d1.length) (c i k : Nat) : 0 ≤ wayM d1 i1 c i k ∧ wayM d1 i1 c i k < min (d1.length : Int) 30 := by
  unfold wayM
  rw [u64_wrap, u64_wrap]
  generalize (if 0 < i1.length then i1.getD ((i * c + k) % i1.length) 0 else 0) = v
  have e : min (d1.length : Int) 30 % 18446744073709551616 = min (d1.length : Int) 30 := by omega
  rw [e]
  have hm : 0 < min (d1.length : Int) 30 ∧ min (d1.length : Int) 30 ≤ 30 := by omega
  generalize min (d1.length : Int) 30 = m at hm
  have hv : 0 ≤ v % 18446744073709551616 := Int.emod_nonneg _ (by decide)
  rw [Int.tmod_eq_emod_of_nonneg hv]
  have h1 := Int.emod_nonneg (v % 18446744073709551616) (show m ≠ 0 by omega)
  have h2 := Int.emod_lt_of_pos (v % 18446744073709551616) hm.1
  rw [wrap_i64 (by omega) (by omega)]
  exact ⟨h1, h2⟩

section
variable {d1 i1 : List Int} {x1 : Int} {c : Nat} (hc : IntKind.i64.wrap (Int.tmod x1 (4 : Int)) = (c : Int)) (hc4 : c ≤ 3) (hi : i1.length ≤ 9223372036854775807)
include hc hc4 hi

theorem made_row (hd : 0 < d1.length) {i : Nat} (hi30 : i < 30) : iter (stanzalaw05_Made_L1 d1 i1 x1 (i : Int)) (([] : List Int), (0 : Int)) = some ((List.range c).map (wayM d1 i1 c i)) := by
  have h := iter_count (body := stanzalaw05_Made_L1 d1 i1 x1 (i : Int)) (fun k => ((List.range k).map (wayM d1 i1 c i), (k : Int))) c (r := (List.range c).map (wayM d1 i1 c i)) (fun k hk => by
    have hic : (i * c : Nat) ≤ 90 := Nat.le_trans (Nat.mul_le_mul (show i ≤ 29 by omega) hc4) (by decide)
    have hw1 : IntKind.i64.wrap ((i : Int) * (c : Int)) = ((i * c : Nat) : Int) := by
      have : (i : Int) * (c : Int) = ((i * c : Nat) : Int) := by simp
      rw [this]; exact wrap_i64 (by omega) (by omega)
    have hw2 : IntKind.i64.wrap (((i * c : Nat) : Int) + (k : Int)) = ((i * c + k : Nat) : Int) := by
      rw [wrap_i64 (by omega) (by omega)]; omega
    have hn0 : ¬ IntKind.u64.wrap (min (d1.length : Int) (30 : Int)) = 0 := by rw [u64_wrap]; omega
    simp only [stanzalaw05_Made_L1, hc, hw1, hw2]
    have hv : (if decide ((i1.length : Int) > (0 : Int)) = true then (if ¬ (i1.length : Int) = 0 then (if 0 ≤ (Int.tmod ((i * c + k : Nat) : Int) (i1.length : Int)) ∧ (Int.tmod ((i * c + k : Nat) : Int) (i1.length : Int)) < (i1.length : Int) then some (i1.getD ((Int.tmod ((i * c + k : Nat) : Int) (i1.length : Int)).toNat) (0 : Int)) else none) else none) else some (0 : Int)) =
        some (if 0 < i1.length then i1.getD ((i * c + k) % i1.length) 0 else 0) := by
      by_cases hp : 0 < i1.length
      · have hm := Nat.mod_lt (i * c + k) hp
        have e : Int.tmod ((i * c + k : Nat) : Int) (i1.length : Int) = (((i * c + k) % i1.length : Nat) : Int) := by
          rw [Int.tmod_eq_emod_of_nonneg (by omega)]; rfl
        rw [if_pos (by simp only [decide_eq_true_eq]; omega), if_pos (by omega), e, if_pos ⟨by omega, by omega⟩, Int.toNat_natCast, if_pos hp]
      · rw [if_neg (by simp only [decide_eq_true_eq]; omega), if_neg hp]
    rw [if_pos (by simp only [decide_eq_true_eq]; omega), hv]
    simp only [Option.bind_some]
    have hwk : IntKind.i64.wrap ((k : Int) + 1) = ((k + 1 : Nat) : Int) := by rw [wrap_i64 (by omega) (by omega)]; omega
    rw [if_pos hn0, if_pos ⟨by simp only [List.length_map, List.length_range, List.length_cons, List.length_nil]; omega, by simp only [List.length_map, List.length_range, List.length_cons, List.length_nil]; omega⟩, hwk]
    rw [List.range_succ, List.map_append]
    rfl) (by simp only [stanzalaw05_Made_L1, hc]; rw [if_neg (by simp)])
  exact h

def madeN (d1 i1 : List Int) (c n : Nat) : List (List Int) := (List.range n).map fun i => (List.range c).map (wayM d1 i1 c i)
def madeO (d1 : List Int) (n : Nat) : List Int := (List.range n).map fun i => Int.tmod (d1.getD i 0) 3

theorem made_eq : stanzalaw05_Made d1 i1 x1 = some (madeN d1 i1 c (min d1.length 30), madeO d1 (min d1.length 30)) := by
  have hmin : min (d1.length : Int) (30 : Int) = ((min d1.length 30 : Nat) : Int) := by omega
  have h := iter_count (body := stanzalaw05_Made_L2 d1 i1 x1) (fun i => (madeN d1 i1 c i, madeO d1 i, (i : Int))) (min d1.length 30) (r := (madeN d1 i1 c (min d1.length 30), madeO d1 (min d1.length 30))) (fun i hi' => by
    simp only [stanzalaw05_Made_L2]
    have l1 : (madeN d1 i1 c i).length = i := by simp [madeN]
    have l2 : (madeO d1 i).length = i := by simp [madeO]
    rw [hmin, if_pos (by simp only [decide_eq_true_eq]; omega), made_row hc hc4 hi (by omega) (by omega)]
    simp only [Option.bind_some]
    rw [if_pos ⟨by simp only [l1, List.length_cons, List.length_nil]; omega, by simp only [l1, List.length_cons, List.length_nil]; omega⟩, if_pos ⟨by omega, by omega⟩, if_pos (by decide), if_pos ⟨by simp only [l2, List.length_cons, List.length_nil]; omega, by simp only [l2, List.length_cons, List.length_nil]; omega⟩, wrap_i64 (by omega) (by omega)]
    simp only [Int.toNat_natCast, madeN, madeO, List.range_succ, List.map_append]
    rfl) (by simp only [stanzalaw05_Made_L2]; rw [hmin, if_neg (by simp only [decide_eq_true_eq]; omega)])
  have h' : iter (stanzalaw05_Made_L2 d1 i1 x1) (([] : List (List Int)), ([] : List Int), (0 : Int)) = some (madeN d1 i1 c (min d1.length 30), madeO d1 (min d1.length 30)) := h
  unfold stanzalaw05_Made
  rw [if_pos (by decide), h']
  rfl
end
end Go.Proofs.Ytnnbofkcfooljaa.T
namespace Go.Proofs.Ytnnbofkcfooljaa.T
open Go Go.Tv Go.Proofs

theorem range_getL {f : Nat → List Int} {n s : Nat} (hs : s < n) : ((List.range n).map f).getD s [] = f s := by
  rw [List.getD_eq_getElem?_getD, List.getElem?_map, List.getElem?_range hs]
  rfl

theorem made_ok {d1 i1 : List Int} {c : Nat} (hd : 0 < d1.length) (hc4 : c ≤ 3) (h0 : ∀ x ∈ d1, 0 ≤ x) : OkA (madeN d1 i1 c (min d1.length 30)) (madeO d1 (min d1.length 30)) (min d1.length 30) c where
  hn := by simp [madeN]
  ho := by simp [madeO]
  pos := by omega
  small := by omega
  cs := by omega
  row s hs := by unfold madeN; rw [range_getL hs]; simp
  way s k hs hk := by
    unfold madeN
    rw [range_getL hs, range_get hk]
    have := wayM_in (i1 := i1) hd c s k
    omega
  out s hs := by
    unfold madeO
    rw [range_get hs]
    have hsl : s < d1.length := by omega
    have hx : 0 ≤ d1.getD s 0 := by
      rw [List.getD_eq_getElem?_getD, List.getElem?_eq_getElem hsl]
      exact h0 _ (List.getElem_mem hsl)
    rw [Int.tmod_eq_emod_of_nonneg hx]
    unfold In32
    omega
end Go.Proofs.Ytnnbofkcfooljaa.T
namespace Go.Proofs.Ytnnbofkcfooljaa.T
open Go Go.Tv Go.Proofs

/-- Is the second one taken? -/
def pickC (x2 : List Int) (i k : Nat) : Bool := if 0 < x2.length then (Int.tmod (x2.getD ((i + k) % x2.length) 0) 2 != 0) else false
def wayC (nx : List (List Int)) (n : Nat) (x2 : List Int) (i k : Nat) : Int := if pickC x2 i k = true then (nx.getD (i % n) []).getD k 0 + n else (nx.getD (i % n) []).getD k 0
def copN (nx : List (List Int)) (n c : Nat) (x2 : List Int) (m : Nat) : List (List Int) := (List.range m).map fun i => (List.range c).map (wayC nx n x2 i)
def copO (ot : List Int) (n m : Nat) : List Int := (List.range m).map fun i => ot.getD (i % n) 0

section
variable {nx : List (List Int)} {ot : List Int} {n c : Nat} (h : OkA nx ot n c) (h5 : n ≤ 500) {x2 : List Int} (hx : x2.length ≤ 9223372036854775807)
include h h5

theorem copy_ok : OkA (copN nx n c x2 (2 * n)) (copO ot n (2 * n)) (2 * n) c where
  hn := by simp [copN]
  ho := by simp [copO]
  pos := by have := h.pos; omega
  small := by omega
  cs := h.cs
  row s hs := by unfold copN; rw [range_getL hs]; simp
  way s k hs hk := by
    have hm := Nat.mod_lt s h.pos
    have hw := h.way (s % n) k hm hk
    unfold copN
    rw [range_getL hs, range_get hk]
    unfold wayC
    split <;> omega
  out s hs := by
    unfold copO
    rw [range_get hs]
    exact h.out _ (Nat.mod_lt s h.pos)

theorem copy_same : ∃ x, least_Make nx ot = some (x, 0) ∧ least_Make (copN nx n c x2 (2 * n)) (copO ot n (2 * n)) = some (x, 0) := by
  refine make_sim (R := fun s t => s = t % n ∧ t < 2 * n) h (copy_ok h h5) ⟨by simp, by have := h.pos; omega⟩ (fun s t hR => ⟨by rw [hR.1]; exact Nat.mod_lt _ h.pos, hR.2⟩) (fun s t hR k hk => ?_) (fun s t hR => ?_)
  · obtain ⟨rfl, ht⟩ := hR
    have hm := Nat.mod_lt t h.pos
    have hw := h.way (t % n) k hm hk
    have e : dl (copN nx n c x2 (2 * n)) t k = (wayC nx n x2 t k).toNat := by
      unfold dl copN
      rw [range_getL ht, range_get hk]
    rw [e]
    unfold wayC dl
    generalize (nx.getD (t % n) []).getD k 0 = v at hw
    split
    · have e2 : (v + (n : Int)).toNat = v.toNat + n := by omega
      rw [e2, Nat.add_mod_right, Nat.mod_eq_of_lt (by omega)]
      exact ⟨rfl, by omega⟩
    · rw [Nat.mod_eq_of_lt (by omega)]
      exact ⟨rfl, by omega⟩
  · obtain ⟨rfl, ht⟩ := hR
    unfold copO
    rw [range_get ht]
end
end Go.Proofs.Ytnnbofkcfooljaa.T
