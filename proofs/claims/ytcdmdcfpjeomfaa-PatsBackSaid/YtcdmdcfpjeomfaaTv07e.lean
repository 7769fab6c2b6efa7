/- Patterns: a text's words, one by one; both read the same. -/
import Derived.Test.YtcdmdcfpjeomfaaTv07d
namespace Go.Proofs.Ytcdmdcfpjeomfaa.T
open Go Go.Tv Go.Proofs

def isBl (c : Int) : Bool := c == 32 || c == 9 || c == 10 || c == 13
theorem blank_eq (c : Int) : pats_blank c = some (isBl c) := by
  unfold pats_blank isBl
  by_cases h1 : c = 32
  · subst h1; rfl
  rw [if_neg (by simpa using h1)]
  by_cases h2 : c = 9
  · subst h2; rfl
  rw [if_neg (by simpa using h2)]
  by_cases h3 : c = 10
  · subst h3; rfl
  rw [if_neg (by simpa using h3)]
  have e1 : (c == 32) = false := by simpa using h1
  have e2 : (c == 9) = false := by simpa using h2
  have e3 : (c == 10) = false := by simpa using h3
  simp only [e1, e2, e3, Bool.false_or, Option.bind_some]
theorem refblank_eq (c : Int) : stanzaref07_blank c = some (isBl c) := blank_eq c

/-- The words of a row of signs; cur: what is read of one. -/
def spl : List Sgn → List Sgn → List (List Sgn)
  | [], cur => if cur.length = 0 then [] else [cur]
  | x :: r, cur => if isBl x.1 = true then (if cur.length = 0 then spl r [] else cur :: spl r []) else spl r (cur ++ [x])
/-- Where the first blank stands. -/
def wl (l : List Sgn) : Nat := firstN (fun j => isBl (l.getD j zS).1) l.length
theorem spl_word : ∀ (l cur : List Sgn), cur.length ≠ 0 → spl l cur = (cur ++ l.take (wl l)) :: spl (l.drop (wl l)) []
  | [], cur, h => by
    simp only [spl, wl, List.length_nil, firstN, List.take_zero, List.append_nil, List.drop_zero, if_neg h]
    simp
  | x :: r, cur, h => by
    simp only [spl]
    by_cases hb : isBl x.1 = true
    · have : wl (x :: r) = 0 := by unfold wl; simp only [List.length_cons, firstN, List.getD_cons_zero, if_pos hb]
      rw [if_pos hb, if_neg h, this, List.take_zero, List.append_nil, List.drop_zero]
      simp only [spl, if_pos hb, List.length_nil, if_true]
    · have : wl (x :: r) = wl r + 1 := by unfold wl; simp only [List.length_cons, firstN, List.getD_cons_zero, List.getD_cons_succ]; rw [if_neg hb]
      rw [if_neg hb, spl_word r (cur ++ [x]) (by simp), this]
      simp

def atW (w : List Sgn) : Int := (w.getD 0 zS).2.1
abbrev Res : Type := (List Pat × List Pat) ⊕ (Int × Int)
/-- The words, one by one. -/
def foldW : List (List Sgn) → List Pat → List Pat → Res
  | [], A, B => .inl (A, B)
  | w :: ws, A, B =>
    if 256 ≤ A.length + B.length then .inr (24, atW w)
    else match patR (w.map (·.1)) with
    | none => .inr (30, atW w)
    | some p =>
      if hasH (w.map (·.1)) = true then (if B.any (fun q => q.1 == p.1) = true then .inr (23, atW w) else foldW ws A (B ++ [p]))
      else foldW ws (A ++ [p]) B

def finR : Res → (List Pat × List Pat) ⊕ ((List Pat × List Pat) × Int × Int)
  | .inl p => .inl p
  | .inr f => .inr ((([] : List Pat), ([] : List Pat)), f)

theorem patS_len {told : Bool} {N : Nat} : ∀ (rs : List Int) (i : Nat) (L V : List Int) (v : Int) (st : Bool) (plain : Nat) {p : Pat}, patS told N rs i L V v st plain = some p → p.1.length ≤ 24
  | [], i, L, V, v, st, plain, p, h => by
    simp only [patS] at h
    split at h
    · rename_i q; cases h; exact q.2
    · cases h
  | c :: r, i, L, V, v, st, plain, p, h => by
    simp only [patS] at h
    split at h
    · cases h
    split at h
    · split at h
      · cases h
      · exact patS_len r _ _ _ _ _ _ h
    · split at h
      · split at h
        · cases h
        · exact patS_len r _ _ _ _ _ _ h
      · exact patS_len r _ _ _ _ _ _ h
theorem patR_len {rs : List Int} {p : Pat} (h : patR rs = some p) : p.1.length ≤ 24 := patS_len _ _ _ _ _ _ _ h

def Short (B : List Pat) : Prop := ∀ q ∈ B, q.1.length ≤ 24
theorem Short.snoc {B : List Pat} (h : Short B) {p : Pat} (hp : p.1.length ≤ 24) : Short (B ++ [p]) := fun q hq => by
  rcases List.mem_append.mp hq with q1 | q1
  · exact h q q1
  · rw [List.mem_singleton.mp q1]; exact hp
theorem foldW_short : ∀ (ws : List (List Sgn)) (A B : List Pat) {P : List Pat × List Pat}, Short A → Short B → A.length + B.length ≤ 256 → foldW ws A B = .inl P → Short P.1 ∧ Short P.2 ∧ P.1.length + P.2.length ≤ 256
  | [], A, B, P, ha, hb, hl, h => by simp only [foldW] at h; cases h; exact ⟨ha, hb, hl⟩
  | w :: ws, A, B, P, ha, hb, hl, h => by
    simp only [foldW] at h
    split at h
    · cases h
    · rename_i h256
      split at h
      · cases h
      · rename_i p hp
        split at h
        · split at h
          · cases h
          · exact foldW_short ws A (B ++ [p]) ha (hb.snoc (patR_len hp)) (by simp only [List.length_append, List.length_cons, List.length_nil]; omega) h
        · exact foldW_short ws (A ++ [p]) B (ha.snoc (patR_len hp)) hb (by simp only [List.length_append, List.length_cons, List.length_nil]; omega) h

/-! ### the loops -/
theorem any_eq {B : List Pat} (hl : B.length ≤ 1000000) (hs : Short B) (p : Pat) : api_Pattern B p.1 p.2 = some (B.any (fun q => q.1 == p.1)) := by
  unfold api_Pattern api_Pattern_v1
  rw [any_firstN _ zP]
  have hle := firstN_le (fun j => (B.getD j zP).1 == p.1) B.length
  have hlt : ∀ j, j < firstN (fun j => (B.getD j zP).1 == p.1) B.length → ((B.getD j zP).1 == p.1) = false := fun j hj => firstN_lt _ B.length hj
  have hat := firstN_at (fun j => (B.getD j zP).1 == p.1) B.length
  generalize firstN (fun j => (B.getD j zP).1 == p.1) B.length = k at *
  have heq : ∀ j, j < B.length → pats_Parse_1 (B.getD j zP).1 (B.getD j zP).2 p.1 p.2 = some ((B.getD j zP).1 == p.1) := fun j hj => by
    unfold pats_Parse_1
    rw [equal_eq (by have := hs _ (getD_mem' (d := zP) hj); omega)]; rfl
  unfold zP at hlt hat heq
  have hi := iter_count (body := api_Pattern_v1_L1 B p.1 p.2) (fun j => (j : Int)) k (r := if k < B.length then Sum.inr (k : Int) else Sum.inl ()) (fun j hj => by
    simp only [api_Pattern_v1_L1, Int.toNat_natCast]
    rw [if_pos (by simp only [decide_eq_true_eq]; omega), if_pos ⟨by omega, by omega⟩, heq j (by omega), hlt j hj]
    simp only [Option.bind_some, Bool.false_eq_true, if_false]
    rw [wrap_i64 (by omega) (by omega)]
    rfl) (by
    by_cases q : k < B.length
    · simp only [api_Pattern_v1_L1, Int.toNat_natCast]
      rw [if_pos (by simp only [decide_eq_true_eq]; omega), if_pos ⟨by omega, by omega⟩, if_pos q, heq k q, hat q]
      rfl
    · simp only [api_Pattern_v1_L1]
      rw [if_neg (by simp only [decide_eq_true_eq]; omega), if_neg q])
  have hi' : iter (api_Pattern_v1_L1 B p.1 p.2) (0 : Int) = some (if k < B.length then Sum.inr (k : Int) else Sum.inl ()) := hi
  rw [hi']
  by_cases q : k < B.length
  · rw [if_pos q, decide_eq_true q]; simp
  · rw [if_neg q, decide_eq_false q]; rfl

theorem wl_le (l : List Sgn) : wl l ≤ l.length := firstN_le _ _
theorem drop_getD {α : Type} (l : List α) (i j : Nat) (d : α) : (l.drop i).getD j d = l.getD (i + j) d := by
  rw [List.getD_eq_getElem?_getD, List.getD_eq_getElem?_getD, List.getElem?_drop]

theorem wl_at {l : List Sgn} (h : wl l < l.length) : isBl (l.getD (wl l) zS).1 = true := firstN_at (fun j => isBl (l.getD j zS).1) l.length h
section
variable {s : List Sgn} (hN : s.length ≤ 1000000)
include hN

theorem end_loop {i : Nat} (hi : i ≤ s.length) : iter (pats_Parse_L1 s) (i : Int) = some ((i + wl (s.drop i) : Nat) : Int) := by
  have hle := wl_le (s.drop i)
  rw [List.length_drop] at hle
  have hlt : ∀ j, j < wl (s.drop i) → isBl (s.getD (i + j) zS).1 = false := fun j hj => by
    have := firstN_lt (fun j => isBl ((s.drop i).getD j zS).1) (s.drop i).length hj
    simpa only [drop_getD] using this
  have hat : wl (s.drop i) < s.length - i → isBl (s.getD (i + wl (s.drop i)) zS).1 = true := fun h => by
    have := wl_at (l := s.drop i) (by rw [List.length_drop]; exact h)
    rwa [drop_getD] at this
  unfold zS at hlt hat
  generalize wl (s.drop i) = k at *
  have h := iter_count (body := pats_Parse_L1 s) (fun j => ((i + j : Nat) : Int)) k (r := ((i + k : Nat) : Int)) (fun j hj => by
    simp only [pats_Parse_L1, Int.toNat_natCast, blank_eq, hlt j hj]
    rw [if_pos (by simp only [decide_eq_true_eq]; omega), if_pos ⟨by omega, by omega⟩]
    simp only [Option.bind_some, Bool.not_false, if_true]
    rw [wrap_i64 (by omega) (by omega)]
    congr 2) (by
    simp only [pats_Parse_L1, Int.toNat_natCast, blank_eq]
    by_cases q : k < s.length - i
    · rw [if_pos (by simp only [decide_eq_true_eq]; omega), if_pos ⟨by omega, by omega⟩, hat q]
      rfl
    · rw [if_neg (by simp only [decide_eq_true_eq]; omega)]
      rfl)
  exact h

theorem refend_loop {i : Nat} (hi : i ≤ s.length) : iter (stanzaref07_Parse_L1 s) ((i : Int), ([] : List Int)) = some (((i + wl (s.drop i) : Nat) : Int), ((s.drop i).take (wl (s.drop i))).map (·.1)) := by
  have hle := wl_le (s.drop i)
  rw [List.length_drop] at hle
  have hlt : ∀ j, j < wl (s.drop i) → isBl (s.getD (i + j) zS).1 = false := fun j hj => by
    have := firstN_lt (fun j => isBl ((s.drop i).getD j zS).1) (s.drop i).length hj
    simpa only [drop_getD] using this
  have hat : wl (s.drop i) < s.length - i → isBl (s.getD (i + wl (s.drop i)) zS).1 = true := fun h => by
    have := wl_at (l := s.drop i) (by rw [List.length_drop]; exact h)
    rwa [drop_getD] at this
  generalize wl (s.drop i) = k at *
  have h := iter_count (body := stanzaref07_Parse_L1 s) (fun j => (((i + j : Nat) : Int), ((s.drop i).take j).map (·.1))) k (r := (((i + k : Nat) : Int), ((s.drop i).take k).map (·.1))) (fun j hj => by
    have e1 : IntKind.i64.wrap (((i + j : Nat) : Int) + 1) = ((i + (j + 1) : Nat) : Int) := by rw [wrap_i64 (by omega) (by omega)]; omega
    have e2 : ((s.drop i).take (j + 1)).map (·.1) = ((s.drop i).take j).map (·.1) ++ [(s.getD (i + j) zS).1] := by
      rw [take_succ' (d := zS) (by rw [List.length_drop]; omega), drop_getD, List.map_append]; rfl
    have hln : (((s.drop i).take j).map (·.1)).length ≤ 1000000 := by rw [List.length_map, List.length_take, List.length_drop]; omega
    rw [e2]
    unfold zS at hlt ⊢
    simp only [stanzaref07_Parse_L1, Int.toNat_natCast, refblank_eq, hlt j hj, e1]
    rw [if_pos (by simp only [decide_eq_true_eq]; omega), if_pos ⟨by omega, by omega⟩]
    simp only [Option.bind_some, Bool.not_false, if_true]
    rw [if_pos ⟨by omega, by omega⟩, if_pos ⟨by simp only [List.length_cons, List.length_nil]; omega, by simp only [List.length_cons, List.length_nil]; omega⟩]) (by
    unfold zS at hat
    simp only [stanzaref07_Parse_L1, Int.toNat_natCast, refblank_eq]
    by_cases q : k < s.length - i
    · rw [if_pos (by simp only [decide_eq_true_eq]; omega), if_pos ⟨by omega, by omega⟩, hat q]
      rfl
    · rw [if_neg (by simp only [decide_eq_true_eq]; omega)]
      rfl)
  exact h
end

theorem count_loop {rs : List Int} (hl : rs.length ≤ 1000000) : ∃ n : Nat, iter (stanzaref07_Parse_L2 rs) ((0 : Int), (0 : Int)) = some (n : Int) ∧ decide (0 < n) = hasH rs := by
  let c : Nat → Nat := fun j => ((rs.take j).filter (· == 45)).length
  have hc : ∀ j, c j ≤ j := fun j => by
    have h1 := List.length_filter_le (· == 45) (rs.take j)
    have h2 := List.length_take_le j rs
    show ((rs.take j).filter (· == 45)).length ≤ j
    omega
  refine ⟨c rs.length, iter_count (body := stanzaref07_Parse_L2 rs) (fun j => ((c j : Int), (j : Int))) rs.length (r := (c rs.length : Int)) (fun j hj => ?_) ?_, ?_⟩
  · have hcj := hc j
    have e : c (j + 1) = if rs.getD j 0 = 45 then c j + 1 else c j := by
      show ((rs.take (j + 1)).filter (· == 45)).length = if rs.getD j 0 = 45 then ((rs.take j).filter (· == 45)).length + 1 else ((rs.take j).filter (· == 45)).length
      rw [take_succ' (d := 0) hj, List.filter_append, List.length_append]
      by_cases q : rs.getD j 0 = 45
      · rw [if_pos q, q]; rfl
      · rw [if_neg q]
        have : (rs.getD j 0 == 45) = false := by simpa using q
        simp only [List.filter_cons, this]
        rfl
    simp only [stanzaref07_Parse_L2, Int.toNat_natCast]
    rw [if_pos (by simp only [decide_eq_true_eq]; omega), if_pos ⟨by omega, by omega⟩, if_pos hj, wrap_i64 (x := (j : Int) + 1) (by omega) (by omega)]
    by_cases q : rs.getD j 0 = 45
    · rw [if_pos (by simpa using q), wrap_i64 (by omega) (by omega), e, if_pos q]
      simp only [Option.bind_some]
      congr 2
    · rw [if_neg (by simpa using q), e, if_neg q]
      simp only [Option.bind_some]
      congr 2
  · simp only [stanzaref07_Parse_L2]
    rw [if_neg (by simp)]
  · show decide (0 < ((rs.take rs.length).filter (· == 45)).length) = hasH rs
    rw [List.take_length]
    unfold hasH
    cases h : rs.any (· == 45) with
    | true =>
      rw [decide_eq_true_eq]
      obtain ⟨x, hx, hx2⟩ := List.any_eq_true.mp h
      exact List.length_pos_of_mem (List.mem_filter.mpr ⟨hx, hx2⟩)
    | false =>
      rw [decide_eq_false_iff_not]
      intro hp
      obtain ⟨x, hx⟩ := List.exists_mem_of_length_pos hp
      have := List.mem_filter.mp hx
      have h2 := List.any_eq_false.mp h x this.1
      exact h2 this.2
end Go.Proofs.Ytcdmdcfpjeomfaa.T
