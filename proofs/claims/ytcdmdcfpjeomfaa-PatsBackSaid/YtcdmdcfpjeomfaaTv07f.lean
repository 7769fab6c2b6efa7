/- Patterns: both read alike; any text. -/
import Derived.Test.YtcdmdcfpjeomfaaTv07e
namespace Go.Proofs.Ytcdmdcfpjeomfaa.T
open Go Go.Tv Go.Proofs

theorem slice_eq {α : Type} (s : List α) (i k : Nat) : (s.take (i + k)).drop i = (s.drop i).take k := by
  rw [List.drop_take]
  congr 1
  omega

theorem spl_blank {x : Sgn} {r : List Sgn} (h : isBl x.1 = true) : spl (x :: r) [] = spl r [] := by simp [spl, h]
theorem wl_pos {x : Sgn} {r : List Sgn} (h : isBl x.1 = false) : wl (x :: r) = wl r + 1 := by
  unfold wl
  simp only [List.length_cons, firstN, List.getD_cons_zero, List.getD_cons_succ, h]
  rfl
theorem spl_next {x : Sgn} {r : List Sgn} (h : isBl x.1 = false) : spl (x :: r) [] = (x :: r).take (wl (x :: r)) :: spl ((x :: r).drop (wl (x :: r))) [] := by
  rw [wl_pos h]
  simp only [spl, h, List.take_succ_cons, List.drop_succ_cons, List.nil_append]
  rw [if_neg (by simp), spl_word r [x] (by simp)]
  rfl
theorem atW_eq {s : List Sgn} {i k : Nat} (hk : 0 < k) (hi : i < s.length) : atW ((s.drop i).take k) = (s.getD i zS).2.1 := by
  unfold atW
  rw [drop_cons' (d := zS) hi]
  match k, hk with
  | k + 1, _ => rw [List.take_succ_cons, List.getD_cons_zero]

theorem dup_loop (s : List Sgn) {B : List Pat} (hl : B.length ≤ 1000000) (hs : Short B) (p : Pat) (i : Nat) : iter (stanzaref07_Parse_L3 s B (i : Int) p) (0 : Int) = some (if B.any (fun q => q.1 == p.1) = true then Sum.inr ((([] : List Pat), ([] : List Pat)), (23 : Int), (s.getD i zS).2.1) else Sum.inl ()) := by
  rw [any_firstN _ zP]
  have hle := firstN_le (fun j => (B.getD j zP).1 == p.1) B.length
  have hlt : ∀ j, j < firstN (fun j => (B.getD j zP).1 == p.1) B.length → ((B.getD j zP).1 == p.1) = false := fun j hj => firstN_lt _ B.length hj
  have hat := firstN_at (fun j => (B.getD j zP).1 == p.1) B.length
  generalize firstN (fun j => (B.getD j zP).1 == p.1) B.length = k at *
  have heq : ∀ j, j < B.length → stanzaref07_Same (B.getD j zP).1 p.1 = some ((B.getD j zP).1 == p.1) := fun j hj => same_eq (by have := hs _ (getD_mem' (d := zP) hj); omega)
  unfold zP at hlt hat heq
  have hi := iter_count (body := stanzaref07_Parse_L3 s B (i : Int) p) (fun j => (j : Int)) k (r := if k < B.length then Sum.inr ((([] : List Pat), ([] : List Pat)), (23 : Int), (s.getD i zS).2.1) else Sum.inl ()) (fun j hj => by
    simp only [stanzaref07_Parse_L3, Int.toNat_natCast]
    rw [if_pos (by simp only [decide_eq_true_eq]; omega), if_pos ⟨by omega, by omega⟩, if_pos (by omega), heq j (by omega), hlt j hj]
    simp only [Option.bind_some, Bool.false_eq_true, if_false]
    rw [wrap_i64 (by omega) (by omega)]
    rfl) (by
    by_cases q : k < B.length
    · simp only [stanzaref07_Parse_L3, Int.toNat_natCast]
      rw [if_pos (by simp only [decide_eq_true_eq]; omega), if_pos ⟨by omega, by omega⟩, if_pos q, if_pos q, heq k q, hat q]
      rfl
    · simp only [stanzaref07_Parse_L3]
      rw [if_neg (by simp only [decide_eq_true_eq]; omega), if_neg q])
  have hi' : iter (stanzaref07_Parse_L3 s B (i : Int) p) (0 : Int) = some (if k < B.length then Sum.inr ((([] : List Pat), ([] : List Pat)), (23 : Int), (s.getD i zS).2.1) else Sum.inl ()) := hi
  rw [hi']
  by_cases q : k < B.length
  · rw [if_pos q, decide_eq_true q, if_pos rfl]
  · rw [if_neg q, decide_eq_false q, if_neg (by simp)]

section
variable {s : List Sgn} (hN : s.length ≤ 1000000)
include hN

theorem pats_loop : ∀ (m i : Nat) (A B : List Pat), s.length ≤ i + m → i ≤ s.length → Short A → Short B → A.length + B.length ≤ 256 →
    ∃ r, iter (pats_Parse_L2 s) (A, B, (i : Int)) = some r ∧ r = finR (foldW (spl (s.drop i) []) A B) := by
  intro m
  induction m with
  | zero =>
    intro i A B hm hi ha hb hl
    refine iter_case ⟨.inr (.inl (A, B)), ?_, ?_⟩
    · simp only [pats_Parse_L2]
      rw [if_neg (by simp only [decide_eq_true_eq]; omega)]
    · rw [List.drop_eq_nil_of_le (by omega)]
      rfl
  | succ m ih =>
    intro i A B hm hi ha hb hl
    refine iter_case ?_
    by_cases hin : i < s.length
    · have e1 : IntKind.i64.wrap ((i : Int) + 1) = ((i + 1 : Nat) : Int) := by rw [wrap_i64 (by omega) (by omega)]; omega
      have hdr := drop_cons' (d := zS) hin
      have hen := end_loop hN hi
      simp only [pats_Parse_L2, Int.toNat_natCast, blank_eq, hen]
      rw [if_pos (by simp only [decide_eq_true_eq]; omega), if_pos ⟨by omega, by omega⟩]
      simp only [Option.bind_some]
      cases hb1 : isBl (s.getD i ((0 : Int), ((0 : Int), (0 : Int)))).1 with
      | true =>
        rw [if_pos rfl, e1]
        refine ⟨_, rfl, ?_⟩
        rw [hdr, spl_blank (x := s.getD i zS) hb1]
        exact ih (i + 1) A B (by omega) (by omega) ha hb hl
      | false =>
        have hw : 0 < wl (s.drop i) := by rw [hdr, wl_pos (x := s.getD i zS) hb1]; omega
        have hwl := wl_le (s.drop i)
        rw [List.length_drop] at hwl
        have hsp : spl (s.drop i) [] = (s.drop i).take (wl (s.drop i)) :: spl (s.drop (i + wl (s.drop i))) [] := by
          have := spl_next (r := s.drop (i + 1)) hb1
          rw [show (s.getD i ((0 : Int), ((0 : Int), (0 : Int))) :: s.drop (i + 1)) = s.drop i from hdr.symm, List.drop_drop] at this
          exact this
        have hat := atW_eq (k := wl (s.drop i)) hw hin
        have ih' := ih (i + wl (s.drop i))
        generalize wl (s.drop i) = k at *
        rw [hsp]
        have hWl : ((s.drop i).take k).length ≤ 1000000 := by rw [List.length_take, List.length_drop]; omega
        simp only [foldW, Int.toNat_natCast, slice_eq, hat]
        rw [if_neg (by simp), if_pos ⟨by omega, by omega⟩, wrap_i64 (by omega) (by omega)]
        by_cases q1 : 256 ≤ A.length + B.length
        · rw [if_pos (by simp only [decide_eq_true_eq]; omega), if_pos q1]
          exact ⟨_, rfl, rfl⟩
        rw [if_neg (by simp only [decide_eq_true_eq]; omega), if_neg q1, if_pos ⟨by omega, by omega, by omega, by omega⟩]
        obtain ⟨p, b, o1, o2⟩ := one_eq hWl
        rw [o1, ← o2, hyphened_eq hWl]
        simp only [Option.bind_some]
        cases b with
        | false =>
          rw [if_pos (c := (!false) = true) rfl, if_neg (by simp)]
          exact ⟨_, rfl, rfl⟩
        | true =>
          rw [if_neg (by simp), if_pos rfl]
          have hp24 : p.1.length ≤ 24 := by rw [if_pos rfl] at o2; exact patR_len o2.symm
          have hg : ∀ X : List Pat, X.length ≤ 256 → (X.length + ([(p.1, p.2)] : List Pat).length) * 48 ≤ 140737488355328 ∧ X.length + ([(p.1, p.2)] : List Pat).length ≤ 9223372036854775807 := fun X hX => by
            simp only [List.length_cons, List.length_nil]; omega
          simp only
          cases hh : hasH (((s.drop i).take k).map (·.1)) with
          | false =>
            rw [if_pos (c := (!false) = true) rfl, if_pos (hg A (by omega)), if_neg (by simp)]
            refine ⟨_, rfl, ?_⟩
            exact ih' (A ++ [p]) B (by omega) (by omega) (ha.snoc hp24) hb (by simp only [List.length_append, List.length_cons, List.length_nil]; omega)
          | true =>
            rw [if_neg (by simp), if_pos rfl, any_eq (by omega) hb p]
            simp only [Option.bind_some]
            cases hd : B.any (fun q => q.1 == p.1) with
            | true =>
              rw [if_pos rfl, if_pos rfl]
              exact ⟨_, rfl, rfl⟩
            | false =>
              rw [if_neg (by simp), if_pos (hg B (by omega)), if_neg (by simp)]
              refine ⟨_, rfl, ?_⟩
              exact ih' A (B ++ [p]) (by omega) (by omega) ha (hb.snoc hp24) (by simp only [List.length_append, List.length_cons, List.length_nil]; omega)
    · refine ⟨.inr (.inl (A, B)), ?_, ?_⟩
      · simp only [pats_Parse_L2]
        rw [if_neg (by simp only [decide_eq_true_eq]; omega)]
      · rw [List.drop_eq_nil_of_le (by omega)]
        rfl

theorem ref_ploop : ∀ (m i : Nat) (A B : List Pat), s.length ≤ i + m → i ≤ s.length → Short A → Short B → A.length + B.length ≤ 256 →
    ∃ r, iter (stanzaref07_Parse_L4 s) (A, B, (i : Int)) = some r ∧ r = finR (foldW (spl (s.drop i) []) A B) := by
  intro m
  induction m with
  | zero =>
    intro i A B hm hi ha hb hl
    refine iter_case ⟨.inr (.inl (A, B)), ?_, ?_⟩
    · simp only [stanzaref07_Parse_L4]
      rw [if_neg (by simp only [decide_eq_true_eq]; omega)]
    · rw [List.drop_eq_nil_of_le (by omega)]
      rfl
  | succ m ih =>
    intro i A B hm hi ha hb hl
    refine iter_case ?_
    by_cases hin : i < s.length
    · have e1 : IntKind.i64.wrap ((i : Int) + 1) = ((i + 1 : Nat) : Int) := by rw [wrap_i64 (by omega) (by omega)]; omega
      have hdr := drop_cons' (d := zS) hin
      have hen := refend_loop hN hi
      have hdu := fun (B : List Pat) (h1 : B.length ≤ 1000000) (h2 : Short B) (p : Pat) => dup_loop s h1 h2 p i
      simp only [stanzaref07_Parse_L4, Int.toNat_natCast, refblank_eq, hen]
      rw [if_pos (by simp only [decide_eq_true_eq]; omega), if_pos ⟨by omega, by omega⟩]
      simp only [Option.bind_some]
      cases hb1 : isBl (s.getD i ((0 : Int), ((0 : Int), (0 : Int)))).1 with
      | true =>
        rw [if_pos rfl, e1]
        refine ⟨_, rfl, ?_⟩
        rw [hdr, spl_blank (x := s.getD i zS) hb1]
        exact ih (i + 1) A B (by omega) (by omega) ha hb hl
      | false =>
        have hw : 0 < wl (s.drop i) := by rw [hdr, wl_pos (x := s.getD i zS) hb1]; omega
        have hwl := wl_le (s.drop i)
        rw [List.length_drop] at hwl
        have hsp : spl (s.drop i) [] = (s.drop i).take (wl (s.drop i)) :: spl (s.drop (i + wl (s.drop i))) [] := by
          have := spl_next (r := s.drop (i + 1)) hb1
          rw [show (s.getD i ((0 : Int), ((0 : Int), (0 : Int))) :: s.drop (i + 1)) = s.drop i from hdr.symm, List.drop_drop] at this
          exact this
        have hat := atW_eq (k := wl (s.drop i)) hw hin
        have ih' := ih (i + wl (s.drop i))
        generalize wl (s.drop i) = k at *
        rw [hsp]
        have hWl : (((s.drop i).take k).map (·.1)).length ≤ 1000000 := by rw [List.length_map, List.length_take, List.length_drop]; omega
        simp only [foldW, hat]
        generalize ((s.drop i).take k).map (·.1) = rs at *
        rw [if_neg (by simp), if_pos ⟨by omega, by omega⟩, wrap_i64 (by omega) (by omega)]
        by_cases q1 : 256 ≤ A.length + B.length
        · rw [if_pos (by simp only [decide_eq_true_eq]; omega), if_pos q1]
          exact ⟨_, rfl, rfl⟩
        rw [if_neg (by simp only [decide_eq_true_eq]; omega), if_neg q1]
        obtain ⟨n, n1, n2⟩ := count_loop hWl
        have n3 : decide ((n : Int) > 0) = hasH rs := by rw [← n2, decide_eq_decide]; omega
        have n4 : ((n : Int) == 0) = !hasH rs := by
          rw [← n2]
          by_cases q : n = 0
          · subst q; rfl
          · rw [decide_eq_true (by omega)]; simp only [Bool.not_true, beq_eq_false_iff_ne, ne_eq]; omega
        rw [n1]
        simp only [Option.bind_some, n3, n4]
        obtain ⟨p, b, o1, o2⟩ := refpat_eq hWl
        rw [o1, ← o2]
        simp only [Option.bind_some]
        cases b with
        | false =>
          rw [if_pos (c := (!false) = true) rfl, if_neg (by simp)]
          exact ⟨_, rfl, rfl⟩
        | true =>
          rw [if_neg (by simp), if_pos rfl]
          have hp24 : p.1.length ≤ 24 := by rw [if_pos rfl] at o2; exact patR_len o2.symm
          have hg : ∀ X : List Pat, X.length ≤ 256 → (X.length + ([(p.1, p.2)] : List Pat).length) * 48 ≤ 140737488355328 ∧ X.length + ([(p.1, p.2)] : List Pat).length ≤ 9223372036854775807 := fun X hX => by
            simp only [List.length_cons, List.length_nil]; omega
          simp only
          cases hh : hasH rs with
          | false =>
            rw [if_pos (c := (!false) = true) rfl, if_pos (hg A (by omega)), if_neg (by simp)]
            refine ⟨_, rfl, ?_⟩
            exact ih' (A ++ [p]) B (by omega) (by omega) (ha.snoc hp24) hb (by simp only [List.length_append, List.length_cons, List.length_nil]; omega)
          | true =>
            rw [if_neg (by simp), if_pos rfl, hdu B (by omega) hb p]
            simp only [Option.bind_some]
            cases hd : B.any (fun q => q.1 == p.1) with
            | true =>
              rw [if_pos rfl, if_pos rfl]
              exact ⟨_, rfl, rfl⟩
            | false =>
              simp only [Bool.false_eq_true, if_false]
              rw [if_pos (hg B (by omega))]
              refine ⟨_, rfl, ?_⟩
              exact ih' A (B ++ [p]) (by omega) (by omega) ha (hb.snoc hp24) (by simp only [List.length_append, List.length_cons, List.length_nil]; omega)
    · refine ⟨.inr (.inl (A, B)), ?_, ?_⟩
      · simp only [stanzaref07_Parse_L4]
        rw [if_neg (by simp only [decide_eq_true_eq]; omega)]
      · rw [List.drop_eq_nil_of_le (by omega)]
        rfl
end
end Go.Proofs.Ytcdmdcfpjeomfaa.T
