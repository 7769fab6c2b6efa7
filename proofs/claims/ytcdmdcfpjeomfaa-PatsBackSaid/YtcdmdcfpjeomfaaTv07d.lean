/- Patterns: the document's words. -/
import Derived.Test.YtcdmdcfpjeomfaaTv07c
namespace Go.Proofs.Ytcdmdcfpjeomfaa.T
open Go Go.Tv Go.Proofs

theorem beq_dec (a b : Int) : (a == b) = decide (a = b) := by by_cases h : a = b <;> simp [h]

theorem kbadD (c : Int) : (if (c == 45) = true then some true else (if decide (c ≥ 48) = true then (if decide (c ≤ 57) = true then some true else some (c == 65533)) else some (c == 65533))) = some (decide (c = 45 ∨ isDig c ∨ c = 65533)) := by
  unfold isDig
  by_cases a1 : c = 45
  · rw [if_pos (by simpa using a1), decide_eq_true (.inl a1)]
  rw [if_neg (by simpa using a1), beq_dec]
  by_cases a2 : c ≥ 48
  · rw [if_pos (by simpa using a2)]
    by_cases a3 : c ≤ 57
    · rw [if_pos (by simpa using a3), decide_eq_true (.inr (.inl ⟨a2, a3⟩))]
    · rw [if_neg (by simpa using a3)]; congr 1; rw [decide_eq_decide]; omega
  · rw [if_neg (by simpa using a2)]; congr 1; rw [decide_eq_decide]; omega

theorem kdotD (told : Bool) (j n : Nat) : (if told = true then some true else (if ((j : Int) != 0) = true then some ((j : Int) != (n : Int) - 1) else some false)) = some (decide (told = true ∨ (j ≠ 0 ∧ j + 1 ≠ n))) := by
  cases told with
  | true => simp
  | false =>
    rw [if_neg (by simp)]
    by_cases a1 : j = 0
    · rw [if_neg (by simp [a1]), decide_eq_false (by rintro (q | q); cases q; exact q.1 a1)]
    · rw [if_pos (by simp [a1])]
      congr 1
      by_cases a2 : j + 1 = n
      · rw [decide_eq_false (by rintro (q | q); cases q; exact q.2 a2)]; simp only [bne_eq_false_iff_eq]; omega
      · rw [decide_eq_true (.inr ⟨a1, a2⟩)]; simp only [bne_iff_ne, ne_eq]; omega

theorem kdigD (told : Bool) (c : Int) : (if (!told) = true then (if decide (c ≥ 48) = true then some (decide (c ≤ 57)) else some false) else some false) = some (decide (told = false ∧ isDig c)) := by
  cases told with
  | true => simp
  | false =>
    rw [if_pos (by rfl)]
    by_cases a2 : c ≥ 48
    · rw [if_pos (by simpa using a2)]; congr 1; rw [decide_eq_decide]; unfold isDig; simp only [true_and]; omega
    · rw [if_neg (by simpa using a2), decide_eq_false]; unfold isDig; omega

theorem khypD (told : Bool) (c : Int) : (if told = true then some (c == 45) else some false) = some (decide (told = true ∧ c = 45)) := by
  cases told with
  | true => rw [if_pos rfl, beq_dec]; simp
  | false => simp

theorem ref_loop {rs : List Int} (hl : rs.length ≤ 1000000) (told : Bool) : ∀ (m i : Nat) (L V : List Int) (plain : Nat), rs.length ≤ i + m → i ≤ rs.length → V.length = L.length → L.length ≤ i → plain ≤ i → (i = 0 ∨ L.length ≠ 0) →
    ∃ r, iter (stanzaref07_pattern_L1 rs told) (L, V, (plain : Int), (i : Int)) = some r ∧ finO r = patS told rs.length (rs.drop i) i L V 0 false plain
  | m, i, L, V, plain, hm, hi, hv, hL, hp, h0 => by
    refine iter_case ?_
    have hg2 : ∀ x : Int, (V.length + ([x] : List Int).length) * 1 ≤ 140737488355328 ∧ V.length + ([x] : List Int).length ≤ 9223372036854775807 := fun x => ⟨by simp only [List.length_cons, List.length_nil]; omega, by simp only [List.length_cons, List.length_nil]; omega⟩
    have hg1 : ∀ x : Int, (L.length + ([x] : List Int).length) * 4 ≤ 140737488355328 ∧ L.length + ([x] : List Int).length ≤ 9223372036854775807 := fun x => ⟨by simp only [List.length_cons, List.length_nil]; omega, by simp only [List.length_cons, List.length_nil]; omega⟩
    have e2 : IntKind.i64.wrap ((rs.length : Int) - 1) = (rs.length : Int) - 1 := wrap_i64 (by omega) (by omega)
    have e3 : IntKind.i64.wrap ((plain : Int) + 1) = ((plain + 1 : Nat) : Int) := by rw [wrap_i64 (by omega) (by omega)]; omega
    -- what follows a value
    have rest : ∀ (j : Nat) (v : Int) (st : Bool), i ≤ j → j ≤ rs.length → (st = true ↔ j ≠ i) → (told = true → (st = false → j < rs.length → rs.getD j 0 ≠ 45)) → (told = false → st = false → j < rs.length → ¬ isDig (rs.getD j 0)) →
        ∃ o, ((if (V.length + ([v] : List Int).length) * 1 ≤ 140737488355328 ∧ V.length + ([v] : List Int).length ≤ 9223372036854775807 then (if ((j : Int) == (rs.length : Int)) = true then some (Sum.inr (Sum.inl (L, (V ++ ([v] : List Int)), (plain : Int))))
          else (if 0 ≤ (j : Int) ∧ (j : Int) < (rs.length : Int) then (((if ((rs.getD (j : Int).toNat 0) == (45 : Int)) = true then some (true)
          else (if (decide ((rs.getD (j : Int).toNat 0) ≥ (48 : Int))) = true then (if (decide ((rs.getD (j : Int).toNat 0) ≤ (57 : Int))) = true then some (true)
          else some (((rs.getD (j : Int).toNat 0) == (65533 : Int))))
          else some (((rs.getD (j : Int).toNat 0) == (65533 : Int)))))).bind fun (v44 : Bool) => (if v44 = true then some (Sum.inr (Sum.inr ((L, (V ++ ([v] : List Int))), false)))
          else (((if ((rs.getD (j : Int).toNat 0) == (46 : Int)) = true then (((if told = true then some (true)
          else (if ((j : Int) != 0) = true then some (((j : Int) != (IntKind.i64.wrap ((rs.length : Int) - 1))))
          else some (false)))).bind fun (v47 : Bool) => (if v47 = true then some ((Sum.inr ((L, (V ++ ([v] : List Int))), false)))
          else some ((Sum.inl (plain : Int)))))
          else some ((Sum.inl (IntKind.i64.wrap ((plain : Int) + 1)))))).bind fun (r20 : ((Int) ⊕ (((List Int) × List Int) × Bool))) => match r20 with
          | .inl v46 => (if (L.length + ([(rs.getD (j : Int).toNat 0)] : List Int).length) * 4 ≤ 140737488355328 ∧ L.length + ([(rs.getD (j : Int).toNat 0)] : List Int).length ≤ 9223372036854775807 then some (Sum.inl ((L ++ ([(rs.getD (j : Int).toNat 0)] : List Int)), (V ++ ([v] : List Int)), v46, (IntKind.i64.wrap ((j : Int) + 1)))) else none)
          | .inr ((r18, r19)) => some (Sum.inr (Sum.inr (r18, r19)))))) else none)) else none) : Option ((List Int × List Int × Int × Int) ⊕ ((List Int × List Int × Int) ⊕ (Pat × Bool)))) = some o ∧
          (match o with | .inl y => ∃ r, iter (stanzaref07_pattern_L1 rs told) y = some r ∧ finO r = patS told rs.length (rs.drop j) j L V v st plain | .inr r => finO r = patS told rs.length (rs.drop j) j L V v st plain) := fun j v st hij hj hst ht1 ht2 => by
      rw [if_pos (hg2 v)]
      by_cases hjn : j = rs.length
      · rw [if_pos (by simp only [beq_iff_eq]; omega), hjn, List.drop_length]
        refine ⟨_, rfl, ?_⟩
        simp only [finO, patS]
        by_cases q : 0 < plain ∧ L.length ≤ 24
        · rw [if_pos q, if_pos ⟨by omega, q.2⟩]
        · rw [if_neg q, if_neg (by omega)]
      have hjl : j < rs.length := by omega
      have e1 : IntKind.i64.wrap ((j : Int) + 1) = ((j + 1 : Nat) : Int) := by rw [wrap_i64 (by omega) (by omega)]; omega
      rw [if_neg (by simp only [beq_iff_eq]; omega), if_pos ⟨by omega, by omega⟩, drop_cons' (d := 0) hjl, e1, e2, e3]
      simp only [Int.toNat_natCast, patS]
      have t1 := fun a b => ht1 a b hjl
      have t2 := fun a b => ht2 a b hjl
      clear ht1 ht2
      obtain ⟨c, hc⟩ : ∃ c, rs.getD j 0 = c := ⟨_, rfl⟩
      rw [hc] at t1 t2
      simp only [hc]
      rw [kbadD, Option.bind_some]
      by_cases b1 : c = 45 ∨ isDig c ∨ c = 65533
      · rw [decide_eq_true b1, if_pos rfl]
        refine ⟨_, rfl, ?_⟩
        show none = _
        by_cases b2 : c = 65533
        · rw [if_pos b2]
        have hB : st = true ∨ told ≠ decide (c = 45) ∨ (told = true ∧ (L.length = 0 ∨ j + 1 = rs.length)) := by
          by_cases hs : st = true
          · exact .inl hs
          · have hs' : st = false := by simpa using hs
            refine .inr (.inl fun e => ?_)
            by_cases ht : told = true
            · exact t1 ht hs' (of_decide_eq_true (by rw [← e, ht]))
            · have ht' : told = false := by simpa using ht
              rcases b1 with q | q | q
              · rw [decide_eq_true q] at e; exact ht e
              · exact t2 ht' hs' q
              · exact b2 q
        rw [if_neg b2, if_pos (by rcases b1 with q | q | q; exact .inl q; exact .inr q; exact absurd q b2), if_pos hB]
      rw [decide_eq_false b1, if_neg (by simp)]
      rw [if_neg (c := c = 65533) (fun q => b1 (.inr (.inr q))), if_neg (c := c = 45 ∨ isDig c) (by rintro (q | q); exact b1 (.inl q); exact b1 (.inr (.inl q)))]
      have again : ∀ (k : Nat), k ≤ plain + 1 → ∃ o, ((some (Sum.inl (L ++ [c], V ++ [v], (k : Int), ((j + 1 : Nat) : Int)))) : Option ((List Int × List Int × Int × Int) ⊕ ((List Int × List Int × Int) ⊕ (Pat × Bool)))) = some o ∧
          (match o with | .inl y => ∃ r, iter (stanzaref07_pattern_L1 rs told) y = some r ∧ finO r = patS told rs.length (rs.drop (j + 1)) (j + 1) (L ++ [c]) (V ++ [v]) 0 false k | .inr r => finO r = patS told rs.length (rs.drop (j + 1)) (j + 1) (L ++ [c]) (V ++ [v]) 0 false k) := fun k hk => by
        match m with
        | 0 => omega
        | m + 1 => exact ⟨_, rfl, ref_loop hl told m (j + 1) (L ++ [c]) (V ++ [v]) k (by omega) (by omega) (by simp [hv]) (by simp only [List.length_append, List.length_cons, List.length_nil]; omega) (by omega) (.inr (by simp))⟩
      by_cases b3 : c = 46
      · rw [if_pos (by simpa using b3), if_pos b3]
        rw [kdotD]
        simp only [Option.bind_some]
        by_cases b4 : told = true ∨ (j ≠ 0 ∧ j + 1 ≠ rs.length)
        · rw [decide_eq_true b4, if_pos rfl, if_pos b4]
          exact ⟨_, rfl, rfl⟩
        · rw [decide_eq_false b4, if_neg (by simp), if_neg b4]
          simp only [Option.bind_some]
          rw [if_pos (hg1 c)]
          exact again plain (by omega)
      · rw [if_neg (by simpa using b3), if_neg b3]
        simp only [Option.bind_some]
        rw [if_pos (hg1 c)]
        exact again (plain + 1) (by omega)
    by_cases hin : i < rs.length
    · have e1 : IntKind.i64.wrap ((i : Int) + 1) = ((i + 1 : Nat) : Int) := by rw [wrap_i64 (by omega) (by omega)]; omega
      have hdr := drop_cons' (d := 0) hin
      simp only [stanzaref07_pattern_L1, Int.toNat_natCast]
      rw [if_pos (by simp only [decide_eq_true_eq]; omega), if_pos ⟨by omega, by omega⟩]
      obtain ⟨c, hc⟩ : ∃ c, rs.getD i 0 = c := ⟨_, rfl⟩
      rw [hc] at hdr
      have kdig := kdigD told c
      have khyp := khypD told c
      by_cases d1 : told = false ∧ isDig c
      · have hd : isDig c := d1.2
        have hne : c ≠ 45 := by unfold isDig at hd; omega
        have hnb : c ≠ 65533 := by unfold isDig at hd; omega
        have hpat : patS told rs.length (rs.drop i) i L V 0 false plain = patS told rs.length (rs.drop (i + 1)) (i + 1) L V (c - 48) true plain := by
          rw [hdr]
          simp only [patS]
          rw [if_neg hnb, if_pos (.inr hd), if_neg (by rintro (q | q | ⟨q, _⟩); cases q; exact q (by rw [d1.1, decide_eq_false hne]); rw [d1.1] at q; cases q), if_neg (by rw [d1.1]; simp)]
        have hR := rest (i + 1) (c - 48) true (by omega) (by omega) (by simp) (fun _ h => by cases h) (fun _ h => by cases h)
        rw [← hpat] at hR
        have hw : IntKind.u8.wrap (IntKind.i32.wrap (c - 48)) = c - 48 := by unfold isDig at hd; rw [wrap_i32 (by omega) (by omega), wrap_u8 (by omega) (by omega)]
        simp only [hc, kdig, decide_eq_true d1, Option.bind_some, if_true, hw, e1]
        simp only [Int.toNat_natCast] at hR ⊢
        obtain ⟨o, ho1, ho2⟩ := hR
        exact ⟨o, ho1, by cases o <;> exact ho2⟩
      · by_cases d2 : told = true ∧ c = 45
        · by_cases d3 : i = 0 ∨ i + 1 = rs.length
          · have hpat : patS told rs.length (rs.drop i) i L V 0 false plain = none := by
              rw [hdr]
              simp only [patS]
              have hq : L.length = 0 ∨ i + 1 = rs.length := by
                rcases d3 with q | q
                · exact .inl (by omega)
                · exact .inr q
              rw [if_neg (by omega), if_pos (.inl d2.2), if_pos (.inr (.inr ⟨d2.1, hq⟩))]
            have kend : (if ((i : Int) == 0) = true then some true else some ((i : Int) == (rs.length : Int) - 1)) = some true := by
              by_cases q : i = 0
              · rw [if_pos (by simp [q])]
              · rw [if_neg (by simp [q])]; congr 1; simp only [beq_iff_eq]; omega
            rw [hpat]
            simp only [hc, kdig, decide_eq_false d1, Option.bind_some, Bool.false_eq_true, if_false, khyp, decide_eq_true d2, if_true, e2, kend]
            exact ⟨_, rfl, rfl⟩
          · have hpat : patS told rs.length (rs.drop i) i L V 0 false plain = patS told rs.length (rs.drop (i + 1)) (i + 1) L V 1 true plain := by
              rw [hdr]
              simp only [patS]
              rw [if_neg (by omega), if_pos (.inl d2.2), if_neg ?_, if_pos d2.1]
              rintro (q | q | ⟨_, q | q⟩)
              · cases q
              · exact q (by rw [d2.1, decide_eq_true d2.2])
              · omega
              · omega
            have kend : (if ((i : Int) == 0) = true then some true else some ((i : Int) == (rs.length : Int) - 1)) = some false := by
              rw [if_neg (by simp only [beq_iff_eq]; omega)]; congr 1; simp only [beq_eq_false_iff_ne, ne_eq]; omega
            have hR := rest (i + 1) 1 true (by omega) (by omega) (by simp) (fun _ h => by cases h) (fun _ h => by cases h)
            rw [← hpat] at hR
            simp only [hc, kdig, decide_eq_false d1, Option.bind_some, Bool.false_eq_true, if_false, khyp, decide_eq_true d2, if_true, e2, kend, e1]
            simp only [Int.toNat_natCast, e2] at hR ⊢
            obtain ⟨o, ho1, ho2⟩ := hR
            exact ⟨o, ho1, by cases o <;> exact ho2⟩
        · have hR := rest i 0 false (Nat.le_refl _) hi (by simp) (fun h _ _ => by rw [hc]; exact fun q => d2 ⟨h, q⟩) (fun h _ _ => by rw [hc]; exact fun q => d1 ⟨h, q⟩)
          simp only [hc, kdig, decide_eq_false d1, Option.bind_some, Bool.false_eq_true, if_false, khyp, decide_eq_false d2]
          simp only [hc, Int.toNat_natCast, e2] at hR ⊢
          obtain ⟨o, ho1, ho2⟩ := hR
          exact ⟨o, ho1, by cases o <;> exact ho2⟩
    · have hR := rest i 0 false (Nat.le_refl _) hi (by simp) (fun _ _ h => absurd h hin) (fun _ _ h => absurd h hin)
      simp only [stanzaref07_pattern_L1]
      rw [if_neg (by simp only [decide_eq_true_eq]; omega)]
      simp only [Int.toNat_natCast, e2, Option.bind_some] at hR ⊢
      obtain ⟨o, ho1, ho2⟩ := hR
      exact ⟨o, ho1, by cases o <;> exact ho2⟩
termination_by m => m

/-- The document's. -/
theorem refpat_eq {rs : List Int} (hl : rs.length ≤ 1000000) : ∃ p b, stanzaref07_pattern rs (hasH rs) = some (p, b) ∧ (if b = true then some p else none) = patR rs := by
  obtain ⟨r, h1, h2⟩ := ref_loop hl (hasH rs) rs.length 0 [] [] 0 (by omega) (Nat.zero_le _) rfl (Nat.le_refl _) (Nat.le_refl _) (.inl rfl)
  unfold stanzaref07_pattern
  have h1' : iter (stanzaref07_pattern_L1 rs (hasH rs)) (([] : List Int), ([] : List Int), (0 : Int), (0 : Int)) = some r := h1
  rw [h1']
  simp only [List.drop_zero] at h2
  have hR : patR rs = finO r := by unfold patR; rw [h2]
  rw [hR]
  simp only [Option.bind_some]
  match r with
  | .inr (p, b) => exact ⟨p, b, rfl, rfl⟩
  | .inl (l, v, k) =>
    simp only [finO]
    by_cases q1 : 0 < k
    · rw [if_pos (by simpa using q1)]
      refine ⟨_, _, rfl, ?_⟩
      by_cases q2 : l.length ≤ 24
      · rw [if_pos (by simp only [decide_eq_true_eq]; omega), if_pos ⟨q1, q2⟩]
      · rw [if_neg (by simp only [decide_eq_true_eq]; omega), if_neg (by omega)]
    · rw [if_neg (by simpa using q1)]
      refine ⟨_, _, rfl, ?_⟩
      rw [if_neg (by simp), if_neg (by omega)]
end Go.Proofs.Ytcdmdcfpjeomfaa.T
