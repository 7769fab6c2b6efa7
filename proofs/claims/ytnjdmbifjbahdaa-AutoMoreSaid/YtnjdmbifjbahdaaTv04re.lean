/- The program's automaton: one state's ways. -/
import Derived.Test.YtnjdmbifjbahdaaTv04rdm
namespace Go.Proofs.Ytnjdmbifjbahdaa.T
open Go Go.Tv Go.Proofs
def Fst (ps : List Part) (p : Nat) : Prop := ∃ i, i < ps.length ∧ me (ps.getD i p0).2.1 p = true
def May (f : List S4) (A : Nat → Prop) (s : S4) (q : Nat) : Prop := A q ∨ ∃ p, p < f.length ∧ me s p = true ∧ me (f.getD p z4) q = true
def Bit (ps : List Part) (s : S4) (r : Nat) : Prop := r < ps.length ∧ ((ps.getD r p0).1 = true ∨ ∃ p, me s p = true ∧ me (ps.getD r p0).2.2 p = true)
def Nxt (ss : List Int) (m : S4) (c : Nat) (t : S4) : Prop := W4 t ∧ ∀ p, me t p = true ↔ p < ss.length ∧ me m p = true ∧ bt (ss.getD p 0) c = true
theorem wrap_succ {k : Nat} (h : k < 1000000) : IntKind.i64.wrap ((k : Int) + 1) = ((k + 1 : Nat) : Int) := by rw [wrap_i64 (by omega) (by omega)]; omega
section
variable {ps : List Part} {f : List S4} {ss : List Int}
theorem make_L2 (hl : ps.length ≤ 24) (hw : ∀ i, i < ps.length → W4 (ps.getD i p0).2.1) : ∃ m : S4, iter (auto_Make_L2 ps) (0, 0, 0, 0, 0) = some (m.1, m.2.1, m.2.2.1, m.2.2.2) ∧ W4 m ∧ ∀ p, me m p = true ↔ Fst ps p := by
  have key : ∃ r, iter (auto_Make_L2 ps) (0, 0, 0, 0, 0) = some r ∧ ∃ m : S4, r = (m.1, m.2.1, m.2.2.1, m.2.2.2) ∧ W4 m ∧ ∀ p, me m p = true ↔ Fst ps p := by
    refine iter_rule (I := fun q => ∃ (k : Nat) (m : S4), q = (m.1, m.2.1, m.2.2.1, m.2.2.2, (k : Int)) ∧ k ≤ ps.length ∧ W4 m ∧ ∀ p, me m p = true ↔ ∃ i, i < k ∧ me (ps.getD i p0).2.1 p = true) (μ := fun q => ps.length - q.2.2.2.2.toNat) _ ?_ ?_
    · rintro q ⟨k, m, rfl, hk, hm, hp⟩
      by_cases hlt : k < ps.length
      · have c1 : 0 ≤ (k : Int) ∧ (k : Int) < (ps.length : Int) := by omega
        have hor := or_ok m (ps.getD k p0).2.1
        refine .inl ⟨((or4 m (ps.getD k p0).2.1).1, (or4 m (ps.getD k p0).2.1).2.1, (or4 m (ps.getD k p0).2.1).2.2.1, (or4 m (ps.getD k p0).2.1).2.2.2, ((k + 1 : Nat) : Int)), ?_, ⟨k + 1, or4 m (ps.getD k p0).2.1, rfl, hlt, hm.or (hw k hlt), fun p => ?_⟩, by simp only [Int.toNat_natCast]; omega⟩
        · unfold auto_Make_L2
          dsimp only
          rw [if_pos (by simp; omega), if_pos c1, Int.toNat_natCast, if_pos hlt, wrap_succ (by omega), hor]
          rfl
        · rw [me_or hm (hw k hlt), Bool.or_eq_true, hp]
          constructor
          · rintro (⟨i, h1, h2⟩ | h)
            · exact ⟨i, by omega, h2⟩
            · exact ⟨k, by omega, h⟩
          · rintro ⟨i, h1, h2⟩
            by_cases e : i = k
            · exact .inr (e ▸ h2)
            · exact .inl ⟨i, by omega, h2⟩
      · refine .inr ⟨_, ?_, m, rfl, hm, fun p => ?_⟩
        · unfold auto_Make_L2
          dsimp only
          rw [if_neg (by simp; omega)]
        · rw [hp]
          have : k = ps.length := by omega
          rw [this]; rfl
    · exact ⟨0, z4, rfl, Nat.zero_le _, W4.z, fun p => by rw [me_z]; simp⟩
  obtain ⟨r, h1, m, rfl, h2, h3⟩ := key
  exact ⟨m, h1, h2, h3⟩
theorem make_L3 {st : List S4} {k : Nat} {m0 : S4} (hl : f.length ≤ 200) (hf : ∀ x ∈ f, W4 x) (hs : W4 (st.getD k z4)) (h0 : W4 m0) :
    ∃ m : S4, iter (auto_Make_L3 f st (k : Int)) (m0.1, m0.2.1, m0.2.2.1, m0.2.2.2, 0) = some (m.1, m.2.1, m.2.2.1, m.2.2.2) ∧ W4 m ∧ ∀ q, me m q = true ↔ May f (fun q => me m0 q = true) (st.getD k z4) q := by
  have key : ∃ r, iter (auto_Make_L3 f st (k : Int)) (m0.1, m0.2.1, m0.2.2.1, m0.2.2.2, 0) = some r ∧ ∃ m : S4, r = (m.1, m.2.1, m.2.2.1, m.2.2.2) ∧ W4 m ∧ ∀ q, me m q = true ↔ May f (fun q => me m0 q = true) (st.getD k z4) q := by
    refine iter_rule (I := fun q => ∃ (j : Nat) (m : S4), q = (m.1, m.2.1, m.2.2.1, m.2.2.2, (j : Int)) ∧ j ≤ f.length ∧ W4 m ∧ ∀ p, me m p = true ↔ me m0 p = true ∨ ∃ i, i < j ∧ me (st.getD k z4) i = true ∧ me (f.getD i z4) p = true) (μ := fun q => f.length - q.2.2.2.2.toNat) _ ?_ ?_
    · rintro q ⟨j, m, rfl, hj, hm, hp⟩
      by_cases hlt : j < f.length
      · have c1 : 0 ≤ (j : Int) ∧ (j : Int) < (f.length : Int) := by omega
        have hh := has_ok hs (show j < 256 by omega)
        have hor := or_ok m (f.getD j z4)
        cases hb : me (st.getD k z4) j with
        | false =>
          refine .inl ⟨(m.1, m.2.1, m.2.2.1, m.2.2.2, ((j + 1 : Nat) : Int)), ?_, ⟨j + 1, m, rfl, hlt, hm, fun p => ?_⟩, by simp only [Int.toNat_natCast]; omega⟩
          · unfold auto_Make_L3
            dsimp only
            rw [if_pos (by simp; omega), Int.toNat_natCast, hh, hb, wrap_succ (by omega)]
            rfl
          · rw [hp]
            refine or_congr Iff.rfl ⟨fun ⟨i, h1, h2⟩ => ⟨i, by omega, h2⟩, fun ⟨i, h1, h2⟩ => ⟨i, ?_, h2⟩⟩
            by_cases e : i = j
            · rw [e, hb] at h2; cases h2.1
            · omega
        | true =>
          refine .inl ⟨((or4 m (f.getD j z4)).1, (or4 m (f.getD j z4)).2.1, (or4 m (f.getD j z4)).2.2.1, (or4 m (f.getD j z4)).2.2.2, ((j + 1 : Nat) : Int)), ?_, ⟨j + 1, or4 m (f.getD j z4), rfl, hlt, hm.or (W4_getD hf j), fun p => ?_⟩, by simp only [Int.toNat_natCast]; omega⟩
          · unfold auto_Make_L3
            dsimp only
            rw [if_pos (by simp; omega), Int.toNat_natCast, hh, hb, wrap_succ (by omega)]
            simp only [Option.bind_some, if_true, Int.toNat_natCast, if_pos c1, if_pos hlt]
            rw [hor]
            rfl
          · rw [me_or hm (W4_getD hf j), Bool.or_eq_true, hp]
            constructor
            · rintro ((h | ⟨i, h1, h2⟩) | h)
              · exact .inl h
              · exact .inr ⟨i, by omega, h2⟩
              · exact .inr ⟨j, by omega, hb, h⟩
            · rintro (h | ⟨i, h1, h2⟩)
              · exact .inl (.inl h)
              · by_cases e : i = j
                · exact .inr (e ▸ h2.2)
                · exact .inl (.inr ⟨i, by omega, h2⟩)
      · refine .inr ⟨_, ?_, m, rfl, hm, fun p => ?_⟩
        · unfold auto_Make_L3
          dsimp only
          rw [if_neg (by simp; omega)]
        · rw [hp]
          have : j = f.length := by omega
          rw [this]; rfl
    · exact ⟨0, m0, rfl, Nat.zero_le _, h0, fun p => by simp⟩
  obtain ⟨r, h1, m, rfl, h2, h3⟩ := key
  exact ⟨m, h1, h2, h3⟩
theorem make_L4 {st : List S4} {k : Nat} (hl : ps.length ≤ 24) (hw : ∀ i, i < ps.length → W4 (ps.getD i p0).2.2) (hs : W4 (st.getD k z4)) :
    ∃ b, iter (auto_Make_L4 ps st (k : Int)) (0, 0) = some b ∧ U32 b ∧ ∀ r, bt b r = true ↔ Bit ps (st.getD k z4) r := by
  refine iter_rule (I := fun q => ∃ j : Nat, q.2 = (j : Int) ∧ j ≤ ps.length ∧ U32 q.1 ∧ ∀ r, bt q.1 r = true ↔ r < j ∧ ((ps.getD r p0).1 = true ∨ ∃ p, me (st.getD k z4) p = true ∧ me (ps.getD r p0).2.2 p = true)) (μ := fun q => ps.length - q.2.toNat) _ ?_ ?_
  · rintro ⟨b, i⟩ ⟨j, rfl, hj, hb, hr⟩
    dsimp only at hb hr
    by_cases hlt : j < ps.length
    · have c1 : 0 ≤ (j : Int) ∧ (j : Int) < (ps.length : Int) := by omega
      obtain ⟨v, v1, v2⟩ := meets_ok hs (hw j hlt)
      obtain ⟨u, hu1, hu2⟩ : ∃ u : Bool, (if (ps.getD j p0).1 = true then some true else (auto_meets (st.getD k z4).1 (st.getD k z4).2.1 (st.getD k z4).2.2.1 (st.getD k z4).2.2.2 (ps.getD j p0).2.2.1 (ps.getD j p0).2.2.2.1 (ps.getD j p0).2.2.2.2.1 (ps.getD j p0).2.2.2.2.2).bind fun r517 => some r517) = some u ∧ (u = true ↔ ((ps.getD j p0).1 = true ∨ ∃ p, me (st.getD k z4) p = true ∧ me (ps.getD j p0).2.2 p = true)) := by
        cases h1 : (ps.getD j p0).1 with
        | true => exact ⟨true, rfl, by simp⟩
        | false => exact ⟨v, by rw [if_neg (by simp), v1]; rfl, by rw [v2]; simp⟩
      have step : auto_Make_L4 ps st (k : Int) (b, (j : Int)) = some (.inl ((if u = true then bitsOf .or .u32 b (((2 ^ j : Nat) : Int)) else b), ((j + 1 : Nat) : Int))) := by
        unfold auto_Make_L4
        dsimp only
        rw [if_pos (by simp; omega), if_pos c1, Int.toNat_natCast, if_pos hlt, wrap_succ (by omega), Int.toNat_natCast, hu1]
        simp only [Option.bind_some]
        rw [pow_u32 (by omega)]
        cases u
        · rfl
        · rw [if_pos rfl, if_pos (by omega), if_pos rfl]; rfl
      refine .inl ⟨_, step, ⟨j + 1, rfl, hlt, ?_, fun r => ?_⟩, by simp only [Int.toNat_natCast]; omega⟩
      · dsimp only
        split
        · exact hb.or (U32.pow (by omega))
        · exact hb
      · dsimp only
        cases hu : u with
        | true =>
          rw [if_pos rfl, bt_or32 hb (U32.pow (by omega)), Bool.or_eq_true, hr, bt_pow, decide_eq_true_eq]
          constructor
          · rintro (⟨h1, h2⟩ | rfl)
            · exact ⟨by omega, h2⟩
            · exact ⟨by omega, hu2.1 hu⟩
          · rintro ⟨h1, h2⟩
            by_cases e : j = r
            · exact .inr e
            · exact .inl ⟨by omega, h2⟩
        | false =>
          rw [if_neg (by simp), hr]
          constructor
          · rintro ⟨h1, h2⟩; exact ⟨by omega, h2⟩
          · rintro ⟨h1, h2⟩
            by_cases e : r = j
            · subst e
              rw [hu2.2 h2] at hu; cases hu
            · exact ⟨by omega, h2⟩
    · refine .inr ⟨b, ?_, hb, fun r => ?_⟩
      · unfold auto_Make_L4
        dsimp only
        rw [if_neg (by simp; omega)]
      · rw [hr]
        have : j = ps.length := by omega
        rw [this]; rfl
  · exact ⟨0, rfl, Nat.zero_le _, ⟨by decide, by decide⟩, fun r => by rw [bt_zero]; simp⟩
theorem make_L5 {m : S4} {c : Nat} (hc : c < 32) (hl : ss.length ≤ 200) (hu : ∀ y ∈ ss, U32 y) (hm : W4 m) :
    ∃ t : S4, iter (auto_Make_L5 ss m.1 m.2.1 m.2.2.1 m.2.2.2 (c : Int)) (0, 0, 0, 0, 0) = some (t.1, t.2.1, t.2.2.1, t.2.2.2) ∧ Nxt ss m c t := by
  have key : ∃ r, iter (auto_Make_L5 ss m.1 m.2.1 m.2.2.1 m.2.2.2 (c : Int)) (0, 0, 0, 0, 0) = some r ∧ ∃ t : S4, r = (t.1, t.2.1, t.2.2.1, t.2.2.2) ∧ Nxt ss m c t := by
    refine iter_rule (I := fun q => ∃ (j : Nat) (t : S4), q = (t.1, t.2.1, t.2.2.1, t.2.2.2, (j : Int)) ∧ j ≤ ss.length ∧ W4 t ∧ ∀ p, me t p = true ↔ p < j ∧ me m p = true ∧ bt (ss.getD p 0) c = true) (μ := fun q => ss.length - q.2.2.2.2.toNat) _ ?_ ?_
    · rintro q ⟨j, t, rfl, hj, ht, hp⟩
      by_cases hlt : j < ss.length
      · have c1 : 0 ≤ (j : Int) ∧ (j : Int) < (ss.length : Int) := by omega
        have hh := has_ok hm (show j < 256 by omega)
        have hbit := has_u32 (hu _ (getD_mem' (d := 0) hlt)) hc
        have had := add_ok ht (show j < 256 by omega)
        obtain ⟨v, hv1, hv2⟩ : ∃ v : Bool, v = (me m j && bt (ss.getD j 0) c) ∧ True := ⟨_, rfl, trivial⟩
        have step : auto_Make_L5 ss m.1 m.2.1 m.2.2.1 m.2.2.2 (c : Int) (t.1, t.2.1, t.2.2.1, t.2.2.2, (j : Int)) = some (.inl ((if v = true then ad4 j t else t).1, (if v = true then ad4 j t else t).2.1, (if v = true then ad4 j t else t).2.2.1, (if v = true then ad4 j t else t).2.2.2, ((j + 1 : Nat) : Int))) := by
          unfold auto_Make_L5
          dsimp only
          rw [if_pos (by simp; omega), if_pos c1, Int.toNat_natCast, if_pos hlt, hh, wrap_succ (by omega), Int.toNat_natCast, hbit, had]
          simp only [Option.bind_some]
          rw [if_pos (show 0 ≤ (c : Int) by omega)]
          subst hv1
          cases me m j <;> cases bt (ss.getD j 0) c <;> rfl
        refine .inl ⟨_, step, ⟨j + 1, _, rfl, hlt, ?_, fun p => ?_⟩, by simp only [Int.toNat_natCast]; omega⟩
        · split
          · exact ht.ad j
          · exact ht
        · subst hv1
          cases hv : (me m j && bt (ss.getD j 0) c) with
          | true =>
            rw [if_pos rfl, me_ad ht (by omega), Bool.or_eq_true, hp, decide_eq_true_eq]
            constructor
            · rintro (⟨h1, h2⟩ | rfl)
              · exact ⟨by omega, h2⟩
              · exact ⟨by omega, by simpa using hv⟩
            · rintro ⟨h1, h2⟩
              by_cases e : j = p
              · exact .inr e
              · exact .inl ⟨by omega, h2⟩
          | false =>
            rw [if_neg (by simp), hp]
            constructor
            · rintro ⟨h1, h2⟩; exact ⟨by omega, h2⟩
            · rintro ⟨h1, h2⟩
              by_cases e : p = j
              · subst e
                rw [h2.1, h2.2] at hv; cases hv
              · exact ⟨by omega, h2⟩
      · refine .inr ⟨_, ?_, t, rfl, ht, fun p => ?_⟩
        · unfold auto_Make_L5
          dsimp only
          rw [if_neg (by simp; omega)]
        · rw [hp]
          have : j = ss.length := by omega
          rw [this]
    · exact ⟨0, z4, rfl, Nat.zero_le _, W4.z, fun p => by rw [me_z]; simp⟩
  obtain ⟨r, h1, t, rfl, h2⟩ := key
  exact ⟨t, h1, h2⟩
end
end Go.Proofs.Ytnjdmbifjbahdaa.T
