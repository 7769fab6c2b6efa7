/- Place: what Byte answers; PlaceBytes: true, whatever the input. -/
import Derived.Test.YtdjjifeipeelhaaTv17f
import Derived.Test.YtdjjifeipeelhaaTvT17xPlaceBytes
namespace Go.Proofs.Ytdjjifeipeelhaa.T
open Go Go.Tv Go.Proofs

/-- The first of the last ones that are no further than s. -/
def IsByte (col : Nat → Int) (n : Nat) (s : Int) (i : Nat) : Prop := i ≤ n ∧ col i ≤ s ∧ (∀ j, i < j → j ≤ n → s < col j ∨ col j = s ∧ col i = s) ∧ (col i = s → ∀ j, j < i → col j < s)

theorem IsByte.uniq {col : Nat → Int} {n : Nat} {s : Int} {i k : Nat} (hi : IsByte col n s i) (hk : IsByte col n s k) : i = k := by
  obtain ⟨i1, i2, i3, i4⟩ := hi
  obtain ⟨k1, k2, k3, k4⟩ := hk
  rcases Nat.lt_trichotomy i k with h | h | h
  · rcases i3 k h k1 with q | ⟨q1, q2⟩
    · omega
    · have := k4 q1 i h; omega
  · exact h
  · rcases k3 i h i1 with q | ⟨q1, q2⟩
    · omega
    · have := i4 q1 k h; omega

theorem byte_err {C : List C4} {O : List Int} {L : List C4} {K : List (List Int)} {r c : Int} (hr : ¬ (0 ≤ r ∧ r < (L.length : Int) ∧ 0 ≤ c)) : place_Map_Byte C O L K r c = some ((0 : Int), (2 : Int)) := by
  unfold place_Map_Byte
  by_cases h0 : r < 0
  · rw [if_pos (by simpa using h0)]; rfl
  rw [if_neg (by simpa using h0)]
  by_cases h1 : r ≥ (L.length : Int)
  · rw [if_pos (by simpa using h1)]; rfl
  rw [if_neg (by simpa using h1)]
  simp only [Option.bind_some]
  rw [if_pos (by simp only [decide_eq_true_eq]; omega)]

section
variable {C : List C4} {O : List Int} {m : List C4} {nb tab : Int} {L : List C4} {K : List (List Int)} {pos : Nat → Int} {cut : Nat → Nat} (h : Pl C O m nb tab L K pos cut)
include h

/-- How many columns a row has, less one. -/
theorem row_small {r : Nat} (hr : r < L.length) : cut r ≤ cut (r + 1) ∧ cut (r + 1) ≤ C.length := ⟨h.cut_mono (by omega) (by omega), h.cut_le (by omega)⟩

theorem start_eq {k : Nat} (hk : k ≤ C.length) : place_Map_start C O L K (k : Int) = some (pos k) := by
  unfold place_Map_start
  by_cases q : k < C.length
  · have hc := h.cl k q
    unfold z4 at hc
    rw [if_pos (by simp only [decide_eq_true_eq]; omega), if_pos ⟨by omega, by omega⟩, Int.toNat_natCast, hc.1]
  · rw [if_neg (by simp only [decide_eq_true_eq]; omega), end_eq h, h.nb, show k = C.length by omega]
    rfl

theorem byte_eq {r : Nat} {c : Int} (hr : r < L.length) (hc : 0 ≤ c) : ∃ i, IsByte (colS C tab (cut r)) (cut (r + 1) - cut r) c i ∧ place_Map_Byte C O L K (r : Int) c = some (pos (cut r + i), (0 : Int)) := by
  obtain ⟨q1, q2⟩ := row_small h hr
  have hn := h.hn
  have hkl := h.kl
  have hln := h.ln r hr
  unfold z4 at hln
  have hmono : ∀ a b, a ≤ b → colS C tab (cut r) a ≤ colS C tab (cut r) b := fun a b hab => colS_mono h.hg h.ht _ hab
  obtain ⟨k, k1, k2, k3, k4⟩ := search_eq (is := fun i => place_ahead_int_1 i (r : Int) c (colL C tab (cut r) (cut (r + 1)))) (fun j => decide (colS C tab (cut r) j > c)) (cut (r + 1) - cut r + 1) (by omega) (fun i hi => by
    unfold place_ahead_int_1
    rw [if_pos ⟨by omega, by rw [colL_len]; omega⟩, Int.toNat_natCast, colL_get hi]
    rfl) (fun i j hij hj hp => by
      simp only [decide_eq_true_eq] at hp ⊢
      have := hmono i j hij
      omega)
  have hk0 : 0 < k := by
    rcases Nat.eq_zero_or_pos k with e | e
    · subst e
      have := of_decide_eq_true (k4 (by omega))
      have e0 : colS C tab (cut r) 0 = 0 := rfl
      omega
    · exact e
  have hkle : ∀ j, j < k → colS C tab (cut r) j ≤ c := fun j hj => by
    have := k3 j hj
    simp only [decide_eq_false_iff_not] at this
    omega
  have hkgt : ∀ j, k ≤ j → j ≤ cut (r + 1) - cut r → c < colS C tab (cut r) j := fun j hj hj2 => by
    have := k4 (by omega)
    simp only [decide_eq_true_eq] at this
    have := hmono k j hj
    omega
  -- back over like columns
  obtain ⟨x, x1, i, x2, x3⟩ := iter_rule (body := place_Map_Byte_L1 K (r : Int) c) (fun v => ∃ i : Nat, v = (i : Int) ∧ i < k ∧ ∀ j, i < j → j < k → colS C tab (cut r) j = c ∧ colS C tab (cut r) i = c) (fun v => v.toNat)
    (fun v => ∃ i : Nat, v = (i : Int) ∧ IsByte (colS C tab (cut r)) (cut (r + 1) - cut r) c i)
    (fun v ⟨i, e, i1, i2⟩ => by
      subst e
      simp only [place_Map_Byte_L1, Int.toNat_natCast, h.kg r hr, colL_len]
      have fin : (colS C tab (cut r) i = c → ∀ j, j < i → colS C tab (cut r) j < c) → IsByte (colS C tab (cut r)) (cut (r + 1) - cut r) c i := fun hf => by
        refine ⟨by omega, hkle i i1, fun j hj hj2 => ?_, hf⟩
        rcases Nat.lt_or_ge j k with q | q
        · exact .inr (i2 j hj q)
        · exact .inl (hkgt j q hj2)
      by_cases q : 0 < i
      · have e1 : IntKind.i64.wrap ((i : Int) - 1) = ((i - 1 : Nat) : Int) := by rw [wrap_i64 (by omega) (by omega)]; omega
        rw [if_pos (by simp only [decide_eq_true_eq]; omega), e1, if_pos ⟨by omega, by omega⟩, if_pos ⟨by omega, by omega⟩, Int.toNat_natCast, colL_get (by omega), colL_get (by omega)]
        by_cases e2 : colS C tab (cut r) (i - 1) = colS C tab (cut r) i
        · rw [if_pos (by simpa using e2), if_pos ⟨by omega, by omega⟩]
          simp only [Option.bind_some]
          by_cases e3 : colS C tab (cut r) i = c
          · left
            rw [if_pos (by simpa using e3)]
            refine ⟨_, rfl, ⟨i - 1, rfl, by omega, fun j hj hj2 => ?_⟩, by omega⟩
            by_cases e4 : j = i
            · subst e4; exact ⟨e3, by omega⟩
            · exact ⟨(i2 j (by omega) hj2).1, by omega⟩
          · right
            rw [if_neg (by simpa using e3)]
            exact ⟨_, rfl, i, rfl, fin fun e => absurd e e3⟩
        · right
          rw [if_neg (by simpa using e2)]
          simp only [Option.bind_some, Bool.false_eq_true, if_false]
          refine ⟨_, rfl, i, rfl, fin fun e j hj => ?_⟩
          have := hmono j (i - 1) (by omega)
          have := hmono (i - 1) i (by omega)
          omega
      · right
        rw [if_neg (by simp only [decide_eq_true_eq]; omega)]
        simp only [Option.bind_some, Bool.false_eq_true, if_false]
        exact ⟨_, rfl, i, rfl, fin fun e j hj => absurd hj (by omega)⟩)
    (s := ((k - 1 : Nat) : Int)) ⟨k - 1, rfl, by omega, fun j hj hj2 => absurd hj2 (by omega)⟩
  refine ⟨i, x3, ?_⟩
  have hil := x3.1
  unfold place_Map_Byte
  rw [if_neg (by simp only [decide_eq_true_eq]; omega), if_neg (by simp only [decide_eq_true_eq]; omega)]
  simp only [Option.bind_some]
  rw [if_neg (by simp only [decide_eq_true_eq]; omega), if_pos ⟨by omega, by omega⟩, if_pos ⟨by omega, by omega⟩, Int.toNat_natCast, h.kg r hr]
  unfold place_ahead_int sort_Search_v2
  rw [search2, colL_len, k2]
  simp only [Option.bind_some]
  have e1 : IntKind.i64.wrap ((k : Int) - 1) = ((k - 1 : Nat) : Int) := by rw [wrap_i64 (by omega) (by omega)]; omega
  rw [e1, x1, x2]
  simp only [Option.bind_some, hln.1]
  have e2 : IntKind.i64.wrap ((cut r : Int) + (i : Int)) = ((cut r + i : Nat) : Int) := by rw [wrap_i64 (by omega) (by omega)]; omega
  rw [e2, start_eq h (by omega)]
  rfl

theorem refTotal : iter (stanzaref13_Byte_L2 C) ((0 : Int), (0 : Int)) = some nb := by
  have hn := h.hn
  have hi := iter_count (body := stanzaref13_Byte_L2 C) (fun k => (pos k, (k : Int))) C.length (r := nb) (fun k hk => by
    have hc := h.cl k hk
    unfold z4 at hc
    have p1 := h.pos_in k
    have p2 := h.pos_in (k + 1)
    have e1 : IntKind.i64.wrap (pos k + (pos (k + 1) - pos k)) = pos (k + 1) := by rw [wrap_i64 (by omega) (by omega)]; omega
    simp only [stanzaref13_Byte_L2, Int.toNat_natCast, hc.2]
    rw [if_pos (by simp only [decide_eq_true_eq]; omega), if_pos ⟨by omega, by omega⟩, e1, wrap_i64 (by omega) (by omega)]
    rfl) (by
      simp only [stanzaref13_Byte_L2]
      rw [if_neg (by simp), h.nb])
  rw [h.p0] at hi
  exact hi

theorem refByte_err {r c : Int} (hr : ¬ (0 ≤ r ∧ r < (L.length : Int) ∧ 0 ≤ c)) : stanzaref13_Byte C O m tab r c = some ((0 : Int), (2 : Int)) := by
  unfold stanzaref13_Byte
  rw [lines_eq h]
  simp only [Option.bind_some]
  by_cases h0 : r < 0
  · rw [if_pos (by simpa using h0)]; rfl
  rw [if_neg (by simpa using h0)]
  by_cases h1 : r ≥ (L.length : Int)
  · rw [if_pos (by simpa using h1)]; rfl
  rw [if_neg (by simpa using h1)]
  simp only [Option.bind_some]
  rw [if_pos (by simp only [decide_eq_true_eq]; omega)]

theorem refByte_eq {r : Nat} {c : Int} (hr : r < L.length) (hc : 0 ≤ c) : ∃ i, IsByte (colS C tab (cut r)) (cut (r + 1) - cut r) c i ∧ stanzaref13_Byte C O m tab (r : Int) c = some (pos (cut r + i), (0 : Int)) := by
  obtain ⟨q1, q2⟩ := row_small h hr
  have hn := h.hn
  have hln := h.ln r hr
  unfold z4 at hln
  have hmono : ∀ a b, a ≤ b → colS C tab (cut r) a ≤ colS C tab (cut r) b := fun a b hab => colS_mono h.hg h.ht _ hab
  have h00 : colS C tab (cut r) 0 = 0 := rfl
  obtain ⟨x, x1, i, x2, x3⟩ := iter_rule (body := stanzaref13_Byte_L1 c (colL C tab (cut r) (cut (r + 1)))) (fun s => ∃ i a : Nat, s = ((i : Int), (a : Int)) ∧ a ≤ cut (r + 1) - cut r + 1 ∧ (a = 0 ∧ i = 0 ∨ i < a ∧ colS C tab (cut r) i ≤ c ∧ (∀ j, i < j → j < a → c < colS C tab (cut r) j ∨ colS C tab (cut r) j = c ∧ colS C tab (cut r) i = c) ∧ (colS C tab (cut r) i = c → ∀ j, j < i → colS C tab (cut r) j < c)))
    (fun s => cut (r + 1) - cut r + 1 - s.2.toNat) (fun v => ∃ i : Nat, v = (i : Int) ∧ IsByte (colS C tab (cut r)) (cut (r + 1) - cut r) c i)
    (fun s ⟨i, a, e, a1, a2⟩ => by
      subst e
      simp only [stanzaref13_Byte_L1, Int.toNat_natCast, colL_len]
      by_cases q : a < cut (r + 1) - cut r + 1
      · left
        have e1 : IntKind.i64.wrap ((a : Int) + 1) = ((a + 1 : Nat) : Int) := by rw [wrap_i64 (by omega) (by omega)]; omega
        have hil : i < cut (r + 1) - cut r + 1 := by omega
        rw [if_pos (by simp only [decide_eq_true_eq]; omega), if_pos ⟨by omega, by omega⟩]
        simp only [colL_get q, colL_get hil, e1]
        have take : (colS C tab (cut r) a ≤ c) → (colS C tab (cut r) a = c → ∀ j, j < a → colS C tab (cut r) j < c) → ∃ y, ((some true).bind (fun (v13 : Bool) => (if v13 = true then some (a : Int) else some (i : Int)).bind fun (v14 : Int) => some (Sum.inl (v14, ((a + 1 : Nat) : Int)))) : Option ((Int × Int) ⊕ Int)) = some (Sum.inl y) ∧
            (∃ i a : Nat, y = ((i : Int), (a : Int)) ∧ a ≤ cut (r + 1) - cut r + 1 ∧ (a = 0 ∧ i = 0 ∨ i < a ∧ colS C tab (cut r) i ≤ c ∧ (∀ j, i < j → j < a → c < colS C tab (cut r) j ∨ colS C tab (cut r) j = c ∧ colS C tab (cut r) i = c) ∧ (colS C tab (cut r) i = c → ∀ j, j < i → colS C tab (cut r) j < c))) ∧ cut (r + 1) - cut r + 1 - y.2.toNat < cut (r + 1) - cut r + 1 - a :=
          fun t1 t2 => ⟨_, rfl, ⟨a, a + 1, rfl, by omega, .inr ⟨by omega, by omega, fun j hj hj2 => absurd hj2 (by omega), t2⟩⟩, by simp only [Int.toNat_natCast]; omega⟩
        have keep : (0 < a) → (c < colS C tab (cut r) a ∨ colS C tab (cut r) a = c ∧ colS C tab (cut r) i = c) → ∃ y, ((some false).bind (fun (v13 : Bool) => (if v13 = true then some (a : Int) else some (i : Int)).bind fun (v14 : Int) => some (Sum.inl (v14, ((a + 1 : Nat) : Int)))) : Option ((Int × Int) ⊕ Int)) = some (Sum.inl y) ∧
            (∃ i a : Nat, y = ((i : Int), (a : Int)) ∧ a ≤ cut (r + 1) - cut r + 1 ∧ (a = 0 ∧ i = 0 ∨ i < a ∧ colS C tab (cut r) i ≤ c ∧ (∀ j, i < j → j < a → c < colS C tab (cut r) j ∨ colS C tab (cut r) j = c ∧ colS C tab (cut r) i = c) ∧ (colS C tab (cut r) i = c → ∀ j, j < i → colS C tab (cut r) j < c))) ∧ cut (r + 1) - cut r + 1 - y.2.toNat < cut (r + 1) - cut r + 1 - a :=
          fun t0 t1 => by
            clear take
            rcases a2 with ⟨a3, _⟩ | ⟨b1, b2, b3, b4⟩
            · omega
            · refine ⟨_, rfl, ⟨i, a + 1, rfl, by omega, .inr ⟨by omega, b2, fun j hj hj2 => ?_, b4⟩⟩, by simp only [Int.toNat_natCast]; omega⟩
              by_cases e : j = a
              · subst e; exact t1
              · exact b3 j hj (by omega)
        by_cases d1 : colS C tab (cut r) a < c
        · rw [if_pos (by simpa using d1)]
          exact take (by (clear take keep; omega)) (by (clear take keep; omega))
        rw [if_neg (by simpa using d1), if_pos ⟨by (clear take keep; omega), by (clear take keep; omega)⟩]
        by_cases d2 : colS C tab (cut r) a = c
        · rw [if_pos (by simpa using d2), if_pos ⟨by (clear take keep; omega), by (clear take keep; omega)⟩]
          by_cases d3 : colS C tab (cut r) i < c
          · rw [if_pos (by simpa using d3)]
            refine take (by (clear take keep; omega)) fun _ j hj => ?_
            rcases a2 with ⟨a3, _⟩ | ⟨b1, b2, b3, b4⟩
            · (clear take keep; omega)
            · rcases Nat.lt_or_ge i j with g | g
              · rcases b3 j g hj with g2 | ⟨_, g2⟩
                · have := hmono j a (by (clear take keep; omega)); (clear take keep; omega)
                · (clear take keep; omega)
              · have := hmono j i g; (clear take keep; omega)
          rw [if_neg (by simpa using d3)]
          by_cases d4 : a = 0
          · have e : ((a : Int) == 0) = true := by simp [d4]
            rw [e]
            exact take (by (clear take keep; omega)) fun _ j hj => absurd hj (by (clear take keep; omega))
          · have e : ((a : Int) == 0) = false := by simp; (clear take keep; omega)
            rw [e]
            refine keep (by (clear take keep; omega)) (.inr ⟨d2, ?_⟩)
            have := hmono i a (by (clear take keep; omega))
            (clear take keep; omega)
        · rw [if_neg (by simpa using d2)]
          refine keep ?_ (.inl (by (clear take keep; omega)))
          rcases Nat.eq_zero_or_pos a with e | e
          · rw [e, h00] at d1 d2; (clear take keep; omega)
          · exact e
      · right
        rw [if_neg (by simp only [decide_eq_true_eq]; omega)]
        rcases a2 with ⟨a3, _⟩ | ⟨b1, b2, b3, b4⟩
        · omega
        · exact ⟨_, rfl, i, rfl, by omega, b2, fun j hj hj2 => b3 j hj (by omega), b4⟩)
    (s := ((0 : Int), (0 : Int))) ⟨0, 0, rfl, by omega, .inl ⟨rfl, rfl⟩⟩
  refine ⟨i, x3, ?_⟩
  have hil := x3.1
  unfold stanzaref13_Byte
  rw [lines_eq h]
  simp only [Option.bind_some]
  rw [if_neg (by simp only [decide_eq_true_eq]; omega), if_neg (by simp only [decide_eq_true_eq]; omega)]
  simp only [Option.bind_some]
  rw [if_neg (by simp only [decide_eq_true_eq]; omega), if_pos ⟨by omega, by omega⟩, Int.toNat_natCast, hln.1, hln.2, refColumns_eq h.hg h.ht q1 q2 hn]
  simp only [Option.bind_some]
  rw [x1, x2]
  simp only [Option.bind_some]
  have e2 : IntKind.i64.wrap ((cut r : Int) + (i : Int)) = ((cut r + i : Nat) : Int) := by rw [wrap_i64 (by omega) (by omega)]; omega
  rw [e2]
  by_cases q : cut r + i < C.length
  · have hcl := h.cl _ q
    unfold z4 at hcl
    rw [if_pos (by simp only [decide_eq_true_eq]; omega), if_pos ⟨by omega, by omega⟩, Int.toNat_natCast, hcl.1]
  · rw [if_neg (by simp only [decide_eq_true_eq]; omega), refTotal h, h.nb, show cut r + i = C.length by omega]
    rfl

theorem bytes_same (r c : Int) : ∃ x : Int × Int, place_Map_Byte C O L K r c = some x ∧ stanzaref13_Byte C O m tab r c = some x := by
  by_cases hr : 0 ≤ r ∧ r < (L.length : Int) ∧ 0 ≤ c
  · obtain ⟨k, rfl⟩ := Int.eq_ofNat_of_zero_le hr.1
    obtain ⟨i, i1, i2⟩ := byte_eq h (r := k) (by omega) hr.2.2
    obtain ⟨j, j1, j2⟩ := refByte_eq h (r := k) (by omega) hr.2.2
    have e := i1.uniq j1
    subst e
    exact ⟨_, i2, j2⟩
  · exact ⟨_, byte_err hr, refByte_err h hr⟩
end

abbrev placeBytes_Ts : List Ty := [Bits_T, Way_T, .prod (.int .i64) (.int .i64)]
theorem placeBytes_all (x : Tup placeBytes_Ts) (hx : WfT placeBytes_Ts x) : stanzalaw17_PlaceBytes x.1 x.2.1.1 x.2.1.2.1 x.2.1.2.2.1 x.2.1.2.2.2.1 x.2.1.2.2.2.2.1 x.2.1.2.2.2.2.2 x.2.2.1.1 x.2.2.1.2 = some true := by
  obtain ⟨C, O, m, nb, tab, L, K, pos, cut, h, hm⟩ := made_wf hx.1 hx.2.1
  have hr := h.rows
  have hml : m.length ≤ 101 := by
    by_cases h0 : 0 < C.length
    · rw [h.m1 h0]; omega
    · rw [(h.m0 (by omega)).1]; simp
  unfold stanzalaw17_PlaceBytes
  rw [awake, hm]
  simp only [Option.bind_some, Bool.not_true, Bool.false_eq_true, if_false]
  rw [if_pos (by rw [u64_wrap]; omega), if_pos (by rw [u64_wrap]; omega), if_pos (by decide)]
  have hi := iter_count (body := stanzalaw17_PlaceBytes_L1 x.2.2.1.1 x.2.2.1.2 (C, O) m tab C O L K) (fun k => (k : Int)) 4 (r := Sum.inl ()) (fun k hk => by
    simp only [stanzalaw17_PlaceBytes_L1]
    rw [if_pos (by simp only [List.length_cons, List.length_nil, decide_eq_true_eq]; omega), if_pos ⟨by omega, by simp only [List.length_cons, List.length_nil]; omega⟩, if_pos (by simp only [List.length_cons, List.length_nil]; omega)]
    generalize List.getD _ _ _ = s
    obtain ⟨r, r1, r2⟩ := bytes_same h s.1 s.2
    rw [r1]
    simp only [Option.bind_some]
    rw [r2]
    simp only [Option.bind_some]
    rw [if_neg (by simp)]
    simp only [Option.bind_some]
    rw [if_neg (by simp), wrap_i64 (by omega) (by omega)]
    rfl) (by
      simp only [stanzalaw17_PlaceBytes_L1]
      rw [if_neg (by simp)])
  have hi' : iter (stanzalaw17_PlaceBytes_L1 x.2.2.1.1 x.2.2.1.2 (C, O) m tab C O L K) (0 : Int) = some (Sum.inl ()) := hi
  rw [hi']
  rfl
end Go.Proofs.Ytdjjifeipeelhaa.T
