/- The program's automaton: all states. -/
import Derived.Test.YtnjdmbifjbahdaaTv04re
namespace Go.Proofs.Ytnjdmbifjbahdaa.T
open Go Go.Tv Go.Proofs
abbrev K4 : Ty := .prod (.int .u64) (.prod (.int .u64) (.prod (.int .u64) (.int .u64)))
def lab (ss : List Int) (p : Nat) (c : Int) : Prop := p < ss.length ∧ inS (ss.getD p 0) c
def Fe (f : List S4) (p q : Nat) : Prop := p < f.length ∧ me (f.getD p z4) q = true
def Rch (x : MS) (w : Wd) (s : S4) : Prop := W4 s ∧ ∀ q, me s q = true ↔ Sx (Fe x.2.1) (lab x.1) (Fst x.2.2) w q
def Stp (x : MS) (s : S4) (c : Nat) (t : S4) : Prop := ∃ m : S4, W4 m ∧ (∀ q, me m q = true ↔ May x.2.1 (Fst x.2.2) s q) ∧ Nxt x.1 m c t
def Cls (n : Nat) (w : Wd) : Prop := ∀ c ∈ w, 0 ≤ c ∧ c < (n : Int)
theorem Rch.nil (x : MS) : Rch x [] z4 := ⟨W4.z, fun q => by rw [me_z]; exact ⟨fun h => (by cases h), fun h => (Sx.nil h).elim⟩⟩
theorem Rch.step {x : MS} {w : Wd} {s t : S4} {c : Nat} (hc : c < 32) (h : Rch x w s) (k : Stp x s c t) : Rch x (w ++ [(c : Int)]) t := by
  obtain ⟨m, hm, hM, ht, hN⟩ := k
  refine ⟨ht, fun q => ?_⟩
  rw [hN, Sx.snoc, hM]
  unfold May lab inS Fe
  have e : ∀ p, me s p = true ↔ Sx (Fe x.2.1) (lab x.1) (Fst x.2.2) w p := h.2
  constructor
  · rintro ⟨h1, h2, h3⟩
    refine ⟨⟨h1, by omega, by omega, by simpa using h3⟩, ?_⟩
    rcases h2 with h2 | ⟨p, h4, h5, h6⟩
    · exact .inl h2
    · exact .inr ⟨p, (e p).1 h5, h4, h6⟩
  · rintro ⟨⟨h1, _, _, h3⟩, h2⟩
    refine ⟨h1, ?_, by simpa using h3⟩
    rcases h2 with h2 | ⟨p, h5, h4, h6⟩
    · exact .inl h2
    · exact .inr ⟨p, h4, (e p).2 h5, h6⟩
structure DI (x : MS) (n : Nat) (st : List S4) (seen : List (S4 × Int)) : Prop where
  ne : 1 ≤ st.length
  le : st.length ≤ 300
  w4 : ∀ s ∈ st, W4 s
  nd : st.Nodup
  z : st.getD 0 z4 = z4
  sn : ∀ t j, mfind K4 seen t = some j ↔ ∃ i, i < st.length ∧ j = (i : Int) ∧ st.getD i z4 = t
  rc : ∀ i, i < st.length → ∃ w, Cls n w ∧ Rch x w (st.getD i z4)
theorem getD_append_len {α : Type} (l : List α) (y d : α) : (l ++ [y]).getD l.length d = y := by simp [List.getD_eq_getElem?_getD]
theorem DI.zero (x : MS) (n : Nat) : DI x n [z4] (mset K4 [] z4 0) := by
  refine ⟨by simp, by simp, fun s hs => ?_, by simp, rfl, fun t j => ?_, fun i hi => ?_⟩
  · simp only [List.mem_singleton] at hs; exact hs ▸ W4.z
  · rw [mfind_mset rfl]
    constructor
    · intro h
      split at h
      · rename_i e
        cases h
        exact ⟨0, by simp, rfl, (keyEq_iff (K := K4) rfl).1 e⟩
      · cases h
    · rintro ⟨i, h1, rfl, h2⟩
      have : i = 0 := by simpa using h1
      subst this
      replace h2 : z4 = t := h2
      rw [if_pos ((keyEq_iff (K := K4) rfl).2 h2)]
      rfl
  · have : i = 0 := by simpa using hi
    subst this
    exact ⟨[], fun c h => by simp at h, Rch.nil x⟩
theorem DI.more {x : MS} {n : Nat} {st : List S4} {seen : List (S4 × Int)} (h : DI x n st seen) {t : S4} {w : Wd} (hw : Cls n w) (ht : Rch x w t) (hlt : st.length < 300) (hn : mfind K4 seen t = none) :
    DI x n (st ++ [t]) (mset K4 seen t (st.length : Int)) := by
  have hnot : ∀ i, i < st.length → st.getD i z4 ≠ t := fun i hi e => by
    have := (h.sn t (i : Int)).2 ⟨i, hi, rfl, e⟩
    rw [hn] at this; cases this
  refine ⟨by simp, by simp; omega, fun s hs => ?_, ?_, ?_, fun t' j => ?_, fun i hi => ?_⟩
  · rcases List.mem_append.1 hs with h' | h'
    · exact h.w4 s h'
    · simp only [List.mem_singleton] at h'; exact h' ▸ ht.1
  · rw [List.nodup_append]
    refine ⟨h.nd, by simp, fun a ha b hb => ?_⟩
    simp only [List.mem_singleton] at hb
    subst hb
    obtain ⟨i, hi, e⟩ := List.getElem_of_mem ha
    intro e2
    exact hnot i hi (by rw [getD_lt hi, e, e2])
  · rw [getD_app (by have := h.ne; omega), h.z]
  · rw [mfind_mset rfl]
    constructor
    · intro h'
      split at h'
      · rename_i e
        cases h'
        exact ⟨st.length, by simp, rfl, by rw [getD_append_len]; exact (keyEq_iff (K := K4) rfl).1 e⟩
      · obtain ⟨i, h1, h2, h3⟩ := (h.sn t' j).1 h'
        exact ⟨i, by simp; omega, h2, by rw [getD_app h1]; exact h3⟩
    · rintro ⟨i, h1, rfl, h2⟩
      by_cases e : i = st.length
      · subst e
        rw [getD_append_len] at h2
        rw [if_pos ((keyEq_iff (K := K4) rfl).2 h2)]
      · have hi : i < st.length := by simp at h1; omega
        rw [getD_app hi] at h2
        rw [if_neg (fun e2 => hnot i hi (h2.trans ((keyEq_iff (K := K4) rfl).1 e2).symm))]
        exact (h.sn t' _).2 ⟨i, hi, rfl, h2⟩
  · by_cases e : i = st.length
    · subst e
      rw [getD_append_len]
      exact ⟨w, hw, ht⟩
    · have hi : i < st.length := by simp at hi; omega
      rw [getD_app hi]
      exact h.rc i hi
section
variable {x : MS} {n : Nat} (hn : n ≤ 24) (hl : x.1.length ≤ 200) (hu : ∀ y ∈ x.1, U32 y)
include hn hl hu
theorem make_L6 {m : S4} {k : Nat} {st : List S4} {seen : List (S4 × Int)} (hD : DI x n st seen) (hk : k < st.length) (hm : W4 m) (hM : ∀ q, me m q = true ↔ May x.2.1 (Fst x.2.2) (st.getD k z4) q) :
    ∃ r, iter (auto_Make_L6 (n : Int) x.1 m.1 m.2.1 m.2.2.1 m.2.2.2) (st, seen, List.replicate (n : Int).toNat (0 : Int), 0) = some r ∧
      ((∃ st' seen' row, r = .inl (st', seen', row) ∧ DI x n st' seen' ∧ (∃ t, st' = st ++ t) ∧ row.length = n ∧ ∀ c, c < n → ∃ j, j < st'.length ∧ row.getD c 0 = (j : Int) ∧ Stp x (st.getD k z4) c (st'.getD j z4)) ∨ r = .inr (([], []), 27)) := by
  refine iter_rule (I := fun q => ∃ (c : Nat) (st' : List S4) (seen' : List (S4 × Int)) (row : List Int), q = (st', seen', row, (c : Int)) ∧ c ≤ n ∧ DI x n st' seen' ∧ (∃ t, st' = st ++ t) ∧ row.length = n ∧ ∀ d, d < c → ∃ j, j < st'.length ∧ row.getD d 0 = (j : Int) ∧ Stp x (st.getD k z4) d (st'.getD j z4))
    (μ := fun q => n - q.2.2.2.toNat) _ ?_ ?_
  · rintro q ⟨c, st', seen', row, rfl, hc, hD', ⟨t0, rfl⟩, hr, hd⟩
    by_cases hlt : c < n
    · obtain ⟨t, h5, hN⟩ := make_L5 (ss := x.1) (m := m) (c := c) (by omega) hl hu hm
      have hS : Stp x (st.getD k z4) c t := ⟨m, hm, hM, hN⟩
      have c1 : 0 ≤ (c : Int) ∧ (c : Int) < (row.length : Int) := by omega
      have c2 : c < row.length := by omega
      have hD'le := hD'.le
      by_cases hs : ∃ j, mfind K4 seen' t = some j
      · obtain ⟨j, hj⟩ := hs
        obtain ⟨i, i1, i2, i3⟩ := (hD'.sn t j).1 hj
        subst i2
        refine .inl ⟨(st ++ t0, seen', row.set c (i : Int), ((c + 1 : Nat) : Int)), ?_, ⟨c + 1, _, _, _, rfl, hlt, hD', ⟨t0, rfl⟩, by simp [hr], fun d hdc => ?_⟩, by simp only [Int.toNat_natCast]; omega⟩
        · unfold auto_Make_L6
          dsimp only
          rw [if_pos (by simp; omega), h5, wrap_succ (by omega)]
          simp only [Option.bind_some]
          have hj' : mfind K4 seen' (t.1, t.2.1, t.2.2.1, t.2.2.2) = some (i : Int) := hj
          rw [if_neg (by show ¬ (!(mfind K4 seen' (t.1, t.2.1, t.2.2.1, t.2.2.2)).isSome) = true; rw [hj']; simp)]
          simp only [Option.bind_some, Int.toNat_natCast, if_pos c1, if_pos c2]
          show some (Sum.inl (st ++ t0, seen', row.set c ((mfind K4 seen' (t.1, t.2.1, t.2.2.1, t.2.2.2)).getD 0), ((c + 1 : Nat) : Int))) = _
          rw [hj']
          rfl
        · by_cases e : d = c
          · subst e
            exact ⟨i, i1, by simp [List.getD_eq_getElem?_getD, c2], i3 ▸ hS⟩
          · obtain ⟨j, h1, h2, h3⟩ := hd d (by omega)
            exact ⟨j, h1, by rw [← h2]; simp only [List.getD_eq_getElem?_getD, List.getElem?_set_ne (Ne.symm e)], h3⟩
      · have hnone : mfind K4 seen' t = none := by
          cases h : mfind K4 seen' t with
          | none => rfl
          | some j => exact (hs ⟨j, h⟩).elim
        have hnone' : mfind K4 seen' (t.1, t.2.1, t.2.2.1, t.2.2.2) = none := hnone
        by_cases hfull : 300 ≤ (st ++ t0).length
        · refine .inr ⟨.inr (([], []), 27), ?_, .inr rfl⟩
          unfold auto_Make_L6
          dsimp only
          rw [if_pos (by simp; omega), h5]
          simp only [Option.bind_some]
          rw [if_pos (by show (!(mfind K4 seen' (t.1, t.2.1, t.2.2.1, t.2.2.2)).isSome) = true; rw [hnone']; rfl), if_pos (by simpa using (show (300 : Int) ≤ ((st ++ t0).length : Int) by omega))]
          rfl
        · have hsk : st.getD k z4 = (st ++ t0).getD k z4 := (getD_app hk).symm
          obtain ⟨w, hw1, hw2⟩ := hD'.rc k (by simp; omega)
          rw [← hsk] at hw2
          have hDm := hD'.more (t := t) (w := w ++ [(c : Int)]) (fun d hd => by
            rcases List.mem_append.1 hd with h | h
            · exact hw1 d h
            · simp only [List.mem_singleton] at h; omega) (hw2.step (by omega) hS) (by omega) hnone
          refine .inl ⟨(st ++ t0 ++ [t], mset K4 seen' t ((st ++ t0).length : Int), row.set c ((st ++ t0).length : Int), ((c + 1 : Nat) : Int)), ?_, ⟨c + 1, _, _, _, rfl, hlt, hDm, ⟨t0 ++ [t], by simp⟩, by simp [hr], fun d hdc => ?_⟩, by simp only [Int.toNat_natCast]; omega⟩
          · unfold auto_Make_L6
            dsimp only
            rw [if_pos (by simp; omega), h5, wrap_succ (by omega)]
            simp only [Option.bind_some]
            rw [if_pos (by show (!(mfind K4 seen' (t.1, t.2.1, t.2.2.1, t.2.2.2)).isSome) = true; rw [hnone']; rfl), if_neg (by simpa using (show ¬ (300 : Int) ≤ ((st ++ t0).length : Int) by omega)), if_pos (by simp only [List.length_cons, List.length_nil]; omega)]
            simp only [Option.bind_some, Int.toNat_natCast, if_pos c1, if_pos c2]
          · by_cases e : d = c
            · subst e
              exact ⟨(st ++ t0).length, by simp, by simp [List.getD_eq_getElem?_getD, c2], by rw [getD_append_len]; exact hS⟩
            · obtain ⟨j, h1, h2, h3⟩ := hd d (by omega)
              exact ⟨j, by simp at h1 ⊢; omega, by rw [← h2]; simp only [List.getD_eq_getElem?_getD, List.getElem?_set_ne (Ne.symm e)], by rw [getD_app h1]; exact h3⟩
    · have ec : c = n := by omega
      subst ec
      refine .inr ⟨.inl (st ++ t0, seen', row), ?_, .inl ⟨_, _, _, rfl, hD', ⟨t0, rfl⟩, hr, hd⟩⟩
      unfold auto_Make_L6
      dsimp only
      rw [if_neg (by simp)]
  · exact ⟨0, st, seen, _, rfl, Nat.zero_le _, hD, ⟨[], by simp⟩, by simp, fun d h => absurd h (by omega)⟩
end
structure DA (x : MS) (n : Nat) (nx : List (List Int)) (ou : List Int) (st : List S4) : Prop where
  l1 : nx.length = st.length
  l2 : ou.length = st.length
  ne : 1 ≤ st.length
  le : st.length ≤ 300
  w4 : ∀ s ∈ st, W4 s
  nd : st.Nodup
  z : st.getD 0 z4 = z4
  rc : ∀ i, i < st.length → ∃ w, Cls n w ∧ Rch x w (st.getD i z4)
  rw : ∀ i, i < st.length → (nx.getD i []).length = n
  go : ∀ i, i < st.length → ∀ c, c < n → ∃ j, j < st.length ∧ (nx.getD i []).getD c 0 = (j : Int) ∧ Stp x (st.getD i z4) c (st.getD j z4)
  ob : ∀ i, i < st.length → U32 (ou.getD i 0) ∧ ∀ r, bt (ou.getD i 0) r = true ↔ Bit x.2.2 (st.getD i z4) r
theorem make_ok {l : List Tree} (hf : Fit l) {n : Nat} (h1 : 1 ≤ n) (hn : n ≤ 24) : ∃ x, mkL l = some x ∧ PI l l.length x ∧
    (auto_Make l (n : Int) = some (([], []), 27) ∨ ∃ nx ou st, auto_Make l (n : Int) = some ((nx, ou), 0) ∧ DA x n nx ou st) := by
  obtain ⟨x, hx, hP, hL1⟩ := make_L1 hf
  refine ⟨x, hx, hP, ?_⟩
  have hcl := hf.2.2
  have hpos : pos l l.length ≤ 200 := Nat.le_trans (pos_le l _) hcl
  have hsl := hP.sl
  have hfl := hP.fl
  have hpl := hP.pl
  have h24 := hf.1
  obtain ⟨m0, hL2, hm0, hF⟩ := make_L2 (ps := x.2.2) (by omega) (fun i hi => (hP.pw i (by omega)).1)
  have hmay : ∀ (s : S4) q, May x.2.1 (fun q => me m0 q = true) s q ↔ May x.2.1 (Fst x.2.2) s q := fun s q => or_congr (hF q) Iff.rfl
  have key : ∃ r, iter (auto_Make_L7 (n : Int) x.1 x.2.1 x.2.2 m0.1 m0.2.1 m0.2.2.1 m0.2.2.2) ([], [], [z4], mset K4 [] z4 0, 0) = some r ∧ ((∃ nx ou st, r = .inl (nx, ou) ∧ DA x n nx ou st) ∨ r = .inr (([], []), 27)) := by
    refine iter_rule (I := fun q => ∃ (k : Nat) (nx : List (List Int)) (ou : List Int) (st : List S4) (seen : List (S4 × Int)), q = (nx, ou, st, seen, (k : Int)) ∧ k ≤ st.length ∧ DI x n st seen ∧ nx.length = k ∧ ou.length = k ∧
        (∀ i, i < k → (nx.getD i []).length = n) ∧ (∀ i, i < k → ∀ c, c < n → ∃ j, j < st.length ∧ (nx.getD i []).getD c 0 = (j : Int) ∧ Stp x (st.getD i z4) c (st.getD j z4)) ∧ (∀ i, i < k → U32 (ou.getD i 0) ∧ ∀ r, bt (ou.getD i 0) r = true ↔ Bit x.2.2 (st.getD i z4) r))
      (μ := fun q => 300 - q.2.2.2.2.toNat) _ ?_ ?_
    · rintro q ⟨k, nx, ou, st, seen, rfl, hk, hD, hnx, hou, hrw, hgo, hob⟩
      have hle := hD.le
      by_cases hlt : k < st.length
      · have c1 : 0 ≤ (k : Int) ∧ (k : Int) < (st.length : Int) := by omega
        have hW : W4 (st.getD k z4) := hD.w4 _ (getD_mem' hlt)
        obtain ⟨m, hL3, hm, hM⟩ := make_L3 (f := x.2.1) (st := st) (k := k) (by omega) hP.fw hW hm0
        obtain ⟨b, hL4, hb1, hb2⟩ := make_L4 (ps := x.2.2) (st := st) (k := k) (by omega) (fun i hi => (hP.pw i (by omega)).2) hW
        obtain ⟨r, hL6, hr⟩ := make_L6 hn (by omega) hP.su hD hlt hm (fun q => (hM q).trans (hmay _ q))
        have c2 : 0 ≤ (n : Int) ∧ (n : Int) ≤ (n : Int) ∧ (8 : Int) * (n : Int) ≤ 281474976710656 ∧ (n : Int) ≤ 9223372036854775807 := by omega
        rcases hr with ⟨st', seen', row, rfl, hD', ⟨t0, rfl⟩, hrow, hgr⟩ | rfl
        · refine .inl ⟨(nx ++ [row], ou ++ [b], st ++ t0, seen', ((k + 1 : Nat) : Int)), ?_, ⟨k + 1, _, _, _, _, rfl, by simp; omega, hD', by simp [hnx], by simp [hou], fun i hi => ?_, fun i hi c hc => ?_, fun i hi => ?_⟩, by simp only [Int.toNat_natCast]; omega⟩
          · unfold auto_Make_L7
            dsimp only
            rw [if_pos (by simp; omega), if_pos c1, Int.toNat_natCast, if_pos hlt, hL3, wrap_succ (by omega)]
            simp only [Option.bind_some]
            rw [hL4]
            simp only [Option.bind_some]
            rw [if_pos c2, hL6]
            simp only [Option.bind_some]
            rw [if_pos (by simp; omega), if_pos (by simp; omega)]
          · by_cases e : i = k
            · subst e; subst hnx; rw [getD_append_len]; exact hrow
            · rw [getD_app (by omega)]; exact hrw i (by omega)
          · by_cases e : i = k
            · subst e; subst hnx; rw [getD_append_len, getD_app hlt]; exact hgr c hc
            · obtain ⟨j, h1, h2, h3⟩ := hgo i (by omega) c hc
              rw [getD_app (show i < nx.length by omega), getD_app (show i < st.length by omega)]
              exact ⟨j, by simp; omega, h2, by rw [getD_app h1]; exact h3⟩
          · by_cases e : i = k
            · subst e; subst hou; rw [getD_append_len, getD_app hlt]; exact ⟨hb1, hb2⟩
            · rw [getD_app (show i < ou.length by omega), getD_app (show i < st.length by omega)]; exact hob i (by omega)
        · refine .inr ⟨.inr (([], []), 27), ?_, .inr rfl⟩
          unfold auto_Make_L7
          dsimp only
          rw [if_pos (by simp; omega), if_pos c1, Int.toNat_natCast, if_pos hlt, hL3]
          simp only [Option.bind_some]
          rw [hL4]
          simp only [Option.bind_some]
          rw [if_pos c2, hL6]
          rfl
      · have ek : k = st.length := by omega
        refine .inr ⟨.inl (nx, ou), ?_, .inl ⟨nx, ou, st, rfl, ⟨by omega, by omega, hD.ne, hD.le, hD.w4, hD.nd, hD.z, hD.rc, fun i hi => hrw i (by omega), fun i hi => hgo i (by omega), fun i hi => hob i (by omega)⟩⟩⟩
        unfold auto_Make_L7
        dsimp only
        rw [if_neg (by simp; omega)]
    · exact ⟨0, [], [], [z4], _, rfl, by simp, DI.zero x n, rfl, rfl, fun i h => absurd h (by omega), fun i h => absurd h (by omega), fun i h => absurd h (by omega)⟩
  obtain ⟨r, hL7, hr⟩ := key
  have hgen : auto_Make l (n : Int) = (some r).bind (fun q => match q with
      | .inl (v328, v329) => some ((v328, v329), (0 : Int))
      | .inr ((r485, r486)) => some (r485, r486)) := by
    unfold auto_Make
    rw [if_neg (by simp; omega), if_neg (by simp; omega)]
    simp only [Option.bind_some]
    rw [if_neg (by simp; omega), hL1]
    simp only [Option.bind_some]
    rw [if_neg (by simp), hL2]
    simp only [Option.bind_some]
    have hL7' : iter (auto_Make_L7 (n : Int) x.1 x.2.1 x.2.2 m0.1 m0.2.1 m0.2.2.1 m0.2.2.2) (([] : List (List Int)), ([] : List Int), ([((0 : Int), ((0 : Int), ((0 : Int), (0 : Int))))] : List (Int × Int × Int × Int)), (mset K4 ([] : List ((Int × Int × Int × Int) × Int)) ((0 : Int), ((0 : Int), ((0 : Int), (0 : Int)))) (0 : Int)), (0 : Int)) = some r := hL7
    rw [hL7']
    rfl
  rcases hr with ⟨nx, ou, st, rfl, hD⟩ | rfl
  · exact .inr ⟨nx, ou, st, hgen, hD⟩
  · exact .inl hgen
end Go.Proofs.Ytnjdmbifjbahdaa.T
