/- The program's automaton: all states. -/
import Derived.Test.YtnjdmbifjbahdaaTv04rdm
import Derived.Test.YtnjdmbifjbahdaaTvT04y0
namespace Go.Proofs.Ytnjdmbifjbahdaa.T
open Go Go.Tv Go.Proofs
abbrev K4 : Ty := .prod (.int .u64) (.prod (.int .u64) (.prod (.int .u64) (.int .u64)))
def lab (ss : List Int) (p : Nat) (c : Int) : Prop := p < ss.length ∧ inS (ss.getD p 0) c
def Fe (f : List S4) (p q : Nat) : Prop := p < f.length ∧ me (f.getD p z4) q = true
def Rch (x : MS) (w : Wd) (s : S4) : Prop := W4 s ∧ ∀ q, me s q = true ↔ Sx (Fe x.2.1) (lab x.1) (Fst x.2.2) w q
def Stp (x : MS) (s : S4) (c : Nat) (t : S4) : Prop := ∃ m : S4, W4 m ∧ (∀ q, me m q = true ↔ May x.2.1 (Fst x.2.2) s q) ∧ Nxt x.1 m c t
def Cls (n : Nat) (w : Wd) : Prop := ∀ c ∈ w, 0 ≤ c ∧ c < (n : Int)
theorem Rch.nil (x : MS) : Rch x [] z4 := ⟨W4.z, fun q => by rw [me_z]; exact ⟨fun h => (by cases h), fun h => (Sx.nil h).elim⟩⟩
theorem Rch.step {x : MS} {w : Wd} {s t : S4} {c : Nat} (hc : c < 32) (h : Rch x w s) (k : Stp x s c t) : Rch x (w ++ [(c : Int)]) t := by
  obtain ⟨m, hm, hM, ht, hN⟩ := k
  refine ⟨ht, fun q => ?_⟩
  rw [hN, Sx.snoc, hM]
  unfold May lab inS Fe
  have e : ∀ p, me s p = true ↔ Sx (Fe x.2.1) (lab x.1) (Fst x.2.2) w p := h.2
  constructor
  · rintro ⟨h1, h2, h3⟩
    refine ⟨⟨h1, by omega, by omega, by simpa using h3⟩, ?_⟩
    rcases h2 with h2 | ⟨p, h4, h5, h6⟩
    · exact .inl h2
    · exact .inr ⟨p, (e p).1 h5, h4, h6⟩
  · rintro ⟨⟨h1, _, _, h3⟩, h2⟩
    refine ⟨h1, ?_, by simpa using h3⟩
    rcases h2 with h2 | ⟨p, h5, h4, h6⟩
    · exact .inl h2
    · exact .inr ⟨p, h4, (e p).2 h5, h6⟩
structure DI (x : MS) (n : Nat) (st : List S4) (seen : List (S4 × Int)) : Prop where
  ne : 1 ≤ st.length
  le : st.length ≤ 300
  w4 : ∀ s ∈ st, W4 s
  nd : st.Nodup
  z : st.getD 0 z4 = z4
  sn : ∀ t j, mfind K4 seen t = some j ↔ ∃ i, i < st.length ∧ j = (i : Int) ∧ st.getD i z4 = t
  rc : ∀ i, i < st.length → ∃ w, Cls n w ∧ Rch x w (st.getD i z4)
theorem getD_append_len {α : Type} (l : List α) (y d : α) : (l ++ [y]).getD l.length d = y := by simp [List.getD_eq_getElem?_getD]
theorem DI.zero (x : MS) (n : Nat) : DI x n [z4] (mset K4 [] z4 0) := by
  refine ⟨by simp, by simp, fun s hs => ?_, by simp, rfl, fun t j => ?_, fun i hi => ?_⟩
  · simp only [List.mem_singleton] at hs; exact hs ▸ W4.z
  · rw [mfind_mset rfl]
    constructor
    · intro h
      split at h
      · rename_i e
        cases h
        exact ⟨0, by simp, rfl, (keyEq_iff (K := K4) rfl).1 e⟩
      · cases h
    · rintro ⟨i, h1, rfl, h2⟩
      have : i = 0 := by simpa using h1
      subst this
      replace h2 : z4 = t := h2
      rw [if_pos ((keyEq_iff (K := K4) rfl).2 h2)]
      rfl
  · have : i = 0 := by simpa using hi
    subst this
    exact ⟨[], fun c h => by simp at h, Rch.nil x⟩
theorem DI.more {x : MS} {n : Nat} {st : List S4} {seen : List (S4 × Int)} (h : DI x n st seen) {t : S4} {w : Wd} (hw : Cls n w) (ht : Rch x w t) (hlt : st.length < 300) (hn : mfind K4 seen t = none) :
    DI x n (st ++ [t]) (mset K4 seen t (st.length : Int)) := by
  have hnot : ∀ i, i < st.length → st.getD i z4 ≠ t := fun i hi e => by
    have := (h.sn t (i : Int)).2 ⟨i, hi, rfl, e⟩
    rw [hn] at this; cases this
  refine ⟨by simp, by simp; omega, fun s hs => ?_, ?_, ?_, fun t' j => ?_, fun i hi => ?_⟩
  · rcases List.mem_append.1 hs with h' | h'
    · exact h.w4 s h'
    · simp only [List.mem_singleton] at h'; exact h' ▸ ht.1
  · rw [List.nodup_append]
    refine ⟨h.nd, by simp, fun a ha b hb => ?_⟩
    simp only [List.mem_singleton] at hb
    subst hb
    obtain ⟨i, hi, e⟩ := List.getElem_of_mem ha
    intro e2
    exact hnot i hi (by rw [getD_lt hi, e, e2])
  · rw [getD_app (by have := h.ne; omega), h.z]
  · rw [mfind_mset rfl]
    constructor
    · intro h'
      split at h'
      · rename_i e
        cases h'
        exact ⟨st.length, by simp, rfl, by rw [getD_append_len]; exact (keyEq_iff (K := K4) rfl).1 e⟩
      · obtain ⟨i, h1, h2, h3⟩ := (h.sn t' j).1 h'
        exact ⟨i, by simp; omega, h2, by rw [getD_app h1]; exact h3⟩
    · rintro ⟨i, h1, rfl, h2⟩
      by_cases e : i = st.length
      · subst e
        rw [getD_append_len] at h2
        rw [if_pos ((keyEq_iff (K := K4) rfl).2 h2)]
      · have hi : i < st.length := by simp at h1; omega
        rw [getD_app hi] at h2
        rw [if_neg (fun e2 => hnot i hi (h2.trans ((keyEq_iff (K := K4) rfl).1 e2).symm))]
        exact (h.sn t' _).2 ⟨i, hi, rfl, h2⟩
  · by_cases e : i = st.length
    · subst e
      rw [getD_append_len]
      exact ⟨w, hw, ht⟩
    · have hi : i < st.length := by simp at hi; omega
      rw [getD_app hi]
      exact h.rc i hi
section
variable {x : MS} {n : Nat} (hn : n ≤ 24) (hl : x.1.length ≤ 200) (hu : ∀ y ∈ x.1, U32 y)
include hn hl hu
theorem make_L6 {m : S4} {k : Nat} {st : List S4} {seen : List (S4 × Int)} (hD : DI x n st seen) (hk : k < st.length) (hm : W4 m) (hM : ∀ q, me m q = true ↔ May x.2.1 (Fst x.2.2) (st.getD k z4) q) :
    ∃ r, iter (auto_Make_L6 (n : Int) x.1 m.1 m.2.1 m.2.2.1 m.2.2.2) (st, seen, List.replicate (n : Int).toNat (0 : Int), 0) = some r ∧
      ((∃ st' seen' row, r = .inl (st', seen', row) ∧ DI x n st' seen' ∧ (∃ t, st' = st ++ t) ∧ row.length = n ∧ ∀ c, c < n → ∃ j, j < st'.length ∧ row.getD c 0 = (j : Int) ∧ Stp x (st.getD k z4) c (st'.getD j z4)) ∨ r = .inr (([], []), 27)) := by
  refine iter_rule (I := fun q => ∃ (c : Nat) (st' : List S4) (seen' : List (S4 × Int)) (row : List Int), q = (st', seen', row, (c : Int)) ∧ c ≤ n ∧ DI x n st' seen' ∧ (∃ t, st' = st ++ t) ∧ row.length = n ∧ ∀ d, d < c → ∃ j, j < st'.length ∧ row.getD d 0 = (j : Int) ∧ Stp x (st.getD k z4) d (st'.getD j z4))
    (μ := fun q => n - q.2.2.2.toNat) _ ?_ ?_
  · rintro q ⟨c, st', seen', row, rfl, hc, hD', ⟨t0, rfl⟩, hr, hd⟩
    by_cases hlt : c < n
    · obtain ⟨t, h5, hN⟩ := make_L5 (ss := x.1) (m := m) (c := c) (by omega) hl hu hm
      have hS : Stp x (st.getD k z4) c t := ⟨m, hm, hM, hN⟩
      have c1 : 0 ≤ (c : Int) ∧ (c : Int) < (row.length : Int) := by omega
      have c2 : c < row.length := by omega
      have hD'le := hD'.le
      by_cases hs : ∃ j, mfind K4 seen' t = some j
      · obtain ⟨j, hj⟩ := hs
        obtain ⟨i, i1, i2, i3⟩ := (hD'.sn t j).1 hj
        subst i2
        refine .inl ⟨(st ++ t0, seen', row.set c (i : Int), ((c + 1 : Nat) : Int)), ?_, ⟨c + 1, _, _, _, rfl, hlt, hD', ⟨t0, rfl⟩, by simp [hr], fun d hdc => ?_⟩, by simp only [Int.toNat_natCast]; omega⟩
        · unfold auto_Make_L6
          dsimp only
          rw [if_pos (by simp; omega), h5, wrap_succ (by omega)]
          simp only [Option.bind_some]
          have hj' : mfind K4 seen' (t.1, t.2.1, t.2.2.1, t.2.2.2) = some (i : Int) := hj
          rw [if_neg (by show ¬ (!(mfind K4 seen' (t.1, t.2.1, t.2.2.1, t.2.2.2)).isSome) = true; rw [hj']; simp)]
          simp only [Option.bind_some, Int.toNat_natCast, if_pos c1, if_pos c2]
          show some (Sum.inl (st ++ t0, seen', row.set c ((mfind K4 seen' (t.1, t.2.1, t.2.2.1, t.2.2.2)).getD 0), ((c + 1 : Nat) : Int))) = _
          rw [hj']
          rfl
        · by_cases e : d = c
          · subst e
            exact ⟨i, i1, by simp [List.getD_eq_getElem?_getD, c2], i3 ▸ hS⟩
          · obtain ⟨j, h1, h2, h3⟩ := hd d (by omega)
            exact ⟨j, h1, by rw [← h2]; simp only [List.getD_eq_getElem?_getD, List.getElem?_set_ne (Ne.symm e)], h3⟩
      · have hnone : mfind K4 seen' t = none := by
          cases h : mfind K4 seen' t with
          | none => rfl
          | some j => exact (hs ⟨j, h⟩).elim
        have hnone' : mfind K4 seen' (t.1, t.2.1, t.2.2.1, t.2.2.2) = none := hnone
        by_cases hfull : 300 ≤ (st ++ t0).length
        · refine .inr ⟨.inr (([], []), 27), ?_, .inr rfl⟩
          unfold auto_Make_L6
          dsimp only
          rw [if_pos (by simp; omega), h5]
          simp only [Option.bind_some]
          rw [if_pos (by show (!(mfind K4 seen' (t.1, t.2.1, t.2.2.1, t.2.2.2)).isSome) = true; rw [hnone']; rfl), if_pos (by simpa using (show (300 : Int) ≤ ((st ++ t0).length : Int) by omega))]
          rfl
        · have hsk : st.getD k z4 = (st ++ t0).getD k z4 := (getD_app hk).symm
          obtain ⟨w, hw1, hw2⟩ := hD'.rc k (by simp; omega)
          rw [← hsk] at hw2
          have hDm := hD'.more (t := t) (w := w ++ [(c : Int)]) (fun d hd => by
            rcases List.mem_append.1 hd with h | h
            · exact hw1 d h
            · simp only [List.mem_singleton] at h; omega) (hw2.step (by omega) hS) (by omega) hnone
          refine .inl ⟨(st ++ t0 ++ [t], mset K4 seen' t ((st ++ t0).length : Int), row.set c ((st ++ t0).length : Int), ((c + 1 : Nat) : Int)), ?_, ⟨c + 1, _, _, _, rfl, hlt, hDm, ⟨t0 ++ [t], by simp⟩, by simp [hr], fun d hdc => ?_⟩, by simp only [Int.toNat_natCast]; omega⟩
          · unfold auto_Make_L6
            dsimp only
            rw [if_pos (by simp; omega), h5, wrap_succ (by omega)]
            simp only [Option.bind_some]
            rw [if_pos (by show (!(mfind K4 seen' (t.1, t.2.1, t.2.2.1, t.2.2.2)).isSome) = true; rw [hnone']; rfl), if_neg (by simpa using (show ¬ (300 : Int) ≤ ((st ++ t0).length : Int) by omega)), if_pos (by simp only [List.length_cons, List.length_nil]; omega)]
            simp only [Option.bind_some, Int.toNat_natCast, if_pos c1, if_pos c2]
          · by_cases e : d = c
            · subst e
              exact ⟨(st ++ t0).length, by simp, by simp [List.getD_eq_getElem?_getD, c2], by rw [getD_append_len]; exact hS⟩
            · obtain ⟨j, h1, h2, h3⟩ := hd d (by omega)
              exact ⟨j, by simp at h1 ⊢; omega, by rw [← h2]; simp only [List.getD_eq_getElem?_getD, List.getElem?_set_ne (Ne.symm e)], by rw [getD_app h1]; exact h3⟩
    · have ec : c = n := by omega
      subst ec
      refine .inr ⟨.inl (st ++ t0, seen', row), ?_, .inl ⟨_, _, _, rfl, hD', ⟨t0, rfl⟩, hr, hd⟩⟩
      unfold auto_Make_L6
      dsimp only
      rw [if_neg (by simp)]
  · exact ⟨0, st, seen, _, rfl, Nat.zero_le _, hD, ⟨[], by simp⟩, by simp, fun d h => absurd h (by omega)⟩
end
structure DA (x : MS) (n : Nat) (nx : List (List Int)) (ou : List Int) (st : List S4) : Prop where
  l1 : nx.length = st.length
  l2 : ou.length = st.length
  ne : 1 ≤ st.length
  le : st.length ≤ 300
  w4 : ∀ s ∈ st, W4 s
  nd : st.Nodup
  z : st.getD 0 z4 = z4
  rc : ∀ i, i < st.length → ∃ w, Cls n w ∧ Rch x w (st.getD i z4)
  rw : ∀ i, i < st.length → (nx.getD i []).length = n
  go : ∀ i, i < st.length → ∀ c, c < n → ∃ j, j < st.length ∧ (nx.getD i []).getD c 0 = (j : Int) ∧ Stp x (st.getD i z4) c (st.getD j z4)
  ob : ∀ i, i < st.length → U32 (ou.getD i 0) ∧ ∀ r, bt (ou.getD i 0) r = true ↔ Bit x.2.2 (st.getD i z4) r
theorem make_ok {l : List Tree} (hf : Fit l) {n : Nat} (h1 : 1 ≤ n) (hn : n ≤ 24) : ∃ x, mkL l = some x ∧ PI l l.length x ∧
    (auto_Make l (n : Int) = some (([], []), 27) ∨ ∃ nx ou st, auto_Make l (n : Int) = some ((nx, ou), 0) ∧ DA x n nx ou st) := by
  obtain ⟨x, hx, hP, hL1⟩ := make_L1 hf
  refine ⟨x, hx, hP, ?_⟩
  have hcl := hf.2.2
  have hpos : pos l l.length ≤ 200 := Nat.le_trans (pos_le l _) hcl
  have hsl := hP.sl
  have hfl := hP.fl
  have hpl := hP.pl
  have h24 := hf.1
  obtain ⟨m0, hL2, hm0, hF⟩ := make_L2 (ps := x.2.2) (by omega) (fun i hi => (hP.pw i (by omega)).1)
  have hmay : ∀ (s : S4) q, May x.2.1 (fun q => me m0 q = true) s q ↔ May x.2.1 (Fst x.2.2) s q := fun s q => or_congr (hF q) Iff.rfl
  have key : ∃ r, iter (auto_Make_L7 (n : Int) x.1 x.2.1 x.2.2 m0.1 m0.2.1 m0.2.2.1 m0.2.2.2) ([], [], [z4], mset K4 [] z4 0, 0) = some r ∧ ((∃ nx ou st, r = .inl (nx, ou) ∧ DA x n nx ou st) ∨ r = .inr (([], []), 27)) := by
    refine iter_rule (I := fun q => ∃ (k : Nat) (nx : List (List Int)) (ou : List Int) (st : List S4) (seen : List (S4 × Int)), q = (nx, ou, st, seen, (k : Int)) ∧ k ≤ st.length ∧ DI x n st seen ∧ nx.length = k ∧ ou.length = k ∧
        (∀ i, i < k → (nx.getD i []).length = n) ∧ (∀ i, i < k → ∀ c, c < n → ∃ j, j < st.length ∧ (nx.getD i []).getD c 0 = (j : Int) ∧ Stp x (st.getD i z4) c (st.getD j z4)) ∧ (∀ i, i < k → U32 (ou.getD i 0) ∧ ∀ r, bt (ou.getD i 0) r = true ↔ Bit x.2.2 (st.getD i z4) r))
      (μ := fun q => 300 - q.2.2.2.2.toNat) _ ?_ ?_
    · rintro q ⟨k, nx, ou, st, seen, rfl, hk, hD, hnx, hou, hrw, hgo, hob⟩
      have hle := hD.le
      by_cases hlt : k < st.length
      · have c1 : 0 ≤ (k : Int) ∧ (k : Int) < (st.length : Int) := by omega
        have hW : W4 (st.getD k z4) := hD.w4 _ (getD_mem' hlt)
        obtain ⟨m, hL3, hm, hM⟩ := make_L3 (f := x.2.1) (st := st) (k := k) (by omega) hP.fw hW hm0
        obtain ⟨b, hL4, hb1, hb2⟩ := make_L4 (ps := x.2.2) (st := st) (k := k) (by omega) (fun i hi => (hP.pw i (by omega)).2) hW
        obtain ⟨r, hL6, hr⟩ := make_L6 hn (by omega) hP.su hD hlt hm (fun q => (hM q).trans (hmay _ q))
        have c2 : 0 ≤ (n : Int) ∧ (n : Int) ≤ (n : Int) ∧ (8 : Int) * (n : Int) ≤ 281474976710656 ∧ (n : Int) ≤ 9223372036854775807 := by omega
        rcases hr with ⟨st', seen', row, rfl, hD', ⟨t0, rfl⟩, hrow, hgr⟩ | rfl
        · refine .inl ⟨(nx ++ [row], ou ++ [b], st ++ t0, seen', ((k + 1 : Nat) : Int)), ?_, ⟨k + 1, _, _, _, _, rfl, by simp; omega, hD', by simp [hnx], by simp [hou], fun i hi => ?_, fun i hi c hc => ?_, fun i hi => ?_⟩, by simp only [Int.toNat_natCast]; omega⟩
          · unfold auto_Make_L7
            dsimp only
            rw [if_pos (by simp; omega), if_pos c1, Int.toNat_natCast, if_pos hlt, hL3, wrap_succ (by omega)]
            simp only [Option.bind_some]
            rw [hL4]
            simp only [Option.bind_some]
            rw [if_pos c2, hL6]
            simp only [Option.bind_some]
            rw [if_pos (by simp; omega), if_pos (by simp; omega)]
          · by_cases e : i = k
            · subst e; subst hnx; rw [getD_append_len]; exact hrow
            · rw [getD_app (by omega)]; exact hrw i (by omega)
          · by_cases e : i = k
            · subst e; subst hnx; rw [getD_append_len, getD_app hlt]; exact hgr c hc
            · obtain ⟨j, h1, h2, h3⟩ := hgo i (by omega) c hc
              rw [getD_app (show i < nx.length by omega), getD_app (show i < st.length by omega)]
              exact ⟨j, by simp; omega, h2, by rw [getD_app h1]; exact h3⟩
          · by_cases e : i = k
            · subst e; subst hou; rw [getD_append_len, getD_app hlt]; exact ⟨hb1, hb2⟩
            · rw [getD_app (show i < ou.length by omega), getD_app (show i < st.length by omega)]; exact hob i (by omega)
        · refine .inr ⟨.inr (([], []), 27), ?_, .inr rfl⟩
          unfold auto_Make_L7
          dsimp only
          rw [if_pos (by simp; omega), if_pos c1, Int.toNat_natCast, if_pos hlt, hL3]
          simp only [Option.bind_some]
          rw [hL4]
          simp only [Option.bind_some]
          rw [if_pos c2, hL6]
          rfl
      · have ek : k = st.length := by omega
        refine .inr ⟨.inl (nx, ou), ?_, .inl ⟨nx, ou, st, rfl, ⟨by omega, by omega, hD.ne, hD.le, hD.w4, hD.nd, hD.z, hD.rc, fun i hi => hrw i (by omega), fun i hi => hgo i (by omega), fun i hi => hob i (by omega)⟩⟩⟩
        unfold auto_Make_L7
        dsimp only
        rw [if_neg (by simp; omega)]
    · exact ⟨0, [], [], [z4], _, rfl, by simp, DI.zero x n, rfl, rfl, fun i h => absurd h (by omega), fun i h => absurd h (by omega), fun i h => absurd h (by omega)⟩
  obtain ⟨r, hL7, hr⟩ := key
  have hgen : auto_Make l (n : Int) = (some r).bind (fun q => match q with
      | .inl (v328, v329) => some ((v328, v329), (0 : Int))
      | .inr ((r485, r486)) => some (r485, r486)) := by
    unfold auto_Make
    rw [if_neg (by simp; omega), if_neg (by simp; omega)]
    simp only [Option.bind_some]
    rw [if_neg (by simp; omega), hL1]
    simp only [Option.bind_some]
    rw [if_neg (by simp), hL2]
    simp only [Option.bind_some]
    have hL7' : iter (auto_Make_L7 (n : Int) x.1 x.2.1 x.2.2 m0.1 m0.2.1 m0.2.2.1 m0.2.2.2) (([] : List (List Int)), ([] : List Int), ([((0 : Int), ((0 : Int), ((0 : Int), (0 : Int))))] : List (Int × Int × Int × Int)), (mset K4 ([] : List ((Int × Int × Int × Int) × Int)) ((0 : Int), ((0 : Int), ((0 : Int), (0 : Int)))) (0 : Int)), (0 : Int)) = some r := hL7
    rw [hL7']
    rfl
  rcases hr with ⟨nx, ou, st, rfl, hD⟩ | rfl
  · exact .inr ⟨nx, ou, st, hgen, hD⟩
  · exact .inl hgen
end Go.Proofs.Ytnjdmbifjbahdaa.T
namespace Go.Proofs.Ytnjdmbifjbahdaa.T
open Go Go.Tv Go.Proofs
noncomputable section
set_option maxRecDepth 100000
set_option maxHeartbeats 4000000
def auto_Run_L1 (a1 : List (List Int)) (classes1 : List Int) : ((List Int) × Int × Int) → Option (((List Int) × Int × Int) ⊕ (List Int)) := fun (out2, s2, v4) =>
  (if (decide (v4 < (classes1.length : Int))) = true then (if 0 ≤ v4 ∧ v4 < (classes1.length : Int) then (((if (decide ((classes1.getD v4.toNat (0 : Int)) < (0 : Int))) = true then some (true)
  else (if 0 ≤ s2 ∧ s2 < (a1.length : Int) then some ((decide ((classes1.getD v4.toNat (0 : Int)) ≥ ((a1.getD s2.toNat ([] : List Int)).length : Int)))) else none))).bind fun v5 => (if v5 = true then some (Sum.inr out2)
  else (if 0 ≤ s2 ∧ s2 < (a1.length : Int) then (if 0 ≤ (classes1.getD v4.toNat (0 : Int)) ∧ (classes1.getD v4.toNat (0 : Int)) < ((a1.getD s2.toNat ([] : List Int)).length : Int) then (if (out2.length + ([((a1.getD s2.toNat ([] : List Int)).getD ((classes1.getD v4.toNat (0 : Int)).toNat) (0 : Int))] : List Int).length) * 8 ≤ 140737488355328 ∧ out2.length + ([((a1.getD s2.toNat ([] : List Int)).getD ((classes1.getD v4.toNat (0 : Int)).toNat) (0 : Int))] : List Int).length ≤ 9223372036854775807 then some (Sum.inl ((out2 ++ ([((a1.getD s2.toNat ([] : List Int)).getD ((classes1.getD v4.toNat (0 : Int)).toNat) (0 : Int))] : List Int)), ((a1.getD s2.toNat ([] : List Int)).getD ((classes1.getD v4.toNat (0 : Int)).toNat) (0 : Int)), (IntKind.i64.wrap (v4 + (1 : Int))))) else none) else none) else none))) else none)
  else some (Sum.inr out2))
def auto_Run (a1 : List (List Int)) (a2 classes1 : List Int) : Option (List Int) :=
  (if ((a1.length : Int) == (0 : Int)) = true then some ([] : List Int)
  else ((iter (auto_Run_L1 a1 classes1) (([(0 : Int)] : List Int), (0 : Int), (0 : Int))).bind fun out3 => some out3))
theorem auto_Run_ok (β0 β1 β2 : Bool) {a1 : List (List Int)} {a2 : List Int} {classes1 : List Int} {res : List Int} (h : auto_Run a1 a2 classes1 = some res) :
    Pure Try.prog 11 [.agg [.p β0 (.slice (.slice (.int .i64))) a1, .p β1 (.slice (.int .u32)) a2], .p β2 (.slice (.int .i64)) classes1] (wrapR (encs false [⟨(.slice (.int .i64)), res⟩])) := by
  refine Pure.of_body tbok Try.func11 (by kernel_rfl) rfl (nl rfl) (fun Bw w0 => ?_) rfl
  unfold auto_Run at h
  refine G (W_seq (G (W_if h (fun hb1 h => ?_) (fun hb1 h => ?_))))
  · refine G (W_ret (thenQ_ret ?_))
    obtain rfl := sI h
    exact Ret_intro [(.slice (.int .i64))] (by kernel_rfl)
  refine W_skip_to (to_thenG (G (G (W_seq (G (W_block (W_lx h (fun (out2, s2, v4) => mkSt [(2, .adr 0 0 2 0), (5, .sl 1), (6, .i64 s2), (14, .p β2 (.slice (.int .i64)) classes1), (15, .i64 (classes1.length : Int)), (16, .i64 v4)] (ob72 β0 a1 β1 a2 out2) 2) 0 (fun out3 => mkSt [(5, .sl 0)] [(0, .arr 3 (.int .i64) out3)] 1) (gg [] [0, 48]) (fun y o h => ?_) (fun out3 h => ?_))))))))
  · obtain ⟨out2, s2, v4⟩ := y
    unfold auto_Run_L1 at h
    refine G (W_seq (W_if h (fun hb12 h => ?_) (fun hb12 h => ?_)))
    · refine W_skip_to (to_thenG (W_seq (W_block (GC 0 h (fun h => W_seq (W_seq (W_pn h (fun v5 => mkSt [(2, .adr 0 0 2 0), (5, .sl 1), (6, .i64 s2), (8, .i64 (classes1.getD v4.toNat (0 : Int))), (14, .p β2 (.slice (.int .i64)) classes1), (15, .i64 (classes1.length : Int)), (16, .i64 v4), (31, .bo v5)] (ob72 β0 a1 β1 a2 out2) 2) (fun v5 h => ?_) (fun v5 h => ?_))))))))
      · rcases h_ite h with ⟨hb15, h⟩ | ⟨hb15, h⟩
        · refine GNe ⟨[(2, true), (11, true)], []⟩ [(3, 11, oc hb15)] ?_
          exact eN h (gg [] [0, 1])
        obtain ⟨c27, h⟩ := h_guard h
        refine GNe ⟨[(2, false), (11, false)], []⟩ [(3, 6, an hb15), (7, 7, oc (And.intro hb15 c27)), (8, 10, an hb15), (11, 11, oc hb15)] ?_
        exact eN h (gg [] [0, 1])
      refine to_thenG (W_if h (fun hb16 h => ?_) (fun hb16 h => ?_))
      · refine W_exit_to (thenE (blockE_ne rfl (thenE ?_)))
        exact eX h (gg [] [1])
      refine W_skip_to (to_thenG ?_)
      obtain ⟨c30, c31, h⟩ := g2 h
      refine GN a0 [(3, 3, oc c30), (6, 6, oc c31)] (GCe 3 h (fun h => to_block (to_thenG (Ge ?_))))
      exact eB h (gg [] [0, 98])
    refine W_exit_to (thenE ?_)
    exact eX h (gg [] [1])
  refine blockE_eq (to_thenG (G (W_ret ?_)))
  obtain rfl := sI h
  exact Ret_intro [(.slice (.int .i64))] (by kernel_rfl)
end
end Go.Proofs.Ytnjdmbifjbahdaa.T
namespace Go.Proofs.Ytnjdmbifjbahdaa.T
open Go Go.Tv Go.Proofs
theorem find_range {l : List Tree} {p : Nat} : ∀ m, p < pos l m → ∃ j, j < m ∧ pos l j ≤ p ∧ p < pos l (j + 1)
  | 0, h => by simp [pos, cntL] at h
  | m + 1, h => by
    by_cases h' : p < pos l m
    · obtain ⟨j, h1, h2⟩ := find_range m h'
      exact ⟨j, by omega, h2⟩
    · exact ⟨m, by omega, by omega, h⟩
theorem same_range {l : List Tree} {p i j : Nat} (h1 : pos l i ≤ p ∧ p < pos l (i + 1)) (h2 : pos l j ≤ p ∧ p < pos l (j + 1)) : i = j := by
  rcases Nat.lt_trichotomy i j with h | h | h
  · have := pos_mono l (show i + 1 ≤ j by omega); omega
  · exact h
  · have := pos_mono l (show j + 1 ≤ i by omega); omega
section
variable {l : List Tree} {x : MS}
theorem glR (hP : PI l l.length x) {r : Nat} (hr : r < l.length) : Gl (lab x.1) (FG x.2.1 (pos l r) (pos l (r + 1))) ((x.2.2.getD r p0).1 = true) (fun p => me (x.2.2.getD r p0).2.1 p = true) (fun p => me (x.2.2.getD r p0).2.2 p = true) (pos l r) (pos l (r + 1)) (Lg (l.getD r (.node 0 0 []))) := by
  refine hP.gl r hr _ fun p c h1 h2 => ?_
  have := pos_mono l (show r + 1 ≤ l.length by omega)
  have hsl := hP.sl
  exact ⟨fun h => h.2, fun h => ⟨by omega, h⟩⟩
theorem Fe_range (hP : PI l l.length x) {p q : Nat} (h : Fe x.2.1 p q) : ∃ j, j < l.length ∧ (pos l j ≤ p ∧ p < pos l (j + 1)) ∧ pos l j ≤ q ∧ q < pos l (j + 1) := by
  have hfl := hP.fl
  obtain ⟨j, h1, h2, h3⟩ := find_range (l := l) l.length (show p < pos l l.length by have := h.1; omega)
  exact ⟨j, h1, ⟨h2, h3⟩, ((glR hP h1).ff p q ⟨⟨h2, h3⟩, h.2⟩).2⟩
theorem out_ok (hP : PI l l.length x) {w : Wd} {s : S4} (h : Rch x w s) {r : Nat} (hr : r < l.length) : Bit x.2.2 s r ↔ ∃ k, k ≤ w.length ∧ Lg (l.getD r (.node 0 0 [])) (w.drop k) := by
  have hfl := hP.fl
  have hpl := hP.pl
  have hm := pos_mono l (show r + 1 ≤ l.length by omega)
  rw [← Sx.ends (F := Fe x.2.1) (Fst := Fst x.2.2) (glR hP hr) (fun p q h1 h2 => ?_) (fun p q h1 h2 h3 => ?_) (fun p h1 h2 => ?_) w]
  · unfold Bit
    constructor
    · rintro ⟨_, h1 | ⟨p, h1, h2⟩⟩
      · exact .inl h1
      · exact .inr ⟨p, (h.2 p).1 h1, h2⟩
    · rintro (h1 | ⟨p, h1, h2⟩)
      · exact ⟨by omega, .inl h1⟩
      · exact ⟨by omega, .inr ⟨p, (h.2 p).2 h1, h2⟩⟩
  · exact ⟨fun h => ⟨⟨h1, h2⟩, h.2⟩, fun h => ⟨by omega, h.2⟩⟩
  · obtain ⟨j, _, k1, k2⟩ := Fe_range hP h1
    have := same_range k2 ⟨h2, h3⟩
    subst this
    exact k1
  · constructor
    · rintro ⟨i, hi, h3⟩
      have := same_range ((glR hP (show i < l.length by omega)).fi p h3) ⟨h1, h2⟩
      subst this
      exact h3
    · exact fun h3 => ⟨r, by omega, h3⟩
end
theorem Cls.take {n : Nat} {w : Wd} (h : Cls n w) (k : Nat) : Cls n (w.take k) := fun c hc => h c (List.mem_of_mem_take hc)
theorem run_ok {x : MS} {n : Nat} (hn : n ≤ 24) {nx : List (List Int)} {ou : List Int} {st : List S4} (hD : DA x n nx ou st) {w : Wd} (hw : Cls n w) (hl : w.length ≤ 900000) :
    ∃ r, auto_Run nx ou w = some r ∧ r.length = w.length + 1 ∧ ∀ k, k ≤ w.length → ∃ j, j < st.length ∧ r.getD k 0 = (j : Int) ∧ Rch x (w.take k) (st.getD j z4) := by
  have hl1 := hD.l1
  have hne := hD.ne
  have key : ∃ r, iter (auto_Run_L1 nx w) ([0], 0, 0) = some r ∧ r.length = w.length + 1 ∧ ∀ k, k ≤ w.length → ∃ j, j < st.length ∧ r.getD k 0 = (j : Int) ∧ Rch x (w.take k) (st.getD j z4) := by
    refine iter_rule (I := fun q => ∃ (k : Nat) (out : List Int) (j : Nat), q = (out, (j : Int), (k : Int)) ∧ k ≤ w.length ∧ out.length = k + 1 ∧ j < st.length ∧ Rch x (w.take k) (st.getD j z4) ∧ ∀ i, i ≤ k → ∃ j, j < st.length ∧ out.getD i 0 = (j : Int) ∧ Rch x (w.take i) (st.getD j z4)) (μ := fun q => w.length - q.2.2.toNat) _ ?_ ?_
    · rintro q ⟨k, out, j, rfl, hk, ho, hj, hR, hi⟩
      by_cases hlt : k < w.length
      · have hc := hw _ (getD_mem' (d := 0) hlt)
        obtain ⟨c, hcn, hce⟩ : ∃ c : Nat, c < n ∧ w.getD k 0 = (c : Int) := ⟨(w.getD k 0).toNat, by omega, by omega⟩
        have c1 : 0 ≤ (k : Int) ∧ (k : Int) < (w.length : Int) := by omega
        have c2 : 0 ≤ (j : Int) ∧ (j : Int) < (nx.length : Int) := by omega
        have hrow := hD.rw j hj
        obtain ⟨j', h1, h2, h3⟩ := hD.go j hj c hcn
        have hR' := hR.step (by omega) h3
        have ht : w.take (k + 1) = w.take k ++ [(c : Int)] := by rw [take_succ' (d := 0) hlt, hce]
        rw [← ht] at hR'
        refine .inl ⟨(out ++ [(j' : Int)], (j' : Int), ((k + 1 : Nat) : Int)), ?_, ⟨k + 1, _, j', rfl, hlt, by simp [ho], h1, hR', fun i hi' => ?_⟩, by simp only [Int.toNat_natCast]; omega⟩
        · unfold auto_Run_L1
          dsimp only
          rw [if_pos (by simp; omega), if_pos c1, Int.toNat_natCast, hce, wrap_i64 (by omega) (by omega), Int.toNat_natCast, Int.toNat_natCast, h2]
          rw [if_neg (by simp <;> omega), if_pos c2]
          simp only [Option.bind_some]
          rw [if_neg (by rw [hrow]; simp; omega), if_pos c2, if_pos (by rw [hrow]; omega), if_pos (by simp; omega)]
          simp only [Int.natCast_add, Int.natCast_one]
        · by_cases e : i = k + 1
          · subst e
            rw [← ho, getD_append_len, ho]
            exact ⟨j', h1, rfl, hR'⟩
          · rw [getD_app (by omega)]; exact hi i (by omega)
      · have ek : k = w.length := by omega
        subst ek
        refine .inr ⟨out, ?_, ho, hi⟩
        unfold auto_Run_L1
        dsimp only
        rw [if_neg (by simp)]
    · refine ⟨0, [0], 0, rfl, Nat.zero_le _, rfl, by omega, ?_, fun i hi => ⟨0, by omega, ?_, ?_⟩⟩
      · rw [hD.z]; exact Rch.nil x
      · have : i = 0 := by omega
        subst this; rfl
      · have : i = 0 := by omega
        subst this
        rw [hD.z]; exact Rch.nil x
  obtain ⟨r, h1, h2⟩ := key
  refine ⟨r, ?_, h2⟩
  unfold auto_Run
  rw [if_neg (by rw [beq_iff_eq]; omega), h1]
  rfl
end Go.Proofs.Ytnjdmbifjbahdaa.T
