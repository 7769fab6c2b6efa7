/- What a plan's pieces say: names, sets, expressions. -/
import Derived.Test.YtnjdmbifjbahdaaTv04pf
import Derived.Test.YtnjdmbifjbahdaaTv04pt
namespace Go.Proofs.Ytnjdmbifjbahdaa.T
open Go Go.Tv Go.Proofs
def Eo (wh : Int) (sets : Sets) : Nat → Option (Int → Toks → TR)
  | 0 => none
  | d + 1 => some (eitherS wh sets d)
theorem eitherS_eq (wh : Int) (sets : Sets) : ∀ d, eitherS wh sets d = eithS (Eo wh sets d) wh sets
  | 0 => rfl
  | _ + 1 => rfl
def Ex.lv : Ex → Nat
  | .star a => a.lv
  | .plus a => a.lv
  | .opt a => a.lv
  | .alt a b => a.lv + b.lv
  | .seq a b => a.lv + b.lv
  | _ => 1
theorem Ex.lv_le : ∀ e : Ex, e.lv ≤ 2 ^ e.D
  | .star a => by have := a.lv_le; simp only [Ex.lv, Ex.D, Nat.pow_succ]; omega
  | .plus a => by have := a.lv_le; simp only [Ex.lv, Ex.D, Nat.pow_succ]; omega
  | .opt a => by have := a.lv_le; simp only [Ex.lv, Ex.D, Nat.pow_succ]; omega
  | .alt a b => by
    have h1 := a.lv_le; have h2 := b.lv_le
    have h3 := Nat.pow_le_pow_right (show 0 < 2 by decide) (Nat.le_max_left a.D b.D); have h4 := Nat.pow_le_pow_right (show 0 < 2 by decide) (Nat.le_max_right a.D b.D)
    simp only [Ex.lv, Ex.D, Nat.pow_succ]; omega
  | .seq a b => by
    have h1 := a.lv_le; have h2 := b.lv_le
    have h3 := Nat.pow_le_pow_right (show 0 < 2 by decide) (Nat.le_max_left a.D b.D); have h4 := Nat.pow_le_pow_right (show 0 < 2 by decide) (Nat.le_max_right a.D b.D)
    simp only [Ex.lv, Ex.D, Nat.pow_succ]; omega
  | .set _ _ => by simp [Ex.lv, Ex.D]
  | .any => by simp [Ex.lv, Ex.D]
  | .nm _ => by simp [Ex.lv, Ex.D]
def nmV (sets : Sets) (w : List UInt8) : Int := (look sets w).getD 0
def setV (sets : Sets) (ws : List (List UInt8)) (b : Int) : Int := ws.foldl (fun x w => bitsOf .or .u32 x (nmV sets w)) b
def exTh (n : Nat) (wh : Int) (sets : Sets) : Ex → List Tree
  | .nm k => [.node 1 (nmV sets [nmB n k]) []]
  | .any => [.node 1 wh []]
  | .set neg b => [.node 1 (if neg then bitsOf .andNot .u32 wh (setV sets (namesW n b n) 0) else setV sets (namesW n b n) 0) []]
  | .star a => [.node 4 0 [rowOf (exTh n wh sets a)]]
  | .plus a => [.node 5 0 [rowOf (exTh n wh sets a)]]
  | .opt a => [.node 6 0 [rowOf (exTh n wh sets a)]]
  | .alt a b => [.node 3 0 [rowOf (exTh n wh sets a), rowOf (exTh n wh sets b)]]
  | .seq a b => exTh n wh sets a ++ exTh n wh sets b
theorem Kd.wd {ts : Toks} {x ks} (h : Kd ts (.w x :: ks)) : ∃ n r, ts = .wd x n r ∧ Kd r ks := by
  cases ts with
  | bad n => exact h.elim
  | eof n => exact h.elim
  | wd w n r => obtain ⟨h1, h2⟩ := h; subst h1; exact ⟨n, r, rfl, h2⟩
  | sg c n r => exact h.elim
theorem Kd.sg {ts : Toks} {c ks} (h : Kd ts (.s c :: ks)) : ∃ n r, ts = .sg c n r ∧ Kd r ks := by
  cases ts with
  | bad n => exact h.elim
  | eof n => exact h.elim
  | wd w n r => exact h.elim
  | sg d n r => obtain ⟨h1, h2⟩ := h; subst h1; exact ⟨n, r, rfl, h2⟩
theorem Kd.nil {ts : Toks} (h : Kd ts []) : ∃ n, ts = .eof n := by
  cases ts with
  | bad n => exact h.elim
  | eof n => exact ⟨n, rfl⟩
  | wd w n r => exact h.elim
  | sg d n r => exact h.elim
theorem listS_kd {c : Nat} {sets : Sets} : ∀ (ws : List (List UInt8)) {ts : Toks} {b : Int} {ks}, Kd ts (ws.map .w ++ .s c :: ks) → (∀ w ∈ ws, ∃ x, look sets w = some x) → ∃ r, listS c sets ts b = .inl (setV sets ws b, r) ∧ Kd r ks
  | [], ts, b, ks, h, _ => by
    obtain ⟨n, r, rfl, h2⟩ := Kd.sg h
    exact ⟨r, by simp only [listS, if_true]; rfl, h2⟩
  | w :: ws, ts, b, ks, h, hk => by
    obtain ⟨n, r, rfl, h2⟩ := Kd.wd (show Kd ts (.w w :: (ws.map .w ++ .s c :: ks)) from h)
    obtain ⟨x, hx⟩ := hk w (by simp)
    obtain ⟨r', h3, h4⟩ := listS_kd ws (b := bitsOf .or .u32 b x) h2 (fun y hy => hk y (by simp [hy]))
    refine ⟨r', ?_, h4⟩
    simp only [listS, hx, h3, setV, List.foldl_cons, nmV, Option.getD_some]
def NPo : List K → Prop
  | .s c :: _ => c ≠ 42 ∧ c ≠ 43 ∧ c ≠ 63
  | _ => True
section
variable {n : Nat} {wh : Int} {sets : Sets}
theorem often_no {E : Option (Int → Toks → TR)} {pl : Int} {ts r : Toks} {x : Tree} {p : Int} {ks} (h : thingS E wh sets pl ts = .inl (x, r, p)) (hr : Kd r ks) (hn : NPo ks) : oftenS E wh sets pl ts = .inl (x, r, p) := by
  simp only [oftenS, h]
  match ks, hr, hn with
  | [], hr, _ => obtain ⟨n, rfl⟩ := Kd.nil hr; rfl
  | .w y :: ks, hr, _ => obtain ⟨n, r, rfl, _⟩ := Kd.wd hr; rfl
  | .s c :: ks, hr, ⟨h1, h2, h3⟩ =>
    obtain ⟨n, r, rfl, _⟩ := Kd.sg hr
    simp only []
    rw [if_neg h1, if_neg h2, if_neg h3]
theorem row_step {E : Option (Int → Toks → TR)} {f : Nat} {pl : Int} {ts r : Toks} {x : Tree} {p : Int} {acc} (h : oftenS E wh sets pl ts = .inl (x, r, p)) (hth : isTh ts = true) : rowS E wh sets (f + 1) ts pl acc = rowS E wh sets f r p (acc ++ [x]) := by
  have hh : ∃ y, hereS ts = .inl y := by
    cases ts with
    | bad n => cases hth
    | eof n => cases hth
    | wd w n r => exact ⟨_, rfl⟩
    | sg c n r => exact ⟨_, rfl⟩
  obtain ⟨y, hy⟩ := hh
  simp only [rowS, hy, hth, if_true, h]
theorem row_stop {E : Option (Int → Toks → TR)} {f : Nat} {pl : Int} {ts : Toks} {acc c ks} (h : Kd ts (.s c :: ks)) (hc : c ≠ 40 ∧ c ≠ 91 ∧ c ≠ 46) : rowS E wh sets (f + 1) ts pl acc = .inl (acc, ts, pl) := by
  obtain ⟨m, r, rfl, _⟩ := Kd.sg h
  have hth : isTh (.sg c m r) = false := by
    simp only [isTh, Bool.or_eq_false_iff, beq_eq_false_iff_ne]
    exact ⟨⟨hc.1, hc.2.1⟩, hc.2.2⟩
  simp only [rowS, hereS, hth, Bool.false_eq_true, if_false]
def RowOk (n : Nat) (wh : Int) (sets : Sets) (e : Ex) (d : Nat) : Prop := ∀ (f : Nat) (ts : Toks) (pl : Int) (acc : List Tree) (ks : List K), Kd ts (exK n e ++ ks) → NPo ks → ts.size < f → 0 ≤ pl → pl + e.lv ≤ 200 →
  ∃ r f', rowS (Eo wh sets d) wh sets f ts pl acc = rowS (Eo wh sets d) wh sets f' r (pl + e.lv) (acc ++ exTh n wh sets e) ∧ Kd r ks ∧ r.size < f' ∧ r.size ≤ ts.size
theorem eo_less : ∀ d, Less (Eo wh sets d)
  | 0 => less_none
  | _ + 1 => less_some
theorem rowT_kd {e : Ex} {d : Nat} (h : RowOk n wh sets e d) {ts : Toks} {pl : Int} {c ks} (hk : Kd ts (exK n e ++ .s c :: ks)) (hc : c ≠ 40 ∧ c ≠ 91 ∧ c ≠ 46) (hp : c ≠ 42 ∧ c ≠ 43 ∧ c ≠ 63) (h0 : 0 ≤ pl) (h1 : pl + e.lv ≤ 200) :
    ∃ r, rowT (Eo wh sets d) wh sets pl ts = .inl (rowOf (exTh n wh sets e), r, pl + e.lv) ∧ Kd r (.s c :: ks) ∧ r.size ≤ ts.size := by
  obtain ⟨r, f', h2, h3, h4, h5⟩ := h (ts.size + 1) ts pl [] (.s c :: ks) hk hp (by omega) h0 h1
  match f', h4 with
  | f' + 1, _ =>
    rw [row_stop h3 hc] at h2
    exact ⟨r, by simp only [rowT, h2, List.nil_append], h3, h5⟩
theorem either_kd {e : Ex} {d : Nat} (h : RowOk n wh sets e d) {ts : Toks} {pl : Int} {c ks} (hk : Kd ts (exK n e ++ .s c :: ks)) (hc : c ≠ 40 ∧ c ≠ 91 ∧ c ≠ 46) (hp : c ≠ 42 ∧ c ≠ 43 ∧ c ≠ 63) (h124 : c ≠ 124) (h0 : 0 ≤ pl) (h1 : pl + e.lv ≤ 200) :
    ∃ r, eitherS wh sets d pl ts = .inl (rowOf (exTh n wh sets e), r, pl + e.lv) ∧ Kd r (.s c :: ks) := by
  obtain ⟨r, h2, h3, h4⟩ := rowT_kd h hk hc hp h0 h1
  refine ⟨r, ?_, h3⟩
  obtain ⟨m, r', rfl, h5⟩ := Kd.sg h3
  rw [eitherS_eq]
  simp only [eithS, h2, altS, signS, if_neg h124, altOf]
theorem alt_kd {a b : Ex} {d : Nat} (ha : RowOk n wh sets a d) (hb : RowOk n wh sets b d) {ts : Toks} {pl : Int} {ks} (hk : Kd ts (exK n a ++ .s 124 :: (exK n b ++ .s 41 :: ks))) (h0 : 0 ≤ pl) (h1 : pl + (a.lv + b.lv : Nat) ≤ 200) :
    ∃ r, eitherS wh sets d pl ts = .inl (.node 3 0 [rowOf (exTh n wh sets a), rowOf (exTh n wh sets b)], r, pl + (a.lv + b.lv : Nat)) ∧ Kd r (.s 41 :: ks) := by
  obtain ⟨r, h2, h3, h4⟩ := rowT_kd ha hk (by decide) (by decide) h0 (by omega)
  obtain ⟨m, r', rfl, h5⟩ := Kd.sg h3
  obtain ⟨r2, h6, h7, h8⟩ := rowT_kd hb h5 (by decide) (by decide) (show 0 ≤ pl + a.lv by omega) (by omega)
  obtain ⟨m2, r3, rfl, h9⟩ := Kd.sg h7
  refine ⟨_, ?_, h7⟩
  rw [eitherS_eq]
  have e : pl + (a.lv : Int) + (b.lv : Int) = pl + ((a.lv + b.lv : Nat) : Int) := by omega
  rw [← e]
  have hz : (Toks.sg 124 m r').size + 1 = (r'.size + 1) + 1 := rfl
  simp only [eithS, h2, hz]
  have s1 : signS 124 (.sg 124 m r') = .inl (true, r') := rfl
  have s2 : signS 124 (.sg 41 m2 r3) = .inl (false, .sg 41 m2 r3) := rfl
  simp only [altS, s1, h6]
  cases hzz : r'.size with
  | zero => simp only [Toks.size] at h8; omega
  | succ k => simp only [altS, s2]; rfl
theorem brackets {x : Tree} {d : Nat} {ts : Toks} {pl p : Int} {ks} (hk : ∃ m r0, ts = .sg 40 m r0 ∧ ∃ r, eitherS wh sets d pl r0 = .inl (x, r, p) ∧ Kd r (.s 41 :: ks)) : ∃ r, thingS (Eo wh sets (d + 1)) wh sets pl ts = .inl (x, r, p) ∧ Kd r ks := by
  obtain ⟨m, r0, rfl, r, h1, h2⟩ := hk
  obtain ⟨m2, r2, rfl, h3⟩ := Kd.sg h2
  refine ⟨r2, ?_, h3⟩
  simp only [thingS, if_true, Eo, h1, wantS]
def Ex.br : Ex → Nat
  | .star a => a.br + 1
  | .plus a => a.br + 1
  | .opt a => a.br + 1
  | .alt a b => max a.br b.br + 1
  | .seq a b => max a.br b.br
  | _ => 0
theorem row_one {E : Option (Int → Toks → TR)} {f : Nat} {ts r : Toks} {pl p : Int} {acc x ks} (hf : ts.size < f) (hE : Less E) (hth : isTh ts = true) (h : oftenS E wh sets pl ts = .inl (x, r, p)) (hr : Kd r ks) :
    ∃ r f', rowS E wh sets f ts pl acc = rowS E wh sets f' r p (acc ++ [x]) ∧ Kd r ks ∧ r.size < f' ∧ r.size ≤ ts.size := by
  match f, hf with
  | f + 1, hf =>
    have := oftenS_size hE h
    exact ⟨r, f, row_step h hth, hr, by omega, by omega⟩
theorem often_sg {E : Option (Int → Toks → TR)} {pl p : Int} {ts r : Toks} {x : Tree} {c ks} (h : thingS E wh sets pl ts = .inl (x, r, p)) (hr : Kd r (.s c :: ks)) {op : Int} (hc : (c = 42 ∧ op = 4) ∨ (c = 43 ∧ op = 5) ∨ (c = 63 ∧ op = 6)) : ∃ r', oftenS E wh sets pl ts = .inl (.node op 0 [x], r', p) ∧ Kd r' ks := by
  obtain ⟨m, r', rfl, h2⟩ := Kd.sg hr
  refine ⟨r', ?_, h2⟩
  simp only [oftenS, h]
  rcases hc with ⟨rfl, rfl⟩ | ⟨rfl, rfl⟩ | ⟨rfl, rfl⟩ <;> rfl
theorem NPo_ex (n : Nat) : ∀ (e : Ex) (ks : List K), NPo (exK n e ++ ks)
  | .nm _, _ => trivial
  | .any, _ => by show (46 : Nat) ≠ 42 ∧ 46 ≠ 43 ∧ 46 ≠ 63; decide
  | .set true _, _ => by show (91 : Nat) ≠ 42 ∧ 91 ≠ 43 ∧ 91 ≠ 63; decide
  | .set false _, _ => by show (91 : Nat) ≠ 42 ∧ 91 ≠ 43 ∧ 91 ≠ 63; decide
  | .star _, _ => by show (40 : Nat) ≠ 42 ∧ 40 ≠ 43 ∧ 40 ≠ 63; decide
  | .plus _, _ => by show (40 : Nat) ≠ 42 ∧ 40 ≠ 43 ∧ 40 ≠ 63; decide
  | .opt _, _ => by show (40 : Nat) ≠ 42 ∧ 40 ≠ 43 ∧ 40 ≠ 63; decide
  | .alt _ _, _ => by show (40 : Nat) ≠ 42 ∧ 40 ≠ 43 ∧ 40 ≠ 63; decide
  | .seq a b, ks => by simp only [exK, List.append_assoc]; exact NPo_ex n a _
theorem namesW_mem {n b : Nat} : ∀ {k : Nat} {w : List UInt8}, w ∈ namesW n b k → ∃ i, w = [nmB n i]
  | 0, _, h => by cases h
  | k + 1, w, h => by
    simp only [namesW, List.mem_append] at h
    rcases h with h | h
    · exact namesW_mem h
    · split at h
      · cases List.mem_singleton.mp h; exact ⟨k, rfl⟩
      · cases h
theorem row_kd (hk : ∀ k, ∃ x, look sets [nmB n k] = some x) : ∀ (e : Ex) (d : Nat), e.br ≤ d → RowOk n wh sets e d
  | .nm k, d, _ => fun f ts pl acc ks h hn hf h0 h1 => by
    obtain ⟨m, r, rfl, h2⟩ := Kd.wd (show Kd ts (.w [nmB n k] :: ks) from h)
    obtain ⟨x, hx⟩ := hk k
    simp only [Ex.lv] at h1 ⊢
    refine row_one hf (eo_less d) rfl (often_no ?_ h2 hn) h2
    simp only [thingS]
    rw [if_neg (by omega), hx]
    simp only [nmV, hx, Option.getD_some]; rfl
  | .any, d, _ => fun f ts pl acc ks h hn hf h0 h1 => by
    obtain ⟨m, r, rfl, h2⟩ := Kd.sg (show Kd ts (.s 46 :: ks) from h)
    simp only [Ex.lv] at h1 ⊢
    refine row_one hf (eo_less d) rfl (often_no ?_ h2 hn) h2
    simp only [thingS]
    rw [if_neg (by decide), if_neg (by omega)]
    rfl
  | .set neg b, d, _ => fun f ts pl acc ks h hn hf h0 h1 => by
    have hw : ∀ w ∈ namesW n b n, ∃ x, look sets w = some x := fun w hw => by
      obtain ⟨i, rfl⟩ := namesW_mem hw
      exact hk i
    simp only [Ex.lv] at h1 ⊢
    cases neg with
    | true =>
      obtain ⟨m, r, rfl, h2⟩ := Kd.sg (show Kd ts (.s 91 :: .s 94 :: ((namesW n b n).map .w ++ [.s 93] ++ ks)) from by simpa [exK] using h)
      obtain ⟨m2, r2, rfl, h3⟩ := Kd.sg h2
      obtain ⟨r3, h4, h5⟩ := listS_kd (b := 0) (namesW n b n) (by rw [List.append_assoc] at h3; exact h3) hw
      refine row_one hf (eo_less d) rfl (often_no ?_ h5 hn) h5
      simp only [thingS]
      rw [if_neg (by decide), if_neg (by omega), if_neg (by decide)]
      simp only [signS, if_true, h4]
      rfl
    | false =>
      obtain ⟨m, r, rfl, h2⟩ := Kd.sg (show Kd ts (.s 91 :: ((namesW n b n).map .w ++ [.s 93] ++ ks)) from by simpa [exK] using h)
      rw [List.append_assoc] at h2
      obtain ⟨r3, h4, h5⟩ := listS_kd (b := 0) (namesW n b n) h2 hw
      have hs : signS 94 r = .inl (false, r) := by
        match hws : namesW n b n with
        | [] =>
          rw [hws] at h2
          obtain ⟨m2, r2, rfl, _⟩ := Kd.sg h2
          rfl
        | w :: ws =>
          rw [hws] at h2
          obtain ⟨m2, r2, rfl, _⟩ := Kd.wd h2
          rfl
      refine row_one hf (eo_less d) rfl (often_no ?_ h5 hn) h5
      simp only [thingS]
      rw [if_neg (by decide), if_neg (by omega), if_neg (by decide), hs]
      simp only [h4]
      rfl
  | .star a, 0, hb => by simp only [Ex.br] at hb; omega
  | .plus a, 0, hb => by simp only [Ex.br] at hb; omega
  | .opt a, 0, hb => by simp only [Ex.br] at hb; omega
  | .alt a b, 0, hb => by simp only [Ex.br] at hb; omega
  | .star a, d + 1, hb => fun f ts pl acc ks h hn hf h0 h1 => by
    simp only [Ex.br] at hb
    simp only [Ex.lv] at h1 ⊢
    simp only [exK, List.cons_append, List.append_assoc, List.nil_append] at h
    obtain ⟨m, r, rfl, h2⟩ := Kd.sg h
    obtain ⟨r1, h3, h4⟩ := brackets (ks := .s 42 :: ks) ⟨m, r, rfl, either_kd (row_kd hk a d (by omega)) h2 (by decide) (by decide) (by decide) h0 h1⟩
    obtain ⟨r2, h5, h6⟩ := often_sg h3 h4 (.inl ⟨rfl, rfl⟩)
    exact row_one hf (eo_less _) rfl h5 h6
  | .plus a, d + 1, hb => fun f ts pl acc ks h hn hf h0 h1 => by
    simp only [Ex.br] at hb
    simp only [Ex.lv] at h1 ⊢
    simp only [exK, List.cons_append, List.append_assoc, List.nil_append] at h
    obtain ⟨m, r, rfl, h2⟩ := Kd.sg h
    obtain ⟨r1, h3, h4⟩ := brackets (ks := .s 43 :: ks) ⟨m, r, rfl, either_kd (row_kd hk a d (by omega)) h2 (by decide) (by decide) (by decide) h0 h1⟩
    obtain ⟨r2, h5, h6⟩ := often_sg h3 h4 (.inr (.inl ⟨rfl, rfl⟩))
    exact row_one hf (eo_less _) rfl h5 h6
  | .opt a, d + 1, hb => fun f ts pl acc ks h hn hf h0 h1 => by
    simp only [Ex.br] at hb
    simp only [Ex.lv] at h1 ⊢
    simp only [exK, List.cons_append, List.append_assoc, List.nil_append] at h
    obtain ⟨m, r, rfl, h2⟩ := Kd.sg h
    obtain ⟨r1, h3, h4⟩ := brackets (ks := .s 63 :: ks) ⟨m, r, rfl, either_kd (row_kd hk a d (by omega)) h2 (by decide) (by decide) (by decide) h0 h1⟩
    obtain ⟨r2, h5, h6⟩ := often_sg h3 h4 (.inr (.inr ⟨rfl, rfl⟩))
    exact row_one hf (eo_less _) rfl h5 h6
  | .alt a b, d + 1, hb => fun f ts pl acc ks h hn hf h0 h1 => by
    simp only [Ex.br] at hb
    simp only [Ex.lv] at h1 ⊢
    simp only [exK, List.cons_append, List.append_assoc, List.nil_append] at h
    obtain ⟨m, r, rfl, h2⟩ := Kd.sg h
    obtain ⟨r1, h3, h4⟩ := brackets (ks := ks) ⟨m, r, rfl, alt_kd (row_kd hk a d (by omega)) (row_kd hk b d (by omega)) h2 h0 h1⟩
    exact row_one hf (eo_less _) rfl (often_no h3 h4 hn) h4
  | .seq a b, d, hb => fun f ts pl acc ks h hn hf h0 h1 => by
    simp only [Ex.br] at hb
    simp only [Ex.lv] at h1 ⊢
    simp only [exK, List.append_assoc] at h
    obtain ⟨r, f1, h2, h3, h4, h5⟩ := row_kd hk a d (by omega) f ts pl acc _ h (NPo_ex n b ks) hf h0 (by omega)
    obtain ⟨r2, f2, h6, h7, h8, h9⟩ := row_kd hk b d (by omega) f1 r (pl + a.lv) (acc ++ exTh n wh sets a) ks h3 hn h4 (by omega) (by omega)
    refine ⟨r2, f2, ?_, h7, h8, by omega⟩
    rw [h2, h6, show pl + ((a.lv + b.lv : Nat) : Int) = pl + (a.lv : Int) + (b.lv : Int) by omega]
    simp only [exTh, List.append_assoc]
def exOV (n : Nat) (wh : Int) (sets : Sets) : Option Ex → Tree
  | none => .node 0 0 []
  | some e => rowOf (exTh n wh sets e)
def lvO : Option Ex → Nat
  | none => 0
  | some e => e.lv
def brO : Option Ex → Nat
  | none => 0
  | some e => e.br
theorem eitherO_kd (hk : ∀ k, ∃ x, look sets [nmB n k] = some x) (e : Option Ex) {d : Nat} (hd : brO e ≤ d) {ts : Toks} {pl : Int} {c ks} (h : Kd ts (exOK n e ++ .s c :: ks)) (hc : c ≠ 40 ∧ c ≠ 91 ∧ c ≠ 46) (hp : c ≠ 42 ∧ c ≠ 43 ∧ c ≠ 63) (h124 : c ≠ 124) (h0 : 0 ≤ pl) (h1 : pl + (lvO e : Nat) ≤ 200) :
    ∃ r, eitherS wh sets d pl ts = .inl (exOV n wh sets e, r, pl + (lvO e : Nat)) ∧ Kd r (.s c :: ks) := by
  cases e with
  | none =>
    refine ⟨ts, ?_, h⟩
    have hrow := row_stop (E := Eo wh sets d) (wh := wh) (sets := sets) (f := ts.size) (pl := pl) (acc := []) (show Kd ts (.s c :: ks) from h) hc
    obtain ⟨m, r', rfl, h5⟩ := Kd.sg (show Kd ts (.s c :: ks) from h)
    rw [eitherS_eq]
    simp only [eithS, rowT, hrow, altS, signS, if_neg h124, altOf, exOV, rowOf, lvO]
    simp
  | some e => exact either_kd (row_kd hk e d hd) h hc hp h124 h0 h1
end
end Go.Proofs.Ytnjdmbifjbahdaa.T
