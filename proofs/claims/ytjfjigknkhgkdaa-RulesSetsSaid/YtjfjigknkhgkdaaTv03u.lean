/- What a plan's pieces say: names, sets, expressions. -/
import Derived.Test.YtjfjigknkhgkdaaTv03dm
import Derived.Test.YtjfjigknkhgkdaaTv03t
namespace Go.Proofs.Ytjfjigknkhgkdaa.T
open Go Go.Tv Go.Proofs
def Eo (wh : Int) (sets : Sets) : Nat → Option (Int → Toks → TR)
  | 0 => none
  | d + 1 => some (eitherS wh sets d)
theorem eitherS_eq (wh : Int) (sets : Sets) : ∀ d, eitherS wh sets d = eithS (Eo wh sets d) wh sets
  | 0 => rfl
  | _ + 1 => rfl
def nmV (sets : Sets) (w : List UInt8) : Int := (look sets w).getD 0
def setV (sets : Sets) (ws : List (List UInt8)) (b : Int) : Int := ws.foldl (fun x w => bitsOf .or .u32 x (nmV sets w)) b
theorem Kd.wd {ts : Toks} {x ks} (h : Kd ts (.w x :: ks)) : ∃ n r, ts = .wd x n r ∧ Kd r ks := by
  cases ts with
  | bad n => exact h.elim
  | eof n => exact h.elim
  | wd w n r => obtain ⟨h1, h2⟩ := h; subst h1; exact ⟨n, r, rfl, h2⟩
  | sg c n r => exact h.elim
theorem Kd.sg {ts : Toks} {c ks} (h : Kd ts (.s c :: ks)) : ∃ n r, ts = .sg c n r ∧ Kd r ks := by
  cases ts with
  | bad n => exact h.elim
  | eof n => exact h.elim
  | wd w n r => exact h.elim
  | sg d n r => obtain ⟨h1, h2⟩ := h; subst h1; exact ⟨n, r, rfl, h2⟩
theorem Kd.nil {ts : Toks} (h : Kd ts []) : ∃ n, ts = .eof n := by
  cases ts with
  | bad n => exact h.elim
  | eof n => exact ⟨n, rfl⟩
  | wd w n r => exact h.elim
  | sg d n r => exact h.elim
theorem listS_kd {c : Nat} {sets : Sets} : ∀ (ws : List (List UInt8)) {ts : Toks} {b : Int} {ks}, Kd ts (ws.map .w ++ .s c :: ks) → (∀ w ∈ ws, ∃ x, look sets w = some x) → ∃ r, listS c sets ts b = .inl (setV sets ws b, r) ∧ Kd r ks
  | [], ts, b, ks, h, _ => by
    obtain ⟨n, r, rfl, h2⟩ := Kd.sg h
    exact ⟨r, by simp only [listS, if_true]; rfl, h2⟩
  | w :: ws, ts, b, ks, h, hk => by
    obtain ⟨n, r, rfl, h2⟩ := Kd.wd (show Kd ts (.w w :: (ws.map .w ++ .s c :: ks)) from h)
    obtain ⟨x, hx⟩ := hk w (by simp)
    obtain ⟨r', h3, h4⟩ := listS_kd ws (b := bitsOf .or .u32 b x) h2 (fun y hy => hk y (by simp [hy]))
    refine ⟨r', ?_, h4⟩
    simp only [listS, hx, h3, setV, List.foldl_cons, nmV, Option.getD_some]
def NPo : List K → Prop
  | .s c :: _ => c ≠ 42 ∧ c ≠ 43 ∧ c ≠ 63
  | _ => True
section
variable {n : Nat} {wh : Int} {sets : Sets}
theorem often_no {E : Option (Int → Toks → TR)} {pl : Int} {ts r : Toks} {x : Tree} {p : Int} {ks} (h : thingS E wh sets pl ts = .inl (x, r, p)) (hr : Kd r ks) (hn : NPo ks) : oftenS E wh sets pl ts = .inl (x, r, p) := by
  simp only [oftenS, h]
  match ks, hr, hn with
  | [], hr, _ => obtain ⟨n, rfl⟩ := Kd.nil hr; rfl
  | .w y :: ks, hr, _ => obtain ⟨n, r, rfl, _⟩ := Kd.wd hr; rfl
  | .s c :: ks, hr, ⟨h1, h2, h3⟩ =>
    obtain ⟨n, r, rfl, _⟩ := Kd.sg hr
    simp only []
    rw [if_neg h1, if_neg h2, if_neg h3]
theorem row_step {E : Option (Int → Toks → TR)} {f : Nat} {pl : Int} {ts r : Toks} {x : Tree} {p : Int} {acc} (h : oftenS E wh sets pl ts = .inl (x, r, p)) (hth : isTh ts = true) : rowS E wh sets (f + 1) ts pl acc = rowS E wh sets f r p (acc ++ [x]) := by
  have hh : ∃ y, hereS ts = .inl y := by
    cases ts with
    | bad n => cases hth
    | eof n => cases hth
    | wd w n r => exact ⟨_, rfl⟩
    | sg c n r => exact ⟨_, rfl⟩
  obtain ⟨y, hy⟩ := hh
  simp only [rowS, hy, hth, if_true, h]
theorem row_stop {E : Option (Int → Toks → TR)} {f : Nat} {pl : Int} {ts : Toks} {acc c ks} (h : Kd ts (.s c :: ks)) (hc : c ≠ 40 ∧ c ≠ 91 ∧ c ≠ 46) : rowS E wh sets (f + 1) ts pl acc = .inl (acc, ts, pl) := by
  obtain ⟨m, r, rfl, _⟩ := Kd.sg h
  have hth : isTh (.sg c m r) = false := by
    simp only [isTh, Bool.or_eq_false_iff, beq_eq_false_iff_ne]
    exact ⟨⟨hc.1, hc.2.1⟩, hc.2.2⟩
  simp only [rowS, hereS, hth, Bool.false_eq_true, if_false]
theorem eo_less : ∀ d, Less (Eo wh sets d)
  | 0 => less_none
  | _ + 1 => less_some
theorem brackets {x : Tree} {d : Nat} {ts : Toks} {pl p : Int} {ks} (hk : ∃ m r0, ts = .sg 40 m r0 ∧ ∃ r, eitherS wh sets d pl r0 = .inl (x, r, p) ∧ Kd r (.s 41 :: ks)) : ∃ r, thingS (Eo wh sets (d + 1)) wh sets pl ts = .inl (x, r, p) ∧ Kd r ks := by
  obtain ⟨m, r0, rfl, r, h1, h2⟩ := hk
  obtain ⟨m2, r2, rfl, h3⟩ := Kd.sg h2
  refine ⟨r2, ?_, h3⟩
  simp only [thingS, if_true, Eo, h1, wantS]
def Ex.br : Ex → Nat
  | .star a => a.br + 1
  | .plus a => a.br + 1
  | .opt a => a.br + 1
  | .alt a b => max a.br b.br + 1
  | .seq a b => max a.br b.br
  | _ => 0
theorem namesW_mem {n b : Nat} : ∀ {k : Nat} {w : List UInt8}, w ∈ namesW n b k → ∃ i, w = [nmB n i]
  | 0, _, h => by cases h
  | k + 1, w, h => by
    simp only [namesW, List.mem_append] at h
    rcases h with h | h
    · exact namesW_mem h
    · split at h
      · cases List.mem_singleton.mp h; exact ⟨k, rfl⟩
      · cases h
end
end Go.Proofs.Ytjfjigknkhgkdaa.T
