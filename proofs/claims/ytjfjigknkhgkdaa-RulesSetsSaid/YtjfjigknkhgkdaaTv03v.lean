/- What a plan's pieces say: lines. -/
import Derived.Test.YtjfjigknkhgkdaaTv03u
import Derived.Test.YtjfjigknkhgkdaaTv03dm
namespace Go.Proofs.Ytjfjigknkhgkdaa.T
open Go Go.Tv Go.Proofs
def clsP (n : Nat) : List (List UInt8) := namesW n 255 n
def setsP (n : Nat) : Sets := (clsP n).zip ((List.range n).map bitI)
def t0P (n : Nat) : List Int := (List.range n).map (fun (k : Nat) => (k : Int))
theorem nmB_mod (n k : Nat) : nmB n k = nmB n (k % n) := by unfold nmB; rw [Nat.mod_mod]
theorem names_ok : ((List.range 7).all fun n => (List.range n).all fun m => (place (clsP n) [nmB n m] == m) && (look (setsP n) [nmB n m] == some (bitI m)) && ((clsP n).length == n)) = true := by kernel_rfl
theorem name_at {n : Nat} (h1 : 1 ≤ n) (h6 : n ≤ 6) (k : Nat) : place (clsP n) [nmB n k] = k % n ∧ look (setsP n) [nmB n k] = some (bitI (k % n)) ∧ (clsP n).length = n := by
  have a := List.all_eq_true.mp names_ok n (List.mem_range.mpr (by omega))
  have b := List.all_eq_true.mp a (k % n) (List.mem_range.mpr (Nat.mod_lt _ (by omega)))
  simp only [Bool.and_eq_true, beq_iff_eq] at b
  rw [nmB_mod]
  exact ⟨b.1.1, b.1.2, b.2⟩
def clsR : List (List UInt8) → List (List UInt8) × List Int × Sets → List (List UInt8) × List Int × Sets
  | [], s => s
  | w :: ws, s => clsR ws (s.1 ++ [w], s.2.1 ++ [(s.1.length : Int)], s.2.2 ++ [(w, bitI s.1.length)])
def clsF : List (List UInt8) → Nat × Sets → Bool
  | [], _ => true
  | w :: ws, s => (look s.2 w).isNone && decide (s.1 < 24) && clsF ws (s.1 + 1, s.2 ++ [(w, bitI s.1)])
theorem classS_kd : ∀ (ws : List (List UInt8)) {f : Nat} {ts : Toks} {cls tr sets ks}, Kd ts (ws.map .w ++ .s 59 :: ks) → ts.size < f → clsF ws (cls.length, sets) = true →
    ∃ r, classS f ts cls tr sets = .inl (r, (clsR ws (cls, tr, sets))) ∧ Kd r ks
  | [], f, ts, cls, tr, sets, ks, h, hf, hF => by
    obtain ⟨n, r, rfl, h2⟩ := Kd.sg h
    match f, hf with
    | f + 1, _ => exact ⟨r, by simp only [classS, signS, if_true]; rfl, h2⟩
  | w :: ws, f, ts, cls, tr, sets, ks, h, hf, hF => by
    obtain ⟨n, r, rfl, h2⟩ := Kd.wd (show Kd ts (.w w :: (ws.map .w ++ .s 59 :: ks)) from h)
    simp only [clsF, Bool.and_eq_true, Option.isNone_iff_eq_none, decide_eq_true_eq] at hF
    obtain ⟨⟨g1, g2⟩, g3⟩ := hF
    match f, hf with
    | f + 1, hf =>
      simp only [Toks.size] at hf
      obtain ⟨r', h3, h4⟩ := classS_kd ws (f := f) (cls := cls ++ [w]) (tr := tr ++ [(cls.length : Int)]) (sets := sets ++ [(w, bitI cls.length)]) h2 (by omega) (by simpa using g3)
      refine ⟨r', ?_, h4⟩
      have s1 : signS 59 (.wd w n r) = .inl (false, .wd w n r) := rfl
      have s2 : freshS sets (.wd w n r) = .inl (w, n, r) := by simp only [freshS, wordS, g1]
      simp only [classS, s1, s2]
      rw [if_neg (by omega), h3]
      rfl
theorem cls_ok : ((List.range 7).all fun n => decide (clsR (clsP n) ([], [], []) = (clsP n, t0P n, setsP n)) && clsF (clsP n) (0, [])) = true := by kernel_rfl
theorem cls_all {n : Nat} (h6 : n ≤ 6) : clsR (clsP n) ([], [], []) = (clsP n, t0P n, setsP n) ∧ clsF (clsP n) (0, []) = true := by
  have a := List.all_eq_true.mp cls_ok n (List.mem_range.mpr (by omega))
  simpa using a
theorem known {n : Nat} (h1 : 1 ≤ n) (h6 : n ≤ 6) (k : Nat) : ∃ x, look (setsP n) [nmB n k] = some x := ⟨_, (name_at h1 h6 k).2.1⟩
def Goes (f : Nat) (s : PS) (ks : List K) (s' : PS) : Prop := ∃ f', allS f s = allS f' s' ∧ Kd s'.ts ks ∧ s'.ts.size < f'
theorem line_go {f : Nat} {s s1 : PS} {w : List UInt8} {m : Nat} {r : Toks} {ks} (hts : s.ts = .wd w m r) (hf : s.ts.size < f) (h : lineS s w m r = .inl s1) (hk : Kd s1.ts ks) : Goes f s ks s1 := by
  match f, hf with
  | f + 1, hf =>
    have hz := lineS_size h
    rw [hts] at hf
    simp only [Toks.size] at hf
    exact ⟨f, by simp only [allS, hts, h], hk, by omega⟩
section
variable {n : Nat} (h1 : 1 ≤ n) (h6 : n ≤ 6)
include h1 h6
omit h1 in
theorem head_go {f : Nat} {ts : Toks} {ks} (h : Kd ts (headK n ++ ks)) (hf : ts.size < f) : ∃ r, Goes f (init ts) ks ⟨r, clsP n, 0, 0, t0P n, [], setsP n, 0⟩ := by
  obtain ⟨m, r, rfl, h2⟩ := Kd.wd (show Kd ts (.w [99, 108, 97, 115, 115] :: ((clsP n).map .w ++ .s 59 :: ks)) from by simpa [headK, clsP] using h)
  obtain ⟨c1, c2⟩ := cls_all h6
  obtain ⟨r1, h3, h4⟩ := classS_kd (clsP n) (f := r.size + 1) (cls := []) (tr := []) (sets := []) h2 (by omega) c2
  refine ⟨r1, line_go rfl hf ?_ h4⟩
  rw [c1] at h3
  have h3' : classS (r.size + 1) r (init (.wd [99, 108, 97, 115, 115] m r)).cls (init (.wd [99, 108, 97, 115, 115] m r)).treat (init (.wd [99, 108, 97, 115, 115] m r)).sets = _ := h3
  unfold lineS
  rw [if_pos rfl, h3']
  rfl
end
end Go.Proofs.Ytjfjigknkhgkdaa.T
