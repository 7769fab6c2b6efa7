/- What a plan's pieces say: lines. -/
import Derived.Test.YtnjdmbifjbahdaaTv04pu
import Derived.Test.YtnjdmbifjbahdaaTv04pi
import Derived.Test.YtnjdmbifjbahdaaTvT04ya
import Derived.Test.YtnjdmbifjbahdaaTvYm
namespace Go.Proofs.Ytnjdmbifjbahdaa.T
open Go Go.Tv Go.Proofs
def clsP (n : Nat) : List (List UInt8) := namesW n 255 n
def setsP (n : Nat) : Sets := (clsP n).zip ((List.range n).map bitI)
def t0P (n : Nat) : List Int := (List.range n).map (fun (k : Nat) => (k : Int))
theorem nmB_mod (n k : Nat) : nmB n k = nmB n (k % n) := by unfold nmB; rw [Nat.mod_mod]
theorem names_ok : ((List.range 7).all fun n => (List.range n).all fun m => (place (clsP n) [nmB n m] == m) && (look (setsP n) [nmB n m] == some (bitI m)) && ((clsP n).length == n)) = true := by kernel_rfl
theorem name_at {n : Nat} (h1 : 1 ≤ n) (h6 : n ≤ 6) (k : Nat) : place (clsP n) [nmB n k] = k % n ∧ look (setsP n) [nmB n k] = some (bitI (k % n)) ∧ (clsP n).length = n := by
  have a := List.all_eq_true.mp names_ok n (List.mem_range.mpr (by omega))
  have b := List.all_eq_true.mp a (k % n) (List.mem_range.mpr (Nat.mod_lt _ (by omega)))
  simp only [Bool.and_eq_true, beq_iff_eq] at b
  rw [nmB_mod]
  exact ⟨b.1.1, b.1.2, b.2⟩
def clsR : List (List UInt8) → List (List UInt8) × List Int × Sets → List (List UInt8) × List Int × Sets
  | [], s => s
  | w :: ws, s => clsR ws (s.1 ++ [w], s.2.1 ++ [(s.1.length : Int)], s.2.2 ++ [(w, bitI s.1.length)])
def clsF : List (List UInt8) → Nat × Sets → Bool
  | [], _ => true
  | w :: ws, s => (look s.2 w).isNone && decide (s.1 < 24) && clsF ws (s.1 + 1, s.2 ++ [(w, bitI s.1)])
theorem classS_kd : ∀ (ws : List (List UInt8)) {f : Nat} {ts : Toks} {cls tr sets ks}, Kd ts (ws.map .w ++ .s 59 :: ks) → ts.size < f → clsF ws (cls.length, sets) = true →
    ∃ r, classS f ts cls tr sets = .inl (r, (clsR ws (cls, tr, sets))) ∧ Kd r ks
  | [], f, ts, cls, tr, sets, ks, h, hf, hF => by
    obtain ⟨n, r, rfl, h2⟩ := Kd.sg h
    match f, hf with
    | f + 1, _ => exact ⟨r, by simp only [classS, signS, if_true]; rfl, h2⟩
  | w :: ws, f, ts, cls, tr, sets, ks, h, hf, hF => by
    obtain ⟨n, r, rfl, h2⟩ := Kd.wd (show Kd ts (.w w :: (ws.map .w ++ .s 59 :: ks)) from h)
    simp only [clsF, Bool.and_eq_true, Option.isNone_iff_eq_none, decide_eq_true_eq] at hF
    obtain ⟨⟨g1, g2⟩, g3⟩ := hF
    match f, hf with
    | f + 1, hf =>
      simp only [Toks.size] at hf
      obtain ⟨r', h3, h4⟩ := classS_kd ws (f := f) (cls := cls ++ [w]) (tr := tr ++ [(cls.length : Int)]) (sets := sets ++ [(w, bitI cls.length)]) h2 (by omega) (by simpa using g3)
      refine ⟨r', ?_, h4⟩
      have s1 : signS 59 (.wd w n r) = .inl (false, .wd w n r) := rfl
      have s2 : freshS sets (.wd w n r) = .inl (w, n, r) := by simp only [freshS, wordS, g1]
      simp only [classS, s1, s2]
      rw [if_neg (by omega), h3]
      rfl
theorem cls_ok : ((List.range 7).all fun n => decide (clsR (clsP n) ([], [], []) = (clsP n, t0P n, setsP n)) && clsF (clsP n) (0, [])) = true := by kernel_rfl
theorem cls_all {n : Nat} (h6 : n ≤ 6) : clsR (clsP n) ([], [], []) = (clsP n, t0P n, setsP n) ∧ clsF (clsP n) (0, []) = true := by
  have a := List.all_eq_true.mp cls_ok n (List.mem_range.mpr (by omega))
  simpa using a
theorem known {n : Nat} (h1 : 1 ≤ n) (h6 : n ≤ 6) (k : Nat) : ∃ x, look (setsP n) [nmB n k] = some x := ⟨_, (name_at h1 h6 k).2.1⟩
def Goes (f : Nat) (s : PS) (ks : List K) (s' : PS) : Prop := ∃ f', allS f s = allS f' s' ∧ Kd s'.ts ks ∧ s'.ts.size < f'
theorem line_go {f : Nat} {s s1 : PS} {w : List UInt8} {m : Nat} {r : Toks} {ks} (hts : s.ts = .wd w m r) (hf : s.ts.size < f) (h : lineS s w m r = .inl s1) (hk : Kd s1.ts ks) : Goes f s ks s1 := by
  match f, hf with
  | f + 1, hf =>
    have hz := lineS_size h
    rw [hts] at hf
    simp only [Toks.size] at hf
    exact ⟨f, by simp only [allS, hts, h], hk, by omega⟩
def trV (n : Nat) (tr : List Int) : Nat → List Int
  | 0 => t0P n
  | k + 1 => (trV n tr k).set k (((tr.getD k 0).toNat % n : Nat) : Int)
def ruV (n : Nat) (l : List PR) : Nat → RL
  | 0 => []
  | k + 1 => ruV n l k ++ [(Int.tmod (l.getD k pr0).1 3, exOV n (wholeI n) (setsP n) (exO (l.getD k pr0).2.1), exOV n (wholeI n) (setsP n) (exO (l.getD k pr0).2.2))]
def jnV (n : Nat) (j : Int) : Int := setV (setsP n) (namesW n j.toNat n) 0
def plV (l : List PR) : Nat → Int
  | 0 => 0
  | k + 1 => plV l k + (lvO (exO (l.getD k pr0).2.1) : Nat) + (lvO (exO (l.getD k pr0).2.2) : Nat)
theorem lvO_le (l : List Int) : lvO (exO l) ≤ 8 := by
  unfold exO
  split
  · exact Nat.zero_le _
  · exact Nat.le_trans (Ex.lv_le _) (Nat.le_trans (Nat.pow_le_pow_right (by decide) (rdE_D 3 _ _)) (by decide))
theorem br_D : ∀ e : Ex, e.br ≤ e.D
  | .star a => by have := br_D a; simp only [Ex.br, Ex.D]; omega
  | .plus a => by have := br_D a; simp only [Ex.br, Ex.D]; omega
  | .opt a => by have := br_D a; simp only [Ex.br, Ex.D]; omega
  | .alt a b => by have := br_D a; have := br_D b; simp only [Ex.br, Ex.D]; omega
  | .seq a b => by have := br_D a; have := br_D b; simp only [Ex.br, Ex.D]; omega
  | .set _ _ => Nat.zero_le _
  | .any => Nat.zero_le _
  | .nm _ => Nat.zero_le _
theorem brO_le (l : List Int) : brO (exO l) ≤ 16 := by
  unfold exO
  split
  · exact Nat.zero_le _
  · exact Nat.le_trans (br_D _) (Nat.le_trans (rdE_D 3 _ _) (by decide))
theorem plV_le (l : List PR) : ∀ k, 0 ≤ plV l k ∧ plV l k ≤ 16 * (k : Int)
  | 0 => ⟨Int.le_refl _, Int.le_refl _⟩
  | k + 1 => by
    have h := plV_le l k
    have h1 := lvO_le (l.getD k pr0).2.1
    have h2 := lvO_le (l.getD k pr0).2.2
    simp only [plV]
    omega
theorem ruV_len (n : Nat) (l : List PR) : ∀ k, (ruV n l k).length = k
  | 0 => rfl
  | k + 1 => by simp only [ruV, List.length_append, List.length_singleton, ruV_len n l k]
theorem does_at {d : Int} (h : 0 ≤ d) : does? (doesW d) = some (Int.tmod d 3) ∧ doesW d ≠ [99, 108, 97, 115, 115] ∧ doesW d ≠ [115, 101, 116] ∧ doesW d ≠ [106, 111, 105, 110] ∧ doesW d ≠ [116, 114, 101, 97, 116] := by
  obtain ⟨m, rfl⟩ := Int.eq_ofNat_of_zero_le h
  have e : Int.tmod ((m : Nat) : Int) (3 : Int) = ((m % 3 : Nat) : Int) := rfl
  unfold doesW
  rw [e, Int.toNat_natCast]
  have hm : m % 3 < 3 := Nat.mod_lt _ (by decide)
  generalize m % 3 = k at hm
  match k, hm with
  | 0, _ => exact ⟨rfl, by decide, by decide, by decide, by decide⟩
  | 1, _ => exact ⟨rfl, by decide, by decide, by decide, by decide⟩
  | 2, _ => exact ⟨rfl, by decide, by decide, by decide, by decide⟩
section
variable {n : Nat} (h1 : 1 ≤ n) (h6 : n ≤ 6)
include h1 h6
omit h1 in
theorem head_go {f : Nat} {ts : Toks} {ks} (h : Kd ts (headK n ++ ks)) (hf : ts.size < f) : ∃ r, Goes f (init ts) ks ⟨r, clsP n, 0, 0, t0P n, [], setsP n, 0⟩ := by
  obtain ⟨m, r, rfl, h2⟩ := Kd.wd (show Kd ts (.w [99, 108, 97, 115, 115] :: ((clsP n).map .w ++ .s 59 :: ks)) from by simpa [headK, clsP] using h)
  obtain ⟨c1, c2⟩ := cls_all h6
  obtain ⟨r1, h3, h4⟩ := classS_kd (clsP n) (f := r.size + 1) (cls := []) (tr := []) (sets := []) h2 (by omega) c2
  refine ⟨r1, line_go rfl hf ?_ h4⟩
  rw [c1] at h3
  have h3' : classS (r.size + 1) r (init (.wd [99, 108, 97, 115, 115] m r)).cls (init (.wd [99, 108, 97, 115, 115] m r)).treat (init (.wd [99, 108, 97, 115, 115] m r)).sets = _ := h3
  unfold lineS
  rw [if_pos rfl, h3']
  rfl
theorem join_go {f : Nat} {ts : Toks} {j a : Int} {ks} (h : Kd ts (joinK n j a ++ ks)) (hf : ts.size < f) : ∃ r, Goes f ⟨ts, clsP n, 0, 0, t0P n, [], setsP n, 0⟩ ks ⟨r, clsP n, if j = 0 then 0 else bitsOf .or .u32 0 (jnV n j), if j = 0 then 0 else bitsOf .or .u32 0 (jnV n a), t0P n, [], setsP n, 0⟩ := by
  unfold joinK at h
  by_cases hj : j = 0
  · rw [if_pos hj] at h
    rw [if_pos hj, if_pos hj]
    exact ⟨ts, f, rfl, h, hf⟩
  · rw [if_neg hj] at h
    rw [if_neg hj, if_neg hj]
    obtain ⟨m, r, rfl, h2⟩ := Kd.wd (show Kd ts (.w [106, 111, 105, 110] :: ((namesW n j.toNat n).map .w ++ .s 47 :: ((namesW n a.toNat n).map .w ++ .s 59 :: ks))) from by simpa using h)
    have kn : ∀ b, ∀ w ∈ namesW n b n, ∃ x, look (setsP n) w = some x := fun b w hw => by
      obtain ⟨i, rfl⟩ := namesW_mem hw
      exact known h1 h6 i
    obtain ⟨r1, h3, h4⟩ := listS_kd (b := 0) (namesW n j.toNat n) h2 (kn _)
    obtain ⟨r2, h5, h7⟩ := listS_kd (b := 0) (namesW n a.toNat n) h4 (kn _)
    refine ⟨r2, line_go rfl hf ?_ h7⟩
    unfold lineS
    rw [if_neg (by decide), if_neg (by decide), if_pos rfl]
    simp only [joinS, h3, h5]
    rfl
theorem tr_go {f : Nat} {tr : List Int} {ts : Toks} {jn an : Int} (hf : ts.size < f) : ∀ (k : Nat) {ks}, k ≤ n → Kd ts (trK n tr k ++ ks) → ∃ r, Goes f ⟨ts, clsP n, jn, an, t0P n, [], setsP n, 0⟩ ks ⟨r, clsP n, jn, an, trV n tr k, [], setsP n, 0⟩
  | 0, ks, _, h => ⟨ts, f, rfl, h, hf⟩
  | k + 1, ks, hk, h => by
    simp only [trK, List.append_assoc, List.cons_append, List.nil_append] at h
    obtain ⟨r, f1, e1, h2, h3⟩ := tr_go (jn := jn) (an := an) hf k (by omega) h
    obtain ⟨m1, r1, e2, h4⟩ := Kd.wd h2
    obtain ⟨m2, r2, rfl, h5⟩ := Kd.wd (show Kd r1 (.w [nmB n k] :: _) from h4)
    obtain ⟨m3, r3, rfl, h7⟩ := Kd.sg h5
    obtain ⟨m4, r4, rfl, h8⟩ := Kd.wd (show Kd r3 (.w [nmB n (tr.getD k 0).toNat] :: _) from h7)
    obtain ⟨m5, r5, rfl, h9⟩ := Kd.sg h8
    obtain ⟨p1, _, p3⟩ := name_at h1 h6 k
    obtain ⟨q1, _, _⟩ := name_at h1 h6 (tr.getD k 0).toNat
    have hkm : k % n = k := Nat.mod_eq_of_lt (by omega)
    have hvm : (tr.getD k 0).toNat % n < n := Nat.mod_lt _ (by omega)
    have o1 : oneS (clsP n) (.wd [nmB n k] m2 (.sg 61 m3 (.wd [nmB n (tr.getD k 0).toNat] m4 (.sg 59 m5 r5)))) = .inl ((k : Int), .sg 61 m3 (.wd [nmB n (tr.getD k 0).toNat] m4 (.sg 59 m5 r5))) := by
      simp only [oneS, wordS, p1, p3, hkm]
      rw [if_pos (by omega)]
    have o2 : oneS (clsP n) (.wd [nmB n (tr.getD k 0).toNat] m4 (.sg 59 m5 r5)) = .inl ((((tr.getD k 0).toNat % n : Nat) : Int), .sg 59 m5 r5) := by
      simp only [oneS, wordS, q1, p3]
      rw [if_pos hvm]
    obtain ⟨f2, e3, h10, h11⟩ := line_go (s1 := ⟨r5, clsP n, jn, an, trV n tr (k + 1), [], setsP n, 0⟩) (ks := ks) e2 h3 (by
      unfold lineS
      rw [if_neg (by decide), if_neg (by decide), if_neg (by decide), if_pos rfl]
      simp only [treatS, o1, wantS, if_true, o2]
      simp only [trV, Int.toNat_natCast]) h9
    exact ⟨r5, f2, e1.trans e3, h10, h11⟩
theorem ru_go {f : Nat} {l : List PR} {ts : Toks} {jn an : Int} {tv : List Int} (hf : ts.size < f) (hl : ∀ x ∈ l, 0 ≤ x.1) : ∀ (k : Nat) {ks}, k ≤ l.length → k ≤ 10 → Kd ts (ruK n l k ++ ks) → ∃ r, Goes f ⟨ts, clsP n, jn, an, tv, [], setsP n, 0⟩ ks ⟨r, clsP n, jn, an, tv, ruV n l k, setsP n, plV l k⟩
  | 0, ks, _, _, h => ⟨ts, f, rfl, h, hf⟩
  | k + 1, ks, hk, h10, h => by
    simp only [ruK, List.append_assoc, List.cons_append, List.nil_append] at h
    obtain ⟨r, f1, e1, h2, h3⟩ := ru_go (jn := jn) (an := an) (tv := tv) hf hl k (by omega) (by omega) h
    obtain ⟨m1, r1, e2, h4⟩ := Kd.wd h2
    obtain ⟨d1, d2, d3, d4, d5⟩ := does_at (hl _ (getD_mem' (d := pr0) (show k < l.length by omega)))
    have hp := plV_le l k
    have v1 := lvO_le (l.getD k pr0).2.1
    have v2 := lvO_le (l.getD k pr0).2.2
    have hcl : (clsP n).length = n := (name_at h1 h6 0).2.2
    obtain ⟨r2, x1, x2⟩ := eitherO_kd (wh := wholeI n) (known h1 h6) (exO (l.getD k pr0).2.1) (brO_le _) h4 (by decide) (by decide) (by decide) hp.1 (by omega)
    obtain ⟨m2, r3, rfl, x3⟩ := Kd.sg x2
    obtain ⟨r4, y1, y2⟩ := eitherO_kd (wh := wholeI n) (known h1 h6) (exO (l.getD k pr0).2.2) (brO_le _) x3 (by decide) (by decide) (by decide) (show 0 ≤ plV l k + (lvO (exO (l.getD k pr0).2.1) : Nat) by omega) (by omega)
    obtain ⟨m3, r5, rfl, y3⟩ := Kd.sg y2
    obtain ⟨f2, e3, g1, g2⟩ := line_go (s1 := ⟨r5, clsP n, jn, an, tv, ruV n l (k + 1), setsP n, plV l (k + 1)⟩) (ks := ks) e2 h3 (by
      unfold lineS
      rw [if_neg d2, if_neg d3, if_neg d4, if_neg d5, d1]
      simp only [ruleS, hcl]
      rw [if_neg (by rw [ruV_len]; omega)]
      simp only [x1, wantS, if_true, y1]
      rfl) y3
    exact ⟨r5, f2, e1.trans e3, g1, g2⟩
end
def planV (c j a : Int) (tr : List Int) (l : List PR) : List (List UInt8) × Int × Int × List Int × RL :=
  (clsP (cntP c), if j = 0 then 0 else bitsOf .or .u32 0 (jnV (cntP c) j), if j = 0 then 0 else bitsOf .or .u32 0 (jnV (cntP c) a), trV (cntP c) tr (min tr.length (cntP c)), ruV (cntP c) l (min l.length 10))
theorem plan_parse {c j a : Int} {tr : List Int} {l : List PR} (h : Pl c j a tr l) {t : List UInt8} (ht : t.length ≤ 4096) (hk : Kd (T t 0) (planK c j a tr l)) : parseS t = .inl (planV c j a tr l) := by
  have h1 := cntP_pos c
  have h6 := cntP_le c
  have hz := T_size (t := t) _ 0 (Nat.le_refl _) (by omega)
  unfold planK at hk
  obtain ⟨r1, f1, e1, k1, s1⟩ := head_go h6 (f := t.length + 1) hk (by omega)
  obtain ⟨r2, f2, e2, k2, s2⟩ := join_go h1 h6 k1 s1
  obtain ⟨r3, f3, e3, k3, s3⟩ := tr_go h1 h6 s2 (min tr.length (cntP c)) (Nat.min_le_right _ _) k2
  obtain ⟨r4, f4, e4, k4, s4⟩ := ru_go h1 h6 s3 (fun x hx => (h.hl x hx).1.1) (min l.length 10) (ks := []) (Nat.min_le_left _ _) (Nat.min_le_right _ _) (by rw [List.append_nil]; exact k3)
  obtain ⟨m, hm⟩ := Kd.nil k4
  dsimp only at hm
  subst hm
  obtain ⟨f5, rfl⟩ : ∃ f5, f4 = f5 + 1 := ⟨f4 - 1, by omega⟩
  have hall : allS (t.length + 1) (init (T t 0)) = .inl _ := ((e1.trans e2).trans e3).trans (e4.trans rfl)
  unfold parseS
  rw [if_neg (by omega), hall]
  rfl
end Go.Proofs.Ytnjdmbifjbahdaa.T
namespace Go.Proofs.Ytnjdmbifjbahdaa.T
open Go Go.Tv Go.Proofs
theorem lenD3 : lenD 3 = 99 := rfl
theorem exOT_len' {n : Nat} (h6 : n ≤ 6) (l : List Int) : (exOT n (exO l)).length ≤ 99 := by
  unfold exO
  split
  · exact Nat.zero_le _
  · exact Nat.le_trans (exT_len h6 _) (Nat.le_trans (lenD_le (rdE_D 3 _ _)) (Nat.le_of_eq lenD3))
theorem ruT_len' {n : Nat} (h6 : n ≤ 6) (b : List UInt8) (l : List PR) (k : Nat) : (ruT b n l k).length ≤ b.length + 208 * k := by
  induction k with
  | zero => exact Nat.le_refl _
  | succ k ih =>
    have h1 := wordT_len (l.getD k pr0).1
    have h2 := exOT_len' h6 (l.getD k pr0).2.1
    have h3 := exOT_len' h6 (l.getD k pr0).2.2
    simp only [ruT, List.length_append, List.length_cons, List.length_nil]; omega
theorem planT_len' (c j a : Int) (tr : List Int) (l : List PR) : (planT c j a tr l).length ≤ 2300 := by
  have h6 := cntP_le c
  have h1 := joinT_len h6 j a
  have h2 := trT_len (joinT (cntP c) j a) (cntP c) tr (min tr.length (cntP c))
  have h3 := ruT_len' h6 (trT (joinT (cntP c) j a) (cntP c) tr (min tr.length (cntP c))) l (min l.length 10)
  unfold planT
  have h4 : min l.length 10 ≤ 10 := Nat.min_le_right _ _
  have h5 : min tr.length (cntP c) ≤ cntP c := Nat.min_le_right _ _
  omega
theorem plan_Parse {c j a : Int} {tr : List Int} {l : List PR} (h : Pl c j a tr l) : rules_Parse (planT c j a tr l) = some (planV c j a tr l, 0, 0) := by
  rw [parseP, plan_parse h (Nat.le_trans (planT_len' c j a tr l) (by decide)) (plan_T h)]
  rfl
end Go.Proofs.Ytnjdmbifjbahdaa.T
namespace Go.Tv
open Go
def U64 (x : Int) : Prop := 0 ≤ x ∧ x < 18446744073709551616
def U32 (x : Int) : Prop := 0 ≤ x ∧ x < 4294967296
def bt (x : Int) (i : Nat) : Bool := x.toNat.testBit i
theorem or_u64 {x y : Int} (hx : U64 x) (hy : U64 y) : bitsOf .or .u64 x y = ((x.toNat ||| y.toNat : Nat) : Int) := by
  have e : (2 : Int) ^ 64 = 18446744073709551616 := by decide
  have e' : (2 : Nat) ^ 64 = 18446744073709551616 := by decide
  obtain ⟨h1, h2⟩ := hx
  obtain ⟨h3, h4⟩ := hy
  show IntKind.u64.wrap ((BitVec.ofInt IntKind.u64.bits x ||| BitVec.ofInt IntKind.u64.bits y).toNat : Int) = _
  rw [BitVec.toNat_or, ofInt_nat h1 (by show x < (2 : Int) ^ 64; omega), ofInt_nat h3 (by show y < (2 : Int) ^ 64; omega)]
  have := Nat.or_lt_two_pow (x := x.toNat) (y := y.toNat) (n := 64) (by omega) (by omega)
  rw [wrap_u64 (by omega) (by omega)]
theorem or_u32 {x y : Int} (hx : U32 x) (hy : U32 y) : bitsOf .or .u32 x y = ((x.toNat ||| y.toNat : Nat) : Int) := by
  have e : (2 : Int) ^ 32 = 4294967296 := by decide
  have e' : (2 : Nat) ^ 32 = 4294967296 := by decide
  obtain ⟨h1, h2⟩ := hx
  obtain ⟨h3, h4⟩ := hy
  show IntKind.u32.wrap ((BitVec.ofInt IntKind.u32.bits x ||| BitVec.ofInt IntKind.u32.bits y).toNat : Int) = _
  rw [BitVec.toNat_or, ofInt_nat h1 (by show x < (2 : Int) ^ 32; omega), ofInt_nat h3 (by show y < (2 : Int) ^ 32; omega)]
  have := Nat.or_lt_two_pow (x := x.toNat) (y := y.toNat) (n := 32) (by omega) (by omega)
  rw [wrap_u32 (by omega) (by omega)]
theorem U64.or {x y : Int} (hx : U64 x) (hy : U64 y) : U64 (bitsOf .or .u64 x y) := by
  rw [or_u64 hx hy]
  have e' : (2 : Nat) ^ 64 = 18446744073709551616 := by decide
  obtain ⟨h1, h2⟩ := hx
  obtain ⟨h3, h4⟩ := hy
  have := Nat.or_lt_two_pow (x := x.toNat) (y := y.toNat) (n := 64) (by omega) (by omega)
  exact ⟨by omega, by omega⟩
theorem U32.or {x y : Int} (hx : U32 x) (hy : U32 y) : U32 (bitsOf .or .u32 x y) := by
  rw [or_u32 hx hy]
  have e' : (2 : Nat) ^ 32 = 4294967296 := by decide
  obtain ⟨h1, h2⟩ := hx
  obtain ⟨h3, h4⟩ := hy
  have := Nat.or_lt_two_pow (x := x.toNat) (y := y.toNat) (n := 32) (by omega) (by omega)
  exact ⟨by omega, by omega⟩
theorem bt_or {x y : Int} (hx : U64 x) (hy : U64 y) (i : Nat) : bt (bitsOf .or .u64 x y) i = (bt x i || bt y i) := by
  rw [or_u64 hx hy]; simp only [bt, Int.toNat_natCast, Nat.testBit_or]
theorem bt_lt {x : Int} (hx : U64 x) {i : Nat} (hi : 64 ≤ i) : bt x i = false := by
  have e' : (2 : Nat) ^ 64 = 18446744073709551616 := by decide
  obtain ⟨h1, h2⟩ := hx
  exact Nat.testBit_lt_two_pow (Nat.lt_of_lt_of_le (show x.toNat < 2 ^ 64 by omega) (Nat.pow_le_pow_right (by decide) hi))
theorem bt_ext {x y : Int} (hx : 0 ≤ x) (hy : 0 ≤ y) (h : ∀ i, bt x i = bt y i) : x = y := by
  have : x.toNat = y.toNat := Nat.eq_of_testBit_eq h
  omega
theorem fdiv_pow {x : Int} (h : 0 ≤ x) (k : Nat) : Int.fdiv x (2 ^ k) = ((x.toNat >>> k : Nat) : Int) := by
  rw [Int.fdiv_eq_ediv_of_nonneg _ (Int.pow_nonneg (by decide)), Nat.shiftRight_eq_div_pow]
  have : x = ((x.toNat : Nat) : Int) := by omega
  rw [this]
  push_cast
  rw [Int.toNat_natCast]
theorem mod_u32 {x : Int} (hx : U32 x) {k : Nat} (hk : k < 32) : (Int.tmod (Int.fdiv x (2 ^ (min k IntKind.u32.bits))) 2 == 1) = bt x k := by
  have hb : IntKind.u32.bits = 32 := rfl
  rw [hb, Nat.min_eq_left (by omega), fdiv_pow hx.1]
  simp only [bt, Nat.testBit]
  rw [Int.tmod_eq_emod_of_nonneg (Int.natCast_nonneg _)]
  have := Nat.and_one_is_mod (x.toNat >>> k)
  rw [Nat.and_comm] at this
  generalize x.toNat >>> k = m at this
  rcases Nat.mod_two_eq_zero_or_one m with h | h
  · have e : ((m : Nat) : Int) % 2 = 0 := by omega
    rw [this, h, e]; rfl
  · have e : ((m : Nat) : Int) % 2 = 1 := by omega
    rw [this, h, e]; rfl
theorem U64.pow {k : Nat} (hk : k < 64) : U64 ((2 ^ k : Nat) : Int) := by
  have e' : (2 : Nat) ^ 64 = 18446744073709551616 := by decide
  have := Nat.pow_lt_pow_right (a := 2) (by decide) hk
  generalize 2 ^ k = m at this
  exact ⟨by omega, by omega⟩
theorem U32.pow {k : Nat} (hk : k < 32) : U32 ((2 ^ k : Nat) : Int) := by
  have e' : (2 : Nat) ^ 32 = 4294967296 := by decide
  have := Nat.pow_lt_pow_right (a := 2) (by decide) hk
  generalize 2 ^ k = m at this
  exact ⟨by omega, by omega⟩
theorem bt_pow (k i : Nat) : bt ((2 ^ k : Nat) : Int) i = decide (k = i) := by
  simp only [bt, Int.toNat_natCast]; exact Nat.testBit_two_pow
end Go.Tv
