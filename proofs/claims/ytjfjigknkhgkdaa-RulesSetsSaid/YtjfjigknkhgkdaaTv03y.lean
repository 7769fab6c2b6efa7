/- RulesSets: a set of names, of sets, of all but some, is its classes, wherever it stands. -/
import Derived.Test.YtjfjigknkhgkdaaTv03v
import Derived.Test.YtjfjigknkhgkdaaTv03a
import Derived.Test.YtjfjigknkhgkdaaTvT03xRulesSets
namespace Go.Proofs.Ytjfjigknkhgkdaa.T
open Go Go.Tv Go.Proofs
theorem bits6_ok : ((List.range 256).all fun b => (List.range 6).all fun k => ((bitsOf .and .u8 (Int.fdiv (b : Int) (2 ^ (min (k : Int).toNat IntKind.u8.bits))) (1 : Int) == (1 : Int)) == decide (b / 2 ^ k % 2 = 1))
    && (bytesOf [(IntKind.u8.wrap (IntKind.i64.wrap ((65 : Int) + (k : Int))))] == [nmB 6 k])) = true := by kernel_rfl
theorem bits6 {b k : Nat} (hb : b < 256) (hk : k < 6) : (bitsOf .and .u8 (Int.fdiv (b : Int) (2 ^ (min (k : Int).toNat IntKind.u8.bits))) (1 : Int) == (1 : Int)) = decide (b / 2 ^ k % 2 = 1) ∧ bytesOf [(IntKind.u8.wrap (IntKind.i64.wrap ((65 : Int) + (k : Int))))] = [nmB 6 k] := by
  have a := List.all_eq_true.mp (List.all_eq_true.mp bits6_ok b (List.mem_range.mpr hb)) k (List.mem_range.mpr hk)
  simpa using a
theorem names6 {b : Nat} (hb : b < 256) : lq_RulesSets_1 (b : Int) = some (namesT 6 b 6) := by
  unfold lq_RulesSets_1
  have hi : iter (lq_RulesSets_1_L1 (b : Int)) (namesT 6 b 0, ((0 : Nat) : Int)) = some (namesT 6 b 6) := by
    refine iter_count (fun k : Nat => (namesT 6 b k, (k : Int))) 6 (fun k hk => ?_) ?_
    · have hl := namesT_len 6 b k
      obtain ⟨e1, e2⟩ := bits6 hb hk
      unfold lq_RulesSets_1_L1
      simp only [e1, e2]
      rw [if_pos (by simp; omega), if_pos (by omega)]
      simp only [namesT, decide_eq_true_eq]
      by_cases hbit : b / 2 ^ k % 2 = 1
      · rw [if_pos hbit, if_pos hbit, if_pos (by simp), if_pos (by simp; omega), wrap_i64 (by omega) (by omega)]
        rfl
      · rw [if_neg hbit, if_neg hbit, wrap_i64 (by omega) (by omega), List.append_nil]
        rfl
    · unfold lq_RulesSets_1_L1
      simp only []
      rw [if_neg (by decide)]
  rw [show iter (lq_RulesSets_1_L1 (b : Int)) ([], 0) = _ from hi]
  rfl
section
variable {wh : Int} {sets : Sets}
theorem th_set {E : Option (Int → Toks → TR)} {neg : Bool} {ws : List (List UInt8)} {ts : Toks} {pl : Int} {ks} (h : Kd ts (.s 91 :: ((if neg then [.s 94] else []) ++ (ws.map .w ++ .s 93 :: ks)))) (hk : ∀ w ∈ ws, ∃ x, look sets w = some x) (hp : pl + 1 ≤ 200) :
    ∃ r, thingS E wh sets pl ts = .inl (.node 1 (if neg then bitsOf .andNot .u32 wh (setV sets ws 0) else setV sets ws 0) [], r, pl + 1) ∧ Kd r ks ∧ isTh ts = true := by
  cases neg with
  | true =>
    obtain ⟨m, r, rfl, h2⟩ := Kd.sg h
    obtain ⟨m2, r2, rfl, h3⟩ := Kd.sg (show Kd r (.s 94 :: (ws.map .w ++ .s 93 :: ks)) from h2)
    obtain ⟨r3, h4, h5⟩ := listS_kd (b := 0) ws h3 hk
    refine ⟨r3, ?_, h5, rfl⟩
    simp only [thingS]
    rw [if_neg (by decide), if_neg (by omega), if_neg (by decide)]
    simp only [signS, if_true, h4]
  | false =>
    obtain ⟨m, r, rfl, h2⟩ := Kd.sg h
    have h2' : Kd r (ws.map .w ++ .s 93 :: ks) := h2
    obtain ⟨r3, h4, h5⟩ := listS_kd (b := 0) ws h2' hk
    have hs : signS 94 r = .inl (false, r) := by
      match ws, h2' with
      | [], h2 => obtain ⟨m2, r2, rfl, _⟩ := Kd.sg h2; rfl
      | w :: ws, h2 => obtain ⟨m2, r2, rfl, _⟩ := Kd.wd (show Kd r (.w w :: _) from h2); rfl
    refine ⟨r3, ?_, h5, rfl⟩
    simp only [thingS]
    rw [if_neg (by decide), if_neg (by omega), if_neg (by decide), hs]
    simp only [h4]
theorem th_nm {E : Option (Int → Toks → TR)} {w : List UInt8} {x : Int} {ts : Toks} {pl : Int} {ks} (h : Kd ts (.w w :: ks)) (hk : look sets w = some x) (hp : pl + 1 ≤ 200) : ∃ r, thingS E wh sets pl ts = .inl (.node 1 x [], r, pl + 1) ∧ Kd r ks ∧ isTh ts = true := by
  obtain ⟨m, r, rfl, h2⟩ := Kd.wd h
  refine ⟨r, ?_, h2, rfl⟩
  simp only [thingS]
  rw [if_neg (by omega), hk]
theorem th_any {E : Option (Int → Toks → TR)} {ts : Toks} {pl : Int} {ks} (h : Kd ts (.s 46 :: ks)) (hp : pl + 1 ≤ 200) : ∃ r, thingS E wh sets pl ts = .inl (.node 1 wh [], r, pl + 1) ∧ Kd r ks ∧ isTh ts = true := by
  obtain ⟨m, r, rfl, h2⟩ := Kd.sg h
  refine ⟨r, ?_, h2, rfl⟩
  simp only [thingS]
  rw [if_neg (by decide), if_neg (by omega)]
  rfl
theorem either_one {d : Nat} {ts : Toks} {pl p : Int} {x : Tree} {c ks} (h : ∃ r, thingS (Eo wh sets d) wh sets pl ts = .inl (x, r, p) ∧ Kd r (.s c :: ks) ∧ isTh ts = true) (hc : c ≠ 40 ∧ c ≠ 91 ∧ c ≠ 46) (hp : c ≠ 42 ∧ c ≠ 43 ∧ c ≠ 63) (h124 : c ≠ 124) :
    ∃ r, eitherS wh sets d pl ts = .inl (x, r, p) ∧ Kd r (.s c :: ks) := by
  obtain ⟨r, h1, h2, h3⟩ := h
  have ho := often_no h1 h2 (show NPo (.s c :: ks) from hp)
  have hsz := oftenS_size (eo_less d) ho
  refine ⟨r, ?_, h2⟩
  have hr : rowT (Eo wh sets d) wh sets pl ts = .inl (x, r, p) := by
    unfold rowT
    rw [row_step ho h3]
    match hts : ts.size, hsz with
    | k + 1, _ => rw [row_stop h2 hc]; rfl
  obtain ⟨m, r', rfl, h5⟩ := Kd.sg h2
  rw [eitherS_eq]
  simp only [eithS, hr, altS, signS, if_neg h124, altOf]
end
theorem look_app : ∀ {m l : Sets} {w : List UInt8} {x : Int}, look m w = some x → look (m ++ l) w = some x
  | [], _, _, _, h => by cases h
  | p :: m, l, w, x, h => by
    simp only [look, mfind, List.cons_append] at h ⊢
    split
    · rename_i hk; rw [if_pos hk] at h; exact h
    · rename_i hk; rw [if_neg hk] at h; exact look_app h
theorem setV_app {m l : Sets} : ∀ (ws : List (List UInt8)) (b : Int), (∀ w ∈ ws, ∃ x, look m w = some x) → setV (m ++ l) ws b = setV m ws b
  | [], _, _ => rfl
  | w :: ws, b, h => by
    obtain ⟨x, hx⟩ := h w (by simp)
    have : nmV (m ++ l) w = nmV m w := by simp only [nmV, hx, look_app hx]
    have ih := setV_app (m := m) (l := l) ws (bitsOf .or .u32 b (nmV m w)) (fun y hy => h y (by simp [hy]))
    simp only [setV, List.foldl_cons, this] at ih ⊢
    exact ih
theorem val6_ok : ((List.range 256).all fun a => setV (setsP 6) (namesW 6 a 6) 0 == bitsOf .and .u32 (IntKind.u32.wrap (a : Int)) 63 && decide (0 ≤ bitsOf .and .u32 (IntKind.u32.wrap (a : Int)) 63) && decide (bitsOf .and .u32 (IntKind.u32.wrap (a : Int)) 63 < 64)) = true := by kernel_rfl
theorem val6 {a : Nat} (h : a < 256) : setV (setsP 6) (namesW 6 a 6) 0 = bitsOf .and .u32 (IntKind.u32.wrap (a : Int)) 63 ∧ 0 ≤ bitsOf .and .u32 (IntKind.u32.wrap (a : Int)) 63 ∧ bitsOf .and .u32 (IntKind.u32.wrap (a : Int)) 63 < 64 := by
  have := List.all_eq_true.mp val6_ok a (List.mem_range.mpr h)
  simp only [Bool.and_eq_true, beq_iff_eq, decide_eq_true_eq] at this
  exact ⟨this.1.1, this.1.2, this.2⟩
theorem or64_ok : ((List.range 64).all fun x => (List.range 64).all fun y => bitsOf .or .u32 (y : Int) (x : Int) == bitsOf .or .u32 (x : Int) (y : Int) && bitsOf .or .u32 (bitsOf .or .u32 0 (x : Int)) (bitsOf .or .u32 (y : Int) (x : Int)) == bitsOf .or .u32 (x : Int) (y : Int)) = true := by kernel_rfl
theorem or64 {x y : Int} (hx : 0 ≤ x ∧ x < 64) (hy : 0 ≤ y ∧ y < 64) : bitsOf .or .u32 y x = bitsOf .or .u32 x y ∧ bitsOf .or .u32 (bitsOf .or .u32 0 x) (bitsOf .or .u32 y x) = bitsOf .or .u32 x y := by
  obtain ⟨a, rfl⟩ := Int.eq_ofNat_of_zero_le hx.1
  obtain ⟨b, rfl⟩ := Int.eq_ofNat_of_zero_le hy.1
  have h := List.all_eq_true.mp (List.all_eq_true.mp or64_ok a (List.mem_range.mpr (by omega))) b (List.mem_range.mpr (by omega))
  simp only [Bool.and_eq_true, beq_iff_eq] at h
  exact h
def pre6 : List UInt8 := [99, 108, 97, 115, 115, 32, 65, 32, 66, 32, 67, 32, 68, 32, 69, 32, 70, 59, 32, 115, 101, 116, 32, 83, 32, 61]
def s1T : List UInt8 := [59, 32, 115, 101, 116, 32, 84, 32, 61]
def s2T : List UInt8 := [32, 83, 59, 32, 107, 101, 101, 112, 32, 91]
def s3T : List UInt8 := [32, 83, 32, 84, 93, 32, 47, 32, 84, 59, 32, 109, 97, 121, 32, 83, 32, 47, 32, 46, 32, 59]
def sgT (neg : Bool) : List UInt8 := if neg then [94] else []
def sgK (neg : Bool) : List K := if neg then [.s 94] else []
def setsT (a b : Nat) (neg : Bool) : List UInt8 := pre6 ++ namesT 6 a 6 ++ s1T ++ namesT 6 b 6 ++ s2T ++ sgT neg ++ s3T
def setsK (a b : Nat) (neg : Bool) : List K :=
  .w [99, 108, 97, 115, 115] :: ((clsP 6).map .w ++ .s 59 :: .w [115, 101, 116] :: .w [83] :: .s 61 :: ((namesW 6 a 6).map .w ++ .s 59 :: .w [115, 101, 116] :: .w [84] :: .s 61 :: ((namesW 6 b 6 ++ [[83]]).map .w ++ .s 59 :: .w [107, 101, 101, 112] :: .s 91 :: (sgK neg ++ ([([83] : List UInt8), [84]].map .w ++ .s 93 :: .s 47 :: .w [84] :: .s 59 :: .w [109, 97, 121] :: .w [83] :: .s 47 :: .s 46 :: .s 59 :: [])))))
theorem Px_pre6 : Px pre6 (.w [99, 108, 97, 115, 115] :: ((clsP 6).map .w ++ [.s 59, .w [115, 101, 116], .w [83], .s 61])) := by
  obtain ⟨c32, _, _, _, _, _, _, _, _, _, _, _, c59, _, c61⟩ := Px_ch
  have w1 := Px_word (w := [115, 101, 116]) (by simp) (by decide)
  have w2 := Px_word (w := [83]) (by simp) (by decide)
  have h1 := (c59.app c32).app (w1.app (w2.app c61))
  have h2 := (Qx_names (n := 6) (by decide) (by decide) 255 6).1.app (c := 59) (y' := _) rfl (by decide) h1
  have h3 := (Qx_wd (w := [99, 108, 97, 115, 115]) (by simp) (by decide)).app (c := 32) (y' := _) rfl (by decide) h2
  exact h3
theorem Px_s1 : Px s1T [.s 59, .w [115, 101, 116], .w [84], .s 61] := by
  obtain ⟨c32, _, _, _, _, _, _, _, _, _, _, _, c59, _, c61⟩ := Px_ch
  have w1 := Px_word (w := [115, 101, 116]) (by simp) (by decide)
  have w2 := Px_word (w := [84]) (by simp) (by decide)
  exact (c59.app c32).app (w1.app (w2.app c61))
theorem Px_s2 : Px s2T [.w [83], .s 59, .w [107, 101, 101, 112], .s 91] := by
  obtain ⟨c32, _, _, _, c91, _, _, _, _, _, _, _, c59, _, _⟩ := Px_ch
  have w1 := Px_word (w := [107, 101, 101, 112]) (by simp) (by decide)
  have h1 := (Qx_wd (w := [83]) (by simp) (by decide)).app (c := 59) (y' := _) rfl (by decide) ((c59.app c32).app (w1.app c91))
  exact c32.app h1
theorem Px_s3 : Px s3T [.w [83], .w [84], .s 93, .s 47, .w [84], .s 59, .w [109, 97, 121], .w [83], .s 47, .s 46, .s 59] := by
  obtain ⟨c32, _, _, _, _, c93, _, _, _, _, _, c46, c59, c47, _⟩ := Px_ch
  have w0 := Px_word (w := [83]) (by simp) (by decide)
  have w1 := Px_word (w := [109, 97, 121]) (by simp) (by decide)
  have h1 := (c59.app c32).app (w1.app (w0.app ((c47.app c32).app ((c46.app c32).app c59))))
  have h2 := (Qx_wd (w := [84]) (by simp) (by decide)).app (c := 59) (y' := _) rfl (by decide) h1
  have h3 := (Qx_wd (w := [84]) (by simp) (by decide)).app (c := 93) (y' := _) rfl (by decide) ((c93.app c32).app ((c47.app c32).app h2))
  exact c32.app (w0.app h3)
theorem Px_sets (a b : Nat) (neg : Bool) : Px (setsT a b neg) (setsK a b neg) := by
  obtain ⟨_, _, _, _, _, _, c94, _⟩ := Px_ch
  have hs : Px (sgT neg) (sgK neg) := by
    cases neg
    · exact Px_nil
    · exact c94
  have h2 := (Qx_names (n := 6) (by decide) (by decide) b 6).1.app (c := 32) (y' := _) rfl (by decide) (Px_s2.app (hs.app Px_s3))
  have h3 := (Qx_names (n := 6) (by decide) (by decide) a 6).1.app (c := 59) (y' := _) rfl (by decide) (Px_s1.app h2)
  have h4 := Px_pre6.app h3
  unfold setsT setsK
  simp only [List.append_assoc, List.map_append, List.map_cons, List.map_nil, List.cons_append, List.nil_append] at h4 ⊢
  exact h4
theorem sets_T (a b : Nat) (neg : Bool) : Kd (T (setsT a b neg) 0) (setsK a b neg) := by
  have := Px_sets a b neg [] [] Lx_nil 0
  rw [List.append_nil, List.append_nil] at this
  exact this
theorem setsT_len (a b : Nat) (neg : Bool) : (setsT a b neg).length ≤ 200 := by
  have h1 := namesT_len 6 a 6
  have h2 := namesT_len 6 b 6
  have h3 : (sgT neg).length ≤ 1 := by cases neg <;> decide
  have e1 : pre6.length = 26 := rfl
  have e2 : s1T.length = 9 := rfl
  have e3 : s2T.length = 10 := rfl
  have e4 : s3T.length = 22 := rfl
  unfold setsT
  simp only [List.length_append]
  omega
def setsV (a b : Nat) (neg : Bool) (x y : Int) : RL :=
  [(0, .node 1 (if neg then bitsOf .andNot .u32 (wholeI 6) (bitsOf .or .u32 (bitsOf .or .u32 0 x) y) else bitsOf .or .u32 (bitsOf .or .u32 0 x) y) [], .node 1 y []), (1, .node 1 x [], .node 1 (wholeI 6) [])]
theorem sets_parse (a b : Nat) (neg : Bool) {x y : Int} (hx : x = setV (setsP 6) (namesW 6 a 6) 0) (hy : y = bitsOf .or .u32 (setV (setsP 6) (namesW 6 b 6) 0) x) : parseS (setsT a b neg) = .inl (clsP 6, 0, 0, t0P 6, setsV a b neg x y) := by
  have hk := sets_T a b neg
  have hlen := setsT_len a b neg
  generalize setsT a b neg = t at hk hlen
  have hz := T_size (t := t) _ 0 (Nat.le_refl _) (by omega)
  have kn : ∀ b, ∀ w ∈ namesW 6 b 6, ∃ x, look (setsP 6) w = some x := fun b w hw => by
    obtain ⟨i, rfl⟩ := namesW_mem hw
    exact known (by decide) (by decide) i
  unfold setsK at hk
  -- the classes
  have hk' : Kd (T t 0) (headK 6 ++ (.w [115, 101, 116] :: .w [83] :: .s 61 :: ((namesW 6 a 6).map .w ++ .s 59 :: .w [115, 101, 116] :: .w [84] :: .s 61 :: ((namesW 6 b 6 ++ [[83]]).map .w ++ .s 59 :: .w [107, 101, 101, 112] :: .s 91 :: (sgK neg ++ ([([83] : List UInt8), [84]].map .w ++ .s 93 :: .s 47 :: .w [84] :: .s 59 :: .w [109, 97, 121] :: .w [83] :: .s 47 :: .s 46 :: .s 59 :: [])))))) := by
    unfold headK
    simp only [List.cons_append, List.append_assoc, List.nil_append]
    exact hk
  obtain ⟨r1, f1, e1, k1, z1⟩ := head_go (n := 6) (by decide) (f := t.length + 1) hk' (by omega)
  -- the first set
  obtain ⟨m2, r2, t2, k2⟩ := Kd.wd k1
  obtain ⟨m3, r3, rfl, k3⟩ := Kd.wd k2
  obtain ⟨m4, r4, rfl, k4⟩ := Kd.sg k3
  obtain ⟨r5, g5, k5⟩ := listS_kd (b := 0) (namesW 6 a 6) k4 (kn a)
  have n83 : look (setsP 6) [83] = none := by kernel_rfl
  obtain ⟨f6, e6, k6, z6⟩ := line_go (s1 := ⟨r5, clsP 6, 0, 0, t0P 6, [], setsP 6 ++ [([83], x)], 0⟩) t2 z1 (by
    unfold lineS
    rw [if_neg (by decide), if_pos rfl]
    simp only [setS, freshS, wordS, n83, wantS, if_true, g5]
    rw [hx]) k5
  -- the second
  obtain ⟨m7, r7, t7, k7⟩ := Kd.wd k6
  obtain ⟨m8, r8, rfl, k8⟩ := Kd.wd k7
  obtain ⟨m9, r9, rfl, k9⟩ := Kd.sg k8
  have lS : look (setsP 6 ++ [([83], x)]) [83] = some x := by kernel_rfl
  have n84 : look (setsP 6 ++ [([83], x)]) [84] = none := by kernel_rfl
  obtain ⟨r10, g10, k10⟩ := listS_kd (sets := setsP 6 ++ [([83], x)]) (b := 0) (namesW 6 b 6 ++ [[83]]) k9 (fun w hw => by
    rcases List.mem_append.mp hw with h | h
    · obtain ⟨v, hv⟩ := kn b w h
      exact ⟨v, look_app hv⟩
    · cases List.mem_singleton.mp h; exact ⟨x, lS⟩)
  have hv10 : setV (setsP 6 ++ [([83], x)]) (namesW 6 b 6 ++ [[83]]) 0 = y := by
    have e : setV (setsP 6 ++ [([83], x)]) (namesW 6 b 6 ++ [[83]]) 0 = bitsOf .or .u32 (setV (setsP 6 ++ [([83], x)]) (namesW 6 b 6) 0) (nmV (setsP 6 ++ [([83], x)]) [83]) := by
      simp only [setV, List.foldl_append, List.foldl_cons, List.foldl_nil]
    rw [e, setV_app _ _ (kn b), hy]
    simp only [nmV, lS, Option.getD_some]
  rw [hv10] at g10
  obtain ⟨f11, e11, k11, z11⟩ := line_go (s1 := ⟨r10, clsP 6, 0, 0, t0P 6, [], setsP 6 ++ [([83], x)] ++ [([84], y)], 0⟩) t7 z6 (by
    unfold lineS
    rw [if_neg (by decide), if_pos rfl]
    simp only [setS, freshS, wordS, n84, wantS, if_true, g10]) k10
  -- the first rule
  have lS2 : look (setsP 6 ++ [([83], x)] ++ [([84], y)]) [83] = some x := look_app lS
  have lT2 : look (setsP 6 ++ [([83], x)] ++ [([84], y)]) [84] = some y := by kernel_rfl
  generalize hsets : setsP 6 ++ [([83], x)] ++ [([84], y)] = st at e11 k11 z11 lS2 lT2
  have hcl : (clsP 6).length = 6 := rfl
  obtain ⟨m12, r12, t12, k12⟩ := Kd.wd k11
  obtain ⟨r13, g13, k13⟩ := either_one (d := 16) (wh := wholeI 6) (sets := st) (pl := 0) (th_set (neg := neg) (ws := [([83] : List UInt8), [84]]) (by unfold sgK at k12; exact k12) (fun w hw => by
    rcases List.mem_cons.mp hw with h | h
    · subst h; exact ⟨_, lS2⟩
    · cases List.mem_singleton.mp h; exact ⟨_, lT2⟩) (by decide)) (by decide) (by decide) (by decide)
  obtain ⟨m14, r14, rfl, k14⟩ := Kd.sg k13
  obtain ⟨r15, g15, k15⟩ := either_one (d := 16) (wh := wholeI 6) (sets := st) (pl := 0 + 1) (th_nm k14 lT2 (by decide)) (by decide) (by decide) (by decide)
  obtain ⟨m16, r16, rfl, k16⟩ := Kd.sg k15
  have hsv : setV st [([83] : List UInt8), [84]] 0 = bitsOf .or .u32 (bitsOf .or .u32 0 x) y := by
    simp only [setV, List.foldl_cons, List.foldl_nil, nmV, lS2, lT2, Option.getD_some]
  rw [hsv] at g13
  obtain ⟨f17, e17, k17, z17⟩ := line_go (s1 := ⟨r16, clsP 6, 0, 0, t0P 6, [(setsV a b neg x y).head (by simp [setsV])], st, 0 + 1 + 1⟩) t12 z11 (by
    unfold lineS
    rw [if_neg (by decide), if_neg (by decide), if_neg (by decide), if_neg (by decide)]
    simp only [does?, if_true, ruleS, hcl, g13, wantS, g15]
    rfl) k16
  -- the second rule
  obtain ⟨m18, r18, t18, k18⟩ := Kd.wd k17
  obtain ⟨r19, g19, k19⟩ := either_one (d := 16) (wh := wholeI 6) (sets := st) (pl := 0 + 1 + 1) (th_nm k18 lS2 (by decide)) (by decide) (by decide) (by decide)
  obtain ⟨m20, r20, rfl, k20⟩ := Kd.sg k19
  obtain ⟨r21, g21, k21⟩ := either_one (d := 16) (wh := wholeI 6) (sets := st) (pl := 0 + 1 + 1 + 1) (th_any k20 (by decide)) (by decide) (by decide) (by decide)
  obtain ⟨m22, r22, rfl, k22⟩ := Kd.sg k21
  obtain ⟨f23, e23, k23, z23⟩ := line_go (s1 := ⟨r22, clsP 6, 0, 0, t0P 6, setsV a b neg x y, st, 0 + 1 + 1 + 1 + 1⟩) t18 z17 (by
    unfold lineS
    rw [if_neg (by decide), if_neg (by decide), if_neg (by decide), if_neg (by decide)]
    have hd : does? [109, 97, 121] = some 1 := rfl
    simp only [hd, ruleS, hcl, g19, wantS, if_true, g21]
    rfl) k22
  obtain ⟨m, hm⟩ := Kd.nil k23
  dsimp only at hm
  subst hm
  obtain ⟨f5, rfl⟩ : ∃ f5, f23 = f5 + 1 := ⟨f23 - 1, by omega⟩
  have hall : allS (t.length + 1) (init (T t 0)) = .inl _ := (((e1.trans e6).trans e11).trans e17).trans (e23.trans rfl)
  unfold parseS
  rw [if_neg (by omega), hall]
theorem sets_law (a b : Nat) (ha : a < 256) (hb : b < 256) (neg : Bool) : lq_RulesSets (a : Int) (b : Int) neg = some true := by
  obtain ⟨v1, v2, v3⟩ := val6 ha
  obtain ⟨w1, w2, w3⟩ := val6 hb
  have hp := sets_parse a b neg rfl rfl
  rw [v1, w1] at hp
  unfold lq_RulesSets
  rw [awake03]
  simp only [Option.bind_some, Bool.not_true, Bool.false_eq_true, if_false]
  obtain ⟨o1, o2⟩ := or64 ⟨v2, v3⟩ ⟨w2, w3⟩
  generalize bitsOf .and .u32 (IntKind.u32.wrap (a : Int)) 63 = x at hp o1 o2 ⊢
  generalize bitsOf .and .u32 (IntKind.u32.wrap (b : Int)) 63 = y at hp o1 o2 ⊢
  have hsel : (if neg = true then some ((([94] : List UInt8), (bitsOf .andNot .u32 (63 : Int) (bitsOf .or .u32 x y)))) else some ((([] : List UInt8), (bitsOf .or .u32 x y)))) = some (sgT neg, if neg then bitsOf .andNot .u32 (63 : Int) (bitsOf .or .u32 x y) else bitsOf .or .u32 x y) := by
    cases neg <;> rfl
  rw [hsel, names6 ha, names6 hb]
  simp only [Option.bind_some]
  have h1 := namesT_len 6 a 6
  have h2 := namesT_len 6 b 6
  have h3 : (sgT neg).length ≤ 1 := by cases neg <;> decide
  rw [if_pos (by simp; omega), if_pos (by simp; omega), if_pos (by simp; omega), if_pos (by simp; omega), if_pos (by simp; omega), if_pos (by simp; omega)]
  change ((rules_Parse (setsT a b neg)).bind _) = _
  rw [parseP, hp]
  simp only [answer, Option.bind_some, setsV]
  have e63 : wholeI 6 = 63 := by kernel_rfl
  rw [o1] at o2
  simp only [o1, e63, Tree.op, Tree.set, List.length_cons, List.length_nil]
  cases neg <;> simp [o2]
abbrev rulesSets_Ts : List Ty := [(.int .u8), (.int .u8), .bool]
theorem rulesSets_all (x : Tup rulesSets_Ts) (hx : WfT rulesSets_Ts x) : lq_RulesSets x.1 x.2.1 x.2.2.1 = some true := by
  obtain ⟨a, b, neg, u⟩ := x
  have key : ∀ (a b : Int), 0 ≤ a → a ≤ 255 → 0 ≤ b → b ≤ 255 → lq_RulesSets a b neg = some true := fun a b h1 h2 h3 h4 => by
    obtain ⟨a, rfl⟩ := Int.eq_ofNat_of_zero_le h1
    obtain ⟨b, rfl⟩ := Int.eq_ofNat_of_zero_le h3
    exact sets_law a b (by omega) (by omega) neg
  exact key a b hx.1.1 hx.1.2 hx.2.1.1 hx.2.1.2
end Go.Proofs.Ytjfjigknkhgkdaa.T
