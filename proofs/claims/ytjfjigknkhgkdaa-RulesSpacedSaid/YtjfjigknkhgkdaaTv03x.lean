/- RulesSpaced: blanks and remarks between pieces change nothing. -/
import Derived.Test.YtjfjigknkhgkdaaTv03w
import Derived.Test.YtjfjigknkhgkdaaTv03n
import Derived.Test.YtjfjigknkhgkdaaTvT03xRulesSpaced
namespace Go.Proofs.Ytjfjigknkhgkdaa.T
open Go Go.Tv Go.Proofs
theorem Kd_at : ∀ (l : List UInt8) (m : Option Nat) (n n' : Nat) (ks : List K), Kd (tk m l n) ks → Kd (tk m l n') ks
  | [], none, n, n', ks, h => by cases ks with
    | nil => trivial
    | cons k ks => exact h.elim
  | [], some _, n, n', ks, h => by cases ks with
    | nil => trivial
    | cons k ks => exact h.elim
  | c :: r, none, n, n', ks, h => by
    simp only [tk] at h ⊢
    split at h
    · rename_i hc; rw [if_pos hc]; exact Kd_at r _ _ _ _ h
    · rename_i hc; rw [if_neg hc]; exact Kd_at r _ _ _ _ h
  | c :: r, some (k + 1), n, n', ks, h => by
    simp only [tk] at h ⊢
    exact Kd_at r _ _ _ _ h
  | c :: r, some 0, n, n', ks, h => by
    simp only [tk] at h ⊢
    by_cases h35 : c.toNat = 35
    · rw [if_pos h35] at h ⊢; exact Kd_at r _ _ _ _ h
    · rw [if_neg h35] at h ⊢
      by_cases hb : blaN c.toNat = true
      · rw [if_pos hb] at h ⊢; exact Kd_at r _ _ _ _ h
      · rw [if_neg hb] at h ⊢
        by_cases hl : letN c.toNat = true
        · rw [if_pos hl] at h ⊢
          cases ks with
          | nil => exact h.elim
          | cons k ks =>
            cases k with
            | w x => exact ⟨h.1, Kd_at r _ _ _ _ h.2⟩
            | s d => exact h.elim
        · rw [if_neg hl] at h ⊢
          by_cases hs : sgnN c.toNat = true
          · rw [if_pos hs] at h ⊢
            cases ks with
            | nil => exact h.elim
            | cons k ks =>
              cases k with
              | w x => exact h.elim
              | s d => exact ⟨h.1, Kd_at r _ _ _ _ h.2⟩
          · rw [if_neg hs] at h; exact h.elim
def isSp (c : UInt8) : Bool := c.toNat == 32 || c.toNat == 59 || c.toNat == 40
def tw (fill : List UInt8) : List UInt8 → List UInt8
  | [] => []
  | c :: r => (c :: if isSp c then fill else []) ++ tw fill r
theorem tw_app (fill : List UInt8) : ∀ (x y : List UInt8), tw fill (x ++ y) = tw fill x ++ tw fill y
  | [], _ => rfl
  | c :: x, y => by simp only [List.cons_append, tw, tw_app fill x y, List.append_assoc]
theorem tw_len {fill : List UInt8} (hf : fill.length ≤ 20) : ∀ x : List UInt8, (tw fill x).length ≤ 21 * x.length
  | [] => Nat.le_refl _
  | c :: x => by
    have := tw_len hf x
    simp only [tw, List.length_append, List.length_cons]
    split
    · omega
    · simp only [List.length_nil]; omega
theorem tw_let {fill : List UInt8} : ∀ {w : List UInt8}, (∀ c ∈ w, letN c.toNat = true) → tw fill w = w
  | [], _ => rfl
  | c :: w, h => by
    have hc : isSp c = false := by
      have h1 := h c (by simp)
      cases hh : isSp c with
      | false => rfl
      | true =>
        simp only [isSp, Bool.or_eq_true, beq_iff_eq] at hh
        rcases hh with (hh | hh) | hh <;> rw [hh] at h1 <;> cases h1
    simp only [tw, hc, Bool.false_eq_true, if_false, tw_let (w := w) (fun x hx => h x (by simp [hx]))]
    rfl
def NH (l : List UInt8) : Prop := ∀ c ∈ l, c.toNat ≠ 35
theorem NH.app {x y : List UInt8} (h1 : NH x) (h2 : NH y) : NH (x ++ y) := fun c hc => by
  rcases List.mem_append.mp hc with h | h
  · exact h1 c h
  · exact h2 c h
theorem tw_lx {fill : List UInt8} (hf : Px fill []) : ∀ (m : Nat) (l : List UInt8) (ks : List K), l.length ≤ m → NH l → Lx l ks → Lx (tw fill l) ks
  | 0, l, ks, hm, _, h => by
    cases l with
    | nil => exact h
    | cons c r => simp at hm
  | m + 1, [], ks, _, _, h => h
  | m + 1, c :: r, ks, hm, hn, h => by
    have h35 := hn c (by simp)
    have hnr : NH r := fun x hx => hn x (by simp [hx])
    have hmr : r.length ≤ m := by simpa using hm
    have fil : ∀ ks, Lx (tw fill r) ks → Lx ((if isSp c then fill else []) ++ tw fill r) ks := fun ks h => by
      split
      · exact hf _ _ h
      · exact h
    by_cases hb : blaN c.toNat = true
    · have h1 : Lx r ks := fun n => by
        have := h n
        simp only [tk] at this
        rw [if_neg h35, if_pos hb] at this
        exact Kd_at _ _ _ _ _ this
      exact Lx_bl h35 hb (fil _ (tw_lx hf m r ks hmr hnr h1))
    · have hb' : blaN c.toNat = false := by simpa using hb
      by_cases hl : letN c.toNat = true
      · -- a word
        have h0 := h 0
        simp only [tk] at h0
        rw [if_neg h35, if_neg hb, if_pos hl] at h0
        cases ks with
        | nil => exact h0.elim
        | cons k ks =>
          cases k with
          | s d => exact h0.elim
          | w x =>
            obtain ⟨hx, h0⟩ := h0
            subst hx
            obtain ⟨w, hwd⟩ : ∃ w, w = r.takeWhile (fun x => letN x.toNat) := ⟨_, rfl⟩
            rw [tk_skip _ _ _ (List.takeWhile_prefix _).length_le, ← hwd] at h0
            obtain ⟨q, hq'⟩ : ∃ q, w ++ q = r := by rw [hwd]; exact List.takeWhile_prefix _
            have hq : r.drop w.length = q := by rw [← hq', List.drop_left]
            have hsplit : r = w ++ q := hq'.symm
            rw [hq] at h0
            rw [← hwd]
            have hlw : ∀ y ∈ w, letN y.toNat = true := fun y hy => by
              rw [hwd] at hy
              have := List.all_takeWhile (p := fun x : UInt8 => letN x.toNat) (l := r)
              exact List.all_eq_true.mp this y hy
            have hnl : NL q := fun d q' hd => by
              cases hdl : letN d.toNat with
              | false => rfl
              | true =>
                exfalso
                have e1 : w.length = (w ++ d :: q'.takeWhile (fun x => letN x.toNat)).length := by
                  conv => lhs; rw [hwd, hsplit, hd]
                  rw [List.takeWhile_append_of_pos hlw, List.takeWhile_cons, if_pos hdl]
                simp only [List.length_append, List.length_cons] at e1
                omega
            have hlen : q.length ≤ m := by
              have : q.length ≤ r.length := by rw [← hq, List.length_drop]; omega
              omega
            have hq1 : NH q := fun x hx => hnr x (by rw [hsplit]; exact List.mem_append_right _ hx)
            have ih := tw_lx hf m q ks hlen hq1 (fun n => Kd_at _ _ _ _ _ h0)
            have e : tw fill (c :: r) = (c :: w) ++ tw fill q := by
              rw [hsplit, ← List.cons_append, tw_app, tw_let (w := c :: w) (fun x hx => by
                rcases List.mem_cons.mp hx with h | h
                · rw [h]; exact hl
                · exact hlw x h)]
            rw [e]
            refine Lx_wd (by simp) (fun x hx => by
                rcases List.mem_cons.mp hx with h | h
                · rw [h]; exact hl
                · exact hlw x h) (fun d y hd => ?_) ih
            cases q with
            | nil => cases hd
            | cons d' q =>
              simp only [tw, List.cons_append] at hd
              cases hd
              exact hnl d q rfl
      · have hl' : letN c.toNat = false := by simpa using hl
        have h0 := h 0
        simp only [tk] at h0
        rw [if_neg h35, if_neg hb, if_neg hl] at h0
        by_cases hs : sgnN c.toNat = true
        · rw [if_pos hs] at h0
          cases ks with
          | nil => exact h0.elim
          | cons k ks =>
            cases k with
            | w x => exact h0.elim
            | s d =>
              obtain ⟨hd, h0⟩ := h0
              subst hd
              exact Lx_sg h35 hb' hl' hs (fil _ (tw_lx hf m r ks hmr hnr (fun n => Kd_at _ _ _ _ _ h0)))
        · rw [if_neg hs] at h0; exact h0.elim
theorem Px_rem : ∀ {x : List UInt8}, (∀ c ∈ x, c.toNat ≠ 10) → Px (35 :: (x ++ [10])) [] := fun {x} hx r ls h n => by
  have key : ∀ (y : List UInt8) (n : Nat), (∀ c ∈ y, c.toNat ≠ 10) → Kd (tk none (y ++ (10 :: r)) n) ls := fun y => by
    induction y with
    | nil => intro n _; simp only [List.nil_append, tk]; rw [if_pos (by decide)]; exact h _
    | cons c y ih => intro n hy; simp only [List.cons_append, tk]; rw [if_neg (hy c (by simp))]; exact ih _ (fun d hd => hy d (by simp [hd]))
  simp only [List.cons_append, List.append_assoc, List.nil_append, tk]
  rw [if_pos (by decide)]
  exact key x _ hx
def fills : List (List UInt8) := [([32, 32] : List UInt8), ([10, 35, 32, 107, 101, 101, 112, 32, 65, 32, 47, 32, 65, 59, 32, 40, 10] : List UInt8), ([9, 13, 10] : List UInt8), ([32, 35, 10] : List UInt8)]
theorem fills_ok {k : Nat} (h : k < 4) : Px (fills.getD k []) [] ∧ (fills.getD k []).length ≤ 20 := by
  obtain ⟨c32, c10, _⟩ := Px_ch
  match k, h with
  | 0, _ => exact ⟨c32.app c32, by decide⟩
  | 1, _ => exact ⟨c10.app (Px_rem (x := [32, 107, 101, 101, 112, 32, 65, 32, 47, 32, 65, 59, 32, 40]) (by decide)), by decide⟩
  | 2, _ => exact ⟨(Px_bl 9 (by decide) (by decide)).app ((Px_bl 13 (by decide) (by decide)).app c10), by decide⟩
  | 3, _ => exact ⟨c32.app (Px_rem (x := []) (by decide)), by decide⟩
theorem NH_nm {n i : Nat} (h1 : 1 ≤ n) (h6 : n ≤ 6) : NH [nmB n i] := fun c hc => by
  cases List.mem_singleton.mp hc
  rw [nmB_toNat h1 h6]; omega
theorem NH_names {n : Nat} (h1 : 1 ≤ n) (h6 : n ≤ 6) (b : Nat) : ∀ k, NH (namesT n b k)
  | 0 => fun c hc => by cases hc
  | k + 1 => by
    simp only [namesT]
    refine (NH_names h1 h6 b k).app ?_
    split
    · exact NH.app (x := [32]) (by unfold NH; decide) (NH_nm h1 h6)
    · intro c hc; cases hc
theorem NH_ex {n : Nat} (h1 : 1 ≤ n) (h6 : n ≤ 6) : ∀ e, NH (exT n e)
  | .nm k => NH_nm h1 h6
  | .any => by show NH [46]; unfold NH; decide
  | .set neg b => by
    simp only [exT]
    refine NH.app (NH.app ?_ (NH_names h1 h6 b n)) (by unfold NH; decide)
    split <;> (unfold NH; decide)
  | .star a => by simp only [exT]; exact NH.app (NH.app (by unfold NH; decide) (NH_ex h1 h6 a)) (by unfold NH; decide)
  | .plus a => by simp only [exT]; exact NH.app (NH.app (by unfold NH; decide) (NH_ex h1 h6 a)) (by unfold NH; decide)
  | .opt a => by simp only [exT]; exact NH.app (NH.app (by unfold NH; decide) (NH_ex h1 h6 a)) (by unfold NH; decide)
  | .alt a b => by simp only [exT]; exact NH.app (NH.app (NH.app (NH.app (by unfold NH; decide) (NH_ex h1 h6 a)) (by unfold NH; decide)) (NH_ex h1 h6 b)) (by unfold NH; decide)
  | .seq a b => by simp only [exT]; exact NH.app (NH.app (NH_ex h1 h6 a) (by unfold NH; decide)) (NH_ex h1 h6 b)
theorem NH_exO {n : Nat} (h1 : 1 ≤ n) (h6 : n ≤ 6) : ∀ e, NH (exOT n e)
  | none => fun c hc => by cases hc
  | some e => NH_ex h1 h6 e
theorem NH_join {n : Nat} (h1 : 1 ≤ n) (h6 : n ≤ 6) (j a : Int) : NH (joinT n j a) := by
  have hh : NH (headT n) := NH.app (NH.app (by unfold NH; decide) (NH_names h1 h6 255 n)) (by unfold NH; decide)
  unfold joinT
  split
  · exact hh
  · exact NH.app (NH.app (NH.app (NH.app (NH.app hh (by unfold NH; decide)) (NH_names h1 h6 _ n)) (by unfold NH; decide)) (NH_names h1 h6 _ n)) (by unfold NH; decide)
theorem NH_tr {n : Nat} (h1 : 1 ≤ n) (h6 : n ≤ 6) {b} (hb : NH b) (tr : List Int) : ∀ k, NH (trT b n tr k)
  | 0 => hb
  | k + 1 => by
    simp only [trT]
    exact NH.app (NH.app (NH.app (NH.app (NH.app (NH_tr h1 h6 hb tr k) (by unfold NH; decide)) (NH_nm h1 h6)) (by unfold NH; decide)) (NH_nm h1 h6)) (by unfold NH; decide)
theorem NH_word (d : Int) : NH (wordT d) := by
  unfold wordT
  generalize (Int.tmod d 3).toNat = k
  match k with
  | 0 => unfold NH; decide
  | 1 => unfold NH; decide
  | 2 => unfold NH; decide
  | k + 3 => intro c hc; simp at hc
theorem NH_ru {n : Nat} (h1 : 1 ≤ n) (h6 : n ≤ 6) {b} (hb : NH b) (l : List PR) : ∀ k, NH (ruT b n l k)
  | 0 => hb
  | k + 1 => by
    simp only [ruT]
    exact NH.app (NH.app (NH.app (NH.app (NH.app (NH_ru h1 h6 hb l k) (NH_word _)) (NH_exO h1 h6 _)) (by unfold NH; decide)) (NH_exO h1 h6 _)) (by unfold NH; decide)
theorem NH_plan (c j a : Int) (tr : List Int) (l : List PR) : NH (planT c j a tr l) := by
  have h1 := cntP_pos c
  have h6 := cntP_le c
  exact NH_ru h1 h6 (NH_tr h1 h6 (NH_join h1 h6 j a) tr _) l _
theorem spaced {c j a g : Int} {tr : List Int} {l : List PR} (h : Pl c j a tr l) (hg : 0 ≤ g ∧ g < 256) : lq_RulesSpaced c j a tr l g = some true := by
  obtain ⟨g, rfl⟩ := Int.eq_ofNat_of_zero_le hg.1
  have et : Int.tmod ((g : Nat) : Int) (4 : Int) = ((g % 4 : Nat) : Int) := rfl
  have hlt : g % 4 < 4 := Nat.mod_lt _ (by decide)
  obtain ⟨fp, fl⟩ := fills_ok hlt
  unfold lq_RulesSpaced
  rw [awake03]
  simp only [Option.bind_some, Bool.not_true, Bool.false_eq_true, if_false]
  rw [Text_eq h]
  simp only [Option.bind_some]
  rw [if_pos (by decide), if_pos ⟨by rw [et]; omega, by rw [et]; show _ < ((4 : Nat) : Int); omega⟩, if_pos (by rw [et, Int.toNat_natCast]; exact hlt)]
  have hlen := planT_len' c j a tr l
  have hw : ∀ b, Px b (planK c j a tr l) → b = planT c j a tr l → Lx (tw (fills.getD (g % 4) []) b) (planK c j a tr l) := fun b hb he => by
    subst he
    have := hb [] [] Lx_nil
    rw [List.append_nil, List.append_nil] at this
    exact tw_lx fp _ _ _ (Nat.le_refl _) (NH_plan c j a tr l) this
  have hlx := hw _ (plan_kd h) rfl
  have hT : ∀ t, t = planT c j a tr l → rules_Parse t = some (planV c j a tr l, 0, 0) := fun t ht => by rw [ht]; exact plan_Parse h
  have hT := hT _ rfl
  have hP : ∀ t : List UInt8, t.length ≤ 4096 → Lx t (planK c j a tr l) → rules_Parse t = some (planV c j a tr l, 0, 0) := fun t ht hk => by
    rw [parseP, plan_parse h ht (hk 0)]; rfl
  have hgood := parseS_good (plan_parse h (Nat.le_trans hlen (by decide)) (plan_T h))
  generalize planT c j a tr l = t at hlen hlx hT ⊢
  have hi : iter (lq_RulesSpaced_L1 ((g : Nat) : Int) t) (tw (fills.getD (g % 4) []) (t.take 0), ((0 : Nat) : Int)) = some (tw (fills.getD (g % 4) []) t) := by
    refine iter_count (fun k : Nat => (tw (fills.getD (g % 4) []) (t.take k), (k : Int))) t.length (fun k hk => ?_) ?_
    · have hl1 := tw_len fl (t.take k)
      rw [List.length_take] at hl1
      have e1 : IntKind.i64.wrap ((k : Int) + 1) = ((k + 1 : Nat) : Int) := by rw [wrap_i64 (by omega) (by omega)]; rfl
      have e2 : (t.take (k + 1)).drop k = [t.getD k 0] := by
        rw [take_succ' (d := 0) hk, List.drop_append_of_le_length (by rw [List.length_take]; omega), List.drop_eq_nil_of_le (by rw [List.length_take]; omega)]
        rfl
      have c2 : 0 ≤ (k : Int) ∧ (k : Int) < (t.length : Int) := ⟨by omega, by omega⟩
      unfold lq_RulesSpaced_L1
      simp only [e1, Int.toNat_natCast, e2, et]
      rw [if_pos (decide_eq_true (by omega)), if_pos ⟨by omega, by omega, by omega⟩, if_pos (by simp only [List.length_cons, List.length_nil]; omega)]
      have hsp : (if 0 ≤ (k : Int) ∧ (k : Int) < (t.length : Int) then (if (((t.getD k 0).toNat : Int) == (32 : Int)) = true then some (true)
          else (if 0 ≤ (k : Int) ∧ (k : Int) < (t.length : Int) then (if (((t.getD k 0).toNat : Int) == (59 : Int)) = true then some (true)
          else (if 0 ≤ (k : Int) ∧ (k : Int) < (t.length : Int) then some ((((t.getD k 0).toNat : Int) == (40 : Int))) else none)) else none)) else none) = some (isSp (t.getD k 0)) := by
        rw [if_pos c2, if_pos c2, if_pos c2]
        unfold isSp
        generalize (t.getD k 0).toNat = x
        by_cases x32 : x = 32
        · subst x32; rfl
        · rw [if_neg (by rw [beq_iff_eq]; omega), beq_eq_false_iff_ne.mpr x32]
          by_cases x59 : x = 59
          · subst x59; rfl
          · rw [if_neg (by rw [beq_iff_eq]; omega), beq_eq_false_iff_ne.mpr x59]
            by_cases x40 : x = 40
            · subst x40; rfl
            · rw [beq_eq_false_iff_ne.mpr x40, beq_eq_false_iff_ne.mpr (show (x : Int) ≠ 40 by omega)]; rfl
      rw [hsp]
      simp only [Option.bind_some]
      have e3 : tw (fills.getD (g % 4) []) (t.take (k + 1)) = tw (fills.getD (g % 4) []) (t.take k) ++ (t.getD k 0 :: if isSp (t.getD k 0) then fills.getD (g % 4) [] else []) := by
        rw [take_succ' (d := 0) hk, tw_app]
        simp only [tw, List.append_nil]
      rw [e3]
      have efill : ([([32, 32] : List UInt8), ([10, 35, 32, 107, 101, 101, 112, 32, 65, 32, 47, 32, 65, 59, 32, 40, 10] : List UInt8), ([9, 13, 10] : List UInt8), ([32, 35, 10] : List UInt8)] : List (List UInt8)).getD (g % 4) [] = fills.getD (g % 4) [] := rfl
      rw [efill]
      cases hb : isSp (t.getD k 0) with
      | true =>
        simp only [if_true]
        rw [if_pos (by simp only [List.length_append, List.length_cons, List.length_nil]; omega)]
        simp only [Option.bind_some, List.append_assoc]
        rfl
      | false => simp only [Bool.false_eq_true, if_false, Option.bind_some]
    · unfold lq_RulesSpaced_L1
      simp only []
      rw [if_neg (by simp), List.take_length]
  rw [show iter (lq_RulesSpaced_L1 ((g : Nat) : Int) t) ([], 0) = _ from hi]
  simp only [Option.bind_some]
  by_cases h4 : (tw (fills.getD (g % 4) []) t).length > 4096
  · rw [if_pos (decide_eq_true (by omega))]
  · rw [if_neg (by rw [decide_eq_true_eq]; omega), hT]
    simp only [Option.bind_some]
    rw [hP _ (by omega) hlx]
    simp only [Option.bind_some]
    rw [if_pos (by decide), same_rules _ _ _ _ _ hgood.1 (by rw [hgood.2.1]; exact hgood.1) hgood.2.2.1 hgood.2.2.2]
    rfl
abbrev rulesSpaced_Ts : List Ty := [(.prod (.int .u8) Y8), (.int .u8)]
theorem rulesSpaced_all (x : Tup rulesSpaced_Ts) (hx : WfT rulesSpaced_Ts x) : lq_RulesSpaced x.1.1 x.1.2.1 x.1.2.2.1 x.1.2.2.2.1 x.1.2.2.2.2 x.2.1 = some true := by
  obtain ⟨⟨c, j, a, tr, l⟩, g, u⟩ := x
  have h2 := hx.2.1
  exact spaced (pl_wf hx.1) ⟨h2.1, Int.lt_add_one_iff.mpr h2.2⟩
end Go.Proofs.Ytjfjigknkhgkdaa.T
