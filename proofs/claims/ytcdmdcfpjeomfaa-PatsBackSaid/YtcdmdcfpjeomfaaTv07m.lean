/- Patterns: written and read again. -/
import Derived.Test.YtcdmdcfpjeomfaaTv07l
import Derived.Test.YtcdmdcfpjeomfaaTvT07xPatsBack
namespace Go.Proofs.Ytcdmdcfpjeomfaa.T
open Go Go.Tv Go.Proofs

/-! ### words of letters -/
def splL : List Int → List Int → List (List Int)
  | [], cur => if cur.length = 0 then [] else [cur]
  | c :: r, cur => if isBl c = true then (if cur.length = 0 then splL r [] else cur :: splL r []) else splL r (cur ++ [c])
theorem splL_eq : ∀ (l cur : List Sgn), (spl l cur).map (List.map (·.1)) = splL (l.map (·.1)) (cur.map (·.1))
  | [], cur => by
    simp only [spl, splL, List.map_nil, List.length_map]
    by_cases h : cur.length = 0
    · rw [if_pos h, if_pos h]; rfl
    · rw [if_neg h, if_neg h]; rfl
  | x :: r, cur => by
    simp only [spl, splL, List.map_cons, List.length_map]
    by_cases hb : isBl x.1 = true
    · rw [if_pos hb, if_pos hb]
      by_cases h : cur.length = 0
      · rw [if_pos h, if_pos h]; exact splL_eq r []
      · rw [if_neg h, if_neg h, List.map_cons, splL_eq r []]; rfl
    · rw [if_neg hb, if_neg hb, splL_eq r (cur ++ [x]), List.map_append]; rfl
theorem splL_word {b : Int} (hb : isBl b = true) (v : List Int) : ∀ (u cur : List Int), (∀ c ∈ u, isBl c = false) → (cur ++ u).length ≠ 0 → splL (u ++ b :: v) cur = (cur ++ u) :: splL v []
  | [], cur, _, h => by
    rw [List.append_nil] at h
    simp only [List.nil_append, splL, if_pos hb, if_neg h, List.append_nil]
  | c :: u, cur, hu, _ => by
    have hc : isBl c = false := hu c (.head _)
    simp only [List.cons_append, splL, hc]
    rw [if_neg (by simp), splL_word hb v u (cur ++ [c]) (fun d hd => hu d (.tail _ hd)) (by simp), List.append_assoc]
    rfl
theorem splL_mem : ∀ (l cur : List Int) {w : List Int}, (∀ c ∈ cur, isBl c = false) → w ∈ splL l cur → ∀ c ∈ w, isBl c = false ∧ (c ∈ l ∨ c ∈ cur)
  | [], cur, w, hcur, h => by
    simp only [splL] at h
    split at h
    · cases h
    · rw [List.mem_singleton.mp h]; exact fun c hc => ⟨hcur c hc, .inr hc⟩
  | y :: r, cur, w, hcur, h => by
    have h0 : ∀ c ∈ ([] : List Int), isBl c = false := fun c hc => by cases hc
    have fix : ∀ {w : List Int}, w ∈ splL r [] → ∀ c ∈ w, isBl c = false ∧ (c ∈ y :: r ∨ c ∈ cur) := fun hw c hc => by
      have := splL_mem r [] h0 hw c hc
      refine ⟨this.1, .inl ?_⟩
      rcases this.2 with q | q
      · exact .tail _ q
      · cases q
    simp only [splL] at h
    split at h
    · split at h
      · exact fix h
      · rcases List.mem_cons.mp h with q | q
        · rw [q]; exact fun c hc => ⟨hcur c hc, .inr hc⟩
        · exact fix q
    · rename_i hb
      have hb' : isBl y = false := by simpa using hb
      intro c hc
      have := splL_mem r (cur ++ [y]) (fun d hd => by
        rcases List.mem_append.mp hd with q | q
        · exact hcur d q
        · rw [List.mem_singleton.mp q]; exact hb') h c hc
      refine ⟨this.1, ?_⟩
      rcases this.2 with q | q
      · exact .inl (.tail _ q)
      · rcases List.mem_append.mp q with q | q
        · exact .inr q
        · rw [List.mem_singleton.mp q]; exact .inl (.head _)

def foldL : List (List Int) → List Pat → List Pat → Option (List Pat × List Pat)
  | [], A, B => some (A, B)
  | w :: ws, A, B =>
    if 256 ≤ A.length + B.length then none
    else match patR w with
    | none => none
    | some p =>
      if hasH w = true then (if B.any (fun q => q.1 == p.1) = true then none else foldL ws A (B ++ [p])) else foldL ws (A ++ [p]) B
theorem foldL_eq : ∀ (ws : List (List Sgn)) (A B : List Pat), foldL (ws.map (List.map (·.1))) A B = (match foldW ws A B with | .inl P => some P | .inr _ => none)
  | [], A, B => rfl
  | w :: ws, A, B => by
    simp only [List.map_cons, foldL, foldW]
    by_cases h1 : 256 ≤ A.length + B.length
    · rw [if_pos h1, if_pos h1]
    rw [if_neg h1, if_neg h1]
    cases patR (w.map (·.1)) with
    | none => rfl
    | some p =>
      simp only
      by_cases h2 : hasH (w.map (·.1)) = true
      · rw [if_pos h2, if_pos h2]
        by_cases h3 : B.any (fun q => q.1 == p.1) = true
        · rw [if_pos h3, if_pos h3]
        · rw [if_neg h3, if_neg h3, foldL_eq]
      · rw [if_neg h2, if_neg h2, foldL_eq]

/-- What a text may come to. -/
structure Well (A B : List Pat) : Prop where
  a : ∀ p ∈ A, Img false p
  b : ∀ p ∈ B, Img true p
  d : List.Pairwise (fun p q => p.1 ≠ q.1) B
  n : A.length + B.length ≤ 256

theorem fold_well : ∀ (ws : List (List Int)) (A B : List Pat) {P : List Pat × List Pat}, (∀ w ∈ ws, ∀ c ∈ w, isBl c = false ∧ (c ≠ 65533 → Val c)) → Well A B → foldL ws A B = some P → Well P.1 P.2
  | [], A, B, P, _, hw, h => by simp only [foldL] at h; cases h; exact hw
  | w :: ws, A, B, P, hb, hw, h => by
    have hb' : ∀ w ∈ ws, ∀ c ∈ w, isBl c = false ∧ (c ≠ 65533 → Val c) := fun v hv => hb v (.tail _ hv)
    simp only [foldL] at h
    split at h
    · cases h
    rename_i h256
    split at h
    · cases h
    rename_i p hp
    have hi := patR_img hp (hb w (.head _))
    split at h
    · rename_i hh
      rw [hh] at hi
      split at h
      · cases h
      · rename_i hd
        refine fold_well ws A (B ++ [p]) hb' ⟨hw.a, fun q hq => ?_, ?_, by simp only [List.length_append, List.length_cons, List.length_nil]; omega⟩ h
        · rcases List.mem_append.mp hq with e | e
          · exact hw.b q e
          · rw [List.mem_singleton.mp e]; exact hi
        · refine List.pairwise_append.mpr ⟨hw.d, List.pairwise_singleton _ _, fun x hx y hy e => ?_⟩
          rw [List.mem_singleton.mp hy] at e
          exact hd (List.any_eq_true.mpr ⟨x, hx, by simpa using e⟩)
    · rename_i hh
      have hh' : hasH w = false := by simpa using hh
      rw [hh'] at hi
      refine fold_well ws (A ++ [p]) B hb' ⟨fun q hq => ?_, hw.b, hw.d, by simp only [List.length_append, List.length_cons, List.length_nil]; omega⟩ h
      rcases List.mem_append.mp hq with e | e
      · exact hw.a q e
      · rw [List.mem_singleton.mp e]; exact hi

theorem foldA : ∀ (As A B : List Pat) (rest : List (List Int)), (∀ p ∈ As, Img false p) → A.length + As.length + B.length ≤ 256 → foldL (As.map (fun p => wlt false p.1 p.2) ++ rest) A B = foldL rest (A ++ As) B
  | [], A, B, rest, _, _ => by rw [List.append_nil]; rfl
  | p :: As, A, B, rest, h, hl => by
    obtain ⟨h1, h2⟩ := img_back (h p (.head _))
    simp only [List.length_cons] at hl
    simp only [List.map_cons, List.cons_append, foldL, h1, h2]
    rw [if_neg (by omega), if_neg (by simp), foldA As (A ++ [p]) B rest (fun q hq => h q (.tail _ hq)) (by simp only [List.length_append, List.length_cons, List.length_nil]; omega), List.append_assoc]
    rfl
theorem foldB : ∀ (Bs A B : List Pat), (∀ p ∈ Bs, Img true p) → List.Pairwise (fun p q => p.1 ≠ q.1) (B ++ Bs) → A.length + B.length + Bs.length ≤ 256 → foldL (Bs.map (fun p => wlt true p.1 p.2)) A B = some (A, B ++ Bs)
  | [], A, B, _, _, _ => by rw [List.append_nil]; rfl
  | p :: Bs, A, B, h, hd, hl => by
    obtain ⟨h1, h2⟩ := img_back (h p (.head _))
    simp only [List.length_cons] at hl
    simp only [List.map_cons, foldL, h1, h2]
    have hn : ¬ B.any (fun q => q.1 == p.1) = true := fun q => by
      obtain ⟨x, x1, x2⟩ := List.any_eq_true.mp q
      exact (List.pairwise_append.mp hd).2.2 x x1 p (.head _) (eq_of_beq x2)
    rw [if_neg (by omega), if_pos trivial, if_neg hn, foldB Bs A (B ++ [p]) (fun q hq => h q (.tail _ hq)) (by rw [List.append_assoc]; exact hd) (by simp only [List.length_append, List.length_cons, List.length_nil]; omega), List.append_assoc]
    rfl

/-! ### the bytes -/
theorem lt_ascii {c : Int} (h : c < 128) (y : List Int) : lt (c :: y) = c :: lt y := by
  unfold lt
  rw [sg_ascii h, List.map_cons, map_shf]
def dgt (told : Bool) (v : Int) : List UInt8 := if v = 0 then [] else if told = true then [45] else bytesOf [48 + v]
theorem dgt_nums {told : Bool} {v : Int} (hv : vOk told v) : numsOf (dgt told v) = dg told v := by
  unfold dgt dg
  by_cases h : v = 0
  · rw [if_pos h, if_pos h]; rfl
  rw [if_neg h, if_neg h]
  cases told with
  | true => rfl
  | false =>
    obtain ⟨_, h1, h2⟩ := hv
    simp only [Bool.false_eq_true, if_false, numsOf, bytesOf, List.map_cons, List.map_nil]
    rw [u8_nat (by omega)]
    congr 1
    omega
theorem dg_ascii {told : Bool} {v : Int} (hv : vOk told v) : ∀ c ∈ dg told v, c < 128 := fun c hc => by
  obtain ⟨_, h1, h2⟩ := hv
  unfold dg at hc
  split at hc
  · cases hc
  · rw [List.mem_singleton.mp hc]; split <;> omega
theorem dg_lt {told : Bool} {v : Int} (hv : vOk told v) {y : List Int} (hy : Start y) : lt (dg told v ++ y) = dg told v ++ lt y ∧ Start (dg told v ++ y) := by
  have ha := dg_ascii hv
  unfold dg at ha ⊢
  by_cases h : v = 0
  · rw [if_pos h]; exact ⟨rfl, hy⟩
  · rw [if_neg h] at ha ⊢
    have := ha _ (.head _)
    exact ⟨lt_ascii this y, .inr (.inl this)⟩

/-- A word's bytes. -/
def wt (told : Bool) : List Int → List Int → List UInt8
  | _, [] => []
  | [], v :: _ => dgt told v
  | c :: L, v :: V => dgt told v ++ (utf8Of c ++ wt told L V)
theorem nums_app (x y : List UInt8) : numsOf (x ++ y) = numsOf x ++ numsOf y := by unfold numsOf; rw [List.map_append]
theorem lt_wt {told : Bool} : ∀ {first : Bool} {L V : List Int}, WOk told first L V → (∀ c ∈ L, Val c) → ∀ {y : List Int}, Start y → lt (numsOf (wt told L V) ++ y) = wlt told L V ++ lt y ∧ Start (numsOf (wt told L V) ++ y)
  | _, [], V, h, _, y, hy => by
    obtain ⟨v, rfl, hv, _⟩ := h
    simp only [wt, wlt, dgt_nums hv]
    exact dg_lt hv hy
  | _, c :: L, V, h, hL, y, hy => by
    obtain ⟨v, V', rfl, hv, _, _, _, h2⟩ := h
    have hc := hL c (.head _)
    obtain ⟨i1, i2⟩ := lt_wt h2 (fun d hd => hL d (.tail _ hd)) hy
    have hst := start_enc hc (numsOf (wt told L V') ++ y)
    simp only [wt, wlt, nums_app, dgt_nums hv, enc_eq hc, List.append_assoc]
    obtain ⟨j1, j2⟩ := dg_lt hv hst
    refine ⟨?_, j2⟩
    rw [j1, lt_enc hc i2, i1]
    rfl

theorem utf8_len {c : Int} (h : Val c) : (utf8Of c).length ≤ 4 := by
  have h1 := (enc_one h).2.2.2
  rw [← enc_eq h, nums_len] at h1
  exact h1
theorem dgt_len (told : Bool) (v : Int) : (dgt told v).length ≤ 1 := by
  unfold dgt
  split
  · simp
  · split
    · simp
    · simp [bytesOf]
theorem wt_len {told : Bool} : ∀ {L V : List Int}, (∀ c ∈ L, Val c) → (wt told L V).length ≤ 5 * V.length
  | L, [], _ => by cases L <;> simp [wt]
  | [], v :: V, _ => by have := dgt_len told v; simp only [wt, List.length_cons]; omega
  | c :: L, v :: V, h => by
    have h1 := dgt_len told v
    have h2 := utf8_len (h c (.head _))
    have h3 := wt_len (told := told) (V := V) (fun d hd => h d (.tail _ hd))
    simp only [wt, List.length_append, List.length_cons]; omega

theorem written_eq {told : Bool} {L V : List Int} (hL : ∀ c ∈ L, Val c) (hlen : V.length = L.length + 1) (hV : ∀ v ∈ V, vOk told v) (h24 : L.length ≤ 24) : stanzalaw07_written L V told = some (wt told L V) := by
  have key : ∀ (m k : Nat) (out : List UInt8), k + m = V.length → out.length ≤ 5 * k → ∃ r, iter (stanzalaw07_written_L1 L V told) (out, (k : Int)) = some r ∧ r = out ++ wt told (L.drop k) (V.drop k) := by
    intro m
    induction m with
    | zero =>
      intro k out hk ho
      refine iter_case ⟨.inr out, ?_, ?_⟩
      · simp only [stanzalaw07_written_L1]
        rw [if_neg (by simp only [decide_eq_true_eq]; omega)]
      · rw [show V.drop k = [] from List.drop_eq_nil_of_le (by omega)]
        have : ∀ X : List Int, wt told X [] = [] := fun X => by cases X <;> rfl
        rw [this, List.append_nil]
    | succ m ih =>
      intro k out hk ho
      have hkV : k < V.length := by omega
      have hv := hV _ (getD_mem' (d := 0) hkV)
      have hdV := drop_cons' (d := 0) hkV
      refine iter_case ?_
      simp only [stanzalaw07_written_L1, Int.toNat_natCast]
      rw [if_pos (by simp only [decide_eq_true_eq]; omega), if_pos ⟨by omega, by omega⟩]
      generalize V.getD k 0 = v at hv hdV
      have h1 : (if (v != 0) = true then (if told = true then (if out.length + ([45] : List UInt8).length ≤ 9223372036854775807 then some (out ++ ([45] : List UInt8)) else none)
          else (if ¬ (10 : Int) = 0 then (if out.length + (bytesOf ([(IntKind.u8.wrap ((48 : Int) + (Int.tmod v (10 : Int))))] : List Int)).length ≤ 9223372036854775807 then some (out ++ (bytesOf ([(IntKind.u8.wrap ((48 : Int) + (Int.tmod v (10 : Int))))] : List Int))) else none) else none))
          else some out : Option (List UInt8)) = some (out ++ dgt told v) := by
        obtain ⟨_, v1, v2⟩ := hv
        unfold dgt
        by_cases q : v = 0
        · subst q; simp
        · rw [if_pos (by simpa using q), if_neg q]
          cases told with
          | true =>
            simp only [if_true]
            rw [if_pos (by simp only [List.length_cons, List.length_nil]; omega)]
          | false =>
            simp only [Bool.false_eq_true, if_false]
            have e : IntKind.u8.wrap (48 + Int.tmod v 10) = 48 + v := by
              rw [Int.tmod_eq_emod_of_nonneg v1, wrap_u8 (by omega) (by omega)]; omega
            rw [e, if_pos (by decide), if_pos (by simp only [bytesOf, List.map_cons, List.map_nil, List.length_cons, List.length_nil]; omega)]
      have hd1 := dgt_len told v
      have e1 : IntKind.i64.wrap ((k : Int) + 1) = ((k + 1 : Nat) : Int) := by rw [wrap_i64 (by omega) (by omega)]; omega
      rw [h1]
      simp only [Option.bind_some, e1]
      by_cases q : k < L.length
      · have hc := hL _ (getD_mem' (d := 0) q)
        have hdL := drop_cons' (d := 0) q
        have hu := utf8_len hc
        rw [if_pos (by simp only [decide_eq_true_eq]; omega), if_pos ⟨by omega, by omega⟩, if_pos (by rw [List.length_append]; omega)]
        simp only [Option.bind_some]
        refine ⟨_, rfl, ?_⟩
        obtain ⟨r, r1, r2⟩ := ih (k + 1) (out ++ dgt told v ++ utf8Of (L.getD k 0)) (by omega) (by simp only [List.length_append]; omega)
        refine ⟨r, r1, ?_⟩
        rw [r2, hdV, hdL]
        simp only [wt, List.append_assoc]
      · rw [if_neg (by simp only [decide_eq_true_eq]; omega)]
        simp only [Option.bind_some]
        refine ⟨_, rfl, ?_⟩
        obtain ⟨r, r1, r2⟩ := ih (k + 1) (out ++ dgt told v) (by omega) (by simp only [List.length_append]; omega)
        refine ⟨r, r1, ?_⟩
        have hkl : V.length = k + 1 := by omega
        have n1 : ∀ X : List Int, wt told X [] = [] := fun X => by cases X <;> rfl
        rw [r2, hdV, show V.drop (k + 1) = [] from List.drop_eq_nil_of_le (by omega), show L.drop k = [] from List.drop_eq_nil_of_le (by omega), n1, List.append_nil]
        rfl
  obtain ⟨r, r1, r2⟩ := key V.length 0 [] (by omega) (by simp)
  have r1' : iter (stanzalaw07_written_L1 L V told) (([] : List UInt8), (0 : Int)) = some r := r1
  unfold stanzalaw07_written
  rw [r1', r2]
  rfl
theorem img_written {told : Bool} {p : Pat} (h : Img told p) : stanzalaw07_written p.1 p.2 told = some (wt told p.1 p.2) ∧ (wt told p.1 p.2).length ≤ 125 := by
  obtain ⟨h1, h2⟩ := h.w.vals
  have h3 := wt_len (told := told) (V := p.2) (fun c hc => (h.lt c hc).2)
  have := h.le
  exact ⟨written_eq (fun c hc => (h.lt c hc).2) h1 h2 h.le, by omega⟩

/-! ### the text -/
def txt (told : Bool) (b : UInt8) (X : List Pat) : List UInt8 := X.flatMap fun p => wt told p.1 p.2 ++ [b]
theorem txt_words {told : Bool} {b : UInt8} (hb : isBl (b.toNat : Int) = true) (hb2 : (b.toNat : Int) < 128) : ∀ (X : List Pat), (∀ p ∈ X, Img told p) → ∀ (y : List Int), Start y → splL (lt (numsOf (txt told b X) ++ y)) [] = X.map (fun p => wlt told p.1 p.2) ++ splL (lt y) [] ∧ Start (numsOf (txt told b X) ++ y)
  | [], _, y, hy => ⟨rfl, hy⟩
  | p :: X, h, y, hy => by
    obtain ⟨i1, i2⟩ := txt_words hb hb2 X (fun q hq => h q (.tail _ hq)) y hy
    have hp := h p (.head _)
    have e : numsOf (txt told b (p :: X)) ++ y = numsOf (wt told p.1 p.2) ++ ((b.toNat : Int) :: (numsOf (txt told b X) ++ y)) := by
      unfold txt
      rw [List.flatMap_cons, nums_app, nums_app, List.append_assoc, List.append_assoc]
      rfl
    rw [e]
    obtain ⟨j1, j2⟩ := lt_wt hp.w (fun c hc => (hp.lt c hc).2) (y := (b.toNat : Int) :: (numsOf (txt told b X) ++ y)) (.inr (.inl hb2))
    refine ⟨?_, j2⟩
    obtain ⟨v1, v2⟩ := hp.w.vals
    have hnb : ∀ c ∈ wlt told p.1 p.2, isBl c = false := fun c hc => by
      rcases wl_mem hc with q | ⟨v, q1, q2, q3⟩
      · exact (hp.lt c q).1
      · have := (v2 v q1).2
        unfold isBl
        simp only [Bool.or_eq_false_iff, beq_eq_false_iff_ne, ne_eq]
        split at q3 <;> omega
    have hne : (wlt told p.1 p.2).length ≠ 0 := fun q => by
      have := (img_back hp).2
      rw [List.eq_nil_of_length_eq_zero q] at this
      simp [patR, patS] at this
    rw [j1, lt_ascii hb2, splL_word hb _ _ [] hnb hne, i1]
    rfl
theorem txt_snoc (told : Bool) (b : UInt8) (X : List Pat) (p : Pat) : txt told b (X ++ [p]) = txt told b X ++ (wt told p.1 p.2 ++ [b]) := by
  unfold txt; rw [List.flatMap_append]; simp

theorem txt_len {told : Bool} (b : UInt8) : ∀ {X : List Pat}, (∀ p ∈ X, Img told p) → (txt told b X).length ≤ 126 * X.length
  | [], _ => by simp [txt]
  | p :: X, h => by
    have h1 := (img_written (h p (.head _))).2
    have h2 := txt_len b (X := X) (fun q hq => h q (.tail _ hq))
    unfold txt at h2 ⊢
    rw [List.flatMap_cons]
    simp only [List.length_append, List.length_cons, List.length_nil]
    omega

theorem loop1 {A B : List Pat} (hA : ∀ p ∈ A, Img false p) (hl : A.length ≤ 256) : iter (stanzalaw07_PatsBack_L1 (A, B)) (([] : List UInt8), (0 : Int)) = some (txt false 10 A) := by
  have h := iter_count (body := stanzalaw07_PatsBack_L1 (A, B)) (fun k => (txt false 10 (A.take k), (k : Int))) A.length (r := txt false 10 A) (fun k hk => by
    have hp := hA _ (getD_mem' (d := zP) hk)
    obtain ⟨h1, h2⟩ := img_written hp
    have h3 := txt_len 10 (X := A.take k) (fun q hq => hA q (List.mem_of_mem_take hq))
    rw [List.length_take] at h3
    rw [take_succ' (d := zP) hk, txt_snoc]
    unfold zP at h1 h2 ⊢
    simp only [stanzalaw07_PatsBack_L1, Int.toNat_natCast, h1]
    rw [if_pos (by simp only [decide_eq_true_eq]; omega), if_pos ⟨by omega, by omega⟩]
    simp only [Option.bind_some]
    rw [if_pos (by simp only [List.length_cons, List.length_nil]; omega), if_pos (by simp only [List.length_append, List.length_cons, List.length_nil]; omega), wrap_i64 (by omega) (by omega)]
    rfl) (by
    simp only [stanzalaw07_PatsBack_L1, List.take_length]
    rw [if_neg (by simp)])
  exact h
theorem loop2 {A B : List Pat} (hB : ∀ p ∈ B, Img true p) (hl : B.length ≤ 256) {t : List UInt8} (ht : t.length ≤ 1000000) : iter (stanzalaw07_PatsBack_L2 (A, B)) (t, (0 : Int)) = some (t ++ txt true 32 B) := by
  have h := iter_count (body := stanzalaw07_PatsBack_L2 (A, B)) (fun k => (t ++ txt true 32 (B.take k), (k : Int))) B.length (r := t ++ txt true 32 B) (fun k hk => by
    have hp := hB _ (getD_mem' (d := zP) hk)
    obtain ⟨h1, h2⟩ := img_written hp
    have h3 := txt_len 32 (X := B.take k) (fun q hq => hB q (List.mem_of_mem_take hq))
    rw [List.length_take] at h3
    rw [take_succ' (d := zP) hk, txt_snoc, ← List.append_assoc t]
    unfold zP at h1 h2 ⊢
    simp only [stanzalaw07_PatsBack_L2, Int.toNat_natCast, h1]
    rw [if_pos (by simp only [decide_eq_true_eq]; omega), if_pos ⟨by omega, by omega⟩]
    simp only [Option.bind_some]
    rw [if_pos (by simp only [List.length_cons, List.length_nil]; omega), if_pos (by simp only [List.length_append, List.length_cons, List.length_nil]; omega), wrap_i64 (by omega) (by omega)]
    rfl) (by
    simp only [stanzalaw07_PatsBack_L2, List.take_length]
    rw [if_neg (by simp)])
  have h0 : t ++ txt true 32 (B.take 0) = t := by rw [List.take_zero]; exact List.append_nil t
  rw [h0] at h
  exact h

theorem text_back {A B : List Pat} (h : Well A B) (hl : (txt false 10 A ++ txt true 32 B).length ≤ 4096) : parseT (txt false 10 A ++ txt true 32 B) = ((A, B), 0, 0) := by
  have hs0 : Start [] := .inl rfl
  obtain ⟨b1, b2⟩ := txt_words (b := 32) (by decide) (by decide) B h.b [] hs0
  rw [List.append_nil] at b1 b2
  obtain ⟨a1, _⟩ := txt_words (b := 10) (by decide) (by decide) A h.a _ b2
  rw [b1, ← nums_app] at a1
  have hsp : splL (lt (numsOf (txt false 10 A ++ txt true 32 B))) [] = A.map (fun p => wlt false p.1 p.2) ++ B.map (fun p => wlt true p.1 p.2) := by
    rw [a1]
    have : splL (lt []) [] = [] := rfl
    rw [this, List.append_nil]
  have hn := h.n
  have hf : foldL (splL (lt (numsOf (txt false 10 A ++ txt true 32 B))) []) [] [] = some (A, B) := by
    rw [hsp, foldA A [] [] _ h.a (by simp only [List.length_nil]; omega), List.nil_append, foldB B A [] h.b (by rw [List.nil_append]; exact h.d) (by simp only [List.length_nil]; omega)]
    rfl
  have he := foldL_eq (spl (sg (numsOf (txt false 10 A ++ txt true 32 B))) []) [] []
  rw [splL_eq] at he
  have he' := he.symm.trans hf
  unfold parseT
  rw [if_neg (by omega), sgns_eq (nums_bytes _) (by rw [nums_len]; omega)]
  cases hw : foldW (spl (sg (numsOf (txt false 10 A ++ txt true 32 B))) []) [] [] with
  | inl P =>
    rw [hw] at he'
    cases he'
    rfl
  | inr f => rw [hw] at he'; cases he'

theorem back (d : List UInt8) : stanzalaw07_PatsBack d = some true := by
  unfold stanzalaw07_PatsBack
  rw [awake, Option.bind_some, if_neg (by simp), parse_eq d]
  simp only [Option.bind_some]
  by_cases h1 : (parseT d).2.1 = 0
  · obtain ⟨hd, A, B, f1, p1⟩ := parse_ok h1
    have he := foldL_eq (spl (sg (numsOf d)) []) [] []
    rw [f1, splL_eq] at he
    have hW : Well A B := fold_well _ [] [] (fun w hw c hc => by
      have := splL_mem _ [] (fun c hc => by cases hc) hw c hc
      refine ⟨this.1, fun q => ?_⟩
      rcases this.2 with e | e
      · obtain ⟨s, s1, s2⟩ := List.mem_map.mp e
        rw [← s2]
        exact sg_val (nums_bytes d) s s1 (by rw [s2]; exact q)
      · cases e) ⟨fun p hp => (by cases hp), fun p hp => (by cases hp), .nil, by simp⟩ he
    have hn := hW.n
    have hl1 := txt_len 10 hW.a
    have hS := parse_short d
    rw [p1] at hS ⊢
    simp only [bne_self_eq_false, Bool.false_eq_true, if_false]
    rw [loop1 hW.a (by omega), Option.bind_some, loop2 hW.b (by omega) (by omega), Option.bind_some]
    by_cases hl : 4096 < (txt false 10 A ++ txt true 32 B).length
    · rw [if_pos (by simp only [decide_eq_true_eq]; omega)]
    · rw [if_neg (by simp only [decide_eq_true_eq]; omega), parse_eq (txt false 10 A ++ txt true 32 B), text_back hW (by omega)]
      simp only [Option.bind_some, samepat_self hS.1 (by omega), samepat_self hS.2.1 (by omega), beq_self_eq_true, if_true]
  · have e1 : ((parseT d).2.1 != 0) = true := by simpa using h1
    have hP : (parseT d).1 = (([] : List Pat), ([] : List Pat)) := by
      unfold parseT at h1 ⊢
      split
      · rfl
      · rename_i q
        rw [if_neg q] at h1
        cases hf : foldW (spl (sgns (numsOf d)) []) [] [] with
        | inl p => rw [hf] at h1; exact absurd rfl h1
        | inr f => rfl
    simp only [e1, if_true, hP]
    rfl

abbrev patsBack_Ts : List Ty := [.str]
theorem patsBack_all (x : Tup patsBack_Ts) (hx : WfT patsBack_Ts x) : stanzalaw07_PatsBack x.1 = some true := by
  have _ := hx
  exact back x.1
end Go.Proofs.Ytcdmdcfpjeomfaa.T
