/- Functions of the program as functions on data, and that the program's own come to them. -/
import Derived.Test.YtnjdmbifjbahdaaTvT04y0
import Derived.Test.YtnjdmbifjbahdaaTv04rf
import Derived.Test.YtnjdmbifjbahdaaTvT04ya
import Derived.Test.YtnjdmbifjbahdaaTvT04ya1
namespace Go.Proofs.Ytnjdmbifjbahdaa.T
open Go Go.Tv Go.Proofs
noncomputable section
set_option maxRecDepth 100000
set_option maxHeartbeats 4000000
def auto_Run_L1 (a1 : List (List Int)) (classes1 : List Int) : ((List Int) × Int × Int) → Option (((List Int) × Int × Int) ⊕ (List Int)) := fun (out2, s2, v4) =>
  (if (decide (v4 < (classes1.length : Int))) = true then (if 0 ≤ v4 ∧ v4 < (classes1.length : Int) then (((if (decide ((classes1.getD v4.toNat (0 : Int)) < (0 : Int))) = true then some (true)
  else (if 0 ≤ s2 ∧ s2 < (a1.length : Int) then some ((decide ((classes1.getD v4.toNat (0 : Int)) ≥ ((a1.getD s2.toNat ([] : List Int)).length : Int)))) else none))).bind fun v5 => (if v5 = true then some (Sum.inr out2)
  else (if 0 ≤ s2 ∧ s2 < (a1.length : Int) then (if 0 ≤ (classes1.getD v4.toNat (0 : Int)) ∧ (classes1.getD v4.toNat (0 : Int)) < ((a1.getD s2.toNat ([] : List Int)).length : Int) then (if (out2.length + ([((a1.getD s2.toNat ([] : List Int)).getD ((classes1.getD v4.toNat (0 : Int)).toNat) (0 : Int))] : List Int).length) * 8 ≤ 140737488355328 ∧ out2.length + ([((a1.getD s2.toNat ([] : List Int)).getD ((classes1.getD v4.toNat (0 : Int)).toNat) (0 : Int))] : List Int).length ≤ 9223372036854775807 then some (Sum.inl ((out2 ++ ([((a1.getD s2.toNat ([] : List Int)).getD ((classes1.getD v4.toNat (0 : Int)).toNat) (0 : Int))] : List Int)), ((a1.getD s2.toNat ([] : List Int)).getD ((classes1.getD v4.toNat (0 : Int)).toNat) (0 : Int)), (IntKind.i64.wrap (v4 + (1 : Int))))) else none) else none) else none))) else none)
  else some (Sum.inr out2))
def auto_Run (a1 : List (List Int)) (a2 classes1 : List Int) : Option (List Int) :=
  (if ((a1.length : Int) == (0 : Int)) = true then some ([] : List Int)
  else ((iter (auto_Run_L1 a1 classes1) (([(0 : Int)] : List Int), (0 : Int), (0 : Int))).bind fun out3 => some out3))
theorem auto_Run_ok (β0 β1 β2 : Bool) {a1 : List (List Int)} {a2 : List Int} {classes1 : List Int} {res : List Int} (h : auto_Run a1 a2 classes1 = some res) :
    Pure Try.prog 11 [.agg [.p β0 (.slice (.slice (.int .i64))) a1, .p β1 (.slice (.int .u32)) a2], .p β2 (.slice (.int .i64)) classes1] (wrapR (encs false [⟨(.slice (.int .i64)), res⟩])) := by
  refine Pure.of_body tbok Try.func11 (by kernel_rfl) rfl (nl rfl) (fun Bw w0 => ?_) rfl
  unfold auto_Run at h
  refine G (W_seq (G (W_if h (fun hb1 h => ?_) (fun hb1 h => ?_))))
  · refine G (W_ret (thenQ_ret ?_))
    obtain rfl := sI h
    exact Ret_intro [(.slice (.int .i64))] (by kernel_rfl)
  refine W_skip_to (to_thenG (G (G (W_seq (G (W_block (W_lx h (fun (out2, s2, v4) => mkSt [(2, .adr 0 0 2 0), (5, .sl 1), (6, .i64 s2), (14, .p β2 (.slice (.int .i64)) classes1), (15, .i64 (classes1.length : Int)), (16, .i64 v4)] (ob72 β0 a1 β1 a2 out2) 2) 0 (fun out3 => mkSt [(5, .sl 0)] [(0, .arr 3 (.int .i64) out3)] 1) (gg [] [0, 48]) (fun y o h => ?_) (fun out3 h => ?_))))))))
  · obtain ⟨out2, s2, v4⟩ := y
    unfold auto_Run_L1 at h
    refine G (W_seq (W_if h (fun hb12 h => ?_) (fun hb12 h => ?_)))
    · refine W_skip_to (to_thenG (W_seq (W_block (GC 0 h (fun h => W_seq (W_seq (W_pn h (fun v5 => mkSt [(2, .adr 0 0 2 0), (5, .sl 1), (6, .i64 s2), (8, .i64 (classes1.getD v4.toNat (0 : Int))), (14, .p β2 (.slice (.int .i64)) classes1), (15, .i64 (classes1.length : Int)), (16, .i64 v4), (31, .bo v5)] (ob72 β0 a1 β1 a2 out2) 2) (fun v5 h => ?_) (fun v5 h => ?_))))))))
      · rcases h_ite h with ⟨hb15, h⟩ | ⟨hb15, h⟩
        · refine GNe ⟨[(2, true), (11, true)], []⟩ [(3, 11, oc hb15)] ?_
          exact eN h (gg [] [0, 1])
        obtain ⟨c27, h⟩ := h_guard h
        refine GNe ⟨[(2, false), (11, false)], []⟩ [(3, 6, an hb15), (7, 7, oc (And.intro hb15 c27)), (8, 10, an hb15), (11, 11, oc hb15)] ?_
        exact eN h (gg [] [0, 1])
      refine to_thenG (W_if h (fun hb16 h => ?_) (fun hb16 h => ?_))
      · refine W_exit_to (thenE (blockE_ne rfl (thenE ?_)))
        exact eX h (gg [] [1])
      refine W_skip_to (to_thenG ?_)
      obtain ⟨c30, c31, h⟩ := g2 h
      refine GN a0 [(3, 3, oc c30), (6, 6, oc c31)] (GCe 3 h (fun h => to_block (to_thenG (Ge ?_))))
      exact eB h (gg [] [0, 98])
    refine W_exit_to (thenE ?_)
    exact eX h (gg [] [1])
  refine blockE_eq (to_thenG (G (W_ret ?_)))
  obtain rfl := sI h
  exact Ret_intro [(.slice (.int .i64))] (by kernel_rfl)
end
end Go.Proofs.Ytnjdmbifjbahdaa.T
namespace Go.Proofs.Ytnjdmbifjbahdaa.T
open Go Go.Tv Go.Proofs
theorem find_range {l : List Tree} {p : Nat} : ∀ m, p < pos l m → ∃ j, j < m ∧ pos l j ≤ p ∧ p < pos l (j + 1)
  | 0, h => by simp [pos, cntL] at h
  | m + 1, h => by
    by_cases h' : p < pos l m
    · obtain ⟨j, h1, h2⟩ := find_range m h'
      exact ⟨j, by omega, h2⟩
    · exact ⟨m, by omega, by omega, h⟩
theorem same_range {l : List Tree} {p i j : Nat} (h1 : pos l i ≤ p ∧ p < pos l (i + 1)) (h2 : pos l j ≤ p ∧ p < pos l (j + 1)) : i = j := by
  rcases Nat.lt_trichotomy i j with h | h | h
  · have := pos_mono l (show i + 1 ≤ j by omega); omega
  · exact h
  · have := pos_mono l (show j + 1 ≤ i by omega); omega
section
variable {l : List Tree} {x : MS}
theorem glR (hP : PI l l.length x) {r : Nat} (hr : r < l.length) : Gl (lab x.1) (FG x.2.1 (pos l r) (pos l (r + 1))) ((x.2.2.getD r p0).1 = true) (fun p => me (x.2.2.getD r p0).2.1 p = true) (fun p => me (x.2.2.getD r p0).2.2 p = true) (pos l r) (pos l (r + 1)) (Lg (l.getD r (.node 0 0 []))) := by
  refine hP.gl r hr _ fun p c h1 h2 => ?_
  have := pos_mono l (show r + 1 ≤ l.length by omega)
  have hsl := hP.sl
  exact ⟨fun h => h.2, fun h => ⟨by omega, h⟩⟩
theorem Fe_range (hP : PI l l.length x) {p q : Nat} (h : Fe x.2.1 p q) : ∃ j, j < l.length ∧ (pos l j ≤ p ∧ p < pos l (j + 1)) ∧ pos l j ≤ q ∧ q < pos l (j + 1) := by
  have hfl := hP.fl
  obtain ⟨j, h1, h2, h3⟩ := find_range (l := l) l.length (show p < pos l l.length by have := h.1; omega)
  exact ⟨j, h1, ⟨h2, h3⟩, ((glR hP h1).ff p q ⟨⟨h2, h3⟩, h.2⟩).2⟩
theorem out_ok (hP : PI l l.length x) {w : Wd} {s : S4} (h : Rch x w s) {r : Nat} (hr : r < l.length) : Bit x.2.2 s r ↔ ∃ k, k ≤ w.length ∧ Lg (l.getD r (.node 0 0 [])) (w.drop k) := by
  have hfl := hP.fl
  have hpl := hP.pl
  have hm := pos_mono l (show r + 1 ≤ l.length by omega)
  rw [← Sx.ends (F := Fe x.2.1) (Fst := Fst x.2.2) (glR hP hr) (fun p q h1 h2 => ?_) (fun p q h1 h2 h3 => ?_) (fun p h1 h2 => ?_) w]
  · unfold Bit
    constructor
    · rintro ⟨_, h1 | ⟨p, h1, h2⟩⟩
      · exact .inl h1
      · exact .inr ⟨p, (h.2 p).1 h1, h2⟩
    · rintro (h1 | ⟨p, h1, h2⟩)
      · exact ⟨by omega, .inl h1⟩
      · exact ⟨by omega, .inr ⟨p, (h.2 p).2 h1, h2⟩⟩
  · exact ⟨fun h => ⟨⟨h1, h2⟩, h.2⟩, fun h => ⟨by omega, h.2⟩⟩
  · obtain ⟨j, _, k1, k2⟩ := Fe_range hP h1
    have := same_range k2 ⟨h2, h3⟩
    subst this
    exact k1
  · constructor
    · rintro ⟨i, hi, h3⟩
      have := same_range ((glR hP (show i < l.length by omega)).fi p h3) ⟨h1, h2⟩
      subst this
      exact h3
    · exact fun h3 => ⟨r, by omega, h3⟩
end
theorem Cls.take {n : Nat} {w : Wd} (h : Cls n w) (k : Nat) : Cls n (w.take k) := fun c hc => h c (List.mem_of_mem_take hc)
theorem run_ok {x : MS} {n : Nat} (hn : n ≤ 24) {nx : List (List Int)} {ou : List Int} {st : List S4} (hD : DA x n nx ou st) {w : Wd} (hw : Cls n w) (hl : w.length ≤ 900000) :
    ∃ r, auto_Run nx ou w = some r ∧ r.length = w.length + 1 ∧ ∀ k, k ≤ w.length → ∃ j, j < st.length ∧ r.getD k 0 = (j : Int) ∧ Rch x (w.take k) (st.getD j z4) := by
  have hl1 := hD.l1
  have hne := hD.ne
  have key : ∃ r, iter (auto_Run_L1 nx w) ([0], 0, 0) = some r ∧ r.length = w.length + 1 ∧ ∀ k, k ≤ w.length → ∃ j, j < st.length ∧ r.getD k 0 = (j : Int) ∧ Rch x (w.take k) (st.getD j z4) := by
    refine iter_rule (I := fun q => ∃ (k : Nat) (out : List Int) (j : Nat), q = (out, (j : Int), (k : Int)) ∧ k ≤ w.length ∧ out.length = k + 1 ∧ j < st.length ∧ Rch x (w.take k) (st.getD j z4) ∧ ∀ i, i ≤ k → ∃ j, j < st.length ∧ out.getD i 0 = (j : Int) ∧ Rch x (w.take i) (st.getD j z4)) (μ := fun q => w.length - q.2.2.toNat) _ ?_ ?_
    · rintro q ⟨k, out, j, rfl, hk, ho, hj, hR, hi⟩
      by_cases hlt : k < w.length
      · have hc := hw _ (getD_mem' (d := 0) hlt)
        obtain ⟨c, hcn, hce⟩ : ∃ c : Nat, c < n ∧ w.getD k 0 = (c : Int) := ⟨(w.getD k 0).toNat, by omega, by omega⟩
        have c1 : 0 ≤ (k : Int) ∧ (k : Int) < (w.length : Int) := by omega
        have c2 : 0 ≤ (j : Int) ∧ (j : Int) < (nx.length : Int) := by omega
        have hrow := hD.rw j hj
        obtain ⟨j', h1, h2, h3⟩ := hD.go j hj c hcn
        have hR' := hR.step (by omega) h3
        have ht : w.take (k + 1) = w.take k ++ [(c : Int)] := by rw [take_succ' (d := 0) hlt, hce]
        rw [← ht] at hR'
        refine .inl ⟨(out ++ [(j' : Int)], (j' : Int), ((k + 1 : Nat) : Int)), ?_, ⟨k + 1, _, j', rfl, hlt, by simp [ho], h1, hR', fun i hi' => ?_⟩, by simp only [Int.toNat_natCast]; omega⟩
        · unfold auto_Run_L1
          dsimp only
          rw [if_pos (by simp; omega), if_pos c1, Int.toNat_natCast, hce, wrap_i64 (by omega) (by omega), Int.toNat_natCast, Int.toNat_natCast, h2]
          rw [if_neg (by simp <;> omega), if_pos c2]
          simp only [Option.bind_some]
          rw [if_neg (by rw [hrow]; simp; omega), if_pos c2, if_pos (by rw [hrow]; omega), if_pos (by simp; omega)]
          simp only [Int.natCast_add, Int.natCast_one]
        · by_cases e : i = k + 1
          · subst e
            rw [← ho, getD_append_len, ho]
            exact ⟨j', h1, rfl, hR'⟩
          · rw [getD_app (by omega)]; exact hi i (by omega)
      · have ek : k = w.length := by omega
        subst ek
        refine .inr ⟨out, ?_, ho, hi⟩
        unfold auto_Run_L1
        dsimp only
        rw [if_neg (by simp)]
    · refine ⟨0, [0], 0, rfl, Nat.zero_le _, rfl, by omega, ?_, fun i hi => ⟨0, by omega, ?_, ?_⟩⟩
      · rw [hD.z]; exact Rch.nil x
      · have : i = 0 := by omega
        subst this; rfl
      · have : i = 0 := by omega
        subst this
        rw [hD.z]; exact Rch.nil x
  obtain ⟨r, h1, h2⟩ := key
  refine ⟨r, ?_, h2⟩
  unfold auto_Run
  rw [if_neg (by rw [beq_iff_eq]; omega), h1]
  rfl
end Go.Proofs.Ytnjdmbifjbahdaa.T
namespace Go.Proofs.Ytnjdmbifjbahdaa.T
open Go Go.Tv Go.Proofs
noncomputable section
set_option maxRecDepth 100000
set_option maxHeartbeats 4000000
def stanzalaw04_AutoMore_L1 (i1 : List Int) (r6 : Int) : ((List Int) × Int) → Option (((List Int) × Int) ⊕ (List Int)) := fun (v5, v6) =>
  (if (decide (v6 < (i1.length : Int))) = true then (if 0 ≤ v6 ∧ v6 < (i1.length : Int) then (if ¬ (IntKind.u64.wrap r6) = 0 then (if (v5.length + ([(IntKind.i64.wrap (Int.tmod (IntKind.u64.wrap (i1.getD v6.toNat (0 : Int))) (IntKind.u64.wrap r6)))] : List Int).length) * 8 ≤ 140737488355328 ∧ v5.length + ([(IntKind.i64.wrap (Int.tmod (IntKind.u64.wrap (i1.getD v6.toNat (0 : Int))) (IntKind.u64.wrap r6)))] : List Int).length ≤ 9223372036854775807 then some (Sum.inl ((v5 ++ ([(IntKind.i64.wrap (Int.tmod (IntKind.u64.wrap (i1.getD v6.toNat (0 : Int))) (IntKind.u64.wrap r6)))] : List Int)), (IntKind.i64.wrap (v6 + (1 : Int))))) else none) else none) else none)
  else some (Sum.inr v5))
def stanzalaw04_AutoMore_L2 (x1 : Int) (r5 : List Tree) (r9 : (List (List Int)) × List Int) (r13 : (List (List Int)) × List Int) (r17 r18 : List Int) : (Int) → Option ((Int) ⊕ ((Unit) ⊕ (Bool))) := fun v10 =>
  (if (decide (v10 < (r17.length : Int))) = true then (if 0 ≤ v10 ∧ v10 < (r17.length : Int) then (if 0 ≤ (r17.getD v10.toNat (0 : Int)) ∧ (r17.getD v10.toNat (0 : Int)) < (r9.2.length : Int) then (if 0 ≤ (Int.tmod (IntKind.i64.wrap x1) (IntKind.i64.wrap ((r5.length : Int) + (1 : Int)))) then (if 0 ≤ v10 ∧ v10 < (r18.length : Int) then (if 0 ≤ (r18.getD v10.toNat (0 : Int)) ∧ (r18.getD v10.toNat (0 : Int)) < (r13.2.length : Int) then (if ((bitsOf .and .u32 (r9.2.getD ((r17.getD v10.toNat (0 : Int)).toNat) (0 : Int)) (IntKind.u32.wrap ((IntKind.u32.wrap ((1 : Int) * 2 ^ (min (Int.tmod (IntKind.i64.wrap x1) (IntKind.i64.wrap ((r5.length : Int) + (1 : Int)))).toNat IntKind.u32.bits))) - (1 : Int)))) != (r13.2.getD ((r18.getD v10.toNat (0 : Int)).toNat) (0 : Int))) = true then some (Sum.inr (Sum.inr false))
  else some (Sum.inl (IntKind.i64.wrap (v10 + (1 : Int))))) else none) else none) else none) else none) else none)
  else some (Sum.inr (Sum.inl ())))
def stanzalaw04_AutoMore (d1 d2 d3 : Int) (d4 : List Int) (d5 : List (Int × (List Int) × List Int)) (i1 : List Int) (x1 : Int) : Option (Bool) :=
  ((stanzalaw04_Awake).bind fun r2 =>
  (if (!r2) = true then some false
  else ((stanzalaw04_exprs d1 d2 d3 d4 d5).bind fun (r5, r6) =>
  (if ¬ (IntKind.i64.wrap ((r5.length : Int) + (1 : Int))) = 0 then ((auto_Make r5 r6).bind fun (r9, r10) =>
  (if 0 ≤ (0 : Int) ∧ (0 : Int) ≤ (Int.tmod (IntKind.i64.wrap x1) (IntKind.i64.wrap ((r5.length : Int) + (1 : Int)))) ∧ (Int.tmod (IntKind.i64.wrap x1) (IntKind.i64.wrap ((r5.length : Int) + (1 : Int)))) ≤ (r5.length : Int) then ((auto_Make ((r5.take (Int.tmod (IntKind.i64.wrap x1) (IntKind.i64.wrap ((r5.length : Int) + (1 : Int)))).toNat).drop (0 : Int).toNat) r6).bind fun (r13, r14) =>
  (((if (r10 != (0 : Int)) = true then some (true)
  else (if (r14 != (0 : Int)) = true then some (true)
  else some ((decide ((i1.length : Int) > (200 : Int))))))).bind fun v1 => (if v1 = true then (((if (r10 == (0 : Int)) = true then some (true)
  else some ((r10 == (27 : Int))))).bind fun v2 => some v2)
  else ((iter (stanzalaw04_AutoMore_L1 i1 r6) (([] : List Int), (0 : Int))).bind fun v7 => ((auto_Run r9.1 r9.2 v7).bind fun r17 =>
  ((auto_Run r13.1 r13.2 v7).bind fun r18 =>
  (((if ((r17.length : Int) != (r18.length : Int)) = true then some (true)
  else some ((decide ((r13.2.length : Int) > (r9.2.length : Int)))))).bind fun v8 => (if v8 = true then some false
  else ((iter (stanzalaw04_AutoMore_L2 x1 r5 r9 r13 r17 r18) (0 : Int)).bind fun (r20 : ((Unit) ⊕ (Bool))) => match r20 with
  | .inl _ => some true
  | .inr (r19) => some r19))))))))) else none)) else none))))
theorem stanzalaw04_AutoMore_ok (β3 β5 : Bool) {d1 : Int} {d2 : Int} {d3 : Int} {d4 : List Int} {d5 : List (Int × (List Int) × List Int)} {i1 : List Int} {x1 : Int} {res : Bool} (h : stanzalaw04_AutoMore d1 d2 d3 d4 d5 i1 x1 = some res) :
    Pure Try.prog 7 [.agg [.u8 d1, .u8 d2, .u8 d3, .p β3 (.slice (.int .u8)) d4, .p false (.slice (.prod (.int .u8) Y5)) d5], .p β5 (.slice (.int .i64)) i1, .u8 x1] (wrapR (encs false [⟨.bool, res⟩])) := by
  refine Pure.of_body tbok Try.func7 (by kernel_rfl) rfl (nl rfl) (fun Bw w0 => ?_) rfl
  unfold stanzalaw04_AutoMore at h
  refine G (W_seq ?_)
  obtain ⟨r2, q2, h⟩ := h_bind h
  refine GP 0 (stanzalaw04_Awake_ok q2) (W_if h (fun hb1 h => ?_) (fun hb1 h => ?_))
  · refine G (W_ret (thenQ_ret ?_))
    obtain rfl := sI h
    exact Ret_intro [.bool] (by kernel_rfl)
  refine W_skip_to (to_thenG ?_)
  obtain ⟨⟨r5, r6⟩, q4, h⟩ := h_bind h
  refine GP 1 (stanzalaw04_exprs_ok β3 q4) (GC 5 h (fun h => ?_))
  obtain ⟨⟨r9, r10⟩, q6, h⟩ := h_bind h
  refine GP 2 (auto_Make_ok false q6) ?_
  obtain ⟨c4, h⟩ := h_guard h
  obtain ⟨⟨r13, r14⟩, q8, h⟩ := h_bind h
  have u_1 := (auto_Make_ok false q8)
  refine GN ⟨[], [(4, (oP u_1))]⟩ [(2, 2, oc c4), (4, 4, oc u_1)] (W_seq (W_seq (W_pn h (fun v1 => mkSt [(1, .p β5 (.slice (.int .i64)) i1), (8, .i64 r6), (9, .i64 (Int.tmod (IntKind.i64.wrap x1) (IntKind.i64.wrap ((r5.length : Int) + (1 : Int))))), (10, .adr 0 0 2 0), (11, .i64 r10), (12, .adr 1 0 2 0), (57, .bo v1)] (ob74 r9.1 r9.2 r13.1 r13.2) 2) (fun v1 h => ?_) (fun v1 h => ?_))))
  · rcases h_ite h with ⟨hb6, h⟩ | ⟨hb6, h⟩
    · refine GNe ⟨[(2, true), (5, true)], []⟩ [(3, 5, oc hb6)] ?_
      exact eN h (gg [] [192, 280])
    rcases h_ite h with ⟨hb7, h⟩ | ⟨hb7, h⟩
    · refine GNe ⟨[(2, false), (5, false), (6, true), (10, true)], []⟩ [(3, 4, an hb6), (5, 5, oc hb6), (7, 10, oc hb7)] ?_
      exact eN h (gg [] [192, 280])
    refine GNe ⟨[(2, false), (5, false), (6, false), (10, false)], []⟩ [(3, 4, an hb6), (5, 5, oc hb6), (7, 9, an hb7), (10, 10, oc hb7)] ?_
    exact eN h (gg [] [192, 280])
  refine to_thenG (W_if h (fun hb8 h => ?_) (fun hb8 h => ?_))
  · refine W_seq (W_pn h (fun v2 => mkSt [(6, .bo v2)] [] 0) (fun v2 h => ?_) (fun v2 h => ?_))
    · rcases h_ite h with ⟨hb11, h⟩ | ⟨hb11, h⟩
      · refine GNe ⟨[(2, true), (5, true)], []⟩ [(3, 5, oc hb11)] ?_
        exact eN h (gg [] [])
      refine GNe ⟨[(2, false), (5, false)], []⟩ [(3, 4, an hb11), (5, 5, oc hb11)] ?_
      exact eN h (gg [] [])
    refine to_thenG (W_ret (thenQ_ret ?_))
    obtain rfl := sI h
    exact Ret_intro [.bool] (by kernel_rfl)
  refine W_skip_to (to_thenG (G (W_seq (G (W_block (W_lx h (fun (v5, v6) => mkSt [(8, .i64 r6), (9, .i64 (Int.tmod (IntKind.i64.wrap x1) (IntKind.i64.wrap ((r5.length : Int) + (1 : Int))))), (10, .adr 0 0 2 0), (12, .adr 1 0 2 0), (14, .sl 2), (65, .p β5 (.slice (.int .i64)) i1), (66, .i64 (i1.length : Int)), (67, .i64 v6)] (ob75 r9.1 r9.2 r13.1 r13.2 v5) 3) 0 (fun v7 => mkSt [(9, .i64 (Int.tmod (IntKind.i64.wrap x1) (IntKind.i64.wrap ((r5.length : Int) + (1 : Int))))), (10, .adr 0 0 2 0), (12, .adr 1 0 2 0), (14, .sl 2)] (ob75 r9.1 r9.2 r13.1 r13.2 v7) 3) (gg [] [0, 1, 2]) (fun y o h => ?_) (fun v7 h => ?_)))))))
  · obtain ⟨v5, v6⟩ := y
    unfold stanzalaw04_AutoMore_L1 at h
    refine G (W_seq (W_if h (fun hb14 h => ?_) (fun hb14 h => ?_)))
    · refine W_skip_to (to_thenG (W_seq (W_block (GC 0 h (fun h => ?_)))))
      obtain ⟨c21, c22, h⟩ := g2 h
      refine GNe a0 [(5, 5, oc c21), (8, 8, oc c22)] (to_block (to_thenG (Ge ?_)))
      exact eB h (gg [] [0, 1, 99])
    refine W_exit_to (thenE ?_)
    exact eX h (gg [] [0, 1, 2])
  refine blockE_eq (to_thenG ?_)
  obtain ⟨r17, q11, h⟩ := h_bind h
  obtain ⟨r18, q12, h⟩ := h_bind h
  have u_1 := (auto_Run_ok false false true q11)
  have u_2 := (auto_Run_ok false false true q12)
  refine GD ⟨[], [(2, (oP u_1)), (5, (oP u_2))]⟩ [(2, 2, oc u_1), (5, 5, oc u_2)] (W_seq (W_seq (W_pn h (fun v8 => mkSt [(9, .i64 (Int.tmod (IntKind.i64.wrap x1) (IntKind.i64.wrap ((r5.length : Int) + (1 : Int))))), (10, .adr 0 0 2 0), (12, .adr 1 0 2 0), (17, .p false (.slice (.int .i64)) r17), (18, .p false (.slice (.int .i64)) r18), (100, .bo v8)] (ob74 r9.1 r9.2 r13.1 r13.2) 2) (fun v8 h => ?_) (fun v8 h => ?_))))
  · rcases h_ite h with ⟨hb17, h⟩ | ⟨hb17, h⟩
    · refine GNe ⟨[(5, true), (13, true)], []⟩ [(6, 13, oc hb17)] ?_
      exact eN h (gg [] [0, 1])
    refine GNe ⟨[(5, false), (13, false)], []⟩ [(6, 12, an hb17), (13, 13, oc hb17)] ?_
    exact eN h (gg [] [0, 1])
  refine to_thenG (W_if h (fun hb18 h => ?_) (fun hb18 h => ?_))
  · refine G (W_ret (thenQ_ret ?_))
    obtain rfl := sI h
    exact Ret_intro [.bool] (by kernel_rfl)
  refine W_skip_to (to_thenG (W_seq (G (W_block (W_lp h (fun v10 => mkSt [(9, .i64 (Int.tmod (IntKind.i64.wrap x1) (IntKind.i64.wrap ((r5.length : Int) + (1 : Int))))), (10, .adr 0 0 2 0), (12, .adr 1 0 2 0), (17, .p false (.slice (.int .i64)) r17), (18, .p false (.slice (.int .i64)) r18), (102, .i64 (r17.length : Int)), (103, .i64 v10)] (ob74 r9.1 r9.2 r13.1 r13.2) 2) (postS (postX Try.f7.ntmps 2 (fun _ => mkSt [] [] 0)) (postR tb Try.f7.results.toList (fun r19 => [⟨.bool, r19⟩]))) (gg [] [0, 1]) (fun v10 o h => ?_) (fun r20 h e σ' hq => ?_))))))
  · unfold stanzalaw04_AutoMore_L2 at h
    refine G (W_seq (W_if h (fun hb23 h => ?_) (fun hb23 h => ?_)))
    · refine W_skip_to (to_thenG (W_seq (W_block (G ?_))))
      obtain ⟨c48, c49, c50, c51, h⟩ := g4 h
      obtain ⟨c52, h⟩ := h_guard h
      refine GD a0 [(4, 4, oc c48), (6, 6, oc c49), (9, 9, oc c50), (16, 16, oc c51), (18, 18, oc c52)] (W_if h (fun hb24 h => ?_) (fun hb24 h => ?_))
      · refine G (W_ret ?_)
        obtain rfl := sI h
        refine blockQ_ret (thenQ_ret (round_ret (postS_rr ?_)))
        exact postR_mk (Ret_intro [.bool] (by kernel_rfl))
      refine W_skip_to (to_block (to_thenG (Ge ?_)))
      exact eB h (gg [] [0, 1])
    refine W_exit_to (thenE ?_)
    obtain rfl := sI h
    refine roundE (postS_l ?_)
    exact postX_to (gg [] [])
  rcases r20 with _ | r19
  · obtain ⟨rfl, hle⟩ := hq
    refine use_to ?_ hle
    refine blockE_eq (to_thenG (G (W_ret ?_)))
    obtain rfl := sI h
    exact Ret_intro [.bool] (by kernel_rfl)
  obtain ⟨rfl, hr⟩ := hq
  refine blockQ_ret (thenQ_ret ?_)
  obtain rfl := sI h
  exact hr
end
end Go.Proofs.Ytnjdmbifjbahdaa.T
