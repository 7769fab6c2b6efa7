/- Least: the document's table of what is told apart. -/
import Derived.Test.YtnnbofkcfooljaaTvLp
import Derived.Test.YtnnbofkcfooljaaTvYb
import Derived.Test.YtnnbofkcfooljaaTvT05xc
namespace Go.Proofs.Ytnnbofkcfooljaa.T
open Go Go.Tv Go.Proofs

theorem set_self {α : Type} (d : α) : ∀ (l : List α) (i : Nat), l.set i (l.getD i d) = l
  | [], _ => rfl
  | x :: l, 0 => rfl
  | x :: l, i + 1 => by
    rw [List.getD_cons_succ, List.set_cons_succ, set_self d l i]

def apart (M : List (List Bool)) (i k : Nat) : Bool := (M.getD i []).getD k false
def Dim (M : List (List Bool)) (n : Nat) : Prop := M.length = n ∧ ∀ i, i < n → (M.getD i []).length = n
def set2 (M : List (List Bool)) (i k : Nat) : List (List Bool) := M.set i ((M.getD i []).set k true)

theorem getD_set {α : Type} {l : List α} {i j : Nat} {x d : α} (h : i < l.length) : (l.set i x).getD j d = if j = i then x else l.getD j d := by
  rw [List.getD_eq_getElem?_getD, List.getD_eq_getElem?_getD]
  by_cases e : j = i
  · subst e
    rw [if_pos rfl, List.getElem?_set_self h]; rfl
  · rw [if_neg e, List.getElem?_set_ne (Ne.symm e)]

theorem dim_set2 {M : List (List Bool)} {n i k : Nat} (h : Dim M n) (hi : i < n) : Dim (set2 M i k) n := by
  refine ⟨by unfold set2; rw [List.length_set]; exact h.1, fun j hj => ?_⟩
  unfold set2
  rw [getD_set (by rw [h.1]; exact hi)]
  split
  · rw [List.length_set]; exact h.2 i hi
  · exact h.2 j hj
theorem apart_set2 {M : List (List Bool)} {n i k a b : Nat} (h : Dim M n) (hi : i < n) (hk : k < n) : apart (set2 M i k) a b = if a = i ∧ b = k then true else apart M a b := by
  unfold apart set2
  rw [getD_set (by rw [h.1]; exact hi)]
  by_cases e : a = i
  · subst e
    rw [if_pos rfl, getD_set (by rw [h.2 a hi]; exact hk)]
    by_cases e2 : b = k
    · rw [if_pos e2, if_pos ⟨rfl, e2⟩]
    · rw [if_neg e2, if_neg (fun q => e2 q.2)]
  · rw [if_neg e, if_neg (fun q => e q.1)]

/-! ### how many aren't told apart yet -/
def cnt : List Bool → Nat
  | [] => 0
  | b :: l => (if b = true then 0 else 1) + cnt l
def fls : List (List Bool) → Nat
  | [] => 0
  | r :: M => cnt r + fls M
theorem cnt_set : ∀ {l : List Bool} {k : Nat}, k < l.length → l.getD k false = false → cnt (l.set k true) + 1 = cnt l
  | [], _, h, _ => absurd h (by simp)
  | b :: l, 0, _, h => by
    rw [List.getD_cons_zero] at h
    subst h
    simp only [List.set_cons_zero, cnt, if_true, Bool.false_eq_true, if_false]
    omega
  | b :: l, k + 1, h, h2 => by
    rw [List.getD_cons_succ] at h2
    have := cnt_set (l := l) (k := k) (by simpa using h) h2
    simp only [List.set_cons_succ, cnt]
    omega
theorem fls_set : ∀ {M : List (List Bool)} {i : Nat} {r : List Bool}, i < M.length → fls (M.set i r) + cnt (M.getD i []) = fls M + cnt r
  | [], _, _, h => absurd h (by simp)
  | q :: M, 0, r, _ => by simp only [List.set_cons_zero, fls, List.getD_cons_zero]; omega
  | q :: M, i + 1, r, h => by
    have := fls_set (M := M) (i := i) (r := r) (by simpa using h)
    simp only [List.set_cons_succ, fls, List.getD_cons_succ]
    omega
theorem fls_set2 {M : List (List Bool)} {n i k : Nat} (h : Dim M n) (hi : i < n) (hk : k < n) (ha : apart M i k = false) : fls (set2 M i k) < fls M := by
  have h1 := fls_set (M := M) (i := i) (r := (M.getD i []).set k true) (by rw [h.1]; exact hi)
  have h2 := cnt_set (l := M.getD i []) (k := k) (by rw [h.2 i hi]; exact hk) ha
  unfold set2
  omega

section
variable {nx : List (List Int)} {ot : List Int} {n c : Nat} (h : OkA nx ot n c)
include h

def row0 (ot : List Int) (n i : Nat) : List Bool := (List.range n).map fun k => (ot.getD i 0 != ot.getD k 0)
def M0 (ot : List Int) (n : Nat) : List (List Bool) := (List.range n).map (row0 ot n)

omit h in
theorem fill_step {α : Type} (f : Nat → α) (d : α) {k n : Nat} (hk : k < n) : ((List.range k).map f ++ List.replicate (n - k) d).set k (f k) = (List.range (k + 1)).map f ++ List.replicate (n - (k + 1)) d := by
  rw [List.set_append_right _ _ (by simp), List.length_map, List.length_range, Nat.sub_self, show n - k = (n - (k + 1)) + 1 by omega, List.replicate_succ, List.set_cons_zero, List.range_succ, List.map_append, List.append_assoc]
  rfl

theorem least_L1 {M : List (List Bool)} (hM : M.length = n) {i : Nat} (hi : i < n) : iter (stanzaref04_Least_L1 nx ot (i : Int)) (M.set i (List.replicate n false), (0 : Int)) = some (M.set i (row0 ot n i)) := by
  have hn := h.hn
  have ho := h.ho
  have hsm := h.small
  have hit := iter_count (body := stanzaref04_Least_L1 nx ot (i : Int)) (fun k => (M.set i ((List.range k).map (fun k => (ot.getD i 0 != ot.getD k 0)) ++ List.replicate (n - k) false), (k : Int))) n (r := M.set i (row0 ot n i)) (fun k hk => by
    have hl : ((List.range k).map (fun k => (ot.getD i 0 != ot.getD k 0)) ++ List.replicate (n - k) false).length = n := by simp only [List.length_append, List.length_map, List.length_range, List.length_replicate]; omega
    have hg : (M.set i ((List.range k).map (fun k => (ot.getD i 0 != ot.getD k 0)) ++ List.replicate (n - k) false)).getD i [] = (List.range k).map (fun k => (ot.getD i 0 != ot.getD k 0)) ++ List.replicate (n - k) false := by
      rw [getD_set (by omega), if_pos rfl]
    have hs := fill_step (fun k => (ot.getD i 0 != ot.getD k 0)) false hk
    simp only [stanzaref04_Least_L1, Int.toNat_natCast, hg, List.length_set]
    rw [if_pos (by simp only [decide_eq_true_eq]; omega), if_pos ⟨by omega, by omega⟩, if_pos (by omega), if_pos ⟨by omega, by omega⟩, if_pos ⟨by omega, by omega⟩, if_pos ⟨by omega, by omega⟩, if_pos (by omega), List.set_set, hs, wrap_i64 (by omega) (by omega)]
    rfl) (by
    simp only [stanzaref04_Least_L1]
    rw [if_neg (by simp only [decide_eq_true_eq]; omega), Nat.sub_self, List.replicate_zero, List.append_nil]
    rfl)
  have e0 : (List.range 0).map (fun k => (ot.getD i 0 != ot.getD k 0)) ++ List.replicate (n - 0) false = List.replicate n false := by simp
  rw [e0] at hit
  exact hit

theorem least_L2 : iter (stanzaref04_Least_L2 nx ot) (List.replicate n ([] : List Bool), (0 : Int)) = some (M0 ot n) := by
  have hn := h.hn
  have hsm := h.small
  have hit := iter_count (body := stanzaref04_Least_L2 nx ot) (fun k => ((List.range k).map (row0 ot n) ++ List.replicate (n - k) ([] : List Bool), (k : Int))) n (r := M0 ot n) (fun k hk => by
    have hl : ((List.range k).map (row0 ot n) ++ List.replicate (n - k) ([] : List Bool)).length = n := by simp only [List.length_append, List.length_map, List.length_range, List.length_replicate]; omega
    have h1 := least_L1 h hl hk
    have hs := fill_step (row0 ot n) [] hk
    simp only [stanzaref04_Least_L2, Int.toNat_natCast, hn]
    rw [if_pos (by simp only [decide_eq_true_eq]; omega), if_pos ⟨by omega, by omega, by omega, by omega⟩, if_pos ⟨by omega, by omega⟩, if_pos (by omega), h1, hs, wrap_i64 (by omega) (by omega)]
    rfl) (by
    simp only [stanzaref04_Least_L2]
    rw [if_neg (by simp only [decide_eq_true_eq]; omega), Nat.sub_self, List.replicate_zero, List.append_nil]
    rfl)
  have e0 : (List.range 0).map (row0 ot n) ++ List.replicate (n - 0) ([] : List Bool) = List.replicate n [] := by simp
  rw [e0] at hit
  exact hit

omit h in
theorem getD_range_map {α : Type} {f : Nat → α} {d : α} {i n : Nat} (hi : i < n) : ((List.range n).map f).getD i d = f i := by
  rw [List.getD_eq_getElem?_getD, List.getElem?_map, List.getElem?_range hi]; rfl
omit h in
theorem M0_dim : Dim (M0 ot n) n := by
  refine ⟨by simp [M0], fun i hi => ?_⟩
  unfold M0
  rw [getD_range_map hi]
  simp [row0]
omit h in
theorem M0_apart {i k : Nat} (hi : i < n) (hk : k < n) : apart (M0 ot n) i k = (ot.getD i 0 != ot.getD k 0) := by
  unfold apart M0
  rw [getD_range_map hi]
  unfold row0
  rw [getD_range_map hk]

/-! ### one pass -/
def Sound (nx : List (List Int)) (ot : List Int) (n c : Nat) (M : List (List Bool)) : Prop := ∀ a b, a < n → b < n → apart M a b = true → ¬ Leq nx ot c a b
def ClosedAt (nx : List (List Int)) (c : Nat) (M : List (List Bool)) (i k : Nat) : Prop := apart M i k = true ∨ ∀ j, j < c → apart M (dl nx i j) (dl nx k j) = false
/-- More is told apart. -/
structure Ext (nx : List (List Int)) (ot : List Int) (n c : Nat) (M M' : List (List Bool)) : Prop where
  dim : Dim M' n
  sound : Sound nx ot n c M'
  less : fls M' < fls M
  more : ∀ a b, apart M a b = true → apart M' a b = true

theorem ext_set2 {M : List (List Bool)} (hd : Dim M n) (hs : Sound nx ot n c M) {i k : Nat} (hi : i < n) (hk : k < n) (ha : apart M i k = false) {j : Nat} (hj : j < c) (hap : apart M (dl nx i j) (dl nx k j) = true) : Ext nx ot n c M (set2 M i k) where
  dim := dim_set2 hd hi
  sound := fun a b hal hbl q => by
    rw [apart_set2 hd hi hk] at q
    by_cases e : a = i ∧ b = k
    · obtain ⟨rfl, rfl⟩ := e
      exact fun hl => hs _ _ (h.dl_lt hi hj) (h.dl_lt hk hj) hap (leq_step hj hl)
    · rw [if_neg e] at q
      exact hs a b hal hbl q
  less := fls_set2 hd hi hk ha
  more := fun a b q => by
    rw [apart_set2 hd hi hk]
    split
    · rfl
    · exact q

omit h in
theorem L3_done {M : List (List Bool)} (hd : Dim M n) (hn : nx.length = n) {i k : Nat} (hi : i < n) (hk : k < n) (hsm : n ≤ 1000) (ha : apart M i k = true) (ch : Bool) (j : Nat) : iter (stanzaref04_Least_L3 nx (i : Int) (k : Int)) (M, ch, (j : Int)) = some (M, ch) := by
  have h1 := hd.1
  have h2 := hd.2 i hi
  unfold apart at ha
  rw [iter_eq]
  simp only [stanzaref04_Least_L3, Int.toNat_natCast, set_self, ha]
  rw [if_pos ⟨by omega, by omega⟩]
  by_cases q : (j : Int) < ((nx.getD i []).length : Int)
  · rw [if_pos (by simpa using q), if_pos ⟨by omega, by omega⟩, if_pos (by omega), if_pos ⟨by omega, by omega⟩, if_pos (by omega)]
    rfl
  · rw [if_neg (by simpa using q)]
    rfl

theorem least_L3 {M : List (List Bool)} (hd : Dim M n) (hs : Sound nx ot n c M) {i k : Nat} (hi : i < n) (hk : k < n) (ch : Bool) : ∀ (m j : Nat), j + m = c → (∀ j', j' < j → apart M (dl nx i j') (dl nx k j') = false) →
    ∃ r, iter (stanzaref04_Least_L3 nx (i : Int) (k : Int)) (M, ch, (j : Int)) = some r ∧ ((r = (M, ch) ∧ ClosedAt nx c M i k) ∨ (r.2 = true ∧ Ext nx ot n c M r.1)) := by
  have hn := h.hn
  have hsm := h.small
  have hcs := h.cs
  have h1 := hd.1
  have h2 := hd.2 i hi
  have hri := h.row i hi
  have hrk := h.row k hk
  intro m
  induction m with
  | zero =>
    intro j hj hcl
    refine iter_case ⟨.inr (M, ch), ?_, .inl ⟨rfl, .inr (by rw [← hj]; exact hcl)⟩⟩
    simp only [stanzaref04_Least_L3, Int.toNat_natCast]
    rw [if_pos ⟨by omega, by omega⟩, if_neg (by simp only [decide_eq_true_eq]; omega)]
    rfl
  | succ m ih =>
    intro j hj hcl
    cases ha : apart M i k with
    | true => exact ⟨_, L3_done hd hn hi hk hsm ha ch j, .inl ⟨rfl, .inl ha⟩⟩
    | false =>
      have hjc : j < c := by omega
      have hwi := h.way i j hi hjc
      have hwk := h.way k j hk hjc
      have hdi := h.dl_lt hi hjc
      have hdk := h.dl_lt hk hjc
      have hrd := hd.2 _ hdi
      have e1 : IntKind.i64.wrap ((j : Int) + 1) = ((j + 1 : Nat) : Int) := by rw [wrap_i64 (by omega) (by omega)]; omega
      have ha' := ha
      unfold apart at ha'
      refine iter_case ?_
      simp only [stanzaref04_Least_L3, Int.toNat_natCast, set_self, ha', e1]
      rw [if_pos ⟨by omega, by omega⟩, if_pos (by simp only [decide_eq_true_eq]; omega), if_pos ⟨by omega, by omega⟩, if_pos (by omega), if_pos ⟨by omega, by omega⟩, if_pos (by omega)]
      simp only [Option.bind_some, Bool.not_false, if_true]
      rw [if_pos ⟨by omega, by omega⟩, if_pos ⟨by omega, by omega⟩, if_pos ⟨by omega, by omega⟩]
      have f1 : ((nx.getD i []).getD j 0).toNat = dl nx i j := rfl
      have f2 : ((nx.getD k []).getD j 0).toNat = dl nx k j := rfl
      simp only [f1, f2]
      rw [if_pos (by omega), if_pos ⟨by omega, by omega⟩, if_pos ⟨by omega, by omega⟩, if_pos ⟨by omega, by omega⟩, if_pos (by omega)]
      cases hap : apart M (dl nx i j) (dl nx k j) with
      | true =>
        have hap' := hap
        unfold apart at hap'
        simp only [hap', if_true]
        rw [if_pos ⟨by omega, by omega⟩, if_pos (by omega), if_pos ⟨by omega, by omega⟩, if_pos (by omega)]
        simp only [Option.bind_some]
        refine ⟨_, rfl, ?_⟩
        have hx := ext_set2 h hd hs hi hk ha hjc hap
        exact ⟨_, L3_done hx.dim hn hi hk hsm (by rw [apart_set2 hd hi hk, if_pos ⟨rfl, rfl⟩]) true (j + 1), .inr ⟨rfl, hx⟩⟩
      | false =>
        have hap' := hap
        unfold apart at hap'
        simp only [hap', Bool.false_eq_true, if_false, Option.bind_some]
        refine ⟨_, rfl, ?_⟩
        exact ih (j + 1) (by omega) (fun j' hj' => by
          by_cases e : j' = j
          · subst e; exact hap
          · exact hcl j' (by omega))
end
end Go.Proofs.Ytnnbofkcfooljaa.T
namespace Go.Proofs.Ytnnbofkcfooljaa.T
open Go Go.Tv Go.Proofs

section
variable {nx : List (List Int)} {ot : List Int} {n c : Nat} (h : OkA nx ot n c)

theorem Ext.trans {M M' M'' : List (List Bool)} (a : Ext nx ot n c M M') (b : Ext nx ot n c M' M'') : Ext nx ot n c M M'' :=
  ⟨b.dim, b.sound, Nat.lt_trans b.less a.less, fun x y q => b.more x y (a.more x y q)⟩

/-- How far a pass has come. -/
def Pass (nx : List (List Int)) (ot : List Int) (n c : Nat) (M : List (List Bool)) (ch : Bool) (P : Prop) (s : List (List Bool) × Bool) : Prop := (s = (M, ch) ∧ P) ∨ (s.2 = true ∧ Ext nx ot n c M s.1)

include h
theorem least_L4 {M : List (List Bool)} (hd : Dim M n) (hs : Sound nx ot n c M) {i : Nat} (hi : i < n) (ch : Bool) :
    ∃ r, iter (stanzaref04_Least_L4 nx (i : Int)) (M, ch, (0 : Int)) = some r ∧ Pass nx ot n c M ch (∀ k, k < n → ClosedAt nx c M i k) r := by
  have hn := h.hn
  have hsm := h.small
  refine iter_rule (body := stanzaref04_Least_L4 nx (i : Int)) (fun s => ∃ k : Nat, s.2.2 = (k : Int) ∧ k ≤ n ∧ Pass nx ot n c M ch (∀ j, j < k → ClosedAt nx c M i j) (s.1, s.2.1)) (fun s => n - s.2.2.toNat) _ (fun ⟨A, b, kk⟩ ⟨k, e, hk, hp⟩ => ?_) ⟨0, rfl, Nat.zero_le _, .inl ⟨rfl, fun j hj => absurd hj (by omega)⟩⟩
  simp only at e hp
  subst e
  by_cases q : k < n
  · left
    have hAd : Dim A n ∧ Sound nx ot n c A := by
      rcases hp with ⟨e, _⟩ | ⟨_, x⟩
      · cases e; exact ⟨hd, hs⟩
      · exact ⟨x.dim, x.sound⟩
    obtain ⟨r, r1, r2⟩ := least_L3 h hAd.1 hAd.2 hi q b c 0 (by omega) (fun j hj => absurd hj (by omega))
    have r1' : iter (stanzaref04_Least_L3 nx (i : Int) (k : Int)) (A, b, (0 : Int)) = some r := r1
    refine ⟨(r.1, r.2, ((k + 1 : Nat) : Int)), ?_, ⟨k + 1, rfl, q, ?_⟩, by simp only; omega⟩
    · simp only [stanzaref04_Least_L4]
      rw [if_pos (by simp only [decide_eq_true_eq]; omega), r1', wrap_i64 (by omega) (by omega)]
      rfl
    · rcases hp with ⟨e, hc⟩ | ⟨e, x⟩
      · cases e
        rcases r2 with ⟨e2, hc2⟩ | ⟨e2, x2⟩
        · refine .inl ⟨e2, fun j hj => ?_⟩
          by_cases ej : j = k
          · subst ej; exact hc2
          · exact hc j (by omega)
        · exact .inr ⟨e2, x2⟩
      · rcases r2 with ⟨e2, _⟩ | ⟨e2, x2⟩
        · rw [e2]; exact .inr ⟨e, x⟩
        · exact .inr ⟨e2, x.trans x2⟩
  · right
    refine ⟨(A, b), ?_, ?_⟩
    · simp only [stanzaref04_Least_L4]
      rw [if_neg (by simp only [decide_eq_true_eq]; omega)]
    · have : k = n := by omega
      subst this
      exact hp

theorem least_L5 {M : List (List Bool)} (hd : Dim M n) (hs : Sound nx ot n c M) (ch : Bool) :
    ∃ r, iter (stanzaref04_Least_L5 nx) (M, ch, (0 : Int)) = some r ∧ Pass nx ot n c M ch (∀ i k, i < n → k < n → ClosedAt nx c M i k) r := by
  have hn := h.hn
  have hsm := h.small
  refine iter_rule (body := stanzaref04_Least_L5 nx) (fun s => ∃ i : Nat, s.2.2 = (i : Int) ∧ i ≤ n ∧ Pass nx ot n c M ch (∀ j k, j < i → k < n → ClosedAt nx c M j k) (s.1, s.2.1)) (fun s => n - s.2.2.toNat) _ (fun ⟨A, b, kk⟩ ⟨i, e, hk, hp⟩ => ?_) ⟨0, rfl, Nat.zero_le _, .inl ⟨rfl, fun j _ hj => absurd hj (by omega)⟩⟩
  simp only at e hp
  subst e
  by_cases q : i < n
  · left
    have hAd : Dim A n ∧ Sound nx ot n c A := by
      rcases hp with ⟨e, _⟩ | ⟨_, x⟩
      · cases e; exact ⟨hd, hs⟩
      · exact ⟨x.dim, x.sound⟩
    obtain ⟨r, r1, r2⟩ := least_L4 h hAd.1 hAd.2 q b
    refine ⟨(r.1, r.2, ((i + 1 : Nat) : Int)), ?_, ⟨i + 1, rfl, q, ?_⟩, by simp only; omega⟩
    · simp only [stanzaref04_Least_L5]
      rw [if_pos (by simp only [decide_eq_true_eq]; omega), r1, wrap_i64 (by omega) (by omega)]
      rfl
    · rcases hp with ⟨e, hc⟩ | ⟨e, x⟩
      · cases e
        rcases r2 with ⟨e2, hc2⟩ | ⟨e2, x2⟩
        · refine .inl ⟨e2, fun j k hj hkn => ?_⟩
          by_cases ej : j = i
          · subst ej; exact hc2 k hkn
          · exact hc j k (by omega) hkn
        · exact .inr ⟨e2, x2⟩
      · rcases r2 with ⟨e2, _⟩ | ⟨e2, x2⟩
        · rw [e2]; exact .inr ⟨e, x⟩
        · exact .inr ⟨e2, x.trans x2⟩
  · right
    refine ⟨(A, b), ?_, ?_⟩
    · simp only [stanzaref04_Least_L5]
      rw [if_neg (by simp only [decide_eq_true_eq]; omega)]
    · have : i = n := by omega
      subst this
      exact hp

/-- What is told apart in the end. -/
theorem least_L6 : ∃ M, iter (stanzaref04_Least_L6 nx) (M0 ot n, true) = some M ∧ Dim M n ∧ ∀ s t, s < n → t < n → (apart M s t = false ↔ Leq nx ot c s t) := by
  have hs0 : Sound nx ot n c (M0 ot n) := fun a b ha hb q hl => by
    rw [M0_apart ha hb] at q
    have := hl [] (fun k hk => by cases hk)
    simp only [run, List.foldl_nil] at this
    rw [this] at q
    simp at q
  obtain ⟨M, m1, m2, m3, m4, m5⟩ := iter_rule (body := stanzaref04_Least_L6 nx) (fun s => Dim s.1 n ∧ Sound nx ot n c s.1 ∧ (∀ a b, apart (M0 ot n) a b = true → apart s.1 a b = true) ∧ (s.2 = false → ∀ i k, i < n → k < n → ClosedAt nx c s.1 i k))
    (fun s => 2 * fls s.1 + (if s.2 = true then 1 else 0)) (fun M => Dim M n ∧ Sound nx ot n c M ∧ (∀ a b, apart (M0 ot n) a b = true → apart M a b = true) ∧ ∀ i k, i < n → k < n → ClosedAt nx c M i k)
    (fun ⟨A, b⟩ ⟨a1, a2, a3, a4⟩ => by
      simp only at a1 a2 a3 a4
      cases b with
      | false =>
        right
        exact ⟨A, by simp [stanzaref04_Least_L6], a1, a2, a3, a4 rfl⟩
      | true =>
        left
        obtain ⟨r, r1, r2⟩ := least_L5 h a1 a2 false
        refine ⟨r, ?_, ?_⟩
        · simp only [stanzaref04_Least_L6, if_true]
          rw [r1]
          rfl
        · rcases r2 with ⟨e, hc⟩ | ⟨e, x⟩
          · rw [e]
            exact ⟨⟨a1, a2, a3, fun _ => hc⟩, by simp⟩
          · refine ⟨⟨x.dim, x.sound, fun a b q => x.more a b (a3 a b q), fun q => by rw [e] at q; cases q⟩, ?_⟩
            have := x.less
            simp only [e, if_true]
            omega)
    (s := (M0 ot n, true)) ⟨M0_dim, hs0, fun _ _ q => q, fun q => by cases q⟩
  refine ⟨M, m1, m2, fun s t hs ht => ⟨fun q => ?_, fun q => ?_⟩⟩
  · have key : ∀ (w : List Nat) (s t : Nat), s < n → t < n → (∀ k ∈ w, k < c) → apart M s t = false → ot.getD (run nx s w) 0 = ot.getD (run nx t w) 0 := fun w => by
      induction w with
      | nil =>
        intro s t hs ht _ q
        have : apart (M0 ot n) s t = false := by
          cases e : apart (M0 ot n) s t with
          | false => rfl
          | true => rw [m4 s t e] at q; cases q
        rw [M0_apart hs ht] at this
        simpa [run] using this
      | cons k w ih =>
        intro s t hs ht hw q
        have hk := hw k (.head _)
        rcases m5 s t hs ht with e | e
        · rw [q] at e; cases e
        · exact ih _ _ (h.dl_lt hs hk) (h.dl_lt ht hk) (fun j hj => hw j (.tail _ hj)) (e k hk)
    exact fun w hw => key w s t hs ht hw q
  · cases e : apart M s t with
    | false => rfl
    | true => exact absurd q (m3 s t hs ht e)

omit h in
/-- The least state that isn't told apart from it. -/
def rep (M : List (List Bool)) (s : Nat) : Nat := firstN (fun k => !apart M s k) s

section
variable {M : List (List Bool)} (hd : Dim M n) (hl : ∀ s t, s < n → t < n → (apart M s t = false ↔ Leq nx ot c s t))
include hd hl

omit h hd in
theorem rep_spec {s : Nat} (hs : s < n) : rep M s ≤ s ∧ Leq nx ot c s (rep M s) ∧ ∀ k, k < rep M s → ¬ Leq nx ot c s k := by
  have h1 := firstN_le (fun k => !apart M s k) s
  refine ⟨h1, ?_, fun k hk q => ?_⟩
  · by_cases e : rep M s = s
    · rw [e]; exact fun w _ => rfl
    · have h2 := firstN_at (fun k => !apart M s k) s (by unfold rep at e; omega)
      have h2' : apart M s (rep M s) = false := by simpa [rep] using h2
      exact (hl s _ hs (by unfold rep; omega)).1 h2'
  · have h2 := firstN_lt (fun k => !apart M s k) s hk
    have h2' : apart M s k = true := by simpa using h2
    have := (hl s k hs (by unfold rep at hk; omega)).2 q
    rw [h2'] at this; cases this
omit h hd in
theorem rep_iff {s t : Nat} (hs : s < n) (ht : t < n) : rep M s = rep M t ↔ Leq nx ot c s t := by
  obtain ⟨a1, a2, a3⟩ := rep_spec hl hs
  obtain ⟨b1, b2, b3⟩ := rep_spec hl ht
  constructor
  · intro e
    rw [← e] at b2
    exact fun w hw => (a2 w hw).trans (b2 w hw).symm
  · intro e
    rcases Nat.lt_trichotomy (rep M s) (rep M t) with q | q | q
    · exact absurd (fun w hw => (e w hw).symm.trans (a2 w hw)) (b3 _ q)
    · exact q
    · exact absurd (fun w hw => (e w hw).trans (b2 w hw)) (a3 _ q)
omit h hd in
theorem rep_rep {s : Nat} (hs : s < n) : rep M (rep M s) = rep M s := by
  obtain ⟨a1, a2, a3⟩ := rep_spec hl hs
  exact (rep_iff hl (by omega) hs).2 (fun w hw => (a2 w hw).symm)

theorem least_L7 {s : Nat} (hs : s < n) {o : List Int} (ho : o.length = n) : iter (stanzaref04_Least_L7 (s : Int)) (M, o.set s (s : Int), (s : Int)) = some (M, o.set s (rep M s : Int)) := by
  have hsm := h.small
  have h1 := hd.1
  have h2 := hd.2 s hs
  have hself : apart M s s = false := (hl s s hs hs).2 (fun w _ => rfl)
  obtain ⟨r, r1, r2⟩ := iter_rule (body := stanzaref04_Least_L7 (s : Int)) (fun x => ∃ t v : Nat, t ≤ s + 1 ∧ x.1 = M ∧ x.2.1 = o.set s (v : Int) ∧ x.2.2 = (s : Int) - (t : Int) ∧ v ≤ s ∧ apart M s v = false ∧ ∀ k, k < v → s < k + t → apart M s k = true) (fun x => (x.2.2 + 1).toNat) (fun r => r = (M, o.set s (rep M s : Int)))
    (fun ⟨A, ov, kk⟩ ⟨t, v, t1, e1, e2, e3, v1, v2, v3⟩ => by
      simp only at e1 e2 e3
      subst e1 e2 e3
      by_cases q : t ≤ s
      · left
        obtain ⟨j, hj⟩ : ∃ j : Nat, (s : Int) - (t : Int) = (j : Int) ∧ j + t = s := ⟨s - t, by omega, by omega⟩
        have hw : IntKind.i64.wrap ((j : Int) - 1) = (j : Int) - 1 := wrap_i64 (by omega) (by omega)
        simp only [hj.1]
        cases ha : apart A s j with
        | true =>
          have ha' := ha
          unfold apart at ha'
          refine ⟨(A, o.set s (v : Int), (j : Int) - 1), ?_, ⟨t + 1, v, by omega, rfl, rfl, by simp only; omega, v1, v2, fun k hk hk2 => ?_⟩, by simp only; omega⟩
          · simp only [stanzaref04_Least_L7, Int.toNat_natCast, set_self, ha', hw]
            rw [if_pos (by simp only [decide_eq_true_eq]; omega), if_pos ⟨by omega, by omega⟩, if_pos (by omega), if_pos ⟨by omega, by omega⟩, if_pos (by omega)]
            rfl
          · by_cases e : k = j
            · subst e; exact ha
            · exact v3 k hk (by omega)
        | false =>
          have ha' := ha
          unfold apart at ha'
          refine ⟨(A, o.set s (j : Int), (j : Int) - 1), ?_, ⟨t + 1, j, by omega, rfl, rfl, by simp only; omega, by omega, ha, fun k hk hk2 => by omega⟩, by simp only; omega⟩
          · simp only [stanzaref04_Least_L7, Int.toNat_natCast, set_self, ha', hw, List.length_set, List.set_set]
            rw [if_pos (by simp only [decide_eq_true_eq]; omega), if_pos ⟨by omega, by omega⟩, if_pos (by omega), if_pos ⟨by omega, by omega⟩, if_pos (by omega)]
            simp only [Bool.not_false, if_true]
            rw [if_pos ⟨by omega, by omega⟩, if_pos (by omega)]
            rfl
      · right
        have ht : t = s + 1 := by omega
        refine ⟨(A, o.set s (v : Int)), ?_, ?_⟩
        · simp only [stanzaref04_Least_L7]
          rw [if_neg (by simp only [decide_eq_true_eq]; omega)]
        · have : rep A s = v := firstN_uniq v1 (fun j hj => by rw [v3 j hj (by omega)]; rfl) (fun _ => by rw [v2]; rfl)
          rw [this])
    (s := (M, o.set s (s : Int), (s : Int))) ⟨0, s, by omega, rfl, rfl, by simp, Nat.le_refl _, hself, fun k hk hk2 => by omega⟩
  rw [r1, r2]

theorem least_L8 : iter (stanzaref04_Least_L8 nx) (M, List.replicate n (0 : Int), (0 : Int)) = some ((List.range n).map fun s => ((rep M s : Nat) : Int)) := by
  have hn := h.hn
  have hsm := h.small
  have hit := iter_count (body := stanzaref04_Least_L8 nx) (fun k => (M, (List.range k).map (fun s => ((rep M s : Nat) : Int)) ++ List.replicate (n - k) (0 : Int), (k : Int))) n (r := (List.range n).map fun s => ((rep M s : Nat) : Int)) (fun k hk => by
    have hlen : ((List.range k).map (fun s => ((rep M s : Nat) : Int)) ++ List.replicate (n - k) (0 : Int)).length = n := by simp only [List.length_append, List.length_map, List.length_range, List.length_replicate]; omega
    have h7 := least_L7 h hd hl hk hlen
    have hs := fill_step (fun s => ((rep M s : Nat) : Int)) 0 hk
    simp only [stanzaref04_Least_L8, Int.toNat_natCast, hn]
    rw [if_pos (by simp only [decide_eq_true_eq]; omega), if_pos ⟨by omega, by omega⟩, if_pos (by omega), h7, hs, wrap_i64 (by omega) (by omega)]
    rfl) (by
    simp only [stanzaref04_Least_L8]
    rw [if_neg (by simp only [decide_eq_true_eq]; omega), Nat.sub_self, List.replicate_zero, List.append_nil])
  have e0 : (List.range 0).map (fun s => ((rep M s : Nat) : Int)) ++ List.replicate (n - 0) (0 : Int) = List.replicate n 0 := by simp
  rw [e0] at hit
  exact hit
end
end
end Go.Proofs.Ytnnbofkcfooljaa.T
namespace Go.Proofs.Ytnnbofkcfooljaa.T
open Go Go.Tv Go.Proofs

theorem idxOf_firstN (t : Int) : ∀ (l : List Int), l.idxOf t = firstN (fun j => l.getD j 0 == t) l.length
  | [] => rfl
  | x :: l => by
    rw [List.idxOf_cons, List.length_cons]
    simp only [firstN, List.getD_cons_zero, List.getD_cons_succ]
    by_cases e : (x == t) = true
    · rw [if_pos e]
      simp only [e, cond_true]
    · have e' : (x == t) = false := by simpa using e
      rw [if_neg e, e', cond_false, idxOf_firstN t l]

/-- The automaton with each way to the least state of its kind. -/
def nxR (M : List (List Bool)) (nx : List (List Int)) : List (List Int) := nx.map fun r => r.map fun x => ((rep M x.toNat : Nat) : Int)
theorem nxR_get {M : List (List Bool)} {nx : List (List Int)} {s : Nat} : (nxR M nx).getD s [] = (nx.getD s []).map fun x => ((rep M x.toNat : Nat) : Int) := by
  unfold nxR
  rw [List.getD_eq_getElem?_getD, List.getD_eq_getElem?_getD, List.getElem?_map]
  cases nx[s]? <;> rfl
theorem ways_R {M : List (List Bool)} {nx : List (List Int)} {s : Nat} : ways (nxR M nx) s = (ways nx s).map (rep M) := by
  unfold ways
  rw [nxR_get, List.map_map, List.map_map]
  congr 1

theorem rep_le (M : List (List Bool)) (s : Nat) : rep M s ≤ s := firstN_le _ _
def kdI (t : Nat) : Int := (t : Int)

section
variable {nx : List (List Int)} {ot : List Int} {n c : Nat} (h : OkA nx ot n c) {M : List (List Bool)} (hl : ∀ s t, s < n → t < n → (apart M s t = false ↔ Leq nx ot c s t))
include h hl

omit hl in
theorem okR : OkA (nxR M nx) ot n c where
  hn := by unfold nxR; rw [List.length_map]; exact h.hn
  ho := h.ho
  pos := h.pos
  small := h.small
  cs := h.cs
  row := fun s hs => by rw [nxR_get, List.length_map]; exact h.row s hs
  way := fun s k hs hk => by
    have hw := h.way s k hs hk
    have hr := h.row s hs
    rw [nxR_get]
    have : ((nx.getD s []).map fun x => ((rep M x.toNat : Nat) : Int)).getD k 0 = ((rep M ((nx.getD s []).getD k 0).toNat : Nat) : Int) := by
      have hk' : k < (nx.getD s []).length := by omega
      rw [List.getD_eq_getElem?_getD, List.getElem?_map, List.getElem?_eq_getElem hk', getD_lt hk']; rfl
    rw [this]
    have := rep_le M ((nx.getD s []).getD k 0).toNat
    omega
  out := h.out

omit hl in
theorem least_L10 {L : List Nat} (hL : Lane kdI n n L) {i : Nat} (hi : i < L.length) :
    iter (stanzaref04_Least_L10 nx ((List.range n).map fun s => ((rep M s : Nat) : Int)) (i : Int)) (ints L, ([] : List Int), (0 : Int)) =
      some (ints (walk kdI L (ways (nxR M nx) (L.getD i 0)) []).1, (walk kdI L (ways (nxR M nx) (L.getD i 0)) []).2) := by
  have hsm := h.small
  have hn := h.hn
  have hcs := h.cs
  have hs : L.getD i 0 < n := hL.lt _ (getD_mem' hi)
  have hdst : ∀ k, k < c → ((nx.getD (L.getD i 0) []).getD k 0).toNat < n := fun k hk => h.dl_lt hs hk
  have hkI : ∀ s, s < n → 0 ≤ kdI s ∧ kdI s < (n : Nat) := fun s hs => by unfold kdI; omega
  have hall := ways_lt (okR h (M := M)) hs
  generalize hsd : L.getD i 0 = s at hs ⊢ hdst
  have hrow := h.row s hs
  have hwl : (ways (nxR M nx) s).length = c := by rw [ways_R, List.length_map]; unfold ways; rw [List.length_map, hrow]
  refine iter_count (body := stanzaref04_Least_L10 nx ((List.range n).map fun s => ((rep M s : Nat) : Int)) (i : Int))
    (fun k => (ints (walk kdI L ((ways (nxR M nx) s).take k) []).1, (walk kdI L ((ways (nxR M nx) s).take k) []).2, (k : Int))) c
    (r := (ints (walk kdI L (ways (nxR M nx) s) []).1, (walk kdI L (ways (nxR M nx) s) []).2)) (fun k hk => ?_) ?_
  · have hd := hdst k hk
    have hw := h.way s k hs hk
    have hgt : (ways (nxR M nx) s)[k]? = some (rep M ((nx.getD s []).getD k 0).toNat) := by
      have hkl : k < (nx.getD s []).length := by omega
      rw [ways_R]
      unfold ways
      rw [List.getElem?_map, List.getElem?_map, List.getElem?_eq_getElem hkl, getD_lt hkl]; rfl
    have htk : (ways (nxR M nx) s).take (k + 1) = (ways (nxR M nx) s).take k ++ [rep M ((nx.getD s []).getD k 0).toNat] := by rw [List.take_add_one, hgt]; rfl
    have hLw := Lane.walked ((ways (nxR M nx) s).take k) L [] hL (fun t ht => hall t (by rw [hsd]; exact List.mem_of_mem_take ht))
    have hle := hLw.le hkI
    have hr := walk_len (kd := kdI) ((ways (nxR M nx) s).take k) L []
    obtain ⟨l, eg⟩ := walk_grows (kd := kdI) (ts := (ways (nxR M nx) s).take k) (ln := L) (r := [])
    rw [htk, walk_snoc]
    simp only [List.length_take, List.length_nil, hwl] at hr
    generalize hW : walk kdI L ((ways (nxR M nx) s).take k) [] = W at hLw hle hr eg
    obtain ⟨A, r⟩ := W
    simp only at hLw hle hr eg ⊢
    have hiA : i < A.length := by rw [eg, List.length_append]; omega
    have hAi : (ints A).getD i 0 = (s : Int) := by
      rw [ints_get hiA]
      congr 1
      rw [← hsd, eg, List.getD_eq_getElem?_getD, List.getD_eq_getElem?_getD, List.getElem?_append_left hi]
    have hrp := rep_le M ((nx.getD s []).getD k 0).toNat
    have eon : ((List.range n).map fun s => ((rep M s : Nat) : Int)).getD ((nx.getD s []).getD k 0).toNat 0 = ((rep M ((nx.getD s []).getD k 0).toNat : Nat) : Int) := getD_range_map hd
    generalize hT : rep M ((nx.getD s []).getD k 0).toNat = T at hrp eon ⊢
    have hmap : A.map kdI = ints A := rfl
    have hix : (A.map kdI).idxOf (kdI T) ≤ A.length := by rw [hmap, idxOf_firstN]; have h1 := firstN_le (fun j => (ints A).getD j 0 == kdI T) (ints A).length; have h2 := ints_len A; omega
    -- the index
    have h9 : iter (stanzaref04_Least_L9 nx ((List.range n).map fun s => ((rep M s : Nat) : Int)) (i : Int) (ints A) (k : Int)) (0 : Int) = some (((A.map kdI).idxOf (kdI T) : Nat) : Int) := by
      have hlt := fun j (hj : j < firstN (fun j => (ints A).getD j 0 == kdI T) (ints A).length) => firstN_lt (fun j => (ints A).getD j 0 == kdI T) _ hj
      have hat := firstN_at (fun j => (ints A).getD j 0 == kdI T) (ints A).length
      have hfl := firstN_le (fun j => (ints A).getD j 0 == kdI T) (ints A).length
      rw [hmap, idxOf_firstN]
      generalize firstN (fun j => (ints A).getD j 0 == kdI T) (ints A).length = q at *
      rw [ints_len] at hfl hat
      exact iter_count (body := stanzaref04_Least_L9 nx ((List.range n).map fun s => ((rep M s : Nat) : Int)) (i : Int) (ints A) (k : Int)) (fun j => (j : Int)) q (r := (q : Int)) (fun j hj => by
        have := hlt j hj
        have hb : ((ints A).getD j 0 != ((T : Nat) : Int)) = true := by unfold kdI at this; simp only [bne, this, Bool.not_false]
        simp only [stanzaref04_Least_L9, Int.toNat_natCast, hAi, eon, hb, ints_len]
        rw [if_pos (by simp only [decide_eq_true_eq]; omega), if_pos ⟨by omega, by omega⟩, if_pos (by omega), wrap_i64 (by omega) (by omega)]
        rfl) (by
        simp only [stanzaref04_Least_L9, Int.toNat_natCast, hAi, eon, ints_len]
        by_cases e : q < A.length
        · have := hat e
          have hb : ((ints A).getD q 0 != ((T : Nat) : Int)) = false := by unfold kdI at this; simp only [bne, this, Bool.not_true]
          rw [if_pos (by simp only [decide_eq_true_eq]; omega), if_pos ⟨by omega, by omega⟩, if_pos e, hb]
          rfl
        · rw [if_neg (by simp only [decide_eq_true_eq]; omega)]
          rfl)
    have hln : ((List.range n).map fun s => ((rep M s : Nat) : Int)).length = n := by simp
    simp only [stanzaref04_Least_L10, Int.toNat_natCast, hAi, eon, ints_len, hln]
    rw [if_pos ⟨by omega, by omega⟩, if_pos hiA, if_pos ⟨by omega, by omega⟩, if_pos (by simp only [decide_eq_true_eq]; omega), if_pos ⟨by omega, by omega⟩, if_pos hiA, if_pos ⟨by omega, by omega⟩, if_pos ⟨by omega, by omega⟩, if_pos ⟨by omega, by omega⟩, if_pos hd, h9]
    simp only [Option.bind_some]
    have hwr : IntKind.i64.wrap ((k : Int) + 1) = ((k + 1 : Nat) : Int) := by rw [wrap_i64 (by omega) (by omega)]; omega
    by_cases hm : kdI T ∈ A.map kdI
    · have hlt := List.idxOf_lt_length_of_mem hm
      rw [List.length_map] at hlt
      rw [if_neg (by simp only [beq_iff_eq]; omega)]
      simp only [Option.bind_some]
      rw [if_pos ⟨by simp only [List.length_cons, List.length_nil]; omega, by simp only [List.length_cons, List.length_nil]; omega⟩, hwr]
      simp only [add1, if_pos hm]
    · have hge : (A.map kdI).idxOf (kdI T) = A.length := by rw [List.idxOf_eq_length hm, List.length_map]
      rw [if_pos (by simp only [beq_iff_eq]; omega), if_pos ⟨by simp only [List.length_cons, List.length_nil]; omega, by simp only [List.length_cons, List.length_nil]; omega⟩]
      simp only [Option.bind_some]
      rw [if_pos ⟨by simp only [List.length_cons, List.length_nil]; omega, by simp only [List.length_cons, List.length_nil]; omega⟩, hwr]
      simp only [add1, if_neg hm, ints_add]
  · have htk : (ways (nxR M nx) s).take c = ways (nxR M nx) s := List.take_of_length_le (by omega)
    have hLw := Lane.walked (ways (nxR M nx) s) L [] hL (fun t ht => hall t (by rw [hsd]; exact ht))
    have hle := hLw.le hkI
    obtain ⟨l, eg⟩ := walk_grows (kd := kdI) (ts := ways (nxR M nx) s) (ln := L) (r := [])
    rw [htk]
    generalize walk kdI L (ways (nxR M nx) s) [] = W at hle eg
    obtain ⟨A, r⟩ := W
    simp only at hle eg ⊢
    have hiA : i < A.length := by rw [eg, List.length_append]; omega
    have hAi : (ints A).getD i 0 = (s : Int) := by
      rw [ints_get hiA]
      congr 1
      rw [← hsd, eg, List.getD_eq_getElem?_getD, List.getD_eq_getElem?_getD, List.getElem?_append_left hi]
    simp only [stanzaref04_Least_L10, Int.toNat_natCast, hAi, ints_len]
    rw [if_pos ⟨by omega, by omega⟩, if_pos hiA, if_pos ⟨by omega, by omega⟩, if_neg (by simp only [decide_eq_true_eq]; omega)]

omit hl in
theorem least_L11 {r : List (List Int) × List Int} (hr : iter (specB kdI (nxR M nx) ot) (([] : List (List Int)), ([] : List Int), [0], 0) = some r) :
    iter (stanzaref04_Least_L11 nx ot ((List.range n).map fun s => ((rep M s : Nat) : Int))) ([(0 : Int)], ([] : List (List Int)), ([] : List Int), (0 : Int)) = some r := by
  have hsm := h.small
  have hn := h.hn
  have ho := h.ho
  have hkI : ∀ s, s < n → 0 ≤ kdI s ∧ kdI s < (n : Nat) := fun s hs => by unfold kdI; omega
  obtain ⟨r', h1, h2⟩ := iter_sim (body := specB kdI (nxR M nx) ot) (body' := stanzaref04_Least_L11 nx ot ((List.range n).map fun s => ((rep M s : Nat) : Int)))
    (fun st st' => st'.1 = ints st.2.2.1 ∧ st'.2.1 = st.1 ∧ st'.2.2.1 = st.2.1 ∧ st'.2.2.2 = (st.2.2.2 : Int) ∧ Lane kdI n n st.2.2.1 ∧ st.1.length = st.2.2.2 ∧ st.2.1.length = st.2.2.2 ∧ st.2.2.2 ≤ st.2.2.1.length)
    (fun r r' => r' = r)
    (fun ⟨N, O, ln, i⟩ ⟨line, N', O', i'⟩ o ⟨e1, e2, e3, e4, hL, l1, l2, l3⟩ hb => by
      simp only at e1 e2 e3 e4 hL l1 l2 l3
      subst e1 e2 e3 e4
      have hle := hL.le hkI
      simp only [specB] at hb
      by_cases hi : i < ln.length
      · rw [if_pos hi] at hb
        obtain rfl := Option.some.inj hb
        have hs : ln.getD i 0 < n := hL.lt _ (getD_mem' hi)
        have h2 := Lane.walked (ways (nxR M nx) (ln.getD i 0)) ln [] hL (ways_lt (okR h (M := M)) hs)
        have h10 := least_L10 h (M := M) hL hi
        obtain ⟨l, eg⟩ := walk_grows (kd := kdI) (ts := ways (nxR M nx) (ln.getD i 0)) (ln := ln) (r := [])
        have hlg : i < (walk kdI ln (ways (nxR M nx) (ln.getD i 0)) []).1.length := by rw [eg, List.length_append]; omega
        have hgg : (walk kdI ln (ways (nxR M nx) (ln.getD i 0)) []).1.getD i 0 = ln.getD i 0 := by
          rw [eg, List.getD_eq_getElem?_getD, List.getD_eq_getElem?_getD, List.getElem?_append_left hi]
        have g2 := ints_get hlg
        rw [hgg] at g2
        refine ⟨.inl (ints (walk kdI ln (ways (nxR M nx) (ln.getD i 0)) []).1, N' ++ [(walk kdI ln (ways (nxR M nx) (ln.getD i 0)) []).2], O' ++ [ot.getD (ln.getD i 0) 0], ((i + 1 : Nat) : Int)), ?_, rfl, rfl, rfl, rfl, h2, by simp [l1], by simp [l2], hlg⟩
        simp only [stanzaref04_Least_L11, Int.toNat_natCast]
        rw [if_pos (by simp only [ints_len, decide_eq_true_eq]; omega), h10]
        simp only [Option.bind_some, g2, ints_len, Int.toNat_natCast]
        rw [if_pos ⟨by simp only [List.length_cons, List.length_nil]; omega, by simp only [List.length_cons, List.length_nil]; omega⟩, if_pos ⟨by omega, by omega⟩, if_pos hlg, if_pos ⟨by omega, by omega⟩, if_pos ⟨by simp only [List.length_cons, List.length_nil]; omega, by simp only [List.length_cons, List.length_nil]; omega⟩, wrap_i64 (by omega) (by omega)]
        rfl
      · rw [if_neg hi] at hb
        obtain rfl := Option.some.inj hb
        refine ⟨.inr (N', O'), ?_, rfl⟩
        simp only [stanzaref04_Least_L11]
        rw [if_neg (by simp only [ints_len, decide_eq_true_eq]; omega)])
    (s := (([] : List (List Int)), ([] : List Int), [0], 0)) (s' := ([(0 : Int)], ([] : List (List Int)), ([] : List Int), (0 : Int)))
    ⟨rfl, rfl, rfl, rfl, ⟨by simp, by simp [h.pos]⟩, rfl, rfl, by simp⟩ hr
  rw [h1, h2]
end

theorem ways_get (nx : List (List Int)) (s k : Nat) : (ways nx s).getD k 0 = dl nx s k := by
  unfold ways dl
  generalize nx.getD s [] = l
  rw [List.getD_eq_getElem?_getD, List.getD_eq_getElem?_getD, List.getElem?_map]
  cases l[k]? <;> rfl

/-- The document's least automaton. -/
theorem refleast_eq {nx : List (List Int)} {ot : List Int} {n c : Nat} (h : OkA nx ot n c) : ∃ x, least_Make nx ot = some (x, 0) ∧ stanzaref04_Least nx ot = some x := by
  obtain ⟨B, hB, e⟩ := make_is h
  have hd := dist_length B n
  have hsm := h.small
  have hn := h.hn
  have hp := h.pos
  have hk : ∀ s, s < n → 0 ≤ kap B n s ∧ kap B n s < ((dist B n).length : Nat) := fun s hs => kap_lt hs
  have q := number_eq h (by omega) hk (most_kap h.pos)
  obtain ⟨r, hr, _⟩ := spec_ends h (by omega) hk
  obtain ⟨M, m1, m2, m3⟩ := least_L6 h
  have r0 : rep M 0 = 0 := Nat.le_zero.1 (rep_le M 0)
  have hr' := spec_sim (R := fun s t => s < n ∧ t = rep M s) (kd := kap B n) (kd' := kdI) (nx := nx) (nx' := nxR M nx) (ot := ot) (ot' := ot)
    (fun s t s' t' ⟨a1, a2⟩ ⟨b1, b2⟩ => by
      subst a2 b2
      rw [kap_eq a1 b1, hB s s' a1 b1, ← rep_iff m3 a1 b1]
      unfold kdI
      omega) ⟨hp, r0.symm⟩ (fun s t ⟨a1, a2⟩ => by
      subst a2
      have a3 := rep_le M s
      have hlq := (rep_spec m3 a1).2.1
      refine All2.of_get (by rw [ways_R, List.length_map]; unfold ways; rw [List.length_map, List.length_map, h.row s a1, h.row _ (by omega)]) fun k hkl => ?_
      have hkc : k < c := by unfold ways at hkl; rwa [List.length_map, h.row s a1] at hkl
      have hkl2 : k < (ways nx (rep M s)).length := by unfold ways; rw [List.length_map, h.row _ (by omega)]; exact hkc
      rw [ways_get]
      refine ⟨h.dl_lt a1 hkc, ?_⟩
      have : (ways (nxR M nx) (rep M s)).getD k 0 = rep M (dl nx (rep M s) k) := by
        rw [ways_R, List.getD_eq_getElem?_getD, List.getElem?_map, ← ways_get, getD_lt hkl2, List.getElem?_eq_getElem hkl2]; rfl
      rw [this]
      exact (rep_iff m3 (h.dl_lt (by omega) hkc) (h.dl_lt a1 hkc)).2 (fun w hw => (leq_step hkc hlq w hw).symm)) (fun s t ⟨a1, a2⟩ => by
      subst a2
      have := (rep_spec m3 a1).2.1 [] (fun k hk => by cases hk)
      simpa [run] using this) hr
  refine ⟨r, by rw [e, q, hr]; rfl, ?_⟩
  have h2 := least_L2 h
  have h8 := least_L8 h m2 m3
  have h11 := least_L11 h (M := M) hr'
  have hg0 : ((List.range n).map fun s => ((rep M s : Nat) : Int)).getD ((0 : Int).toNat) 0 = 0 := by
    have := getD_range_map (f := fun s => ((rep M s : Nat) : Int)) (d := 0) hp
    rw [r0] at this
    exact this
  have hln : ((List.range n).map fun s => ((rep M s : Nat) : Int)).length = n := by simp
  unfold stanzaref04_Least
  simp only [hn, Int.toNat_natCast]
  rw [if_pos ⟨by omega, by omega, by omega, by omega⟩, h2, Option.bind_some, m1, Option.bind_some, if_pos ⟨by omega, by omega, by omega, by omega⟩, h8, Option.bind_some, hg0, hln, if_pos ⟨by omega, by omega⟩, if_pos (by simpa using hp), h11]
  rfl
end Go.Proofs.Ytnnbofkcfooljaa.T
