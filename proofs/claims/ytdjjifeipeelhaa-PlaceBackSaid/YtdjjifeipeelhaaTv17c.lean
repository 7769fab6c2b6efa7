/- Place: lines stand one behind the other. -/
import Derived.Test.YtdjjifeipeelhaaTv17b
import Derived.Test.YtdjjifeipeelhaaTvYa
namespace Go.Proofs.Ytdjjifeipeelhaa.T
open Go Go.Tv Go.Proofs

/-- Lines from a boundary up to another one. -/
inductive Cuts : List C4 → Nat → Nat → Prop where
  | nil (a : Nat) : Cuts [] a a
  | snoc {m : List C4} {a b c : Nat} {x e : Int} : Cuts m a b → b < c → Cuts (m ++ [((b : Int), (c : Int), x, e)]) a c

theorem Cuts.le {m : List C4} {a b : Nat} (h : Cuts m a b) : a + m.length ≤ b := by
  induction h with
  | nil => simp
  | snoc _ h2 ih => simp only [List.length_append, List.length_cons, List.length_nil]; omega
theorem Cuts.append {m l : List C4} {a b c : Nat} (h : Cuts m a b) (k : Cuts l b c) : Cuts (m ++ l) a c := by
  induction k with
  | nil => simpa using h
  | snoc _ h2 ih => rw [← List.append_assoc]; exact .snoc (ih h) h2
theorem Cuts.cut {m : List C4} {a b : Nat} (h : Cuts m a b) : ∃ c : Nat → Nat, c 0 = a ∧ c m.length = b ∧ ∀ i, i < m.length → (m.getD i z4).1 = (c i : Int) ∧ (m.getD i z4).2.1 = (c (i + 1) : Int) ∧ c i < c (i + 1) := by
  induction h with
  | nil a => exact ⟨fun _ => a, rfl, rfl, fun i hi => absurd hi (by simp)⟩
  | @snoc m a b d x e h1 h2 ih =>
    obtain ⟨c, c0, c1, c2⟩ := ih
    refine ⟨fun i => if i ≤ m.length then c i else d, by simpa using c0, if_neg (by simp only [List.length_append, List.length_cons, List.length_nil]; omega), fun i hi => ?_⟩
    simp only [List.length_append, List.length_cons, List.length_nil] at hi
    rcases Nat.lt_or_ge i m.length with h | h
    · have e1 : (m ++ [((b : Int), (d : Int), x, e)]).getD i z4 = m.getD i z4 := by
        rw [List.getD_eq_getElem?_getD, List.getElem?_append_left h, ← List.getD_eq_getElem?_getD]
      rw [e1]
      simp only [if_pos (show i ≤ m.length by omega), if_pos (show i + 1 ≤ m.length by omega)]
      exact c2 i h
    · obtain rfl : i = m.length := by omega
      have e1 : (m ++ [((b : Int), (d : Int), x, e)]).getD m.length z4 = ((b : Int), (d : Int), x, e) := by
        rw [List.getD_eq_getElem?_getD, List.getElem?_append_right (Nat.le_refl _)]; simp
      rw [e1]
      simp only [if_pos (Nat.le_refl m.length), if_neg (show ¬ m.length + 1 ≤ m.length by omega)]
      exact ⟨by rw [c1], trivial, by omega⟩

section
variable {C : List C4} {O : List Int} {tab : Int} (hg : GoodC C) (ht : 1 ≤ tab ∧ tab ≤ 64) (hn : C.length ≤ 100) (hO : O.length = C.length + 1)

include hn in
theorem trim_eq {f t : Nat} (hft : f ≤ t) (htn : t ≤ C.length) : ∃ r : Nat, f ≤ r ∧ r ≤ t ∧ stanzaref13_Trim C O (f : Int) (t : Int) = some (r : Int) := by
  obtain ⟨r, h1, q, h2, h3, h4⟩ := iter_rule (body := stanzaref13_Trim_L1 C (t : Int)) (fun s => ∃ r i : Nat, s = ((r : Int), (i : Int)) ∧ f ≤ r ∧ r ≤ i ∧ f ≤ i ∧ i ≤ t) (fun s => (t - s.2.toNat))
    (fun r => ∃ q : Nat, r = (q : Int) ∧ f ≤ q ∧ q ≤ t)
    (fun s ⟨r, i, e, h1, h2, h3, h4⟩ => by
      subst e
      simp only [stanzaref13_Trim_L1]
      by_cases h : i < t
      · left
        have he : ∃ b, stanzaref13_Empty (C.getD i z4).1 (C.getD i z4).2.1 (C.getD i z4).2.2.1 (C.getD i z4).2.2.2 = some b := by
          unfold stanzaref13_Empty
          split
          · exact ⟨_, rfl⟩
          · split <;> exact ⟨_, rfl⟩
        obtain ⟨b, he⟩ := he
        unfold z4 at he
        simp only [Int.toNat_natCast]
        rw [if_pos (by simp only [decide_eq_true_eq]; omega), if_pos ⟨by omega, by omega⟩, he]
        simp only [Option.bind_some]
        have e1 : IntKind.i64.wrap ((i : Int) + 1) = ((i + 1 : Nat) : Int) := by rw [wrap_i64 (by omega) (by omega)]; omega
        rw [e1]
        cases b with
        | false => exact ⟨_, rfl, ⟨i + 1, i + 1, rfl, by omega, by omega, by omega, by omega⟩, by simp only [Int.toNat_natCast]; omega⟩
        | true => exact ⟨_, rfl, ⟨r, i + 1, rfl, by omega, by omega, by omega, by omega⟩, by simp only [Int.toNat_natCast]; omega⟩
      · right
        rw [if_neg (by simp only [decide_eq_true_eq]; omega)]
        exact ⟨_, rfl, r, rfl, h1, by omega⟩)
    (s := ((f : Int), (f : Int))) ⟨f, f, rfl, by omega, by omega, by omega, hft⟩
  refine ⟨q, h3, h4, ?_⟩
  unfold stanzaref13_Trim
  rw [h1, h2]
  rfl

include hg ht hn in
theorem cells_some {f t : Nat} (hft : f ≤ t) (htn : t ≤ C.length) (e : Int) : ∃ r, stanzaref13_Cells C O (f : Int) (t : Int) e tab = some r := by
  obtain ⟨q, h1, h2, h3⟩ := trim_eq hn (O := O) hft htn
  unfold stanzaref13_Cells
  rw [h3]
  simp only [Option.bind_some]
  rw [refColumns_eq hg ht h1 (by omega) hn]
  simp only [Option.bind_some]
  rw [colL_len, wrap_i64 (by omega) (by omega), if_pos ⟨by omega, by omega⟩]
  split <;> exact ⟨_, rfl⟩

/-- Either none or a boundary within. -/
def Or1 (f t : Nat) (x : Int) : Prop := x = -1 ∨ ∃ c : Nat, x = (c : Int) ∧ f < c ∧ c ≤ t

include hg ht hn hO in
theorem first_L1 {f t : Nat} {wd : Int} (hft : f < t) (htn : t ≤ C.length) : ∃ a b, Or1 f t a ∧ Or1 f t b ∧
    iter (stanzaref13_First_L1 C O (t : Int) wd tab (f : Int)) ((-1 : Int), (-1 : Int), ((f + 1 : Nat) : Int)) = some (a, b) := by
  obtain ⟨r, h1, h2, h3⟩ := iter_rule (body := stanzaref13_First_L1 C O (t : Int) wd tab (f : Int)) (fun s => Or1 f t s.1 ∧ Or1 f t s.2.1 ∧ ∃ i : Nat, s.2.2 = (i : Int) ∧ f < i ∧ i ≤ t + 1) (fun s => t + 1 - s.2.2.toNat)
    (fun r => Or1 f t r.1 ∧ Or1 f t r.2)
    (fun ⟨a, b, c⟩ ⟨ha, hb, i, e, h1, h2⟩ => by
      simp only at ha hb e
      subst e
      simp only [stanzaref13_First_L1]
      by_cases h : i ≤ t
      · left
        obtain ⟨x, hx⟩ := cells_some hg ht hn (O := O) (f := f) (t := i) (by omega) (by omega) 0
        obtain ⟨y, hy⟩ := cells_some hg ht hn (O := O) (f := f) (t := i) (by omega) (by omega) (O.getD i 0)
        have e1 : IntKind.i64.wrap ((i : Int) + 1) = ((i + 1 : Nat) : Int) := by rw [wrap_i64 (by omega) (by omega)]; omega
        simp only [Int.toNat_natCast]
        rw [if_pos (by simp only [decide_eq_true_eq]; omega), hx]
        simp only [Option.bind_some]
        rw [e1, hy]
        have ho : 0 ≤ (i : Int) ∧ (i : Int) < (O.length : Int) := ⟨by omega, by omega⟩
        have hi1 : Or1 f t (i : Int) := .inr ⟨i, rfl, by omega, by omega⟩
        have fin : ∀ {p q : Int}, Or1 f t p → Or1 f t q → ∃ y, (some (p, q)).bind (fun (x : Int × Int) => (match x with | (v73, v74) => some (Sum.inl (v73, v74, ((i + 1 : Nat) : Int))) : Option ((Int × Int × Int) ⊕ (Int × Int)))) = some (Sum.inl y) ∧
            (Or1 f t y.1 ∧ Or1 f t y.2.1 ∧ ∃ i : Nat, y.2.2 = (i : Int) ∧ f < i ∧ i ≤ t + 1) ∧ t + 1 - y.2.2.toNat < t + 1 - i := fun hp hq => ⟨_, rfl, ⟨hp, hq, i + 1, rfl, by omega, by omega⟩, by simp only [Int.toNat_natCast]; omega⟩
        by_cases c1 : decide (x ≤ wd) = true
        · rw [if_pos c1, if_pos ho]
          by_cases c2 : (O.getD i 0 != 0) = true
          · rw [if_pos c2, if_pos ho]
            simp only [Option.bind_some]
            by_cases c3 : decide (y ≤ wd) = true
            · rw [if_pos c3]; exact fin hi1 hi1
            · rw [if_neg c3]; exact fin ha hi1
          · rw [if_neg c2]
            simp only [Option.bind_some, Bool.false_eq_true, if_false]
            exact fin ha hi1
        · rw [if_neg c1]
          exact fin ha hb
      · right
        rw [if_neg (by simp only [decide_eq_true_eq]; omega)]
        exact ⟨_, rfl, ha, hb⟩)
    (s := ((-1 : Int), (-1 : Int), ((f + 1 : Nat) : Int))) ⟨.inl rfl, .inl rfl, f + 1, rfl, by omega, by omega⟩
  exact ⟨r.1, r.2, h2, h3, h1⟩

include hg ht hn hO in
theorem first_eq {f t : Nat} {wd x3 x4 x5 : Int} {x7 : Nat} (htn : t ≤ C.length) (hft : f ≤ t) : ∃ m, Cuts m f t ∧ stanzaref13_First C O (f : Int) (t : Int) wd tab x3 x4 x5 x7 = some m := by
  obtain ⟨r, h1, h2⟩ := iter_rule (body := stanzaref13_First_L2 C O (t : Int) wd tab) (fun s => ∃ b : Nat, s.1 = (b : Int) ∧ b ≤ t ∧ Cuts s.2 f b) (fun s => t - s.1.toNat) (fun m => Cuts m f t)
    (fun ⟨s, m⟩ ⟨b, e, hb, hc⟩ => by
      simp only at e hc
      subst e
      simp only [stanzaref13_First_L2]
      have hml := hc.le
      by_cases h : b < t
      · left
        obtain ⟨p, q, hp, hq, hi⟩ := first_L1 hg ht hn hO (wd := wd) h htn
        have e1 : IntKind.i64.wrap ((b : Int) + 1) = ((b + 1 : Nat) : Int) := by rw [wrap_i64 (by omega) (by omega)]; omega
        rw [if_pos (by simp only [decide_eq_true_eq]; omega), e1, hi]
        simp only [Option.bind_some]
        have fin : ∀ {c : Nat} {e : Int}, b < c → c ≤ t → ∃ y, ((some ((c : Int), e)).bind (fun (x : Int × Int) => (match x with | (v78, v79) => (stanzaref13_Line C O (b : Int) v78 v79 tab).bind fun (r93 : C4) =>
            (if (m.length + ([(r93.1, (r93.2.1, (r93.2.2.1, r93.2.2.2)))] : List C4).length) * 32 ≤ 140737488355328 ∧ m.length + ([(r93.1, (r93.2.1, (r93.2.2.1, r93.2.2.2)))] : List C4).length ≤ 9223372036854775807 then some (Sum.inl (v78, (m ++ ([(r93.1, (r93.2.1, (r93.2.2.1, r93.2.2.2)))] : List C4)))) else none) : Option ((Int × List C4) ⊕ List C4)))) = some (Sum.inl y) ∧
            (∃ b : Nat, y.1 = (b : Int) ∧ b ≤ t ∧ Cuts y.2 f b) ∧ t - y.1.toNat < t - b := fun {c e} h1 h2 => by
          obtain ⟨x, hx⟩ := cells_some hg ht hn (O := O) (f := b) (t := c) (by omega) (by omega) e
          simp only [Option.bind_some, stanzaref13_Line, hx]
          rw [if_pos ⟨by simp only [List.length_cons, List.length_nil]; omega, by simp only [List.length_cons, List.length_nil]; omega⟩]
          exact ⟨_, rfl, ⟨c, rfl, h2, .snoc hc h1⟩, by simp only [Int.toNat_natCast]; omega⟩
        rcases hp with rfl | ⟨c, rfl, c1, c2⟩
        · rw [if_neg (by simp only [decide_eq_true_eq]; omega)]
          have fin2 : ∀ {c : Nat}, b < c → c ≤ t → ∃ e, ((some (c : Int)).bind fun (v80 : Int) => (((if 0 ≤ v80 ∧ v80 < (O.length : Int) then (if ((O.getD v80.toNat (0 : Int)) == (2 : Int)) = true then some (true)
              else (if 0 ≤ v80 ∧ v80 < (O.length : Int) then some (((O.getD v80.toNat (0 : Int)) == (1 : Int))) else none)) else none)).bind fun (v81 : Bool) => (if v81 = true then (if 0 ≤ v80 ∧ v80 < (O.length : Int) then some ((v80, (O.getD v80.toNat (0 : Int)))) else none)
              else some ((v80, (4 : Int)))))) = some ((c : Int), e) := fun {c} h1 h2 => by
            have ho : 0 ≤ (c : Int) ∧ (c : Int) < (O.length : Int) := ⟨by omega, by omega⟩
            simp only [Option.bind_some, if_pos ho]
            by_cases d1 : ((O.getD (c : Int).toNat (0 : Int)) == (2 : Int)) = true
            · rw [if_pos d1]; exact ⟨_, rfl⟩
            · rw [if_neg d1]
              simp only [Option.bind_some]
              split <;> exact ⟨_, rfl⟩
          rcases hq with rfl | ⟨c, rfl, c1, c2⟩
          · rw [if_pos (by simp only [decide_eq_true_eq]; omega)]
            obtain ⟨e, he⟩ := fin2 (c := b + 1) (by omega) (by omega)
            rw [he]
            exact fin (by omega) (by omega)
          · rw [if_neg (by simp only [decide_eq_true_eq]; omega)]
            obtain ⟨e, he⟩ := fin2 c1 c2
            rw [he]
            exact fin c1 c2
        · rw [if_pos (by simp only [decide_eq_true_eq]; omega), if_pos ⟨by omega, by omega⟩]
          exact fin c1 c2
      · right
        obtain rfl : b = t := by omega
        rw [if_neg (by simp)]
        exact ⟨_, rfl, hc⟩)
    (s := ((f : Int), ([] : List C4))) ⟨f, rfl, hft, .nil f⟩
  refine ⟨r, h2, ?_⟩
  unfold stanzaref13_First
  rw [h1]
  rfl
end
end Go.Proofs.Ytdjjifeipeelhaa.T
