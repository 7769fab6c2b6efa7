/- A law's arguments: all together; what they read as stays. -/
import Derived.Test.YtjfjigknkhgkdaaTvU
import Derived.Carry
namespace Go.Tv
open Go Go.RowKit
def Tup : List Ty → Type
  | [] => Unit
  | T :: Ts => T.den × Tup Ts
def encA (T : Ty) (x : T.den) : AVal := if T.scalar then .p false T x else .agg (flat false T x)
def encT : (Ts : List Ty) → Tup Ts → List AVal
  | [], _ => []
  | T :: Ts, x => encA T x.1 :: encT Ts x.2
def WfT : (Ts : List Ty) → Tup Ts → Prop
  | [], _ => True
  | T :: Ts, x => Wf T x.1 ∧ WfT Ts x.2
section
variable {H : Type} {en : TypeId × Value → H} {P : Program} {w : World} {sp : Nat → Bool} {held : Bool}
theorem okWide_shape {t : TypeId} {n : Nat} {T : Ty} (ht : tyOf P n t = some T) {r : Reach} {base : Nat} {v : Value} (h : Value.okWide P w r base t v) : (∃ cs, v = .agg cs) ∨ T.scalar = true ∧ v.cells = #[v] := by
  cases n with
  | zero => simp [tyOf] at ht
  | succ n =>
    simp only [tyOf] at ht
    unfold Value.okWide at h
    split at ht
    · rename_i hu
      cases ht
      rw [hu] at h
      right
      simp only [Cell.okWide, hu] at h
      refine ⟨rfl, ?_⟩
      cases v <;> simp_all [Cell.ok, Value.cells]
    · rename_i k hu
      cases ht
      rw [hu] at h
      right
      simp only [Cell.okWide, hu] at h
      refine ⟨rfl, ?_⟩
      cases v <;> simp_all [Cell.ok, Value.cells]
    · rename_i hu
      cases ht
      rw [hu] at h
      right
      simp only [Cell.okWide, hu] at h
      refine ⟨rfl, ?_⟩
      cases v <;> simp_all [Cell.ok, Value.cells]
    · rename_i hu
      cases ht
      rw [hu] at h
      right
      simp only [Cell.okWide, hu] at h
      refine ⟨rfl, ?_⟩
      cases v <;> simp_all [Cell.ok, Value.cells]
    · rename_i e hu
      split at ht
      · split at ht
        · cases ht
          rw [hu] at h
          right
          simp only [Cell.okWide, hu] at h
          refine ⟨rfl, ?_⟩
          cases v <;> simp_all [Cell.ok, Value.cells]
        · cases ht
      · cases ht
    · rename_i fs hu
      rw [hu] at h
      obtain ⟨cs, e, _⟩ := h
      exact .inl ⟨cs, e⟩
    · cases ht
theorem tyOf_agg {t : TypeId} {n : Nat} {T : Ty} (ht : tyOf P n t = some T) {r : Reach} {base : Nat} {cs : Array Value} (h : Value.okWide P w r base t (.agg cs)) : T.scalar = false := by
  cases n with
  | zero => simp [tyOf] at ht
  | succ n =>
    simp only [tyOf] at ht
    unfold Value.okWide at h
    split at ht
    · rename_i hu
      rw [hu] at h
      simp [Cell.okWide, hu, Cell.ok] at h
    · rename_i k hu
      rw [hu] at h
      simp [Cell.okWide, hu, Cell.ok] at h
    · rename_i hu
      rw [hu] at h
      simp [Cell.okWide, hu, Cell.ok] at h
    · rename_i hu
      rw [hu] at h
      simp [Cell.okWide, hu, Cell.ok] at h
    · rename_i e hu
      rw [hu] at h
      simp [Cell.okWide, hu, Cell.ok] at h
    · split at ht
      · rename_i Ts _
        split at ht
        · rename_i hc
          cases ht
          match Ts, hc.2.2 with
          | [a], _ => rfl
          | a :: b :: r, _ => rfl
        · cases ht
      · cases ht
    · cases ht
theorem arg_read {t : TypeId} {n : Nat} {T : Ty} (ht : tyOf P n t = some T) {v : Value} {d : DataW H} {p : List MemPlace} (h : DataW.Trod en P w 0 sp held t v d p) {r : Reach} {base : Nat} (hv : Value.okWide P w r base t v) :
    ∃ x : T.den, V (Fr nowhere (fun _ => False) w) noRef (encA T x) v ∧ Wf T x := by
  obtain ⟨fuel, hf⟩ := h
  obtain ⟨⟨x, h1, h2⟩, h3⟩ := read_val n t T ht fuel _ _ hf
  refine ⟨x, ?_, h2⟩
  have h1' : Vcells (Fr nowhere (fun _ => False) w false) T x (fun k u => v.cells.toList[k]? = some u) := Vcells.mono (fun a u hu => ⟨fun e => e, fun _ e => e, hu⟩) (fun _ _ h => h) h1
  rcases okWide_shape ht hv with ⟨cs, rfl⟩ | ⟨hs, hc⟩
  · have hs := tyOf_agg ht hv
    unfold encA
    rw [hs]
    simp only [Bool.false_eq_true, if_false, V]
    refine ⟨cs, rfl, by rw [flat_length, ← h3]; simp [Value.cells], VL_flat false T x _ (Vcells.mono (fun _ _ h => h) (fun k u hk => by simpa [Value.cells] using hk) h1')⟩
  · unfold encA
    rw [if_pos hs]
    simp only [V]
    refine ⟨hs, ?_⟩
    rw [hc] at h1'
    have h2' : Vcells (Fr nowhere (fun _ => False) w false) T x (fun k u => (#[v] : Array Value).toList[k]? = some u) := h1'
    refine Vcells.monoLt (fun k u hk hu => ?_) h2'
    rw [Ty.size_scalar hs] at hk
    obtain rfl : k = 0 := by omega
    simp at hu
    exact hu.symm
theorem args_read {n : Nat} : ∀ {ts : List TypeId} {Ts : List Ty} {vs : List Value} {ds : List (DataW H)} {p : List MemPlace}, ts.map (tyOf P n) = Ts.map some → DataW.TrodAll en P w 0 sp held ts vs ds p → ∀ {r : Reach} {base : Nat},
    (∀ (j : Nat) t v, ts[j]? = some t → vs[j]? = some v → Value.okWide P w r base t v) → ∃ x : Tup Ts, VVs (Fr nowhere (fun _ => False) w) noRef (encT Ts x) vs ∧ WfT Ts x ∧ ds.length = ts.length
  | [], [], [], [], _, _, _, _, _, _ => ⟨(), trivial, trivial, rfl⟩
  | t :: ts, T :: Ts, v :: vs, d :: ds, p, hT, ⟨q, q', h1, h2, _⟩, r, base, hv => by
    simp only [List.map_cons, List.cons.injEq] at hT
    obtain ⟨x, hx, wx⟩ := arg_read hT.1 h1 (hv 0 t v rfl rfl)
    obtain ⟨y, hy, wy, hl⟩ := args_read hT.2 h2 (fun j t' v' a b => hv (j + 1) t' v' (by simpa using a) (by simpa using b))
    exact ⟨(x, y), ⟨hx, hy⟩, ⟨wx, wy⟩, by simp [hl]⟩
  | [], _ :: _, _, _, _, hT, _, _, _, _ => by simp at hT
  | _ :: _, [], _, _, _, hT, _, _, _, _ => by simp at hT
  | [], [], _ :: _, _, _, _, h, _, _, _ => h.elim
  | [], [], [], _ :: _, _, _, h, _, _, _ => h.elim
  | _ :: _, _ :: _, [], _, _, _, h, _, _, _ => h.elim
  | _ :: _, _ :: _, _ :: _, [], _, _, h, _, _, _ => h.elim
theorem args_stay (hl : laidOutB P = true) {w' : World} (hb : Below w.heap.size w w') : ∀ {ts : List TypeId} {vs : List Value} {ds : List (DataW H)} {p : List MemPlace}, ts.all (fun t => P.readableRec t && decide (t < P.types.size)) = true →
    DataW.TrodAll en P w 0 (fun _ => true) true ts vs ds p → DataW.TrodAll en P w' 0 (fun b => decide (b < w.heap.size)) true ts vs ds p
  | [], [], [], _, _, h => h
  | t :: ts, v :: vs, d :: ds, p, hr, ⟨q, q', h1, h2, e⟩ =>
    by
      simp only [List.all_cons, Bool.and_eq_true, decide_eq_true_eq] at hr
      exact ⟨q, q', Below.trod hl hr.1.1 hr.1.2 h1 hb (by obtain ⟨m, hm⟩ := h1; exact DataW.trod_lt m _ _ _ hm), args_stay hl hb hr.2 h2, e⟩
  | [], _ :: _, _, _, _, h => h.elim
  | [], [], _ :: _, _, _, h => h.elim
  | _ :: _, [], _, _, _, h => h.elim
  | _ :: _, _ :: _, [], _, _, h => h.elim
end
end Go.Tv
