/- What an operation's outcome hangs on. -/
import Derived.Test.YtnjdmbifjbahdaaTvM
namespace Go.Tv
open Go Go.RowKit
theorem apply_agree {h h' : Nat → Option Obj} {i : Nat} (e : h i = h' i) : ∀ (u : Ups), apply u h i = apply u h' i := fun u => by
  induction u generalizing h h' with
  | nil => exact e
  | cons p u ih =>
    obtain ⟨j, o⟩ := p
    simp only [apply]
    refine ih ?_
    by_cases hj : i = j
    · subst hj; rw [upd_same, upd_same]
    · rw [upd_ne _ _ hj, upd_ne _ _ hj]; exact e
section
variable {h h' : Nat → Option Obj}
theorem dataOf_local {x : AVal} (hh : ∀ i ∈ ids x, h i = h' i) : dataOf h x = dataOf h' x := by
  cases x <;> try rfl
  rename_i id
  simp only [dataOf, hh id (by simp [ids])]
theorem dataL_local : ∀ {xs : List AVal} {h h' : Nat → Option Obj}, (∀ i ∈ idsL xs, h i = h' i) → dataL h xs = dataL h' xs
  | [], _, _, _ => rfl
  | x :: xs, h, h', hh => by
    simp only [dataL, dataOf_local (x := x) (fun i hi => hh i (by simp [idsL, hi]))]
    cases hd : dataOf h' x with
    | none => rfl
    | some p =>
      obtain ⟨y, u⟩ := p
      simp only [dataL_local (xs := xs) (h := apply u h) (h' := apply u h') (fun i hi => apply_agree (hh i (by simp [idsL, hi])) u)]
theorem ids_cellsOf {x : AVal} : idsL (cellsOf x) = ids x := by
  cases x <;> simp [cellsOf, idsL, ids]
theorem toT_local {T : Ty} {x : AVal} (hh : ∀ i ∈ ids x, h i = h' i) : toT T h x = toT T h' x := by
  unfold toT
  rw [dataL_local (xs := cellsOf x) (by rw [ids_cellsOf]; exact hh)]
theorem toTs_local {A : Ty} : ∀ {xs : List AVal} {h h' : Nat → Option Obj}, (∀ i ∈ idsL xs, h i = h' i) → toTs A h xs = toTs A h' xs
  | [], _, _, _ => rfl
  | x :: xs, h, h', hh => by
    simp only [toTs, toT_local (x := x) (T := A) (fun i hi => hh i (by simp [idsL, hi]))]
    cases hd : toT A h' x with
    | none => rfl
    | some p =>
      obtain ⟨y, u⟩ := p
      simp only [toTs_local (xs := xs) (h := apply u h) (h' := apply u h') (fun i hi => apply_agree (hh i (by simp [idsL, hi])) u)]
theorem cellsAt_local {x : AVal} (hh : ∀ i ∈ ids x, h i = h' i) : cellsAt h x = cellsAt h' x := by
  unfold cellsAt
  split <;> first
    | rfl
    | (rename_i id; rw [hh id (by simp [ids])])
    | (rename_i id i sz off; rw [hh id (by simp [ids])])
theorem idxAt_local {x : AVal} {i : Int} (hh : ∀ i ∈ ids x, h i = h' i) : idxAt h x i = idxAt h' x i := by
  unfold idxAt
  split <;> first
    | rfl
    | (rename_i id; rw [hh id (by simp [ids])])
    | (rename_i id i sz off; rw [hh id (by simp [ids])])
theorem lenOf_local {x : AVal} (hh : ∀ i ∈ ids x, h i = h' i) : lenOf h x = lenOf h' x := by
  unfold lenOf
  split <;> first
    | rfl
    | (rename_i id; rw [hh id (by simp [ids])])
    | (rename_i id i sz off; rw [hh id (by simp [ids])])
theorem conv_local {s d : TK} {x : AVal} (hh : ∀ i ∈ ids x, h i = h' i) : conv s d h x = conv s d h' x := by
  unfold conv
  split <;> first
    | rfl
    | (rename_i id; rw [hh id (by simp [ids])])
    | (rename_i id i sz off; rw [hh id (by simp [ids])])
theorem rowData_local {A : Ty} {x : AVal} (hh : ∀ i ∈ ids x, h i = h' i) : rowData h A x = rowData h' A x := by
  unfold rowData
  split <;> first
    | rfl
    | (rename_i id; rw [hh id (by simp [ids])])
    | (rename_i id i sz off; rw [hh id (by simp [ids])])
theorem ids_flat (β : Bool) : ∀ (T : Ty) (x : T.den), idsL (flat β T x) = []
  | .unit, _ => rfl
  | .prod a b, x => by
    have h1 := ids_flat β a x.1
    have h2 := ids_flat β b x.2
    apply List.eq_nil_iff_forall_not_mem.2
    intro i hi
    simp only [flat, mem_idsL, List.mem_append] at hi
    obtain ⟨y, hy, hi⟩ := hi
    rcases hy with hy | hy
    · have : i ∈ idsL (flat β a x.1) := mem_idsL.2 ⟨y, hy, hi⟩
      rw [h1] at this; cases this
    · have : i ∈ idsL (flat β b x.2) := mem_idsL.2 ⟨y, hy, hi⟩
      rw [h2] at this; cases this
  | .int _, _ => rfl
  | .bool, _ => rfl
  | .str, _ => rfl
  | .flt, _ => rfl
  | .slice _, _ => rfl
  | .ptr _, _ => rfl
  | .tree _ _, _ => rfl
theorem mem_wr {cs new : List AVal} {p i : Nat} (hi : i ∈ idsL (wr cs p new)) : i ∈ idsL cs ∨ i ∈ idsL new := by
  obtain ⟨y, hy, hi⟩ := mem_idsL.1 hi
  simp only [wr, List.mem_append] at hy
  rcases hy with (hy | hy) | hy
  · exact .inl (mem_idsL.2 ⟨y, List.mem_of_mem_take hy, hi⟩)
  · exact .inr (mem_idsL.2 ⟨y, hy, hi⟩)
  · exact .inl (mem_idsL.2 ⟨y, List.mem_of_mem_drop hy, hi⟩)
theorem stArr_local {A : Ty} {xs : List A.den} {i off : Nat} {y : AVal} (hh : ∀ i ∈ ids y, h i = h' i) : stArr A h xs i off y = stArr A h' xs i off y := by
  unfold stArr
  refine toT_local fun j hj => ?_
  simp only [ids] at hj
  rcases mem_wr hj with h1 | h1
  · rw [ids_flat] at h1; cases h1
  · rw [ids_cellsOf] at h1; exact hh j h1
theorem lend0_local {x : AVal} (hh : ∀ i ∈ ids x, h i = h' i) : lend0 h x = lend0 h' x := by
  cases x <;> try rfl
  rename_i id
  simp only [lend0, hh id (by simp [ids])]
theorem lendL0_local : ∀ {xs : List AVal}, (∀ i ∈ idsL xs, h i = h' i) → lendL0 h xs = lendL0 h' xs
  | [], _ => rfl
  | x :: xs, hh => by
    simp only [lendL0, lend0_local (x := x) (fun i hi => hh i (by simp [idsL, hi])), lendL0_local (xs := xs) (fun i hi => hh i (by simp [idsL, hi]))]
def Clo (h h' : Nat → Option Obj) (I : List Nat) : Prop := ∀ i ∈ I, h i = h' i ∧ ∀ cs, h i = some (.box cs) → ∀ j ∈ idsL cs, h j = h' j
theorem lend1_local {x : AVal} (hh : Clo h h' (ids x)) : lend1 h x = lend1 h' x := by
  have h0 : ∀ i ∈ ids x, h i = h' i := fun i hi => (hh i hi).1
  cases x <;> try rfl
  · simp only [lend1, lend0_local h0]
  · rename_i id i sz off
    simp only [lend1]
    have h1 := hh id (by simp [ids])
    rw [← h1.1]
    cases he : h id with
    | none => rfl
    | some ob =>
      cases ob with
      | box cs => simp only [lendL0_local (xs := cs) (h := h) (h' := h') (h1.2 cs he)]
      | arr _ _ _ => rfl
      | fz _ _ => rfl
      | mpo _ _ _ => rfl
      | mpl _ _ => rfl
      | mat _ _ _ _ _ => rfl
  · rename_i cs
    simp only [lend1]
    rw [lendL0_local (xs := cs) (h := h) (h' := h') (fun i hi => h0 i (by simpa [ids] using hi))]
theorem lendL1_local : ∀ {xs : List AVal}, Clo h h' (idsL xs) → lendL1 h xs = lendL1 h' xs
  | [], _ => rfl
  | x :: xs, hh => by
    simp only [lendL1, lend1_local (x := x) (fun i hi => hh i (by simp [idsL, hi])), lendL1_local (xs := xs) (fun i hi => hh i (by simp [idsL, hi]))]
theorem lend_local {x : AVal} (hh : Clo h h' (ids x)) : lend h x = lend h' x := by
  cases x <;> try (simp only [lend]; exact lend1_local hh)
  rename_i f cs
  simp only [lend]
  rw [lendL1_local (xs := cs) (h := h) (h' := h') (fun i hi => hh i (by simpa [ids] using hi))]
theorem lendL_local : ∀ {xs : List AVal}, Clo h h' (idsL xs) → lendL h xs = lendL h' xs
  | [], _ => rfl
  | x :: xs, hh => by
    simp only [lendL, lend_local (x := x) (fun i hi => hh i (by simp [idsL, hi])), lendL_local (xs := xs) (fun i hi => hh i (by simp [idsL, hi]))]
theorem less_agree {g : List Nat} {i : Nat} (e : h i = h' i) : less g h i = less g h' i := by
  unfold less
  split
  · rfl
  · exact e
theorem flatMap_congr' {α β : Type} {l : List α} {f f' : α → List β} (e : ∀ x ∈ l, f x = f' x) : l.flatMap f = l.flatMap f' := by
  induction l with
  | nil => rfl
  | cons x l ih => simp only [List.flatMap_cons, e x (by simp), ih (fun y hy => e y (by simp [hy]))]
theorem handL_local {g : List Nat} : ∀ {xs : List AVal}, Clo h h' (idsL xs) → handL g h xs = handL g h' xs
  | [], _ => rfl
  | x :: xs, hh => by
    have e : handX g h x = handX g h' x := by
      unfold handX
      rw [lend_local (x := x) (fun i hi => hh i (by simp [idsL, hi]))]
    simp only [handL, e, handL_local (xs := xs) (fun i hi => hh i (by simp [idsL, hi]))]
theorem handO_local {g : List Nat} {h h' : Nat → Option Obj} (hg : ∀ i ∈ g, h i = h' i) : handO g h 0 g = handO g h' 0 g := by
  have key : ∀ (l : List Nat) (k : Nat), (∀ i ∈ l, i ∈ g) → handO g h k l = handO g h' k l := fun l => by
    induction l with
    | nil => intro k _; rfl
    | cons x l ih =>
      intro k hl
      simp only [handO, hg x (hl x (by simp)), ih (k + 1) (fun i hi => hl i (by simp [hi]))]
  exact key g 0 fun _ h => h
theorem frz1_local {x : AVal} (hh : ∀ i ∈ ids x, h i = h' i) : frz1 h x = frz1 h' x := by
  cases x <;> try (simp only [frz1]; exact dataOf_local hh)
  rename_i cs
  simp only [frz1]
  rw [dataL_local (xs := cs) (h := h) (h' := h') (fun i hi => hh i (by simpa [ids] using hi))]
theorem frzL_local : ∀ {bs : List Bool} {xs : List AVal} {h h' : Nat → Option Obj}, (∀ i ∈ idsL xs, h i = h' i) → frzL h bs xs = frzL h' bs xs
  | _, [], _, _, _ => by simp only [frzL]
  | [], _ :: _, _, _, _ => rfl
  | false :: bs, x :: xs, h, h', hh => by
    simp only [frzL, frzL_local (bs := bs) (xs := xs) (h := h) (h' := h') (fun i hi => hh i (by simp [idsL, hi]))]
  | true :: bs, x :: xs, h, h', hh => by
    simp only [frzL, frz1_local (x := x) (h := h) (h' := h') (fun i hi => hh i (by simp [idsL, hi]))]
    cases frz1 h' x with
    | none => rfl
    | some p =>
      obtain ⟨y, u⟩ := p
      simp only [frzL_local (bs := bs) (xs := xs) (h := apply u h) (h' := apply u h') (fun i hi => apply_agree (hh i (by simp [idsL, hi])) u)]
def AllFz (u : Ups) : Prop := ∀ p ∈ u, ∃ A xs, p.2 = some (.fz A xs)
theorem AllFz.append {u v : Ups} (hu : AllFz u) (hv : AllFz v) : AllFz (u ++ v) := fun p hp => (List.mem_append.1 hp).elim (hu p) (hv p)
theorem dataOf_fz {x y : AVal} {u : Ups} (hd : dataOf h x = some (y, u)) : AllFz u ∧ ∀ i ∈ ids y, i ∈ ids x := by
  unfold dataOf at hd
  split at hd
  · split at hd
    · cases hd; exact ⟨fun p hp => by simp at hp; subst hp; exact ⟨_, _, rfl⟩, fun i hi => by simp [ids] at hi⟩
    · cases hd; exact ⟨fun p hp => by simp at hp, fun i hi => by simp [ids] at hi⟩
    · cases hd; exact ⟨fun p hp => by simp at hp; subst hp; exact ⟨_, _, rfl⟩, fun i hi => by simp [ids] at hi⟩
    · cases hd
  · cases hd; exact ⟨fun p hp => by simp at hp, fun i hi => hi⟩
theorem dataL_fz : ∀ {xs ys : List AVal} {h : Nat → Option Obj} {u : Ups}, dataL h xs = some (ys, u) → AllFz u ∧ ∀ i ∈ idsL ys, i ∈ idsL xs
  | [], ys, h, u, hd => by cases hd; exact ⟨fun p hp => by simp at hp, fun i hi => hi⟩
  | x :: xs, ys, h, u, hd => by
    simp only [dataL] at hd
    split at hd
    · rename_i y u1 h1
      split at hd
      · rename_i ys' us h2
        cases hd
        obtain ⟨q1, q2⟩ := dataOf_fz h1
        obtain ⟨r1, r2⟩ := dataL_fz h2
        refine ⟨q1.append r1, fun i hi => ?_⟩
        simp only [idsL, List.mem_append] at hi ⊢
        exact hi.imp (q2 i) (r2 i)
      · cases hd
    · cases hd
theorem frz1_fz {x y : AVal} {u : Ups} (hd : frz1 h x = some (y, u)) : AllFz u ∧ ∀ i ∈ ids y, i ∈ ids x := by
  unfold frz1 at hd
  split at hd
  · split at hd
    · rename_i ds u' h1
      cases hd
      obtain ⟨q1, q2⟩ := dataL_fz h1
      exact ⟨q1, fun i hi => by simp only [ids] at hi ⊢; exact q2 i hi⟩
    · cases hd
  · exact dataOf_fz hd
theorem frzL_fz : ∀ {bs : List Bool} {xs ys : List AVal} {h : Nat → Option Obj} {u : Ups}, frzL h bs xs = some (ys, u) → AllFz u ∧ ∀ i ∈ idsL ys, i ∈ idsL xs
  | _, [], ys, h, u, hd => by simp only [frzL] at hd; cases hd; exact ⟨fun p hp => by simp at hp, fun i hi => hi⟩
  | [], _ :: _, ys, h, u, hd => by simp only [frzL] at hd; cases hd; exact ⟨fun p hp => by simp at hp, fun i hi => hi⟩
  | false :: bs, x :: xs, ys, h, u, hd => by
    simp only [frzL] at hd
    split at hd
    · rename_i ys' u' h1
      cases hd
      obtain ⟨q1, q2⟩ := frzL_fz h1
      refine ⟨q1, fun i hi => ?_⟩
      simp only [idsL, List.mem_append] at hi ⊢
      exact hi.imp (fun h => h) (q2 i)
    · cases hd
  | true :: bs, x :: xs, ys, h, u, hd => by
    simp only [frzL] at hd
    split at hd
    · rename_i y u1 h1
      split at hd
      · rename_i ys' us h2
        cases hd
        obtain ⟨q1, q2⟩ := frz1_fz h1
        obtain ⟨r1, r2⟩ := frzL_fz h2
        refine ⟨q1.append r1, fun i hi => ?_⟩
        simp only [idsL, List.mem_append] at hi ⊢
        exact hi.imp (q2 i) (r2 i)
      · cases hd
    · cases hd
theorem apply_fz_box {u : Ups} (hu : AllFz u) {i : Nat} {cs : List AVal} : ∀ {h : Nat → Option Obj}, apply u h i = some (.box cs) → h i = some (.box cs) := by
  induction u with
  | nil => intro h hb; exact hb
  | cons p u ih =>
    intro h hb
    obtain ⟨j, o⟩ := p
    have h1 := ih (fun q hq => hu q (by simp [hq])) hb
    by_cases e : i = j
    · subst e
      rw [upd_same] at h1
      obtain ⟨A, xs, h2⟩ := hu (i, o) (by simp)
      simp only at h2
      rw [h1] at h2
      cases h2
    · rw [upd_ne _ _ e] at h1; exact h1
theorem foot_clo {xs : List AVal} (hh : ∀ i ∈ foot h xs, h i = h' i) : Clo h h' (idsL xs) := fun i hi =>
  ⟨hh i (List.mem_append_left _ hi), fun cs hc j hj => hh j (List.mem_append_right _ (List.mem_flatMap.2 ⟨i, hi, by rw [hc]; exact hj⟩))⟩
theorem semSlice_local {tb : Tab} {new : Nat} {t : TypeId} {x : AVal} {lo hi : Option (Option Int)} (hh : ∀ i ∈ ids x, h i = h' i) : semSlice tb new t x lo hi h = semSlice tb new t x lo hi h' := by
  unfold semSlice
  split
  · split
    · split <;> first
        | rfl
        | (rename_i id; rw [hh id (by simp [ids])])
    · rfl
  · rfl
theorem semOpen_local {new : Nat} {ti : TI} {x : AVal} (hx : ∀ i ∈ ids x, h i = h' i) (ho : ∀ i ∈ ids x, ∀ e e2 A xss k j, h i = some (.mat e e2 A xss (some (k, j))) → h j = h' j) : semOpen new ti x h = semOpen new ti x h' := by
  unfold semOpen
  cases x <;> try rfl
  rename_i id i sz off
  simp only
  have e1 := hx id (by simp [ids])
  have e2 := ho id (by simp [ids])
  rw [← e1]
  cases hm : h id with
  | none => rfl
  | some ob =>
    cases ob with
    | mat e e2' A xss hole =>
      cases hole with
      | none => rfl
      | some p =>
        obtain ⟨k, j⟩ := p
        simp only [e2 _ _ _ _ _ _ hm]
    | _ => rfl
theorem semLoadA_local {ti : TI} {x : AVal} (hx : ∀ i ∈ ids x, h i = h' i) : semLoadA ti x h = semLoadA ti x h' := by
  unfold semLoadA
  split
  · rename_i id b n i k _
    have hid := hx id (by simp [ids])
    rw [hid]
  · rfl
theorem semStoreA_local {ti : TI} {x y : AVal} (hx : ∀ i ∈ ids x, h i = h' i) : semStoreA ti x y h = semStoreA ti x y h' := by
  unfold semStoreA
  split
  · rename_i id b n i _ k v
    have hid := hx id (by simp [ids])
    rw [hid]
  · rfl
theorem semIndexA_local {tb : Tab} {t : TypeId} {x i : AVal} (hx : ∀ i ∈ ids x, h i = h' i) : semIndexA tb t x i h = semIndexA tb t x i h' := by
  unfold semIndexA
  cases tb.find t with
  | none => rfl
  | some ti =>
    simp only
    split
    · split
      · split
        · split
          · rename_i id j sz off _ _ _
            rw [hx id (by simp [ids])]
          · rfl
        · rfl
      · rfl
    · rfl
theorem semIndexAddr_local {tb : Tab} {t : TypeId} {x i : AVal} (hx : ∀ i ∈ ids x, h i = h' i) : semIndexAddr tb t x i h = semIndexAddr tb t x i h' := by
  unfold semIndexAddr
  cases elemT tb t with
  | none => rfl
  | some q =>
    simp only
    split
    · rw [idxAt_local hx]
    · rfl
theorem semLookup_local {P : Program} {tb : Tab} {t : TypeId} {x k : AVal} {ok : Bool} (hx : ∀ i ∈ ids x, h i = h' i) : semLookup P tb t x k ok h = semLookup P tb t x k ok h' := by
  unfold semLookup
  split
  · split
    · rename_i id
      rw [hx id (by simp [ids])]
    · rfl
  · rfl
theorem semLookupL_local {P : Program} {tb : Tab} {t : TypeId} {g : List Nat} {x k : AVal} {ok : Bool} (hx : ∀ i ∈ ids x, h i = h' i) : semLookupL P tb t g x k ok h = semLookupL P tb t g x k ok h' := by
  unfold semLookupL
  split
  · split
    · rename_i id
      rw [hx id (by simp [ids])]
    · rfl
  · rfl
theorem semMapUpdate_local {P : Program} {tb : Tab} {t : TypeId} {x k y : AVal} (hx : ∀ i ∈ ids x, h i = h' i) (hy : ∀ i ∈ ids y, h i = h' i) : semMapUpdate P tb t x k y h = semMapUpdate P tb t x k y h' := by
  unfold semMapUpdate
  split
  · split
    · rename_i id
      rw [hx id (by simp [ids])]
      split
      · split
        · split
          · rw [toT_local hy]
          · rfl
        · rfl
      · rfl
    · rfl
  · rfl
theorem semMapUpdateL_local {P : Program} {tb : Tab} {t : TypeId} {x k y : AVal} (hx : ∀ i ∈ ids x, h i = h' i) : semMapUpdateL P tb t x k y h = semMapUpdateL P tb t x k y h' := by
  unfold semMapUpdateL
  split
  · split
    · rename_i id
      rw [hx id (by simp [ids])]
    · rfl
  · rfl
theorem semPut_local {id i : Nat} {e e2 : TypeId} {A : Ty} {xss : List (List A.den)} {hole : Option (Nat × Nat)} {y : AVal} (hy : ∀ i ∈ ids y, h i = h' i) (ho : ∀ k j, hole = some (k, j) → h j = h' j) : semPut id i e e2 A xss hole y h = semPut id i e e2 A xss hole y h' := by
  unfold semPut
  cases y <;> try rfl
  rename_i r
  simp only
  rw [← hy r (by simp [ids])]
  cases h r with
  | none => rfl
  | some ob =>
    cases ob with
    | arr e3 B zs =>
      cases hole with
      | none => rfl
      | some p =>
        obtain ⟨k, j⟩ := p
        simp only [ho k j rfl]
    | _ => rfl
theorem semStore_local {tb : Tab} {t : TypeId} {x y : AVal} (hx : ∀ i ∈ ids x, h i = h' i) (hy : ∀ i ∈ ids y, h i = h' i) (ho : ∀ i ∈ ids x, ∀ e e2 A xss k j, h i = some (.mat e e2 A xss (some (k, j))) → h j = h' j) : semStore tb t x y h = semStore tb t x y h' := by
  unfold semStore
  cases tb.find t with
  | none => rfl
  | some ti =>
    simp only
    split
    · cases x <;> try rfl
      case ada => exact semStoreA_local hx
      rename_i id i sz off
      simp only
      have hid := hx id (by simp [ids])
      have hop := ho id (by simp [ids])
      rw [← hid]
      cases hm : h id with
      | none => rfl
      | some ob =>
        cases ob with
        | arr e A xs => simp only [stArr_local (A := A) (xs := xs) (i := i) (off := off) hy]
        | fz _ _ => rfl
        | box _ => rfl
        | mpo _ _ _ => rfl
        | mpl _ _ => rfl
        | mat e e2 A xss hole => simp only [semPut_local (id := id) (i := i) (e := e) (e2 := e2) (A := A) (xss := xss) (hole := hole) hy (fun k j eh => hop e e2 A xss k j (by rw [hm, eh]))]
    · rfl
theorem semAppend_local {tb : Tab} {new : Nat} {t : TypeId} {x y : AVal} (hx : ∀ i ∈ ids x, h i = h' i) (hy : ∀ i ∈ ids y, h i = h' i) : semAppend tb new t x y h = semAppend tb new t x y h' := by
  unfold semAppend
  cases elemT tb t with
  | none => rfl
  | some p =>
    obtain ⟨e, te, A⟩ := p
    simp only [rowData_local (A := A) hy]
    cases rowData h' A y with
    | none => rfl
    | some ys =>
      simp only
      cases x <;> try rfl
      rename_i id
      simp only
      rw [hx id (by simp [ids])]
theorem semCopy_local {tb : Tab} {t : TypeId} {x y : AVal} (hx : ∀ i ∈ ids x, h i = h' i) (hy : ∀ i ∈ ids y, h i = h' i) : semCopy tb t x y h = semCopy tb t x y h' := by
  unfold semCopy
  cases elemT tb t with
  | none => rfl
  | some p =>
    obtain ⟨e, te, A⟩ := p
    simp only [rowData_local (A := A) hy]
    cases rowData h' A y with
    | none => rfl
    | some ys =>
      simp only
      cases x <;> try rfl
      rename_i id
      simp only
      rw [hx id (by simp [ids])]
end
def opVals (s : Nat → AVal) (op : Op) : List AVal := op.operands.toList.map (ev s)
theorem mem_opVals {s : Nat → AVal} {op : Op} {x : Operand} (hx : x ∈ op.operands.toList) : ∀ i ∈ ids (ev s x), i ∈ idsL (opVals s op) := fun _ hi =>
  mem_idsL.2 ⟨ev s x, List.mem_map.2 ⟨x, hx, rfl⟩, hi⟩
def footM (h : Nat → Option Obj) (xs : List AVal) : List Nat :=
  idsL xs ++ (idsL xs).flatMap fun i => match h i with
    | some (.mat _ _ _ _ (some (_, j))) => [j]
    | _ => []
theorem footM_open {h : Nat → Option Obj} {xs : List AVal} {i : Nat} {e e2 : TypeId} {A : Ty} {xss : List (List A.den)} {k j : Nat} (hi : i ∈ idsL xs) (hm : h i = some (.mat e e2 A xss (some (k, j)))) : j ∈ footM h xs :=
  List.mem_append_right _ (List.mem_flatMap.2 ⟨i, hi, by rw [hm]; exact .head _⟩)
def footX (h : Nat → Option Obj) (op : Op) (xs : List AVal) : List Nat :=
  match op with
  | .call _ => foot h xs
  | .load _ _ => footM h xs
  | .store _ _ _ => footM h xs
  | .move _ => []
  | .assign _ => []
  | .nilCheck _ => []
  | .fieldAddr _ _ _ => []
  | _ => idsL xs
theorem sem_local {P : Program} {tb : Tab} {new : Nat} {asm : Option Bool} {orc : Option Orc} {op : Op} {s s' : Nat → AVal} {h h' : Nat → Option Obj}
    (hs : ∀ x ∈ op.operands.toList, ev s x = ev s' x) (hh : ∀ i ∈ footX h op (opVals s op), h i = h' i) : sem P tb new asm orc op s h = sem P tb new asm orc op s' h' := by
  by_cases hmv : (∃ x, op = .move x) ∨ (∃ x, op = .assign x) ∨ (∃ x, op = .nilCheck x) ∨ ∃ t x f, op = .fieldAddr t x f
  · rcases hmv with ⟨x, rfl⟩ | ⟨x, rfl⟩ | ⟨x, rfl⟩ | ⟨t, x, f, rfl⟩ <;> simp only [sem, hs x (by simp [Op.operands])]
  have hid : ∀ i ∈ idsL (opVals s op), h i = h' i := fun i hi => by
    refine hh i ?_
    unfold footX
    split
    · exact List.mem_append_left _ hi
    · exact List.mem_append_left _ hi
    · exact List.mem_append_left _ hi
    · rename_i x; exact absurd (.inl ⟨x, rfl⟩) hmv
    · rename_i x; exact absurd (.inr (.inl ⟨x, rfl⟩)) hmv
    · rename_i x; exact absurd (.inr (.inr (.inl ⟨x, rfl⟩))) hmv
    · rename_i t x f; exact absurd (.inr (.inr (.inr ⟨t, x, f, rfl⟩))) hmv
    · exact hi
  have key : ∀ x ∈ op.operands.toList, ∀ i ∈ ids (ev s x), h i = h' i := fun x hx i hi => hid i (mem_opVals hx i hi)
  cases op with
  | move x => simp only [sem, hs x (by simp [Op.operands])]
  | assign x => simp only [sem, hs x (by simp [Op.operands])]
  | pick c x y =>
    have e : ∀ b : Bool, ev s (if b = true then x else y) = ev s' (if b = true then x else y) := fun b => by
      cases b
      · exact hs y (by simp [Op.operands])
      · exact hs x (by simp [Op.operands])
    simp only [sem, semPick, hs c (by simp [Op.operands]), e, hs x (by simp [Op.operands]), hs y (by simp [Op.operands])]
  | alloc t => rfl
  | box t x => simp only [sem, hs x (by simp [Op.operands])]
  | build t ps =>
    simp only [sem]
    have e : ps.toList.map (fun p => ev s p.2) = ps.toList.map (fun p => ev s' p.2) := List.map_congr_left (fun p hp => hs p.2 (by simp only [Op.operands, List.mem_map]; exact ⟨p, hp, rfl⟩))
    rw [e]
  | buildSlice t len ps =>
    simp only [sem]
    have e : ps.toList.map (fun p => ev s p.2) = ps.toList.map (fun p => ev s' p.2) := List.map_congr_left (fun p hp => hs p.2 (by simp only [Op.operands, List.mem_map]; exact ⟨p, hp, rfl⟩))
    rw [← e]
    unfold semBuildSlice
    cases elemT tb t with
    | none => rfl
    | some q =>
      obtain ⟨e, te, A⟩ := q
      simp only
      split
      · rw [toTs_local (A := A) (fun i hi => by
          obtain ⟨y, hy, hi⟩ := mem_idsL.1 hi
          obtain ⟨p, hp, rfl⟩ := List.mem_map.1 hy
          exact key p.2 (by simp only [Op.operands, List.mem_map]; exact ⟨p, hp, rfl⟩) i hi)]
      · rfl
  | load t x =>
    simp only [sem, ← hs x (by simp [Op.operands])]
    have hx := key x (by simp [Op.operands])
    have e2 : ∀ ti, semOpen new ti (ev s x) h = semOpen new ti (ev s x) h' := fun ti => semOpen_local hx (fun i hi e e2 A xss k j hm => hh j (footM_open (mem_opVals (by simp [Op.operands]) i hi) hm))
    unfold semLoad
    simp only [cellsAt_local hx, semLoadA_local hx, e2]
  | store t x y =>
    simp only [sem, ← hs x (by simp [Op.operands]), ← hs y (by simp [Op.operands])]
    exact semStore_local (key x (by simp [Op.operands])) (key y (by simp [Op.operands])) (fun i hi e e2 A xss k j hm => hh j (footM_open (mem_opVals (by simp [Op.operands]) i hi) hm))
  | binOp o t x y t' => simp only [sem, hs x (by simp [Op.operands]), hs y (by simp [Op.operands])]
  | unOp o t x => simp only [sem, hs x (by simp [Op.operands])]
  | nilCheck x => simp only [sem, hs x (by simp [Op.operands])]
  | convert st dt x =>
    simp only [sem, ← hs x (by simp [Op.operands])]
    unfold semConv
    cases tb.find st with
    | none => rfl
    | some si =>
      cases tb.find dt with
      | none => rfl
      | some di =>
        simp only
        cases convS tb di.k (ev s x) with
        | some r => rfl
        | none => simp only [conv_local (s := si.k) (d := di.k) (key x (by simp [Op.operands]))]
  | slice t x lo hi mx =>
    cases mx with
    | some mo =>
      cases hi with
      | none => rfl
      | some hio =>
        have e1 : optI s lo = optI s' lo := by
          cases lo with
          | none => rfl
          | some y => simp only [optI, hs y (by simp [Op.operands])]
        simp only [sem, ← hs x (by simp [Op.operands]), ← hs hio (by simp [Op.operands]), ← hs mo (by simp [Op.operands]), ← e1]
        have hx := key x (by simp [Op.operands])
        unfold semSlice3
        split
        · split
          · rfl
          · rename_i id ex
            rw [hx id (by rw [ex]; simp [ids])]
          · rfl
        · rfl
    | none =>
      have e1 : optI s lo = optI s' lo := by
        cases lo with
        | none => rfl
        | some y => simp only [optI, hs y (by simp [Op.operands])]
      have e2 : optI s hi = optI s' hi := by
        cases hi with
        | none => rfl
        | some y => simp only [optI, hs y (by simp [Op.operands])]
      simp only [sem, ← hs x (by simp [Op.operands]), ← e1, ← e2]
      exact semSlice_local (key x (by simp [Op.operands]))
  | fieldAddr t x f => simp only [sem, hs x (by simp [Op.operands])]
  | indexAddr t x i =>
    simp only [sem, ← hs x (by simp [Op.operands]), ← hs i (by simp [Op.operands])]
    simp only [semIndexA_local (key x (by simp [Op.operands])), semIndexAddr_local (key x (by simp [Op.operands]))]
  | index t x i => simp only [sem, hs x (by simp [Op.operands]), hs i (by simp [Op.operands])]
  | extract x i => simp only [sem, hs x (by simp [Op.operands])]
  | typeAssert x xt t ok => simp only [sem, hs x (by simp [Op.operands])]
  | makeFunc f fs cs =>
    simp only [sem]
    rw [List.map_congr_left (f := ev s) (g := ev s') (fun p hp => hs p (by simp only [Op.operands, Array.toList_append, List.mem_append]; exact .inr hp))]
  | makeSlice t l c => simp only [sem, hs l (by simp [Op.operands]), hs c (by simp [Op.operands])]
  | call c =>
    obtain ⟨callee, args, tys⟩ := c
    have hargs : ∀ x ∈ args.toList, x ∈ (Op.call { callee, args, argTypes := tys }).operands.toList := fun x hx => by
      simp only [Op.operands, Call.operands, Array.toList_append, List.mem_append]; exact .inr hx
    have e : args.toList.map (ev s) = args.toList.map (ev s') := List.map_congr_left (fun p hp => hs p (hargs p hp))
    have hk : ∀ y ∈ args.toList.map (ev s), ∀ i ∈ ids y, h i = h' i := fun y hy i hi => by
      obtain ⟨p, hp, rfl⟩ := List.mem_map.1 hy
      exact key p (hargs p hp) i hi
    have hc := foot_clo (h' := h') (xs := opVals s (Op.call { callee, args, argTypes := tys })) hh
    simp only [sem, semCallOp]
    cases callee with
    | builtin b =>
      simp only [← e]
      unfold semBuiltin
      split
      · rename_i y t ey et
        split
        · unfold semLenMap
          split
          · split
            · rename_i id _ _
              rw [hk (.mp id) (by rw [ey]; simp) id (by simp [ids])]
            · rfl
          · rfl
        · unfold semLen
          rw [lenOf_local (hk y (by rw [ey]; simp))]
      · rfl
      · rfl
      · rename_i y z t t' ey et
        split
        · exact semAppend_local (hk y (by rw [ey]; simp)) (hk z (by rw [ey]; simp))
        · rfl
      · rename_i y z t t' ey et
        exact semCopy_local (hk y (by rw [ey]; simp)) (hk z (by rw [ey]; simp))
      · rfl
    | value f =>
      have hf : f ∈ (Op.call { callee := .value f, args, argTypes := tys }).operands.toList := by simp [Op.operands, Call.operands]
      simp only [← e, ← hs f hf]
      generalize hxs : canonL tb (cnOf orc) tys.toList (args.toList.map (ev s)) = xs
      have hxi : ∀ i ∈ idsL xs, i ∈ idsL (args.toList.map (ev s)) := fun i hi => by rw [← hxs, canonL_ids] at hi; exact hi
      unfold semCall
      split
      · rename_i fid caps q ef
        have hin : ∀ i ∈ idsL (asFn (ev s f) :: xs), i ∈ idsL (opVals s (Op.call { callee := .value f, args, argTypes := tys })) := fun i hi => by
          simp only [idsL, List.mem_append] at hi
          rcases hi with hi | hi
          · exact mem_opVals hf i (asFn_ids i hi)
          · obtain ⟨y, hy, hi'⟩ := mem_idsL.1 (hxi i hi)
            obtain ⟨p, hp, rfl⟩ := List.mem_map.1 hy
            exact mem_opVals (hargs p hp) i hi'
        rw [frzL_local (bs := q.fl) (h := h) (h' := h') (fun i hi => by
          obtain ⟨y, hy, hi'⟩ := mem_idsL.1 (hxi i hi)
          exact hk y hy i hi')]
        cases hfz : frzL h' q.fl xs with
        | none => rfl
        | some p =>
          obtain ⟨ys, u⟩ := p
          obtain ⟨z1, z2⟩ := frzL_fz hfz
          have hclo : Clo (apply u h) (apply u h') (idsL (ys ++ caps)) := fun i hi => by
            have hi2 : i ∈ idsL (opVals s (Op.call { callee := .value f, args, argTypes := tys })) := by
              obtain ⟨y, hy, hi'⟩ := mem_idsL.1 hi
              rcases List.mem_append.1 hy with hy | hy
              · obtain ⟨y2, hy2, hi2⟩ := mem_idsL.1 (hxi i (z2 i (mem_idsL.2 ⟨y, hy, hi'⟩)))
                obtain ⟨p, hp, rfl⟩ := List.mem_map.1 hy2
                exact mem_opVals (hargs p hp) i hi2
              · refine mem_opVals hf i (asFn_ids i ?_)
                rw [ef]
                simp only [ids]
                exact mem_idsL.2 ⟨y, hy, hi'⟩
            obtain ⟨c1, c2⟩ := hc i hi2
            exact ⟨apply_agree c1 u, fun cs hcs j hj => apply_agree (c2 cs (apply_fz_box z1 hcs) j hj) u⟩
          simp only
          split
          · have hfoot : foot h (asFn (ev s f) :: xs) = foot h' (asFn (ev s f) :: xs) := by
              unfold foot
              congr 1
              refine flatMap_congr' fun i hi => ?_
              rw [(hc i (hin i hi)).1]
            rw [hfoot]
            split
            · rename_i hg
              have hgi : ∀ i ∈ q.g, h i = h' i := fun i hi => by
                have := List.all_eq_true.1 hg i hi
                rw [← hfoot] at this
                simp only [List.contains_eq_mem, decide_eq_true_eq] at this
                unfold foot at this
                rcases List.mem_append.1 this with h1 | h1
                · exact (hc i (hin i h1)).1
                · obtain ⟨j, hj, hj'⟩ := List.mem_flatMap.1 h1
                  split at hj'
                  · rename_i cs hcs
                    exact (hc j (hin j hj)).2 cs hcs i hj'
                  · cases hj'
              rw [handO_local (g := q.g) (h := apply u h) (h' := apply u h') (fun i hi => apply_agree (hgi i hi) u),
                handL_local (g := q.g) (h := less q.g (apply u h)) (h' := less q.g (apply u h')) (fun i hi => ⟨less_agree (hclo i hi).1, fun cs hcs j hj => less_agree ((hclo i hi).2 cs (less_sub hcs).1 j hj)⟩)]
            · rfl
          · rw [lendL_local (h := apply u h) (h' := apply u h') hclo]
      · rfl
    | invoke r m => rfl
  | makeMap t r => cases r <;> rfl
  | lookup t x k ok =>
    simp only [sem, ← hs x (by simp [Op.operands]), ← hs k (by simp [Op.operands])]
    rw [semLookup_local (key x (by simp [Op.operands])), semLookupL_local (key x (by simp [Op.operands]))]
  | mapUpdate t x k y =>
    simp only [sem, ← hs x (by simp [Op.operands]), ← hs k (by simp [Op.operands]), ← hs y (by simp [Op.operands])]
    rw [semMapUpdate_local (key x (by simp [Op.operands])) (key y (by simp [Op.operands])), semMapUpdateL_local (key x (by simp [Op.operands]))]
  | insert t x k y =>
    simp only [sem, ← hs x (by simp [Op.operands]), ← hs k (by simp [Op.operands]), ← hs y (by simp [Op.operands])]
    rw [semMapUpdate_local (key x (by simp [Op.operands])) (key y (by simp [Op.operands])), semMapUpdateL_local (key x (by simp [Op.operands]))]
  | _ => rfl
end Go.Tv
