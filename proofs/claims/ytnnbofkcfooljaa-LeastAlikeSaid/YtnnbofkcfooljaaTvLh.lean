/- Least: number is its spec. -/
import Derived.Test.YtnnbofkcfooljaaTvLg
namespace Go.Proofs.Ytnnbofkcfooljaa.T
open Go Go.Tv Go.Proofs

def ints (l : List Nat) : List Int := l.map fun (x : Nat) => (x : Int)
theorem ints_len (l : List Nat) : (ints l).length = l.length := by simp [ints]
theorem ints_get {l : List Nat} {i : Nat} (hi : i < l.length) : ((ints l).getD i 0) = ((l.getD i 0 : Nat) : Int) := by
  simp [ints, List.getD_eq_getElem?_getD, hi]
theorem ints_add (l : List Nat) (t : Nat) : ints (l ++ [t]) = ints l ++ [(t : Int)] := by simp [ints]

theorem ways_lt {nx : List (List Int)} {ot : List Int} {n c : Nat} (h : OkA nx ot n c) {s : Nat} (hs : s < n) : ∀ t ∈ ways nx s, t < n := fun t ht => by
  simp only [ways, List.mem_map] at ht
  obtain ⟨x, hx, rfl⟩ := ht
  obtain ⟨j, hj⟩ := List.mem_iff_getElem?.1 hx
  have hjl : j < c := by rw [← h.row s hs]; exact (List.getElem?_eq_some_iff.1 hj).1
  have hw := h.way s j hs hjl
  have : (nx.getD s []).getD j 0 = x := by
    generalize nx.getD s [] = l at hj
    rw [List.getD_eq_getElem?_getD, hj]; rfl
  omega

section
variable {nx : List (List Int)} {ot : List Int} {n c : Nat} (h : OkA nx ot n c) {kd : Nat → Int} {M : Nat} (hM : M ≤ 1000) (hk : ∀ s, s < n → 0 ≤ kd s ∧ kd s < M)
include h hM hk

theorem number_L2 {ln : List Nat} (hl : Lane kd n M ln) {i : Nat} (hi : i < ln.length) :
    iter (least_number_L2 nx ((List.range n).map kd) (ints ln) (i : Int)) (placeOf kd M ln, ints ln, ([] : List Int), (0 : Int)) =
      some (placeOf kd M (walk kd ln (ways nx (ln.getD i 0)) []).1, ints (walk kd ln (ways nx (ln.getD i 0)) []).1, (walk kd ln (ways nx (ln.getD i 0)) []).2) := by
  have hsm := h.small
  have hs : ln.getD i 0 < n := by
    rw [List.getD_eq_getElem?_getD, List.getElem?_eq_getElem hi]
    exact hl.lt _ (List.getElem_mem hi)
  generalize hsd : ln.getD i 0 = s at hs ⊢
  have e1 : ((ints ln).getD i 0).toNat = s := by rw [ints_get hi, hsd]; simp
  have hrow := h.row s hs
  have hcs := h.cs
  have hpl : ∀ l, (placeOf kd M l).length = M := fun l => by simp [placeOf]
  have hwl : (ways nx s).length = c := by unfold ways; rw [List.length_map, hrow]
  have hall := ways_lt h hs
  have hi2 := iter_count (body := least_number_L2 nx ((List.range n).map kd) (ints ln) (i : Int))
    (fun k => (placeOf kd M (walk kd ln ((ways nx s).take k) []).1, ints (walk kd ln ((ways nx s).take k) []).1, (walk kd ln ((ways nx s).take k) []).2, (k : Int))) c
    (r := (placeOf kd M (walk kd ln (ways nx s) []).1, ints (walk kd ln (ways nx s) []).1, (walk kd ln (ways nx s) []).2)) (fun k hkc => by
      have hw := h.way s k hs hkc
      have hg : (ways nx s)[k]? = some ((nx.getD s []).getD k 0).toNat := by
        have hkl : k < (nx.getD s []).length := by omega
        unfold ways
        generalize nx.getD s [] = l at hkl
        rw [List.getElem?_map, List.getD_eq_getElem?_getD, List.getElem?_eq_getElem hkl]; rfl
      have hL := Lane.walked ((ways nx s).take k) ln [] hl (fun t ht => hall t (List.mem_of_mem_take ht))
      have hln := hL.le hk
      have hr := walk_len (kd := kd) ((ways nx s).take k) ln []
      have htk : (ways nx s).take (k + 1) = (ways nx s).take k ++ [((nx.getD s []).getD k 0).toNat] := by rw [List.take_add_one, hg]; rfl
      rw [htk, walk_snoc]
      simp only [List.length_take, List.length_nil, hwl] at hr
      generalize hW : walk kd ln ((ways nx s).take k) [] = W at hL hln hr
      obtain ⟨L, r⟩ := W
      simp only at hL hln hr ⊢
      simp only [least_number_L2, Int.toNat_natCast, e1]
      generalize hT : (nx.getD s []).getD k 0 = tI at hw
      have ekd : ((List.range n).map kd).getD tI.toNat 0 = kd tI.toNat := range_get (by omega)
      have hkt := hk tI.toNat (by omega)
      have hln2 : ((List.range n).map kd).length = n := by simp
      have hcast : ((kd tI.toNat).toNat : Int) = kd tI.toNat := by omega
      rw [ekd, if_pos (by simp only [decide_eq_true_eq]; omega), if_pos ⟨by omega, by omega⟩, if_pos ⟨by omega, by omega⟩, if_pos ⟨by omega, by rw [hpl]; omega⟩, if_pos (by rw [hpl]; omega)]
      have hpg : (placeOf kd M L).getD (kd tI.toNat).toNat 0 = if kd tI.toNat ∈ L.map kd then ((L.map kd).idxOf (kd tI.toNat) : Int) else -1 := by
        rw [placeOf_get (by omega), hcast]
      have hwr : IntKind.i64.wrap ((k : Int) + 1) = ((k + 1 : Nat) : Int) := by rw [wrap_i64 (by omega) (by omega)]; omega
      by_cases hm : kd tI.toNat ∈ L.map kd
      · rw [if_neg (by rw [hpg, if_pos hm]; simp only [decide_eq_true_eq]; omega)]
        simp only [Option.bind_some]
        rw [if_pos ⟨by omega, by omega⟩, if_pos ⟨by omega, by rw [hpl]; omega⟩, if_pos (by rw [hpl]; omega), if_pos ⟨by simp only [List.length_cons, List.length_nil]; omega, by simp only [List.length_cons, List.length_nil]; omega⟩, hpg, if_pos hm, hwr]
        simp only [add1, if_pos hm]
      · have e2 := placeOf_add (M := M) hkt.1 hkt.2 hm
        rw [if_pos (by rw [hpg, if_neg hm]; rfl), if_pos ⟨by omega, by omega⟩, if_pos ⟨by omega, by rw [hpl]; omega⟩, if_pos (by rw [hpl]; omega), if_pos ⟨by simp only [ints_len, List.length_cons, List.length_nil]; omega, by simp only [ints_len, List.length_cons, List.length_nil]; omega⟩]
        simp only [Option.bind_some, ints_len]
        have htc : ((tI.toNat : Nat) : Int) = tI := by omega
        have e3 : ints L ++ ([tI] : List Int) = ints (L ++ [tI.toNat]) := by rw [ints_add, htc]
        rw [e2, e3, if_pos ⟨by omega, by omega⟩, if_pos ⟨by omega, by rw [hpl]; omega⟩, if_pos (by rw [hpl]; omega), if_pos ⟨by simp only [List.length_cons, List.length_nil]; omega, by simp only [List.length_cons, List.length_nil]; omega⟩, hwr]
        have hpg2 : (placeOf kd M (L ++ [tI.toNat])).getD (kd tI.toNat).toNat 0 = ((L.map kd).idxOf (kd tI.toNat) : Int) := by
          rw [placeOf_get (by omega), hcast, List.map_append]
          simp only [List.map_cons, List.map_nil]
          rw [if_pos (by simp), idx_notI hm, List.idxOf_eq_length hm]
        rw [hpg2]
        simp only [add1, if_neg hm])
    (by
      simp only [least_number_L2, Int.toNat_natCast, e1]
      rw [if_neg (by simp only [decide_eq_true_eq]; omega), List.take_of_length_le (by omega)])
  exact hi2
end
end Go.Proofs.Ytnnbofkcfooljaa.T
