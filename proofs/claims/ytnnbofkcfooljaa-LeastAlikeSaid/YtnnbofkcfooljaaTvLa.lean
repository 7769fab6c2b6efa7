/- Least: kinds by keys. -/
import Derived.Test.YtnnbofkcfooljaaTvT
import Derived.Test.YtnnbofkcfooljaaTvY
namespace Go.Proofs.Ytnnbofkcfooljaa.T
open Go Go.Tv Go.Proofs

theorem most_eq (l : List Int) (hl : l.length ≤ 4611686018427387904) : least_most l = some (l.foldl max 0) := by
  unfold least_most
  have h := iter_count (body := least_most_L1 l) (fun k => ((l.take k).foldl max 0, (k : Int))) l.length (r := l.foldl max 0) (fun k hk => by
    have e : (l.take (k + 1)).foldl max 0 = max ((l.take k).foldl max 0) (l.getD k 0) := by
      rw [List.take_add_one, List.foldl_append]
      have : l[k]? = some l[k] := List.getElem?_eq_getElem hk
      simp [this, List.getD_eq_getElem?_getD]
    simp only [least_most_L1]
    rw [if_pos (by simpa using hk), if_pos ⟨by omega, by omega⟩, wrap_i64 (by omega) (by omega)]
    simp [e]) (by simp [least_most_L1])
  have h' : iter (least_most_L1 l) ((0 : Int), (0 : Int)) = some (l.foldl max 0) := h
  rw [h']
  rfl

/-- A number as four bytes. -/
def four (x : Int) : List Int := [IntKind.u8.wrap x, IntKind.u8.wrap (Int.fdiv x (2 ^ (min (8 : Int).toNat IntKind.i64.bits))), IntKind.u8.wrap (Int.fdiv x (2 ^ (min (16 : Int).toNat IntKind.i64.bits))), IntKind.u8.wrap (Int.fdiv x (2 ^ (min (24 : Int).toNat IntKind.i64.bits)))]

theorem bytes_eq (l : List Int) (hl : l.length ≤ 1000000) : iter (least_split_L1 l) (([] : List Int), (0 : Int)) = some (l.flatMap four) := by
  have h := iter_count (body := least_split_L1 l) (fun k => ((l.take k).flatMap four, (k : Int))) l.length (r := l.flatMap four) (fun k hk => by
    have e : (l.take (k + 1)).flatMap four = (l.take k).flatMap four ++ four (l.getD k 0) := by
      rw [List.take_add_one, List.flatMap_append]
      have : l[k]? = some l[k] := List.getElem?_eq_getElem hk
      simp [this, List.getD_eq_getElem?_getD]
    have hlen : ((l.take k).flatMap four).length = 4 * k := by
      have : ∀ m : List Int, (m.flatMap four).length = 4 * m.length := fun m => by
        induction m with
        | nil => rfl
        | cons x m ih => simp only [List.flatMap_cons, List.length_append, ih, four, List.length_cons, List.length_nil]; omega
      rw [this, List.length_take]; omega
    simp only [least_split_L1]
    rw [if_pos (by simpa using hk), if_pos ⟨by omega, by omega⟩, if_pos (by simpa using hk), if_pos (by omega), if_pos (by omega), if_pos (by omega)]
    rw [if_pos ⟨by rw [hlen]; simp only [List.length_cons, List.length_nil]; omega, by rw [hlen]; simp only [List.length_cons, List.length_nil]; omega⟩, wrap_i64 (by omega) (by omega)]
    simp only [Int.toNat_natCast, e]
    rfl) (by simp [least_split_L1])
  simpa using h
end Go.Proofs.Ytnnbofkcfooljaa.T
