/- Place: what Para and Config make. -/
import Derived.Test.YtdjjifeipeelhaaTvT17xa
import Derived.Test.YtdjjifeipeelhaaTvT17xb
import Derived.Test.YtdjjifeipeelhaaTvY
import Derived.KernelRfl
namespace Go.Proofs.Ytdjjifeipeelhaa.T
open Go Go.Tv Go.Proofs

abbrev C4 : Type := Int × Int × Int × Int
def z4 : C4 := ((0 : Int), ((0 : Int), ((0 : Int), (0 : Int))))
/-- Small numbers. -/
def Byte4 (b : C4) : Prop := (0 ≤ b.1 ∧ b.1 ≤ 255) ∧ (0 ≤ b.2.1 ∧ b.2.1 ≤ 255) ∧ (0 ≤ b.2.2.1 ∧ b.2.2.1 ≤ 255) ∧ (0 ≤ b.2.2.2 ∧ b.2.2.2 ≤ 255)

theorem byte_get {d : List C4} (h : ∀ b ∈ d, Byte4 b) (i : Nat) : Byte4 (d.getD i z4) := by
  rcases Nat.lt_or_ge i d.length with hi | hi
  · rw [List.getD_eq_getElem?_getD, List.getElem?_eq_getElem hi]; exact h _ (List.getElem_mem hi)
  · rw [List.getD_eq_getElem?_getD, List.getElem?_eq_none hi]; simp [Byte4, z4]

def lenB (d : List C4) (i : Nat) : Int := 1 + (d.getD i z4).2.2.1 % 4
def posB (d : List C4) : Nat → Int
  | 0 => 0
  | i + 1 => posB d i + lenB d i
def cluB (d : List C4) (i : Nat) : C4 := (posB d i, lenB d i, (d.getD i z4).1 % 3, (d.getD i z4).2.1 % 3)
def clus (d : List C4) (k : Nat) : List C4 := (List.range k).map (cluB d)
def oppB (d : List C4) (i : Nat) : Int := if 0 < i then (d.getD (i - 1) z4).2.2.2 % 4 else 0
def opps (d : List C4) (k : Nat) : List Int := (List.range k).map (oppB d)

theorem lenB_in {d : List C4} (i : Nat) : 1 ≤ lenB d i ∧ lenB d i ≤ 4 := by
  unfold lenB
  have := Int.emod_nonneg (d.getD i z4).2.2.1 (show (4 : Int) ≠ 0 by decide)
  have := Int.emod_lt_of_pos (d.getD i z4).2.2.1 (show (0 : Int) < 4 by decide)
  omega
theorem posB_in {d : List C4} (i : Nat) : (i : Int) ≤ posB d i ∧ posB d i ≤ 4 * i := by
  induction i with
  | zero => simp [posB]
  | succ i ih =>
    have := lenB_in (d := d) i
    simp only [posB]
    omega

theorem para_eq {d : List C4} (hb : ∀ b ∈ d, Byte4 b) (hl : d.length ≤ 100) : stanzahand03_Para d = some (clus d d.length, opps d d.length ++ [2]) := by
  have h1 : iter (stanzahand03_Para_L1 d) (([] : List C4), (0 : Int), (0 : Int)) = some (clus d d.length) := iter_count (body := stanzahand03_Para_L1 d) (fun k => (clus d k, posB d k, (k : Int))) d.length (fun k hk => by
    have hp := posB_in (d := d) k
    have hln := lenB_in (d := d) k
    have hbk := byte_get hb k
    obtain ⟨b1, b2, b3, b4⟩ := hbk
    have e3 : IntKind.i64.wrap (1 + IntKind.i64.wrap (Int.tmod (d.getD k z4).2.2.1 4)) = lenB d k := by
      unfold lenB at hln ⊢
      rw [Int.tmod_eq_emod_of_nonneg b3.1, wrap_i64 (x := (d.getD k z4).2.2.1 % 4) (by omega) (by omega), wrap_i64 (by omega) (by omega)]
    have e1 : IntKind.i64.wrap (Int.tmod (d.getD k z4).1 3) = (d.getD k z4).1 % 3 := by
      rw [Int.tmod_eq_emod_of_nonneg b1.1, wrap_i64 (by omega) (by omega)]
    have e2 : Int.tmod (d.getD k z4).2.1 3 = (d.getD k z4).2.1 % 3 := Int.tmod_eq_emod_of_nonneg b2.1
    have e4 : IntKind.i64.wrap (posB d k + lenB d k) = posB d (k + 1) := by rw [wrap_i64 (by omega) (by omega)]; rfl
    have e5 : IntKind.i64.wrap ((k : Int) + 1) = ((k + 1 : Nat) : Int) := by rw [wrap_i64 (by omega) (by omega)]; omega
    have hlen : (clus d k).length = k := by simp [clus]
    change stanzahand03_Para_L1 d (clus d k, posB d k, (k : Int)) = some (Sum.inl (clus d (k + 1), posB d (k + 1), ((k + 1 : Nat) : Int)))
    simp only [stanzahand03_Para_L1, Int.toNat_natCast]
    rw [if_pos (by simp only [decide_eq_true_eq]; omega)]
    simp only [Option.bind_some]
    rw [if_pos (by simp only [decide_eq_true_eq]; omega), if_pos ⟨by omega, by omega⟩, if_pos (by decide), if_pos (by decide), if_pos (by decide),
      if_pos ⟨by simp only [hlen, List.length_cons, List.length_nil]; omega, by simp only [hlen, List.length_cons, List.length_nil]; omega⟩]
    change some (Sum.inl (clus d k ++ [(posB d k, IntKind.i64.wrap (1 + IntKind.i64.wrap (Int.tmod (d.getD k z4).2.2.1 4)), IntKind.i64.wrap (Int.tmod (d.getD k z4).1 3), Int.tmod (d.getD k z4).2.1 3)], IntKind.i64.wrap (posB d k + IntKind.i64.wrap (1 + IntKind.i64.wrap (Int.tmod (d.getD k z4).2.2.1 4))), IntKind.i64.wrap ((k : Int) + 1))) = _
    rw [e3, e1, e2, e4, e5]
    unfold clus
    rw [List.range_succ, List.map_append]
    rfl) (by
      have hp := posB_in (d := d) d.length
      simp only [stanzahand03_Para_L1]
      rw [if_neg (by simp)]
      simp)
  have h2 : iter (stanzahand03_Para_L2 d (clus d d.length)) (([] : List Int), (0 : Int)) = some (opps d d.length) := iter_count (body := stanzahand03_Para_L2 d (clus d d.length)) (fun k => (opps d k, (k : Int))) d.length (fun k hk => by
    have hlen : (opps d k).length = k := by simp [opps]
    have hcl : (clus d d.length).length = d.length := by simp [clus]
    have e5 : IntKind.i64.wrap ((k : Int) + 1) = ((k + 1 : Nat) : Int) := by rw [wrap_i64 (by omega) (by omega)]; omega
    have ev : (if decide ((k : Int) > 0) = true then (if 0 ≤ (IntKind.i64.wrap ((k : Int) - 1)) ∧ (IntKind.i64.wrap ((k : Int) - 1)) < (d.length : Int) then (if ¬ (4 : Int) = 0 then some ((Int.tmod ((d.getD ((IntKind.i64.wrap ((k : Int) - 1)).toNat) ((0 : Int), ((0 : Int), ((0 : Int), (0 : Int))))).2.2.2) (4 : Int))) else none) else none) else some ((0 : Int))) = some (oppB d k) := by
      unfold oppB
      by_cases h0 : 0 < k
      · have e : IntKind.i64.wrap ((k : Int) - 1) = ((k - 1 : Nat) : Int) := by rw [wrap_i64 (by omega) (by omega)]; omega
        rw [if_pos (by simp only [decide_eq_true_eq]; omega), e, if_pos ⟨by omega, by omega⟩, if_pos (by decide), if_pos h0, Int.toNat_natCast]
        congr 1
        exact Int.tmod_eq_emod_of_nonneg (byte_get hb (k - 1)).2.2.2.1
      · rw [if_neg (by simp only [decide_eq_true_eq]; omega), if_neg h0]
    simp only [stanzahand03_Para_L2]
    rw [if_pos (by simp only [hcl, decide_eq_true_eq]; omega), ev]
    simp only [Option.bind_some]
    rw [if_pos ⟨by simp only [hlen, List.length_cons, List.length_nil]; omega, by simp only [hlen, List.length_cons, List.length_nil]; omega⟩, e5]
    unfold opps
    rw [List.range_succ, List.map_append]
    rfl) (by
      simp only [stanzahand03_Para_L2]
      rw [if_neg (by simp [clus])])
  unfold stanzahand03_Para
  rw [h1]
  simp only [Option.bind_some]
  rw [h2]
  simp only [Option.bind_some]
  rw [if_pos ⟨by simp only [opps, List.length_map, List.length_range, List.length_cons, List.length_nil]; omega, by simp only [opps, List.length_map, List.length_range, List.length_cons, List.length_nil]; omega⟩]

theorem config_eq {w1 w2 w3 w4 w5 : Int} {w6 : Nat} (h1 : 0 ≤ w1 ∧ w1 ≤ 255) (h2 : 0 ≤ w2 ∧ w2 ≤ 255) (h3 : 0 ≤ w3 ∧ w3 ≤ 255) (h4 : 0 ≤ w4 ∧ w4 ≤ 65535) (h5 : 0 ≤ w5 ∧ w5 ≤ 65535) :
    stanzahand03_Config w1 w2 w3 w4 w5 w6 = some (1 + w1, 1 + w2 % 64, w3 % 2, w4, w5, w6) := by
  unfold stanzahand03_Config
  have e2 : Int.tmod w2 64 = w2 % 64 := Int.tmod_eq_emod_of_nonneg h2.1
  have e3 : Int.tmod w3 2 = w3 % 2 := Int.tmod_eq_emod_of_nonneg h3.1
  rw [if_pos (by decide), if_pos (by decide), e2, e3, wrap_i64 (x := w1) (by omega) (by omega), wrap_i64 (x := 1 + w1) (by omega) (by omega), wrap_i64 (x := w2 % 64) (by omega) (by omega), wrap_i64 (x := 1 + w2 % 64) (by omega) (by omega),
    wrap_i64 (x := w4) (by omega) (by omega), wrap_i64 (x := w5) (by omega) (by omega)]
end Go.Proofs.Ytdjjifeipeelhaa.T
