/- Functions for which the model stands in: the place of a byte in a string. -/
import Derived.Test.YtjfjigknkhgkdaaTvRa
import Derived.Lib.Bytealg
import Derived.WalkKit
import Derived.WalkLawsBesides
namespace Go.Tv
open Go Go.RowKit
def idxB : List UInt8 → Int → Int → Int
  | [], _, _ => -1
  | x :: r, c, k => if x == c.toNat.toUInt8 then k else idxB r c (k + 1)
theorem idxB_eq (c : Int) : ∀ (l : List UInt8) (k : Int), 0 ≤ k → idxB l c k = if Lib.indexByte l c.toNat.toUInt8 == -1 then -1 else Lib.indexByte l c.toNat.toUInt8 + k
  | [], k, _ => rfl
  | x :: r, k, hk => by
    have h := Lib.indexByte_ge r c.toNat.toUInt8
    simp only [idxB, Lib.indexByte]
    rw [idxB_eq c r (k + 1) (by omega)]
    split
    · simp
    · split
      · simp
      · rename_i h2 h3
        simp only [beq_iff_eq] at h3
        have h4 : (Lib.indexByte r c.toNat.toUInt8 + 1 == -1) = false := by simp only [beq_eq_false_iff_ne, ne_eq]; omega
        rw [h4]
        simp only [Bool.false_eq_true, if_false]
        omega
theorem Pure.of_idx {P : Program} {f : FuncId} {fn : Func} (hf : P.funcs[f]? = some fn) (hname : (fn.name == "runtime.NumGoroutine") = false) (hb : fn.body.isNone = false) {β1 β2 : Bool} {s : List UInt8} {c : Int}
    (h : ∀ (s : ByteArray) w, Calls P f #[.string s, .int .u8 c] w fun e w' => e = .returned (.int .i64 (Lib.indexByte s.data.toList c.toNat.toUInt8)) ∧ w' = w) : Pure P f [.p β1 .str s, .p β2 (.int .u8) c] (.p false (.int .i64) (idxB s c 0)) := by
  refine ⟨⟨fn, hf, hname, hb⟩, fun Bw w us hbw hargs => ?_⟩
  match hus : us.toList, hargs with
  | [v0, v1], hargs =>
    have e1 := V_str hargs.1
    have e2 := V_int hargs.2.1
    subst e1 e2
    have : us = #[.string ⟨List.toArray s⟩, .int .u8 c] := Array.ext' hus
    subst this
    refine (h ⟨List.toArray s⟩ w).mono fun r w' ⟨h1, h2⟩ => ⟨_, h1, by subst h2; exact (Kept.refl (baseOf w')).below, ?_⟩
    have e3 : idxB s c 0 = Lib.indexByte s c.toNat.toUInt8 := by
      rw [idxB_eq c s 0 (by omega)]
      split
      · rename_i h3
        simp only [beq_iff_eq] at h3
        exact h3.symm
      · omega
    rw [e3]
    exact mk_int _ _ _
end Go.Tv
