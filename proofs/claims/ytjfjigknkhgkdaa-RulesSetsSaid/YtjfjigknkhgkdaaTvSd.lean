/- Short forms for printed walks. -/
import Derived.Test.YtjfjigknkhgkdaaTvSc
namespace Go.Tv
open Go
theorem tt : True := trivial
def Ts : Nat → List Prop → List Prop
  | 0, l => l
  | n + 1, l => True :: Ts n l
theorem tr : ∀ (n : Nat) {l : List Prop}, Allp l → Allp (Ts n l)
  | 0, _, h => h
  | n + 1, _, h => ⟨trivial, tr n h⟩
theorem sI {α : Type} {a b : α} (h : some a = some b) : a = b := Option.some.inj h
theorem nl {a b : Nat} (h : Nat.ble a b = true) : a ≤ b := Nat.le_of_ble_eq_true h
def pO {p : Prop} (_ : p) : Prop := p
theorem bb (b : Bool) : b = true ∨ b = false := Bool.eq_false_or_eq_true b
section
variable {P : Program} {n : NS} {Bw : Nat → Prop} {w0 : Base} {σ : St} {Q : Exit → St → Prop} {tb : Tab}
theorem gl (gs : List G) (f : List Nat) {l : List (Nat × AVal)} {m : List (Nat × Obj)} {nx pn : Nat} (h : (goal gs f l m σ, (σ.pn == pn && smallOk (fnL f) l m nx pn)) = (some (want f l m), true)) : Le n σ (mkSt l m nx pn) := goal_le (Prod.mk.inj h).1 (Prod.mk.inj h).2
theorem W_r (htb : TabOK P tb) (an : An) {id : Nat} {ops : Array Oper} (gs : List G) (f : List Nat) (l : List (Nat × AVal)) (m : List (Nat × Obj)) (nx pn : Nat) (cs : List Prop)
    (h : (afterL gs f l m (σ.nx + 8 * ops.size) σ.pn (runL P tb an n σ.nx ops ops.toList 0 σ.s σ.h), (σ.pn == pn && smallOk (fnL f) l m nx pn)) = (some (want f l m, cs), true)) (hc : Allp cs)
    (hq : ∀ σ', Le n σ' (mkSt l m nx pn) → Q .normal σ') : W P n Bw w0 (.region id ops false) σ Q := W_reg htb an gs f l m nx pn cs (Prod.mk.inj h).1 (Prod.mk.inj h).2 hc hq
theorem W_rs (htb : TabOK P tb) (an : An) {id : Nat} {ops : Array Oper} {d : Code} (gs : List G) (f : List Nat) (l : List (Nat × AVal)) (m : List (Nat × Obj)) (nx pn : Nat) (cs : List Prop)
    (h : (afterL gs f l m (σ.nx + 8 * ops.size) σ.pn (runL P tb an n σ.nx ops ops.toList 0 σ.s σ.h), (σ.pn == pn && smallOk (fnL f) l m nx pn)) = (some (want f l m, cs), true)) (hc : Allp cs)
    (hq : W P n Bw w0 d (mkSt l m nx pn) Q) : W P n Bw w0 (.seq (.region id ops false) d) σ Q := W_seq (W_reg htb an gs f l m nx pn cs (Prod.mk.inj h).1 (Prod.mk.inj h).2 hc (to_then hq))
theorem W_rd (htb : TabOK P tb) (hm : P.follows .mixedOrders = true) (an : An) {id : Nat} {ops : Array Oper} {d : Code} (gs : List G) (f : List Nat) (l : List (Nat × AVal)) (m : List (Nat × Obj)) (nx pn : Nat) (cs : List Prop)
    (h : (afterD gs f l m (σ.nx + 8 * ops.size) σ.pn ops (runD P tb an n σ.nx ops ops.toList 0 σ.s σ.h), (σ.pn == pn && smallOk (fnL f) l m nx pn)) = (some (want f l m, cs), true)) (hc : Allp cs)
    (hq : W P n Bw w0 d (mkSt l m nx pn) Q) : W P n Bw w0 (.seq (.region id ops true) d) σ Q := W_seq (W_regD htb hm an gs f l m nx pn cs (Prod.mk.inj h).1 (Prod.mk.inj h).2 hc (to_then hq))
end
end Go.Tv
