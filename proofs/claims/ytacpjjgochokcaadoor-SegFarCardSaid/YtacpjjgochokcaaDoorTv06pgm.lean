/- The program's parser of rules says what the pieces say: names, sets, things. -/
import Derived.Test.YtacpjjgochokcaaDoorTv06pf
namespace Go.Proofs.YtacpjjgochokcaaDoor.T
open Go Go.Tv Go.Proofs
theorem Ok.bind{A B C D:Type}{x:Option (A⊕Er)}{y:B⊕Er}{R:A→B→Prop}(h:Ok x y R){k:A⊕Er→Option (C⊕Er)}{s:D⊕Er}{R':C→D→Prop}
  (h1:∀e1 e2,y = .inr (e1,e2)→k (.inr (e1,e2))=some (.inr (e1,e2))∧s = .inr (e1,e2)) (h2:∀a b,y = .inl b→R a b→Ok (k (.inl a)) s R'):Ok (x.bind k) s R':=by
 cases y with
 | inr e =>
  obtain⟨e1,e2⟩:=e
  rw[show x=some (.inr (e1,e2))from h,Option.bind_some,(h1 e1 e2 rfl).1,(h1 e1 e2 rfl).2]
  rfl
 | inl b =>
  obtain⟨a,h3,h4⟩:=h
  rw[h3]
  exact h2 a b rfl h4
section
variable{t:List UInt8}(ht:t.length≤10000)
include ht
end
section
variable{t:List UInt8}(ht:t.length≤10000)
include ht
end
end Go.Proofs.YtacpjjgochokcaaDoor.T
namespace Go.Proofs.YtacpjjgochokcaaDoor.T
open Go Go.Tv Go.Proofs
section
variable{t:List UInt8}
variable(ht:t.length≤10000)
include ht
end
end Go.Proofs.YtacpjjgochokcaaDoor.T
