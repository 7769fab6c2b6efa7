/- The document's parser of rules says what the pieces say: lines, and all of them. -/
import Derived.Test.YtacpjjgochokcaaDoorTv06pl
namespace Go.Proofs.YtacpjjgochokcaaDoor.T
open Go Go.Tv Go.Proofs
theorem OkR.id{A B:Type}{cd:A→Er}{x:Option A}{y:B⊕Er}{R:A→B→Prop}{k:A→Option A}(hk:∀a,k a=some a)(h:OkR cd x y R):OkR cd (x.bind k) y R:=by
 have:x.bind k=x:=by
  cases x with
  | none=>rfl
  | some a=>exact hk a
 rw[this];exact h
section
variable{t:List UInt8}(ht:t.length≤10000)
include ht
end
end Go.Proofs.YtacpjjgochokcaaDoor.T
