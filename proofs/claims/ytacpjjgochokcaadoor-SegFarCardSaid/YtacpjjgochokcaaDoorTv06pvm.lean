/- What a plan's pieces say: lines. -/
import Derived.Test.YtacpjjgochokcaaDoorTv06ptm
import Derived.Test.YtacpjjgochokcaaDoorTv06pi
import Derived.Test.YtacpjjgochokcaaDoorTv06ardm
namespace Go.Proofs.YtacpjjgochokcaaDoor.T
open Go Go.Tv Go.Proofs
def U6(n:Nat):List (List UInt8):=X9 n 255 n
def U2(n:Nat):P1:=(U6 n).zip ((List.range n).map aCx)
theorem aAW(n k:Nat):nmB n k=nmB n (k % n):=by unfold nmB;rw[Nat.mod_mod]
theorem aAG:((List.range 7).all fun n=>(List.range n).all fun m=>(oU (U6 n) [nmB n m] == m) && (look (U2 n) [nmB n m] == some (aCx m)) && ((U6 n).length == n))=true:=by kernel_rfl
theorem aAR{n:Nat}(h1:1≤n)(h6:n≤6)(k:Nat):oU (U6 n) [nmB n k]=k % n∧look (U2 n) [nmB n k]=some (aCx (k % n))∧(U6 n).length=n:=by
 have a:=List.all_eq_true.mp aAG n (List.mem_range.mpr (by omega))
 have b:=List.all_eq_true.mp a (k % n) (List.mem_range.mpr (Nat.mod_lt _ (by omega)))
 simp only[Bool.and_eq_true,beq_iff_eq]at b
 rw[aAW]
 exact⟨b.1.1,b.1.2,b.2⟩
theorem aES{n:Nat}(h1:1≤n)(h6:n≤6)(k:Nat):∃x,look (U2 n) [nmB n k]=some x:=⟨_,(aAR h1 h6 k).2.1⟩
section
variable{n:Nat}(h1:1≤n)(h6:n≤6)
include h1 h6
end
end Go.Proofs.YtacpjjgochokcaaDoor.T
namespace Go.Proofs.YtacpjjgochokcaaDoor.T
open Go Go.Tv Go.Proofs
end Go.Proofs.YtacpjjgochokcaaDoor.T
namespace Go.Proofs.YtacpjjgochokcaaDoor.T
open Go Go.Tv Go.Proofs
theorem U32.wrap(x:Int):U32 (IntKind.u32.wrap x):=by
 have:IntKind.u32.wrap x=x % 4294967296:=by
  simp only[IntKind.wrap]
  rfl
 rw[this]
 exact⟨by omega,by omega⟩
theorem U32.zero:U32 0:=⟨by decide,by decide⟩
theorem U32.bits(op:BinOp)(x y:Int):U32 (aI op .u32 x y):=by
 unfold aI
 dsimp only
 split <;> exact U32.wrap _
end Go.Proofs.YtacpjjgochokcaaDoor.T
