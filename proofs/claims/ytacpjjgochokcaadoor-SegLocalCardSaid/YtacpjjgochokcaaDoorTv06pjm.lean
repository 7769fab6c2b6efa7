/- The document's parser of rules says what the pieces say: pieces, names and sets. -/
import Derived.Test.YtacpjjgochokcaaDoorTv06pi
namespace Go.Proofs.YtacpjjgochokcaaDoor.T
open Go Go.Tv Go.Proofs
def OkR{A B:Type}(cd:A→Er)(x:Option A)(y:B⊕Er)(R:A→B→Prop):Prop:=match y with
 | .inr e=>∃a,x=some a∧cd a=e∧e.1≠0
 | .inl b=>∃a,x=some a∧cd a=(0,0)∧R a b
theorem OkR.bind{A B C D:Type}{cd:A→Er}{x:Option A}{y:B⊕Er}{R:A→B→Prop}(h:OkR cd x y R){k:A→Option C}{cd':C→Er}{s:D⊕Er}{R':C→D→Prop}
  (h1:∀a,y = .inr (cd a)→(cd a).1≠0→s = .inr (cd a)∧∃c,k a=some c∧cd' c=cd a) (h2:∀a b,y = .inl b→cd a=(0,0)→R a b→OkR cd' (k a) s R'):OkR cd' (x.bind k) s R':=by
 cases y with
 | inr e =>
  obtain⟨a,h3,h4,h5⟩:=h
  subst h4
  obtain⟨h6,c,h7,h8⟩:=h1 a rfl h5
  rw[h3,h6,Option.bind_some]
  exact⟨c,h7,h8,h5⟩
 | inl b =>
  obtain⟨a,h3,h4,h5⟩:=h
  rw[h3]
  exact h2 a b rfl h4 h5
/-! Behind a fault nothing is changed. -/
section
variable{c:Int}(hc:c≠0)
include hc
end
end Go.Proofs.YtacpjjgochokcaaDoor.T
namespace Go.Proofs.YtacpjjgochokcaaDoor.T
open Go Go.Tv Go.Proofs
theorem xH:∀(names:List (List UInt8)) (bits:List Int) (w:List UInt8),names.length=bits.length→look (names.zip bits) w=if gB names w<names.length then some (bits.getD (gB names w) 0)else none
 | [],_,w,_=>rfl
 | n::ns,[],w,h=>by cases h
 | n::ns,b::bs,w,h=>by
  have ih:=xH ns bs w (by simpa using h)
  have hp:gB (n::ns) w=if(n == w)=true then 0 else gB ns w+1:=by
   unfold gB
   simp only[List.length_cons,mC]
   rfl
  have hlk:look ((n::ns).zip (b::bs)) w=if(n == w)=true then some b else look (ns.zip bs) w:=rfl
  rw[hlk,hp]
  by_cases hn:(n == w)=true
  ·rw[if_pos hn,if_pos hn,if_pos (by simp)]
   rfl
  ·rw[if_neg hn,if_neg hn,ih]
   by_cases hq:gB ns w<ns.length
   ·rw[if_pos hq,if_pos (by simp only[List.length_cons];omega)];rfl
   ·rw[if_neg hq,if_neg (by simp only[List.length_cons];omega)]
structure Nm(names:List (List UInt8))(bits:List Int)(sets:fI):Prop where
 hz:sets=names.zip bits
 hlen:names.length=bits.length
theorem Nm.look{names bits sets}(h:Nm names bits sets)(w:List UInt8):look sets w=if gB names w<names.length then some (bits.getD (gB names w) 0)else none:=by
 rw[h.hz];exact xH names bits w h.hlen
theorem Nm.add{names bits sets}(h:Nm names bits sets)(w:List UInt8)(b:Int):Nm (names++[w]) (bits++[b]) (sets++[(w,b)]) :=
 ⟨by rw[h.hz,List.zip_append h.hlen];rfl,by simp[h.hlen]⟩
section
variable{t:List UInt8}(ht:t.length≤10000)
include ht
end
end Go.Proofs.YtacpjjgochokcaaDoor.T
