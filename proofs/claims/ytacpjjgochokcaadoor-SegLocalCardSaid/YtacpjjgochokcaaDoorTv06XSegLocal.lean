/- SegLocal: called with any data that the statement reads, the given law answers true; what the table of the library holds is tied to the program's text. Conditions: none beyond the statement. -/
import Derived.Test.YtacpjjgochokcaaDoorTv06bom
import Derived.Test.YtacpjjgochokcaaDoorTv06lpm
import Derived.Test.YtacpjjgochokcaaDoorRows
import Derived.Test.YtacpjjgochokcaaDoorProg
import Derived.Test.YtacpjjgochokcaaDoorTie
import Derived.Test.YtacpjjgochokcaaDoorCards
import Derived.WalkKit
import Derived.ProofKit
import Derived.OpenShut
import Derived.ShutString
import Derived.ChangeOld
import Derived.Below
import Derived.SizedLaws
import Derived.LaidMore
import Derived.Lib.LaidTab
import Derived.Stop.Joined
import Derived.SevenTiedAt
namespace Go.Proofs.YtacpjjgochokcaaDoor.segLocal
open Go Go.ChangeShapes Go.WideShapes Go.ChangeAt Go.RowKit Go.Tv Go.Proofs
theorem own:ownKnob Tryd.prog.godebug=none:=by kernel_rfl
theorem aES:laidOutB Tryd.prog=true:=by kernel_rfl
abbrev P9:List (String×DataW Unit):=[("math/bits.deBruijn32tab",Rows.laid_math_bits_deBruijn32tab)]
theorem aHE:Tryd.prog.globalNamed "math/bits.deBruijn32tab" = some 0:=by kernel_rfl
theorem aH5:(Tryd.prog.globals[0]?).map (·.type)=some 88:=by kernel_rfl
theorem aCV(os:Os)(args:Array Value):laidMetH Tryd.prog P9 ((World.doorLaid Tryd.prog 400 os).forCall (fun _ _=>0) ⟨#[],args,[]⟩).memory :=
 laidMetH_of_parts3 (fuel:=8) (laidMet_of_run' 8 (by kernel_rfl) (by kernel_rfl)) (by kernel_rfl) (by kernel_rfl)
theorem aEZ{W:World}(h:laidMetH Tryd.prog P9 W):u9 Tryd.prog W:=by
 rw[MakeChecks.laidMetH_plain _ _ _ (by kernel_rfl)]at h
 have ht:Lib.TabIs Tryd.prog W "math/bits.deBruijn32tab" .u8 deB:=Lib.tabIs_of_head (t:=88) (e:=5) (n:=32) aHE aH5 (by kernel_rfl) (by kernel_rfl) (by kernel_rfl) (by kernel_rfl) h
 exact fun g hg i hi=>ht.cell hg i hi
theorem pure(x:Tup T.segLocal_Ts)(hx:WfT T.segLocal_Ts x):Pure Tryd.prog 6 (aGf T.segLocal_Ts x) (.p false .bool true) :=
 T.stanzalaw06_SegLocal_ok false false (T.segLocal_all x hx)
set_option maxRecDepth 100000 in
theorem aGa(os:Os)(started:os.Started)(H:Type)(en:TypeId×Value→H):
  ReturnsInHanded {} Tryd.checked os 6 .any (fun w args=>(Rows.segLocalSpec.pre en Tryd.prog Tryd.f6 [] false w args∧laidMetH Tryd.prog P9 w)∧sizedMet en Tryd.prog Tryd.f6 (OpenSpec.ofChange Rows.segLocalSpec) false w args)
   (Rows.segLocalSpec.post en Tryd.prog Tryd.f6 false true false false):=by
 refine returnsInHanded_of_change_and (C:=Tryd.checked) (X:=fun w _=>laidMetH Tryd.prog P9 w) (fun _ _ _ hh h=>h.of_heap hh) own started (by kernel_rfl) Tryd.func6
  (ChangeSpec.witness_shaped (enc:=en) (C:=Tryd.checked) (os:=os) (X:=fun w _=>laidMetH Tryd.prog P9 w) false (World.doorLaid Tryd.prog 400 os) #[.slice none 0 0,.slice none 0 0] 8 rfl (World.shaped_of_RefB (by kernel_rfl) (by kernel_rfl)) (by kernel_rfl) (by kernel_rfl) (by kernel_rfl) (aCV os _)) ?_
 intro W base args ds gs before hval0 hW _ _ hL _
 have hval:∀(j:Nat) t v,Tryd.f6.params[j]? = some t→args[j]? = some v→Value.okWide Tryd.prog W .any base t v:=hval0
 have hW':=hW
 obtain⟨p,q,hA0,hV,rfl,hfz,hnd⟩:=hW
 have hA:DataW.TrodAll en Tryd.prog W 0 (fun _=>true) true Tryd.f6.params.toList args.toList ds p:=hA0
 rw[Tryd.params6]at hA hval
 obtain⟨x,hx,wx,hl⟩:=E7 (n:=8) (Ts:=T.segLocal_Ts) (by kernel_rfl) hA (fun j t v a b=>hval j t v (by simpa using a) (by simpa using b))
 obtain⟨rfl,rfl⟩:=trodVars_none hV
 clear hA0 hval0
 refine((pure x wx).calls _ W args (aEZ hL) (fun _ h=>h.elim) hx).mono fun e W' ⟨v,he,bel,hv⟩=> ?_
 have hv':=oE hv
 subst he hv'
 have hb:=F5 aES bel (ts:=[22,26]) (by kernel_rfl) hA
 match ds,hl with
 | [d1,d2],_ =>
  exact⟨_,rfl,_,_,_,[],_,[],hW',trodAll_mk1 (shut_bool Tryd.underlying4 _),hb,rfl,bel.frame _,fun h=>by cases h⟩
theorem aGz:Rows.segLocalRow.holds Tryd.pinned (OpenSpec.ofChange Rows.segLocalSpec) :=
 OpenClaim.holds_of_wide 6 Tryd.f6 rfl rfl rfl rfl rfl rfl rfl ⟨rfl,rfl,rfl,rfl,rfl⟩ rfl rfl rfl rfl rfl (by kernel_rfl) Tryd.func6 (by kernel_rfl)
  (of_decide_eq_true (by kernel_rfl)) (by unfold Func.isWrapper;first | (rw[if_pos (by decide +kernel)];kernel_rfl) | (rw[if_neg (by decide +kernel)];exact⟨rfl,rfl⟩))
  (fun os started H en _=>aGa os started H en)
theorem proved:Rows.SegLocalCardSaid :=
 Claim7.holds_tied_plain_at .later [] [.data] true (true, "859c4d5280bfdb7019ab089334a957ff308359cfe3cbdf2dc80129ac8619d78f") true
  aGz (fun _ h=>by cases h) (by kernel_rfl) (fun _ h=>by cases h) segLocal_row_tie rfl ⟨rfl,rfl⟩ (by kernel_rfl) rfl
  (fun f fn hf hfn=>by
   obtain rfl:f=6:=Option.some.inj ((show Tryd.prog.funcNamed "stanza/stanzalaw06.SegLocal" = some 6 by kernel_rfl).symm.trans hf) |>.symm
   obtain rfl:fn=Tryd.f6:=(Option.some.inj (Tryd.func6.symm.trans hfn)).symm
   exact⟨by kernel_rfl,fun j t ht=>by
    rw[Tryd.params6]at ht
    have hm:t∈[22,26]:=by simpa using Array.mem_of_getElem? ht
    have hall:([22,26].all fun u=> !Tryd.prog.wantsStandIn u)=true:=by kernel_rfl
    exact(show Tryd.prog.wantsStandIn t=false by simpa using List.all_eq_true.1 hall t hm)⟩)
  (by kernel_rfl)
end Go.Proofs.YtacpjjgochokcaaDoor.segLocal
