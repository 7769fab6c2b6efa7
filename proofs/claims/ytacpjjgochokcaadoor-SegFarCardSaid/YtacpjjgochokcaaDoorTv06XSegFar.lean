/- SegFar: called with any data that the statement reads, the given law answers true; what the table of the library holds is tied to the program's text. Conditions: none beyond the statement. -/
import Derived.Test.YtacpjjgochokcaaDoorTv06bgm
import Derived.Test.YtacpjjgochokcaaDoorTv06lpm
import Derived.Test.YtacpjjgochokcaaDoorRows
import Derived.Test.YtacpjjgochokcaaDoorProg
import Derived.Test.YtacpjjgochokcaaDoorTie
import Derived.Test.YtacpjjgochokcaaDoorCards
import Derived.WalkKit
import Derived.ProofKit
import Derived.OpenShut
import Derived.ShutString
import Derived.ChangeOld
import Derived.Below
import Derived.SizedLaws
import Derived.LaidMore
import Derived.Lib.LaidTab
import Derived.Stop.Joined
import Derived.SevenTiedAt
namespace Go.Proofs.YtacpjjgochokcaaDoor.segFar
open Go Go.ChangeShapes Go.WideShapes Go.ChangeAt Go.RowKit Go.Tv Go.Proofs
theorem own:ownKnob Tryd.prog.godebug=none:=by kernel_rfl
theorem aA3:laidOutB Tryd.prog=true:=by kernel_rfl
abbrev zO:List (String×DataW Unit):=[("math/bits.deBruijn32tab",Rows.laid_math_bits_deBruijn32tab)]
theorem aEw:Tryd.prog.globalNamed "math/bits.deBruijn32tab" = some 0:=by kernel_rfl
theorem aDS:(Tryd.prog.globals[0]?).map (·.type)=some 88:=by kernel_rfl
theorem W6(os:Os)(args:Array Value):laidMetH Tryd.prog zO ((World.doorLaid Tryd.prog 400 os).forCall (fun _ _=>0) ⟨#[],args,[]⟩).memory :=
 laidMetH_of_parts3 (fuel:=8) (laidMet_of_run' 8 (by kernel_rfl) (by kernel_rfl)) (by kernel_rfl) (by kernel_rfl)
theorem aBG{W:World}(h:laidMetH Tryd.prog zO W):tE Tryd.prog W:=by
 rw[MakeChecks.laidMetH_plain _ _ _ (by kernel_rfl)]at h
 have ht:Lib.TabIs Tryd.prog W "math/bits.deBruijn32tab" .u8 deB:=Lib.tabIs_of_head (t:=88) (e:=5) (n:=32) aEw aDS (by kernel_rfl) (by kernel_rfl) (by kernel_rfl) (by kernel_rfl) h
 exact fun g hg i hi=>ht.cell hg i hi
theorem pure(x:Tup T.segFar_Ts)(hx:WfT T.segFar_Ts x):Pure Tryd.prog 7 (aCA T.segFar_Ts x) (.p false .bool true) :=
 T.stanzalaw06_SegFar_ok false (T.segFar_all x hx)
set_option maxRecDepth 100000 in
theorem aCz(os:Os)(started:os.Started)(H:Type)(en:TypeId×Value→H):
  ReturnsInHanded {} Tryd.checked os 7 .any (fun w args=>(Rows.segFarSpec.pre en Tryd.prog Tryd.f7 [] false w args∧laidMetH Tryd.prog zO w)∧sizedMet en Tryd.prog Tryd.f7 (OpenSpec.ofChange Rows.segFarSpec) false w args)
   (Rows.segFarSpec.post en Tryd.prog Tryd.f7 false true false false):=by
 refine returnsInHanded_of_change_and (C:=Tryd.checked) (X:=fun w _=>laidMetH Tryd.prog zO w) (fun _ _ _ hh h=>h.of_heap hh) own started (by kernel_rfl) Tryd.func7
  (ChangeSpec.witness_shaped (enc:=en) (C:=Tryd.checked) (os:=os) (X:=fun w _=>laidMetH Tryd.prog zO w) false (World.doorLaid Tryd.prog 400 os) #[.int .u8 0,.slice none 0 0] 8 rfl (World.shaped_of_RefB (by kernel_rfl) (by kernel_rfl)) (by kernel_rfl) (by kernel_rfl) (by kernel_rfl) (W6 os _)) ?_
 intro W base args ds gs before hval0 hW _ _ hL _
 have hval:∀(j:Nat) t v,Tryd.f7.params[j]? = some t→args[j]? = some v→Value.okWide Tryd.prog W .any base t v:=hval0
 have hW':=hW
 obtain⟨p,q,hA0,hV,rfl,hfz,hnd⟩:=hW
 have hA:DataW.TrodAll en Tryd.prog W 0 (fun _=>true) true Tryd.f7.params.toList args.toList ds p:=hA0
 rw[Tryd.params7]at hA hval
 obtain⟨x,hx,wx,hl⟩:=xS (n:=8) (Ts:=T.segFar_Ts) (by kernel_rfl) hA (fun j t v a b=>hval j t v (by simpa using a) (by simpa using b))
 obtain⟨rfl,rfl⟩:=trodVars_none hV
 clear hA0 hval0
 refine((pure x wx).calls _ W args (aBG hL) (fun _ h=>h.elim) hx).mono fun e W' ⟨v,he,bel,hv⟩=> ?_
 have hv':=lO hv
 subst he hv'
 have hb:=x5 aA3 bel (ts:=[5,46]) (by kernel_rfl) hA
 match ds,hl with
 | [d1,d2],_ =>
  exact⟨_,rfl,_,_,_,[],_,[],hW',trodAll_mk1 (shut_bool Tryd.underlying4 _),hb,rfl,bel.frame _,fun h=>by cases h⟩
theorem aCQ:Rows.segFarRow.holds Tryd.pinned (OpenSpec.ofChange Rows.segFarSpec) :=
 OpenClaim.holds_of_wide 7 Tryd.f7 rfl rfl rfl rfl rfl rfl rfl ⟨rfl,rfl,rfl,rfl,rfl⟩ rfl rfl rfl rfl rfl (by kernel_rfl) Tryd.func7 (by kernel_rfl)
  (of_decide_eq_true (by kernel_rfl)) (by unfold Func.isWrapper;first | (rw[if_pos (by decide +kernel)];kernel_rfl) | (rw[if_neg (by decide +kernel)];exact⟨rfl,rfl⟩))
  (fun os started H en _=>aCz os started H en)
theorem proved:Rows.SegFarCardSaid :=
 Claim7.holds_tied_plain_at .later [] [.data] true (true, "859c4d5280bfdb7019ab089334a957ff308359cfe3cbdf2dc80129ac8619d78f") true
  aCQ (fun _ h=>by cases h) (by kernel_rfl) (fun _ h=>by cases h) segFar_row_tie rfl ⟨rfl,rfl⟩ (by kernel_rfl) rfl
  (fun f fn hf hfn=>by
   obtain rfl:f=7:=Option.some.inj ((show Tryd.prog.funcNamed "stanza/stanzalaw06.SegFar" = some 7 by kernel_rfl).symm.trans hf) |>.symm
   obtain rfl:fn=Tryd.f7:=(Option.some.inj (Tryd.func7.symm.trans hfn)).symm
   exact⟨by kernel_rfl,fun j t ht=>by
    rw[Tryd.params7]at ht
    have hm:t∈[5,46]:=by simpa using Array.mem_of_getElem? ht
    have hall:([5,46].all fun u=> !Tryd.prog.wantsStandIn u)=true:=by kernel_rfl
    exact(show Tryd.prog.wantsStandIn t=false by simpa using List.all_eq_true.1 hall t hm)⟩)
  (by kernel_rfl)
end Go.Proofs.YtacpjjgochokcaaDoor.segFar
