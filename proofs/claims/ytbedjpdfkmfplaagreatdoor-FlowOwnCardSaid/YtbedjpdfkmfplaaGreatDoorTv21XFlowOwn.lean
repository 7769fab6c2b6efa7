/- FlowOwn: called with any data that the statement reads, the given law answers true; what the table of the library holds is tied to the program's text. Conditions: none beyond the statement. -/
import Derived.Test.YtbedjpdfkmfplaaGreatDoorTv21tbm
import Derived.Test.YtbedjpdfkmfplaaGreatDoorRows
import Derived.Test.YtbedjpdfkmfplaaGreatDoorProg
import Derived.Test.YtbedjpdfkmfplaaGreatDoorTie
import Derived.Test.YtbedjpdfkmfplaaGreatDoorCards
import Derived.WalkKit
import Derived.ProofKit
import Derived.OpenShut
import Derived.ShutString
import Derived.ChangeOld
import Derived.Below
import Derived.SizedLaws
import Derived.LaidMore
import Derived.Lib.LaidTab
import Derived.Stop.Joined
import Derived.SevenTiedAt
namespace Go.Proofs.YtbedjpdfkmfplaaGreatDoor.flowOwn
open Go Go.ChangeShapes Go.WideShapes Go.ChangeAt Go.RowKit Go.Tv Go.Proofs
theorem own:ownKnob Tryz.prog.godebug=none:=by kernel_rfl
theorem aII:laidOutB Tryz.prog=true:=by kernel_rfl
abbrev aDX:List (String×DataW Unit):=[("math/bits.deBruijn32tab",Rows.laid_math_bits_deBruijn32tab)]
theorem aLz:Tryz.prog.globalNamed "math/bits.deBruijn32tab" = some 0:=by kernel_rfl
theorem aLC:(Tryz.prog.globals[0]?).map (·.type)=some 297:=by kernel_rfl
theorem aHj(os:Os)(args:Array Value):laidMetH Tryz.prog aDX ((World.doorLaid Tryz.prog 400 os).forCall (fun _ _=>0) ⟨#[],args,[]⟩).memory :=
 laidMetH_of_parts3 (fuel:=8) (laidMet_of_run' 8 (by kernel_rfl) (by kernel_rfl)) (by kernel_rfl) (by kernel_rfl)
theorem aIJ{W:World}(h:laidMetH Tryz.prog aDX W):K4 Tryz.prog W:=by
 rw[MakeChecks.laidMetH_plain _ _ _ (by kernel_rfl)]at h
 have ht:Lib.TabIs Tryz.prog W "math/bits.deBruijn32tab" .u8 deB:=Lib.tabIs_of_head (t:=297) (e:=5) (n:=32) aLz aLC (by kernel_rfl) (by kernel_rfl) (by kernel_rfl) (by kernel_rfl) h
 exact fun g hg i hi=>ht.cell hg i hi
theorem pure(x:Tup T.flowOwn_Ts)(hx:WfT T.flowOwn_Ts x):Pure Tryz.prog 5 (aJH T.flowOwn_Ts x) (.p false .bool true) :=
 T.stanzalaw21_FlowOwn_ok false false (T.flowOwn_all x hx)
set_option maxRecDepth 100000 in
theorem aJV(os:Os)(started:os.Started)(H:Type)(en:TypeId×Value→H):
  ReturnsInHanded {} Tryz.checked os 5 .any (fun w args=>(Rows.flowOwnSpec.pre en Tryz.prog Tryz.f5 [] false w args∧laidMetH Tryz.prog aDX w)∧sizedMet en Tryz.prog Tryz.f5 (OpenSpec.ofChange Rows.flowOwnSpec) false w args)
   (Rows.flowOwnSpec.post en Tryz.prog Tryz.f5 false true false false):=by
 refine returnsInHanded_of_change_and (C:=Tryz.checked) (X:=fun w _=>laidMetH Tryz.prog aDX w) (fun _ _ _ hh h=>h.of_heap hh) own started (by kernel_rfl) Tryz.func5
  (ChangeSpec.witness_shaped (enc:=en) (C:=Tryz.checked) (os:=os) (X:=fun w _=>laidMetH Tryz.prog aDX w) false (World.doorLaid Tryz.prog 400 os) #[.agg #[.int .u8 0,.int .u8 0,.int .u8 0,.int .u16 0,.int .u16 0,.float .f64 0],.slice none 0 0,.slice none 0 0,.int .i64 0] 8 rfl (World.shaped_of_RefB (by kernel_rfl) (by kernel_rfl)) (by kernel_rfl) (by kernel_rfl) (by kernel_rfl) (aHj os _)) ?_
 intro W base args ds gs before hval0 hW _ _ hL _
 have hval:∀(j:Nat) t v,Tryz.f5.params[j]? = some t→args[j]? = some v→Value.okWide Tryz.prog W .any base t v:=hval0
 have hW':=hW
 obtain⟨p,q,hA0,hV,rfl,hfz,hnd⟩:=hW
 have hA:DataW.TrodAll en Tryz.prog W 0 (fun _=>true) true Tryz.f5.params.toList args.toList ds p:=hA0
 rw[Tryz.params5]at hA hval
 obtain⟨x,hx,wx,hl⟩:=aA0 (n:=8) (Ts:=T.flowOwn_Ts) (by kernel_rfl) hA (fun j t v a b=>hval j t v (by simpa using a) (by simpa using b))
 obtain⟨rfl,rfl⟩:=trodVars_none hV
 clear hA0 hval0
 refine((pure x wx).calls _ W args (aIJ hL) (fun _ h=>h.elim) hx).mono fun e W' ⟨v,he,bel,hv⟩=> ?_
 have hv':=l4 hv
 subst he hv'
 have hb:=aAR aII bel (ts:=[31,22,22,3]) (by kernel_rfl) hA
 match ds,hl with
 | [d1,d2,d3,d4],_ =>
  exact⟨_,rfl,_,_,_,[],_,[],hW',trodAll_mk1 (shut_bool Tryz.underlying4 _),hb,rfl,bel.frame _,fun h=>by cases h⟩
theorem aK8:Rows.flowOwnRow.holds Tryz.pinned (OpenSpec.ofChange Rows.flowOwnSpec) :=
 OpenClaim.holds_of_wide 5 Tryz.f5 rfl rfl rfl rfl rfl rfl rfl ⟨rfl,rfl,rfl,rfl,rfl⟩ rfl rfl rfl rfl rfl (by kernel_rfl) Tryz.func5 (by kernel_rfl)
  (of_decide_eq_true (by kernel_rfl)) (by unfold Func.isWrapper;first | (rw[if_pos (by decide +kernel)];kernel_rfl) | (rw[if_neg (by decide +kernel)];exact⟨rfl,rfl⟩))
  (fun os started H en _=>aJV os started H en)
theorem proved:Rows.FlowOwnCardSaid :=
 Claim7.holds_tied_plain_at .later [] [.data] true (true, "390005313ee4e5f87244063ae9e8e8368e8b571bfbe2212477a09ce04003aeab") true
  aK8 (fun _ h=>by cases h) (by kernel_rfl) (fun _ h=>by cases h) flowOwn_row_tie rfl ⟨rfl,rfl⟩ (by kernel_rfl) rfl
  (fun f fn hf hfn=>by
   obtain rfl:f=5:=Option.some.inj ((show Tryz.prog.funcNamed "stanza/stanzalaw21.FlowOwn" = some 5 by kernel_rfl).symm.trans hf) |>.symm
   obtain rfl:fn=Tryz.f5:=(Option.some.inj (Tryz.func5.symm.trans hfn)).symm
   exact⟨by kernel_rfl,fun j t ht=>by
    rw[Tryz.params5]at ht
    have hm:t∈[31,22,22,3]:=by simpa using Array.mem_of_getElem? ht
    have hall:([31,22,22,3].all fun u=> !Tryz.prog.wantsStandIn u)=true:=by kernel_rfl
    exact(show Tryz.prog.wantsStandIn t=false by simpa using List.all_eq_true.1 hall t hm)⟩)
  (by kernel_rfl)
end Go.Proofs.YtbedjpdfkmfplaaGreatDoor.flowOwn
