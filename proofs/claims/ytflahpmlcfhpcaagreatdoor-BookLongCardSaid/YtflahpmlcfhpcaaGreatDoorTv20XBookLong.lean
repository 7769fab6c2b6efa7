/- BookLong: called with any data that the statement reads, the given law answers true; what the table of the library holds is tied to the program's text. Conditions: none beyond the statement. -/
import Derived.Test.YtflahpmlcfhpcaaGreatDoorTvVm
import Derived.Test.YtflahpmlcfhpcaaGreatDoorRows
import Derived.Test.YtflahpmlcfhpcaaGreatDoorProg
import Derived.Test.YtflahpmlcfhpcaaGreatDoorTie
import Derived.Test.YtflahpmlcfhpcaaGreatDoorCards
import Derived.WalkKit
import Derived.ProofKit
import Derived.OpenShut
import Derived.ShutString
import Derived.ChangeOld
import Derived.Below
import Derived.SizedLaws
import Derived.LaidMore
import Derived.Lib.LaidTab
import Derived.Stop.Joined
import Derived.SevenTiedAt
namespace Go.Proofs.YtflahpmlcfhpcaaGreatDoor.bookLong
open Go Go.ChangeShapes Go.WideShapes Go.ChangeAt Go.RowKit Go.Tv Go.Proofs
theorem own:ownKnob Tryz.prog.godebug=none:=by kernel_rfl
theorem aCC:laidOutB Tryz.prog=true:=by kernel_rfl
abbrev O0:List (String×DataW Unit):=[("math/bits.deBruijn32tab",Rows.laid_math_bits_deBruijn32tab)]
theorem aFQ:Tryz.prog.globalNamed "math/bits.deBruijn32tab" = some 0:=by kernel_rfl
theorem aGe:(Tryz.prog.globals[0]?).map (·.type)=some 239:=by kernel_rfl
theorem aBW(os:Os)(args:Array Value):laidMetH Tryz.prog O0 ((World.doorLaid Tryz.prog 400 os).forCall (fun _ _=>0) ⟨#[],args,[]⟩).memory :=
 laidMetH_of_parts3 (fuel:=8) (laidMet_of_run' 8 (by kernel_rfl) (by kernel_rfl)) (by kernel_rfl) (by kernel_rfl)
theorem aC2{W:World}(h:laidMetH Tryz.prog O0 W):wK Tryz.prog W:=by
 rw[MakeChecks.laidMetH_plain _ _ _ (by kernel_rfl)]at h
 have ht:Lib.TabIs Tryz.prog W "math/bits.deBruijn32tab" .u8 deB:=Lib.tabIs_of_head (t:=239) (e:=5) (n:=32) aFQ aGe (by kernel_rfl) (by kernel_rfl) (by kernel_rfl) (by kernel_rfl) h
 exact fun g hg i hi=>ht.cell hg i hi
theorem pure(x:Tup T.bookLong_Ts)(hx:WfT T.bookLong_Ts x):Pure Tryz.prog 5 (aD3 T.bookLong_Ts x) (.p false .bool true) :=
 T.stanzalaw20_BookLong_ok false (T.bookLong_all x hx)
set_option maxRecDepth 100000 in
theorem aDF(os:Os)(started:os.Started)(H:Type)(en:TypeId×Value→H):
  ReturnsInHanded {} Tryz.checked os 5 .any (fun w args=>(Rows.bookLongSpec.pre en Tryz.prog Tryz.f5 [] false w args∧laidMetH Tryz.prog O0 w)∧sizedMet en Tryz.prog Tryz.f5 (OpenSpec.ofChange Rows.bookLongSpec) false w args)
   (Rows.bookLongSpec.post en Tryz.prog Tryz.f5 false true false false):=by
 refine returnsInHanded_of_change_and (C:=Tryz.checked) (X:=fun w _=>laidMetH Tryz.prog O0 w) (fun _ _ _ hh h=>h.of_heap hh) own started (by kernel_rfl) Tryz.func5
  (ChangeSpec.witness_shaped (enc:=en) (C:=Tryz.checked) (os:=os) (X:=fun w _=>laidMetH Tryz.prog O0 w) false (World.doorLaid Tryz.prog 400 os) #[.int .u8 0,.agg #[.int .i64 0,.int .i64 0,.int .u8 0,.int .i64 0,.int .i64 0,.float .f64 0],.slice none 0 0] 8 rfl (World.shaped_of_RefB (by kernel_rfl) (by kernel_rfl)) (by kernel_rfl) (by kernel_rfl) (by kernel_rfl) (aBW os _)) ?_
 intro W base args ds gs before hval0 hW _ _ hL _
 have hval:∀(j:Nat) t v,Tryz.f5.params[j]? = some t→args[j]? = some v→Value.okWide Tryz.prog W .any base t v:=hval0
 have hW':=hW
 obtain⟨p,q,hA0,hV,rfl,hfz,hnd⟩:=hW
 have hA:DataW.TrodAll en Tryz.prog W 0 (fun _=>true) true Tryz.f5.params.toList args.toList ds p:=hA0
 rw[Tryz.params5]at hA hval
 obtain⟨x,hx,wx,hl⟩:=E5 (n:=8) (Ts:=T.bookLong_Ts) (by kernel_rfl) hA (fun j t v a b=>hval j t v (by simpa using a) (by simpa using b))
 obtain⟨rfl,rfl⟩:=trodVars_none hV
 clear hA0 hval0
 refine((pure x wx).calls _ W args (aC2 hL) (fun _ h=>h.elim) hx).mono fun e W' ⟨v,he,bel,hv⟩=> ?_
 have hv':=mX hv
 subst he hv'
 have hb:=C9 aCC bel (ts:=[5,72,22]) (by kernel_rfl) hA
 match ds,hl with
 | [d1,d2,d3],_ =>
  exact⟨_,rfl,_,_,_,[],_,[],hW',trodAll_mk1 (shut_bool Tryz.underlying4 _),hb,rfl,bel.frame _,fun h=>by cases h⟩
theorem aEr:Rows.bookLongRow.holds Tryz.pinned (OpenSpec.ofChange Rows.bookLongSpec) :=
 OpenClaim.holds_of_wide 5 Tryz.f5 rfl rfl rfl rfl rfl rfl rfl ⟨rfl,rfl,rfl,rfl,rfl⟩ rfl rfl rfl rfl rfl (by kernel_rfl) Tryz.func5 (by kernel_rfl)
  (of_decide_eq_true (by kernel_rfl)) (by unfold Func.isWrapper;first | (rw[if_pos (by decide +kernel)];kernel_rfl) | (rw[if_neg (by decide +kernel)];exact⟨rfl,rfl⟩))
  (fun os started H en _=>aDF os started H en)
theorem proved:Rows.BookLongCardSaid :=
 Claim7.holds_tied_plain_at .later [] [.data] true (true, "754d701b10f8b2a3b79267464e8058db6fe5f2c8385e90526affeb954eb5cdaf") true
  aEr (fun _ h=>by cases h) (by kernel_rfl) (fun _ h=>by cases h) bookLong_row_tie rfl ⟨rfl,rfl⟩ (by kernel_rfl) rfl
  (fun f fn hf hfn=>by
   obtain rfl:f=5:=Option.some.inj ((show Tryz.prog.funcNamed "stanza/stanzalaw20.BookLong" = some 5 by kernel_rfl).symm.trans hf) |>.symm
   obtain rfl:fn=Tryz.f5:=(Option.some.inj (Tryz.func5.symm.trans hfn)).symm
   exact⟨by kernel_rfl,fun j t ht=>by
    rw[Tryz.params5]at ht
    have hm:t∈[5,72,22]:=by simpa using Array.mem_of_getElem? ht
    have hall:([5,72,22].all fun u=> !Tryz.prog.wantsStandIn u)=true:=by kernel_rfl
    exact(show Tryz.prog.wantsStandIn t=false by simpa using List.all_eq_true.1 hall t hm)⟩)
  (by kernel_rfl)
end Go.Proofs.YtflahpmlcfhpcaaGreatDoor.bookLong
