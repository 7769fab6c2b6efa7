/- FlowPieces: called with any data that the statement reads, the given law answers true; what the table of the library holds is tied to the program's text. Conditions: none beyond the statement. -/
import Derived.Test.YtbedjpdfkmfplaaGreatDoorTvT21dFlowPiecesm
import Derived.Test.YtbedjpdfkmfplaaGreatDoorTvUm
import Derived.Test.YtbedjpdfkmfplaaGreatDoorRows
import Derived.Test.YtbedjpdfkmfplaaGreatDoorProg
import Derived.Test.YtbedjpdfkmfplaaGreatDoorTie
import Derived.Test.YtbedjpdfkmfplaaGreatDoorCards
import Derived.WalkKit
import Derived.ProofKit
import Derived.OpenShut
import Derived.ShutString
import Derived.ChangeOld
import Derived.Below
import Derived.SizedLaws
import Derived.LaidMore
import Derived.Lib.LaidTab
import Derived.Stop.Joined
import Derived.SevenTiedAt
namespace Go.Proofs.YtbedjpdfkmfplaaGreatDoor.flowPieces
open Go Go.ChangeShapes Go.WideShapes Go.ChangeAt Go.RowKit Go.Tv Go.Proofs
theorem own:ownKnob Tryz.prog.godebug=none:=by kernel_rfl
theorem laidOut:laidOutB Tryz.prog=true:=by kernel_rfl
abbrev C0:List (String×DataW Unit):=[("math/bits.deBruijn32tab",Rows.laid_math_bits_deBruijn32tab)]
theorem On:Tryz.prog.globalNamed "math/bits.deBruijn32tab" = some 0:=by kernel_rfl
theorem NV:(Tryz.prog.globals[0]?).map (·.type)=some 297:=by kernel_rfl
theorem Il(os:Os)(args:QU):laidMetH Tryz.prog C0 ((World.doorLaid Tryz.prog 400 os).forCall (fun _ _=>0) ⟨#[],args,[]⟩).memory :=
 laidMetH_of_parts3 (fuel:=8) (laidMet_of_run' 8 (by kernel_rfl) (by kernel_rfl)) (by kernel_rfl) (by kernel_rfl)
theorem Kj{W:World}(h:laidMetH Tryz.prog C0 W):vu Tryz.prog W:=by
 rw[MakeChecks.laidMetH_plain _ _ _ (by kernel_rfl)]at h;have ht:Lib.TabIs Tryz.prog W "math/bits.deBruijn32tab" .u8 KY:=Lib.tabIs_of_head (t:=297) (e:=5) (n:=32) On NV (by kernel_rfl) (by kernel_rfl) (by kernel_rfl) (by kernel_rfl) h;exact fun g f i hi=>ht.cell f i hi
theorem pure(x:MC T.gx)(e:NL T.gx x):Pure Tryz.prog 3 (LN T.gx x) (.p false .bool true) :=
 T.mq false false false false false false false false (T.xL x e)
set_option maxRecDepth 100000 in
theorem lifted(os:Os)(f:os.Started)(H:Type)(en:TypeId×Value→H):
  ReturnsInHanded {} Tryz.checked os 3 .any (fun w args=>(Rows.flowPiecesSpec.pre en Tryz.prog Tryz.f3 [] false w args∧laidMetH Tryz.prog C0 w)∧sizedMet en Tryz.prog Tryz.f3 (OpenSpec.ofChange Rows.flowPiecesSpec) false w args)
   (Rows.flowPiecesSpec.post en Tryz.prog Tryz.f3 false true false false):=by
 refine returnsInHanded_of_change_and (C:=Tryz.checked) (X:=fun w _=>laidMetH Tryz.prog C0 w) (fun _ _ _ M h=>h.of_heap M) own f (by kernel_rfl) Tryz.func3
  (ChangeSpec.witness_shaped (enc:=en) (C:=Tryz.checked) (os:=os) (X:=fun w _=>laidMetH Tryz.prog C0 w) false (World.doorLaid Tryz.prog 400 os) #[.agg #[.int .u8 0,.int .u8 0,.int .u8 0,.slice none 0 0,.slice none 0 0,.int .u8 0,.int .u8 0,.int .u8 0,.slice none 0 0,.slice none 0 0,.slice none 0 0,.slice none 0 0,.slice none 0 0,.slice none 0 0,.int .u8 0,.int .u8 0],.agg #[.int .u8 0,.int .u8 0,.int .u8 0,.int .u16 0,.int .u16 0,.float .f64 0],.slice none 0 0,.slice none 0 0,.int .i64 0,.int .i64 0] 8 rfl (World.shaped_of_RefB (by kernel_rfl) (by kernel_rfl)) (by kernel_rfl) (by kernel_rfl) (by kernel_rfl) (Il os _)) ?_
 intro W base args J gs D u L _ _ N _;have z:∀(j:Nat) t v,Tryz.f3.params[j]? = some t→args[j]? = some v→Value.okWide Tryz.prog W .any base t v:=u;have E:=L;obtain⟨p,q,A,O,rfl,V,Y⟩:=L;have hA:DataW.TrodAll en Tryz.prog W 0 (fun _=>true) true Tryz.f3.params.toList args.toList J p:=A;rw[Tryz.params3]at hA z;obtain⟨x,Z,wx,hl⟩:=Ad (n:=8) (Ts:=T.gx) (by kernel_rfl) hA (fun j t v a b=>z j t v (by simpa using a) (by simpa using b));obtain⟨rfl,rfl⟩:=trodVars_none O;clear A u;refine((pure x wx).calls _ W args (Kj N) (fun _ h=>h.elim) Z).mono fun e W' ⟨v,he,B,hv⟩=>?_
 have I:=kL hv;subst he I;have hb:=zE laidOut B (ts:=[27,31,22,22,3,3]) (by kernel_rfl) hA;match J,hl with
 | [d1,d2,d3,d4,d5,d6],_ =>
  exact⟨_,rfl,_,_,_,[],_,[],E,trodAll_mk1 (shut_bool Tryz.underlying4 _),hb,rfl,B.frame _,fun h=>by cases h⟩
theorem over:Rows.flowPiecesRow.holds Tryz.pinned (OpenSpec.ofChange Rows.flowPiecesSpec) :=
 OpenClaim.holds_of_wide 3 Tryz.f3 rfl rfl rfl rfl rfl rfl rfl ⟨rfl,rfl,rfl,rfl,rfl⟩ rfl rfl rfl rfl rfl (by kernel_rfl) Tryz.func3 (by kernel_rfl)
  (of_decide_eq_true (by kernel_rfl)) (by unfold Func.isWrapper;first | (rw[if_pos (by decide +kernel)];kernel_rfl) | (rw[if_neg (by decide +kernel)];exact⟨rfl,rfl⟩))
  (fun os e H en _=>lifted os e H en)
theorem proved:Rows.FlowPiecesCardSaid :=
 Claim7.holds_tied_plain_at .later [] [.data] true (true, "390005313ee4e5f87244063ae9e8e8368e8b571bfbe2212477a09ce04003aeab") true
  over (fun _ h=>by cases h) (by kernel_rfl) (fun _ h=>by cases h) flowPieces_row_tie rfl ⟨rfl,rfl⟩ (by kernel_rfl) rfl
  (fun f fn v q=>by
   obtain rfl:f=3:=Option.some.inj ((show Tryz.prog.funcNamed "stanza/stanzalaw21.FlowPieces" = some 3 by kernel_rfl).symm.trans v) |>.symm
   obtain rfl:fn=Tryz.f3:=(Option.some.inj (Tryz.func3.symm.trans q)).symm;exact⟨by kernel_rfl,fun j t ht=>by
    rw[Tryz.params3]at ht;have z:t∈[27,31,22,22,3,3]:=by simpa using Array.mem_of_getElem? ht
    have e:([27,31,22,22,3,3].all fun u=> !Tryz.prog.wantsStandIn u)=true:=by kernel_rfl
    exact(show Tryz.prog.wantsStandIn t=false by simpa using List.all_eq_true.1 e t z)⟩)
  (by kernel_rfl)
end Go.Proofs.YtbedjpdfkmfplaaGreatDoor.flowPieces
