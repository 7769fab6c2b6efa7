/- TopHostile: called with any data that the statement reads, the given law answers true; what the table of the library holds is tied to the program's text. Conditions: none beyond the statement. -/
import Derived.Test.YtobbjfkfmdiklaaGreatDoorTvT50aTopHostilem
import Derived.Test.YtobbjfkfmdiklaaGreatDoorTvUm
import Derived.Test.YtobbjfkfmdiklaaGreatDoorRows
import Derived.Test.YtobbjfkfmdiklaaGreatDoorProg
import Derived.Test.YtobbjfkfmdiklaaGreatDoorTie
import Derived.Test.YtobbjfkfmdiklaaGreatDoorCards
import Derived.WalkKit
import Derived.ProofKit
import Derived.OpenShut
import Derived.ShutString
import Derived.ChangeOld
import Derived.Below
import Derived.SizedLaws
import Derived.LaidMore
import Derived.Lib.LaidTab
import Derived.Stop.Joined
import Derived.SevenTiedAt
namespace Go.Proofs.YtobbjfkfmdiklaaGreatDoor.topHostile
open Go Go.ChangeShapes Go.WideShapes Go.ChangeAt Go.RowKit Go.Tv Go.Proofs
theorem own:ownKnob Tryz.prog.godebug=none:=by kernel_rfl
theorem laidOut:laidOutB Tryz.prog=true:=by kernel_rfl
abbrev Bd:List (String×DataW Unit):=[("math/bits.deBruijn32tab",Rows.laid_math_bits_deBruijn32tab)]
theorem Mr:Tryz.prog.globalNamed "math/bits.deBruijn32tab" = some 1:=by kernel_rfl
theorem L0:(Tryz.prog.globals[1]?).map (·.type)=some 193:=by kernel_rfl
theorem Fq(os:Os)(args:QU):laidMetH Tryz.prog Bd ((World.doorLaid Tryz.prog 400 os).forCall (fun _ _=>0) ⟨#[],args,[]⟩).memory :=
 laidMetH_of_parts3 (fuel:=8) (laidMet_of_run' 8 (by kernel_rfl) (by kernel_rfl)) (by kernel_rfl) (by kernel_rfl)
theorem H8{W:World}(h:laidMetH Tryz.prog Bd W):tN Tryz.prog W:=by
 rw[MakeChecks.laidMetH_plain _ _ _ (by kernel_rfl)]at h;have ht:Lib.TabIs Tryz.prog W "math/bits.deBruijn32tab" .u8 Jm:=Lib.tabIs_of_head (t:=193) (e:=5) (n:=32) Mr L0 (by kernel_rfl) (by kernel_rfl) (by kernel_rfl) (by kernel_rfl) h;exact fun g f i hi=>ht.cell f i hi
theorem pure(x:Kw T.fQ)(j:Lx T.fQ x):Pure Tryz.prog 5 (JG T.fQ x) (.p false .bool true) :=
 T.mV false false false false false false false (T.vM x j)
set_option maxRecDepth 100000 in
theorem lifted(os:Os)(f:os.Started)(H:Type)(en:TypeId×Value→H):
  ReturnsInHanded {} Tryz.checked os 5 .any (fun w args=>(Rows.topHostileSpec.pre en Tryz.prog Tryz.f5 [] false w args∧laidMetH Tryz.prog Bd w)∧sizedMet en Tryz.prog Tryz.f5 (OpenSpec.ofChange Rows.topHostileSpec) false w args)
   (Rows.topHostileSpec.post en Tryz.prog Tryz.f5 false true false false):=by
 refine returnsInHanded_of_change_and (C:=Tryz.checked) (X:=fun w _=>laidMetH Tryz.prog Bd w) (fun _ _ _ M h=>h.of_heap M) own f (by kernel_rfl) Tryz.func5
  (ChangeSpec.witness_shaped (enc:=en) (C:=Tryz.checked) (os:=os) (X:=fun w _=>laidMetH Tryz.prog Bd w) false (World.doorLaid Tryz.prog 400 os) #[.agg #[.int .u8 0,.int .u8 0,.int .u8 0,.slice none 0 0,.slice none 0 0,.int .u8 0,.int .u8 0,.int .u8 0,.slice none 0 0,.slice none 0 0,.slice none 0 0,.slice none 0 0,.slice none 0 0,.slice none 0 0,.int .u8 0,.int .u8 0],.agg #[.int .u8 0,.int .u8 0,.int .u8 0,.int .u16 0,.int .u16 0,.float .f64 0],.slice none 0 0] 8 rfl (World.shaped_of_RefB (by kernel_rfl) (by kernel_rfl)) (by kernel_rfl) (by kernel_rfl) (by kernel_rfl) (Fq os _)) ?_
 intro W base args J gs D u L _ _ N _;have z:∀(j:Nat) t v,Tryz.f5.params[j]? = some t→args[j]? = some v→Value.okWide Tryz.prog W .any base t v:=u;have E:=L;obtain⟨p,q,A,O,rfl,V,Y⟩:=L;have hA:DataW.TrodAll en Tryz.prog W 0 (fun _=>true) true Tryz.f5.params.toList args.toList J p:=A;rw[Tryz.params5]at hA z;obtain⟨x,Z,wx,hl⟩:=ye (n:=8) (Ts:=T.fQ) (by kernel_rfl) hA (fun j t v a b=>z j t v (by simpa using a) (by simpa using b));obtain⟨rfl,rfl⟩:=trodVars_none O;clear A u;refine((pure x wx).calls _ W args (H8 N) (fun _ h=>h.elim) Z).mono fun e W' ⟨v,he,B,hv⟩=>?_
 have I:=nF hv;subst he I;have hb:=yz laidOut B (ts:=[27,31,22]) (by kernel_rfl) hA;match J,hl with
 | [d1,d2,d3],_ =>
  exact⟨_,rfl,_,_,_,[],_,[],E,trodAll_mk1 (shut_bool Tryz.underlying4 _),hb,rfl,B.frame _,fun h=>by cases h⟩
theorem over:Rows.topHostileRow.holds Tryz.pinned (OpenSpec.ofChange Rows.topHostileSpec) :=
 OpenClaim.holds_of_wide 5 Tryz.f5 rfl rfl rfl rfl rfl rfl rfl ⟨rfl,rfl,rfl,rfl,rfl⟩ rfl rfl rfl rfl rfl (by kernel_rfl) Tryz.func5 (by kernel_rfl)
  (of_decide_eq_true (by kernel_rfl)) (by unfold Func.isWrapper;first | (rw[if_pos (by decide +kernel)];kernel_rfl) | (rw[if_neg (by decide +kernel)];exact⟨rfl,rfl⟩))
  (fun os f H en _=>lifted os f H en)
theorem proved:Rows.TopHostileCardSaid :=
 Claim7.holds_tied_plain_at .later [] [.data] true (true, "3e3d29ada0bb74905f67f638efdcd82efdbd45ba747a96e1e118373fc2e9000a") true
  over (fun _ h=>by cases h) (by kernel_rfl) (fun _ h=>by cases h) topHostile_row_tie rfl ⟨rfl,rfl⟩ (by kernel_rfl) rfl
  (fun f fn v q=>by
   obtain rfl:f=5:=Option.some.inj ((show Tryz.prog.funcNamed "stanza/stanzatop.TopHostile" = some 5 by kernel_rfl).symm.trans v) |>.symm
   obtain rfl:fn=Tryz.f5:=(Option.some.inj (Tryz.func5.symm.trans q)).symm;exact⟨by kernel_rfl,fun j t ht=>by
    rw[Tryz.params5]at ht;have hm:t∈[27,31,22]:=by simpa using Array.mem_of_getElem? ht
    have p:([27,31,22].all fun u=> !Tryz.prog.wantsStandIn u)=true:=by kernel_rfl
    exact(show Tryz.prog.wantsStandIn t=false by simpa using List.all_eq_true.1 p t hm)⟩)
  (by kernel_rfl)
end Go.Proofs.YtobbjfkfmdiklaaGreatDoor.topHostile
