/- DeskPrefix: called with any data that the statement reads, the given law answers true; what the table of the library holds is tied to the program's text. Conditions: none beyond the statement. -/
import Derived.Test.YtmcemnfjddoejaaGreatDoorTvT23aDeskPrefixm
import Derived.Test.YtmcemnfjddoejaaGreatDoorTvUm
import Derived.Test.YtmcemnfjddoejaaGreatDoorRows
import Derived.Test.YtmcemnfjddoejaaGreatDoorProg
import Derived.Test.YtmcemnfjddoejaaGreatDoorTie
import Derived.Test.YtmcemnfjddoejaaGreatDoorCards
import Derived.WalkKit
import Derived.ProofKit
import Derived.OpenShut
import Derived.ShutString
import Derived.ChangeOld
import Derived.Below
import Derived.SizedLaws
import Derived.LaidMore
import Derived.Lib.LaidTab
import Derived.Stop.Joined
import Derived.SevenTiedAt
namespace Go.Proofs.YtmcemnfjddoejaaGreatDoor.deskPrefix
open Go Go.ChangeShapes Go.WideShapes Go.ChangeAt Go.RowKit Go.Tv Go.Proofs
theorem own:ownKnob Tryz.prog.godebug=none:=by kernel_rfl
theorem laidOut:laidOutB Tryz.prog=true:=by kernel_rfl
abbrev BP:List (String×DataW Unit):=[("math/bits.deBruijn32tab",Rows.laid_math_bits_deBruijn32tab)]
theorem L2:Tryz.prog.globalNamed "math/bits.deBruijn32tab" = some 0:=by kernel_rfl
theorem LZ:(Tryz.prog.globals[0]?).map (·.type)=some 309:=by kernel_rfl
theorem Hz(os:Os)(args:Array Value):laidMetH Tryz.prog BP ((World.doorLaid Tryz.prog 400 os).forCall (fun _ _=>0) ⟨#[],args,[]⟩).memory :=
 laidMetH_of_parts3 (fuel:=8) (laidMet_of_run' 8 (by kernel_rfl) (by kernel_rfl)) (by kernel_rfl) (by kernel_rfl)
theorem IN{W:World}(h:laidMetH Tryz.prog BP W):uQ Tryz.prog W:=by
 rw[MakeChecks.laidMetH_plain _ _ _ (by kernel_rfl)]at h;have c:Lib.TabIs Tryz.prog W "math/bits.deBruijn32tab" .u8 Kg:=Lib.tabIs_of_head (t:=309) (e:=5) (n:=32) L2 LZ (by kernel_rfl) (by kernel_rfl) (by kernel_rfl) (by kernel_rfl) h;exact fun g f i hi=>c.cell f i hi
theorem pure(x:Kk T.fB)(e:Lr T.fB x):Pure Tryz.prog 5 (Jq T.fB x) (.p false .bool true) :=
 T.lI false false (T.xN x e)
set_option maxRecDepth 100000 in
theorem lifted(os:Os)(c:os.Started)(H:Type)(en:TypeId×Value→H):
  ReturnsInHanded {} Tryz.checked os 5 .any (fun w args=>(Rows.deskPrefixSpec.pre en Tryz.prog Tryz.f5 [] false w args∧laidMetH Tryz.prog BP w)∧sizedMet en Tryz.prog Tryz.f5 (OpenSpec.ofChange Rows.deskPrefixSpec) false w args)
   (Rows.deskPrefixSpec.post en Tryz.prog Tryz.f5 false true false false):=by
 refine returnsInHanded_of_change_and (C:=Tryz.checked) (X:=fun w _=>laidMetH Tryz.prog BP w) (fun _ _ _ I h=>h.of_heap I) own c (by kernel_rfl) Tryz.func5
  (ChangeSpec.witness_shaped (enc:=en) (C:=Tryz.checked) (os:=os) (X:=fun w _=>laidMetH Tryz.prog BP w) false (World.doorLaid Tryz.prog 400 os) #[.agg #[.int .u8 0,.int .u8 0,.int .u8 0,.int .u16 0,.int .u16 0,.float .f64 0],.slice none 0 0,.slice none 0 0,.int .i64 0] 8 rfl (World.shaped_of_RefB (by kernel_rfl) (by kernel_rfl)) (by kernel_rfl) (by kernel_rfl) (by kernel_rfl) (Hz os _)) ?_
 intro W base args D Z z f E _ _ J _;have k:∀(j:Nat) t v,Tryz.f5.params[j]? = some t→args[j]? = some v→Value.okWide Tryz.prog W .any base t v:=f;have A:=E;obtain⟨p,q,m,L,rfl,M,N⟩:=E;have hA:DataW.TrodAll en Tryz.prog W 0 (fun _=>true) true Tryz.f5.params.toList args.toList D p:=m;rw[Tryz.params5]at hA k;obtain⟨x,O,R,hl⟩:=zw (n:=8) (Ts:=T.fB) (by kernel_rfl) hA (fun j t v a b=>k j t v (by simpa using a) (by simpa using b));obtain⟨rfl,rfl⟩:=trodVars_none L;clear m f;refine((pure x R).calls _ W args (IN J) (fun _ h=>h.elim) O).mono fun e W' ⟨v,V,u,Y⟩=> ?_
 have B:=jY Y;subst V B;have hb:=yY laidOut u (ts:=[31,22,32,3]) (by kernel_rfl) hA;match D,hl with
 | [d1,d2,d3,d4],_ =>
  exact⟨_,rfl,_,_,_,[],_,[],A,trodAll_mk1 (shut_bool Tryz.underlying4 _),hb,rfl,u.frame _,fun h=>by cases h⟩
theorem over:Rows.deskPrefixRow.holds Tryz.pinned (OpenSpec.ofChange Rows.deskPrefixSpec) :=
 OpenClaim.holds_of_wide 5 Tryz.f5 rfl rfl rfl rfl rfl rfl rfl ⟨rfl,rfl,rfl,rfl,rfl⟩ rfl rfl rfl rfl rfl (by kernel_rfl) Tryz.func5 (by kernel_rfl)
  (of_decide_eq_true (by kernel_rfl)) (by unfold Func.isWrapper;first | (rw[if_pos (by decide +kernel)];kernel_rfl) | (rw[if_neg (by decide +kernel)];exact⟨rfl,rfl⟩))
  (fun os c H en _=>lifted os c H en)
theorem proved:Rows.DeskPrefixCardSaid :=
 Claim7.holds_tied_plain_at .later [] [.data] true (true, "42234ae7fb789853ae17a7a9131b80f537cd09e30e5c61bf4799587751e49dfe") true
  over (fun _ h=>by cases h) (by kernel_rfl) (fun _ h=>by cases h) deskPrefix_row_tie rfl ⟨rfl,rfl⟩ (by kernel_rfl) rfl
  (fun f fn m e=>by
   obtain rfl:f=5:=Option.some.inj ((show Tryz.prog.funcNamed "stanza/stanzalaw23.DeskPrefix" = some 5 by kernel_rfl).symm.trans m) |>.symm
   obtain rfl:fn=Tryz.f5:=(Option.some.inj (Tryz.func5.symm.trans e)).symm;exact⟨by kernel_rfl,fun j t k=>by
    rw[Tryz.params5]at k;have p:t∈[31,22,32,3]:=by simpa using Array.mem_of_getElem? k
    have c:([31,22,32,3].all fun u=> !Tryz.prog.wantsStandIn u)=true:=by kernel_rfl
    exact(show Tryz.prog.wantsStandIn t=false by simpa using List.all_eq_true.1 c t p)⟩)
  (by kernel_rfl)
end Go.Proofs.YtmcemnfjddoejaaGreatDoor.deskPrefix
