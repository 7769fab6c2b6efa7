/- DeskFaults: called with any data that the statement reads, the given law answers true; what the table of the library holds is tied to the program's text. Conditions: none beyond the statement. -/
import Derived.Test.YtmcemnfjddoejaaGreatDoorTvUm
import Derived.Test.YtmcemnfjddoejaaGreatDoorRows
import Derived.Test.YtmcemnfjddoejaaGreatDoorProg
import Derived.Test.YtmcemnfjddoejaaGreatDoorTie
import Derived.Test.YtmcemnfjddoejaaGreatDoorCards
import Derived.WalkKit
import Derived.ProofKit
import Derived.OpenShut
import Derived.ShutString
import Derived.ChangeOld
import Derived.Below
import Derived.SizedLaws
import Derived.LaidMore
import Derived.Lib.LaidTab
import Derived.Stop.Joined
import Derived.SevenTiedAt
namespace Go.Proofs.YtmcemnfjddoejaaGreatDoor.deskFaults
open Go Go.ChangeShapes Go.WideShapes Go.ChangeAt Go.RowKit Go.Tv Go.Proofs
theorem own:ownKnob Tryz.prog.godebug=none:=by kernel_rfl
theorem laidOut:laidOutB Tryz.prog=true:=by kernel_rfl
abbrev BB:List (String×DataW Unit):=[("math/bits.deBruijn32tab",Rows.laid_math_bits_deBruijn32tab)]
theorem N8:Tryz.prog.globalNamed "math/bits.deBruijn32tab" = some 0:=by kernel_rfl
theorem OA:(Tryz.prog.globals[0]?).map (·.type)=some 309:=by kernel_rfl
theorem ID(os:Os)(args:QU):laidMetH Tryz.prog BB ((World.doorLaid Tryz.prog 400 os).forCall (fun _ _=>0) ⟨#[],args,[]⟩).memory :=
 laidMetH_of_parts3 (fuel:=8) (laidMet_of_run' 8 (by kernel_rfl) (by kernel_rfl)) (by kernel_rfl) (by kernel_rfl)
theorem KO{W:World}(h:laidMetH Tryz.prog BB W):vo Tryz.prog W:=by
 rw[MakeChecks.laidMetH_plain _ _ _ (by kernel_rfl)]at h;have ht:Lib.TabIs Tryz.prog W "math/bits.deBruijn32tab" .u8 K6:=Lib.tabIs_of_head (t:=309) (e:=5) (n:=32) N8 OA (by kernel_rfl) (by kernel_rfl) (by kernel_rfl) (by kernel_rfl) h;exact fun g c i hi=>ht.cell c i hi
theorem pure(x:Mw T.fW)(e:NJ T.fW x):Pure Tryz.prog 4 (LO T.fW x) (.p false .bool true) :=
 T.l8 false false false false false false (T.xj x e)
set_option maxRecDepth 100000 in
theorem lifted(os:Os)(c:os.Started)(H:Type)(en:TypeId×Value→H):
  ReturnsInHanded {} Tryz.checked os 4 .any (fun w args=>(Rows.deskFaultsSpec.pre en Tryz.prog Tryz.f4 [] false w args∧laidMetH Tryz.prog BB w)∧sizedMet en Tryz.prog Tryz.f4 (OpenSpec.ofChange Rows.deskFaultsSpec) false w args)
   (Rows.deskFaultsSpec.post en Tryz.prog Tryz.f4 false true false false):=by
 refine returnsInHanded_of_change_and (C:=Tryz.checked) (X:=fun w _=>laidMetH Tryz.prog BB w) (fun _ _ _ L h=>h.of_heap L) own c (by kernel_rfl) Tryz.func4
  (ChangeSpec.witness_shaped (enc:=en) (C:=Tryz.checked) (os:=os) (X:=fun w _=>laidMetH Tryz.prog BB w) false (World.doorLaid Tryz.prog 400 os) #[.agg #[.int .u8 0,.int .u8 0,.int .u8 0,.slice none 0 0,.slice none 0 0,.int .u8 0,.int .u8 0,.int .u8 0,.slice none 0 0,.slice none 0 0,.slice none 0 0,.slice none 0 0,.slice none 0 0,.slice none 0 0,.int .u8 0,.int .u8 0],.agg #[.int .i64 0,.int .i64 0,.int .u8 0,.int .i64 0,.int .i64 0,.float .f64 0],.int .u16 0,.string ⟨#[]⟩,.int .u8 0] 8 rfl (World.shaped_of_RefB (by kernel_rfl) (by kernel_rfl)) (by kernel_rfl) (by kernel_rfl) (by kernel_rfl) (ID os _)) ?_
 intro W base args I gs B f J _ _ M _;have u:∀(j:Nat) t v,Tryz.f4.params[j]? = some t→args[j]? = some v→Value.okWide Tryz.prog W .any base t v:=f;have D:=J;obtain⟨p,q,z,N,rfl,O,V⟩:=J;have hA:DataW.TrodAll en Tryz.prog W 0 (fun _=>true) true Tryz.f4.params.toList args.toList I p:=z;rw[Tryz.params4]at hA u;obtain⟨x,Y,Z,hl⟩:=Ae (n:=8) (Ts:=T.fW) (by kernel_rfl) hA (fun j t v a b=>u j t v (by simpa using a) (by simpa using b));obtain⟨rfl,rfl⟩:=trodVars_none N;clear z f;refine((pure x Z).calls _ W args (KO M) (fun _ h=>h.elim) Y).mono fun e W' ⟨v,he,A,hv⟩=>?_
 have E:=kq hv;subst he E;have hb:=zM laidOut A (ts:=[27,37,28,9,5]) (by kernel_rfl) hA;match I,hl with
 | [d1,d2,d3,d4,d5],_ =>
  exact⟨_,rfl,_,_,_,[],_,[],D,trodAll_mk1 (shut_bool Tryz.underlying4 _),hb,rfl,A.frame _,fun h=>by cases h⟩
theorem over:Rows.deskFaultsRow.holds Tryz.pinned (OpenSpec.ofChange Rows.deskFaultsSpec) :=
 OpenClaim.holds_of_wide 4 Tryz.f4 rfl rfl rfl rfl rfl rfl rfl ⟨rfl,rfl,rfl,rfl,rfl⟩ rfl rfl rfl rfl rfl (by kernel_rfl) Tryz.func4 (by kernel_rfl)
  (of_decide_eq_true (by kernel_rfl)) (by unfold Func.isWrapper;first | (rw[if_pos (by decide +kernel)];kernel_rfl) | (rw[if_neg (by decide +kernel)];exact⟨rfl,rfl⟩))
  (fun os c H en _=>lifted os c H en)
theorem proved:Rows.DeskFaultsCardSaid :=
 Claim7.holds_tied_plain_at .later [] [.data] true (true, "42234ae7fb789853ae17a7a9131b80f537cd09e30e5c61bf4799587751e49dfe") true
  over (fun _ h=>by cases h) (by kernel_rfl) (fun _ h=>by cases h) deskFaults_row_tie rfl ⟨rfl,rfl⟩ (by kernel_rfl) rfl
  (fun f fn p e=>by
   obtain rfl:f=4:=Option.some.inj ((show Tryz.prog.funcNamed "stanza/stanzalaw23.DeskFaults" = some 4 by kernel_rfl).symm.trans p) |>.symm
   obtain rfl:fn=Tryz.f4:=(Option.some.inj (Tryz.func4.symm.trans e)).symm;exact⟨by kernel_rfl,fun j t ht=>by
    rw[Tryz.params4]at ht;have q:t∈[27,37,28,9,5]:=by simpa using Array.mem_of_getElem? ht
    have c:([27,37,28,9,5].all fun u=> !Tryz.prog.wantsStandIn u)=true:=by kernel_rfl
    exact(show Tryz.prog.wantsStandIn t=false by simpa using List.all_eq_true.1 c t q)⟩)
  (by kernel_rfl)
end Go.Proofs.YtmcemnfjddoejaaGreatDoor.deskFaults
