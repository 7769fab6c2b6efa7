/- BookWhole: called with any data that the statement reads, the given law answers true; what the table of the library holds is tied to the program's text. Conditions: none beyond the statement. -/
import Derived.Test.YtflahpmlcfhpcaaGreatDoorTv30hbm
import Derived.Test.YtflahpmlcfhpcaaGreatDoorTvUm
import Derived.Test.YtflahpmlcfhpcaaGreatDoorRows
import Derived.Test.YtflahpmlcfhpcaaGreatDoorProg
import Derived.Test.YtflahpmlcfhpcaaGreatDoorTie
import Derived.Test.YtflahpmlcfhpcaaGreatDoorCards
import Derived.WalkKit
import Derived.ProofKit
import Derived.OpenShut
import Derived.ShutString
import Derived.ChangeOld
import Derived.Below
import Derived.SizedLaws
import Derived.LaidMore
import Derived.Lib.LaidTab
import Derived.Stop.Joined
import Derived.SevenTiedAt
namespace Go.Proofs.YtflahpmlcfhpcaaGreatDoor.bookWhole
open Go Go.ChangeShapes Go.WideShapes Go.ChangeAt Go.RowKit Go.Tv Go.Proofs
theorem own:ownKnob Tryz.prog.godebug=none:=by kernel_rfl
theorem laidOut:laidOutB Tryz.prog=true:=by kernel_rfl
abbrev Bs:List (String×DataW Unit):=[("math/bits.deBruijn32tab",Rows.laid_math_bits_deBruijn32tab)]
theorem L3:Tryz.prog.globalNamed "math/bits.deBruijn32tab" = some 0:=by kernel_rfl
theorem LU:(Tryz.prog.globals[0]?).map (·.type)=some 239:=by kernel_rfl
theorem Gj(os:Os)(args:QU):laidMetH Tryz.prog Bs ((World.doorLaid Tryz.prog 400 os).forCall (fun _ _=>0) ⟨#[],args,[]⟩).memory :=
 laidMetH_of_parts3 (fuel:=8) (laidMet_of_run' 8 (by kernel_rfl) (by kernel_rfl)) (by kernel_rfl) (by kernel_rfl)
theorem H4{W:World}(h:laidMetH Tryz.prog Bs W):tC Tryz.prog W:=by
 rw[MakeChecks.laidMetH_plain _ _ _ (by kernel_rfl)]at h;have ht:Lib.TabIs Tryz.prog W "math/bits.deBruijn32tab" .u8 I4:=Lib.tabIs_of_head (t:=239) (e:=5) (n:=32) L3 LU (by kernel_rfl) (by kernel_rfl) (by kernel_rfl) (by kernel_rfl) h;exact fun g f i hi=>ht.cell f i hi
theorem pure(x:Kw T.gC)(e:Lu T.gC x):Pure Tryz.prog 6 (J4 T.gC x) (.p false .bool true) :=
 T.mq false false false false false false false (T.wL x e)
set_option maxRecDepth 100000 in
theorem lifted(os:Os)(f:os.Started)(H:Type)(en:TypeId×Value→H):
  ReturnsInHanded {} Tryz.checked os 6 .any (fun w args=>(Rows.bookWholeSpec.pre en Tryz.prog Tryz.f6 [] false w args∧laidMetH Tryz.prog Bs w)∧sizedMet en Tryz.prog Tryz.f6 (OpenSpec.ofChange Rows.bookWholeSpec) false w args)
   (Rows.bookWholeSpec.post en Tryz.prog Tryz.f6 false true false false):=by
 refine returnsInHanded_of_change_and (C:=Tryz.checked) (X:=fun w _=>laidMetH Tryz.prog Bs w) (fun _ _ _ M h=>h.of_heap M) own f (by kernel_rfl) Tryz.func6
  (ChangeSpec.witness_shaped (enc:=en) (C:=Tryz.checked) (os:=os) (X:=fun w _=>laidMetH Tryz.prog Bs w) false (World.doorLaid Tryz.prog 400 os) #[.agg #[.int .u8 0,.int .u8 0,.int .u8 0,.slice none 0 0,.slice none 0 0,.int .u8 0,.int .u8 0,.int .u8 0,.slice none 0 0,.slice none 0 0,.slice none 0 0,.slice none 0 0,.slice none 0 0,.slice none 0 0,.int .u8 0,.int .u8 0],.agg #[.int .u8 0,.int .u8 0,.int .u8 0,.int .u16 0,.int .u16 0,.float .f64 0],.slice none 0 0] 8 rfl (World.shaped_of_RefB (by kernel_rfl) (by kernel_rfl)) (by kernel_rfl) (by kernel_rfl) (by kernel_rfl) (Gj os _)) ?_
 intro W base args J gs D u L _ _ N _;have z:∀(j:Nat) t v,Tryz.f6.params[j]? = some t→args[j]? = some v→Value.okWide Tryz.prog W .any base t v:=u;have E:=L;obtain⟨p,q,A,O,rfl,V,Y⟩:=L;have hA:DataW.TrodAll en Tryz.prog W 0 (fun _=>true) true Tryz.f6.params.toList args.toList J p:=A;rw[Tryz.params6]at hA z;obtain⟨x,Z,wx,hl⟩:=xU (n:=8) (Ts:=T.gC) (by kernel_rfl) hA (fun j t v a b=>z j t v (by simpa using a) (by simpa using b));obtain⟨rfl,rfl⟩:=trodVars_none O;clear A u;refine((pure x wx).calls _ W args (H4 N) (fun _ h=>h.elim) Z).mono fun e W' ⟨v,he,B,hv⟩=>?_
 have I:=nh hv;subst he I;have hb:=xZ laidOut B (ts:=[27,69,22]) (by kernel_rfl) hA;match J,hl with
 | [d1,d2,d3],_ =>
  exact⟨_,rfl,_,_,_,[],_,[],E,trodAll_mk1 (shut_bool Tryz.underlying4 _),hb,rfl,B.frame _,fun h=>by cases h⟩
theorem over:Rows.bookWholeRow.holds Tryz.pinned (OpenSpec.ofChange Rows.bookWholeSpec) :=
 OpenClaim.holds_of_wide 6 Tryz.f6 rfl rfl rfl rfl rfl rfl rfl ⟨rfl,rfl,rfl,rfl,rfl⟩ rfl rfl rfl rfl rfl (by kernel_rfl) Tryz.func6 (by kernel_rfl)
  (of_decide_eq_true (by kernel_rfl)) (by unfold Func.isWrapper;first | (rw[if_pos (by decide +kernel)];kernel_rfl) | (rw[if_neg (by decide +kernel)];exact⟨rfl,rfl⟩))
  (fun os e H en _=>lifted os e H en)
theorem proved:Rows.BookWholeCardSaid :=
 Claim7.holds_tied_plain_at .later [] [.data] true (true, "754d701b10f8b2a3b79267464e8058db6fe5f2c8385e90526affeb954eb5cdaf") true
  over (fun _ h=>by cases h) (by kernel_rfl) (fun _ h=>by cases h) bookWhole_row_tie rfl ⟨rfl,rfl⟩ (by kernel_rfl) rfl
  (fun f fn q p=>by
   obtain rfl:f=6:=Option.some.inj ((show Tryz.prog.funcNamed "stanza/stanzalaw20.BookWhole" = some 6 by kernel_rfl).symm.trans q) |>.symm
   obtain rfl:fn=Tryz.f6:=(Option.some.inj (Tryz.func6.symm.trans p)).symm;exact⟨by kernel_rfl,fun j t ht=>by
    rw[Tryz.params6]at ht;have v:t∈[27,69,22]:=by simpa using Array.mem_of_getElem? ht
    have e:([27,69,22].all fun u=> !Tryz.prog.wantsStandIn u)=true:=by kernel_rfl
    exact(show Tryz.prog.wantsStandIn t=false by simpa using List.all_eq_true.1 e t v)⟩)
  (by kernel_rfl)
end Go.Proofs.YtflahpmlcfhpcaaGreatDoor.bookWhole
