/- BookAgain: called with any data that the statement reads, the given law answers true; what the table of the library holds is tied to the program's text. Conditions: none beyond the statement. -/
import Derived.Test.YtflahpmlcfhpcaaGreatDoorTv40glm
import Derived.Test.YtflahpmlcfhpcaaGreatDoorTv40gkm
import Derived.Test.YtflahpmlcfhpcaaGreatDoorRows
import Derived.Test.YtflahpmlcfhpcaaGreatDoorProg
import Derived.Test.YtflahpmlcfhpcaaGreatDoorTie
import Derived.Test.YtflahpmlcfhpcaaGreatDoorCards
import Derived.WalkKit
import Derived.ProofKit
import Derived.OpenShut
import Derived.ShutString
import Derived.ChangeOld
import Derived.Below
import Derived.SizedLaws
import Derived.LaidMore
import Derived.Lib.LaidTab
import Derived.Stop.Joined
import Derived.SevenTiedAt
namespace Go.Proofs.YtflahpmlcfhpcaaGreatDoor.bookAgain
open Go Go.ChangeShapes Go.WideShapes Go.ChangeAt Go.RowKit Go.Tv Go.Proofs
theorem own:ownKnob Tryz.prog.godebug=none:=by kernel_rfl
theorem laidOut:laidOutB Tryz.prog=true:=by kernel_rfl
abbrev Bd:List (String×DataW Unit):=[("math/bits.deBruijn32tab",Rows.laid_math_bits_deBruijn32tab)]
theorem Mb:Tryz.prog.globalNamed "math/bits.deBruijn32tab" = some 0:=by kernel_rfl
theorem Lx:(Tryz.prog.globals[0]?).map (·.type)=some 239:=by kernel_rfl
theorem G5(os:Os)(args:QU):laidMetH Tryz.prog Bd ((World.doorLaid Tryz.prog 400 os).forCall (fun _ _=>0) ⟨#[],args,[]⟩).memory :=
 laidMetH_of_parts3 (fuel:=8) (laidMet_of_run' 8 (by kernel_rfl) (by kernel_rfl)) (by kernel_rfl) (by kernel_rfl)
theorem HJ{W:World}(h:laidMetH Tryz.prog Bd W):sT Tryz.prog W:=by
 rw[MakeChecks.laidMetH_plain _ _ _ (by kernel_rfl)]at h;have ht:Lib.TabIs Tryz.prog W "math/bits.deBruijn32tab" .u8 IW:=Lib.tabIs_of_head (t:=239) (e:=5) (n:=32) Mb Lx (by kernel_rfl) (by kernel_rfl) (by kernel_rfl) (by kernel_rfl) h;exact fun g f i hi=>ht.cell f i hi
theorem pure(x:Kf T.gN)(e:Lk T.gN x):Pure Tryz.prog 7 (JS T.gN x) (.p false .bool true) :=
 T.my false false false false false false false false (T.xh x e)
set_option maxRecDepth 100000 in
theorem lifted(os:Os)(f:os.Started)(H:Type)(en:TypeId×Value→H):
  ReturnsInHanded {} Tryz.checked os 7 .any (fun w args=>(Rows.bookAgainSpec.pre en Tryz.prog Tryz.f7 [] false w args∧laidMetH Tryz.prog Bd w)∧sizedMet en Tryz.prog Tryz.f7 (OpenSpec.ofChange Rows.bookAgainSpec) false w args)
   (Rows.bookAgainSpec.post en Tryz.prog Tryz.f7 false true false false):=by
 refine returnsInHanded_of_change_and (C:=Tryz.checked) (X:=fun w _=>laidMetH Tryz.prog Bd w) (fun _ _ _ M h=>h.of_heap M) own f (by kernel_rfl) Tryz.func7
  (ChangeSpec.witness_shaped (enc:=en) (C:=Tryz.checked) (os:=os) (X:=fun w _=>laidMetH Tryz.prog Bd w) false (World.doorLaid Tryz.prog 400 os) #[.agg #[.int .u8 0,.int .u8 0,.int .u8 0,.slice none 0 0,.slice none 0 0,.int .u8 0,.int .u8 0,.int .u8 0,.slice none 0 0,.slice none 0 0,.slice none 0 0,.slice none 0 0,.slice none 0 0,.slice none 0 0,.int .u8 0,.int .u8 0],.agg #[.int .u8 0,.int .u8 0,.int .u8 0,.int .u16 0,.int .u16 0,.float .f64 0],.slice none 0 0,.slice none 0 0] 8 rfl (World.shaped_of_RefB (by kernel_rfl) (by kernel_rfl)) (by kernel_rfl) (by kernel_rfl) (by kernel_rfl) (G5 os _)) ?_
 intro W base args J gs D u L _ _ N _;have z:∀(j:Nat) t v,Tryz.f7.params[j]? = some t→args[j]? = some v→Value.okWide Tryz.prog W .any base t v:=u;have E:=L;obtain⟨p,q,A,O,rfl,V,Y⟩:=L;have hA:DataW.TrodAll en Tryz.prog W 0 (fun _=>true) true Tryz.f7.params.toList args.toList J p:=A;rw[Tryz.params7]at hA z;obtain⟨x,Z,wx,hl⟩:=yh (n:=8) (Ts:=T.gN) (by kernel_rfl) hA (fun j t v a b=>z j t v (by simpa using a) (by simpa using b));obtain⟨rfl,rfl⟩:=trodVars_none O;clear A u;refine((pure x wx).calls _ W args (HJ N) (fun _ h=>h.elim) Z).mono fun e W' ⟨v,he,B,hv⟩=>?_
 have I:=nj hv;subst he I;have hb:=xE laidOut B (ts:=[27,69,22,22]) (by kernel_rfl) hA;match J,hl with
 | [d1,d2,d3,d4],_ =>
  exact⟨_,rfl,_,_,_,[],_,[],E,trodAll_mk1 (shut_bool Tryz.underlying4 _),hb,rfl,B.frame _,fun h=>by cases h⟩
theorem over:Rows.bookAgainRow.holds Tryz.pinned (OpenSpec.ofChange Rows.bookAgainSpec) :=
 OpenClaim.holds_of_wide 7 Tryz.f7 rfl rfl rfl rfl rfl rfl rfl ⟨rfl,rfl,rfl,rfl,rfl⟩ rfl rfl rfl rfl rfl (by kernel_rfl) Tryz.func7 (by kernel_rfl)
  (of_decide_eq_true (by kernel_rfl)) (by unfold Func.isWrapper;first | (rw[if_pos (by decide +kernel)];kernel_rfl) | (rw[if_neg (by decide +kernel)];exact⟨rfl,rfl⟩))
  (fun os e H en _=>lifted os e H en)
theorem proved:Rows.BookAgainCardSaid :=
 Claim7.holds_tied_plain_at .later [] [.data] true (true, "754d701b10f8b2a3b79267464e8058db6fe5f2c8385e90526affeb954eb5cdaf") true
  over (fun _ h=>by cases h) (by kernel_rfl) (fun _ h=>by cases h) bookAgain_row_tie rfl ⟨rfl,rfl⟩ (by kernel_rfl) rfl
  (fun f fn q p=>by
   obtain rfl:f=7:=Option.some.inj ((show Tryz.prog.funcNamed "stanza/stanzalaw20.BookAgain" = some 7 by kernel_rfl).symm.trans q) |>.symm
   obtain rfl:fn=Tryz.f7:=(Option.some.inj (Tryz.func7.symm.trans p)).symm;exact⟨by kernel_rfl,fun j t ht=>by
    rw[Tryz.params7]at ht;have v:t∈[27,69,22,22]:=by simpa using Array.mem_of_getElem? ht
    have e:([27,69,22,22].all fun u=> !Tryz.prog.wantsStandIn u)=true:=by kernel_rfl
    exact(show Tryz.prog.wantsStandIn t=false by simpa using List.all_eq_true.1 e t v)⟩)
  (by kernel_rfl)
end Go.Proofs.YtflahpmlcfhpcaaGreatDoor.bookAgain
