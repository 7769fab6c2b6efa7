/- RulesTurned: called with any data that the statement reads, the given law answers true. Conditions: none beyond the statement. -/
import Derived.Test.YtjfjigknkhgkdaaTv03zrm
import Derived.Test.YtjfjigknkhgkdaaTv03zam
import Derived.Test.YtjfjigknkhgkdaaRows
import Derived.Test.YtjfjigknkhgkdaaProg
import Derived.WalkKit
import Derived.ProofKit
import Derived.OpenShut
import Derived.ShutString
import Derived.ChangeOld
import Derived.Below
import Derived.SizedLaws
namespace Go.Proofs.Ytjfjigknkhgkdaa.rulesTurned
open Go Go.ChangeShapes Go.WideShapes Go.ChangeAt Go.RowKit Go.Tv Go.Proofs
theorem own:ownKnob Try.prog.godebug=none:=by kernel_rfl
theorem aAE:laidOutB Try.prog=true:=by kernel_rfl
theorem pure(x:Tup T.rulesTurned_Ts)(hx:WfT T.rulesTurned_Ts x):Pure Try.prog 4 (aBr T.rulesTurned_Ts x) (.p false .bool true) :=
 T.lq_RulesTurned_ok false false false (T.rulesTurned_all x hx)
set_option maxRecDepth 100000 in
theorem aA6(os:Os)(started:os.Started)(H:Type)(en:TypeId×Value→H):
  ReturnsInHanded {} Try.checked os 4 .any (Rows.rulesTurnedSpec.pre6 en Try.prog Try.f4 Rows.rulesTurnedRow.domain false) (Rows.rulesTurnedSpec.post en Try.prog Try.f4 false true false false):=by
 refine returnsInHanded_of_change_sized (C:=Try.checked) own started (by kernel_rfl) Try.func4
  (ChangeSpec.witness6 (enc:=en) (C:=Try.checked) false ⟨#[],#[.agg #[.int .u8 0,.int .u8 0,.int .u8 0,.slice none 0 0,.slice none 0 0],.slice none 0 0,.slice none 0 0],[]⟩ 8 (by kernel_rfl) (by kernel_rfl) (by kernel_rfl) (by kernel_rfl)) ?_
 intro W base args ds gs before hval0 hW hcnd hsz0 _
 have hval:∀(j:Nat) t v,Try.f4.params[j]? = some t→args[j]? = some v→Value.okWide Try.prog W .any base t v:=hval0
 have hW':=hW
 obtain⟨p,q,hA0,hV,rfl,hfz,hnd⟩:=hW
 have hA:DataW.TrodAll en Try.prog W 0 (fun _=>true) true Try.f4.params.toList args.toList ds p:=hA0
 rw[Try.params4]at hA hval
 obtain⟨x,hx,wx,hl⟩:=x8 (n:=8) (Ts:=T.rulesTurned_Ts) (by kernel_rfl) hA (fun j t v a b=>hval j t v (by simpa using a) (by simpa using b))
 obtain⟨rfl,rfl⟩:=trodVars_none hV
 clear hA0 hval0 hsz0
 refine((pure x wx).calls _ W args (fun g hg=>by rw[show Try.prog.globalNamed "math/bits.deBruijn32tab" = none by kernel_rfl]at hg;cases hg) (fun _ h=>h.elim) hx).mono fun e W' ⟨v,he,bel,hv⟩=> ?_
 have hv':=mM hv
 subst he hv'
 have hb:=yE aAE bel (ts:=[27,28,24]) (by kernel_rfl) hA
 match ds,hl with
 | [d1,d2,d3],_ =>
  exact⟨_,rfl,_,_,_,[],_,[],hW',trodAll_mk1 (shut_bool Try.underlying4 _),hb,rfl,bel.frame _,fun h=>by cases h⟩
theorem aB1:Rows.rulesTurnedRow.holds Try.pinned (OpenSpec.ofChange Rows.rulesTurnedSpec) :=
 OpenClaim.holds_of_wide 4 Try.f4 rfl rfl rfl rfl rfl rfl rfl ⟨rfl,rfl,rfl,rfl,rfl⟩ rfl rfl rfl rfl rfl (by kernel_rfl) Try.func4 (by kernel_rfl)
  (of_decide_eq_true (by kernel_rfl)) (by unfold Func.isWrapper;first | (rw[if_pos (by decide +kernel)];kernel_rfl) | (rw[if_neg (by decide +kernel)];exact⟨rfl,rfl⟩))
  (fun os started H en _=>aA6 os started H en)
theorem proved:Rows.RulesTurnedSaid:=aB1
end Go.Proofs.Ytjfjigknkhgkdaa.rulesTurned
