/- TopLeast: called with any data that the statement reads, the given law answers true; what the table of the library holds is tied to the program's text. Conditions: none beyond the statement. -/
import Derived.Test.YtobbjfkfmdiklaaGreatDoorTv50kcm
import Derived.Test.YtobbjfkfmdiklaaGreatDoorTvUm
import Derived.Test.YtobbjfkfmdiklaaGreatDoorRows
import Derived.Test.YtobbjfkfmdiklaaGreatDoorProg
import Derived.Test.YtobbjfkfmdiklaaGreatDoorTie
import Derived.Test.YtobbjfkfmdiklaaGreatDoorCards
import Derived.WalkKit
import Derived.ProofKit
import Derived.OpenShut
import Derived.ShutString
import Derived.ChangeOld
import Derived.Below
import Derived.SizedLaws
import Derived.LaidMore
import Derived.Lib.LaidTab
import Derived.Stop.Joined
import Derived.SevenTiedAt
import Derived.JoinedCond
namespace Go.Proofs.YtobbjfkfmdiklaaGreatDoor.topLeast
open Go Go.ChangeShapes Go.WideShapes Go.ChangeAt Go.RowKit Go.Tv Go.Proofs
theorem own:ownKnob Tryz.prog.godebug=none:=by kernel_rfl
theorem laidOut:laidOutB Tryz.prog=true:=by kernel_rfl
abbrev HP:List (String×DataW Unit):=[("math/bits.deBruijn32tab",Rows.laid_math_bits_deBruijn32tab)]
theorem M8:Tryz.prog.globalNamed "math/bits.deBruijn32tab" = some 1:=by kernel_rfl
theorem MM:(Tryz.prog.globals[1]?).map (·.type)=some 193:=by kernel_rfl
theorem GA(os:Os)(args:QU):laidMetH Tryz.prog HP ((World.doorLaid Tryz.prog 400 os).forCall (fun _ _=>0) ⟨#[],args,[]⟩).memory :=
 laidMetH_of_parts3 (fuel:=8) (laidMet_of_run' 8 (by kernel_rfl) (by kernel_rfl)) (by kernel_rfl) (by kernel_rfl)
theorem It{W:World}(h:laidMetH Tryz.prog HP W):tK Tryz.prog W:=by
 rw[MakeChecks.laidMetH_plain _ _ _ (by kernel_rfl)]at h;have ht:Lib.TabIs Tryz.prog W "math/bits.deBruijn32tab" .u8 JM:=Lib.tabIs_of_head (t:=193) (e:=5) (n:=32) M8 MM (by kernel_rfl) (by kernel_rfl) (by kernel_rfl) (by kernel_rfl) h;exact fun g f i hi=>ht.cell f i hi
theorem pure(x:Lk T.iF)(j:Mn T.iF x)(hl:List.length (α:=Int) x.2.2.1≤10000000):Pure Tryz.prog 4 (Kz T.iF x) (.p false .bool true) :=
 T.oq false false false false false false false (T.zq x j hl)
theorem HA{H:Type}(d:DataW H):1≤Rows.uptoBulk d:=by
 cases d with
 | lit l=>cases l <;> simp[Rows.uptoBulk]
 | _=>simp[Rows.uptoBulk]
theorem Bf{H:Type}:∀l:List (DataW H),l.length≤Rows.uptoBulkAll l
 | []=>Nat.zero_le _
 | d::r=>by
  have:=HA d;have:=Bf r;simp only[Rows.uptoBulkAll,List.length_cons];omega
theorem ET{H:Type}(d:DataW H):FK d≤Rows.uptoBulk d:=by
 cases d with
 | slice f sp =>
  have:=Bf f;simp only[Rows.uptoBulk,FK];omega
 | _=>exact Nat.zero_le _
def Xc{H:Type}(en:TypeId×Value→H)(w:World)(args:QU):Prop:=laidMetH Tryz.prog HP w∧(Rows.OpenSpec.upto Rows.topLeastSpec).pre en Tryz.prog Tryz.f4 [] false w args
theorem Xc.of_heap{H:Type}{en:TypeId×Value→H}{w j:World}{args:QU}(e:w.heap=j.heap)(h:Xc en w args):Xc en j args:=by
 obtain⟨h1,h2⟩:=h;obtain⟨p,q,f,u,hc,hk⟩:=(OpenSpec.pre_some (s:=Rows.OpenSpec.upto Rows.topLeastSpec) rfl [] false w args).1 h2;exact⟨h1.of_heap e,(OpenSpec.pre_some (s:=Rows.OpenSpec.upto Rows.topLeastSpec) rfl [] false j args).2 ⟨p,q,f,DataW.Whole.of_heap e u,hc,hk⟩⟩
theorem E6(os:Os){H:Type}(en:TypeId×Value→H):Xc en ((World.doorLaid Tryz.prog 400 os).forCall (fun _ _=>0) ⟨#[],#[.agg #[.int .u8 0,.int .u8 0,.int .u8 0,.slice none 0 0,.slice none 0 0,.int .u8 0,.int .u8 0,.int .u8 0,.slice none 0 0,.slice none 0 0,.slice none 0 0,.slice none 0 0,.slice none 0 0,.slice none 0 0,.int .u8 0,.int .u8 0],.agg #[.int .u8 0,.int .u8 0,.int .u8 0,.int .u16 0,.int .u16 0,.float .f64 0],.slice none 0 0,.int .u64 0],[]⟩).memory #[.agg #[.int .u8 0,.int .u8 0,.int .u8 0,.slice none 0 0,.slice none 0 0,.int .u8 0,.int .u8 0,.int .u8 0,.slice none 0 0,.slice none 0 0,.slice none 0 0,.slice none 0 0,.slice none 0 0,.slice none 0 0,.int .u8 0,.int .u8 0],.agg #[.int .u8 0,.int .u8 0,.int .u8 0,.int .u16 0,.int .u16 0,.float .f64 0],.slice none 0 0,.int .u64 0]:=by
 refine⟨GA os _,(OpenSpec.pre_some (s:=Rows.OpenSpec.upto Rows.topLeastSpec) rfl [] false _ _).2 ?_⟩;have f:(DataW.whole en Tryz.prog ((World.doorLaid Tryz.prog 400 os).forCall (fun _ _=>0) ⟨#[],#[.agg #[.int .u8 0,.int .u8 0,.int .u8 0,.slice none 0 0,.slice none 0 0,.int .u8 0,.int .u8 0,.int .u8 0,.slice none 0 0,.slice none 0 0,.slice none 0 0,.slice none 0 0,.slice none 0 0,.slice none 0 0,.int .u8 0,.int .u8 0],.agg #[.int .u8 0,.int .u8 0,.int .u8 0,.int .u16 0,.int .u16 0,.float .f64 0],.slice none 0 0,.int .u64 0],[]⟩).memory Tryz.f4.params.toList (Rows.OpenSpec.upto Rows.topLeastSpec).vars false (#[.agg #[.int .u8 0,.int .u8 0,.int .u8 0,.slice none 0 0,.slice none 0 0,.int .u8 0,.int .u8 0,.int .u8 0,.slice none 0 0,.slice none 0 0,.slice none 0 0,.slice none 0 0,.slice none 0 0,.slice none 0 0,.int .u8 0,.int .u8 0],.agg #[.int .u8 0,.int .u8 0,.int .u8 0,.int .u16 0,.int .u16 0,.float .f64 0],.slice none 0 0,.int .u64 0]:QU).toList 8).map (fun x=>Rows.uptoSmall H (x.1++x.2.1))=some true:=by kernel_rfl
 obtain⟨x,j,hk⟩:=Option.map_eq_some_iff.1 f;exact⟨x.1,x.2.1,x.2.2,DataW.Whole_of_whole j,rfl,hk⟩
set_option maxRecDepth 100000 in
theorem lifted(os:Os)(f:os.Started)(H:Type)(en:TypeId×Value→H):
  ReturnsInHanded {} Tryz.checked os 4 .any (fun w args=>(Rows.topLeastSpec.pre en Tryz.prog Tryz.f4 [] false w args∧Xc en w args)∧sizedMet en Tryz.prog Tryz.f4 (OpenSpec.ofChange Rows.topLeastSpec) false w args)
   (Rows.topLeastSpec.post en Tryz.prog Tryz.f4 false true false false):=by
 refine returnsInHanded_of_change_and (C:=Tryz.checked) (X:=fun w a=>Xc en w a) (fun _ _ _ hh h=>h.of_heap hh) own f (by kernel_rfl) Tryz.func4
  (ChangeSpec.witness_shaped (enc:=en) (C:=Tryz.checked) (os:=os) (X:=fun w a=>Xc en w a) false (World.doorLaid Tryz.prog 400 os) #[.agg #[.int .u8 0,.int .u8 0,.int .u8 0,.slice none 0 0,.slice none 0 0,.int .u8 0,.int .u8 0,.int .u8 0,.slice none 0 0,.slice none 0 0,.slice none 0 0,.slice none 0 0,.slice none 0 0,.slice none 0 0,.int .u8 0,.int .u8 0],.agg #[.int .u8 0,.int .u8 0,.int .u8 0,.int .u16 0,.int .u16 0,.float .f64 0],.slice none 0 0,.int .u64 0] 8 rfl (World.shaped_of_RefB (by kernel_rfl) (by kernel_rfl)) (by kernel_rfl) (by kernel_rfl) (by kernel_rfl) (E6 os en)) ?_
 intro W base args a2 a3 D u _ _ _ hX _;obtain⟨hL,M⟩:=hX;obtain⟨L,gs,z,hW,-,hk⟩:=(OpenSpec.pre_some (s:=Rows.OpenSpec.upto Rows.topLeastSpec) rfl [] false W args).1 M;have B:∀(j:Nat) t v,Tryz.f4.params[j]? = some t→args[j]? = some v→Value.okWide Tryz.prog W .any base t v:=u;have N:DataW.Whole en Tryz.prog Tryz.f4.params.toList Rows.topLeastSpec.vars false W args.toList L gs z:=hW;obtain⟨p,q,E,hV,rfl,a4,a5⟩:=hW;have hA:DataW.TrodAll en Tryz.prog W 0 (fun _=>true) true Tryz.f4.params.toList args.toList L p:=E;rw[Tryz.params4]at hA B;obtain⟨x,O,wx,hl⟩:=yA (n:=8) (Ts:=T.iF) (by kernel_rfl) hA (fun j t v a b=>B j t v (by simpa using a) (by simpa using b));obtain⟨rfl,rfl⟩:=trodVars_none hV;clear E u;have I:List.length (α:=Int) x.2.2.1≤10000000:=by obtain⟨v1,a6,d1,a7,_,_,e1,f1,-,-,V⟩:=ChangeShapes.trodAll_cons hA;obtain⟨v2,a8,d2,a9,_,_,e2,f2,-,-,Y⟩:=ChangeShapes.trodAll_cons V;obtain⟨v3,aa,Z,ac,_,_,e3,f3,-,h3,-⟩:=ChangeShapes.trodAll_cons Y;rw[e1,e2,e3]at O;have h5:=Dn (A:= .int .u8) (xs:=x.2.2.1) (show Tryz.prog.underlying 22=some (.slice 5) by kernel_rfl) h3 (F:=Fr fK (fun _=>False) W) (R:=iW) (β:=false) O.2.2.1;have h6:=ET Z;have h7:Rows.uptoBulkAll (L++[])≤1048576:=of_decide_eq_true hk;rw[f1,f2,f3]at h7;simp only[List.cons_append,Rows.uptoBulkAll]at h7;have h8:List.length (α:=Int) x.2.2.1=FK Z:=h5;omega
 refine((pure x wx I).calls _ W args (It hL) (fun _ h=>h.elim) O).mono fun e W' ⟨v,he,J,hv⟩=>?_
 have a1:=n9 hv;subst he a1;have hb:=yO laidOut J (ts:=[27,31,22,64]) (by kernel_rfl) hA;match L,hl with
 | [d1,d2,Z,d4],_ =>
  exact⟨_,rfl,_,_,_,[],_,[],N,trodAll_mk1 (shut_bool Tryz.underlying4 _),hb,rfl,J.frame _,fun h=>by cases h⟩
theorem Ks{H:Type}(en:TypeId×Value→H):OpenClaim.pre en Tryz.prog Tryz.f4 (Rows.OpenSpec.upto Rows.topLeastSpec) Rows.topLeastUptoRow=fun w args=>(Rows.topLeastSpec.pre en Tryz.prog Tryz.f4 [] false w args∧Xc en w args)∧sizedMet en Tryz.prog Tryz.f4 (OpenSpec.ofChange Rows.topLeastSpec) false w args:=by
 funext w args;refine propext ⟨fun h=>?_,fun h=>⟨⟨h.1.2.2,h.1.2.1⟩,h.2⟩⟩;obtain⟨⟨h1,h2⟩,j⟩:=h;obtain⟨p,q,f,u,hc,hk⟩:=(OpenSpec.pre_some (s:=Rows.OpenSpec.upto Rows.topLeastSpec) rfl [] false w args).1 h1;exact⟨⟨⟨p,q,f,u,hc⟩,h2,h1⟩,j⟩
theorem over:Rows.topLeastUptoRow.holds Tryz.pinned (Rows.OpenSpec.upto Rows.topLeastSpec) :=
 OpenClaim.holds_of_cond 4 Tryz.f4 rfl rfl rfl rfl rfl rfl rfl ⟨rfl,rfl,rfl,rfl,rfl⟩ rfl rfl rfl rfl rfl (by kernel_rfl) Tryz.func4 (by kernel_rfl)
  (of_decide_eq_true (by kernel_rfl)) (by unfold Func.isWrapper;first | (rw[if_pos (by decide +kernel)];kernel_rfl) | (rw[if_neg (by decide +kernel)];exact⟨rfl,rfl⟩))
  (fun os f H en _ _=>by
   have h:=lifted os f H en;rw[←Ks en]at h;exact h)
theorem proved:Rows.TopLeastUptoCardSaid :=
 Claim7.holds_tied_plain_at .later [] [.data] true (true, "3e3d29ada0bb74905f67f638efdcd82efdbd45ba747a96e1e118373fc2e9000a") true
  over (fun _ h=>by cases h) (by kernel_rfl) (fun _ h=>by cases h) topLeastUpto_row_tie rfl ⟨rfl,rfl⟩ (by kernel_rfl) rfl
  (fun f fn v q=>by
   obtain rfl:f=4:=Option.some.inj ((show Tryz.prog.funcNamed "stanza/stanzatop.TopLeast" = some 4 by kernel_rfl).symm.trans v) |>.symm
   obtain rfl:fn=Tryz.f4:=(Option.some.inj (Tryz.func4.symm.trans q)).symm;exact⟨by kernel_rfl,fun j t ht=>by
    rw[Tryz.params4]at ht;have hm:t∈[27,31,22,64]:=by simpa using Array.mem_of_getElem? ht
    have p:([27,31,22,64].all fun u=> !Tryz.prog.wantsStandIn u)=true:=by kernel_rfl
    exact(show Tryz.prog.wantsStandIn t=false by simpa using List.all_eq_true.1 p t hm)⟩)
  (by kernel_rfl)
end Go.Proofs.YtobbjfkfmdiklaaGreatDoor.topLeast
