/- TopEdges: called with any data that the statement reads, the given law answers true; what the table of the library holds is tied to the program's text. Conditions: none beyond the statement. -/
import Derived.Test.YtobbjfkfmdiklaaGreatDoorTvFcm
import Derived.Test.YtobbjfkfmdiklaaGreatDoorTvUm
import Derived.Test.YtobbjfkfmdiklaaGreatDoorRows
import Derived.Test.YtobbjfkfmdiklaaGreatDoorProg
import Derived.Test.YtobbjfkfmdiklaaGreatDoorTie
import Derived.Test.YtobbjfkfmdiklaaGreatDoorCards
import Derived.WalkKit
import Derived.ProofKit
import Derived.OpenShut
import Derived.ShutString
import Derived.ChangeOld
import Derived.Below
import Derived.SizedLaws
import Derived.LaidMore
import Derived.Lib.LaidTab
import Derived.Stop.Joined
import Derived.SevenTiedAt
import Derived.JoinedCond
namespace Go.Proofs.YtobbjfkfmdiklaaGreatDoor.topEdges
open Go Go.ChangeShapes Go.WideShapes Go.ChangeAt Go.RowKit Go.Tv Go.Proofs
theorem own:ownKnob Tryz.prog.godebug=none:=by kernel_rfl
theorem laidOut:laidOutB Tryz.prog=true:=by kernel_rfl
abbrev Ii:List (String×DataW Unit):=[("math/bits.deBruijn32tab",Rows.laid_math_bits_deBruijn32tab)]
theorem No:Tryz.prog.globalNamed "math/bits.deBruijn32tab" = some 1:=by kernel_rfl
theorem Nf:(Tryz.prog.globals[1]?).map (·.type)=some 193:=by kernel_rfl
theorem Ie(os:Os)(args:QU):laidMetH Tryz.prog Ii ((World.doorLaid Tryz.prog 400 os).forCall (fun _ _=>0) ⟨#[],args,[]⟩).memory :=
 laidMetH_of_parts3 (fuel:=8) (laidMet_of_run' 8 (by kernel_rfl) (by kernel_rfl)) (by kernel_rfl) (by kernel_rfl)
theorem Jv{W:World}(h:laidMetH Tryz.prog Ii W):tM Tryz.prog W:=by
 rw[MakeChecks.laidMetH_plain _ _ _ (by kernel_rfl)]at h;have ht:Lib.TabIs Tryz.prog W "math/bits.deBruijn32tab" .u8 Kg:=Lib.tabIs_of_head (t:=193) (e:=5) (n:=32) No Nf (by kernel_rfl) (by kernel_rfl) (by kernel_rfl) (by kernel_rfl) h;exact fun g j i hi=>ht.cell j i hi
theorem pure(x:LM T.iH)(j:MK T.iH x)(hl:List.length (α:=Int) x.2.2.1≤10000000):Pure Tryz.prog 3 (LG T.iH x) (.p false .bool true) :=
 T.oo false false false false false false false (T.Ai x j hl)
theorem Iw{H:Type}(d:DataW H):1≤Rows.uptoBulk d:=by
 cases d with
 | lit l=>cases l <;> simp[Rows.uptoBulk]
 | _=>simp[Rows.uptoBulk]
theorem Bv{H:Type}:∀l:List (DataW H),l.length≤Rows.uptoBulkAll l
 | []=>Nat.zero_le _
 | d::r=>by
  have:=Iw d;have:=Bv r;simp only[Rows.uptoBulkAll,List.length_cons];omega
theorem Ga{H:Type}(d:DataW H):Gk d≤Rows.uptoBulk d:=by
 cases d with
 | slice j sp =>
  have:=Bv j;simp only[Rows.uptoBulk,Gk];omega
 | _=>exact Nat.zero_le _
def Xc{H:Type}(en:TypeId×Value→H)(w:World)(args:QU):Prop:=laidMetH Tryz.prog Ii w∧(Rows.OpenSpec.upto Rows.topEdgesSpec).pre en Tryz.prog Tryz.f3 [] false w args
theorem Xc.of_heap{H:Type}{en:TypeId×Value→H}{w p:World}{args:QU}(e:w.heap=p.heap)(h:Xc en w args):Xc en p args:=by
 obtain⟨h1,h2⟩:=h;obtain⟨q,u,j,v,hc,hk⟩:=(OpenSpec.pre_some (s:=Rows.OpenSpec.upto Rows.topEdgesSpec) rfl [] false w args).1 h2;exact⟨h1.of_heap e,(OpenSpec.pre_some (s:=Rows.OpenSpec.upto Rows.topEdgesSpec) rfl [] false p args).2 ⟨q,u,j,DataW.Whole.of_heap e v,hc,hk⟩⟩
theorem FZ(os:Os){H:Type}(en:TypeId×Value→H):Xc en ((World.doorLaid Tryz.prog 400 os).forCall (fun _ _=>0) ⟨#[],#[.agg #[.int .u8 0,.int .u8 0,.int .u8 0,.slice none 0 0,.slice none 0 0,.int .u8 0,.int .u8 0,.int .u8 0,.slice none 0 0,.slice none 0 0,.slice none 0 0,.slice none 0 0,.slice none 0 0,.slice none 0 0,.int .u8 0,.int .u8 0],.agg #[.int .u8 0,.int .u8 0,.int .u8 0,.int .u16 0,.int .u16 0,.float .f64 0],.slice none 0 0],[]⟩).memory #[.agg #[.int .u8 0,.int .u8 0,.int .u8 0,.slice none 0 0,.slice none 0 0,.int .u8 0,.int .u8 0,.int .u8 0,.slice none 0 0,.slice none 0 0,.slice none 0 0,.slice none 0 0,.slice none 0 0,.slice none 0 0,.int .u8 0,.int .u8 0],.agg #[.int .u8 0,.int .u8 0,.int .u8 0,.int .u16 0,.int .u16 0,.float .f64 0],.slice none 0 0]:=by
 refine⟨Ie os _,(OpenSpec.pre_some (s:=Rows.OpenSpec.upto Rows.topEdgesSpec) rfl [] false _ _).2 ?_⟩;have j:(DataW.whole en Tryz.prog ((World.doorLaid Tryz.prog 400 os).forCall (fun _ _=>0) ⟨#[],#[.agg #[.int .u8 0,.int .u8 0,.int .u8 0,.slice none 0 0,.slice none 0 0,.int .u8 0,.int .u8 0,.int .u8 0,.slice none 0 0,.slice none 0 0,.slice none 0 0,.slice none 0 0,.slice none 0 0,.slice none 0 0,.int .u8 0,.int .u8 0],.agg #[.int .u8 0,.int .u8 0,.int .u8 0,.int .u16 0,.int .u16 0,.float .f64 0],.slice none 0 0],[]⟩).memory Tryz.f3.params.toList (Rows.OpenSpec.upto Rows.topEdgesSpec).vars false (#[.agg #[.int .u8 0,.int .u8 0,.int .u8 0,.slice none 0 0,.slice none 0 0,.int .u8 0,.int .u8 0,.int .u8 0,.slice none 0 0,.slice none 0 0,.slice none 0 0,.slice none 0 0,.slice none 0 0,.slice none 0 0,.int .u8 0,.int .u8 0],.agg #[.int .u8 0,.int .u8 0,.int .u8 0,.int .u16 0,.int .u16 0,.float .f64 0],.slice none 0 0]:QU).toList 8).map (fun x=>Rows.uptoSmall H (x.1++x.2.1))=some true:=by kernel_rfl
 obtain⟨x,p,hk⟩:=Option.map_eq_some_iff.1 j;exact⟨x.1,x.2.1,x.2.2,DataW.Whole_of_whole p,rfl,hk⟩
set_option maxRecDepth 100000 in
theorem lifted(os:Os)(u:os.Started)(H:Type)(en:TypeId×Value→H):
  ReturnsInHanded {} Tryz.checked os 3 .any (fun w args=>(Rows.topEdgesSpec.pre en Tryz.prog Tryz.f3 [] false w args∧Xc en w args)∧sizedMet en Tryz.prog Tryz.f3 (OpenSpec.ofChange Rows.topEdgesSpec) false w args)
   (Rows.topEdgesSpec.post en Tryz.prog Tryz.f3 false true false false):=by
 refine returnsInHanded_of_change_and (C:=Tryz.checked) (X:=fun w a=>Xc en w a) (fun _ _ _ hh h=>h.of_heap hh) own u (by kernel_rfl) Tryz.func3
  (ChangeSpec.witness_shaped (enc:=en) (C:=Tryz.checked) (os:=os) (X:=fun w a=>Xc en w a) false (World.doorLaid Tryz.prog 400 os) #[.agg #[.int .u8 0,.int .u8 0,.int .u8 0,.slice none 0 0,.slice none 0 0,.int .u8 0,.int .u8 0,.int .u8 0,.slice none 0 0,.slice none 0 0,.slice none 0 0,.slice none 0 0,.slice none 0 0,.slice none 0 0,.int .u8 0,.int .u8 0],.agg #[.int .u8 0,.int .u8 0,.int .u8 0,.int .u16 0,.int .u16 0,.float .f64 0],.slice none 0 0] 8 rfl (World.shaped_of_RefB (by kernel_rfl) (by kernel_rfl)) (by kernel_rfl) (by kernel_rfl) (by kernel_rfl) (FZ os en)) ?_
 intro W base args a2 a3 E z _ _ _ hX _;obtain⟨hL,N⟩:=hX;obtain⟨M,gs,B,hW,-,hk⟩:=(OpenSpec.pre_some (s:=Rows.OpenSpec.upto Rows.topEdgesSpec) rfl [] false W args).1 N;have D:∀(j:Nat) t v,Tryz.f3.params[j]? = some t→args[j]? = some v→Value.okWide Tryz.prog W .any base t v:=z;have O:DataW.Whole en Tryz.prog Tryz.f3.params.toList Rows.topEdgesSpec.vars false W args.toList M gs B:=hW;obtain⟨p,q,I,hV,rfl,a4,a5⟩:=hW;have hA:DataW.TrodAll en Tryz.prog W 0 (fun _=>true) true Tryz.f3.params.toList args.toList M p:=I;rw[Tryz.params3]at hA D;obtain⟨x,V,wx,hl⟩:=yx (n:=8) (Ts:=T.iH) (by kernel_rfl) hA (fun j t v a b=>D j t v (by simpa using a) (by simpa using b));obtain⟨rfl,rfl⟩:=trodVars_none hV;clear I z;have J:List.length (α:=Int) x.2.2.1≤10000000:=by obtain⟨v1,a6,d1,a7,_,_,e1,f1,-,-,Y⟩:=ChangeShapes.trodAll_cons hA;obtain⟨v2,a8,d2,a9,_,_,e2,f2,-,-,Z⟩:=ChangeShapes.trodAll_cons Y;obtain⟨v3,aa,d3,ac,_,_,e3,f3,-,h3,-⟩:=ChangeShapes.trodAll_cons Z;rw[e1,e2,e3]at V;have h5:=Dn (A:= .int .u8) (xs:=x.2.2.1) (show Tryz.prog.underlying 22=some (.slice 5) by kernel_rfl) h3 (F:=Fr fK (fun _=>False) W) (R:=jl) (β:=false) V.2.2.1;have h6:=Ga d3;have h7:Rows.uptoBulkAll (M++[])≤1048576:=of_decide_eq_true hk;rw[f1,f2,f3]at h7;simp only[List.cons_append,Rows.uptoBulkAll]at h7;have h8:List.length (α:=Int) x.2.2.1=Gk d3:=h5;omega
 refine((pure x wx J).calls _ W args (Jv hL) (fun _ h=>h.elim) V).mono fun e W' ⟨v,he,L,hv⟩=>?_
 have a1:=nG hv;subst he a1;have hb:=yq laidOut L (ts:=[27,31,22]) (by kernel_rfl) hA;match M,hl with
 | [d1,d2,d3],_ =>
  exact⟨_,rfl,_,_,_,[],_,[],O,trodAll_mk1 (shut_bool Tryz.underlying4 _),hb,rfl,L.frame _,fun h=>by cases h⟩
theorem LK{H:Type}(en:TypeId×Value→H):OpenClaim.pre en Tryz.prog Tryz.f3 (Rows.OpenSpec.upto Rows.topEdgesSpec) Rows.topEdgesUptoRow=fun w args=>(Rows.topEdgesSpec.pre en Tryz.prog Tryz.f3 [] false w args∧Xc en w args)∧sizedMet en Tryz.prog Tryz.f3 (OpenSpec.ofChange Rows.topEdgesSpec) false w args:=by
 funext w args;refine propext ⟨fun h=>?_,fun h=>⟨⟨h.1.2.2,h.1.2.1⟩,h.2⟩⟩;obtain⟨⟨h1,h2⟩,p⟩:=h;obtain⟨q,u,j,v,hc,hk⟩:=(OpenSpec.pre_some (s:=Rows.OpenSpec.upto Rows.topEdgesSpec) rfl [] false w args).1 h1;exact⟨⟨⟨q,u,j,v,hc⟩,h2,h1⟩,p⟩
theorem over:Rows.topEdgesUptoRow.holds Tryz.pinned (Rows.OpenSpec.upto Rows.topEdgesSpec) :=
 OpenClaim.holds_of_cond 3 Tryz.f3 rfl rfl rfl rfl rfl rfl rfl ⟨rfl,rfl,rfl,rfl,rfl⟩ rfl rfl rfl rfl rfl (by kernel_rfl) Tryz.func3 (by kernel_rfl)
  (of_decide_eq_true (by kernel_rfl)) (by unfold Func.isWrapper;first | (rw[if_pos (by decide +kernel)];kernel_rfl) | (rw[if_neg (by decide +kernel)];exact⟨rfl,rfl⟩))
  (fun os j H en _ _=>by
   have h:=lifted os j H en;rw[←LK en]at h;exact h)
theorem proved:Rows.TopEdgesUptoCardSaid :=
 Claim7.holds_tied_plain_at .later [] [.data] true (true, "3e3d29ada0bb74905f67f638efdcd82efdbd45ba747a96e1e118373fc2e9000a") true
  over (fun _ h=>by cases h) (by kernel_rfl) (fun _ h=>by cases h) topEdgesUpto_row_tie rfl ⟨rfl,rfl⟩ (by kernel_rfl) rfl
  (fun f fn hf q=>by
   obtain rfl:f=3:=Option.some.inj ((show Tryz.prog.funcNamed "stanza/stanzatop.TopEdges" = some 3 by kernel_rfl).symm.trans hf) |>.symm
   obtain rfl:fn=Tryz.f3:=(Option.some.inj (Tryz.func3.symm.trans q)).symm;exact⟨by kernel_rfl,fun j t ht=>by
    rw[Tryz.params3]at ht;have hm:t∈[27,31,22]:=by simpa using Array.mem_of_getElem? ht
    have p:([27,31,22].all fun u=> !Tryz.prog.wantsStandIn u)=true:=by kernel_rfl
    exact(show Tryz.prog.wantsStandIn t=false by simpa using List.all_eq_true.1 p t hm)⟩)
  (by kernel_rfl)
end Go.Proofs.YtobbjfkfmdiklaaGreatDoor.topEdges
