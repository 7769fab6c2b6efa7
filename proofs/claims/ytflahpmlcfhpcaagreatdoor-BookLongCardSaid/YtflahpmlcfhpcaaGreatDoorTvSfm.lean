/- The number of zeros behind the last one of a number's bits, by a table of the library. -/
import Derived.Test.YtflahpmlcfhpcaaGreatDoorTvSdm
import Derived.WalkKit
import Derived.Lib.TrailingZeros
import Derived.LoopN
namespace Go.Tv
open Go Go.RowKit
def y5(x:Int):Int:=if x == 0 then 32 else deB.getD (bits BinOp.and IntKind.u32 x (-x % 4294967296)*125613361 % 4294967296 / 134217728).toNat 0
theorem aBB(y:Int):(y % 4294967296 / 134217728).toNat<32:=by omega
theorem aBs:∀i,i<32→wrap64 (deB.getD i 0)=deB.getD i 0:=by decide +kernel
theorem aCc{x:Int}(h:(x == 0)=false):wrap64 (deB.getD (bits BinOp.and IntKind.u32 x (-x % 4294967296)*125613361 % 4294967296 / 134217728).toNat 0)=y5 x:=by
 rw[aBs _ (aBB _)]
 simp only[y5,h,Bool.false_eq_true,if_false]
theorem aA7{x:Int}(h:(x == 0)=true):y5 x=32:=by simp only[y5,h,if_true]
theorem Pure.of_tz{P:Program}{f:FuncId}{fn:Func}(hf:P.funcs[f]? = some fn)(hname:(fn.name == "runtime.NumGoroutine")=false)(hb:fn.body.isNone=false){β:Bool}{x:Int}
  (h:∀w,wK P w→Calls P f #[.int .u32 x] w fun e w'=>e = .returned (.int .i64 (y5 x))∧w'=w):Pure P f [.p β (.int .u32) x] (.p false (.int .i64) (y5 x)):=by
 refine⟨⟨fn,hf,hname,hb⟩,fun Bw w us hld hbw hargs=> ?_⟩
 match hus:us.toList,hargs with
 | [v0],hargs =>
  have e1:=cC hargs.1
  subst e1
  have:us = #[.int .u32 x]:=Array.ext' hus
  subst this
  refine(h w hld).mono fun r w' ⟨h1,h2⟩=>⟨_,h1,by subst h2;exact(Kept.refl (l0 hld)).below,dO _ _ _⟩
end Go.Tv
namespace Go.Tv
open Go
def zOf(P:Program)(t:TypeId):Option (List AVal):=((P.info? t).bind (·.zero)).map fun z=>z.cells.toList.map lQ
def hiB(P:Program)(t:TypeId)(sz by_:Nat):Bool :=
 match P.info? t with
 | some i=>match i.zero with
  | some z=>i.size == sz && i.bytes == by_ && z.cells.size == sz && z.cells.toList.all (·.oneCell')
  | none=>false
 | none=>false
theorem aCg{P:Program}{t:TypeId}{ti:TI}(h1:zOf P t=some ti.z)(h2:hiB P t ti.size ti.bytes=true):
  ∃i z,P.info? t=some i∧i.zero=some z∧i.size=ti.size∧i.bytes=ti.bytes∧z.cells.toList.map lQ=ti.z∧z.cells.size=ti.size∧∀c∈z.cells.toList,c.oneCell'=true:=by
 unfold hiB at h2
 split at h2
 ·rename_i i hi
  split at h2
  ·rename_i z hz
   simp only[Bool.and_eq_true,beq_iff_eq,List.all_eq_true]at h2
   obtain⟨⟨⟨a,b⟩,c⟩,d⟩:=h2
   unfold zOf at h1
   rw[hi]at h1
   simp only[Option.bind,hz,Option.map,Option.some.injEq]at h1
   exact⟨i,z,hi,hz,a,b,h1,c,d⟩
  ·cases h2
 ·cases h2
section
variable{P:Program}{n:NS}{Bw:Nat→Prop}{w0:Base P}{σ:St}{Q:Exit→St→Prop}{tb:Tab}
theorem K3(d:Nat){w:World}{t el:TypeId}(h:P.underlying t=some (.slice el))(ad:Option Addr)(l c:Nat):(Op.equalIn (d+1) t (.slice ad l c) (.slice none 0 0)).run P w = .ok ad.isNone w:=by
 cases ad <;> simp[Op.equalIn,run_underlying h]
def rQ(P:Program)(n:NS)(Bw:Nat→Prop)(w0:Base P)(c:Code)(Q:Exit→St→Prop):Nat→Exit→St→Prop
 | 0,.normal,_=>False
 | k+1,.normal,σ=>W P n Bw w0 c σ (rQ P n Bw w0 c Q k)
 | _,e,σ=>Q e σ
theorem w9{c:Code}{k:Nat}{e:Exit}(he:e ≠ .normal):rQ P n Bw w0 c Q k e σ=Q e σ:=by
 cases e <;> first | exact absurd rfl he | (cases k <;> rfl)
theorem aBr(k:Nat){c:Code}(h:W P n Bw w0 c σ (rQ P n Bw w0 c Q k)):W P n Bw w0 (.loop c) σ Q:=fun a w hr=>by
 refine wp_loop_rounds (k+1) ?_
 have key:∀k σ,W P n Bw w0 c σ (rQ P n Bw w0 c Q k)→∀a w,R n Bw w0 σ a w→Code.rounds P c (fun e a' w'=>∃σ',R n Bw w0 σ' a' w'∧Q e σ') (k+1) a w:=by
  intro k
  induction k with
  | zero =>
   intro σ h a w hr
   refine wp_mono (h a w hr) fun e a' w' ⟨σ',h1,h2⟩=> ?_
   cases e with
   | normal=>exact h2.elim
   | _=>exact⟨σ',h1,by rw[w9 (by simp)]at h2;exact h2⟩
  | succ k ih =>
   intro σ h a w hr
   refine wp_mono (h a w hr) fun e a' w' ⟨σ',h1,h2⟩=> ?_
   cases e with
   | normal=>exact ih σ' h2 a' w' h1
   | _=>exact⟨σ',h1,by rw[w9 (by simp)]at h2;exact h2⟩
 exact key k σ h a w hr
theorem aB8{c:Code}{k:Nat}{σ1:St}(h:W P n Bw w0 c σ1 (rQ P n Bw w0 c Q k)):∀σ',Le n σ' σ1→rQ P n Bw w0 c Q (k+1) .normal σ':=fun _ hl=>aDH hl h
theorem rQE{c:Code}{k j:Nat}{σ1:St}(h:∀σ',Le n σ' σ1→Q (.exit j) σ'):∀σ',Le n σ' σ1→rQ P n Bw w0 c Q k (.exit j) σ':=fun σ' hl=>by rw[w9 (by simp)];exact h σ' hl
theorem X6{c:Code}{k:Nat}(h:Q .ret σ):rQ P n Bw w0 c Q k .ret σ:=by rw[w9 (by simp)];exact h
theorem aDV(htb:TabOK P tb){id:Nat}{ops:Array Oper}{o0 o1:Oper}{d e:Nat}{t t2 el:TypeId}{β:Bool}{A:Ty}{xs:List A.den}{c:Code}
  (h0:ops = #[o0,o1]) (hd:o0.dst=some d) (he:o1.dst=some e) (ho:o1.op = .binOp .eql t (.tmp d) (.const (.slice none 0 0)) t2) (hg:o1.guard=none) (hde:aAr n (some e)=true)
  (hs0:p0 P tb a0 n σ.nx ops 0 o0 σ.s σ.h=some (.p β (.slice A) xs,[],True)) (hu:P.underlying t=some (.slice el))
  (hq:∀b,(b=true→xs=[])→W P n Bw w0 c ⟨jM (jM σ.s (some d) (.p β (.slice A) xs)) (some e) (.p false .bool b),σ.h,σ.nx+16,σ.pn⟩ Q):W P n Bw w0 (.seq (.region id ops false) c) σ Q:=by
 refine aC fun a w hR=> ?_
 obtain⟨ρ,φ,q1,q2,q3⟩:=hR.ex
 refine wp_region ?_
 rw[show ops.size=2 by rw[h0];rfl,show List.range 2=[0,1]from rfl]
 rw[wpOps_cons]
 refine iY (done:=fun j=>j<0) htb ⟨ρ,φ,q1,q2,fun id u hu=> .inl (q3 id u hu)⟩ (by rw[h0];rfl) (Nat.lt_irrefl 0) hs0 trivial fun a1 w1 hm=> ?_
 rw[wpOps_cons]
 obtain⟨ρ1,φ1,r1,r2,r3⟩:=hm.ex
 have hv:=r2.sl d
 rw[hd,jM,aP]at hv
 simp only[V,Vcells]at hv
 obtain⟨-,ad,l,cp,hval,⟨hl,-⟩,hxs⟩:=hv
 have hb:ad.isNone=true→xs=[]:=fun hn=>by
  cases xs with
  | nil=>rfl
  | cons y ys =>
   obtain⟨b,e,-⟩:=hxs 0 (by simp)
   rw[e]at hn
   cases hn
 unfold wpOp
 rw[h0]
 simp only[List.getElem?_toArray,List.getElem?_cons_succ,List.getElem?_cons_zero]
 rw[if_pos (by unfold Region.wanted;rw[hg])]
 refine .inl ?_
 refine Good.of_run (post:=fun v w'=>v = .bool ad.isNone∧w'=w1) (v:= .bool ad.isNone) (w':=w1) ?_ ⟨rfl,rfl⟩ _ _ ?_
 ·simp only[execOp,ho,Act.eval,←hval]
  rw[Sem.run_bind,Sem.run_bind,bX (by intro cs e;cases e) (by intro e;cases e),Result.andThen_ok]
  rw[show binOp .eql t (.slice ad l cp) (.slice none 0 0)=(do pure (.bool (←Op.equal t (.slice ad l cp) (.slice none 0 0)))) by cases ad <;> rfl]
  simp only[Op.equal,Op.maxDepth,Sem.run_bind,K3 9999 hu,Result.andThen_ok]
  rfl
 ·rintro v w' ⟨rfl,rfl⟩
  refine⟨⟨jM (jM σ.s (some d) (.p β (.slice A) xs)) (some e) (.p false .bool ad.isNone),σ.h,σ.nx+16,σ.pn⟩,⟨⟨ρ1,φ1,r1,?_,fun id u hu=> ?_⟩,hR.pn⟩,hq _ hb⟩
  ·have:=r2.putD (x:= .p false .bool ad.isNone) (hI false ad.isNone) hde
   rw[hd]at this
   rw[he]
   exact this
  ·rcases r3 id u hu with h1 | ⟨i,j,h1,h2,h3⟩ <;> simp only <;> omega
end
end Go.Tv
