/- Least: what Make makes: an automaton that goes side by side with the given one. -/
import Derived.Test.YtacpjjgochokcaaDoorTv06lhm
import Derived.Test.YtacpjjgochokcaaDoorTvYm
import Derived.Test.YtacpjjgochokcaaDoorTv06arfm
import Derived.Test.YtacpjjgochokcaaDoorTvSm
import Derived.ProofKit
import Derived.OpenShut
import Derived.SizedLaws
import Derived.Carry
import Derived.Test.YtacpjjgochokcaaDoorTvT06xa
import Derived.Test.YtacpjjgochokcaaDoorTvZcm
namespace Go.Proofs.YtacpjjgochokcaaDoor.T
open Go Go.Tv Go.Proofs
theorem Q9{kd:Nat→Int}{ln:List Nat}{t:Nat}:kd t∈(qS kd ln t).map kd:=by
 unfold qS
 split
 ·assumption
 ·simp
theorem aDd{kd:Nat→Int}{ln:List Nat}{t:Nat}:((qS kd ln t).map kd).idxOf (kd t)=(ln.map kd).idxOf (kd t):=by
 unfold qS
 split
 ·rfl
 ·rename_i h
  rw[List.map_append]
  simp only[List.map_cons,List.map_nil]
  rw[tC h,List.idxOf_eq_length h]
theorem V6{kd:Nat→Int}:∀(ts ln:List Nat) (r:List Int),
  (fW kd ln ts r).2=r++ts.map (fun t=>(((fW kd ln ts r).1.map kd).idxOf (kd t):Int))∧∀t∈ts,kd t∈(fW kd ln ts r).1.map kd
 | [],ln,r=>by simp[fW]
 | t::ts,ln,r=>by
  obtain⟨i1,i2⟩:=V6 (kd:=kd) ts (qS kd ln t) (r++[((ln.map kd).idxOf (kd t):Int)])
  obtain⟨l,eg⟩:=l7 (kd:=kd) (ts:=ts) (ln:=qS kd ln t) (r:=r++[((ln.map kd).idxOf (kd t):Int)])
  have hm:kd t∈(fW kd (qS kd ln t) ts (r++[((ln.map kd).idxOf (kd t):Int)])).1.map kd:=by
   rw[eg,List.map_append]
   exact List.mem_append_left _ Q9
  have he:((fW kd (qS kd ln t) ts (r++[((ln.map kd).idxOf (kd t):Int)])).1.map kd).idxOf (kd t)=(ln.map kd).idxOf (kd t):=by
   rw[eg,List.map_append,tP Q9,aDd]
  simp only[fW]
  refine⟨?_,fun x hx=> ?_⟩
  ·rw[List.map_cons,he]
   rw[i1,List.append_assoc]
   rfl
  ·rcases List.mem_cons.1 hx with rfl | hx
   ·exact hm
   ·exact i2 x hx
def S0(kd:Nat→Int)(nx:List (List Int))(ln:List Nat)(s:Nat):List Int:=(fD nx s).map fun t=>((ln.map kd).idxOf (kd t):Int)
structure Made(nx:List (List Int))(ot:List Int)(n M:Nat)(kd:Nat→Int)(ln:List Nat)(r:List (List Int)×List Int):Prop where
 lane:Lane kd n M ln
 pos:0<ln.length
 zero:ln.getD 0 0=0
 rows:r.1=ln.map (S0 kd nx ln)
 outs:r.2=ln.map fun s=>ot.getD s 0
 clos:∀s∈ln,∀t∈fD nx s,kd t∈ln.map kd
section
variable{nx:List (List Int)}{ot:List Int}{n c:Nat}(h:OkA nx ot n c){kd:Nat→Int}{M:Nat}
include h
theorem aBr{r:List (List Int)×List Int}(hr:iter (rG kd nx ot) (([]:List (List Int)),([]:List Int),[0],0)=some r):∃ln,Made nx ot n M kd ln r:=by
 refine aDB (body:=rG kd nx ot) (fun st=>Lane kd n M st.2.2.1∧st.2.2.2≤st.2.2.1.length∧0<st.2.2.1.length∧st.2.2.1.getD 0 0=0∧st.1=(st.2.2.1.take st.2.2.2).map (S0 kd nx st.2.2.1) ∧
   st.2.1=(st.2.2.1.take st.2.2.2).map (fun s=>ot.getD s 0)∧∀s∈st.2.2.1.take st.2.2.2,∀t∈fD nx s,kd t∈st.2.2.1.map kd)
  (fun r=>∃ln,Made nx ot n M kd ln r) ?_ ?_ ?_ hr
 ·rintro⟨N,O,ln,i⟩ y ⟨hl,hi0,hp,hz,hN,hO,hc⟩ hb
  simp only at hl hi0 hp hz hN hO hc
  simp only[rG]at hb
  by_cases hi:i<ln.length
  ·rw[if_pos hi]at hb
   obtain rfl:=Sum.inl.inj (Option.some.inj hb)
   have hs:ln.getD i 0<n:=by
    rw[List.getD_eq_getElem?_getD,List.getElem?_eq_getElem hi]
    exact hl.lt _ (List.getElem_mem hi)
   obtain⟨l,eg⟩:=l7 (kd:=kd) (ts:=fD nx (ln.getD i 0)) (ln:=ln) (r:=[])
   obtain⟨w1,w2⟩:=V6 (kd:=kd) (fD nx (ln.getD i 0)) ln []
   have hL:=Lane.walked (fD nx (ln.getD i 0)) ln [] hl (wX h hs)
   have htk:(ln++l).take (i+1)=ln.take i++[ln.getD i 0]:=by
    rw[List.take_append_of_le_length (by omega),List.take_add_one,List.getElem?_eq_getElem hi,List.getD_eq_getElem?_getD,List.getElem?_eq_getElem hi]
    rfl
   simp only[eg]at hL w1 w2 ⊢
   have hidx:∀s∈ln.take i,S0 kd nx ln s=S0 kd nx (ln++l) s:=fun s hs'=>by
    unfold S0
    refine List.map_congr_left fun t ht=> ?_
    rw[List.map_append,tP (hc s hs' t ht)]
   refine⟨hL,by simp only[List.length_append];omega,by simp only[List.length_append];omega,?_,?_,?_,?_⟩
   ·rw[List.getD_eq_getElem?_getD,List.getElem?_append_left hp,←List.getD_eq_getElem?_getD];exact hz
   ·rw[htk,List.map_append,hN,List.map_congr_left hidx]
    congr 1
    simp only[List.map_cons,List.map_nil,List.cons.injEq,and_true]
    rw[w1]
    rfl
   ·rw[htk,List.map_append,hO];rfl
   ·rw[htk]
    intro s hs' t ht
    rcases List.mem_append.1 hs' with q | q
    ·rw[List.map_append];exact List.mem_append_left _ (hc s q t ht)
    ·simp only[List.mem_singleton]at q
     subst q
     exact w2 t ht
  ·rw[if_neg hi]at hb;cases hb
 ·rintro⟨N,O,ln,i⟩ r ⟨hl,hi0,hp,hz,hN,hO,hc⟩ hb
  simp only at hl hi0 hp hz hN hO hc
  simp only[rG]at hb
  by_cases hi:i<ln.length
  ·rw[if_pos hi]at hb;cases hb
  ·rw[if_neg hi]at hb
   obtain rfl:=Sum.inr.inj (Option.some.inj hb)
   rw[List.take_of_length_le (by omega)]at hN hO hc
   exact⟨ln,hl,hp,hz,hN,hO,hc⟩
 ·exact⟨⟨by simp,by simp[h.pos]⟩,by simp,by simp,by simp,by simp,by simp,by simp⟩
theorem aBA:∃(x:List (List Int)×List Int) (m:Nat) (R:Nat→Nat→Prop),gQ nx ot=some (x,0)∧OkA x.1 x.2 m c∧m≤n∧R 0 0∧(∀s t,R s t→s<n∧t<m) ∧
  (∀s t,R s t→∀k,k<c→R (dl nx s k) (dl x.1 t k))∧(∀s t,R s t→ot.getD s 0=x.2.getD t 0):=by
 obtain⟨B,hB,e⟩:=aEe h
 have hd:=mH B n
 have hs:=h.small
 have hk:∀s,s<n→0≤kQ B n s∧kQ B n s<((cI B n).length:Nat):=fun s hs=>Z8 hs
 obtain⟨r,hr,_⟩:=C8 h (by omega) hk
 obtain⟨ln,hm⟩:=aBr (M:=(cI B n).length) h hr
 have hl:=hm.lane.le hk
 have hln:∀t,t<ln.length→ln.getD t 0<n:=fun t ht=>by
  rw[List.getD_eq_getElem?_getD,List.getElem?_eq_getElem ht]
  exact hm.lane.lt _ (List.getElem_mem ht)
 have hlm:∀t,t<ln.length→ln.getD t 0∈ln:=fun t ht=>by
  rw[List.getD_eq_getElem?_getD,List.getElem?_eq_getElem ht]
  exact List.getElem_mem ht
 have hwl:∀s,s<n→(fD nx s).length=c:=fun s hs=>by unfold fD;rw[List.length_map,h.row s hs]
 have hrow:∀t,t<ln.length→r.1.getD t []=S0 (kQ B n) nx ln (ln.getD t 0):=fun t ht=>by
  rw[hm.rows,List.getD_eq_getElem?_getD,List.getElem?_map,List.getD_eq_getElem?_getD,List.getElem?_eq_getElem ht]
  rfl
 have hway:∀t k,t<ln.length→k<c→(r.1.getD t []).getD k 0=((ln.map (kQ B n)).idxOf (kQ B n (dl nx (ln.getD t 0) k)):Int)∧kQ B n (dl nx (ln.getD t 0) k)∈ln.map (kQ B n):=fun t k ht hkc=>by
  have hsn:=hln t ht
  have hg:(fD nx (ln.getD t 0))[k]? = some (dl nx (ln.getD t 0) k):=by
   unfold fD dl
   have hkl2:k<(nx.getD (ln.getD t 0) []).length:=by rw[h.row _ hsn];exact hkc
   generalize nx.getD (ln.getD t 0) []=l at hkl2
   rw[List.getElem?_map,List.getD_eq_getElem?_getD,List.getElem?_eq_getElem hkl2];rfl
  rw[hrow t ht]
  unfold S0
  refine⟨?_,hm.clos _ (hlm t ht) _ (List.mem_of_getElem? hg)⟩
  rw[List.getD_eq_getElem?_getD,List.getElem?_map,hg];rfl
 have hidx:∀v,v∈ln.map (kQ B n)→(ln.map (kQ B n)).idxOf v<ln.length:=fun v hv=>by
  have:=List.idxOf_lt_length_of_mem hv
  simpa using this
 have hat:∀v,v∈ln.map (kQ B n)→kQ B n (ln.getD ((ln.map (kQ B n)).idxOf v) 0)=v:=fun v hv=>by
  have h1:=List.idxOf_lt_length_of_mem hv
  have h2:=List.getElem_idxOf h1
  rw[List.getElem_map]at h2
  have h3:=hidx v hv
  rw[List.getD_eq_getElem?_getD,List.getElem?_eq_getElem h3]
  exact h2
 refine⟨r,ln.length,fun s t=>s<n∧t<ln.length∧Leq nx ot c s (ln.getD t 0),?_,?_,by omega,?_,fun s t q=>⟨q.1,q.2.1⟩,?_,?_⟩
 ·rw[e,aBX h (by omega) hk (sS h.pos),hr];rfl
 ·refine⟨by rw[hm.rows];simp,by rw[hm.outs];simp,hm.pos,by omega,h.cs,fun t ht=> ?_,fun t k ht hkc=> ?_,fun t ht=> ?_⟩
  ·rw[hrow t ht];unfold S0;rw[List.length_map,hwl _ (hln t ht)]
  ·obtain⟨w1,w2⟩:=hway t k ht hkc
   rw[w1]
   have:=hidx _ w2
   omega
  ·rw[hm.outs,List.getD_eq_getElem?_getD,List.getElem?_map,List.getElem?_eq_getElem ht]
   have:=h.out _ (hln t ht)
   rw[show ln.getD t 0=ln[t] by rw[List.getD_eq_getElem?_getD,List.getElem?_eq_getElem ht];rfl]at this
   exact this
 ·exact⟨h.pos,hm.pos,by rw[hm.zero];exact fun _ _=>rfl⟩
 ·rintro s t ⟨q1,q2,q3⟩ k hkc
  obtain⟨w1,w2⟩:=hway t k q2 hkc
  have e1:dl r.1 t k=(ln.map (kQ B n)).idxOf (kQ B n (dl nx (ln.getD t 0) k)):=by
   have:dl r.1 t k=((r.1.getD t []).getD k 0).toNat:=rfl
   rw[this,w1];simp
  have hlt:=hidx _ w2
  refine⟨h.dl_lt q1 hkc,by rw[e1];exact hlt,?_⟩
  have h1:=S9 hkc q3
  have h2:=hat _ w2
  rw[←e1]at h2 hlt
  have h3:=(hB _ _ (hln _ hlt) (h.dl_lt (hln t q2) hkc)).1 ((xP (hln _ hlt) (h.dl_lt (hln t q2) hkc)).1 h2)
  intro w hw
  rw[h1 w hw,h3 w hw]
 ·rintro s t ⟨q1,q2,q3⟩
  have:=q3 [] (by simp)
  simp only[run,List.foldl_nil]at this
  rw[this,hm.outs,List.getD_eq_getElem?_getD (l:=ln.map _),List.getElem?_map,List.getElem?_eq_getElem q2]
  rw[List.getD_eq_getElem?_getD (l:=ln),List.getElem?_eq_getElem q2]
  rfl
end
end Go.Proofs.YtacpjjgochokcaaDoor.T
namespace Go.Proofs.YtacpjjgochokcaaDoor.T
open Go Go.Tv Go.Proofs
theorem aDU{nx:List (List Int)}{s k:Nat}{w:List Nat}:run nx s (w++[k])=dl nx (run nx s w) k:=by simp[run,List.foldl_append]
theorem aBU{w:List Nat}{k:Nat}(hk:k<w.length):w.take (k+1)=w.take k++[w.getD k 0]:=by
 rw[List.take_add_one,List.getElem?_eq_getElem hk,List.getD_eq_getElem?_getD,List.getElem?_eq_getElem hk];rfl
theorem aDO{w:List Nat}{k:Nat}(hk:k<w.length):w.getD k 0∈w:=by
 rw[List.getD_eq_getElem?_getD,List.getElem?_eq_getElem hk];exact List.getElem_mem hk
def F8(nx:List (List Int))(w:List Nat):List Int:=(List.range (w.length+1)).map fun j=>(run nx 0 (w.take j):Int)
section
variable{nx:List (List Int)}{ot:List Int}{n c:Nat}(h:OkA nx ot n c)
include h
theorem W3{w:List Nat}(hw:∀k∈w,k<c)(hl:w.length≤1000000):jC nx ot (iE w)=some (F8 nx w):=by
 have hi:=bZ (body:=eR nx (iE w)) (fun k=>((List.range (k+1)).map (fun j=>(run nx 0 (w.take j):Int)),(run nx 0 (w.take k):Int),(k:Int))) w.length (r:=F8 nx w) (fun k hk=>by
  have hs:run nx 0 (w.take k)<n:=aCO h _ h.pos (fun j hj=>hw j (List.mem_of_mem_take hj))
  have hkc:w.getD k 0<c:=hw _ (aDO hk)
  have hrow:=h.row _ hs
  have hway:=h.way _ _ hs hkc
  have hn:=h.hn
  have hrun:run nx 0 (w.take (k+1))=dl nx (run nx 0 (w.take k)) (w.getD k 0):=by rw[aBU hk,aDU]
  have hd:(nx.getD (run nx 0 (w.take k)) []).getD (w.getD k 0) 0=((run nx 0 (w.take (k+1)):Nat):Int):=by rw[hrun];unfold dl;omega
  simp only[eR,dU,pR hk,Int.toNat_natCast,hd]
  rw[if_pos (by simp only[decide_eq_true_eq];omega),if_pos ⟨by omega,by omega⟩,if_neg (by simp only[decide_eq_true_eq];omega),if_pos ⟨by omega,by omega⟩]
  simp only[Option.bind_some]
  rw[if_neg (by simp only[decide_eq_true_eq];omega),if_pos ⟨by omega,by omega⟩,if_pos ⟨by omega,by omega⟩,
   if_pos ⟨by simp only[List.length_map,List.length_range,List.length_cons,List.length_nil];omega,by simp only[List.length_map,List.length_range,List.length_cons,List.length_nil];omega⟩,
   aR (by omega) (by omega),List.range_succ (n:=k+1),List.map_append]
  rfl) (by
   simp only[eR,dU]
   rw[if_neg (by simp)]
   rfl)
 have hi':iter (eR nx (iE w)) (([(0:Int)]:List Int),(0:Int),(0:Int))=some (F8 nx w):=hi
 have hn:=h.hn
 have hp:=h.pos
 unfold jC
 rw[if_neg (by simp only[beq_iff_eq];omega),hi']
 rfl
end
theorem aBN{nx:List (List Int)}{w:List Nat}:(F8 nx w).length=w.length+1:=by simp[F8]
theorem H0{nx:List (List Int)}{w:List Nat}{j:Nat}(hj:j<w.length+1):(F8 nx w).getD j 0=(run nx 0 (w.take j):Int):=fH hj
end Go.Proofs.YtacpjjgochokcaaDoor.T
namespace Go.Proofs.YtacpjjgochokcaaDoor.T
open Go Go.Tv Go.Proofs
abbrev AU:=List (List Int)×List Int
def En(l:List Tree)(m:Nat)(w:Wd):Prop:=∃k,k≤w.length∧Lg (l.getD m (.node 0 0 [])) (w.drop k)
def Au(l:List Tree)(n:Nat)(A:AU):Prop:=∀w,Cls n w→w.length≤900000→∃r,jC A.1 A.2 w=some r∧r.length=w.length+1 ∧
 ∀k,k≤w.length→∃j:Nat,j<A.2.length∧r.getD k 0=(j:Int)∧U32 (A.2.getD j 0)∧∀m,bt (A.2.getD j 0) m=true↔m<l.length∧En l m (w.take k)
theorem aAA{nx nx':List (List Int)}{R:Nat→Nat→Prop}{c:Nat}(h:∀s t,R s t→∀k,k<c→R (dl nx s k) (dl nx' t k)):∀(w:List Nat) {s t:Nat},(∀k∈w,k<c)→R s t→R (run nx s w) (run nx' t w)
 | [],_,_,_,hR=>hR
 | k::w,s,t,hw,hR=>aAA h w (fun j hj=>hw j (.tail _ hj)) (h s t hR k (hw k (.head _)))
theorem aFX{n:Nat}{w:Wd}(hw:Cls n w):∃v:List Nat,w=iE v∧∀k∈v,k<n:=by
 refine⟨w.map Int.toNat,?_,fun k hk=> ?_⟩
 ·unfold iE
  rw[List.map_map]
  refine(List.map_id w).symm.trans (List.map_congr_left fun x hx=> ?_)
  have:=hw x hx
  simp only[id,Function.comp]
  omega
 ·obtain⟨x,hx,rfl⟩:=List.mem_map.1 hk
  have:=hw x hx
  omega
theorem DA.okA{x:MS}{n:Nat}(hn:n≤24){nx:List (List Int)}{ou:List Int}{st:List S4}(h:DA x n nx ou st):OkA nx ou st.length n:=by
 refine⟨h.l1,h.l2,h.ne,Nat.le_trans h.le (by decide),by omega,h.rw,fun s k hs hk=> ?_,fun s hs=>(h.ob s hs).1⟩
 obtain⟨j,h1,h2,_⟩:=h.go s hs k hk
 rw[h2]
 omega
theorem aAJ{l:List Tree}(hf:Fit l){n:Nat}(h1:1≤n)(hn:n≤24):
  (f7 l (n:Int)=some (([],[]),27)∧∃x,PI l l.length x∧P3 x n)∨∃nx ou A,f7 l (n:Int)=some ((nx,ou),0)∧gQ nx ou=some (A,0)∧Au l n A:=by
 obtain⟨x,hx,hP,hM⟩:=aEx hf h1 hn
 rcases hM with⟨hM,hfu⟩ | ⟨nx,ou,st,hM,hD⟩
 ·exact .inl ⟨hM,x,hP,hfu⟩
 refine .inr ⟨nx,ou,?_⟩
 have hA:=hD.okA hn
 obtain⟨A,m,R,e1,hA',_,r0,r1,r2,r3⟩:=aBA hA
 refine⟨A,hM,e1,fun w hw hl=> ?_⟩
 obtain⟨v,rfl,hv⟩:=aFX hw
 have hvl:(iE v).length=v.length:=dU _
 obtain⟨r,q1,q2,q3⟩:=aFQ hn hD hw hl
 have t1:=W3 hA hv (by omega)
 have t2:=W3 hA' hv (by omega)
 refine⟨_,t2,by rw[aBN,hvl],fun k hk=> ?_⟩
 rw[hvl]at hk
 obtain⟨j,j1,j2,j3⟩:=q3 k (by omega)
 rw[q1]at t1
 obtain rfl:=Option.some.inj t1
 rw[H0 (by omega)]at j2
 have hj:run nx 0 (v.take k)=j:=by omega
 have hR:=aAA r2 (v.take k) (fun j hj=>hv j (List.mem_of_mem_take hj)) r0
 rw[hj]at hR
 have hlt:=(r1 _ _ hR).2
 refine⟨run A.1 0 (v.take k),by rw[hA'.ho];exact hlt,H0 (by omega),?_⟩
 rw[←r3 _ _ hR]
 obtain⟨o1,o2⟩:=hD.ob j j1
 refine⟨o1,fun b=>(o2 b).trans ?_⟩
 constructor
 ·intro hb
  have hbl:b<l.length:=by rw[←hP.pl];exact hb.1
  exact⟨hbl,(aCl hP j3 hbl).1 hb⟩
 ·rintro⟨hbl,hb⟩
  exact(aCl hP j3 hbl).2 hb
end Go.Proofs.YtacpjjgochokcaaDoor.T
namespace Go.Tv
open Go Go.RowKit
def uP(P:Program):Nat→TypeId→Option Ty
 | 0,_=>none
 | n+1,t=>match P.underlying t with
  | some .bool=>some .bool
  | some (.int k)=>some (.int k)
  | some .string=>some .str
  | some (.float .f64)=>some .flt
  | some (.slice e)=>match uP P n e with
   | some A=>if P.cellsOf e=A.size∧0<A.size then some (.slice A)else none
   | none=>none
  | some (.struct fs)=>match fs.toList.mapM (fun f=>uP P n f.type)with
   | some Ts=>if uE P 0 fs.toList Ts=true∧P.cellsOf t=(J1 Ts).size∧Ts≠[]then some (J1 Ts)else none
   | none=>none
  | _=>none
def Wf:(T:Ty)→T.den→Prop
 | .int k,n=>k.min≤(show Int from n)∧(show Int from n)≤k.max
 | .bool,_=>True
 | .str,s=>List.length (α:=UInt8) s≤maxLen
 | .flt,n=>(show Nat from n)<18446744073709551616
 | .unit,_=>True
 | .prod a b,x=>Wf a x.1∧Wf b x.2
 | .slice A,xs=>List.length (α:=A.den) xs≤maxLen∧∀i (h:i<List.length (α:=A.den) xs),Wf A xs[i]
 | .ptr _,_=>True
 | .tree _ _,_=>True
section
variable{H:Type}{enc':TypeId×Value→H}{P:Program}{w:World}{sp:Nat→Bool}{held:Bool}
theorem build{A:Ty}{p:Nat→A.den→Prop}:∀(n:Nat),(∀i,i<n→∃x,p i x)→∃xs:List A.den,xs.length=n∧∀i (h:i<xs.length),p i xs[i]
 | 0,_=>⟨[],rfl,fun i h=>absurd h (by simp)⟩
 | n+1,h=>by
  obtain⟨xs,h1,h2⟩:=build n fun i hi=>h i (by omega)
  obtain⟨x,hx⟩:=h n (by omega)
  refine⟨xs++[x],by simp[h1],fun i hi=> ?_⟩
  simp only[List.length_append,List.length_cons,List.length_nil]at hi
  rcases Nat.lt_or_ge i xs.length with h3 | h3
  ·rw[List.getElem_append_left h3];exact h2 i h3
  ·obtain rfl:i=n:=by omega
   have e:(xs++[x])[i]'(by simp;omega)=x:=by
    rw[List.getElem_append_right (by omega)]
    simp[h1]
   rw[e];exact hx
def Reads(w:World)(T:Ty)(cs:List Value)(x:T.den):Prop:=Vcells (fun a v=>w.cell? a=some v) T x (fun k v=>cs[k]? = some v)∧Wf T x
theorem aBO{base:Nat}{a:Addr}{n:Nat}{cs:List Value}(h:w.cells? base a n=some cs):cs.length=n∧∀k v,cs[k]? = some v→w.cell? (a.add k)=some v:=by
 unfold World.cells? at h
 split at h
 ·obtain⟨h1,h2⟩:=pB h
  simp only[List.length_range]at h1
  refine⟨h1,fun k v hk=> ?_⟩
  have hlt:k<n:=by rw[←h1];exact(List.getElem?_eq_some_iff.1 hk).1
  obtain⟨y,q1,q2⟩:=h2 k k (by simp[hlt])
  rw[hk]at q1
  cases q1
  exact q2
 ·cases h
theorem Reads.cut{T:Ty}{cs:List Value}{off n:Nat}{x:T.den}(h:Reads w T ((cs.drop off).take n) x):Vcells (fun a v=>w.cell? a=some v) T x (fun k v=>cs[off+k]? = some v)∧Wf T x :=
 ⟨Vcells.mono (fun _ _ h=>h) (fun k v hk=>by
  rw[List.getElem?_take]at hk
  split at hk
  ·simpa using hk
  ·cases hk) h.1,h.2⟩
theorem F3{cs:List Value}:∀(fs:List Field) (Ts:List Ty) (off:Nat),uE P off fs Ts=true→fs.length=Ts.length →
  (∀(i:Nat) f T,fs[i]? = some f→Ts[i]? = some T→∃x:T.den,Reads w T ((cs.drop f.offset).take (P.cellsOf f.type)) x) →
  ∀T0,(∃x:T0.den,Vcells (fun a v=>w.cell? a=some v) T0 x (fun k v=>cs[off - T0.size+k]? = some v)∧Wf T0 x)→T0.size≤off →
  ∃x:(C3 T0 Ts).den,Vcells (fun a v=>w.cell? a=some v) (C3 T0 Ts) x (fun k v=>cs[off - T0.size+k]? = some v)∧Wf (C3 T0 Ts) x
 | [],[],off,_,_,_,T0,h0,_=>h0
 | [],_::_,_,_,hl,_,_,_,_=>by simp at hl
 | _::_,[],_,_,hl,_,_,_,_=>by simp at hl
 | f::fs,T::Ts,off,ho,hl,hf,T0,⟨x0,h0,w0⟩,hle=>by
  simp only[uE,Bool.and_eq_true,beq_iff_eq]at ho
  obtain⟨⟨h1,h2⟩,h3⟩:=ho
  obtain⟨y,hy⟩:=hf 0 f T rfl rfl
  have hy':=hy.cut
  rw[h1]at hy'
  obtain⟨z,hz,wz⟩:=F3 fs Ts (off+T.size) h3 (by simpa using hl) (fun i f' T' a b=>hf (i+1) f' T' (by simpa using a) (by simpa using b)) T ⟨y,by
   rw[Nat.add_sub_cancel];exact hy'.1,hy'.2⟩ (Nat.le_add_left _ _)
  refine⟨(x0,z),⟨h0,?_⟩,w0,wz⟩
  refine Vcells.mono (fun _ _ h=>h) (fun k v hk=> ?_) hz
  rw[Nat.add_sub_cancel]at hk
  show cs[off - T0.size+(T0.size+k)]? = some v
  rwa [show off - T0.size+(T0.size+k)=off+k by omega]
theorem P7{cs:List Value}(fs:List Field)(Ts:List Ty)(ho:uE P 0 fs Ts=true)(hl:fs.length=Ts.length)(hne:Ts≠[])
  (hf:∀(i:Nat) f T,fs[i]? = some f→Ts[i]? = some T→∃x:T.den,Reads w T ((cs.drop f.offset).take (P.cellsOf f.type)) x):∃x:(J1 Ts).den,Reads w (J1 Ts) cs x:=by
 match fs,Ts with
 | [],[]=>exact absurd rfl hne
 | [],_::_=>simp at hl
 | _::_,[]=>simp at hl
 | f::fs,T::Ts =>
  simp only[uE,Bool.and_eq_true,beq_iff_eq]at ho
  obtain⟨⟨h1,h2⟩,h3⟩:=ho
  obtain⟨y,hy⟩:=hf 0 f T rfl rfl
  have hy':=hy.cut
  rw[h1]at hy'
  obtain⟨z,hz,wz⟩:=F3 fs Ts (0+T.size) h3 (by simpa using hl) (fun i f' T' a b=>hf (i+1) f' T' (by simpa using a) (by simpa using b)) T ⟨y,by
   rw[Nat.add_sub_cancel];exact hy'.1,hy'.2⟩ (Nat.le_add_left _ _)
  have hz':Vcells (fun a v=>w.cell? a=some v) (C3 T Ts) z (fun k v=>cs[k]? = some v):=Vcells.mono (fun _ _ h=>h) (fun k v hk=>by
   rwa [Nat.add_sub_cancel,Nat.zero_add]at hk) hz
  cases Ts with
  | nil=>exact⟨(z,()),⟨hz',trivial⟩,wz,trivial⟩
  | cons b r=>exact⟨z,hz',wz⟩
theorem N0:∀(n:Nat) (t:TypeId) (T:Ty),uP P n t=some T→∀(fuel:Nat) (cs:List Value) (r:DataW H×List MemPlace),DataW.trod enc' P w 0 sp held fuel t cs=some r→(∃x:T.den,Reads w T cs x)∧cs.length=T.size
 | 0,_,_,h,_,_,_,_=>by simp[uP]at h
 | n+1,t,T,h,0,cs,r,hr=>by simp[DataW.trod]at hr
 | n+1,t,T,h,fuel+1,cs,r,hr=>by
  have ih:=N0 n
  simp only[uP]at h
  unfold DataW.trod at hr
  split at h
  ·rename_i hu
   cases h
   rw[hu]at hr
   split at hr <;> first | (exfalso;simp_all;done) | skip
   rename_i b _
   exact⟨⟨b,by simp[Vcells],trivial⟩,rfl⟩
  ·rename_i k hu
   cases h
   rw[hu]at hr
   split at hr <;> first | (exfalso;simp_all;done) | skip
   rename_i k1 k2 i e
   cases e
   split at hr
   ·rename_i hk
    obtain⟨rfl,hw⟩:=hk
    refine⟨⟨i,by simp[Vcells],?_⟩,rfl⟩
    simp only[Lit.wf,Bool.and_eq_true,decide_eq_true_eq]at hw
    exact hw
   ·cases hr
  ·rename_i hu
   cases h
   rw[hu]at hr
   split at hr <;> first | (exfalso;simp_all;done) | skip
   rename_i s e
   split at hr
   ·rename_i hs
    refine⟨⟨s.data.toList,by simp[Vcells],?_⟩,rfl⟩
    show s.data.toList.length≤maxLen
    have e:s.data.toList.length=s.size:=Array.length_toList
    rw[e]
    exact hs
   ·cases hr
  ·rename_i hu
   cases h
   rw[hu]at hr
   split at hr <;> first | (exfalso;simp_all;done) | skip
   rename_i k1 k2 i e
   cases e
   split at hr
   ·rename_i hk
    obtain⟨rfl,hw⟩:=hk
    refine⟨⟨i,by simp[Vcells],?_⟩,rfl⟩
    have hw2:i<18446744073709551616:=by simpa [Lit.wf]using hw
    exact hw2
   ·cases hr
  ·rename_i e hu
   split at h
   ·rename_i A hA
    split at h
    ·rename_i hsz
     cases h
     rw[hu]at hr
     split at hr <;> first | (exfalso;simp_all;done) | skip
     ·exact⟨⟨[],⟨none,0,0,rfl,⟨rfl,Nat.le_refl _⟩,fun i hi=>absurd hi (by simp)⟩,Nat.zero_le _,fun i hi=>absurd hi (by simp)⟩,rfl⟩
     ·rename_i e' a len cap q
      cases q
      simp only at hr
      split at hr
      ·rename_i hb
       simp only[Option.bind_eq_some_iff]at hr
       obtain⟨elems,he,_⟩:=hr
       obtain⟨g1,g2⟩:=pB he
       simp only[List.length_range]at g1
       obtain⟨xs,hx1,hx2⟩:=build (A:=A) (p:=fun i x=>Vcells (fun a v=>w.cell? a=some v) A x (fun k v=>w.cell? (a.add (i*A.size+k))=some v)∧Wf A x) len fun i hi=>by
        obtain⟨y,_,q2⟩:=g2 i i (by simp[hi])
        simp only[Option.bind_eq_some_iff]at q2
        obtain⟨cs,q3,q4⟩:=q2
        obtain⟨s1,s2⟩:=aBO q3
        obtain⟨⟨x,t1,t2⟩,_⟩:=ih e A hA fuel cs y q4
        refine⟨x,Vcells.mono (fun _ _ h=>h) (fun k v hk=> ?_) t1,t2⟩
        have:=s2 k v hk
        rw[qP]at this
        rw[hsz.1]at this
        exact this
       refine⟨⟨xs,⟨some a,len,cap,rfl,⟨hx1.symm,hb.2.1⟩,fun i hi=>⟨a,rfl,(hx2 i hi).1⟩⟩,?_,fun i hi=>(hx2 i hi).2⟩,rfl⟩
       show xs.length≤maxLen
       rw[hx1]
       exact Nat.le_trans hb.2.1 hb.2.2
      ·cases hr
    ·cases h
   ·cases h
  ·rename_i fs hu
   split at h
   ·rename_i Ts hTs
    split at h
    ·rename_i hc
     obtain⟨hc1,hc2,hc3⟩:=hc
     cases h
     rw[hu]at hr
     split at hr <;> first | (exfalso;simp_all;done) | skip
     rename_i fs' _ _ q
     cases q
     split at hr
     ·rename_i hlen
      simp only[Option.map_eq_some_iff]at hr
      obtain⟨xs,hxs,_⟩:=hr
      obtain⟨g1,g2⟩:=pB hxs
      obtain⟨k1,k2⟩:=pB hTs
      refine⟨P7 fs.toList Ts hc1 k1.symm hc3 fun i f T hf hT=> ?_,by rw[hlen,hc2]⟩
      obtain⟨T',q1,q2⟩:=k2 i f hf
      rw[hT]at q1
      cases q1
      obtain⟨y,_,q3⟩:=g2 i f hf
      exact(ih f.type T q2 fuel _ y q3).1
     ·cases hr
    ·cases h
   ·cases h
  ·cases h
end
end Go.Tv
namespace Go.Tv
open Go Go.RowKit
def Tup:List Ty→Type
 | []=>Unit
 | T::Ts=>T.den×Tup Ts
def aD7(T:Ty)(x:T.den):AVal:=if T.scalar then .p false T x else .agg (i6 false T x)
def aGf:(Ts:List Ty)→Tup Ts→List AVal
 | [],_=>[]
 | T::Ts,x=>aD7 T x.1::aGf Ts x.2
def WfT:(Ts:List Ty)→Tup Ts→Prop
 | [],_=>True
 | T::Ts,x=>Wf T x.1∧WfT Ts x.2
section
variable{H:Type}{en:TypeId×Value→H}{P:Program}{w:World}{sp:Nat→Bool}{held:Bool}
theorem I1{t:TypeId}{n:Nat}{T:Ty}(ht:uP P n t=some T){r:Reach}{base:Nat}{v:Value}(h:Value.okWide P w r base t v):(∃cs,v = .agg cs)∨T.scalar=true∧v.cells = #[v]:=by
 cases n with
 | zero=>simp[uP]at ht
 | succ n =>
  simp only[uP]at ht
  unfold Value.okWide at h
  split at ht
  ·rename_i hu
   cases ht
   rw[hu]at h
   right
   simp only[Cell.okWide,hu]at h
   refine⟨rfl,?_⟩
   cases v <;> simp_all [Cell.ok,Value.cells]
  ·rename_i k hu
   cases ht
   rw[hu]at h
   right
   simp only[Cell.okWide,hu]at h
   refine⟨rfl,?_⟩
   cases v <;> simp_all [Cell.ok,Value.cells]
  ·rename_i hu
   cases ht
   rw[hu]at h
   right
   simp only[Cell.okWide,hu]at h
   refine⟨rfl,?_⟩
   cases v <;> simp_all [Cell.ok,Value.cells]
  ·rename_i hu
   cases ht
   rw[hu]at h
   right
   simp only[Cell.okWide,hu]at h
   refine⟨rfl,?_⟩
   cases v <;> simp_all [Cell.ok,Value.cells]
  ·rename_i e hu
   split at ht
   ·split at ht
    ·cases ht
     rw[hu]at h
     right
     simp only[Cell.okWide,hu]at h
     refine⟨rfl,?_⟩
     cases v <;> simp_all [Cell.ok,Value.cells]
    ·cases ht
   ·cases ht
  ·rename_i fs hu
   rw[hu]at h
   obtain⟨cs,e,_⟩:=h
   exact .inl ⟨cs,e⟩
  ·cases ht
theorem aCL{t:TypeId}{n:Nat}{T:Ty}(ht:uP P n t=some T){r:Reach}{base:Nat}{cs:Array Value}(h:Value.okWide P w r base t (.agg cs)):T.scalar=false:=by
 cases n with
 | zero=>simp[uP]at ht
 | succ n =>
  simp only[uP]at ht
  unfold Value.okWide at h
  split at ht
  ·rename_i hu
   rw[hu]at h
   simp[Cell.okWide,hu,Cell.ok]at h
  ·rename_i k hu
   rw[hu]at h
   simp[Cell.okWide,hu,Cell.ok]at h
  ·rename_i hu
   rw[hu]at h
   simp[Cell.okWide,hu,Cell.ok]at h
  ·rename_i hu
   rw[hu]at h
   simp[Cell.okWide,hu,Cell.ok]at h
  ·rename_i e hu
   rw[hu]at h
   simp[Cell.okWide,hu,Cell.ok]at h
  ·split at ht
   ·rename_i Ts _
    split at ht
    ·rename_i hc
     cases ht
     match Ts,hc.2.2 with
     | [a],_=>rfl
     | a::b::r,_=>rfl
    ·cases ht
   ·cases ht
  ·cases ht
theorem aCt{t:TypeId}{n:Nat}{T:Ty}(ht:uP P n t=some T){v:Value}{d:DataW H}{p:List MemPlace}(h:DataW.Trod en P w 0 sp held t v d p){r:Reach}{base:Nat}(hv:Value.okWide P w r base t v):
  ∃x:T.den,V (Fr gD (fun _=>False) w) kF (aD7 T x) v∧Wf T x:=by
 obtain⟨fuel,hf⟩:=h
 obtain⟨⟨x,h1,h2⟩,h3⟩:=N0 n t T ht fuel _ _ hf
 refine⟨x,?_,h2⟩
 have h1':Vcells (Fr gD (fun _=>False) w false) T x (fun k u=>v.cells.toList[k]? = some u):=Vcells.mono (fun a u hu=>⟨fun e=>e,fun _ e=>e,hu⟩) (fun _ _ h=>h) h1
 rcases I1 ht hv with⟨cs,rfl⟩ | ⟨hs,hc⟩
 ·have hs:=aCL ht hv
  unfold aD7
  rw[hs]
  simp only[Bool.false_eq_true,if_false,V]
  refine⟨cs,rfl,by rw[eU,←h3];simp[Value.cells],lH false T x _ (Vcells.mono (fun _ _ h=>h) (fun k u hk=>by simpa [Value.cells]using hk) h1')⟩
 ·unfold aD7
  rw[if_pos hs]
  simp only[V]
  refine⟨hs,?_⟩
  rw[hc]at h1'
  have h2':Vcells (Fr gD (fun _=>False) w false) T x (fun k u=>(#[v]:Array Value).toList[k]? = some u):=h1'
  refine Vcells.monoLt (fun k u hk hu=> ?_) h2'
  rw[Ty.size_scalar hs]at hk
  obtain rfl:k=0:=by omega
  simp at hu
  exact hu.symm
theorem E7{n:Nat}:∀ {ts:List TypeId} {Ts:List Ty} {vs:List Value} {ds:List (DataW H)} {p:List MemPlace},ts.map (uP P n)=Ts.map some→DataW.TrodAll en P w 0 sp held ts vs ds p→∀ {r:Reach} {base:Nat},
  (∀(j:Nat) t v,ts[j]? = some t→vs[j]? = some v→Value.okWide P w r base t v)→∃x:Tup Ts,VVs (Fr gD (fun _=>False) w) kF (aGf Ts x) vs∧WfT Ts x∧ds.length=ts.length
 | [],[],[],[],_,_,_,_,_,_=>⟨(),trivial,trivial,rfl⟩
 | t::ts,T::Ts,v::vs,d::ds,p,hT,⟨q,q',h1,h2,_⟩,r,base,hv=>by
  simp only[List.map_cons,List.cons.injEq]at hT
  obtain⟨x,hx,wx⟩:=aCt hT.1 h1 (hv 0 t v rfl rfl)
  obtain⟨y,hy,wy,hl⟩:=E7 hT.2 h2 (fun j t' v' a b=>hv (j+1) t' v' (by simpa using a) (by simpa using b))
  exact⟨(x,y),⟨hx,hy⟩,⟨wx,wy⟩,by simp[hl]⟩
 | [],_::_,_,_,_,hT,_,_,_,_=>by simp at hT
 | _::_,[],_,_,_,hT,_,_,_,_=>by simp at hT
 | [],[],_::_,_,_,_,h,_,_,_=>h.elim
 | [],[],[],_::_,_,_,h,_,_,_=>h.elim
 | _::_,_::_,[],_,_,_,h,_,_,_=>h.elim
 | _::_,_::_,_::_,[],_,_,h,_,_,_=>h.elim
theorem F5(hl:laidOutB P=true){w':World}(hb:Below w.heap.size w w'):∀ {ts:List TypeId} {vs:List Value} {ds:List (DataW H)} {p:List MemPlace},ts.all (fun t=>P.readableRec t && decide (t<P.types.size))=true →
  DataW.TrodAll en P w 0 (fun _=>true) true ts vs ds p→DataW.TrodAll en P w' 0 (fun b=>decide (b<w.heap.size)) true ts vs ds p
 | [],[],[],_,_,h=>h
 | t::ts,v::vs,d::ds,p,hr,⟨q,q',h1,h2,e⟩ =>
  by
   simp only[List.all_cons,Bool.and_eq_true,decide_eq_true_eq]at hr
   exact⟨q,q',Below.trod hl hr.1.1 hr.1.2 h1 hb (by obtain⟨m,hm⟩:=h1;exact DataW.trod_lt m _ _ _ hm),F5 hl hb hr.2 h2,e⟩
 | [],_::_,_,_,_,h=>h.elim
 | [],[],_::_,_,_,h=>h.elim
 | _::_,[],_,_,_,h=>h.elim
 | _::_,_::_,[],_,_,h=>h.elim
end
end Go.Tv
namespace Go.Proofs.YtacpjjgochokcaaDoor.T
open Go Go.Tv Go.Proofs
theorem zL(t:Tree):Tree.node t.op t.set t.kids=t:=by cases t;rfl
theorem gN{k:Nat}(h:k<10000000):IntKind.i64.wrap ((k:Int)+1)=((k+1:Nat):Int):=by rw[aR (by omega) (by omega)];omega
theorem U1:∀(d:Nat) (t:Tree),Tok d t→Tok d (kS t)
 | 0,_,h=>h.elim
 | d+1,.node o s ks,h=>by
  obtain⟨h1,h2,h3⟩:=h
  have hm:∀k∈dO ks,Tok d k:=fun k hk=>by
   rw[jZ]at hk
   obtain⟨k',q1,rfl⟩:=List.mem_map.1 hk
   exact U1 d k' (h3 k' q1)
  simp only[kS]
  refine⟨h1,?_,fun k hk=> ?_⟩
  ·simp only[Tree.kids]at h2 ⊢
   split <;> simpa [jZ]using h2
  ·simp only[Tree.kids]at hk
   split at hk
   ·exact hm k (List.mem_reverse.1 hk)
   ·exact hm k hk
def H4(o:Int)(ks:List Tree):List Tree:=if o=2 then(dO ks).reverse else dO ks
theorem V8(o:Int)(ks:List Tree):(H4 o ks).length=ks.length:=by
 unfold H4;split <;> simp[jZ]
theorem aDH{o:Int}{ks:List Tree}{k:Nat}(h:k<ks.length):(H4 o ks).getD k (Tree.node 0 0 [])=kS (ks.getD (if o=2 then ks.length - 1 - k else k) (Tree.node 0 0 [])):=by
 have hl:=V8 o ks
 rw[cY (by omega)]
 unfold H4
 split
 ·rw[cY (by omega)]
  simp only[jZ,List.getElem_reverse,List.getElem_map,List.length_map]
 ·rw[cY (by omega)]
  simp only[jZ,List.getElem_map]
theorem aBR(o s:Int)(ks:List Tree):kS (.node o s ks) = .node o s (H4 o ks):=by simp only[kS,H4]
abbrev RTn:=Int→Int→(List Tree)→Option Tree
theorem aCM{R:RTn}{o:Int}{ks:List Tree}(hk:ks.length≤1000)(hR:∀k∈ks,R k.op k.set k.kids=some (kS k)):iter (i7 o ks R) ([],0)=some (H4 o ks):=by
 have hl:=V8 o ks
 refine bZ (fun k=>((H4 o ks).take k,(k:Int))) ks.length (fun k hlt=> ?_) ?_
 ·have hg:=aDH (o:=o) hlt
  have c5:=gN (k:=k) (by omega)
  have hle:((H4 o ks).take k).length≤1000:=by simp;omega
  unfold i7
  dsimp only
  rw[if_pos (by simp;omega),if_pos (by omega),c5,eW (d:=Tree.node 0 0 []) (by omega),hg]
  by_cases h2:o=2
  ·subst h2
   have e:IntKind.i64.wrap (IntKind.i64.wrap ((ks.length:Int) - 1) - (k:Int))=((ks.length - 1 - k:Nat):Int):=by
    rw[aR (x:=(ks.length:Int) - 1) (by omega) (by omega),aR (by omega) (by omega)];omega
   rw[if_pos (show((2:Int) == 2)=true from rfl),if_pos rfl,e,if_pos (by omega),Int.toNat_natCast]
   simp only[Option.bind_some]
   rw[hR _ (dN (by omega))]
   simp only[Option.bind_some,zL]
   rw[if_pos (by simp only[List.length_cons,List.length_nil];omega)]
  ·rw[if_neg (by simpa using h2),if_neg h2,Int.toNat_natCast]
   simp only[Option.bind_some]
   rw[hR _ (dN (by omega))]
   simp only[Option.bind_some,zL]
   rw[if_pos (by simp only[List.length_cons,List.length_nil];omega)]
 ·unfold i7
  dsimp only
  rw[if_neg (by simp),List.take_of_length_le (by omega)]
theorem P4:∀(d:Nat) (t:Tree),Tok d t→∀f,d≤f→lS f t.op t.set t.kids=some (kS t)
 | 0,_,h,_,_=>h.elim
 | d+1,.node o s ks,h,0,hf=>absurd hf (by omega)
 | d+1,.node o s ks,h,f+1,hf=>by
  show kA (lS f) o s ks=_
  unfold kA
  rw[aCM (ks:=ks) h.2.1 (fun k hk=>P4 d k (h.2.2 k hk) f (by omega)),aBR]
  rfl
theorem aEd(x:Int){n:Nat}(h1:1≤n)(h2:n≤24):¬(IntKind.u64.wrap (n:Int))=0∧0≤IntKind.i64.wrap (Int.tmod (IntKind.u64.wrap x) (IntKind.u64.wrap (n:Int)))∧IntKind.i64.wrap (Int.tmod (IntKind.u64.wrap x) (IntKind.u64.wrap (n:Int)))<(n:Int):=by
 have e1:IntKind.u64.wrap (n:Int)=n:=pD (by omega) (by omega)
 have e2:0≤IntKind.u64.wrap x:=by rw[aBQ];omega
 rw[e1]
 have e3:Int.tmod (IntKind.u64.wrap x) (n:Int)=IntKind.u64.wrap x % (n:Int):=Int.tmod_eq_emod_of_nonneg e2
 have h3:=Int.emod_nonneg (IntKind.u64.wrap x) (show(n:Int)≠0 by omega)
 have h4:=Int.emod_lt_of_pos (IntKind.u64.wrap x) (show(0:Int)<n by omega)
 rw[e3,aR (by omega) (by omega)]
 exact⟨by omega,h3,h4⟩
end Go.Proofs.YtacpjjgochokcaaDoor.T
