/- A plan's rules, and what is made of them. -/
import Derived.Test.YtacpjjgochokcaaDoorTv06bbm
import Derived.Test.YtacpjjgochokcaaDoorTv06pvm
import Derived.Test.YtacpjjgochokcaaDoorTv06pm
import Derived.Test.YtacpjjgochokcaaDoorTvT06xb
import Derived.Test.YtacpjjgochokcaaDoorTvT06x0
import Derived.Test.YtacpjjgochokcaaDoorTvT06xa
import Derived.Test.YtacpjjgochokcaaDoorTv06lpm
namespace Go.Proofs.YtacpjjgochokcaaDoor.T
open Go Go.Tv Go.Proofs
set_option maxRecDepth 1000000 in
theorem aBE:fI=some true:=by kernel_rfl
theorem aAP{t:List UInt8}{r:RR}(hr:Good r)(hp:cS t=some (r,0,0)):(fP t=some ((none:MA),27,0)∧aDa r)∨∃A B,fP t=some ((some (r,A,B):MA),0,0)∧aBd r A B:=by
 unfold fP
 rw[hp]
 simp only[Option.bind_some]
 rw[if_neg (by decide)]
 rcases J9 hr with⟨q,hm⟩ | ⟨A,B,q,hM⟩
 ·rw[q];exact .inl ⟨rfl,hm⟩
 ·rw[q];exact .inr ⟨A,B,rfl,hM⟩
end Go.Proofs.YtacpjjgochokcaaDoor.T
namespace Go.Proofs.YtacpjjgochokcaaDoor.T
open Go Go.Tv Go.Proofs
noncomputable section
set_option maxRecDepth 100000
set_option maxHeartbeats 4000000
def bT(d1:Int):((List UInt8)×Int)→Option (((List UInt8)×Int)⊕(List UInt8)):=fun(v3,v4) =>
 (if(decide (v4<(IntKind.i64.wrap ((1:Int)+(IntKind.i64.wrap (Int.tmod d1 (5:Int)))))))=true then(if v3.length+([65,32]:List UInt8).length≤9223372036854775807 then some (Sum.inl ((v3++([65,32]:List UInt8)),(IntKind.i64.wrap (v4+(1:Int)))))else none)
 else some (Sum.inr v3))
def bR(i1:List Bool):((List Int)×Int)→Option (((List Int)×Int)⊕(List Int)):=fun(v10,v11) =>
 (if(decide (v11<(i1.length:Int)))=true then(if 0≤v11∧v11<(i1.length:Int)then(((if(i1.getD v11.toNat false)=true then(if(v10.length+([(0:Int)]:List Int).length)*8≤140737488355328∧v10.length+([(0:Int)]:List Int).length≤9223372036854775807 then some ((v10++([(0:Int)]:List Int)))else none)
 else(if(v10.length+([(1:Int)]:List Int).length)*8≤140737488355328∧v10.length+([(1:Int)]:List Int).length≤9223372036854775807 then some ((v10++([(1:Int)]:List Int)))else none))).bind fun v13=>some (Sum.inl (v13,(IntKind.i64.wrap (v11+(1:Int))))))else none)
 else some (Sum.inr v10))
def bI(v12:List Int)(v31:Int):(Int)→Option ((Int)⊕(Int)):=fun v35 =>
 (((if(decide (v35<v31))=true then(if 0≤(IntKind.i64.wrap ((IntKind.i64.wrap (v31 - (1:Int))) - v35))∧(IntKind.i64.wrap ((IntKind.i64.wrap (v31 - (1:Int))) - v35))<(v12.length:Int)then(if(IntKind.i64.wrap ((IntKind.i64.wrap (v31 - (1:Int))) - v35)).toNat<v12.length then some (((v12.getD ((IntKind.i64.wrap ((IntKind.i64.wrap (v31 - (1:Int))) - v35)).toNat) (0:Int)) == (0:Int)))else none)else none)
 else some (false))).bind fun v37=>(if v37=true then some (Sum.inl (IntKind.i64.wrap (v35+(1:Int))))
 else some (Sum.inr v35)))
def bU(d1:Int)(v12 r8:List Int):(Int)→Option ((Int)⊕((Unit)⊕(Bool))):=fun v31 =>
 (if(decide (v31<(v12.length:Int)))=true then((iter (bI v12 v31) (0:Int)).bind fun v36=>(((if 0≤v31∧v31<(v12.length:Int)then(if v31.toNat<v12.length then(if((v12.getD v31.toNat (0:Int)) == (1:Int))=true then some ((decide (v36≥(IntKind.i64.wrap ((1:Int)+(IntKind.i64.wrap (Int.tmod d1 (5:Int))))))))
 else some (false))else none)else none)).bind fun v38=>(((if v38=true then some ((0:Int))
 else some ((2:Int)))).bind fun v39=>(if 0≤v31∧v31<(r8.length:Int)then(if((r8.getD v31.toNat (0:Int)) != v39)=true then some (Sum.inr (Sum.inr false))
 else some (Sum.inl (IntKind.i64.wrap (v31+(1:Int)))))else none))))
 else some (Sum.inr (Sum.inl ())))
def dK(d1:Int)(i1:List Bool):Option (Bool) :=
 ((fI).bind fun r2 =>
 (if(!r2)=true then some false
 else(if(decide ((i1.length:Int) > (200:Int)))=true then some true
 else(if ¬(5:Int)=0 then((iter (bT d1) (([99,108,97,115,115,32,65,32,66,59,32,107,101,101,112,32]:List UInt8),(0:Int))).bind fun v5=>(if v5.length+([47,32,66,59,32,109,117,115,116,32,46,32,47,32,46,59]:List UInt8).length≤9223372036854775807 then((fP (v5++([47,32,66,59,32,109,117,115,116,32,46,32,47,32,46,59]:List UInt8))).bind fun(r5,r6) =>
 (if(r6.1 != (0:Int))=true then some false
 else((iter (bR i1) (([]:List Int),(0:Int))).bind fun v12=>((cY r5 v12).bind fun r8 =>
 ((iter (bU d1 v12 r8) (1:Int)).bind fun(r10:((Unit)⊕(Bool)))=>match r10 with
 | .inl _=>some ((r8.length:Int) == (IntKind.i64.wrap ((v12.length:Int)+(1:Int))))
 | .inr (r9)=>some r9)))))else none))else none))))
theorem stanzalaw06_SegFar_ok(β1:Bool){d1:Int}{i1:List Bool}{res:Bool}(h:dK d1 i1=some res):
  Pure Tryd.prog 7 [.u8 d1,.p β1 (.slice .bool) i1] (bX (fL false [⟨.bool,res⟩])):=by
 refine Pure.of_body bK Tryd.func7 (by kernel_rfl) rfl (nl rfl) (fun Bw w0=> ?_) rfl
 unfold dK at h
 refine G (aC ?_)
 obtain⟨r2,q2,h⟩:=aD h
 refine GP 0 (mQ q2) (aS h (fun hb1 h=> ?_) (fun hb1 h=> ?_))
 ·refine G (aV (aG ?_))
  obtain rfl:=sI h
  exact aK [.bool] (by kernel_rfl)
 refine aB (aA (aC (G (aS h (fun hb2 h=> ?_) (fun hb2 h=> ?_)))))
 ·refine G (aV (aG ?_))
  obtain rfl:=sI h
  exact aK [.bool] (by kernel_rfl)
 refine aB (aA (GC 1 h (fun h=>G (aC (G (aF (hU h (fun(v3,v4)=>aN [(1,.p β1 (.slice .bool) i1),(5,.i64 (IntKind.i64.wrap ((1:Int)+(IntKind.i64.wrap (Int.tmod d1 (5:Int)))))),(6,.st v3),(25,.i64 (IntKind.i64.wrap ((1:Int)+(IntKind.i64.wrap (Int.tmod d1 (5:Int)))))),(26,.i64 v4)] [] 0) 0 (fun v5=>aN [(1,.p β1 (.slice .bool) i1),(5,.i64 (IntKind.i64.wrap ((1:Int)+(IntKind.i64.wrap (Int.tmod d1 (5:Int)))))),(6,.st v5)] [] 0) (gg [] []) (fun y o h=> ?_) (fun v5 h=> ?_))))))))
 ·obtain⟨v3,v4⟩:=y
  unfold bT at h
  refine G (aC (aS h (fun hb5 h=> ?_) (fun hb5 h=> ?_)))
  ·refine aB (aA (aC (aF (GCe 1 h (fun h=>aM (aA (Ge ?_)))))))
   exact eB h (gg [] [])
  refine aH (bM ?_)
  exact eX h (gg [] [])
 refine aJ (aA ?_)
 obtain⟨c10,h⟩:=bB h
 obtain⟨⟨r5,r6⟩,q4,h⟩:=aD h
 have u_1:=(mX q4)
 refine GN ⟨[],[(2,(oP u_1))]⟩ [(1,1,oc c10),(2,2,oc u_1)] (aC (G (aS h (fun hb6 h=> ?_) (fun hb6 h=> ?_))))
 ·refine G (aV (aG ?_))
  obtain rfl:=sI h
  exact aK [.bool] (by kernel_rfl)
 refine aB (aA (G (aC (G (aF (hU h (fun(v10,v11)=>aN [(5,.i64 (IntKind.i64.wrap ((1:Int)+(IntKind.i64.wrap (Int.tmod d1 (5:Int)))))),(7,.p false (.ptr Y7) r5),(9,.sl 0),(40,.p β1 (.slice .bool) i1),(41,.i64 (i1.length:Int)),(42,.i64 v11)] [(0,.arr 3 (.int .i64) v10)] 1) 2 (fun v12=>aN [(5,.i64 (IntKind.i64.wrap ((1:Int)+(IntKind.i64.wrap (Int.tmod d1 (5:Int)))))),(7,.p false (.ptr Y7) r5),(9,.sl 0)] [(0,.arr 3 (.int .i64) v12)] 1) (gg [.nilS 9 128 3 (.int .i64)] [128]) (fun y o h=> ?_) (fun v12 h=> ?_)))))))
 ·obtain⟨v10,v11⟩:=y
  unfold bR at h
  refine G (aC (aS h (fun hb13 h=> ?_) (fun hb13 h=> ?_)))
  ·refine aB (aA (aC (aF (GC 0 h (fun h=>G (fA h (fun v13=>aN [(5,.i64 (IntKind.i64.wrap ((1:Int)+(IntKind.i64.wrap (Int.tmod d1 (5:Int)))))),(7,.p false (.ptr Y7) r5),(9,.sl 0),(40,.p β1 (.slice .bool) i1),(41,.i64 (i1.length:Int)),(42,.i64 v11)] [(0,.arr 3 (.int .i64) v13)] 1) (fun v13 h=> ?_) (fun v13 h=> ?_)))))))
   ·refine aS h (fun hb15 h=> ?_) (fun hb15 h=> ?_)
    ·refine GCe 2 h (fun h=> ?_)
     exact eN h (gg [] [57])
    refine GCe 2 h (fun h=> ?_)
    exact eN h (gg [] [57])
   refine aM (aA (Ge ?_))
   exact eB h (gg [] [0])
  refine aH (bM ?_)
  exact eX h (gg [] [0])
 refine aJ (aA ?_)
 obtain⟨r8,q6,h⟩:=aD h
 refine GP 2 (eU false true q6) (aC (G (aF (oH h (fun v31=>aN [(5,.i64 (IntKind.i64.wrap ((1:Int)+(IntKind.i64.wrap (Int.tmod d1 (5:Int)))))),(9,.sl 0),(12,.p false (.slice (.int .u8)) r8),(13,.i64 v31)] [(0,.arr 3 (.int .i64) v12)] 1) (fS (gW Tryd.f7.ntmps 4 (fun _=>aN [(9,.sl 0),(12,.p false (.slice (.int .u8)) r8)] [(0,.arr 3 (.int .i64) v12)] 1)) (nE tb Tryd.f7.results.toList (fun r9=>[⟨.bool,r9⟩]))) (gg [] [0]) (fun v31 o h=> ?_) (fun r10 h e σ' hq=> ?_)))))
 ·unfold bU at h
  refine aC (G (aS h (fun hb54 h=> ?_) (fun hb54 h=> ?_)))
  ·refine aB (aA (aC (aF (G (aC (aF (hU h (fun v35=>aN [(5,.i64 (IntKind.i64.wrap ((1:Int)+(IntKind.i64.wrap (Int.tmod d1 (5:Int)))))),(9,.sl 0),(12,.p false (.slice (.int .u8)) r8),(13,.i64 v31),(14,.i64 v35)] [(0,.arr 3 (.int .i64) v12)] 1) 6 (fun v36=>aN [(5,.i64 (IntKind.i64.wrap ((1:Int)+(IntKind.i64.wrap (Int.tmod d1 (5:Int)))))),(9,.sl 0),(12,.p false (.slice (.int .u8)) r8),(13,.i64 v31),(14,.i64 v36)] [(0,.arr 3 (.int .i64) v12)] 1) (gg [] [0]) (fun v35 o h=> ?_) (fun v36 h=> ?_))))))))
   ·unfold bI at h
    refine aC (aC (fA h (fun v37=>aN [(5,.i64 (IntKind.i64.wrap ((1:Int)+(IntKind.i64.wrap (Int.tmod d1 (5:Int)))))),(9,.sl 0),(12,.p false (.slice (.int .u8)) r8),(13,.i64 v31),(14,.i64 v35),(75,.bo v37)] [(0,.arr 3 (.int .i64) v12)] 1) (fun v37 h=> ?_) (fun v37 h=> ?_)))
    ·rcases bY h with⟨hb65,h⟩ | ⟨hb65,h⟩
     ·obtain⟨c109,c110,h⟩:=g2 h
      refine gA ⟨[(3,true),(12,true)],[]⟩ [(4,8,an hb65),(9,9,oc (And.intro hb65 c109)),(10,10,oc (And.intro hb65 c110)),(11,11,an hb65),(12,12,oc hb65)] ?_
      exact eN h (gg [] [0])
     refine gA ⟨[(3,false),(12,false)],[]⟩ [(4,12,oc hb65)] ?_
     exact eN h (gg [] [0])
    refine aA (aS h (fun hb66 h=> ?_) (fun hb66 h=> ?_))
    ·refine aB (aA (aF (Ge (aM ?_))))
     exact eB h (gg [] [0])
    refine aH (bM ?_)
    exact eX h (gg [] [0])
   refine aJ (aA (G (aC (aC (fA h (fun v38=>aN [(5,.i64 (IntKind.i64.wrap ((1:Int)+(IntKind.i64.wrap (Int.tmod d1 (5:Int)))))),(9,.sl 0),(12,.p false (.slice (.int .u8)) r8),(13,.i64 v31),(15,.u8 (2:Int)),(87,.bo v38)] [(0,.arr 3 (.int .i64) v12)] 1) (fun v38 h=> ?_) (fun v38 h=> ?_))))))
   ·obtain⟨c115,c116,h⟩:=g2 h
    rcases bY h with⟨hb69,h⟩ | ⟨hb69,h⟩
    ·refine gA ⟨[(5,true),(9,true)],[]⟩ [(2,2,oc c115),(3,3,oc c116),(6,8,an hb69),(9,9,oc hb69)] ?_
     exact eN h (gg [] [0])
    refine gA ⟨[(5,false),(9,false)],[]⟩ [(2,2,oc c115),(3,3,oc c116),(6,9,oc hb69)] ?_
    exact eN h (gg [] [0])
   refine aA (fA h (fun v39=>aN [(5,.i64 (IntKind.i64.wrap ((1:Int)+(IntKind.i64.wrap (Int.tmod d1 (5:Int)))))),(9,.sl 0),(12,.p false (.slice (.int .u8)) r8),(13,.i64 v31),(15,.u8 v39)] [(0,.arr 3 (.int .i64) v12)] 1) (fun v39 h=> ?_) (fun v39 h=> ?_))
   ·refine aS h (fun hb71 h=> ?_) (fun hb71 h=> ?_)
    ·refine Ge ?_
     exact eN h (gg [] [0])
    refine aB ?_
    exact eN h (gg [] [0])
   refine aA (GC 2 h (fun h=>aS h (fun hb72 h=> ?_) (fun hb72 h=> ?_)))
   ·refine G (aV ?_)
    obtain rfl:=sI h
    refine aT (aG (d9 (aR ?_)))
    exact gH (aK [.bool] (by kernel_rfl))
   refine aB (aM (aA (Ge ?_)))
   exact eB h (gg [] [0])
  refine aH (bM ?_)
  obtain rfl:=sI h
  refine gE (b5 ?_)
  exact dB (gg [] [0])
 rcases r10 with _ | r9
 ·obtain⟨rfl,hle⟩:=hq
  refine fG ?_ hle
  refine aJ (aA (G (aV ?_)))
  obtain rfl:=sI h
  exact aK [.bool] (by kernel_rfl)
 obtain⟨rfl,hr⟩:=hq
 refine aT (aG ?_)
 obtain rfl:=sI h
 exact hr
end
end Go.Proofs.YtacpjjgochokcaaDoor.T
namespace Go.Proofs.YtacpjjgochokcaaDoor.T
open Go Go.Tv Go.Proofs
abbrev pP(s:Int):Tree:= .node 1 s []
theorem o6{s:Int}{w:Wd}:Lg (pP s) w↔∃c,w=[c]∧w5 s c:=by
 simp only[Lg,if_true]
theorem zK(s:Int):∀(k:Nat) (w:Wd),w9 (List.replicate k (pP s)) w↔w.length=k∧∀c∈w,w5 s c
 | 0,w=>by
  simp only[List.replicate_zero,w9]
  constructor
  ·rintro rfl;exact⟨rfl,fun c hc=>by cases hc⟩
  ·rintro⟨h,_⟩;exact List.eq_nil_of_length_eq_zero h
 | k+1,w=>by
  simp only[List.replicate_succ,w9]
  constructor
  ·rintro⟨u,v,rfl,h1,h2⟩
   obtain⟨c,rfl,hc⟩:=o6.1 h1
   obtain⟨h3,h4⟩:=(zK s k v).1 h2
   refine⟨by simp[h3],fun d hd=> ?_⟩
   rcases List.mem_append.1 hd with q | q
   ·rw[List.mem_singleton.1 q];exact hc
   ·exact h4 d q
  ·rintro⟨h1,h2⟩
   match w,h1 with
   | c::v,h1=>exact⟨[c],v,rfl,o6.2 ⟨c,rfl,h2 c (.head _)⟩,(zK s k v).2 ⟨by simpa using h1,fun d hd=>h2 d (.tail _ hd)⟩⟩
def zR(k:Nat):Tree:=if k=1 then pP 1 else .node 2 0 (List.replicate k (pP 1))
theorem N3{k:Nat}{w:Wd}:Lg (zR k) w↔w.length=k∧∀c∈w,w5 1 c:=by
 unfold zR
 split
 ·rename_i e
  subst e
  rw[o6]
  constructor
  ·rintro⟨c,rfl,hc⟩;exact⟨rfl,fun d hd=>by rw[List.mem_singleton.1 hd];exact hc⟩
  ·rintro⟨h1,h2⟩
   match w,h1 with
   | [c],_=>exact⟨c,rfl,h2 c (.head _)⟩
 ·rw[←zK 1 k w]
  simp[Lg]
def qB(k:Nat):RR:=([[65],[66]],0,0,[0,1],[(0,zR k,pP 2),(2,pP 3,pP 3)])
def nS:Nat→List UInt8
 | 0=>[]
 | k+1=>nS k++[65,32]
abbrev rB:List UInt8:=[99,108,97,115,115,32,65,32,66,59,32,107,101,101,112,32]
abbrev xD:List UInt8:=[47,32,66,59,32,109,117,115,116,32,46,32,47,32,46,59]
theorem vD:∀k,(nS k).length=2*k
 | 0=>rfl
 | k+1=>by simp only[nS,List.length_append,vD k,List.length_cons,List.length_nil];omega
theorem mS{s:Int}(h:U32 s)(d:Nat):Tok (d+1) (pP s):=⟨h,by simp[Tree.kids],fun k hk=>by simp[Tree.kids]at hk⟩
theorem U8{k:Nat}(h5:k≤5):Tok 100 (zR k):=by
 unfold zR
 split
 ·exact mS ⟨by decide,by decide⟩ _
 ·refine⟨U32.zero,by simp[Tree.kids];omega,fun t ht=> ?_⟩
  simp only[Tree.kids]at ht
  rw[List.eq_of_mem_replicate ht]
  exact mS ⟨by decide,by decide⟩ _
theorem aA4:∀k,k≤5→hH (zR k)≤100:=by
 intro k hk
 match k,hk with
 | 0,_=>decide +kernel
 | 1,_=>decide +kernel
 | 2,_=>decide +kernel
 | 3,_=>decide +kernel
 | 4,_=>decide +kernel
 | 5,_=>decide +kernel
theorem G4{k:Nat}(h5:k≤5):Good (qB k):=by
 refine⟨show(1:Nat)≤2 by decide,show(2:Nat)≤24 by decide,U32.zero,U32.zero,rfl,fun c hc=> ?_,show(2:Nat)≤24 by decide,fun x hx=> ?_,?_,?_⟩
 ·show 0≤c∧c<2
  simp only[qB,List.mem_cons,List.not_mem_nil,or_false]at hc
  rcases hc with rfl | rfl <;> exact⟨by decide,by decide⟩
 ·simp only[qB,List.mem_cons,List.not_mem_nil,or_false]at hx
  rcases hx with rfl | rfl
  ·exact⟨U8 h5,mS ⟨by decide,by decide⟩ _⟩
  ·exact⟨mS ⟨by decide,by decide⟩ _,mS ⟨by decide,by decide⟩ _⟩
 ·have:=aA4 k h5
  show hH (zR k)+(hH (pP 3)+0)≤200
  have e:hH (pP 3)=1:=by decide +kernel
  omega
 ·show hH (pP 2)+(hH (pP 3)+0)≤200
  decide +kernel
set_option maxRecDepth 1000000 in
theorem aAU:((List.range 5).all fun m=>decide (((cS (rB++nS (m+1)++xD)).map fun q=>q.2)=some (0,0)) && decide ((fP (rB++nS (m+1)++xD)).map (fun q=>q.2.1)=some 0))=true:=by kernel_rfl
set_option maxRecDepth 1000000 in
theorem aB4:cS (rB++nS 1++xD)=some (qB 1,0,0):=by kernel_rfl
set_option maxRecDepth 1000000 in
theorem aCf:cS (rB++nS 2++xD)=some (qB 2,0,0):=by kernel_rfl
set_option maxRecDepth 1000000 in
theorem aCc:cS (rB++nS 3++xD)=some (qB 3,0,0):=by kernel_rfl
set_option maxRecDepth 1000000 in
theorem aB1:cS (rB++nS 4++xD)=some (qB 4,0,0):=by kernel_rfl
set_option maxRecDepth 1000000 in
theorem aCi:cS (rB++nS 5++xD)=some (qB 5,0,0):=by kernel_rfl
theorem S0:∀k,1≤k→k≤5→cS (rB++nS k++xD)=some (qB k,0,0)
 | 1,_,_=>aB4
 | 2,_,_=>aCf
 | 3,_,_=>aCc
 | 4,_,_=>aB1
 | 5,_,_=>aCi
theorem aAB{k:Nat}(h1:1≤k)(h5:k≤5):∃A B,fP (rB++nS k++xD)=some ((some (qB k,A,B):MA),0,0)∧aBd (qB k) A B:=by
 have a:=List.all_eq_true.mp aAU (k - 1) (List.mem_range.mpr (by omega))
 rw[show k - 1+1=k by omega]at a
 simp only[Bool.and_eq_true,decide_eq_true_eq]at a
 rcases aAP (G4 h5) (S0 k h1 h5)with⟨q,_⟩ | q
 ·rw[q]at a
  exact absurd a.2 (by simp)
 ·exact q
def mJ(l:List Bool):List Int:=l.map fun b=>if b then 0 else 1
theorem D6(l:List Bool):(mJ l).length=l.length:=by simp[mJ]
theorem aA7{l:List Bool}{i:Nat}(h:i<l.length):(mJ l).getD i 0=0∨(mJ l).getD i 0=1:=by
 unfold mJ
 rw[cI (by simpa using h),List.getElem_map]
 cases l[i] <;> simp
theorem aCq(d1:Int){k:Nat}(hd:IntKind.i64.wrap (1+IntKind.i64.wrap (Int.tmod d1 5))=(k:Int))(hk:k≤5):iter (bT d1) (rB,0)=some (rB++nS k):=by
 have:=b8 (body:=bT d1) (fun j=>(rB++nS j,(j:Int))) k (r:=rB++nS k) (fun j hj=> ?_) ?_
 ·exact this
 ·have hl:=vD j
  unfold bT
  dsimp only
  rw[hd,if_pos (by simp;omega),if_pos (by simp only[List.length_append,hl,List.length_cons,List.length_nil];omega),dV (by omega)]
  simp only[nS,List.append_assoc]
 ·unfold bT
  dsimp only
  rw[hd,if_neg (by simp)]
theorem aCk{l:List Bool}(hl:l.length≤200):iter (bR l) ([],0)=some (mJ l):=by
 have e:(mJ l).take l.length=mJ l:=List.take_of_length_le (by rw[D6];omega)
 have:=b8 (body:=bR l) (fun j=>((mJ l).take j,(j:Int))) l.length (r:=mJ l) (fun j hj=> ?_) ?_
 ·exact this
 ·have hs:(mJ l).take (j+1)=(mJ l).take j++[if l.getD j false then 0 else 1]:=by
   unfold mJ
   rw[kX _ hj false]
  unfold bR
  dsimp only
  rw[if_pos (by simp;omega),if_pos (by omega),Int.toNat_natCast,dV (by omega),hs]
  have hlt:((mJ l).take j).length≤200:=by rw[List.length_take];omega
  cases l.getD j false with
  | true =>
   rw[if_pos rfl,if_pos (by simp only[List.length_cons,List.length_nil];omega)]
   rfl
  | false =>
   rw[if_neg (by decide),if_pos (by simp only[List.length_cons,List.length_nil];omega)]
   rfl
 ·unfold bR
  dsimp only
  rw[if_neg (by simp),e]
theorem A9{r:RR}{w:List Int}(h0:r.2.2.1=0)(ht:∀k,k<w.length→r.2.2.2.1.getD (Q3 r.1.length (w.getD k 0)).toNat 0=w.getD k 0):∀k,k≤w.length→sg r w k=(List.range k,w.take k,false)
 | 0,_=>rfl
 | k+1,hk=>by
  simp only[sg]
  rw[A9 h0 ht k (by omega),ht k (by omega),eP (d:=0) (by omega),List.range_succ,h0]
  have:bt 0 (Q3 r.1.length (w.getD k 0)).toNat=false:=by simp[bt]
  rw[this]
  rfl
theorem V5{r:RR}{w:List Int}(h0:r.2.2.1=0)(ht:∀k,k<w.length→r.2.2.2.1.getD (Q3 r.1.length (w.getD k 0)).toNat 0=w.getD k 0):mL r w=List.range w.length∧kD r w=w:=by
 unfold mL kD
 rw[A9 h0 ht _ (Nat.le_refl _)]
 exact⟨rfl,List.take_length⟩
theorem Spec.plain{r:RR}{w o:List Int}(h:Spec r w o)(h0:r.2.2.1=0)(ht:∀k,k<w.length→r.2.2.2.1.getD (Q3 r.1.length (w.getD k 0)).toNat 0=w.getD k 0):(∀k,1≤k→k<w.length→Dec r.2.2.2.2 (w.take k) (w.drop k) (o.getD k 0))∧(0<w.length→o.getD 0 0=0):=by
 obtain⟨e1,e2⟩:=V5 h0 ht
 have hrg:∀j,j<w.length→(List.range w.length).getD j 0=j:=fun j hj=>by simp[hj]
 refine⟨fun k k1 k2=> ?_,fun hw=>h.oth 0 hw fun k k1 k2=> ?_⟩
 ·have:=h.dec k k1 (by rw[e1,List.length_range];exact k2)
  rwa [e1,e2,hrg k k2]at this
 ·rw[e1]at k2 ⊢
  rw[List.length_range]at k2
  rw[hrg k k2];omega
theorem aCF{w:List Int}(hw:w.length≤200){i:Nat}(hi:i<w.length):∃m:Nat,iter (bI w (i:Int)) 0=some (m:Int)∧m≤i∧(∀j,j<m→w.getD (i - 1 - j) 0=0)∧(m=i∨w.getD (i - 1 - m) 0≠0):=by
 have key:∃q,iter (bI w (i:Int)) 0=some q∧∃m:Nat,q=(m:Int)∧m≤i∧(∀j,j<m→w.getD (i - 1 - j) 0=0)∧(m=i∨w.getD (i - 1 - m) 0≠0):=by
  refine bS (I:=fun s=>∃m:Nat,s=(m:Int)∧m≤i∧∀j,j<m→w.getD (i - 1 - j) 0=0) (μ:=fun s=>i - s.toNat) _ ?_ ⟨0,rfl,Nat.zero_le _,fun j hj=>absurd hj (by omega)⟩
  rintro s ⟨m,rfl,hm,hj⟩
  by_cases hlt:m<i
  ·have e:IntKind.i64.wrap (IntKind.i64.wrap ((i:Int) - 1) - (m:Int))=((i - 1 - m:Nat):Int):=by
    rw[aY (x:=(i:Int) - 1) (by omega) (by omega),aY (by omega) (by omega)];omega
   by_cases hz:w.getD (i - 1 - m) 0=0
   ·refine .inl ⟨((m+1:Nat):Int),?_,⟨m+1,rfl,hlt,fun j h1=> ?_⟩,by simp only[Int.toNat_natCast];omega⟩
    ·unfold bI
     rw[if_pos (by simp;omega),e,if_pos (by omega),Int.toNat_natCast,if_pos (by omega),hz,dV (by omega)]
     rfl
    ·by_cases e2:j=m
     ·rw[e2];exact hz
     ·exact hj j (by omega)
   ·refine .inr ⟨_,?_,m,rfl,hm,hj,.inr hz⟩
    unfold bI
    rw[if_pos (by simp;omega),e,if_pos (by omega),Int.toNat_natCast,if_pos (by omega),beq_eq_false_iff_ne.mpr hz]
    rfl
  ·refine .inr ⟨_,?_,m,rfl,hm,hj,.inl (by omega)⟩
   unfold bI
   rw[if_neg (by simp;omega)]
   rfl
 obtain⟨q,h1,m,rfl,h2⟩:=key
 exact⟨m,h1,h2⟩
theorem aC6(c:Int):w5 1 c↔c=0:=by
 unfold w5
 constructor
 ·rintro⟨h1,_,h3⟩
  have:(1:Int)=((2 ^ 0:Nat):Int):=rfl
  rw[this,zH]at h3
  have:=of_decide_eq_true h3
  omega
 ·rintro rfl;exact⟨by decide,by decide,by decide⟩
theorem aC9(c:Int):w5 2 c↔c=1:=by
 unfold w5
 constructor
 ·rintro⟨h1,_,h3⟩
  have:(2:Int)=((2 ^ 1:Nat):Int):=rfl
  rw[this,zH]at h3
  have:=of_decide_eq_true h3
  omega
 ·rintro rfl;exact⟨by decide,by decide,by decide⟩
theorem aDl{c:Int}(h:c=0∨c=1):w5 3 c:=by
 rcases h with rfl | rfl <;> exact⟨by decide,by decide,by decide⟩
end Go.Proofs.YtacpjjgochokcaaDoor.T
namespace Go.Proofs.YtacpjjgochokcaaDoor.T
open Go Go.Tv Go.Proofs
theorem G8{w:List Int}{i a t:Nat}(hi:i≤w.length)(ht:a+t<i):((w.take i).drop a).getD t 0=w.getD (a+t) 0:=by
 simp only[List.getD_eq_getElem?_getD,List.getElem?_drop,List.getElem?_take]
 rw[if_pos ht]
theorem B9{w:List Int}{i k:Nat}(h:k≤i)(hi:i≤w.length){P:Int→Prop}:(∀c∈(w.take i).drop (i - k),P c)↔∀j,j<k→P (w.getD (i - 1 - j) 0):=by
 have hl:((w.take i).drop (i - k)).length=k:=by simp;omega
 constructor
 ·intro hc j hj
  have:=hc _ (eC (d:=0) (show k - 1 - j<((w.take i).drop (i - k)).length by omega))
  rw[G8 hi (by omega),show i - k+(k - 1 - j)=i - 1 - j by omega]at this
  exact this
 ·intro hj c hc
  obtain⟨t,ht,rfl⟩:=List.getElem_of_mem hc
  have:=hj (k - 1 - t) (by omega)
  rw[show i - 1 - (k - 1 - t)=i - k+t by omega,←G8 hi (by omega),cI ht]at this
  exact this
theorem aBC{k:Nat}{w:List Int}(hw:∀i,i<w.length→w.getD i 0=0∨w.getD i 0=1){i m:Nat}(h1:1≤i)(hi:i<w.length)(hm:m≤i)(hj:∀j,j<m→w.getD (i - 1 - j) 0=0)(he:m=i∨w.getD (i - 1 - m) 0≠0):
  Dec (qB k).2.2.2.2 (w.take i) (w.drop i) (if w.getD i 0=1∧k≤m then 0 else 2):=by
 have hd:=lZ (d:=0) hi
 have hlen:(w.take i).length=i:=by rw[List.length_take];omega
 have hv:(w.drop i).take 1=[w.getD i 0]:=by rw[hd];rfl
 have hvl:1≤(w.drop i).length:=by rw[List.length_drop];omega
 have hu:(w.take i).drop (i - 1)=[w.getD (i - 1) 0]:=by
  have e:i - 1+1=i:=by omega
  have:=eP (d:=0) (show i - 1<w.length by omega)
  rw[e]at this
  rw[this,List.drop_append_of_le_length (by rw[List.length_take];omega),List.drop_of_length_le (by rw[List.length_take];omega)]
  rfl
 have hit0:Hit (0,zR k,pP 2) (w.take i) (w.drop i)↔w.getD i 0=1∧k≤m:=by
  constructor
  ·rintro⟨⟨a,a1,a2⟩,b,b1,b2⟩
   obtain⟨c1,c2⟩:=N3.1 a2
   obtain⟨c,d1,d2⟩:=o6.1 b2
   have hb:b=1:=by
    have:=congrArg List.length d1
    rw[List.length_take]at this
    simp only[List.length_singleton]at this
    omega
   subst hb
   rw[hv]at d1
   have hc:=(aC9 c).1 d2
   have hw1:w.getD i 0=1:=by cases d1;exact hc
   refine⟨hw1,?_⟩
   simp only[List.length_drop,hlen]at c1
   have ha:a=i - k:=by omega
   subst ha
   have c3:=(B9 (P:=w5 1) (by omega) (by omega)).1 c2
   rcases he with rfl | he
   ·omega
   ·rcases Nat.lt_or_ge m k with q | q
    ·exact absurd ((aC6 _).1 (c3 m q)) he
    ·exact q
  ·rintro⟨a1,a2⟩
   refine⟨⟨i - k,by omega,N3.2 ⟨by simp;omega,(B9 (P:=w5 1) (by omega) (by omega)).2 fun j q=>(aC6 _).2 (hj j (by omega))⟩⟩,1,hvl,?_⟩
   rw[hv]
   exact o6.2 ⟨_,rfl,(aC9 _).2 a1⟩
 have hit1:Hit (2,pP 3,pP 3) (w.take i) (w.drop i):=by
  refine⟨⟨i - 1,by omega,?_⟩,1,hvl,?_⟩
  ·rw[hu];exact o6.2 ⟨_,rfl,aDl (hw _ (by omega))⟩
  ·rw[hv];exact o6.2 ⟨_,rfl,aDl (hw _ hi)⟩
 by_cases hc:w.getD i 0=1∧k≤m
 ·rw[if_pos hc]
  exact .inl ⟨hit0.2 hc,rfl⟩
 ·rw[if_neg hc]
  exact .inr ⟨fun q=>hc (hit0.1 q),.inl ⟨hit1,rfl⟩⟩
theorem aCg{d1:Int}{k:Nat}(hd:IntKind.i64.wrap (1+IntKind.i64.wrap (Int.tmod d1 5))=(k:Int)){w o:List Int}(hl:w.length≤200)(hw:∀i,i<w.length→w.getD i 0=0∨w.getD i 0=1)(ho:o.length=w.length+1)
  (h:∀i,1≤i→i<w.length→Dec (qB k).2.2.2.2 (w.take i) (w.drop i) (o.getD i 0)):iter (bU d1 w o) 1=some (.inl ()):=by
 have key:∃q,iter (bU d1 w o) 1=some q∧q = .inl ():=by
  refine bS (I:=fun s=>∃i:Nat,s=(i:Int)∧1≤i) (μ:=fun s=>w.length+1 - s.toNat) _ ?_ ⟨1,rfl,Nat.le_refl _⟩
  rintro s ⟨i,rfl,h1⟩
  by_cases hi:i<w.length
  ·obtain⟨m,m1,m2,m3,m4⟩:=aCF hl hi
   have e:=(h i h1 hi).uniq (aBC (k:=k) hw h1 hi m2 m3 m4)
   refine .inl ⟨((i+1:Nat):Int),?_,⟨i+1,rfl,by omega⟩,by simp only[Int.toNat_natCast];omega⟩
   unfold bU
   rw[if_pos (by simp;omega),m1]
   simp only[Option.bind_some]
   rw[if_pos (by omega),Int.toNat_natCast,if_pos (by omega),hd,e]
   by_cases c1:w.getD i 0=1
   ·rw[if_pos (by rw[c1];rfl)]
    simp only[Option.bind_some]
    by_cases c2:k≤m
    ·rw[if_pos (by simp;omega),if_pos ⟨c1,c2⟩]
     simp only[Option.bind_some]
     rw[if_pos (by omega),if_neg (by simp),dV (by omega)]
    ·rw[if_neg (by simp;omega),if_neg (fun q=>c2 q.2)]
     simp only[Option.bind_some]
     rw[if_pos (by omega),if_neg (by simp),dV (by omega)]
   ·rw[if_neg (by rw[beq_iff_eq];exact c1),if_neg (fun q=>c1 q.1)]
    simp only[Option.bind_some,Bool.false_eq_true,if_false]
    rw[if_pos (by omega),if_neg (by simp),dV (by omega)]
  ·refine .inr ⟨_,?_,rfl⟩
   unfold bU
   rw[if_neg (by simp;omega)]
 obtain⟨q,h1,rfl⟩:=key
 exact h1
theorem S9{d1:Int}(hd:0≤d1∧d1<256)(l:List Bool):dK d1 l=some true:=by
 obtain⟨k,hk,k1,k5⟩:∃k:Nat,IntKind.i64.wrap (1+IntKind.i64.wrap (Int.tmod d1 5))=(k:Int)∧1≤k∧k≤5:=by
  have e:Int.tmod d1 5=d1 % 5:=Int.tmod_eq_emod_of_nonneg hd.1
  refine⟨1+(d1 % 5).toNat,?_,by omega,by omega⟩
  rw[e,aY (x:=d1 % 5) (by omega) (by omega),aY (by omega) (by omega)]
  omega
 unfold dK
 rw[aBE]
 simp only[Option.bind_some,Bool.not_true,Bool.false_eq_true,if_false]
 by_cases h200:l.length≤200
 ·have hl:=vD k
  rw[if_neg (by simp;omega),if_pos (by decide)]
  have q1:=aCq d1 hk k5
  rw[q1]
  simp only[Option.bind_some]
  rw[if_pos (by simp only[List.length_append,hl,List.length_cons,List.length_nil];omega)]
  obtain⟨A,B,q2,hM⟩:=aAB k1 k5
  have q2':fP (rB++nS k++xD)=some ((some (qB k,A,B):MA),0,0):=q2
  rw[q2']
  simp only[Option.bind_some]
  rw[if_neg (by decide),aCk h200]
  simp only[Option.bind_some]
  have hcl:=D6 l
  obtain⟨o,o1,o2⟩:=aA6 (G4 k5) hM (i1:=mJ l) (by omega)
  rw[o1]
  simp only[Option.bind_some]
  have hw:∀i,i<(mJ l).length→(mJ l).getD i 0=0∨(mJ l).getD i 0=1:=fun i hi=>aA7 (by omega)
  have hp:=(o2.plain rfl fun i hi=>by
   rcases hw i hi with e | e <;> rw[e] <;> rfl).1
  rw[aCg hk (by omega) hw o2.len hp]
  simp only[Option.bind_some]
  rw[o2.len,dV (by omega)]
  simp
 ·rw[if_pos (by simp;omega)]
end Go.Proofs.YtacpjjgochokcaaDoor.T
namespace Go.Proofs.YtacpjjgochokcaaDoor.T
open Go Go.Tv Go.Proofs
abbrev segFar_Ts:List Ty:=[(.int .u8),(.slice .bool)]
theorem segFar_all(x:Tup segFar_Ts)(hx:WfT segFar_Ts x):dK x.1 x.2.1=some true:=by
 obtain⟨n,l,u⟩:=x
 exact S9 ⟨hx.1.1,Int.lt_add_one_iff.mpr hx.1.2⟩ l
end Go.Proofs.YtacpjjgochokcaaDoor.T
