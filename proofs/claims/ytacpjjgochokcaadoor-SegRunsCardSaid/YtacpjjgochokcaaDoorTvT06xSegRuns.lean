/- Functions of the program as functions on data, and that the program's own come to them. -/
import Derived.Test.YtacpjjgochokcaaDoorTvT06x0
import Derived.Test.YtacpjjgochokcaaDoorTvT06xa
import Derived.Test.YtacpjjgochokcaaDoorTvT06xb
namespace Go.Proofs.YtacpjjgochokcaaDoor.T
open Go Go.Tv Go.Proofs
noncomputable section
set_option maxRecDepth 100000
set_option maxHeartbeats 4000000
def fH(a1 b1:List Bool):((List Bool)×Int)→Option (((List Bool)×Int)⊕(List Bool)):=fun(out4,i2) =>
 (if(decide (i2<(a1.length:Int)))=true then(((if 0≤i2∧i2<(a1.length:Int)then(if(a1.getD i2.toNat false)=true then(if 0≤i2∧i2<(out4.length:Int)then(if i2.toNat<out4.length then some ((out4.set i2.toNat true))else none)else none)
 else(if 0≤i2∧i2<(b1.length:Int)then(if 0≤i2∧i2<(out4.length:Int)then(if i2.toNat<out4.length then some ((out4.set i2.toNat (b1.getD i2.toNat false)))else none)else none)else none))else none)).bind fun out6=>some (Sum.inl (out6,(IntKind.i64.wrap (i2+(1:Int))))))
 else some (Sum.inr out4))
def eO(a1 b1:List Bool):Option (List Bool) :=
 (if 0≤(a1.length:Int)∧(a1.length:Int)≤(a1.length:Int)∧(1:Int)*(a1.length:Int)≤281474976710656∧(a1.length:Int)≤9223372036854775807 then((iter (fH a1 b1) ((List.replicate (a1.length:Int).toNat false),(0:Int))).bind fun out5=>some out5)else none)
theorem kN(β0 β1:Bool){a1:List Bool}{b1:List Bool}{res:List Bool}(h:eO a1 b1=some res):
  Pure Tryd.prog 47 [.p β0 (.slice .bool) a1,.p β1 (.slice .bool) b1] (bP (eR false [⟨(.slice .bool),res⟩])):=by
 refine Pure.of_body bF Tryd.func47 (by kernel_rfl) rfl (nl rfl) (fun Bw w0=> ?_) rfl
 unfold eO at h
 refine G (GC 2 h (fun h=>aC (G (aE (gG h (fun(out4,i2)=>aK [(0,.p β0 (.slice .bool) a1),(1,.p β1 (.slice .bool) b1),(5,.sl 0),(6,.i64 i2)] [(0,.arr 4 .bool out4)] 1) 0 (fun out5=>aK [(5,.sl 0)] [(0,.arr 4 .bool out5)] 1) (gg [] [24]) (fun y o h=> ?_) (fun out5 h=> ?_))))))
 ·obtain⟨out4,i2⟩:=y
  unfold fH at h
  refine aC (G (aP h (fun hb9 h=> ?_) (fun hb9 h=> ?_)))
  ·refine aB (aA (aC (aE (b9 h (fun out6=>aK [(0,.p β0 (.slice .bool) a1),(1,.p β1 (.slice .bool) b1),(5,.sl 0),(6,.i64 i2)] [(0,.arr 4 .bool out6)] 1) (fun out6 h=> ?_) (fun out6 h=> ?_)))))
   ·obtain⟨c51,h⟩:=aW h
    rcases bA h with⟨hb12,h⟩ | ⟨hb12,h⟩
    ·obtain⟨c52,c53,h⟩:=g2 h
     refine dA ⟨[(6,true),(11,true)],[]⟩ [(4,4,oc c51),(7,11,oc hb12),(12,12,oc c52),(13,13,oc c53)] ?_
     exact eN h (gg [] [0])
    obtain⟨c54,c55,c56,h⟩:=g3 h
    refine dA ⟨[(6,false),(11,false)],[]⟩ [(4,4,oc c51),(7,8,an hb12),(9,9,oc (And.intro hb12 c54)),(10,10,an hb12),(11,11,oc hb12),(12,12,oc c55),(13,13,oc c56)] ?_
    exact eN h (gg [] [0])
   refine aH (aA (Ge ?_))
   exact eB h (gg [] [0])
  refine aI (bE ?_)
  exact eX h (gg [] [0])
 refine aJ (aA (G (aS ?_)))
 obtain rfl:=sI h
 exact aL [(.slice .bool)] (by kernel_rfl)
def dW(a1 b1:List Bool):(Int)→Option ((Int)⊕((Unit)⊕(Bool))):=fun i2 =>
 (if(decide (i2<(a1.length:Int)))=true then(((if 0≤i2∧i2<(b1.length:Int)then(if(b1.getD i2.toNat false)=true then(if 0≤i2∧i2<(a1.length:Int)then some ((!(a1.getD i2.toNat false)))else none)
 else some (false))else none)).bind fun v3=>(if v3=true then some (Sum.inr (Sum.inr true))
 else some (Sum.inl (IntKind.i64.wrap (i2+(1:Int))))))
 else some (Sum.inr (Sum.inl ())))
def f6(a1 b1:List Bool):Option (Bool) :=
 ((iter (dW a1 b1) (0:Int)).bind fun(r2:((Unit)⊕(Bool)))=>match r2 with
 | .inl _=>some false
 | .inr (r1)=>some r1)
theorem vC(β0 β1:Bool){a1:List Bool}{b1:List Bool}{res:Bool}(h:f6 a1 b1=some res):
  Pure Tryd.prog 48 [.p β0 (.slice .bool) a1,.p β1 (.slice .bool) b1] (bP (eR false [⟨.bool,res⟩])):=by
 refine Pure.of_body bF Tryd.func48 (by kernel_rfl) rfl (nl rfl) (fun Bw w0=> ?_) rfl
 unfold f6 at h
 refine G (aC (G (aE (qQ h (fun i2=>aK [(0,.p β0 (.slice .bool) a1),(1,.p β1 (.slice .bool) b1),(5,.i64 i2)] [] 0) (gR (jL Tryd.f48.ntmps 0 (fun _=>aK [] [] 0)) (pS tb Tryd.f48.results.toList (fun r1=>[⟨.bool,r1⟩]))) (gg [] []) (fun i2 o h=> ?_) (fun r2 h e σ' hq=> ?_)))))
 ·unfold dW at h
  refine aC (G (aP h (fun hb11 h=> ?_) (fun hb11 h=> ?_)))
  ·refine aB (aA (aC (aE (aC (b9 h (fun v3=>aK [(0,.p β0 (.slice .bool) a1),(1,.p β1 (.slice .bool) b1),(5,.i64 i2),(22,.bo v3)] [] 0) (fun v3 h=> ?_) (fun v3 h=> ?_))))))
   ·obtain⟨c17,h⟩:=aW h
    rcases bA h with⟨hb14,h⟩ | ⟨hb14,h⟩
    ·obtain⟨c18,h⟩:=aW h
     refine dA ⟨[(4,true),(10,true)],[]⟩ [(2,2,oc c17),(5,6,an hb14),(7,7,oc (And.intro hb14 c18)),(8,9,an hb14),(10,10,oc hb14)] ?_
     exact eN h (gg [] [])
    refine dA ⟨[(4,false),(10,false)],[]⟩ [(2,2,oc c17),(5,10,oc hb14)] ?_
    exact eN h (gg [] [])
   refine aA (aP h (fun hb15 h=> ?_) (fun hb15 h=> ?_))
   ·refine G (aS ?_)
    obtain rfl:=sI h
    refine aQ (aG (dB (aY ?_)))
    exact g8 (aL [.bool] (by kernel_rfl))
   refine aB (aH (aA (Ge ?_)))
   exact eB h (gg [] [])
  refine aI (bE ?_)
  obtain rfl:=sI h
  refine gY (bO ?_)
  exact cU (gg [] [])
 rcases r2 with _ | r1
 ·obtain⟨rfl,hle⟩:=hq
  refine fQ ?_ hle
  refine aJ (aA (G (aS ?_)))
  obtain rfl:=sI h
  exact aL [.bool] (by kernel_rfl)
 obtain⟨rfl,hr⟩:=hq
 refine aQ (aG ?_)
 obtain rfl:=sI h
 exact hr
def dV(d2:Int)(i1:List Int)(x1:List Bool):((List Bool)×Int)→Option (((List Bool)×Int)⊕(List Bool)):=fun(v32,v33) =>
 (if(decide ((IntKind.i64.wrap (v33+(1:Int)))<(x1.length:Int)))=true then(((if 0≤v33∧v33<(x1.length:Int)then(if(x1.getD v33.toNat false)=true then(if 0≤v33∧v33<(i1.length:Int)then(if(decide ((i1.getD v33.toNat (0:Int))≥(0:Int)))=true then(if 0≤v33∧v33<(i1.length:Int)then(if(decide ((i1.getD v33.toNat (0:Int))<(32:Int)))=true then(if 0≤v33∧v33<(i1.length:Int)then(if 0≤(i1.getD v33.toNat (0:Int))then(if ¬(2:Int)=0 then(if 0≤(IntKind.i64.wrap (v33+(1:Int)))∧(IntKind.i64.wrap (v33+(1:Int)))<(v32.length:Int)then(if(IntKind.i64.wrap (v33+(1:Int))).toNat<v32.length then some ((v32.set ((IntKind.i64.wrap (v33+(1:Int))).toNat) ((Int.tmod (Int.fdiv d2 (2 ^ (min (i1.getD v33.toNat (0:Int)).toNat IntKind.u32.bits))) (2:Int)) == (1:Int))))else none)else none)else none)else none)else none)
 else(if 0≤(IntKind.i64.wrap (v33+(1:Int)))∧(IntKind.i64.wrap (v33+(1:Int)))<(v32.length:Int)then(if(IntKind.i64.wrap (v33+(1:Int))).toNat<v32.length then some ((v32.set ((IntKind.i64.wrap (v33+(1:Int))).toNat) false))else none)else none))else none)
 else(if 0≤(IntKind.i64.wrap (v33+(1:Int)))∧(IntKind.i64.wrap (v33+(1:Int)))<(v32.length:Int)then(if(IntKind.i64.wrap (v33+(1:Int))).toNat<v32.length then some ((v32.set ((IntKind.i64.wrap (v33+(1:Int))).toNat) false))else none)else none))else none)
 else(if 0≤(IntKind.i64.wrap (v33+(1:Int)))∧(IntKind.i64.wrap (v33+(1:Int)))<(v32.length:Int)then(if(IntKind.i64.wrap (v33+(1:Int))).toNat<v32.length then some ((v32.set ((IntKind.i64.wrap (v33+(1:Int))).toNat) false))else none)else none))else none)).bind fun v35=>some (Sum.inl (v35,(IntKind.i64.wrap (v33+(1:Int))))))
 else some (Sum.inr v32))
def fI(d3:List Tree)(i1:List Int)(rec_stanzaref04_Ends:Int→Int→(List Tree)→(List Int)→(List Bool)→Option (List Bool)):((List Bool)×Int)→Option (((List Bool)×Int)⊕(List Bool)):=fun(v38,v39) =>
 (if(decide (v39<(d3.length:Int)))=true then(if 0≤v39∧v39<(d3.length:Int)then((rec_stanzaref04_Ends ((d3.getD v39.toNat (Tree.node 0 0 [])).op) ((d3.getD v39.toNat (Tree.node 0 0 [])).set) ((d3.getD v39.toNat (Tree.node 0 0 [])).kids) i1 v38).bind fun r49 =>
 some (Sum.inl (r49,(IntKind.i64.wrap (v39+(1:Int))))))else none)
 else some (Sum.inr v38))
def fJ(d3:List Tree)(i1:List Int)(x1:List Bool)(rec_stanzaref04_Ends:Int→Int→(List Tree)→(List Int)→(List Bool)→Option (List Bool)):((List Bool)×Int)→Option (((List Bool)×Int)⊕(List Bool)):=fun(v43,v44) =>
 (if(decide (v44<(d3.length:Int)))=true then(if 0≤v44∧v44<(d3.length:Int)then((rec_stanzaref04_Ends ((d3.getD v44.toNat (Tree.node 0 0 [])).op) ((d3.getD v44.toNat (Tree.node 0 0 [])).set) ((d3.getD v44.toNat (Tree.node 0 0 [])).kids) i1 x1).bind fun r60 =>
 ((eO v43 r60).bind fun r61 =>
 some (Sum.inl (r61,(IntKind.i64.wrap (v44+(1:Int)))))))else none)
 else some (Sum.inr v43))
def fE(d3:List Tree)(i1:List Int)(rec_stanzaref04_Ends:Int→Int→(List Tree)→(List Int)→(List Bool)→Option (List Bool)):((List Bool)×List Bool)→Option (((List Bool)×List Bool)⊕(List Bool)):=fun(v51,v52) =>
 ((f6 v51 v52).bind fun r77 =>
 (if r77=true then((eO v51 v52).bind fun r79 =>
 (if 0≤(0:Int)∧(0:Int)<(d3.length:Int)then((rec_stanzaref04_Ends ((d3.getD ((0:Int).toNat) (Tree.node 0 0 [])).op) ((d3.getD ((0:Int).toNat) (Tree.node 0 0 [])).set) ((d3.getD ((0:Int).toNat) (Tree.node 0 0 [])).kids) i1 r79).bind fun r81 =>
 some (Sum.inl (r79,r81)))else none))
 else some (Sum.inr v51)))
def gB(rec_stanzaref04_Ends:Int→Int→(List Tree)→(List Int)→(List Bool)→Option (List Bool))(d1 d2:Int)(d3:List Tree)(i1:List Int)(x1:List Bool):Option (List Bool) :=
 (if 0≤(x1.length:Int)∧(x1.length:Int)≤(x1.length:Int)∧(1:Int)*(x1.length:Int)≤281474976710656∧(x1.length:Int)≤9223372036854775807 then(((if(d1 == (1:Int))=true then((iter (dV d2 i1 x1) ((List.replicate (x1.length:Int).toNat false),(0:Int))).bind fun v34=>some ((Sum.inl v34)))
 else(if(d1 == (2:Int))=true then((iter (fI d3 i1 rec_stanzaref04_Ends) ((x1.take (List.replicate (x1.length:Int).toNat false).length++(List.replicate (x1.length:Int).toNat false).drop x1.length),(0:Int))).bind fun v40=>some ((Sum.inl v40)))
 else(if(d1 == (3:Int))=true then((iter (fJ d3 i1 x1 rec_stanzaref04_Ends) ((List.replicate (x1.length:Int).toNat false),(0:Int))).bind fun v45=>some ((Sum.inl v45)))
 else(((if(d1 == (4:Int))=true then some ((d1 == (4:Int)))
 else some ((d1 == (5:Int))))).bind fun v46=>(if v46=true then(if((d3.length:Int) == (0:Int))=true then(((if(d1 == (4:Int))=true then some ((x1.take (List.replicate (x1.length:Int).toNat false).length++(List.replicate (x1.length:Int).toNat false).drop x1.length))
 else some ((List.replicate (x1.length:Int).toNat false)))).bind fun v47=>some ((Sum.inr v47)))
 else(((if(d1 == (4:Int))=true then some ((x1.take (List.replicate (x1.length:Int).toNat false).length++(List.replicate (x1.length:Int).toNat false).drop x1.length))
 else some ((List.replicate (x1.length:Int).toNat false)))).bind fun v48=>(if 0≤(0:Int)∧(0:Int)<(d3.length:Int)then((rec_stanzaref04_Ends ((d3.getD ((0:Int).toNat) (Tree.node 0 0 [])).op) ((d3.getD ((0:Int).toNat) (Tree.node 0 0 [])).set) ((d3.getD ((0:Int).toNat) (Tree.node 0 0 [])).kids) i1 x1).bind fun r63 =>
 ((iter (fE d3 i1 rec_stanzaref04_Ends) (v48,r63)).bind fun v53=>some ((Sum.inl v53))))else none)))
 else(if(d1 == (6:Int))=true then(if(decide ((d3.length:Int) > (0:Int)))=true then(if 0≤(0:Int)∧(0:Int)<(d3.length:Int)then((rec_stanzaref04_Ends ((d3.getD ((0:Int).toNat) (Tree.node 0 0 [])).op) ((d3.getD ((0:Int).toNat) (Tree.node 0 0 [])).set) ((d3.getD ((0:Int).toNat) (Tree.node 0 0 [])).kids) i1 x1).bind fun r84 =>
 ((eO (x1.take (List.replicate (x1.length:Int).toNat false).length++(List.replicate (x1.length:Int).toNat false).drop x1.length) r84).bind fun r85 =>
 some ((Sum.inl r85))))else none)
 else some ((Sum.inl (x1.take (List.replicate (x1.length:Int).toNat false).length++(List.replicate (x1.length:Int).toNat false).drop x1.length))))
 else some ((Sum.inl (x1.take (List.replicate (x1.length:Int).toNat false).length++(List.replicate (x1.length:Int).toNat false).drop x1.length)))))))))).bind fun(r86:((List Bool)⊕(List Bool)))=>match r86 with
 | .inl v27=>some v27
 | .inr (r43)=>some r43)else none)
def fY:Nat→Int→Int→(List Tree)→(List Int)→(List Bool)→Option (List Bool)
 | 0=>fun _ _ _ _ _=>none
 | n+1=>gB (fY n)
theorem sR(rec_stanzaref04_Ends:Int→Int→(List Tree)→(List Int)→(List Bool)→Option (List Bool))(hrec_stanzaref04_Ends:∀(β2 β3 β4:Bool) {d1:Int} {d2:Int} {d3:List Tree} {i1:List Int} {x1:List Bool} {res:List Bool},rec_stanzaref04_Ends d1 d2 d3 i1 x1=some res→Pure Tryd.prog 29 [.agg [.u8 d1,.u32 d2,.p β2 (.slice (.tree .u8 .u32)) d3],.p β3 (.slice (.int .i64)) i1,.p β4 (.slice .bool) x1] (bP (eR false [⟨(.slice .bool),res⟩])))(β2 β3 β4:Bool){d1:Int}{d2:Int}{d3:List Tree}{i1:List Int}{x1:List Bool}{res:List Bool}(h:gB rec_stanzaref04_Ends d1 d2 d3 i1 x1=some res):
  Pure Tryd.prog 29 [.agg [.u8 d1,.u32 d2,.p β2 (.slice (.tree .u8 .u32)) d3],.p β3 (.slice (.int .i64)) i1,.p β4 (.slice .bool) x1] (bP (eR false [⟨(.slice .bool),res⟩])):=by
 refine Pure.of_body bF Tryd.func29 (by kernel_rfl) rfl (nl rfl) (fun Bw w0=> ?_) rfl
 unfold gB at h
 refine G (GC 2 h (fun h=>aC (G (aE (G (aH1 h (gR (yW Tryd.f29.ntmps (fun v27=>aK [(7,.p false (.slice .bool) v27)] [] 0)) (pS tb Tryd.f29.results.toList (fun r43=>[⟨(.slice .bool),r43⟩]))) (fun r86 h=> ?_) (fun r86 h e σ' hq=> ?_)))))))
 ·refine aP h (fun hb53 h=> ?_) (fun hb53 h=> ?_)
  ·refine G (aE (gG h (fun(v32,v33)=>aK [(1,.p β3 (.slice (.int .i64)) i1),(2,.p β4 (.slice .bool) x1),(3,.adr 0 0 3 0),(7,.sl 1),(8,.i64 v33)] (X0 d1 d2 β2 d3 v32) 2) 1 (fun v34=>aK [(7,.sl 0)] [(0,.arr 4 .bool v34)] 1) (gg [] [0,32]) (fun y o h=> ?_) (fun v34 h=> ?_)))
   ·obtain⟨v32,v33⟩:=y
    unfold dV at h
    refine aC (G (aP h (fun hb74 h=> ?_) (fun hb74 h=> ?_)))
    ·refine aB (aA (aC (aE (b9 h (fun v35=>aK [(1,.p β3 (.slice (.int .i64)) i1),(2,.p β4 (.slice .bool) x1),(3,.adr 0 0 3 0),(7,.sl 1),(8,.i64 v33)] (X0 d1 d2 β2 d3 v35) 2) (fun v35 h=> ?_) (fun v35 h=> ?_)))))
     ·obtain⟨c263,h⟩:=aW h
      rcases bA h with⟨hb81,h⟩ | ⟨hb81,h⟩
      ·obtain⟨c264,h⟩:=aW h
       rcases bA h with⟨hb82,h⟩ | ⟨hb82,h⟩
       ·obtain⟨c265,h⟩:=aW h
        rcases bA h with⟨hb83,h⟩ | ⟨hb83,h⟩
        ·obtain⟨c266,c267,c268,c269,h⟩:=g4 h
         obtain⟨c270,h⟩:=aW h
         refine sP ⟨[(7,true),(13,true),(14,true),(20,true),(21,true),(31,true)],[]⟩ [(5,5,oc c263),(8,9,an hb81),(10,10,oc (And.intro hb81 c264)),(11,12,an hb81),(13,13,oc hb81),(15,16,an hb82),(17,17,oc (And.intro hb82 c265)),(18,19,an hb82),(20,20,oc hb82),(22,25,an hb83),(26,26,oc (And.intro hb83 c266)),(27,27,an hb83),(28,28,oc (And.intro hb83 c267)),(29,29,oc (And.intro hb83 c268)),(30,30,an hb83),(31,31,oc hb83),(32,32,oc c269),(33,33,oc c270)] ?_
         exact eN h (gg [] [0,1])
        obtain⟨c271,c272,h⟩:=g2 h
        refine sP ⟨[(7,true),(13,true),(14,true),(20,true),(21,false),(31,false)],[]⟩ [(5,5,oc c263),(8,9,an hb81),(10,10,oc (And.intro hb81 c264)),(11,12,an hb81),(13,13,oc hb81),(15,16,an hb82),(17,17,oc (And.intro hb82 c265)),(18,19,an hb82),(20,20,oc hb82),(22,31,oc hb83),(32,32,oc c271),(33,33,oc c272)] ?_
        exact eN h (gg [] [0,1])
       obtain⟨c273,c274,h⟩:=g2 h
       refine sP ⟨[(7,true),(13,true),(14,false),(20,false)],[]⟩ [(5,5,oc c263),(8,9,an hb81),(10,10,oc (And.intro hb81 c264)),(11,12,an hb81),(13,13,oc hb81),(15,20,oc hb82),(32,32,oc c273),(33,33,oc c274)] ?_
       exact eN h (gg [] [0,1])
      obtain⟨c275,c276,h⟩:=g2 h
      refine sP ⟨[(7,false),(13,false)],[]⟩ [(5,5,oc c263),(8,13,oc hb81),(32,32,oc c275),(33,33,oc c276)] ?_
      exact eN h (gg [] [0,1])
     refine aH (aA (Ge ?_))
     exact eB h (gg [] [0,1])
    refine aI (bE ?_)
    exact eX h (gg [] [1])
   refine aJ ?_
   obtain rfl:=sI h
   refine bO ?_
   exact fO (gg [.frzS 7] [])
  refine G (aP h (fun hb84 h=> ?_) (fun hb84 h=> ?_))
  ·refine G (G (aE (gG h (fun(v38,v39)=>aK [(1,.p β3 (.slice (.int .i64)) i1),(3,.adr 0 0 3 0),(7,.p false (.slice .bool) v38),(9,.i64 v39)] (aE1 d1 d2 β2 d3) 1) 3 (fun v40=>aK [(7,.p false (.slice .bool) v40)] [] 0) (gg [.frzS 7] [0]) (fun y o h=> ?_) (fun v40 h=> ?_))))
   ·obtain⟨v38,v39⟩:=y
    unfold fI at h
    refine aC (G (aP h (fun hb87 h=> ?_) (fun hb87 h=> ?_)))
    ·refine aB (aA (aC (aE ?_)))
     obtain⟨c282,h⟩:=aW h
     obtain⟨r49,q48,h⟩:=aD h
     have u_1:=(hrec_stanzaref04_Ends β2 β3 false q48)
     refine dA ⟨[],[(7,(oP u_1))]⟩ [(3,3,oc c282),(7,7,oc u_1)] (aH (aA (Ge ?_)))
     exact eB h (gg [] [0])
    refine aI (bE ?_)
    exact eX h (gg [] [])
   refine aJ ?_
   obtain rfl:=sI h
   refine bO ?_
   exact fO (gg [] [])
  refine G (aP h (fun hb88 h=> ?_) (fun hb88 h=> ?_))
  ·refine G (aE (gG h (fun(v43,v44)=>aK [(1,.p β3 (.slice (.int .i64)) i1),(2,.p β4 (.slice .bool) x1),(3,.adr 0 0 3 0),(7,.p false (.slice .bool) v43),(10,.i64 v44)] (aE1 d1 d2 β2 d3) 1) 5 (fun v45=>aK [(7,.p false (.slice .bool) v45)] [] 0) (gg [.frzS 7] [0]) (fun y o h=> ?_) (fun v45 h=> ?_)))
   ·obtain⟨v43,v44⟩:=y
    unfold fJ at h
    refine aC (G (aP h (fun hb91 h=> ?_) (fun hb91 h=> ?_)))
    ·refine aB (aA (aC (aE ?_)))
     obtain⟨c288,h⟩:=aW h
     obtain⟨r60,q59,h⟩:=aD h
     obtain⟨r61,q60,h⟩:=aD h
     have u_1:=(hrec_stanzaref04_Ends β2 β3 β4 q59)
     have u_2:=(kN false false q60)
     refine dA ⟨[],[(8,(oP u_1)),(9,(oP u_2))]⟩ [(4,4,oc c288),(8,8,oc u_1),(9,9,oc u_2)] (aH (aA (Ge ?_)))
     exact eB h (gg [] [0])
    refine aI (bE ?_)
    exact eX h (gg [] [])
   refine aJ ?_
   obtain rfl:=sI h
   refine bO ?_
   exact fO (gg [] [])
  refine aC (G (b9 h (fun v46=>aK [(1,.p β3 (.slice (.int .i64)) i1),(2,.p β4 (.slice .bool) x1),(3,.adr 0 0 3 0),(7,.sl 1),(16,.u8 d1),(101,.bo v46)] (X0 d1 d2 β2 d3 (List.replicate (x1.length:Int).toNat false)) 2) (fun v46 h=> ?_) (fun v46 h=> ?_)))
  ·refine aP h (fun hb93 h=> ?_) (fun hb93 h=> ?_)
   ·refine aB ?_
    exact eN h (gg [] [0,32])
   refine Ge ?_
   exact eN h (gg [] [0,32])
  refine aA (aP h (fun hb94 h=> ?_) (fun hb94 h=> ?_))
  ·refine aC (G (aP h (fun hb95 h=> ?_) (fun hb95 h=> ?_)))
   ·refine aC (G (b9 h (fun v47=>aK [(7,.sl 0)] [(0,.arr 4 .bool v47)] 1) (fun v47 h=> ?_) (fun v47 h=> ?_)))
    ·refine aP h (fun hb97 h=> ?_) (fun hb97 h=> ?_)
     ·refine Ge ?_
      exact eN h (gg [] [1])
     refine aB ?_
     exact eN h (gg [] [1])
    refine aA (G (aS ?_))
    obtain rfl:=sI h
    refine aG (aY ?_)
    exact g8 (aL [(.slice .bool)] (by kernel_rfl))
   refine aB (aA (aC (G (b9 h (fun v48=>aK [(1,.p β3 (.slice (.int .i64)) i1),(2,.p β4 (.slice .bool) x1),(3,.adr 0 0 3 0),(7,.sl 1)] (X0 d1 d2 β2 d3 v48) 2) (fun v48 h=> ?_) (fun v48 h=> ?_)))))
   ·refine aP h (fun hb99 h=> ?_) (fun hb99 h=> ?_)
    ·refine Ge ?_
     exact eN h (gg [] [0,1])
    refine aB ?_
    exact eN h (gg [] [0,1])
   refine aA ?_
   obtain⟨c290,h⟩:=aW h
   obtain⟨r63,q62,h⟩:=aD h
   have u_1:=(hrec_stanzaref04_Ends β2 β3 β4 q62)
   refine GN ⟨[],[(6,(oP u_1))]⟩ [(2,2,oc c290),(6,6,oc u_1)] (aE (gG h (fun(v51,v52)=>aK [(1,.p β3 (.slice (.int .i64)) i1),(3,.adr 0 0 3 0),(7,.p false (.slice .bool) v51),(11,.p false (.slice .bool) v52)] (aE1 d1 d2 β2 d3) 1) 7 (fun v53=>aK [(7,.p false (.slice .bool) v53)] [] 0) (gg [.frzS 7] [0]) (fun y o h=> ?_) (fun v53 h=> ?_)))
   ·obtain⟨v51,v52⟩:=y
    unfold fE at h
    refine aC ?_
    obtain⟨r77,q76,h⟩:=aD h
    refine GP 2 (vC false false q76) (aP h (fun hb102 h=> ?_) (fun hb102 h=> ?_))
    ·refine aB (aA (aE ?_))
     obtain⟨r79,q78,h⟩:=aD h
     refine GP 2 (kN false false q78) ?_
     obtain⟨c296,h⟩:=aW h
     obtain⟨r81,q80,h⟩:=aD h
     have u_1:=(hrec_stanzaref04_Ends β2 β3 false q80)
     refine dA ⟨[],[(6,(oP u_1))]⟩ [(2,2,oc c296),(6,6,oc u_1)] (aH ?_)
     exact eB h (gg [] [0])
    refine aI (bE ?_)
    exact eX h (gg [] [])
   refine aJ ?_
   obtain rfl:=sI h
   refine bO ?_
   exact fO (gg [] [])
  refine G (aP h (fun hb103 h=> ?_) (fun hb103 h=> ?_))
  ·refine G (G (aP h (fun hb104 h=> ?_) (fun hb104 h=> ?_)))
   ·obtain⟨c298,h⟩:=aW h
    obtain⟨r84,q83,h⟩:=aD h
    obtain⟨r85,q84,h⟩:=aD h
    have u_1:=(hrec_stanzaref04_Ends β2 β3 β4 q83)
    have u_2:=(kN true false q84)
    refine dA ⟨[],[(7,(oP u_1)),(8,(oP u_2))]⟩ [(3,3,oc c298),(7,7,oc u_1),(8,8,oc u_2)] ?_
    obtain rfl:=sI h
    refine bO ?_
    exact fO (gg [] [])
   refine aB ?_
   obtain rfl:=sI h
   refine bO ?_
   exact fO (gg [.frzS 7] [])
  refine Ge ?_
  obtain rfl:=sI h
  refine bO ?_
  exact fO (gg [.frzS 7] [])
 rcases r86 with v27 | r43
 ·obtain⟨rfl,hle⟩:=hq
  refine fQ ?_ hle
  refine aH (aA (G (aS ?_)))
  obtain rfl:=sI h
  exact aL [(.slice .bool)] (by kernel_rfl)
 obtain⟨rfl,hr⟩:=hq
 refine aQ (aG ?_)
 obtain rfl:=sI h
 exact hr
theorem kM:∀(n:Nat) (β2 β3 β4:Bool) {d1:Int} {d2:Int} {d3:List Tree} {i1:List Int} {x1:List Bool} {res:List Bool},fY n d1 d2 d3 i1 x1=some res→Pure Tryd.prog 29 [.agg [.u8 d1,.u32 d2,.p β2 (.slice (.tree .u8 .u32)) d3],.p β3 (.slice (.int .i64)) i1,.p β4 (.slice .bool) x1] (bP (eR false [⟨(.slice .bool),res⟩]))
 | 0,_,_,_,_,_,_,_,_,_,h=>by cases h
 | n+1,β2,β3,β4,d1,d2,d3,i1,x1,res,h=>sR (fY n) (kM n) β2 β3 β4 h
def eE  : ((List Bool)×Int)→Option (((List Bool)×Int)⊕(List Bool)):=fun(from2,i2) =>
 (if(decide (i2<(from2.length:Int)))=true then(if 0≤i2∧i2<(from2.length:Int)then(if i2.toNat<from2.length then some (Sum.inl ((from2.set i2.toNat true),(IntKind.i64.wrap (i2+(1:Int)))))else none)else none)
 else some (Sum.inr from2))
def gC(e1 e2:Int)(e3:List Tree)(classes1:List Int):Option (Bool) :=
 (if 0≤(IntKind.i64.wrap ((classes1.length:Int)+(1:Int)))∧(IntKind.i64.wrap ((classes1.length:Int)+(1:Int)))≤(IntKind.i64.wrap ((classes1.length:Int)+(1:Int)))∧(1:Int)*(IntKind.i64.wrap ((classes1.length:Int)+(1:Int)))≤281474976710656∧(IntKind.i64.wrap ((classes1.length:Int)+(1:Int)))≤9223372036854775807 then((iter (eE) ((List.replicate (IntKind.i64.wrap ((classes1.length:Int)+(1:Int))).toNat false),(0:Int))).bind fun from3=>((fY 1000 e1 e2 e3 classes1 from3).bind fun r2 =>
 (if 0≤(classes1.length:Int)∧(classes1.length:Int)<(r2.length:Int)then some (r2.getD ((classes1.length:Int).toNat) false)else none)))else none)
theorem mI(β2 β3:Bool){e1:Int}{e2:Int}{e3:List Tree}{classes1:List Int}{res:Bool}(h:gC e1 e2 e3 classes1=some res):
  Pure Tryd.prog 20 [.agg [.u8 e1,.u32 e2,.p β2 (.slice (.tree .u8 .u32)) e3],.p β3 (.slice (.int .i64)) classes1] (bP (eR false [⟨.bool,res⟩])):=by
 refine Pure.of_body bF Tryd.func20 (by kernel_rfl) rfl (nl rfl) (fun Bw w0=> ?_) rfl
 unfold gC at h
 refine G (GC 3 h (fun h=>aC (G (aE (gG h (fun(from2,i2)=>aK [(1,.p β3 (.slice (.int .i64)) classes1),(2,.adr 0 0 3 0),(5,.sl 1),(6,.i64 i2)] (X0 e1 e2 β2 e3 from2) 2) 0 (fun from3=>aK [(1,.p β3 (.slice (.int .i64)) classes1),(2,.adr 0 0 3 0),(5,.sl 1)] (X0 e1 e2 β2 e3 from3) 2) (gg [] [0,40]) (fun y o h=> ?_) (fun from3 h=> ?_))))))
 ·obtain⟨from2,i2⟩:=y
  unfold eE at h
  refine aC (G (aP h (fun hb3 h=> ?_) (fun hb3 h=> ?_)))
  ·refine aB (aA (aC (aE ?_)))
   obtain⟨c13,c14,h⟩:=g2 h
   refine dA a0 [(2,2,oc c13),(3,3,oc c14)] (aH (aA (Ge ?_)))
   exact eB h (gg [] [0,1])
  refine aI (bE ?_)
  exact eX h (gg [] [0,1])
 refine aJ (aA ?_)
 obtain⟨r2,q2,h⟩:=aD h
 obtain⟨c16,h⟩:=aW h
 have u_1:=(kM 1000 β2 β3 true q2)
 refine GN ⟨[],[(3,(oP u_1))]⟩ [(3,3,oc u_1),(6,6,oc c16)] (aS ?_)
 obtain rfl:=sI h
 exact aL [.bool] (by kernel_rfl)
def cE(r2:List Bool):(Int)→Option ((Int)⊕((Unit)⊕(Bool))):=fun i2 =>
 (if(decide (i2<(r2.length:Int)))=true then(if 0≤i2∧i2<(r2.length:Int)then(if(r2.getD i2.toNat false)=true then some (Sum.inr (Sum.inr true))
 else some (Sum.inl (IntKind.i64.wrap (i2+(1:Int)))))else none)
 else some (Sum.inr (Sum.inl ())))
def dE(e1 e2:Int)(e3:List Tree)(classes1:List Int):Option (Bool) :=
 (if 0≤(IntKind.i64.wrap ((classes1.length:Int)+(1:Int)))∧(IntKind.i64.wrap ((classes1.length:Int)+(1:Int)))≤(IntKind.i64.wrap ((classes1.length:Int)+(1:Int)))∧(1:Int)*(IntKind.i64.wrap ((classes1.length:Int)+(1:Int)))≤281474976710656∧(IntKind.i64.wrap ((classes1.length:Int)+(1:Int)))≤9223372036854775807 then(if 0≤(0:Int)∧(0:Int)<((List.replicate (IntKind.i64.wrap ((classes1.length:Int)+(1:Int))).toNat false).length:Int)then(if(0:Int).toNat<(List.replicate (IntKind.i64.wrap ((classes1.length:Int)+(1:Int))).toNat false).length then((fY 1000 e1 e2 e3 classes1 ((List.replicate (IntKind.i64.wrap ((classes1.length:Int)+(1:Int))).toNat false).set ((0:Int).toNat) true)).bind fun r2 =>
 ((iter (cE r2) (0:Int)).bind fun(r4:((Unit)⊕(Bool)))=>match r4 with
 | .inl _=>some false
 | .inr (r3)=>some r3))else none)else none)else none)
theorem qY(β2 β3:Bool){e1:Int}{e2:Int}{e3:List Tree}{classes1:List Int}{res:Bool}(h:dE e1 e2 e3 classes1=some res):
  Pure Tryd.prog 21 [.agg [.u8 e1,.u32 e2,.p β2 (.slice (.tree .u8 .u32)) e3],.p β3 (.slice (.int .i64)) classes1] (bP (eR false [⟨.bool,res⟩])):=by
 refine Pure.of_body bF Tryd.func21 (by kernel_rfl) rfl (nl rfl) (fun Bw w0=> ?_) rfl
 unfold dE at h
 refine G (GC 3 h (fun h=> ?_))
 obtain⟨c5,c6,h⟩:=g2 h
 refine GN a0 [(1,1,oc c5),(2,2,oc c6)] ?_
 obtain⟨r2,q2,h⟩:=aD h
 refine GP 3 (kM 1000 β2 β3 true q2) (aC (G (aE (qQ h (fun i2=>aK [(6,.p false (.slice .bool) r2),(7,.i64 i2)] [] 0) (gR (jL Tryd.f21.ntmps 0 (fun _=>aK [] [] 0)) (pS tb Tryd.f21.results.toList (fun r3=>[⟨.bool,r3⟩]))) (gg [] []) (fun i2 o h=> ?_) (fun r4 h e σ' hq=> ?_)))))
 ·unfold cE at h
  refine aC (G (aP h (fun hb5 h=> ?_) (fun hb5 h=> ?_)))
  ·refine aB (aA (aC (aE (GC 2 h (fun h=>aP h (fun hb6 h=> ?_) (fun hb6 h=> ?_))))))
   ·refine G (aS ?_)
    obtain rfl:=sI h
    refine aQ (aG (dB (aY ?_)))
    exact g8 (aL [.bool] (by kernel_rfl))
   refine aB (aH (aA (Ge ?_)))
   exact eB h (gg [] [])
  refine aI (bE ?_)
  obtain rfl:=sI h
  refine gY (bO ?_)
  exact cU (gg [] [])
 rcases r4 with _ | r3
 ·obtain⟨rfl,hle⟩:=hq
  refine fQ ?_ hle
  refine aJ (aA (G (aS ?_)))
  obtain rfl:=sI h
  exact aL [.bool] (by kernel_rfl)
 obtain⟨rfl,hr⟩:=hq
 refine aQ (aG ?_)
 obtain rfl:=sI h
 exact hr
def c9(d1:List (List UInt8))(d2 d3:Int)(d4 i1:List Int):((List Int)×(List Int)×Int×Int)→Option (((List Int)×(List Int)×Int×Int)⊕((List Int)×List Int)):=fun(v11,v12,v13,v14) =>
 (if(decide (v14<(i1.length:Int)))=true then(if 0≤v14∧v14<(i1.length:Int)then(((if(decide ((i1.getD v14.toNat (0:Int))<(0:Int)))=true then some (true)
 else some ((decide ((i1.getD v14.toNat (0:Int))≥(d1.length:Int)))))).bind fun v17=>(((if v17=true then some ((0:Int))
 else some ((i1.getD v14.toNat (0:Int))))).bind fun v18=>(((if(decide (v13≥(0:Int)))=true then(if 0≤v18 then(if ¬(2:Int)=0 then(if((Int.tmod (Int.fdiv d2 (2 ^ (min v18.toNat IntKind.u32.bits))) (2:Int)) == (1:Int))=true then(if 0≤v13 then(if ¬(2:Int)=0 then some (((Int.tmod (Int.fdiv d3 (2 ^ (min v13.toNat IntKind.u32.bits))) (2:Int)) == (1:Int)))else none)else none)
 else some (false))else none)else none)
 else some (false))).bind fun v19=>(if v19=true then some (Sum.inl (v11,v12,v13,(IntKind.i64.wrap (v14+(1:Int)))))
 else(if(v11.length+([v14]:List Int).length)*8≤140737488355328∧v11.length+([v14]:List Int).length≤9223372036854775807 then(if 0≤v18∧v18<(d4.length:Int)then(if(v12.length+([(d4.getD v18.toNat (0:Int))]:List Int).length)*8≤140737488355328∧v12.length+([(d4.getD v18.toNat (0:Int))]:List Int).length≤9223372036854775807 then some (Sum.inl ((v11++([v14]:List Int)),(v12++([(d4.getD v18.toNat (0:Int))]:List Int)),v18,(IntKind.i64.wrap (v14+(1:Int)))))else none)else none)else none)))))else none)
 else some (Sum.inr (v11,v12)))
def eF(d5:List (Int×Tree×Tree))(v15 v16 v34:List Int)(v35:Int):(Int)→Option ((Int)⊕(List Int)):=fun v40 =>
 (if(decide (v40<(d5.length:Int)))=true then(((if 0≤v40∧v40<(d5.length:Int)then(if 0≤(0:Int)∧(0:Int)≤v35∧v35≤(v16.length:Int)then((gC (((d5.getD v40.toNat ((0:Int),((Tree.node 0 0 []),(Tree.node 0 0 [])))).2.1).op) (((d5.getD v40.toNat ((0:Int),((Tree.node 0 0 []),(Tree.node 0 0 [])))).2.1).set) (((d5.getD v40.toNat ((0:Int),((Tree.node 0 0 []),(Tree.node 0 0 [])))).2.1).kids) ((v16.take v35.toNat).drop (0:Int).toNat)).bind fun r54 =>
 (if r54=true then(if 0≤v40∧v40<(d5.length:Int)then(if 0≤v35∧v35≤(v16.length:Int)∧(v16.length:Int)≤(v16.length:Int)then((dE (((d5.getD v40.toNat ((0:Int),((Tree.node 0 0 []),(Tree.node 0 0 [])))).2.2).op) (((d5.getD v40.toNat ((0:Int),((Tree.node 0 0 []),(Tree.node 0 0 [])))).2.2).set) (((d5.getD v40.toNat ((0:Int),((Tree.node 0 0 []),(Tree.node 0 0 [])))).2.2).kids) ((v16.take (v16.length:Int).toNat).drop v35.toNat)).bind fun r55 =>
 some (r55))else none)else none)
 else some (false)))else none)else none)).bind fun v42=>(if v42=true then(if 0≤v35∧v35<(v15.length:Int)then(if v35.toNat<v15.length then(if 0≤v40∧v40<(d5.length:Int)then(if 0≤(v15.getD v35.toNat (0:Int))∧(v15.getD v35.toNat (0:Int))<((v34.set ((v15.getD v35.toNat (0:Int)).toNat) (1:Int)).length:Int)then(if(v15.getD v35.toNat (0:Int)).toNat<(v34.set ((v15.getD v35.toNat (0:Int)).toNat) (1:Int)).length then some (Sum.inr ((v34.set ((v15.getD v35.toNat (0:Int)).toNat) (1:Int)).set ((v15.getD v35.toNat (0:Int)).toNat) ((d5.getD v40.toNat ((0:Int),((Tree.node 0 0 []),(Tree.node 0 0 [])))).1)))else none)else none)else none)else none)else none)
 else some (Sum.inl (IntKind.i64.wrap (v40+(1:Int))))))
 else some (Sum.inr (v34.set ((v15.getD v35.toNat (0:Int)).toNat) (1:Int))))
def gD(d5:List (Int×Tree×Tree))(v15 v16:List Int):((List Int)×Int)→Option (((List Int)×Int)⊕(List Int)):=fun(v34,v35) =>
 (if(decide (v35<(v15.length:Int)))=true then(if 0≤v35∧v35<(v15.length:Int)then(if v35.toNat<v15.length then(if 0≤(v15.getD v35.toNat (0:Int))∧(v15.getD v35.toNat (0:Int))<(v34.length:Int)then(if(v15.getD v35.toNat (0:Int)).toNat<v34.length then((iter (eF d5 v15 v16 v34 v35) (0:Int)).bind fun v41=>some (Sum.inl (v41,(IntKind.i64.wrap (v35+(1:Int))))))else none)else none)else none)else none)
 else some (Sum.inr v34))
def i6(d1:List (List UInt8))(d2 d3:Int)(d4:List Int)(d5:List (Int×Tree×Tree))(i1:List Int):Option (List Int) :=
 (if 0≤(IntKind.i64.wrap ((i1.length:Int)+(1:Int)))∧(IntKind.i64.wrap ((i1.length:Int)+(1:Int)))≤(IntKind.i64.wrap ((i1.length:Int)+(1:Int)))∧(1:Int)*(IntKind.i64.wrap ((i1.length:Int)+(1:Int)))≤281474976710656∧(IntKind.i64.wrap ((i1.length:Int)+(1:Int)))≤9223372036854775807 then(if 0≤(i1.length:Int)∧(i1.length:Int)<((List.replicate (IntKind.i64.wrap ((i1.length:Int)+(1:Int))).toNat (0:Int)).length:Int)then(if(i1.length:Int).toNat<(List.replicate (IntKind.i64.wrap ((i1.length:Int)+(1:Int))).toNat (0:Int)).length then((iter (c9 d1 d2 d3 d4 i1) (([]:List Int),([]:List Int),(-1:Int),(0:Int))).bind fun(v15,v16)=>((iter (gD d5 v15 v16) (((List.replicate (IntKind.i64.wrap ((i1.length:Int)+(1:Int))).toNat (0:Int)).set ((i1.length:Int).toNat) (2:Int)),(1:Int))).bind fun v36=>some v36))else none)else none)else none)
theorem wV(β0 β3 β4 β5:Bool){d1:List (List UInt8)}{d2:Int}{d3:Int}{d4:List Int}{d5:List (Int×Tree×Tree)}{i1:List Int}{res:List Int}(h:i6 d1 d2 d3 d4 d5 i1=some res):
  Pure Tryd.prog 12 [.agg [.p β0 (.slice .str) d1,.u32 d2,.u32 d3,.p β3 (.slice (.int .i64)) d4,.p β4 (.slice (.prod (.int .u8) Y1)) d5],.p β5 (.slice (.int .i64)) i1] (bP (eR false [⟨(.slice (.int .u8)),res⟩])):=by
 refine Pure.of_body bF Tryd.func12 (by kernel_rfl) rfl (nl rfl) (fun Bw w0=> ?_) rfl
 unfold i6 at h
 refine G (G (GC 2 h (fun h=> ?_)))
 obtain⟨c5,c6,h⟩:=g2 h
 refine GN a0 [(2,2,oc c5),(3,3,oc c6)] (G (G (aC (G (aE (gG h (fun(v11,v12,v13,v14)=>aK [(1,.p β5 (.slice (.int .i64)) i1),(2,.adr 0 0 5 0),(5,.i64 (i1.length:Int)),(6,.sl 1),(7,.sl 2),(8,.sl 3),(9,.i64 v13),(10,.i64 v14)] (aBA β0 d1 d2 d3 β3 d4 β4 d5 ((List.replicate (IntKind.i64.wrap ((i1.length:Int)+(1:Int))).toNat (0:Int)).set ((i1.length:Int).toNat) (2:Int)) v11 v12) 4) 0 (fun(v15,v16)=>aK [(2,.adr 0 0 5 0),(6,.sl 1),(7,.sl 2),(8,.sl 3)] (aBA β0 d1 d2 d3 β3 d4 β4 d5 ((List.replicate (IntKind.i64.wrap ((i1.length:Int)+(1:Int))).toNat (0:Int)).set ((i1.length:Int).toNat) (2:Int)) v15 v16) 4) (gg [.nilS 7 136 3 (.int .i64),.nilS 8 137 3 (.int .i64)] [0,56,136,137]) (fun y o h=> ?_) (fun r1 h=> ?_)))))))
 ·obtain⟨v11,v12,v13,v14⟩:=y
  unfold c9 at h
  refine aC (G (aP h (fun hb27 h=> ?_) (fun hb27 h=> ?_)))
  ·refine aB (aA (aC (aE (GC 2 h (fun h=>aC (aC (b9 h (fun v17=>aK [(1,.p β5 (.slice (.int .i64)) i1),(2,.adr 0 0 5 0),(5,.i64 (i1.length:Int)),(6,.sl 1),(7,.sl 2),(8,.sl 3),(9,.i64 v13),(10,.i64 v14),(11,.i64 (i1.getD v14.toNat (0:Int))),(39,.bo v17)] (aBA β0 d1 d2 d3 β3 d4 β4 d5 ((List.replicate (IntKind.i64.wrap ((i1.length:Int)+(1:Int))).toNat (0:Int)).set ((i1.length:Int).toNat) (2:Int)) v11 v12) 4) (fun v17 h=> ?_) (fun v17 h=> ?_))))))))
   ·rcases bA h with⟨hb30,h⟩ | ⟨hb30,h⟩
    ·refine dA ⟨[(2,true),(8,true)],[]⟩ [(3,8,oc hb30)] ?_
     exact eN h (gg [] [0,1,2,3])
    refine dA ⟨[(2,false),(8,false)],[]⟩ [(3,7,an hb30),(8,8,oc hb30)] ?_
    exact eN h (gg [] [0,1,2,3])
   refine aA (b9 h (fun v18=>aK [(1,.p β5 (.slice (.int .i64)) i1),(2,.adr 0 0 5 0),(5,.i64 (i1.length:Int)),(6,.sl 1),(7,.sl 2),(8,.sl 3),(9,.i64 v13),(10,.i64 v14),(11,.i64 v18)] (aBA β0 d1 d2 d3 β3 d4 β4 d5 ((List.replicate (IntKind.i64.wrap ((i1.length:Int)+(1:Int))).toNat (0:Int)).set ((i1.length:Int).toNat) (2:Int)) v11 v12) 4) (fun v18 h=> ?_) (fun v18 h=> ?_))
   ·refine aP h (fun hb32 h=> ?_) (fun hb32 h=> ?_)
    ·refine Ge ?_
     exact eN h (gg [] [0,1,2,3])
    refine aB ?_
    exact eN h (gg [] [0,1,2,3])
   refine aA (aC (aC (b9 h (fun v19=>aK [(1,.p β5 (.slice (.int .i64)) i1),(2,.adr 0 0 5 0),(5,.i64 (i1.length:Int)),(6,.sl 1),(7,.sl 2),(8,.sl 3),(9,.i64 v13),(10,.i64 v14),(11,.i64 v18),(57,.bo v19)] (aBA β0 d1 d2 d3 β3 d4 β4 d5 ((List.replicate (IntKind.i64.wrap ((i1.length:Int)+(1:Int))).toNat (0:Int)).set ((i1.length:Int).toNat) (2:Int)) v11 v12) 4) (fun v19 h=> ?_) (fun v19 h=> ?_))))
   ·rcases bA h with⟨hb37,h⟩ | ⟨hb37,h⟩
    ·obtain⟨c57,c58,h⟩:=g2 h
     rcases bA h with⟨hb38,h⟩ | ⟨hb38,h⟩
     ·obtain⟨c59,c60,h⟩:=g2 h
      refine dA ⟨[(2,true),(9,true),(10,true),(17,true)],[]⟩ [(3,5,an hb37),(6,6,oc (And.intro hb37 c57)),(7,7,oc (And.intro hb37 c58)),(8,8,an hb37),(9,9,oc hb37),(11,13,an hb38),(14,14,oc (And.intro hb38 c59)),(15,15,oc (And.intro hb38 c60)),(16,16,an hb38),(17,17,oc hb38)] ?_
      exact eN h (gg [] [0,1,2,3])
     refine dA ⟨[(2,true),(9,true),(10,false),(17,false)],[]⟩ [(3,5,an hb37),(6,6,oc (And.intro hb37 c57)),(7,7,oc (And.intro hb37 c58)),(8,8,an hb37),(9,9,oc hb37),(11,17,oc hb38)] ?_
     exact eN h (gg [] [0,1,2,3])
    refine dA ⟨[(2,false),(9,false)],[]⟩ [(3,9,oc hb37)] ?_
    exact eN h (gg [] [0,1,2,3])
   refine aA (aP h (fun hb39 h=> ?_) (fun hb39 h=> ?_))
   ·refine aI (bE (aJ (aA (Ge ?_))))
    exact eB h (gg [] [0,1,2,3])
   refine aB (aA (G (GC 3 h (fun h=> ?_))))
   obtain⟨c65,c66,h⟩:=g2 h
   refine dA a0 [(4,4,oc c65),(7,7,oc c66)] (aH (aA (Ge ?_)))
   exact eB h (gg [] [0,1,44,116])
  refine aI (bE ?_)
  exact eX h (gg [] [0,1,2,3])
 obtain⟨v15,v16⟩:=r1
 refine aJ (aA (aC (G (aE (gG h (fun(v34,v35)=>aK [(2,.adr 0 0 5 0),(6,.sl 1),(7,.sl 2),(8,.p false (.slice (.int .i64)) v16),(12,.i64 v35)] (aDR β0 d1 d2 d3 β3 d4 β4 d5 v34 v15) 3) 2 (fun v36=>aK [(6,.sl 0)] [(0,.arr 47 (.int .u8) v36)] 1) (gg [.frzS 8] [0,1,2]) (fun y o h=> ?_) (fun v36 h=> ?_))))))
 ·obtain⟨v34,v35⟩:=y
  unfold gD at h
  refine aC (G (aP h (fun hb72 h=> ?_) (fun hb72 h=> ?_)))
  ·refine aB (aA (aC (aE ?_)))
   obtain⟨c219,c220,c221,c222,h⟩:=g4 h
   refine GN a0 [(3,3,oc c219),(4,4,oc c220),(5,5,oc c221),(6,6,oc c222)] (G (aE (gG h (fun v40=>aK [(2,.adr 0 0 5 0),(6,.sl 1),(7,.sl 2),(8,.p false (.slice (.int .i64)) v16),(12,.i64 v35),(13,.i64 v40)] (aDR β0 d1 d2 d3 β3 d4 β4 d5 (v34.set ((v15.getD v35.toNat (0:Int)).toNat) (1:Int)) v15) 3) 4 (fun v41=>aK [(2,.adr 0 0 5 0),(6,.sl 1),(7,.sl 2),(8,.p false (.slice (.int .i64)) v16),(12,.i64 v35)] (aDR β0 d1 d2 d3 β3 d4 β4 d5 v41 v15) 3) (gg [] [0,1,2]) (fun v40 o h=> ?_) (fun v41 h=> ?_))))
   ·unfold eF at h
    refine aC (G (aP h (fun hb83 h=> ?_) (fun hb83 h=> ?_)))
    ·refine aB (aA (aC (aE (aC (b9 h (fun v42=>aK [(2,.adr 0 0 5 0),(6,.sl 1),(7,.sl 2),(8,.p false (.slice (.int .i64)) v16),(12,.i64 v35),(13,.i64 v40),(111,.bo v42)] (aDR β0 d1 d2 d3 β3 d4 β4 d5 (v34.set ((v15.getD v35.toNat (0:Int)).toNat) (1:Int)) v15) 3) (fun v42 h=> ?_) (fun v42 h=> ?_))))))
     ·obtain⟨c275,c276,h⟩:=g2 h
      obtain⟨r54,q53,h⟩:=aD h
      rcases bA h with⟨hb86,h⟩ | ⟨hb86,h⟩
      ·obtain⟨c277,c278,h⟩:=g2 h
       obtain⟨r55,q54,h⟩:=aD h
       have u_1:=(mI β4 false q53)
       have u_2:=(qY β4 false q54)
       refine sP ⟨[(10,true),(21,true)],[(9,(oP u_1)),(20,(oP u_2))]⟩ [(3,3,oc c275),(8,8,oc c276),(9,9,oc u_1),(11,13,an hb86),(14,14,oc (And.intro hb86 c277)),(15,18,an hb86),(19,19,oc (And.intro hb86 c278)),(20,20,oc (And.intro hb86 u_2)),(21,21,oc hb86)] ?_
       exact eN h (gg [] [0,1,2])
      have u_1:=(mI β4 false q53)
      refine sP ⟨[(10,false),(21,false)],[(9,(oP u_1))]⟩ [(3,3,oc c275),(8,8,oc c276),(9,9,oc u_1),(11,21,oc hb86)] ?_
      exact eN h (gg [] [0,1,2])
     refine aA (aP h (fun hb87 h=> ?_) (fun hb87 h=> ?_))
     ·obtain⟨c284,c285,c286,c287,h⟩:=g4 h
      obtain⟨c288,h⟩:=aW h
      refine GD a0 [(3,3,oc c284),(4,4,oc c285),(8,8,oc c286),(11,11,oc c287),(12,12,oc c288)] (aI (uW rfl (bE ?_)))
      exact eX h (gg [] [0,1,2])
     refine aB (aH (aA (Ge ?_)))
     exact eB h (gg [] [0,1,2])
    refine aI (bE ?_)
    exact eX h (gg [] [0,1,2])
   refine aJ (aH (aA (Ge ?_)))
   exact eB h (gg [] [0,1,2])
  refine aI (bE ?_)
  exact eX h (gg [] [1])
 refine aJ (aA (G (aS ?_)))
 obtain rfl:=sI h
 exact aL [(.slice (.int .u8))] (by kernel_rfl)
def cN(classes1:List Int)(fit1:Bool)(r7:(List (List UInt8))×Int×Int×(List Int)×List (Int×Tree×Tree)):((List Int)×Int)→Option (((List Int)×Int)⊕(List Int)):=fun(c4,v3) =>
 (if(decide (v3<((([]:List Int)++classes1).length:Int)))=true then(((if fit1=true then(if 0≤v3∧v3<(c4.length:Int)then(if v3.toNat<c4.length then(if ¬(IntKind.u64.wrap (r7.1.length:Int))=0 then(if 0≤v3∧v3<(c4.length:Int)then(if v3.toNat<c4.length then some ((c4.set v3.toNat (IntKind.i64.wrap (Int.tmod (IntKind.u64.wrap (c4.getD v3.toNat (0:Int))) (IntKind.u64.wrap (r7.1.length:Int))))))else none)else none)else none)else none)else none)
 else some (c4))).bind fun c6=>some (Sum.inl (c6,(IntKind.i64.wrap (v3+(1:Int))))))
 else some (Sum.inr c4))
def fN(p1 p2 p3:Int)(p4:List Int)(p5:List (Int×(List Int)×List Int))(classes1:List Int)(fit1:Bool):Option (Bool) :=
 ((jK).bind fun r2 =>
 (if(!r2)=true then some false
 else((f7 p1 p2 p3 p4 p5).bind fun(r6,r7,r8) =>
 (((if(!r8)=true then some (true)
 else some ((decide ((classes1.length:Int) > (60:Int)))))).bind fun v1=>(if v1=true then some true
 else(if(([]:List Int).length+classes1.length)*8≤140737488355328∧([]:List Int).length+classes1.length≤9223372036854775807 then((iter (cN classes1 fit1 r7) ((([]:List Int)++classes1),(0:Int))).bind fun c5=>(if(([]:List Int).length+c5.length)*8≤140737488355328∧([]:List Int).length+c5.length≤9223372036854775807 then((eZ r6 (([]:List Int)++c5)).bind fun r12 =>
 ((i6 r7.1 r7.2.1 r7.2.2.1 r7.2.2.2.1 r7.2.2.2.2 c5).bind fun r13 =>
 ((cH r12 r13).bind fun r14 =>
 some r14)))else none))else none))))))
theorem stanzalaw06_SegRuns_ok(β3 β5:Bool){p1:Int}{p2:Int}{p3:Int}{p4:List Int}{p5:List (Int×(List Int)×List Int)}{classes1:List Int}{fit1:Bool}{res:Bool}(h:fN p1 p2 p3 p4 p5 classes1 fit1=some res):
  Pure Tryd.prog 3 [.agg [.u8 p1,.u8 p2,.u8 p3,.p β3 (.slice (.int .u8)) p4,.p false (.slice (.prod (.int .u8) Y11)) p5],.p β5 (.slice (.int .i64)) classes1,.bo fit1] (bP (eR false [⟨.bool,res⟩])):=by
 refine Pure.of_body bF Tryd.func3 (by kernel_rfl) rfl (nl rfl) (fun Bw w0=> ?_) rfl
 unfold fN at h
 refine G (aC ?_)
 obtain⟨r2,q2,h⟩:=aD h
 refine GP 0 (t5 q2) (aP h (fun hb1 h=> ?_) (fun hb1 h=> ?_))
 ·refine G (aS (aG ?_))
  obtain rfl:=sI h
  exact aL [.bool] (by kernel_rfl)
 refine aB (aA ?_)
 obtain⟨⟨r6,r7,r8⟩,q4,h⟩:=aD h
 refine GP 1 (vE β3 q4) (aC (aC (b9 h (fun v1=>aK [(1,.p β5 (.slice (.int .i64)) classes1),(2,.bo fit1),(7,.p false (.ptr Y7) r6),(8,.adr 0 0 5 0),(26,.bo v1)] (aJO r7.1 r7.2.1 r7.2.2.1 r7.2.2.2.1 r7.2.2.2.2) 1) (fun v1 h=> ?_) (fun v1 h=> ?_))))
 ·rcases bA h with⟨hb4,h⟩ | ⟨hb4,h⟩
  ·refine dA ⟨[(2,true),(6,true)],[]⟩ [(3,6,oc hb4)] ?_
   exact eN h (gg [] [80])
  refine dA ⟨[(2,false),(6,false)],[]⟩ [(3,5,an hb4),(6,6,oc hb4)] ?_
  exact eN h (gg [] [80])
 refine aA (aP h (fun hb5 h=> ?_) (fun hb5 h=> ?_))
 ·refine G (aS (aG ?_))
  obtain rfl:=sI h
  exact aL [.bool] (by kernel_rfl)
 refine aB (aA (GC 2 h (fun h=>aC (G (aE (gG h (fun(c4,v3)=>aK [(2,.bo fit1),(7,.p false (.ptr Y7) r6),(8,.adr 0 0 5 0),(10,.sl 1),(31,.i64 ((([]:List Int)++classes1).length:Int)),(32,.i64 v3)] (aGL r7.1 r7.2.1 r7.2.2.1 r7.2.2.2.1 r7.2.2.2.2 c4) 2) 0 (fun c5=>aK [(7,.p false (.ptr Y7) r6),(8,.adr 0 0 5 0),(10,.sl 1)] (aGL r7.1 r7.2.1 r7.2.2.1 r7.2.2.2.1 r7.2.2.2.2 c5) 2) (gg [] [0,17]) (fun y o h=> ?_) (fun c5 h=> ?_)))))))
 ·obtain⟨c4,v3⟩:=y
  unfold cN at h
  refine G (aC (aP h (fun hb12 h=> ?_) (fun hb12 h=> ?_)))
  ·refine aB (aA (aC (aE (G (G (b9 h (fun c6=>aK [(2,.bo fit1),(7,.p false (.ptr Y7) r6),(8,.adr 0 0 5 0),(10,.sl 1),(31,.i64 ((([]:List Int)++classes1).length:Int)),(32,.i64 v3)] (aGL r7.1 r7.2.1 r7.2.2.1 r7.2.2.2.1 r7.2.2.2.2 c6) 2) (fun c6 h=> ?_) (fun c6 h=> ?_)))))))
   ·refine aP h (fun hb14 h=> ?_) (fun hb14 h=> ?_)
    ·obtain⟨c58,c59,c60,c61,h⟩:=g4 h
     obtain⟨c62,h⟩:=aW h
     refine sP a0 [(4,4,oc c58),(5,5,oc c59),(11,11,oc c60),(13,13,oc c61),(14,14,oc c62)] ?_
     exact eN h (gg [] [0,1])
    refine aB ?_
    exact eN h (gg [] [0,1])
   refine aH (aA (Ge ?_))
   exact eB h (gg [] [0,1])
  refine aI (bE ?_)
  exact eX h (gg [] [0,1])
 refine aJ (aA ?_)
 obtain⟨c64,h⟩:=aW h
 obtain⟨r12,q8,h⟩:=aD h
 obtain⟨r13,q9,h⟩:=aD h
 obtain⟨r14,q10,h⟩:=aD h
 have u_1:=(iI false true q8)
 have u_2:=(wV false false false true q9)
 have u_3:=(eY false false q10)
 refine GD ⟨[],[(4,(oP u_1)),(7,(oP u_2)),(8,(oP u_3))]⟩ [(3,3,oc c64),(4,4,oc u_1),(7,7,oc u_2),(8,8,oc u_3)] (aS ?_)
 obtain rfl:=sI h
 exact aL [.bool] (by kernel_rfl)
end
end Go.Proofs.YtacpjjgochokcaaDoor.T
