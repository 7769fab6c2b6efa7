/- Functions of the program as functions on data, and that the program's own come to them. -/
import Derived.Test.YtjfjigknkhgkdaaTvT03z0
namespace Go.Proofs.Ytjfjigknkhgkdaa.T
open Go Go.Tv Go.Proofs
noncomputable section
set_option maxRecDepth 100000
set_option maxHeartbeats 4000000
def N0(e1 at1:Int)(p1:List UInt8)(p2 p3 p4 p5 p6:Int)(o1:List ((List UInt8)×Int)):Option ((Unit)⊕(Int×Int)):=some (Sum.inr (e1,at1))
theorem xQ(v:Value)(e a:Int)(w:World):
  Calls Try.prog 22 #[v,.int .i64 e,.int .i64 a] w fun r w'=>r = .panicked [{ v:=aR 40 .i64 .i64 (e,a),recovered:=false }]∧w'=w:=by
 go_enter Try.func22,Try.ntmps22
 go_wp2
 exact⟨rfl,rfl,rfl⟩
theorem wN{e1:Int}{at1:Int}{p1:List UInt8}{p2:Int}{p3:Int}{p4:Int}{p5:Int}{p6:Int}{o1:List ((List UInt8)×Int)}{res:(Unit)⊕(Int×Int)}(h:N0 e1 at1 p1 p2 p3 p4 p5 p6 o1=some res):
  Does Try.prog 22 [.adr 0 0 10 0,.i64 e1,.i64 at1] (ob2 p1 p2 p3 p4 p5 p6 o1) (jK (fun(q:Unit)=>(.tup [],[])) (aR 40 .i64 .i64) res):=by
 obtain rfl:=sI h
 exact Dies.of_calls Try.func22 (by kernel_rfl) rfl (fun v w=>xQ v _ _ w)
def cY(s1:List UInt8)(c1:Int):Option (Int):=some (pR s1 c1 0)
theorem jS(s:ByteArray)(c:Int)(w:World):
  Calls Try.prog 61 #[.string s,.int .u8 c] w fun e w'=>e = .returned (.int .i64 (Lib.indexByte s.data.toList c.toNat.toUInt8))∧w'=w:=by
 have hd:∀w,(callFunc 64 #[.string s,.int .u8 c]).run Try.prog w = .ok (.value (.int .i64 (Lib.indexByte s.data.toList c.toNat.toUInt8))) w:=fun w=>by
  rw[run_callFunc_extern (fn:=Try.f64) (e:=Extern.BytealgIndexByte.indexByte) Try.func64 (by kernel_rfl) rfl (by kernel_rfl) (by kernel_rfl),Lib.run_indexByteString]
  rfl
 go_enter Try.func61,Try.ntmps61
 go_wp2
 go_ret
 exact⟨rfl,rfl⟩
theorem lF{s1:List UInt8}{c1:Int}{res:Int}(h:cY s1 c1=some res):
  Pure Try.prog 61 [.st s1,.u8 c1] (c9 (gJ false [⟨(.int .i64),res⟩])):=by
 obtain rfl:=sI h
 exact Pure.of_idx Try.func61 (by kernel_rfl) rfl (fun s w=>jS s _ w)
def cT(s1:List UInt8)(c1:Int):Option (Int) :=
 ((cY s1 c1).bind fun r2 =>
 some r2)
theorem i8{s1:List UInt8}{c1:Int}{res:Int}(h:cT s1 c1=some res):
  Pure Try.prog 52 [.st s1,.u8 c1] (c9 (gJ false [⟨(.int .i64),res⟩])):=by
 refine Pure.of_body bL Try.func52 (by kernel_rfl) rfl (nl rfl) (fun Bw w0=> ?_) rfl
 unfold cT at h
 refine G ?_
 obtain⟨r2,q2,h⟩:=aB h
 refine GP 2 (lF q2) (aN ?_)
 obtain rfl:=sI h
 exact aT [(.int .i64)] (by kernel_rfl)
def fQ(c1:Int):Option (Bool) :=
 (((if(c1 == (32:Int))=true then some (true)
 else(if(c1 == (9:Int))=true then some (true)
 else(if(c1 == (10:Int))=true then some (true)
 else some ((c1 == (13:Int))))))).bind fun v1=>some v1)
theorem vD{c1:Int}{res:Bool}(h:fQ c1=some res):
  Pure Try.prog 53 [.u8 c1] (c9 (gJ false [⟨.bool,res⟩])):=by
 refine Pure.of_body bL Try.func53 (by kernel_rfl) rfl (nl rfl) (fun Bw w0=> ?_) rfl
 unfold fQ at h
 refine G (aD (eM h (fun v1=>aQ [(2,.bo v1)] [] 0) (fun v1 h=> ?_) (fun v1 h=> ?_)))
 ·rcases aW h with⟨hb7,h⟩ | ⟨hb7,h⟩
  ·refine dT ⟨[(2,true),(5,true)],[]⟩ [(3,5,oc hb7)] ?_
   exact eN h (gg [] [])
  rcases aW h with⟨hb8,h⟩ | ⟨hb8,h⟩
  ·refine dT ⟨[(2,false),(5,false),(6,true),(9,true)],[]⟩ [(3,4,an hb7),(5,5,oc hb7),(7,9,oc hb8)] ?_
   exact eN h (gg [] [])
  rcases aW h with⟨hb9,h⟩ | ⟨hb9,h⟩
  ·refine dT ⟨[(2,false),(5,false),(6,false),(9,false),(10,true),(13,true)],[]⟩ [(3,4,an hb7),(5,5,oc hb7),(7,8,an hb8),(9,9,oc hb8),(11,13,oc hb9)] ?_
   exact eN h (gg [] [])
  refine dT ⟨[(2,false),(5,false),(6,false),(9,false),(10,false),(13,false)],[]⟩ [(3,4,an hb7),(5,5,oc hb7),(7,8,an hb8),(9,9,oc hb8),(11,12,an hb9),(13,13,oc hb9)] ?_
  exact eN h (gg [] [])
 refine aA (aN ?_)
 obtain rfl:=sI h
 exact aT [.bool] (by kernel_rfl)
def cS(c1:Int):Option (Bool) :=
 (((if(c1 == (95:Int))=true then some (true)
 else(if(decide (c1≥(97:Int)))=true then(if(decide (c1≤(122:Int)))=true then some (true)
 else(if(decide (c1≥(65:Int)))=true then(if(decide (c1≤(90:Int)))=true then some (true)
 else(if(decide (c1≥(48:Int)))=true then some ((decide (c1≤(57:Int))))
 else some (false)))
 else(if(decide (c1≥(48:Int)))=true then some ((decide (c1≤(57:Int))))
 else some (false))))
 else(if(decide (c1≥(65:Int)))=true then(if(decide (c1≤(90:Int)))=true then some (true)
 else(if(decide (c1≥(48:Int)))=true then some ((decide (c1≤(57:Int))))
 else some (false)))
 else(if(decide (c1≥(48:Int)))=true then some ((decide (c1≤(57:Int))))
 else some (false)))))).bind fun v1=>some v1)
theorem cU{c1:Int}{res:Bool}(h:cS c1=some res):
  Pure Try.prog 54 [.u8 c1] (c9 (gJ false [⟨.bool,res⟩])):=by
 refine Pure.of_body bL Try.func54 (by kernel_rfl) rfl (nl rfl) (fun Bw w0=> ?_) rfl
 unfold cS at h
 refine G (aD (eM h (fun v1=>aQ [(2,.bo v1)] [] 0) (fun v1 h=> ?_) (fun v1 h=> ?_)))
 ·rcases aW h with⟨hb23,h⟩ | ⟨hb23,h⟩
  ·refine dT ⟨[(2,true),(9,true)],[]⟩ [(3,5,oc hb23),(8,9,oc hb23)] ?_
   exact eN h (gg [] [])
  rcases aW h with⟨hb24,h⟩ | ⟨hb24,h⟩
  ·rcases aW h with⟨hb25,h⟩ | ⟨hb25,h⟩
   ·refine dT ⟨[(2,false),(5,true),(8,true),(9,false),(10,true),(17,true)],[]⟩ [(3,5,an hb23),(6,7,an hb24),(8,8,oc (And.intro hb23 hb24)),(9,9,oc hb23),(11,13,oc hb25),(16,17,oc hb25)] ?_
    exact eN h (gg [] [])
   rcases aW h with⟨hb26,h⟩ | ⟨hb26,h⟩
   ·rcases aW h with⟨hb27,h⟩ | ⟨hb27,h⟩
    ·refine dT ⟨[(2,false),(5,true),(8,true),(9,false),(10,false),(13,true),(16,true),(17,false),(18,true),(25,true)],[]⟩ [(3,5,an hb23),(6,7,an hb24),(8,8,oc (And.intro hb23 hb24)),(9,9,oc hb23),(11,13,an hb25),(14,15,an hb26),(16,16,oc (And.intro hb25 hb26)),(17,17,oc hb25),(19,21,oc hb27),(24,25,oc hb27)] ?_
     exact eN h (gg [] [])
    rcases aW h with⟨hb28,h⟩ | ⟨hb28,h⟩
    ·refine dT ⟨[(2,false),(5,true),(8,true),(9,false),(10,false),(13,true),(16,true),(17,false),(18,false),(21,true),(24,true),(25,false)],[]⟩ [(3,5,an hb23),(6,7,an hb24),(8,8,oc (And.intro hb23 hb24)),(9,9,oc hb23),(11,13,an hb25),(14,15,an hb26),(16,16,oc (And.intro hb25 hb26)),(17,17,oc hb25),(19,21,an hb27),(22,23,an hb28),(24,24,oc (And.intro hb27 hb28)),(25,25,oc hb27)] ?_
     exact eN h (gg [] [])
    refine dT ⟨[(2,false),(5,true),(8,true),(9,false),(10,false),(13,true),(16,true),(17,false),(18,false),(21,false),(24,false),(25,false)],[]⟩ [(3,5,an hb23),(6,7,an hb24),(8,8,oc (And.intro hb23 hb24)),(9,9,oc hb23),(11,13,an hb25),(14,15,an hb26),(16,16,oc (And.intro hb25 hb26)),(17,17,oc hb25),(19,21,an hb27),(22,23,oc hb28),(24,24,oc (And.intro hb27 hb28)),(25,25,oc hb27)] ?_
    exact eN h (gg [] [])
   rcases aW h with⟨hb29,h⟩ | ⟨hb29,h⟩
   ·refine dT ⟨[(2,false),(5,true),(8,true),(9,false),(10,false),(13,false),(16,false),(17,false),(21,true),(24,true)],[]⟩ [(3,5,an hb23),(6,7,an hb24),(8,8,oc (And.intro hb23 hb24)),(9,9,oc hb23),(11,13,an hb25),(14,15,oc hb26),(16,16,oc (And.intro hb25 hb26)),(17,17,oc hb25),(22,23,an hb29),(24,24,oc hb29)] ?_
    exact eN h (gg [] [])
   refine dT ⟨[(2,false),(5,true),(8,true),(9,false),(10,false),(13,false),(16,false),(17,false),(21,false),(24,false)],[]⟩ [(3,5,an hb23),(6,7,an hb24),(8,8,oc (And.intro hb23 hb24)),(9,9,oc hb23),(11,13,an hb25),(14,15,oc hb26),(16,16,oc (And.intro hb25 hb26)),(17,17,oc hb25),(22,24,oc hb29)] ?_
   exact eN h (gg [] [])
  rcases aW h with⟨hb30,h⟩ | ⟨hb30,h⟩
  ·rcases aW h with⟨hb31,h⟩ | ⟨hb31,h⟩
   ·refine dT ⟨[(2,false),(5,false),(8,false),(9,false),(13,true),(16,true),(18,true),(25,true)],[]⟩ [(3,5,an hb23),(6,7,oc hb24),(8,8,oc (And.intro hb23 hb24)),(9,9,oc hb23),(14,15,an hb30),(16,16,oc hb30),(19,21,oc hb31),(24,25,oc hb31)] ?_
    exact eN h (gg [] [])
   rcases aW h with⟨hb32,h⟩ | ⟨hb32,h⟩
   ·refine dT ⟨[(2,false),(5,false),(8,false),(9,false),(13,true),(16,true),(18,false),(21,true),(24,true),(25,false)],[]⟩ [(3,5,an hb23),(6,7,oc hb24),(8,8,oc (And.intro hb23 hb24)),(9,9,oc hb23),(14,15,an hb30),(16,16,oc hb30),(19,21,an hb31),(22,23,an hb32),(24,24,oc (And.intro hb31 hb32)),(25,25,oc hb31)] ?_
    exact eN h (gg [] [])
   refine dT ⟨[(2,false),(5,false),(8,false),(9,false),(13,true),(16,true),(18,false),(21,false),(24,false),(25,false)],[]⟩ [(3,5,an hb23),(6,7,oc hb24),(8,8,oc (And.intro hb23 hb24)),(9,9,oc hb23),(14,15,an hb30),(16,16,oc hb30),(19,21,an hb31),(22,23,oc hb32),(24,24,oc (And.intro hb31 hb32)),(25,25,oc hb31)] ?_
   exact eN h (gg [] [])
  rcases aW h with⟨hb33,h⟩ | ⟨hb33,h⟩
  ·refine dT ⟨[(2,false),(5,false),(8,false),(9,false),(13,false),(16,false),(21,true),(24,true)],[]⟩ [(3,5,an hb23),(6,7,oc hb24),(8,8,oc (And.intro hb23 hb24)),(9,9,oc hb23),(14,16,oc hb30),(22,23,an hb33),(24,24,oc hb33)] ?_
   exact eN h (gg [] [])
  refine dT ⟨[(2,false),(5,false),(8,false),(9,false),(13,false),(16,false),(21,false),(24,false)],[]⟩ [(3,5,an hb23),(6,7,oc hb24),(8,8,oc (And.intro hb23 hb24)),(9,9,oc hb23),(14,16,oc hb30),(22,24,oc hb33)] ?_
  exact eN h (gg [] [])
 refine aA (aN ?_)
 obtain rfl:=sI h
 exact aT [.bool] (by kernel_rfl)
def aL(s1:List (List UInt8))(v1:List UInt8):(Int)→Option ((Int)⊕((Unit)⊕(Int))):=fun v3 =>
 (if(decide (v3<(s1.length:Int)))=true then(if 0≤v3∧v3<(s1.length:Int)then(if(v1 == (s1.getD v3.toNat ([]:List UInt8)))=true then some (Sum.inr (Sum.inr v3))
 else some (Sum.inl (IntKind.i64.wrap (v3+(1:Int)))))else none)
 else some (Sum.inr (Sum.inl ())))
def bV(s1:List (List UInt8))(v1:List UInt8):Option (Int) :=
 ((iter (aL s1 v1) (0:Int)).bind fun(r2:((Unit)⊕(Int)))=>match r2 with
 | .inl _=>some (-1:Int)
 | .inr (r1)=>some r1)
theorem i9(β0:Bool){s1:List (List UInt8)}{v1:List UInt8}{res:Int}(h:bV s1 v1=some res):
  Pure Try.prog 60 [.p β0 (.slice .str) s1,.st v1] (c9 (gJ false [⟨(.int .i64),res⟩])):=by
 refine Pure.of_body bL Try.func60 (by kernel_rfl) rfl (nl rfl) (fun Bw w0=> ?_) rfl
 unfold bV at h
 refine G (aD (G (aK (n0 h (fun v3=>aQ [(0,.p β0 (.slice .str) s1),(1,.st v1),(7,.i64 (s1.length:Int)),(8,.i64 v3)] [] 0) (fT (gR Try.f60.ntmps 0 (fun _=>aQ [] [] 0)) (tR tb Try.f60.results.toList (fun r1=>[⟨(.int .i64),r1⟩]))) (gg [] []) (fun v3 o h=> ?_) (fun r2 h e σ' hq=> ?_)))))
 ·unfold aL at h
  refine G (aD (aU h (fun hb5 h=> ?_) (fun hb5 h=> ?_)))
  ·refine aC (aA (aD (aK (G (GC 3 h (fun h=>aU h (fun hb6 h=> ?_) (fun hb6 h=> ?_)))))))
   ·refine G (aN ?_)
    obtain rfl:=sI h
    refine aM (aG (dX (aS ?_)))
    exact lN (aT [(.int .i64)] (by kernel_rfl))
   refine aC (aO (aA (Ge ?_)))
   exact eB h (gg [] [])
  refine bA (eL ?_)
  obtain rfl:=sI h
  refine fV (cX ?_)
  exact dB (gg [] [])
 rcases r2 with _ | r1
 ·obtain⟨rfl,hle⟩:=hq
  refine fL ?_ hle
  refine bB (aA (G (aN ?_)))
  obtain rfl:=sI h
  exact aT [(.int .i64)] (by kernel_rfl)
 obtain⟨rfl,hr⟩:=hq
 refine aM (aG ?_)
 obtain rfl:=sI h
 exact hr
def dH(e1 at1:Int)(p1:List UInt8)(p2 p3 p4 p5 p6:Int)(o1:List (List UInt8))(o2:List Int)(o3:List (Int×Tree×Tree))(o4:List ((List UInt8)×Int)):Option ((Unit)⊕(Int×Int)):=some (Sum.inr (e1,at1))
theorem sL(v:Value)(e a:Int)(w:World):
  Calls Try.prog 22 #[v,.int .i64 e,.int .i64 a] w fun r w'=>r = .panicked [{ v:=aR 40 .i64 .i64 (e,a),recovered:=false }]∧w'=w:=by
 go_enter Try.func22,Try.ntmps22
 go_wp2
 exact⟨rfl,rfl,rfl⟩
theorem b0{e1:Int}{at1:Int}{p1:List UInt8}{p2:Int}{p3:Int}{p4:Int}{p5:Int}{p6:Int}{o1:List (List UInt8)}{o2:List Int}{o3:List (Int×Tree×Tree)}{o4:List ((List UInt8)×Int)}{res:(Unit)⊕(Int×Int)}(h:dH e1 at1 p1 p2 p3 p4 p5 p6 o1 o2 o3 o4=some res):
  Does Try.prog 22 [.adr 0 0 10 0,.i64 e1,.i64 at1] (bK p1 p2 p3 p4 p5 p6 o1 o2 o3 o4) (jK (fun(q:Unit)=>(.tup [],[])) (aR 40 .i64 .i64) res):=by
 obtain rfl:=sI h
 exact Dies.of_calls Try.func22 (by kernel_rfl) rfl (fun v w=>sL v _ _ w)
def bW(d1:List UInt8)(d3 d4 d5 d6:Int)(o1:List (List UInt8))(o2:List Int)(o3:List (Int×Tree×Tree))(o4:List ((List UInt8)×Int)):(Int)→Option ((Int)⊕((Int)⊕((Int×Int)⊕(Int×Int)))):=fun d10 =>
 (if(decide (d10<(d1.length:Int)))=true then(if 0≤d10∧d10<(d1.length:Int)then(if(((d1.getD d10.toNat 0).toNat:Int) == (35:Int))=true then(if 0≤d10∧d10≤(d1.length:Int)∧(d1.length:Int)≤(d1.length:Int)then((cT ((d1.take (d1.length:Int).toNat).drop d10.toNat) (10:Int)).bind fun r56 =>
 (((if(decide (r56<(0:Int)))=true then some ((IntKind.i64.wrap ((d1.length:Int) - d10)))
 else some (r56))).bind fun v14=>some (Sum.inl (IntKind.i64.wrap (d10+v14)))))else none)
 else((fQ ((d1.getD d10.toNat 0).toNat:Int)).bind fun r58 =>
 (if r58=true then some (Sum.inl (IntKind.i64.wrap (d10+(1:Int))))
 else((((cS ((d1.getD d10.toNat 0).toNat:Int)).bind fun r63 =>
 (if(!r63)=true then((cT ([40,41,91,93,94,124,42,43,63,46,59,47,61]:List UInt8) ((d1.getD d10.toNat 0).toNat:Int)).bind fun r64 =>
 some ((decide (r64<(0:Int)))))
 else some (false)))).bind fun v15=>(if v15=true then((dH (20:Int) d10 d1 d10 d3 d4 d5 d6 o1 o2 o3 o4).bind fun(z12:(Unit)⊕(Int×Int))=>match z12 with
 | .inr (e27,e28)=>some (Sum.inr (Sum.inr (Sum.inl (e27,e28))))
 | .inl _=>none)
 else some (Sum.inr (Sum.inr (Sum.inr (((d1.getD d10.toNat 0).toNat:Int),d10)))))))))else none)
 else some (Sum.inr (Sum.inl d10)))
def dV(d1:List UInt8)(d2 d3 d4 d5 d6:Int)(o1:List (List UInt8))(o2:List Int)(o3:List (Int×Tree×Tree))(o4:List ((List UInt8)×Int)):Option ((Int×Int)⊕(Int×Int)) :=
 ((iter (bW d1 d3 d4 d5 d6 o1 o2 o3 o4) d2).bind fun(r65:((Int)⊕((Int×Int)⊕(Int×Int))))=>match r65 with
 | .inl v13=>some (Sum.inl ((0:Int),v13))
 | .inr (.inl (e23,e24))=>some (Sum.inr (e23,e24))
 | .inr (.inr ((r53,r54)))=>some (Sum.inl (r53,r54)))
theorem bI{d1:List UInt8}{d2:Int}{d3:Int}{d4:Int}{d5:Int}{d6:Int}{o1:List (List UInt8)}{o2:List Int}{o3:List (Int×Tree×Tree)}{o4:List ((List UInt8)×Int)}{res:(Int×Int)⊕(Int×Int)}(h:dV d1 d2 d3 d4 d5 d6 o1 o2 o3 o4=some res):
  Does Try.prog 33 [.adr 0 0 10 0] (bK d1 d2 d3 d4 d5 d6 o1 o2 o3 o4) (jK (fun(q:Int×Int)=>(.u8 q.1,(bK d1 q.2 d3 d4 d5 d6 o1 o2 o3 o4))) (aR 40 .i64 .i64) res):=by
 refine Does.of_body bL Try.func33 (by kernel_rfl) rfl (nl rfl) (fun Bw w0=> ?_)
 unfold dV at h
 refine G (aD (aK (n0 h (fun d10=>aQ [(0,.adr 0 0 10 0)] (bK d1 d10 d3 d4 d5 d6 o1 o2 o3 o4) 5 5) (fT (gR Try.f33.ntmps 0 (fun v13=>aQ [] (bK d1 v13 d3 d4 d5 d6 o1 o2 o3 o4) 5 5)) (fT (rH (aR 40 .i64 .i64)) (sV tb Try.f33.ntmps Try.f33.results.toList (fun(r53,r54)=>(.u8 r53,(bK d1 r54 d3 d4 d5 d6 o1 o2 o3 o4)))))) (gg [] [0,1,2,3,4]) (fun d10 o h=> ?_) (fun r65 h e σ' hq=> ?_))))
 ·unfold bW at h
  refine aD (GD a0 [] (aU h (fun hb46 h=> ?_) (fun hb46 h=> ?_)))
  ·refine aC (aA (aK ?_))
   obtain⟨c22,h⟩:=bO h
   refine GD a0 [(8,8,oc c22)] (G (aU h (fun hb47 h=> ?_) (fun hb47 h=> ?_)))
   ·obtain⟨c24,h⟩:=bO h
    obtain⟨r56,q62,h⟩:=aB h
    have u_1:=(i8 q62)
    refine GD ⟨[],[(9,(oP u_1))]⟩ [(8,8,oc c24),(9,9,oc u_1)] (aD (G (eM h (fun v14=>aQ [(0,.adr 0 0 10 0),(4,.i64 v14)] (bK d1 d10 d3 d4 d5 d6 o1 o2 o3 o4) 5 5) (fun v14 h=> ?_) (fun v14 h=> ?_))))
    ·refine aU h (fun hb49 h=> ?_) (fun hb49 h=> ?_)
     ·refine yT a0 [] ?_
      exact eN h (gg [] [0,1,2,3,4])
     refine aC ?_
     exact eN h (gg [] [0,1,2,3,4])
    refine aA (Ge (aO ?_))
    exact eB h (gg [] [0,1,2,3,4])
   obtain⟨r58,q64,h⟩:=aB h
   refine GP 1 (vD q64) (aU h (fun hb50 h=> ?_) (fun hb50 h=> ?_))
   ·refine Ge (aO ?_)
    exact eB h (gg [] [0,1,2,3,4])
   refine aD (aD (eM h (fun v15=>aQ [(0,.adr 0 0 10 0),(3,.u8 ((d1.getD d10.toNat 0).toNat:Int)),(72,.bo v15)] (bK d1 d10 d3 d4 d5 d6 o1 o2 o3 o4) 5 5) (fun v15 h=> ?_) (fun v15 h=> ?_)))
   ·obtain⟨r63,q69,h⟩:=aB h
    rcases aW h with⟨hb53,h⟩ | ⟨hb53,h⟩
    ·obtain⟨r64,q70,h⟩:=aB h
     have u_1:=(cU q69)
     have u_2:=(i8 q70)
     refine dT ⟨[(3,true),(7,true)],[(1,(oP u_1)),(5,(oP u_2))]⟩ [(1,1,oc u_1),(4,4,an hb53),(5,5,oc (And.intro hb53 u_2)),(6,6,an hb53),(7,7,oc hb53)] ?_
     exact eN h (gg [] [0,1,2,3,4])
    have u_1:=(cU q69)
    refine dT ⟨[(3,false),(7,false)],[(1,(oP u_1))]⟩ [(1,1,oc u_1),(4,7,oc hb53)] ?_
    exact eN h (gg [] [0,1,2,3,4])
   refine aA (aU h (fun hb54 h=> ?_) (fun hb54 h=> ?_))
   ·obtain⟨z12,q72,h⟩:=aB h
    rcases z12 with _ | ⟨e27,e28⟩
    ·cases h
    refine GX 5 [0,1,2,3,4] (b0 q72) (fun _=> ?_)
    obtain rfl:=sI h
    refine aF (bD (bS (aS (C5 ?_))))
    exact rfl
   refine aC (aA (G (aN ?_)))
   obtain rfl:=sI h
   refine aM (dX (aS (aS ?_)))
   exact j7 (aE [some (.int .u8)] [] [0,1,2,3,4] [(2,.u8 ((d1.getD d10.toNat 0).toNat:Int))] (bK d1 d10 d3 d4 d5 d6 o1 o2 o3 o4) 5 5 (by kernel_rfl) (by kernel_rfl) (by kernel_rfl))
  refine bA (eL ?_)
  obtain rfl:=sI h
  refine fV (cX ?_)
  exact dB (gg [] [0,1,2,3,4])
 rcases r65 with v13 | ⟨e23,e24⟩ | ⟨r53,r54⟩
 ·obtain⟨rfl,hle⟩:=hq
  refine fL ?_ hle
  refine bB (aA (G (aN ?_)))
  obtain rfl:=sI h
  exact aE [some (.int .u8)] [] [0,1,2,3,4] [(2,.u8 (0:Int))] (bK d1 v13 d3 d4 d5 d6 o1 o2 o3 o4) 5 5 (by kernel_rfl) (by kernel_rfl) (by kernel_rfl)
 ·obtain rfl:=hq
  refine bD (aF ?_)
  obtain rfl:=sI h
  exact rfl
 obtain⟨rfl,hr⟩:=hq
 refine aM (aG ?_)
 obtain rfl:=sI h
 exact hr
def dO(p1:List UInt8):(Int)→Option ((Int)⊕(Int)):=fun p11 =>
 (((if(decide (p11<(p1.length:Int)))=true then(if 0≤p11∧p11<(p1.length:Int)then((cS ((p1.getD p11.toNat 0).toNat:Int)).bind fun r32 =>
 some (r32))else none)
 else some (false))).bind fun v7=>(if v7=true then some (Sum.inl (IntKind.i64.wrap (p11+(1:Int))))
 else some (Sum.inr p11)))
def fC(p1:List UInt8)(p2 p3 p4 p5 p6:Int)(o1:List (List UInt8))(o2:List Int)(o3:List (Int×Tree×Tree))(o4:List ((List UInt8)×Int)):Option (((List UInt8)×Int×Int)⊕(Int×Int)) :=
 ((dV p1 p2 p3 p4 p5 p6 o1 o2 o3 o4).bind fun(z6:(Int×Int)⊕(Int×Int))=>match z6 with
 | .inr (e11,e12)=>some (Sum.inr (e11,e12))
 | .inl (r21,r22)=>((cS r21).bind fun r23 =>
 (if(!r23)=true then((dH (21:Int) r22 p1 r22 p3 p4 p5 p6 o1 o2 o3 o4).bind fun(z8:(Unit)⊕(Int×Int))=>match z8 with
 | .inr (e15,e16)=>some (Sum.inr (e15,e16))
 | .inl _=>none)
 else((iter (dO p1) r22).bind fun p12=>(if 0≤r22∧r22≤p12∧p12≤(p1.length:Int)then some (Sum.inl (((p1.take p12.toNat).drop r22.toNat),r22,p12))else none)))))
theorem dP{p1:List UInt8}{p2:Int}{p3:Int}{p4:Int}{p5:Int}{p6:Int}{o1:List (List UInt8)}{o2:List Int}{o3:List (Int×Tree×Tree)}{o4:List ((List UInt8)×Int)}{res:((List UInt8)×Int×Int)⊕(Int×Int)}(h:fC p1 p2 p3 p4 p5 p6 o1 o2 o3 o4=some res):
  Does Try.prog 34 [.adr 0 0 10 0] (bK p1 p2 p3 p4 p5 p6 o1 o2 o3 o4) (jK (fun(q:(List UInt8)×Int×Int)=>(.tup [.st q.1,.i64 q.2.1],(bK p1 q.2.2 p3 p4 p5 p6 o1 o2 o3 o4))) (aR 40 .i64 .i64) res):=by
 refine Does.of_body bL Try.func34 (by kernel_rfl) rfl (nl rfl) (fun Bw w0=> ?_)
 unfold fC at h
 refine G (aD (aD ?_))
 obtain⟨z6,q18,h⟩:=aB h
 rcases z6 with⟨r21,r22⟩ | ⟨e11,e12⟩
 ·obtain⟨r23,q19,h⟩:=aB h
  have u_1:=(bI q18)
  have u_2:=(cU q19)
  refine dT ⟨[],[(1,(oO u_1 [0,1,2,3,4])),(2,(oP u_2))]⟩ [(1,1,oc u_1),(2,2,oc u_2)] (aA (aU h (fun hb14 h=> ?_) (fun hb14 h=> ?_)))
  ·obtain⟨z8,q21,h⟩:=aB h
   rcases z8 with _ | ⟨e15,e16⟩
   ·cases h
   refine GX 5 [0,1,2,3,4] (b0 q21) (fun _=>aF ?_)
   obtain rfl:=sI h
   exact rfl
  refine aC (aA (G (aD (aK (t7 h (fun p11=>aQ [(0,.adr 0 0 10 0),(4,.i64 r22)] (bK p1 p11 p3 p4 p5 p6 o1 o2 o3 o4) 5 5) 0 (fun p12=>aQ [(0,.adr 0 0 10 0),(4,.i64 r22)] (bK p1 p12 p3 p4 p5 p6 o1 o2 o3 o4) 5 5) (gg [] [0,1,2,3,4]) (fun p11 o h=> ?_) (fun p12 h=> ?_))))))
  ·unfold dO at h
   refine aD (aD (eM h (fun v7=>aQ [(0,.adr 0 0 10 0),(4,.i64 r22),(40,.bo v7)] (bK p1 p11 p3 p4 p5 p6 o1 o2 o3 o4) 5 5) (fun v7 h=> ?_) (fun v7 h=> ?_)))
   ·rcases aW h with⟨hb25,h⟩ | ⟨hb25,h⟩
    ·obtain⟨c20,h⟩:=bO h
     obtain⟨r32,q30,h⟩:=aB h
     have u_1:=(cU q30)
     refine yT ⟨[(10,true),(21,true)],[(20,(oP u_1))]⟩ [(11,18,an hb25),(19,19,oc (And.intro hb25 c20)),(20,20,oc (And.intro hb25 u_1)),(21,21,oc hb25)] ?_
     exact eN h (gg [] [0,1,2,3,4])
    refine yT ⟨[(10,false),(21,false)],[]⟩ [(11,21,oc hb25)] ?_
    exact eN h (gg [] [0,1,2,3,4])
   refine aA (aU h (fun hb26 h=> ?_) (fun hb26 h=> ?_))
   ·refine aC (aA (aK (Ge (aO ?_))))
    exact eB h (gg [] [0,1,2,3,4])
   refine bA (eL ?_)
   exact eX h (gg [] [0,1,2,3,4])
  refine bB (aA ?_)
  obtain⟨c22,h⟩:=bO h
  refine GD a0 [(9,9,oc c22)] (aN ?_)
  obtain rfl:=sI h
  exact aE [some .str,some (.int .i64)] [] [0,1,2,3,4] [(2,.st ((p1.take p12.toNat).drop r22.toNat)),(3,.i64 r22)] (bK p1 p12 p3 p4 p5 p6 o1 o2 o3 o4) 5 5 (by kernel_rfl) (by kernel_rfl) (by kernel_rfl)
 refine GX 1 [0,1,2,3,4] (bI q18) (fun _=>aF (aF ?_))
 obtain rfl:=sI h
 exact rfl
def aJ(c1:Int)(p1:List UInt8)(p2 p3 p4 p5 p6:Int)(o1:List (List UInt8))(o2:List Int)(o3:List (Int×Tree×Tree))(o4:List ((List UInt8)×Int)):Option ((Bool×Int)⊕(Int×Int)) :=
 ((dV p1 p2 p3 p4 p5 p6 o1 o2 o3 o4).bind fun(z4:(Int×Int)⊕(Int×Int))=>match z4 with
 | .inr (e7,e8)=>some (Sum.inr (e7,e8))
 | .inl (r8,r9)=>(if(r8 != c1)=true then some (Sum.inl (false,r9))
 else some (Sum.inl (true,(IntKind.i64.wrap (r9+(1:Int)))))))
theorem bE{c1:Int}{p1:List UInt8}{p2:Int}{p3:Int}{p4:Int}{p5:Int}{p6:Int}{o1:List (List UInt8)}{o2:List Int}{o3:List (Int×Tree×Tree)}{o4:List ((List UInt8)×Int)}{res:(Bool×Int)⊕(Int×Int)}(h:aJ c1 p1 p2 p3 p4 p5 p6 o1 o2 o3 o4=some res):
  Does Try.prog 47 [.adr 0 0 10 0,.u8 c1] (bK p1 p2 p3 p4 p5 p6 o1 o2 o3 o4) (jK (fun(q:Bool×Int)=>(.bo q.1,(bK p1 q.2 p3 p4 p5 p6 o1 o2 o3 o4))) (aR 40 .i64 .i64) res):=by
 refine Does.of_body bL Try.func47 (by kernel_rfl) rfl (nl rfl) (fun Bw w0=> ?_)
 unfold aJ at h
 refine G (aD (aD ?_))
 obtain⟨z4,q4,h⟩:=aB h
 rcases z4 with⟨r8,r9⟩ | ⟨e7,e8⟩
 ·refine jH 1 [0,1,2,3,4] (bI q4) (aA (aU h (fun hb2 h=> ?_) (fun hb2 h=> ?_)))
  ·refine G (aN (aG ?_))
   obtain rfl:=sI h
   exact aE [some .bool] [] [0,1,2,3,4] [(4,.bo false)] (bK p1 r9 p3 p4 p5 p6 o1 o2 o3 o4) 5 5 (by kernel_rfl) (by kernel_rfl) (by kernel_rfl)
  refine aC (aA (G (G (aN ?_))))
  obtain rfl:=sI h
  exact aE [some .bool] [] [0,1,2,3,4] [(4,.bo true)] (bK p1 (IntKind.i64.wrap (r9+(1:Int))) p3 p4 p5 p6 o1 o2 o3 o4) 5 5 (by kernel_rfl) (by kernel_rfl) (by kernel_rfl)
 refine GX 1 [0,1,2,3,4] (bI q4) (fun _=>aF (aF ?_))
 obtain rfl:=sI h
 exact rfl
def fZ(p1:List UInt8)(p2 p3 p4 p5 p6:Int)(o1:List (List UInt8))(o2:List Int)(o3:List (Int×Tree×Tree))(o4:List ((List UInt8)×Int)):Option (((List UInt8)×Int)⊕(Int×Int)) :=
 ((fC p1 p2 p3 p4 p5 p6 o1 o2 o3 o4).bind fun(z6:((List UInt8)×Int×Int)⊕(Int×Int))=>match z6 with
 | .inr (e11,e12)=>some (Sum.inr (e11,e12))
 | .inl (r11,r12,r13)=>(if((dI .str o4 r11).isSome)=true then((dH (23:Int) r12 p1 r13 p3 p4 p5 p6 o1 o2 o3 o4).bind fun(z8:(Unit)⊕(Int×Int))=>match z8 with
 | .inr (e15,e16)=>some (Sum.inr (e15,e16))
 | .inl _=>none)
 else some (Sum.inl (r11,r13))))
theorem hO{p1:List UInt8}{p2:Int}{p3:Int}{p4:Int}{p5:Int}{p6:Int}{o1:List (List UInt8)}{o2:List Int}{o3:List (Int×Tree×Tree)}{o4:List ((List UInt8)×Int)}{res:((List UInt8)×Int)⊕(Int×Int)}(h:fZ p1 p2 p3 p4 p5 p6 o1 o2 o3 o4=some res):
  Does Try.prog 48 [.adr 0 0 10 0] (bK p1 p2 p3 p4 p5 p6 o1 o2 o3 o4) (jK (fun(q:(List UInt8)×Int)=>(.st q.1,(bK p1 q.2 p3 p4 p5 p6 o1 o2 o3 o4))) (aR 40 .i64 .i64) res):=by
 refine Does.of_body bL Try.func48 (by kernel_rfl) rfl (nl rfl) (fun Bw w0=> ?_)
 unfold fZ at h
 refine G (aD ?_)
 obtain⟨z6,q6,h⟩:=aB h
 rcases z6 with⟨r11,r12,r13⟩ | ⟨e11,e12⟩
 ·refine jH 1 [0,1,2,3,4] (dP q6) (aA (aD (G (G (aU h (fun hb2 h=> ?_) (fun hb2 h=> ?_))))))
  ·obtain⟨z8,q8,h⟩:=aB h
   rcases z8 with _ | ⟨e15,e16⟩
   ·cases h
   refine GX 2 [0,1,2,3,4] (b0 q8) (fun _=>aF ?_)
   obtain rfl:=sI h
   exact rfl
  refine aC (aA (G (aN ?_)))
  obtain rfl:=sI h
  exact aE [some .str] [] [0,1,2,3,4] [(2,.st r11)] (bK p1 r13 p3 p4 p5 p6 o1 o2 o3 o4) 5 5 (by kernel_rfl) (by kernel_rfl) (by kernel_rfl)
 refine GX 1 [0,1,2,3,4] (dP q6) (fun _=>aF ?_)
 obtain rfl:=sI h
 exact rfl
def cN(d1:List UInt8)(d3 d4 d5 d6:Int)(o3:List (Int×Tree×Tree)):(Int×(List (List UInt8))×(List Int)×List ((List UInt8)×Int))→Option ((Int×(List (List UInt8))×(List Int)×List ((List UInt8)×Int))⊕((Int×(List (List UInt8))×(List Int)×List ((List UInt8)×Int))⊕(Int×Int))):=fun(d19,d20,d21,d22) =>
 ((aJ (59:Int) d1 d19 d3 d4 d5 d6 d20 d21 o3 d22).bind fun(z42:(Bool×Int)⊕(Int×Int))=>match z42 with
 | .inr (e87,e88)=>some (Sum.inr (Sum.inr (e87,e88)))
 | .inl (r64,r65)=>(if(!r64)=true then((dV d1 r65 d3 d4 d5 d6 d20 d21 o3 d22).bind fun(z44:(Int×Int)⊕(Int×Int))=>match z44 with
 | .inr (e91,e92)=>some (Sum.inr (Sum.inr (e91,e92)))
 | .inl (r68,r69)=>((fZ d1 r69 d3 d4 d5 d6 d20 d21 o3 d22).bind fun(z46:((List UInt8)×Int)⊕(Int×Int))=>match z46 with
 | .inr (e95,e96)=>some (Sum.inr (Sum.inr (e95,e96)))
 | .inl (r72,r73)=>(if(decide ((d20.length:Int)≥(24:Int)))=true then((dH (24:Int) r69 d1 r73 d3 d4 d5 d6 d20 d21 o3 d22).bind fun(z48:(Unit)⊕(Int×Int))=>match z48 with
 | .inr (e99,e100)=>some (Sum.inr (Sum.inr (e99,e100)))
 | .inl _=>none)
 else(if 0≤(d20.length:Int)then(if(d21.length+([(d20.length:Int)]:List Int).length)*8≤140737488355328∧d21.length+([(d20.length:Int)]:List Int).length≤9223372036854775807 then(if(d20.length+([r72]:List (List UInt8)).length)*16≤140737488355328∧d20.length+([r72]:List (List UInt8)).length≤9223372036854775807 then some (Sum.inl (r73,(d20++([r72]:List (List UInt8))),(d21++([(d20.length:Int)]:List Int)),(fY .str d22 r72 (IntKind.u32.wrap ((1:Int)*2 ^ (min (d20.length:Int).toNat IntKind.u32.bits))))))else none)else none)else none))))
 else some (Sum.inr (Sum.inl (r65,d20,d21,d22)))))
def gY(d1:List UInt8)(d2 d3 d4 d5 d6:Int)(o1:List (List UInt8))(o2:List Int)(o3:List (Int×Tree×Tree))(o4:List ((List UInt8)×Int)):Option ((Int×(List (List UInt8))×(List Int)×List ((List UInt8)×Int))⊕(Int×Int)) :=
 ((iter (cN d1 d3 d4 d5 d6 o3) (d2,o1,o2,o4)).bind fun(r74:((Int×(List (List UInt8))×(List Int)×List ((List UInt8)×Int))⊕(Int×Int)))=>match r74 with
 | .inl (v9,v10,v11,v12)=>some (Sum.inl (v9,v10,v11,v12))
 | .inr ((e83,e84))=>some (Sum.inr (e83,e84)))
theorem nZ{d1:List UInt8}{d2:Int}{d3:Int}{d4:Int}{d5:Int}{d6:Int}{o1:List (List UInt8)}{o2:List Int}{o3:List (Int×Tree×Tree)}{o4:List ((List UInt8)×Int)}{res:(Int×(List (List UInt8))×(List Int)×List ((List UInt8)×Int))⊕(Int×Int)}(h:gY d1 d2 d3 d4 d5 d6 o1 o2 o3 o4=some res):
  Does Try.prog 29 [.adr 0 0 10 0] (bK d1 d2 d3 d4 d5 d6 o1 o2 o3 o4) (jK (fun(q:Int×(List (List UInt8))×(List Int)×List ((List UInt8)×Int))=>(.tup [],(aAJ d1 q.1 d3 d4 d5 d6 o3 q.2.2.2 q.2.1 q.2.2.1))) (aR 40 .i64 .i64) res):=by
 refine Does.of_body bL Try.func29 (by kernel_rfl) rfl (nl rfl) (fun Bw w0=> ?_)
 unfold gY at h
 refine aK (n0 h (fun(d19,d20,d21,d22)=>aQ [(0,.adr 0 0 10 0)] (aAJ d1 d19 d3 d4 d5 d6 o3 d22 d20 d21) 7 5) (fT (gR Try.f29.ntmps 0 (fun(v9,v10,v11,v12)=>aQ [] (aAJ d1 v9 d3 d4 d5 d6 o3 v12 v10 v11) 7 5)) (rH (aR 40 .i64 .i64))) (gg [] [0,1,2,3,4,1,2]) (fun y o h=> ?_) (fun r74 h e σ' hq=> ?_))
 ·obtain⟨d19,d20,d21,d22⟩:=y
  unfold cN at h
  refine aD (aD ?_)
  obtain⟨z42,q42,h⟩:=aB h
  rcases z42 with⟨r64,r65⟩ | ⟨e87,e88⟩
  ·refine jH 1 [0,5,6,3,4] (bE q42) (aA (aU h (fun hb11 h=> ?_) (fun hb11 h=> ?_)))
   ·refine aC (aA (aK (aD ?_)))
    obtain⟨z44,q44,h⟩:=aB h
    rcases z44 with⟨r68,r69⟩ | ⟨e91,e92⟩
    ·refine jH 1 [0,5,6,3,4] (bI q44) (aA (G (aD ?_)))
     obtain⟨z46,q46,h⟩:=aB h
     rcases z46 with⟨r72,r73⟩ | ⟨e95,e96⟩
     ·refine jH 1 [0,5,6,3,4] (hO q46) (aA (aD (G (aU h (fun hb12 h=> ?_) (fun hb12 h=> ?_)))))
      ·obtain⟨z48,q48,h⟩:=aB h
       rcases z48 with _ | ⟨e99,e100⟩
       ·cases h
       refine GX 2 [0,5,6,3,4] (b0 q48) (fun _=> ?_)
       obtain rfl:=sI h
       refine aF (bD (bS (aS ?_)))
       exact rfl
      refine aC (aA ?_)
      obtain⟨c32,h⟩:=bO h
      refine GD a0 [(11,11,oc c32)] ?_
      obtain⟨c34,h⟩:=bO h
      refine GD a0 [(13,13,oc c34)] (GCe 8 h (fun h=>aO ?_))
      exact eB h (gg [] [0,1,2,3,4,479,375])
     refine GX 1 [0,5,6,3,4] (hO q46) (fun _=> ?_)
     obtain rfl:=sI h
     refine aF (bD (bS (aS ?_)))
     exact rfl
    refine GX 1 [0,5,6,3,4] (bI q44) (fun _=> ?_)
    obtain rfl:=sI h
    refine aF (bD (bS (aS ?_)))
    exact rfl
   refine bA (eL ?_)
   obtain rfl:=sI h
   refine fV (cX ?_)
   exact dB (gg [] [0,1,2,3,4,5,6])
  refine GX 1 [0,5,6,3,4] (bE q42) (fun _=> ?_)
  obtain rfl:=sI h
  refine aF (aF (bS (aS ?_)))
  exact rfl
 rcases r74 with⟨v9,v10,v11,v12⟩ | ⟨e83,e84⟩
 ·obtain⟨rfl,hle⟩:=hq
  refine fL ?_ hle
  refine bB ?_
  obtain rfl:=sI h
  exact(aE [] [] [0,1,2,3,4,5,6] [] (aAJ d1 v9 d3 d4 d5 d6 o3 v12 v10 v11) 7 5 (by kernel_rfl) (by kernel_rfl) (by kernel_rfl)).normal
 obtain rfl:=hq
 refine bD ?_
 obtain rfl:=sI h
 exact rfl
def eH(c1:Int)(p1:List UInt8)(p2 p3 p4 p5 p6:Int)(o1:List (List UInt8))(o2:List Int)(o3:List (Int×Tree×Tree))(o4:List ((List UInt8)×Int)):Option ((Int)⊕(Int×Int)) :=
 ((aJ c1 p1 p2 p3 p4 p5 p6 o1 o2 o3 o4).bind fun(z6:(Bool×Int)⊕(Int×Int))=>match z6 with
 | .inr (e11,e12)=>some (Sum.inr (e11,e12))
 | .inl (r7,r8)=>(if(!r7)=true then((dH (21:Int) r8 p1 r8 p3 p4 p5 p6 o1 o2 o3 o4).bind fun(z8:(Unit)⊕(Int×Int))=>match z8 with
 | .inr (e15,e16)=>some (Sum.inr (e15,e16))
 | .inl _=>none)
 else some (Sum.inl r8)))
theorem bX{c1:Int}{p1:List UInt8}{p2:Int}{p3:Int}{p4:Int}{p5:Int}{p6:Int}{o1:List (List UInt8)}{o2:List Int}{o3:List (Int×Tree×Tree)}{o4:List ((List UInt8)×Int)}{res:(Int)⊕(Int×Int)}(h:eH c1 p1 p2 p3 p4 p5 p6 o1 o2 o3 o4=some res):
  Does Try.prog 49 [.adr 0 0 10 0,.u8 c1] (bK p1 p2 p3 p4 p5 p6 o1 o2 o3 o4) (jK (fun(q:Int)=>(.tup [],(bK p1 q p3 p4 p5 p6 o1 o2 o3 o4))) (aR 40 .i64 .i64) res):=by
 refine Does.of_body bL Try.func49 (by kernel_rfl) rfl (nl rfl) (fun Bw w0=> ?_)
 unfold eH at h
 refine aD ?_
 obtain⟨z6,q6,h⟩:=aB h
 rcases z6 with⟨r7,r8⟩ | ⟨e11,e12⟩
 ·refine jH 2 [0,1,2,3,4] (bE q6) (aA (aU h (fun hb2 h=> ?_) (fun hb2 h=> ?_)))
  ·obtain⟨z8,q8,h⟩:=aB h
   rcases z8 with _ | ⟨e15,e16⟩
   ·cases h
   refine GX 5 [0,1,2,3,4] (b0 q8) (fun _=> ?_)
   obtain rfl:=sI h
   exact rfl
  refine aC ?_
  obtain rfl:=sI h
  exact(aE [] [] [0,1,2,3,4] [] (bK p1 r8 p3 p4 p5 p6 o1 o2 o3 o4) 5 5 (by kernel_rfl) (by kernel_rfl) (by kernel_rfl)).normal
 refine GX 2 [0,1,2,3,4] (bE q6) (fun _=>aF ?_)
 obtain rfl:=sI h
 exact rfl
def dN(p1:List UInt8)(p2 p3 p4 p5 p6:Int)(o1:List (List UInt8))(o2:List Int)(o3:List (Int×Tree×Tree))(o4:List ((List UInt8)×Int)):Option ((Int×Int)⊕(Int×Int)) :=
 ((fC p1 p2 p3 p4 p5 p6 o1 o2 o3 o4).bind fun(z6:((List UInt8)×Int×Int)⊕(Int×Int))=>match z6 with
 | .inr (e11,e12)=>some (Sum.inr (e11,e12))
 | .inl (r11,r12,r13)=>(if((dI .str o4 r11).isSome)=true then some (Sum.inl (((dI .str o4 r11).getD (0:Int)),r13))
 else((dH (22:Int) r12 p1 r13 p3 p4 p5 p6 o1 o2 o3 o4).bind fun(z8:(Unit)⊕(Int×Int))=>match z8 with
 | .inr (e15,e16)=>some (Sum.inr (e15,e16))
 | .inl _=>none)))
theorem hN{p1:List UInt8}{p2:Int}{p3:Int}{p4:Int}{p5:Int}{p6:Int}{o1:List (List UInt8)}{o2:List Int}{o3:List (Int×Tree×Tree)}{o4:List ((List UInt8)×Int)}{res:(Int×Int)⊕(Int×Int)}(h:dN p1 p2 p3 p4 p5 p6 o1 o2 o3 o4=some res):
  Does Try.prog 59 [.adr 0 0 10 0] (bK p1 p2 p3 p4 p5 p6 o1 o2 o3 o4) (jK (fun(q:Int×Int)=>(.u32 q.1,(bK p1 q.2 p3 p4 p5 p6 o1 o2 o3 o4))) (aR 40 .i64 .i64) res):=by
 refine Does.of_body bL Try.func59 (by kernel_rfl) rfl (nl rfl) (fun Bw w0=> ?_)
 unfold dN at h
 refine G (aD ?_)
 obtain⟨z6,q6,h⟩:=aB h
 rcases z6 with⟨r11,r12,r13⟩ | ⟨e11,e12⟩
 ·refine jH 1 [0,1,2,3,4] (dP q6) (aA (aD (G (G (aU h (fun hb2 h=> ?_) (fun hb2 h=> ?_))))))
  ·refine G (aN (aG ?_))
   obtain rfl:=sI h
   exact aE [some (.int .u32)] [] [0,1,2,3,4] [(2,.u32 ((dI .str o4 r11).getD (0:Int)))] (bK p1 r13 p3 p4 p5 p6 o1 o2 o3 o4) 5 5 (by kernel_rfl) (by kernel_rfl) (by kernel_rfl)
  refine aC (aA (aD ?_))
  obtain⟨z8,q8,h⟩:=aB h
  rcases z8 with _ | ⟨e15,e16⟩
  ·cases h
  refine GX 2 [0,1,2,3,4] (b0 q8) (fun _=>aF ?_)
  obtain rfl:=sI h
  exact rfl
 refine GX 1 [0,1,2,3,4] (dP q6) (fun _=>aF ?_)
 obtain rfl:=sI h
 exact rfl
def bP(end1:Int)(p1:List UInt8)(p3 p4 p5 p6:Int)(o1:List (List UInt8))(o2:List Int)(o3:List (Int×Tree×Tree))(o4:List ((List UInt8)×Int)):(Int×Int)→Option ((Int×Int)⊕((Int×Int)⊕(Int×Int))):=fun(p11,bits5) =>
 ((dV p1 p11 p3 p4 p5 p6 o1 o2 o3 o4).bind fun(z22:(Int×Int)⊕(Int×Int))=>match z22 with
 | .inr (e47,e48)=>some (Sum.inr (Sum.inr (e47,e48)))
 | .inl (r45,r46)=>(if(r45 != end1)=true then((dN p1 r46 p3 p4 p5 p6 o1 o2 o3 o4).bind fun(z24:(Int×Int)⊕(Int×Int))=>match z24 with
 | .inr (e51,e52)=>some (Sum.inr (Sum.inr (e51,e52)))
 | .inl (r49,r50)=>some (Sum.inl (r50,(bY .or .u32 bits5 r49))))
 else some (Sum.inr (Sum.inl (r46,bits5)))))
def cH(end1:Int)(p1:List UInt8)(p2 p3 p4 p5 p6:Int)(o1:List (List UInt8))(o2:List Int)(o3:List (Int×Tree×Tree))(o4:List ((List UInt8)×Int)):Option ((Int×Int)⊕(Int×Int)) :=
 ((iter (bP end1 p1 p3 p4 p5 p6 o1 o2 o3 o4) (p2,(0:Int))).bind fun(r51:((Int×Int)⊕(Int×Int)))=>match r51 with
 | .inl (p12,bits6)=>some (Sum.inl (bits6,(IntKind.i64.wrap (p12+(1:Int)))))
 | .inr ((e43,e44))=>some (Sum.inr (e43,e44)))
theorem aY{end1:Int}{p1:List UInt8}{p2:Int}{p3:Int}{p4:Int}{p5:Int}{p6:Int}{o1:List (List UInt8)}{o2:List Int}{o3:List (Int×Tree×Tree)}{o4:List ((List UInt8)×Int)}{res:(Int×Int)⊕(Int×Int)}(h:cH end1 p1 p2 p3 p4 p5 p6 o1 o2 o3 o4=some res):
  Does Try.prog 50 [.adr 0 0 10 0,.u8 end1] (bK p1 p2 p3 p4 p5 p6 o1 o2 o3 o4) (jK (fun(q:Int×Int)=>(.u32 q.1,(bK p1 q.2 p3 p4 p5 p6 o1 o2 o3 o4))) (aR 40 .i64 .i64) res):=by
 refine Does.of_body bL Try.func50 (by kernel_rfl) rfl (nl rfl) (fun Bw w0=> ?_)
 unfold cH at h
 refine G (G (aD (aK (n0 h (fun(p11,bits5)=>aQ [(0,.adr 0 0 10 0),(1,.u8 end1),(5,.u32 bits5)] (bK p1 p11 p3 p4 p5 p6 o1 o2 o3 o4) 5 5) (fT (gR Try.f50.ntmps 0 (fun(p12,bits6)=>aQ [(0,.adr 0 0 10 0),(5,.u32 bits6)] (bK p1 p12 p3 p4 p5 p6 o1 o2 o3 o4) 5 5)) (rH (aR 40 .i64 .i64))) (gg [] [0,1,2,3,4]) (fun y o h=> ?_) (fun r51 h e σ' hq=> ?_)))))
 ·obtain⟨p11,bits5⟩:=y
  unfold bP at h
  refine aD (aD ?_)
  obtain⟨z22,q22,h⟩:=aB h
  rcases z22 with⟨r45,r46⟩ | ⟨e47,e48⟩
  ·refine jH 1 [0,1,2,3,4] (bI q22) (aA (aU h (fun hb6 h=> ?_) (fun hb6 h=> ?_)))
   ·refine aC (aA (aK ?_))
    obtain⟨z24,q24,h⟩:=aB h
    rcases z24 with⟨r49,r50⟩ | ⟨e51,e52⟩
    ·refine jH 2 [0,1,2,3,4] (hN q24) (aO ?_)
     exact eB h (gg [] [0,1,2,3,4])
    refine GX 2 [0,1,2,3,4] (hN q24) (fun _=> ?_)
    obtain rfl:=sI h
    refine bD (bS (aS ?_))
    exact rfl
   refine bA (eL ?_)
   obtain rfl:=sI h
   refine fV (cX ?_)
   exact dB (gg [] [0,1,2,3,4])
  refine GX 1 [0,1,2,3,4] (bI q22) (fun _=> ?_)
  obtain rfl:=sI h
  refine aF (aF (bS (aS ?_)))
  exact rfl
 rcases r51 with⟨p12,bits6⟩ | ⟨e43,e44⟩
 ·obtain⟨rfl,hle⟩:=hq
  refine fL ?_ hle
  refine bB (aA (G (G (aN ?_))))
  obtain rfl:=sI h
  exact aE [some (.int .u32)] [] [0,1,2,3,4] [(4,.u32 bits6)] (bK p1 (IntKind.i64.wrap (p12+(1:Int))) p3 p4 p5 p6 o1 o2 o3 o4) 5 5 (by kernel_rfl) (by kernel_rfl) (by kernel_rfl)
 obtain rfl:=hq
 refine bD (aF ?_)
 obtain rfl:=sI h
 exact rfl
def j3(p1:List UInt8)(p2 p3 p4 p5 p6:Int)(o1:List (List UInt8))(o2:List Int)(o3:List (Int×Tree×Tree))(o4:List ((List UInt8)×Int)):Option ((Int×List ((List UInt8)×Int))⊕(Int×Int)) :=
 ((fZ p1 p2 p3 p4 p5 p6 o1 o2 o3 o4).bind fun(z8:((List UInt8)×Int)⊕(Int×Int))=>match z8 with
 | .inr (e15,e16)=>some (Sum.inr (e15,e16))
 | .inl (r13,r14)=>((eH (61:Int) p1 r14 p3 p4 p5 p6 o1 o2 o3 o4).bind fun(z10:(Int)⊕(Int×Int))=>match z10 with
 | .inr (e19,e20)=>some (Sum.inr (e19,e20))
 | .inl r16=>((cH (59:Int) p1 r16 p3 p4 p5 p6 o1 o2 o3 o4).bind fun(z12:(Int×Int)⊕(Int×Int))=>match z12 with
 | .inr (e23,e24)=>some (Sum.inr (e23,e24))
 | .inl (r19,r20)=>some (Sum.inl (r20,(fY .str o4 r13 r19))))))
theorem rI{p1:List UInt8}{p2:Int}{p3:Int}{p4:Int}{p5:Int}{p6:Int}{o1:List (List UInt8)}{o2:List Int}{o3:List (Int×Tree×Tree)}{o4:List ((List UInt8)×Int)}{res:(Int×List ((List UInt8)×Int))⊕(Int×Int)}(h:j3 p1 p2 p3 p4 p5 p6 o1 o2 o3 o4=some res):
  Does Try.prog 30 [.adr 0 0 10 0] (bK p1 p2 p3 p4 p5 p6 o1 o2 o3 o4) (jK (fun(q:Int×List ((List UInt8)×Int))=>(.tup [],(bK p1 q.1 p3 p4 p5 p6 o1 o2 o3 q.2))) (aR 40 .i64 .i64) res):=by
 refine Does.of_body bL Try.func30 (by kernel_rfl) rfl (nl rfl) (fun Bw w0=> ?_)
 unfold j3 at h
 refine aD ?_
 obtain⟨z8,q8,h⟩:=aB h
 rcases z8 with⟨r13,r14⟩ | ⟨e15,e16⟩
 ·refine jH 1 [0,1,2,3,4] (hO q8) (aA (aD ?_))
  obtain⟨z10,q10,h⟩:=aB h
  rcases z10 with r16 | ⟨e19,e20⟩
  ·refine jH 1 [0,1,2,3,4] (bX q10) (aA ?_)
   obtain⟨z12,q12,h⟩:=aB h
   rcases z12 with⟨r19,r20⟩ | ⟨e23,e24⟩
   ·have u_1:=(aY q12)
    refine nW bL pK ⟨[],[(6,(oO u_1 [0,1,2,3,4]))]⟩ (.one 0 (.one 1 (.one 2 (.one 4 (.one 5 (.two 3 (.one 6 (.one 7 (.leaf))) 6 (.one 3 (.one 7 (.leaf))))))))) [([],[]),([],[]),([],[]),([0],[]),([],[]),([],[]),([0,1,2,3,4],[0,1,2,3,4,93,94,95,96,97,98,99,100]),([4],[4])] 2 [] [] [0,1,2,3,4] [] (bK p1 r20 p3 p4 p5 p6 o1 o2 o3 (fY .str o4 r13 r19)) 5 5 (Ts 6 ((pO u_1)::(pO u_1)::(Ts 3 []))) (by kernel_rfl) (by kernel_rfl) (tr 6 ⟨u_1,u_1,(tr 3 tt)⟩) (fun _=> ?_) (fun y hy=>by cases hy)
    obtain rfl:=sI h
    exact(aE [] [] [0,1,2,3,4] [] (bK p1 r20 p3 p4 p5 p6 o1 o2 o3 (fY .str o4 r13 r19)) 5 5 (by kernel_rfl) (by kernel_rfl) (by kernel_rfl)).normal
   have u_1:=(aY q12)
   refine nW bL pK ⟨[],[(6,(oD u_1 [0,1,2,3,4]))]⟩ (.one 0 (.one 1 (.one 2 (.one 4 (.one 5 (.twoD 3 (.dead 6) 6)))))) [([],[]),([],[]),([],[]),([0],[]),([],[]),([],[]),([0,1,2,3,4],[0,1,2,3,4,93,94,95,96,97,98,99,100]),([],[])] 0 [(aR 40 .i64 .i64 (e23,e24)),(aR 40 .i64 .i64 (e23,e24))] [] [0,1,2,3,4] [] [] 5 5 (Ts 6 [Dies Try.prog 50 [.adr 0 0 10 0,.u8 (59:Int)] (bK p1 r16 p3 p4 p5 p6 o1 o2 o3 o4) (aR 40 .i64 .i64 (e23,e24)),Dies Try.prog 50 [.adr 0 0 10 0,.u8 (59:Int)] (bK p1 r16 p3 p4 p5 p6 o1 o2 o3 o4) (aR 40 .i64 .i64 (e23,e24))]) (by kernel_rfl) (by kernel_rfl) (tr 6 ⟨(aY q12),(aY q12),tt⟩) (fun h0=>absurd rfl h0) (fun y hy σ1=> ?_)
   obtain rfl:y=(aR 40 .i64 .i64 (e23,e24)):=by simpa using hy
   obtain rfl:=sI h
   exact rfl
  refine GX 1 [0,1,2,3,4] (bX q10) (fun _=>aF ?_)
  obtain rfl:=sI h
  exact rfl
 refine GX 1 [0,1,2,3,4] (hO q8) (fun _=>aF ?_)
 obtain rfl:=sI h
 exact rfl
def iO(p1:List UInt8)(p2 p3 p4 p5 p6:Int)(o1:List (List UInt8))(o2:List Int)(o3:List (Int×Tree×Tree))(o4:List ((List UInt8)×Int)):Option ((Int×Int×Int)⊕(Int×Int)) :=
 ((cH (47:Int) p1 p2 p3 p4 p5 p6 o1 o2 o3 o4).bind fun(z6:(Int×Int)⊕(Int×Int))=>match z6 with
 | .inr (e11,e12)=>some (Sum.inr (e11,e12))
 | .inl (r11,r12)=>((cH (59:Int) p1 r12 (bY .or .u32 p3 r11) p4 p5 p6 o1 o2 o3 o4).bind fun(z8:(Int×Int)⊕(Int×Int))=>match z8 with
 | .inr (e15,e16)=>some (Sum.inr (e15,e16))
 | .inl (r15,r16)=>some (Sum.inl (r16,(bY .or .u32 p3 r11),(bY .or .u32 p4 r15)))))
theorem pD{p1:List UInt8}{p2:Int}{p3:Int}{p4:Int}{p5:Int}{p6:Int}{o1:List (List UInt8)}{o2:List Int}{o3:List (Int×Tree×Tree)}{o4:List ((List UInt8)×Int)}{res:(Int×Int×Int)⊕(Int×Int)}(h:iO p1 p2 p3 p4 p5 p6 o1 o2 o3 o4=some res):
  Does Try.prog 31 [.adr 0 0 10 0] (bK p1 p2 p3 p4 p5 p6 o1 o2 o3 o4) (jK (fun(q:Int×Int×Int)=>(.tup [],(bK p1 q.1 q.2.1 q.2.2 p5 p6 o1 o2 o3 o4))) (aR 40 .i64 .i64) res):=by
 refine Does.of_body bL Try.func31 (by kernel_rfl) rfl (nl rfl) (fun Bw w0=> ?_)
 unfold iO at h
 refine aD ?_
 obtain⟨z6,q6,h⟩:=aB h
 rcases z6 with⟨r11,r12⟩ | ⟨e11,e12⟩
 ·have u_1:=(aY q6)
  refine nW bL pK ⟨[],[(6,(oO u_1 [0,1,2,3,4]))]⟩ (.one 0 (.one 1 (.one 2 (.one 3 (.one 5 (.two 4 (.one 6 (.one 7 (.one 8 (.one 9 (.one 10 (.one 11 (.leaf))))))) 6 (.one 4 (.one 7 (.one 8 (.one 9 (.one 10 (.one 11 (.leaf))))))))))))) [([],[]),([],[]),([],[]),([],[]),([0],[]),([],[]),([0,1,2,3,4],[0,1,2,3,4,53,54,55,56,57,58,59,60]),([],[]),([],[]),([],[]),([],[]),([0],[0])] 2 [] [] [0,1,2,3,4] [(0,.adr 0 0 10 0)] (bK p1 r12 (bY .or .u32 p3 r11) p4 p5 p6 o1 o2 o3 o4) 5 5 (Ts 6 ((pO u_1)::(pO u_1)::(Ts 11 []))) (by kernel_rfl) (by kernel_rfl) (tr 6 ⟨u_1,u_1,(tr 11 tt)⟩) (fun _=> ?_) (fun y hy=>by cases hy)
  refine aA ?_
  obtain⟨z8,q8,h⟩:=aB h
  rcases z8 with⟨r15,r16⟩ | ⟨e15,e16⟩
  ·have u_1:=(aY q8)
   refine nW bL pK ⟨[],[(6,(oO u_1 [0,1,2,3,4]))]⟩ (.one 0 (.one 1 (.one 2 (.one 3 (.one 5 (.two 4 (.one 6 (.one 7 (.one 8 (.one 9 (.one 10 (.one 11 (.leaf))))))) 6 (.one 4 (.one 7 (.one 8 (.one 9 (.one 10 (.one 11 (.leaf))))))))))))) [([],[]),([],[]),([],[]),([],[]),([0],[]),([],[]),([0,1,2,3,4],[0,1,2,3,4,53,54,55,56,57,58,59,60]),([],[]),([],[]),([],[]),([],[]),([0],[0])] 2 [] [] [0,1,2,3,4] [] (bK p1 r16 (bY .or .u32 p3 r11) (bY .or .u32 p4 r15) p5 p6 o1 o2 o3 o4) 5 5 (Ts 6 ((pO u_1)::(pO u_1)::(Ts 11 []))) (by kernel_rfl) (by kernel_rfl) (tr 6 ⟨u_1,u_1,(tr 11 tt)⟩) (fun _=> ?_) (fun y hy=>by cases hy)
   obtain rfl:=sI h
   exact(aE [] [] [0,1,2,3,4] [] (bK p1 r16 (bY .or .u32 p3 r11) (bY .or .u32 p4 r15) p5 p6 o1 o2 o3 o4) 5 5 (by kernel_rfl) (by kernel_rfl) (by kernel_rfl)).normal
  have u_1:=(aY q8)
  refine nW bL pK ⟨[],[(6,(oD u_1 [0,1,2,3,4]))]⟩ (.one 0 (.one 1 (.one 2 (.one 3 (.one 5 (.twoD 4 (.dead 6) 6)))))) [([],[]),([],[]),([],[]),([],[]),([0],[]),([],[]),([0,1,2,3,4],[0,1,2,3,4,53,54,55,56,57,58,59,60]),([],[]),([],[]),([],[]),([],[]),([],[])] 0 [(aR 40 .i64 .i64 (e15,e16)),(aR 40 .i64 .i64 (e15,e16))] [] [0,1,2,3,4] [] [] 5 5 (Ts 6 [Dies Try.prog 50 [.adr 0 0 10 0,.u8 (59:Int)] (bK p1 r12 (bY .or .u32 p3 r11) p4 p5 p6 o1 o2 o3 o4) (aR 40 .i64 .i64 (e15,e16)),Dies Try.prog 50 [.adr 0 0 10 0,.u8 (59:Int)] (bK p1 r12 (bY .or .u32 p3 r11) p4 p5 p6 o1 o2 o3 o4) (aR 40 .i64 .i64 (e15,e16))]) (by kernel_rfl) (by kernel_rfl) (tr 6 ⟨(aY q8),(aY q8),tt⟩) (fun h0=>absurd rfl h0) (fun y hy σ1=> ?_)
  obtain rfl:y=(aR 40 .i64 .i64 (e15,e16)):=by simpa using hy
  obtain rfl:=sI h
  exact rfl
 have u_1:=(aY q6)
 refine nW bL pK ⟨[],[(6,(oD u_1 [0,1,2,3,4]))]⟩ (.one 0 (.one 1 (.one 2 (.one 3 (.one 5 (.twoD 4 (.dead 6) 6)))))) [([],[]),([],[]),([],[]),([],[]),([0],[]),([],[]),([0,1,2,3,4],[0,1,2,3,4,53,54,55,56,57,58,59,60]),([],[]),([],[]),([],[]),([],[]),([],[])] 0 [(aR 40 .i64 .i64 (e11,e12)),(aR 40 .i64 .i64 (e11,e12))] [] [0,1,2,3,4] [] [] 5 5 (Ts 6 [Dies Try.prog 50 [.adr 0 0 10 0,.u8 (47:Int)] (bK p1 p2 p3 p4 p5 p6 o1 o2 o3 o4) (aR 40 .i64 .i64 (e11,e12)),Dies Try.prog 50 [.adr 0 0 10 0,.u8 (47:Int)] (bK p1 p2 p3 p4 p5 p6 o1 o2 o3 o4) (aR 40 .i64 .i64 (e11,e12))]) (by kernel_rfl) (by kernel_rfl) (tr 6 ⟨(aY q6),(aY q6),tt⟩) (fun h0=>absurd rfl h0) (fun y hy σ1=> ?_)
 obtain rfl:y=(aR 40 .i64 .i64 (e11,e12)):=by simpa using hy
 refine aF ?_
 obtain rfl:=sI h
 exact rfl
def j8(p1:List UInt8)(p2 p3 p4 p5 p6:Int)(o1:List (List UInt8))(o2:List Int)(o3:List (Int×Tree×Tree))(o4:List ((List UInt8)×Int)):Option ((Int×Int)⊕(Int×Int)) :=
 ((fC p1 p2 p3 p4 p5 p6 o1 o2 o3 o4).bind fun(z6:((List UInt8)×Int×Int)⊕(Int×Int))=>match z6 with
 | .inr (e11,e12)=>some (Sum.inr (e11,e12))
 | .inl (r13,r14,r15)=>((bV o1 r13).bind fun r17 =>
 (if(decide (r17<(0:Int)))=true then((dH (22:Int) r14 p1 r15 p3 p4 p5 p6 o1 o2 o3 o4).bind fun(z8:(Unit)⊕(Int×Int))=>match z8 with
 | .inr (e15,e16)=>some (Sum.inr (e15,e16))
 | .inl _=>none)
 else some (Sum.inl (r17,r15)))))
theorem gD{p1:List UInt8}{p2:Int}{p3:Int}{p4:Int}{p5:Int}{p6:Int}{o1:List (List UInt8)}{o2:List Int}{o3:List (Int×Tree×Tree)}{o4:List ((List UInt8)×Int)}{res:(Int×Int)⊕(Int×Int)}(h:j8 p1 p2 p3 p4 p5 p6 o1 o2 o3 o4=some res):
  Does Try.prog 51 [.adr 0 0 10 0] (bK p1 p2 p3 p4 p5 p6 o1 o2 o3 o4) (jK (fun(q:Int×Int)=>(.i64 q.1,(bK p1 q.2 p3 p4 p5 p6 o1 o2 o3 o4))) (aR 40 .i64 .i64) res):=by
 refine Does.of_body bL Try.func51 (by kernel_rfl) rfl (nl rfl) (fun Bw w0=> ?_)
 unfold j8 at h
 refine G (aD ?_)
 obtain⟨z6,q8,h⟩:=aB h
 rcases z6 with⟨r13,r14,r15⟩ | ⟨e11,e12⟩
 ·refine jH 1 [0,1,2,3,4] (dP q8) (aA ?_)
  obtain⟨r17,q10,h⟩:=aB h
  refine GP 6 (i9 true q10) (aD (G (aU h (fun hb2 h=> ?_) (fun hb2 h=> ?_))))
  ·obtain⟨z8,q12,h⟩:=aB h
   rcases z8 with _ | ⟨e15,e16⟩
   ·cases h
   refine GX 2 [0,1,2,3,4] (b0 q12) (fun _=>aF ?_)
   obtain rfl:=sI h
   exact rfl
  refine aC (aA (G (aN ?_)))
  obtain rfl:=sI h
  exact aE [some (.int .i64)] [] [0,1,2,3,4] [(2,.i64 r17)] (bK p1 r15 p3 p4 p5 p6 o1 o2 o3 o4) 5 5 (by kernel_rfl) (by kernel_rfl) (by kernel_rfl)
 refine GX 1 [0,1,2,3,4] (dP q8) (fun _=>aF ?_)
 obtain rfl:=sI h
 exact rfl
def g8(p1:List UInt8)(p2 p3 p4 p5 p6:Int)(o1:List (List UInt8))(o2:List Int)(o3:List (Int×Tree×Tree))(o4:List ((List UInt8)×Int)):Option ((Int×List Int)⊕(Int×Int)) :=
 ((j8 p1 p2 p3 p4 p5 p6 o1 o2 o3 o4).bind fun(z10:(Int×Int)⊕(Int×Int))=>match z10 with
 | .inr (e19,e20)=>some (Sum.inr (e19,e20))
 | .inl (r15,r16)=>((eH (61:Int) p1 r16 p3 p4 p5 p6 o1 o2 o3 o4).bind fun(z12:(Int)⊕(Int×Int))=>match z12 with
 | .inr (e23,e24)=>some (Sum.inr (e23,e24))
 | .inl r18=>((j8 p1 r18 p3 p4 p5 p6 o1 o2 o3 o4).bind fun(z14:(Int×Int)⊕(Int×Int))=>match z14 with
 | .inr (e27,e28)=>some (Sum.inr (e27,e28))
 | .inl (r21,r22)=>(if 0≤r15∧r15<(o2.length:Int)then(if r15.toNat<o2.length then((eH (59:Int) p1 r22 p3 p4 p5 p6 o1 (o2.set r15.toNat r21) o3 o4).bind fun(z16:(Int)⊕(Int×Int))=>match z16 with
 | .inr (e31,e32)=>some (Sum.inr (e31,e32))
 | .inl r24=>some (Sum.inl (r24,(o2.set r15.toNat r21))))else none)else none))))
theorem n9{p1:List UInt8}{p2:Int}{p3:Int}{p4:Int}{p5:Int}{p6:Int}{o1:List (List UInt8)}{o2:List Int}{o3:List (Int×Tree×Tree)}{o4:List ((List UInt8)×Int)}{res:(Int×List Int)⊕(Int×Int)}(h:g8 p1 p2 p3 p4 p5 p6 o1 o2 o3 o4=some res):
  Does Try.prog 32 [.adr 0 0 10 0] (bK p1 p2 p3 p4 p5 p6 o1 o2 o3 o4) (jK (fun(q:Int×List Int)=>(.tup [],(bK p1 q.1 p3 p4 p5 p6 o1 q.2 o3 o4))) (aR 40 .i64 .i64) res):=by
 refine Does.of_body bL Try.func32 (by kernel_rfl) rfl (nl rfl) (fun Bw w0=> ?_)
 unfold g8 at h
 refine aD ?_
 obtain⟨z10,q10,h⟩:=aB h
 rcases z10 with⟨r15,r16⟩ | ⟨e19,e20⟩
 ·refine jH 1 [0,1,2,3,4] (gD q10) (aA (aD ?_))
  obtain⟨z12,q12,h⟩:=aB h
  rcases z12 with r18 | ⟨e23,e24⟩
  ·refine jH 1 [0,1,2,3,4] (bX q12) (aA (aD ?_))
   obtain⟨z14,q14,h⟩:=aB h
   rcases z14 with⟨r21,r22⟩ | ⟨e27,e28⟩
   ·obtain⟨c7,c8,h⟩:=g2 h
    have u_1:=(gD q14)
    refine nW bL pK ⟨[],[(7,(oO u_1 [0,1,2,3,4]))]⟩ (.one 0 (.one 1 (.one 2 (.one 3 (.one 5 (.one 6 (.two 4 (.one 7 (.one 8 (.one 9 (.leaf)))) 7 (.one 4 (.one 8 (.one 9 (.leaf))))))))))) [([],[]),([],[]),([],[]),([],[]),([0],[]),([],[]),([],[]),([0,1,2,3,4],[0,1,2,3,4,101,102,103,104,105,106,107,108]),([2],[]),([2],[2])] 2 [] [] [0,1,2,3,4] [(0,.adr 0 0 10 0)] (bK p1 r22 p3 p4 p5 p6 o1 (o2.set r15.toNat r21) o3 o4) 5 5 (Ts 7 [pO u_1,pO u_1,0≤r15∧r15<(o2.length:Int),r15.toNat<o2.length,True,0≤r15∧r15<(o2.length:Int),r15.toNat<o2.length]) (by kernel_rfl) (by kernel_rfl) (tr 7 ⟨u_1,u_1,c7,c8,tt,c7,c8,tt⟩) (fun _=> ?_) (fun y hy=>by cases hy)
    refine aA ?_
    obtain⟨z16,q16,h⟩:=aB h
    rcases z16 with r24 | ⟨e31,e32⟩
    ·refine jH 1 [0,1,2,3,4] (bX q16) ?_
     obtain rfl:=sI h
     exact(aE [] [] [0,1,2,3,4] [] (bK p1 r24 p3 p4 p5 p6 o1 (o2.set r15.toNat r21) o3 o4) 5 5 (by kernel_rfl) (by kernel_rfl) (by kernel_rfl)).normal
    refine GX 1 [0,1,2,3,4] (bX q16) (fun _=> ?_)
    obtain rfl:=sI h
    exact rfl
   have u_1:=(gD q14)
   refine nW bL pK ⟨[],[(7,(oD u_1 [0,1,2,3,4]))]⟩ (.one 0 (.one 1 (.one 2 (.one 3 (.one 5 (.one 6 (.twoD 4 (.dead 7) 7))))))) [([],[]),([],[]),([],[]),([],[]),([0],[]),([],[]),([],[]),([0,1,2,3,4],[0,1,2,3,4,101,102,103,104,105,106,107,108]),([],[]),([],[])] 0 [(aR 40 .i64 .i64 (e27,e28)),(aR 40 .i64 .i64 (e27,e28))] [] [0,1,2,3,4] [] [] 5 5 (Ts 7 [Dies Try.prog 51 [.adr 0 0 10 0] (bK p1 r18 p3 p4 p5 p6 o1 o2 o3 o4) (aR 40 .i64 .i64 (e27,e28)),Dies Try.prog 51 [.adr 0 0 10 0] (bK p1 r18 p3 p4 p5 p6 o1 o2 o3 o4) (aR 40 .i64 .i64 (e27,e28))]) (by kernel_rfl) (by kernel_rfl) (tr 7 ⟨(gD q14),(gD q14),tt⟩) (fun h0=>absurd rfl h0) (fun y hy σ1=> ?_)
   obtain rfl:y=(aR 40 .i64 .i64 (e27,e28)):=by simpa using hy
   refine aF ?_
   obtain rfl:=sI h
   exact rfl
  refine GX 1 [0,1,2,3,4] (bX q12) (fun _=>aF ?_)
  obtain rfl:=sI h
  exact rfl
 refine GX 1 [0,1,2,3,4] (gD q10) (fun _=>aF ?_)
 obtain rfl:=sI h
 exact rfl
def jF(rec_pq_either_v1:(List UInt8)→Int→Int→Int→Int→Int→(List (List UInt8))→(List Int)→(List (Int×Tree×Tree))→(List ((List UInt8)×Int))→Option ((Tree×Int×Int×Int)⊕(Int×Int)))(d1:List UInt8)(d2 d3 d4 d5 d6:Int)(o1:List (List UInt8))(o2:List Int)(o3:List (Int×Tree×Tree))(o4:List ((List UInt8)×Int)):Option ((Tree×Int×Int×Int)⊕(Int×Int)) :=
 ((aJ (40:Int) d1 d2 d3 d4 d5 d6 o1 o2 o3 o4).bind fun(z30:(Bool×Int)⊕(Int×Int))=>match z30 with
 | .inr (e61,e62)=>some (Sum.inr (e61,e62))
 | .inl (r55,r56)=>(if r55=true then(if(decide ((IntKind.i64.wrap (d6+(1:Int))) > (16:Int)))=true then((dH (25:Int) d2 d1 r56 d3 d4 d5 (IntKind.i64.wrap (d6+(1:Int))) o1 o2 o3 o4).bind fun(z32:(Unit)⊕(Int×Int))=>match z32 with
 | .inr (e65,e66)=>some (Sum.inr (e65,e66))
 | .inl _=>none)
 else((rec_pq_either_v1 d1 r56 d3 d4 d5 (IntKind.i64.wrap (d6+(1:Int))) o1 o2 o3 o4).bind fun(z34:(Tree×Int×Int×Int)⊕(Int×Int))=>match z34 with
 | .inr (e69,e70)=>some (Sum.inr (e69,e70))
 | .inl (r61,r62,r63,r64)=>((eH (41:Int) d1 r62 d3 d4 r63 r64 o1 o2 o3 o4).bind fun(z36:(Int)⊕(Int×Int))=>match z36 with
 | .inr (e73,e74)=>some (Sum.inr (e73,e74))
 | .inl r66=>some (Sum.inl ((Tree.node r61.op r61.set r61.kids),r66,r63,(IntKind.i64.wrap (r64 - (1:Int))))))))
 else(if(decide ((IntKind.i64.wrap (d5+(1:Int))) > (200:Int)))=true then((dH (26:Int) d2 d1 r56 d3 d4 (IntKind.i64.wrap (d5+(1:Int))) d6 o1 o2 o3 o4).bind fun(z38:(Unit)⊕(Int×Int))=>match z38 with
 | .inr (e77,e78)=>some (Sum.inr (e77,e78))
 | .inl _=>none)
 else(if 0≤(o1.length:Int)then((aJ (46:Int) d1 r56 d3 d4 (IntKind.i64.wrap (d5+(1:Int))) d6 o1 o2 o3 o4).bind fun(z40:(Bool×Int)⊕(Int×Int))=>match z40 with
 | .inr (e81,e82)=>some (Sum.inr (e81,e82))
 | .inl (r69,r70)=>(((if r69=true then some ((Sum.inl ((IntKind.u32.wrap ((IntKind.u32.wrap ((1:Int)*2 ^ (min (o1.length:Int).toNat IntKind.u32.bits))) - (1:Int))),r70)))
 else((aJ (91:Int) d1 r70 d3 d4 (IntKind.i64.wrap (d5+(1:Int))) d6 o1 o2 o3 o4).bind fun(z50:(Bool×Int)⊕(Int×Int))=>match z50 with
 | .inr (e103,e104)=>some ((Sum.inr (e103,e104)))
 | .inl (r89,r90)=>(if r89=true then((aJ (94:Int) d1 r90 d3 d4 (IntKind.i64.wrap (d5+(1:Int))) d6 o1 o2 o3 o4).bind fun(z52:(Bool×Int)⊕(Int×Int))=>match z52 with
 | .inr (e107,e108)=>some ((Sum.inr (e107,e108)))
 | .inl (r93,r94)=>((cH (93:Int) d1 r94 d3 d4 (IntKind.i64.wrap (d5+(1:Int))) d6 o1 o2 o3 o4).bind fun(z54:(Int×Int)⊕(Int×Int))=>match z54 with
 | .inr (e111,e112)=>some ((Sum.inr (e111,e112)))
 | .inl (r97,r98)=>(if r93=true then some ((Sum.inl ((bY .andNot .u32 (IntKind.u32.wrap ((IntKind.u32.wrap ((1:Int)*2 ^ (min (o1.length:Int).toNat IntKind.u32.bits))) - (1:Int))) r97),r98)))
 else some ((Sum.inl (r97,r98))))))
 else((dN d1 r90 d3 d4 (IntKind.i64.wrap (d5+(1:Int))) d6 o1 o2 o3 o4).bind fun(z56:(Int×Int)⊕(Int×Int))=>match z56 with
 | .inr (e115,e116)=>some ((Sum.inr (e115,e116)))
 | .inl (r101,r102)=>some ((Sum.inl (r101,r102)))))))).bind fun(r103:((Int×Int)⊕(Int×Int)))=>match r103 with
 | .inl (v6,v7)=>some (Sum.inl ((Tree.node (1:Int) v6 ([]:List Tree)),v7,(IntKind.i64.wrap (d5+(1:Int))),d6))
 | .inr ((e99,e100))=>some (Sum.inr (e99,e100))))else none))))
theorem nK(rec_pq_either_v1:(List UInt8)→Int→Int→Int→Int→Int→(List (List UInt8))→(List Int)→(List (Int×Tree×Tree))→(List ((List UInt8)×Int))→Option ((Tree×Int×Int×Int)⊕(Int×Int)))(hrec_pq_either_v1:∀ {p1:List UInt8} {p2:Int} {p3:Int} {p4:Int} {p5:Int} {p6:Int} {o1:List (List UInt8)} {o2:List Int} {o3:List (Int×Tree×Tree)} {o4:List ((List UInt8)×Int)} {res:(Tree×Int×Int×Int)⊕(Int×Int)},rec_pq_either_v1 p1 p2 p3 p4 p5 p6 o1 o2 o3 o4=some res→Does Try.prog 55 [.adr 0 0 10 0] (bK p1 p2 p3 p4 p5 p6 o1 o2 o3 o4) (jK (fun(q:Tree×Int×Int×Int)=>(.agg [.u8 q.1.op,.u32 q.1.set,.p false (.slice (.tree .u8 .u32)) q.1.kids],(bK p1 q.2.1 p3 p4 q.2.2.1 q.2.2.2 o1 o2 o3 o4))) (aR 40 .i64 .i64) res)){d1:List UInt8}{d2:Int}{d3:Int}{d4:Int}{d5:Int}{d6:Int}{o1:List (List UInt8)}{o2:List Int}{o3:List (Int×Tree×Tree)}{o4:List ((List UInt8)×Int)}{res:(Tree×Int×Int×Int)⊕(Int×Int)}(h:jF rec_pq_either_v1 d1 d2 d3 d4 d5 d6 o1 o2 o3 o4=some res):
  Does Try.prog 67 [.adr 0 0 10 0] (bK d1 d2 d3 d4 d5 d6 o1 o2 o3 o4) (jK (fun(q:Tree×Int×Int×Int)=>(.agg [.u8 q.1.op,.u32 q.1.set,.p false (.slice (.tree .u8 .u32)) q.1.kids],(bK d1 q.2.1 d3 d4 q.2.2.1 q.2.2.2 o1 o2 o3 o4))) (aR 40 .i64 .i64) res):=by
 refine Does.of_body bL Try.func67 (by kernel_rfl) rfl (nl rfl) (fun Bw w0=> ?_)
 unfold jF at h
 refine G (G (aD (aD ?_)))
 obtain⟨z30,q30,h⟩:=aB h
 rcases z30 with⟨r55,r56⟩ | ⟨e61,e62⟩
 ·refine jH 1 [0,1,2,3,4] (bE q30) (aA (aU h (fun hb10 h=> ?_) (fun hb10 h=> ?_)))
  ·refine aD (G (G (aU h (fun hb11 h=> ?_) (fun hb11 h=> ?_))))
   ·obtain⟨z32,q32,h⟩:=aB h
    rcases z32 with _ | ⟨e65,e66⟩
    ·cases h
    refine GX 2 [0,1,2,3,4] (b0 q32) (fun _=>aF (aF ?_))
    obtain rfl:=sI h
    exact rfl
   refine aC (aA (aD ?_))
   obtain⟨z34,q34,h⟩:=aB h
   rcases z34 with⟨r61,r62,r63,r64⟩ | ⟨e69,e70⟩
   ·refine jH 1 [0,1,2,3,4] (hrec_pq_either_v1 q34) (aA (aD ?_))
    obtain⟨z36,q36,h⟩:=aB h
    rcases z36 with r66 | ⟨e73,e74⟩
    ·refine jH 1 [0,1,2,3,4] (bX q36) (aA (G (G (aN (aG ?_)))))
     obtain rfl:=sI h
     exact aE [some (.tree .u8 .u32)] [] [0,1,2,3,4,5] [(2,.adr 5 0 3 0)] (aAB d1 r66 d3 d4 r63 (IntKind.i64.wrap (r64 - (1:Int))) o1 o2 o3 o4 r61.op r61.set r61.kids) 6 5 (by kernel_rfl) (by kernel_rfl) (by kernel_rfl)
    refine GX 1 [0,1,2,3,4] (bX q36) (fun _=>aF (aF ?_))
    obtain rfl:=sI h
    exact rfl
   refine GX 1 [0,1,2,3,4] (hrec_pq_either_v1 q34) (fun _=>aF (aF ?_))
   obtain rfl:=sI h
   exact rfl
  refine aC (aA (aD (G (G (aU h (fun hb12 h=> ?_) (fun hb12 h=> ?_))))))
  ·obtain⟨z38,q38,h⟩:=aB h
   rcases z38 with _ | ⟨e77,e78⟩
   ·cases h
   refine GX 2 [0,1,2,3,4] (b0 q38) (fun _=>aF ?_)
   obtain rfl:=sI h
   exact rfl
  refine aC (aA (G (GC 6 h (fun h=>aD (aK (aD ?_))))))
  obtain⟨z40,q40,h⟩:=aB h
  rcases z40 with⟨r69,r70⟩ | ⟨e81,e82⟩
  ·refine jH 1 [0,1,2,3,4] (bE q40) (aA (aBX h (fT (vY Try.f67.ntmps (fun(v6,v7)=>aQ [(2,.adr 5 0 3 0),(5,.adr 6 0 3 0)] (aCZ d1 v7 d3 d4 (IntKind.i64.wrap (d5+(1:Int))) d6 o1 o2 o3 o4 (0:Int) (0:Int) (1:Int) v6) 7 5)) (rH (aR 40 .i64 .i64))) (fun r103 h=> ?_) (fun r103 h e σ' hq=> ?_)))
   ·refine aU h (fun hb16 h=> ?_) (fun hb16 h=> ?_)
    ·refine Ge ?_
     obtain rfl:=sI h
     refine cX ?_
     exact kJ (gg [] [0,1,2,3,4,5,181])
    refine aD ?_
    obtain⟨z50,q50,h⟩:=aB h
    rcases z50 with⟨r89,r90⟩ | ⟨e103,e104⟩
    ·refine jH 1 [0,1,2,3,4] (bE q50) (aA (aU h (fun hb17 h=> ?_) (fun hb17 h=> ?_)))
     ·refine aD ?_
      obtain⟨z52,q52,h⟩:=aB h
      rcases z52 with⟨r93,r94⟩ | ⟨e107,e108⟩
      ·refine jH 1 [0,1,2,3,4] (bE q52) (aA (aD ?_))
       obtain⟨z54,q54,h⟩:=aB h
       rcases z54 with⟨r97,r98⟩ | ⟨e111,e112⟩
       ·refine jH 1 [0,1,2,3,4] (aY q54) (aA (G (aU h (fun hb18 h=> ?_) (fun hb18 h=> ?_))))
        ·refine Ge ?_
         obtain rfl:=sI h
         refine cX ?_
         exact kJ (gg [] [0,1,2,3,4,5,181])
        refine aC ?_
        obtain rfl:=sI h
        refine cX ?_
        exact kJ (gg [] [0,1,2,3,4,5,181])
       refine GX 1 [0,1,2,3,4] (aY q54) (fun _=> ?_)
       obtain rfl:=sI h
       refine aF (aS ?_)
       exact rfl
      refine GX 1 [0,1,2,3,4] (bE q52) (fun _=> ?_)
      obtain rfl:=sI h
      refine aF (aS ?_)
      exact rfl
     obtain⟨z56,q56,h⟩:=aB h
     rcases z56 with⟨r101,r102⟩ | ⟨e115,e116⟩
     ·refine jH 1 [0,1,2,3,4] (hN q56) ?_
      obtain rfl:=sI h
      refine cX ?_
      exact kJ (gg [] [0,1,2,3,4,5,181])
     refine GX 1 [0,1,2,3,4] (hN q56) (fun _=> ?_)
     obtain rfl:=sI h
     refine aS ?_
     exact rfl
    refine GX 1 [0,1,2,3,4] (bE q50) (fun _=> ?_)
    obtain rfl:=sI h
    refine aF (aS ?_)
    exact rfl
   rcases r103 with⟨v6,v7⟩ | ⟨e99,e100⟩
   ·obtain⟨rfl,hle⟩:=hq
    refine fL ?_ hle
    refine aO (aA (G (aN ?_)))
    obtain rfl:=sI h
    exact aE [some (.tree .u8 .u32)] [] [0,1,2,3,4,5] [(2,.adr 5 0 3 0)] (aB4 d1 v7 d3 d4 (IntKind.i64.wrap (d5+(1:Int))) d6 o1 o2 o3 o4 (1:Int) v6) 6 5 (by kernel_rfl) (by kernel_rfl) (by kernel_rfl)
   obtain rfl:=hq
   refine bD (aF ?_)
   obtain rfl:=sI h
   exact rfl
  refine GX 1 [0,1,2,3,4] (bE q40) (fun _=>aF (bD (aF ?_)))
  obtain rfl:=sI h
  exact rfl
 refine GX 1 [0,1,2,3,4] (bE q30) (fun _=>aF (aF ?_))
 obtain rfl:=sI h
 exact rfl
def aV(p1:List UInt8)(p3 p4:Int)(o1:List (List UInt8))(o2:List Int)(o3:List (Int×Tree×Tree))(o4:List ((List UInt8)×Int))(r36:Tree)(r38 r39:Int):(Int×Int)→Option ((Int×Int)⊕((Int)⊕((Int×Int)⊕(Tree×Int×Int×Int)))):=fun(p15,v13) =>
 (if(decide (v13<(7:Int)))=true then(if 0≤v13∧v13<((7:Nat):Int)then(((if((([(0:Int),(0:Int),(0:Int),(0:Int),(42:Int),(43:Int),(63:Int)]:List Int).getD v13.toNat 0) != (0:Int))=true then((aJ (([(0:Int),(0:Int),(0:Int),(0:Int),(42:Int),(43:Int),(63:Int)]:List Int).getD v13.toNat 0) p1 p15 p3 p4 r38 r39 o1 o2 o3 o4).bind fun(z22:(Bool×Int)⊕(Int×Int))=>match z22 with
 | .inr (e59,e60)=>some ((Sum.inr (e59,e60)))
 | .inl (r62,r63)=>some ((Sum.inl (r63,r62))))
 else some ((Sum.inl (p15,false))))).bind fun(r64:((Int×Bool)⊕(Int×Int)))=>match r64 with
 | .inl (p16,v15)=>(if v15=true then some (Sum.inr (Sum.inr (Sum.inr ((Tree.node (IntKind.u8.wrap v13) (0:Int) ([(Tree.node r36.op r36.set r36.kids)]:List Tree)),p16,r38,r39))))
 else some (Sum.inl (p16,(IntKind.i64.wrap (v13+(1:Int))))))
 | .inr ((e57,e58))=>some (Sum.inr (Sum.inr (Sum.inl (e57,e58)))))else none)
 else some (Sum.inr (Sum.inl p15)))
def gX(rec_pq_either_v1:(List UInt8)→Int→Int→Int→Int→Int→(List (List UInt8))→(List Int)→(List (Int×Tree×Tree))→(List ((List UInt8)×Int))→Option ((Tree×Int×Int×Int)⊕(Int×Int)))(p1:List UInt8)(p2 p3 p4 p5 p6:Int)(o1:List (List UInt8))(o2:List Int)(o3:List (Int×Tree×Tree))(o4:List ((List UInt8)×Int)):Option ((Tree×Int×Int×Int)⊕(Int×Int)) :=
 ((jF rec_pq_either_v1 p1 p2 p3 p4 p5 p6 o1 o2 o3 o4).bind fun(z13:(Tree×Int×Int×Int)⊕(Int×Int))=>match z13 with
 | .inr (e33,e34)=>some (Sum.inr (e33,e34))
 | .inl (r36,r37,r38,r39)=>((iter (aV p1 p3 p4 o1 o2 o3 o4 r36 r38 r39) (r37,(0:Int))).bind fun(r65:((Int)⊕((Int×Int)⊕(Tree×Int×Int×Int))))=>match r65 with
 | .inl v14=>some (Sum.inl ((Tree.node r36.op r36.set r36.kids),v14,r38,r39))
 | .inr (.inl (e51,e52))=>some (Sum.inr (e51,e52))
 | .inr (.inr ((r54,r55,r56,r57)))=>some (Sum.inl (r54,r55,r56,r57))))
theorem nU(rec_pq_either_v1:(List UInt8)→Int→Int→Int→Int→Int→(List (List UInt8))→(List Int)→(List (Int×Tree×Tree))→(List ((List UInt8)×Int))→Option ((Tree×Int×Int×Int)⊕(Int×Int)))(hrec_pq_either_v1:∀ {p1:List UInt8} {p2:Int} {p3:Int} {p4:Int} {p5:Int} {p6:Int} {o1:List (List UInt8)} {o2:List Int} {o3:List (Int×Tree×Tree)} {o4:List ((List UInt8)×Int)} {res:(Tree×Int×Int×Int)⊕(Int×Int)},rec_pq_either_v1 p1 p2 p3 p4 p5 p6 o1 o2 o3 o4=some res→Does Try.prog 55 [.adr 0 0 10 0] (bK p1 p2 p3 p4 p5 p6 o1 o2 o3 o4) (jK (fun(q:Tree×Int×Int×Int)=>(.agg [.u8 q.1.op,.u32 q.1.set,.p false (.slice (.tree .u8 .u32)) q.1.kids],(bK p1 q.2.1 p3 p4 q.2.2.1 q.2.2.2 o1 o2 o3 o4))) (aR 40 .i64 .i64) res)){p1:List UInt8}{p2:Int}{p3:Int}{p4:Int}{p5:Int}{p6:Int}{o1:List (List UInt8)}{o2:List Int}{o3:List (Int×Tree×Tree)}{o4:List ((List UInt8)×Int)}{res:(Tree×Int×Int×Int)⊕(Int×Int)}(h:gX rec_pq_either_v1 p1 p2 p3 p4 p5 p6 o1 o2 o3 o4=some res):
  Does Try.prog 65 [.adr 0 0 10 0] (bK p1 p2 p3 p4 p5 p6 o1 o2 o3 o4) (jK (fun(q:Tree×Int×Int×Int)=>(.agg [.u8 q.1.op,.u32 q.1.set,.p false (.slice (.tree .u8 .u32)) q.1.kids],(bK p1 q.2.1 p3 p4 q.2.2.1 q.2.2.2 o1 o2 o3 o4))) (aR 40 .i64 .i64) res):=by
 refine Does.of_body bL Try.func65 (by kernel_rfl) rfl (nl rfl) (fun Bw w0=> ?_)
 unfold gX at h
 refine G (aD ?_)
 obtain⟨z13,q13,h⟩:=aB h
 rcases z13 with⟨r36,r37,r38,r39⟩ | ⟨e33,e34⟩
 ·refine jH 1 [0,1,2,3,4] (nK rec_pq_either_v1 hrec_pq_either_v1 q13) (aA (aD (G (aK ?_))))
  refine n0 h (fun(p15,v13)=>aQ [(0,.adr 0 0 10 0),(2,.adr 5 0 3 0),(3,.adr 6 0 3 0),(8,.agg [.u8 (0:Int),.u8 (0:Int),.u8 (0:Int),.u8 (0:Int),.u8 (42:Int),.u8 (43:Int),.u8 (63:Int)]),(9,.i64 v13)] (aA5 p1 p15 p3 p4 r38 r39 o1 o2 o3 o4 (0:Int) (0:Int) r36.op r36.set r36.kids) 7 5) (fT (gR Try.f65.ntmps 0 (fun v14=>aQ [(2,.adr 5 0 3 0),(3,.adr 6 0 3 0)] (aA5 p1 v14 p3 p4 r38 r39 o1 o2 o3 o4 (0:Int) (0:Int) r36.op r36.set r36.kids) 7 5)) (fT (rH (aR 40 .i64 .i64)) (sV tb Try.f65.ntmps Try.f65.results.toList (fun(r54,r55,r56,r57)=>(.agg [.u8 r54.op,.u32 r54.set,.p false (.slice (.tree .u8 .u32)) r54.kids],(bK p1 r55 p3 p4 r56 r57 o1 o2 o3 o4)))))) (gg [] [0,1,2,3,4,5,29]) (fun y o h=> ?_) (fun r65 h e σ' hq=> ?_)
  ·obtain⟨p15,v13⟩:=y
   unfold aV at h
   refine G (aD (aU h (fun hb26 h=> ?_) (fun hb26 h=> ?_)))
   ·refine aC (aA (aD (aK (GC 1 h (fun h=>aD (aBX h (fT (vY Try.f65.ntmps (fun(p16,v15)=>aQ [(0,.adr 0 0 10 0),(2,.adr 5 0 3 0),(3,.adr 6 0 3 0),(4,.i64 v13),(8,.agg [.u8 (0:Int),.u8 (0:Int),.u8 (0:Int),.u8 (0:Int),.u8 (42:Int),.u8 (43:Int),.u8 (63:Int)]),(9,.i64 v13),(19,.bo v15)] (aA5 p1 p16 p3 p4 r38 r39 o1 o2 o3 o4 (0:Int) (0:Int) r36.op r36.set r36.kids) 7 5)) (rH (aR 40 .i64 .i64))) (fun r64 h=> ?_) (fun r64 h e σ' hq=> ?_)))))))
    ·rcases aW h with⟨hb29,h⟩ | ⟨hb29,h⟩
     ·obtain⟨z22,q22,h⟩:=aB h
      rcases z22 with⟨r62,r63⟩ | ⟨e59,e60⟩
      ·have u_1:=(bE q22)
       refine dT ⟨[(2,true),(6,true)],[(5,(oO u_1 [0,1,2,3,4]))]⟩ [(3,4,an hb29),(5,5,oc (And.intro hb29 u_1)),(6,6,oc hb29)] ?_
       obtain rfl:=sI h
       refine cX ?_
       exact kJ (gg [] [0,1,2,3,4,5,6])
      have u_1:=(bE q22)
      refine GXn u_1 ⟨[(2,true)],[(5,(oD u_1 [0,1,2,3,4]))]⟩ 5 [(3,4,an hb29),(5,5,oc (And.intro hb29 u_1))] (fun _=> ?_)
      obtain rfl:=sI h
      refine aS ?_
      exact rfl
     refine dT ⟨[(2,false),(6,false)],[]⟩ [(3,6,oc hb29)] ?_
     obtain rfl:=sI h
     refine cX ?_
     exact kJ (gg [] [0,1,2,3,4,5,6])
    rcases r64 with⟨p16,v15⟩ | ⟨e57,e58⟩
    ·obtain⟨rfl,hle⟩:=hq
     refine fL ?_ hle
     refine aA (aU h (fun hb30 h=> ?_) (fun hb30 h=> ?_))
     ·refine G (aN ?_)
      obtain rfl:=sI h
      refine aM (aG (dX (aS (aS ?_))))
      exact j7 (aE [some (.tree .u8 .u32)] [] [0,1,2,3,4,5,31] [(2,.adr 5 0 3 0)] (aBy p1 p16 p3 p4 r38 r39 o1 o2 o3 o4 (IntKind.u8.wrap v13) (0:Int) ([(Tree.node r36.op r36.set r36.kids)]:List Tree)) 7 5 (by kernel_rfl) (by kernel_rfl) (by kernel_rfl))
     refine aC (aO (aA (Ge ?_)))
     exact eB h (gg [] [0,1,2,3,4,5,6])
    obtain rfl:=hq
    obtain rfl:=sI h
    refine aF (bD (aF (bS (aS (C5 ?_)))))
    exact rfl
   refine bA (eL ?_)
   obtain rfl:=sI h
   refine fV (cX ?_)
   exact dB (gg [] [0,1,2,3,4,5,6])
  rcases r65 with v14 | ⟨e51,e52⟩ | ⟨r54,r55,r56,r57⟩
  ·obtain⟨rfl,hle⟩:=hq
   refine fL ?_ hle
   refine bB (aA (G (aN ?_)))
   obtain rfl:=sI h
   exact aE [some (.tree .u8 .u32)] [] [0,1,2,3,4,5] [(2,.adr 5 0 3 0)] (aAB p1 v14 p3 p4 r38 r39 o1 o2 o3 o4 r36.op r36.set r36.kids) 6 5 (by kernel_rfl) (by kernel_rfl) (by kernel_rfl)
  ·obtain rfl:=hq
   refine bD (aF ?_)
   obtain rfl:=sI h
   exact rfl
  obtain⟨rfl,hr⟩:=hq
  refine aM (aG ?_)
  obtain rfl:=sI h
  exact hr
 refine GX 1 [0,1,2,3,4] (nK rec_pq_either_v1 hrec_pq_either_v1 q13) (fun _=>aF ?_)
 obtain rfl:=sI h
 exact rfl
def dZ(p1:List UInt8)(p3 p4:Int)(o1:List (List UInt8))(o2:List Int)(o3:List (Int×Tree×Tree))(o4:List ((List UInt8)×Int))(rec_pq_either_v1:(List UInt8)→Int→Int→Int→Int→Int→(List (List UInt8))→(List Int)→(List (Int×Tree×Tree))→(List ((List UInt8)×Int))→Option ((Tree×Int×Int×Int)⊕(Int×Int))):(Int×Int×Int×(List Tree)×Int)→Option ((Int×Int×Int×(List Tree)×Int)⊕(((List Tree)×Int×Int×Int)⊕(Int×Int))):=fun(p16,p17,p18,l5,c4) =>
 ((((cS c4).bind fun r88 =>
 (if r88=true then some (true)
 else(if(c4 == (40:Int))=true then some (true)
 else(if(c4 == (91:Int))=true then some (true)
 else some ((c4 == (46:Int)))))))).bind fun v15=>(if v15=true then((gX rec_pq_either_v1 p1 p16 p3 p4 p17 p18 o1 o2 o3 o4).bind fun(z26:(Tree×Int×Int×Int)⊕(Int×Int))=>match z26 with
 | .inr (e55,e56)=>some (Sum.inr (Sum.inr (e55,e56)))
 | .inl (r93,r94,r95,r96)=>(if(l5.length+([(Tree.node r93.op r93.set r93.kids)]:List Tree).length)*32≤140737488355328∧l5.length+([(Tree.node r93.op r93.set r93.kids)]:List Tree).length≤9223372036854775807 then((dV p1 r94 p3 p4 r95 r96 o1 o2 o3 o4).bind fun(z28:(Int×Int)⊕(Int×Int))=>match z28 with
 | .inr (e59,e60)=>some (Sum.inr (Sum.inr (e59,e60)))
 | .inl (r99,r100)=>some (Sum.inl (r100,r95,r96,(l5++([(Tree.node r93.op r93.set r93.kids)]:List Tree)),r99)))else none))
 else some (Sum.inr (Sum.inl (l5,p16,p17,p18)))))
def iN(rec_pq_either_v1:(List UInt8)→Int→Int→Int→Int→Int→(List (List UInt8))→(List Int)→(List (Int×Tree×Tree))→(List ((List UInt8)×Int))→Option ((Tree×Int×Int×Int)⊕(Int×Int)))(p1:List UInt8)(p2 p3 p4 p5 p6:Int)(o1:List (List UInt8))(o2:List Int)(o3:List (Int×Tree×Tree))(o4:List ((List UInt8)×Int)):Option ((Tree×Int×Int×Int)⊕(Int×Int)) :=
 ((dV p1 p2 p3 p4 p5 p6 o1 o2 o3 o4).bind fun(z16:(Int×Int)⊕(Int×Int))=>match z16 with
 | .inr (e33,e34)=>some (Sum.inr (e33,e34))
 | .inl (r54,r55)=>((iter (dZ p1 p3 p4 o1 o2 o3 o4 rec_pq_either_v1) (r55,p5,p6,([]:List Tree),r54)).bind fun(r101:(((List Tree)×Int×Int×Int)⊕(Int×Int)))=>match r101 with
 | .inl (l6,v12,v13,v14)=>(if((l6.length:Int) == (0:Int))=true then some (Sum.inl ((Tree.node (0:Int) (0:Int) ([]:List Tree)),v12,v13,v14))
 else(if((l6.length:Int) == (1:Int))=true then(if 0≤(0:Int)∧(0:Int)<(l6.length:Int)then(if(0:Int).toNat<l6.length then some (Sum.inl ((Tree.node ((l6.getD ((0:Int).toNat) (Tree.node 0 0 [])).op) ((l6.getD ((0:Int).toNat) (Tree.node 0 0 [])).set) ((l6.getD ((0:Int).toNat) (Tree.node 0 0 [])).kids)),v12,v13,v14))else none)else none)
 else some (Sum.inl ((Tree.node (2:Int) (0:Int) l6),v12,v13,v14))))
 | .inr ((e51,e52))=>some (Sum.inr (e51,e52))))
theorem jW(rec_pq_either_v1:(List UInt8)→Int→Int→Int→Int→Int→(List (List UInt8))→(List Int)→(List (Int×Tree×Tree))→(List ((List UInt8)×Int))→Option ((Tree×Int×Int×Int)⊕(Int×Int)))(hrec_pq_either_v1:∀ {p1:List UInt8} {p2:Int} {p3:Int} {p4:Int} {p5:Int} {p6:Int} {o1:List (List UInt8)} {o2:List Int} {o3:List (Int×Tree×Tree)} {o4:List ((List UInt8)×Int)} {res:(Tree×Int×Int×Int)⊕(Int×Int)},rec_pq_either_v1 p1 p2 p3 p4 p5 p6 o1 o2 o3 o4=some res→Does Try.prog 55 [.adr 0 0 10 0] (bK p1 p2 p3 p4 p5 p6 o1 o2 o3 o4) (jK (fun(q:Tree×Int×Int×Int)=>(.agg [.u8 q.1.op,.u32 q.1.set,.p false (.slice (.tree .u8 .u32)) q.1.kids],(bK p1 q.2.1 p3 p4 q.2.2.1 q.2.2.2 o1 o2 o3 o4))) (aR 40 .i64 .i64) res)){p1:List UInt8}{p2:Int}{p3:Int}{p4:Int}{p5:Int}{p6:Int}{o1:List (List UInt8)}{o2:List Int}{o3:List (Int×Tree×Tree)}{o4:List ((List UInt8)×Int)}{res:(Tree×Int×Int×Int)⊕(Int×Int)}(h:iN rec_pq_either_v1 p1 p2 p3 p4 p5 p6 o1 o2 o3 o4=some res):
  Does Try.prog 62 [.adr 0 0 10 0] (bK p1 p2 p3 p4 p5 p6 o1 o2 o3 o4) (jK (fun(q:Tree×Int×Int×Int)=>(.agg [.u8 q.1.op,.u32 q.1.set,.p false (.slice (.tree .u8 .u32)) q.1.kids],(bK p1 q.2.1 p3 p4 q.2.2.1 q.2.2.2 o1 o2 o3 o4))) (aR 40 .i64 .i64) res):=by
 refine Does.of_body bL Try.func62 (by kernel_rfl) rfl (nl rfl) (fun Bw w0=> ?_)
 unfold iN at h
 refine G (G (aD (aD ?_)))
 obtain⟨z16,q25,h⟩:=aB h
 rcases z16 with⟨r54,r55⟩ | ⟨e33,e34⟩
 ·refine jH 1 [0,1,2,3,4] (bI q25) (aA (aK (n0 h (fun(p16,p17,p18,l5,c4)=>aQ [(0,.adr 0 0 10 0),(2,.adr 5 0 3 0),(3,.sl 6),(4,.u8 c4)] (Z6 p1 p16 p3 p4 p17 p18 o1 o2 o3 o4 (0:Int) (0:Int) l5) 7 5) (fT (gR Try.f62.ntmps 0 (fun(l6,v12,v13,v14)=>aQ [(2,.adr 5 0 3 0),(3,.sl 6)] (Z6 p1 v12 p3 p4 v13 v14 o1 o2 o3 o4 (0:Int) (0:Int) l6) 7 5)) (rH (aR 40 .i64 .i64))) (gg [.nilS 3 45 50 (.tree .u8 .u32)] [0,1,2,3,4,5,45]) (fun y o h=> ?_) (fun r101 h e σ' hq=> ?_))))
  ·obtain⟨p16,p17,p18,l5,c4⟩:=y
   unfold dZ at h
   refine aD (aD (eM h (fun v15=>aQ [(0,.adr 0 0 10 0),(2,.adr 5 0 3 0),(3,.sl 6),(20,.bo v15)] (Z6 p1 p16 p3 p4 p17 p18 o1 o2 o3 o4 (0:Int) (0:Int) l5) 7 5) (fun v15 h=> ?_) (fun v15 h=> ?_)))
   ·obtain⟨r88,q42,h⟩:=aB h
    rcases aW h with⟨hb59,h⟩ | ⟨hb59,h⟩
    ·have u_1:=(cU q42)
     refine dT ⟨[(2,true),(5,true)],[(1,(oP u_1))]⟩ [(1,1,oc u_1),(3,5,oc hb59)] ?_
     exact eN h (gg [] [0,1,2,3,4,5,6])
    rcases aW h with⟨hb60,h⟩ | ⟨hb60,h⟩
    ·have u_1:=(cU q42)
     refine dT ⟨[(2,false),(5,false),(6,true),(9,true)],[(1,(oP u_1))]⟩ [(1,1,oc u_1),(3,4,an hb59),(5,5,oc hb59),(7,9,oc hb60)] ?_
     exact eN h (gg [] [0,1,2,3,4,5,6])
    rcases aW h with⟨hb61,h⟩ | ⟨hb61,h⟩
    ·have u_1:=(cU q42)
     refine dT ⟨[(2,false),(5,false),(6,false),(9,false),(10,true),(13,true)],[(1,(oP u_1))]⟩ [(1,1,oc u_1),(3,4,an hb59),(5,5,oc hb59),(7,8,an hb60),(9,9,oc hb60),(11,13,oc hb61)] ?_
     exact eN h (gg [] [0,1,2,3,4,5,6])
    have u_1:=(cU q42)
    refine dT ⟨[(2,false),(5,false),(6,false),(9,false),(10,false),(13,false)],[(1,(oP u_1))]⟩ [(1,1,oc u_1),(3,4,an hb59),(5,5,oc hb59),(7,8,an hb60),(9,9,oc hb60),(11,12,an hb61),(13,13,oc hb61)] ?_
    exact eN h (gg [] [0,1,2,3,4,5,6])
   refine aA (aU h (fun hb62 h=> ?_) (fun hb62 h=> ?_))
   ·refine aC (aA (aD (aK ?_)))
    obtain⟨z26,q44,h⟩:=aB h
    rcases z26 with⟨r93,r94,r95,r96⟩ | ⟨e55,e56⟩
    ·obtain⟨c16,h⟩:=bO h
     have u_1:=(nU rec_pq_either_v1 hrec_pq_either_v1 q44)
     refine dT ⟨[],[(2,(oO u_1 [0,1,2,3,4]))]⟩ [(2,2,oc u_1),(4,4,oc c16)] (aO (aA ?_))
     obtain⟨z28,q46,h⟩:=aB h
     rcases z28 with⟨r99,r100⟩ | ⟨e59,e60⟩
     ·refine jH 1 [0,1,2,3,4] (bI q46) ?_
      exact eB h (gg [] [0,1,2,3,4,5,39])
     refine GX 1 [0,1,2,3,4] (bI q46) (fun _=> ?_)
     obtain rfl:=sI h
     refine bS (aS ?_)
     exact rfl
    refine GX 2 [0,1,2,3,4] (nU rec_pq_either_v1 hrec_pq_either_v1 q44) (fun _=> ?_)
    obtain rfl:=sI h
    refine bD (aF (bS (aS ?_)))
    exact rfl
   refine bA (eL ?_)
   obtain rfl:=sI h
   refine fV (cX ?_)
   exact dB (gg [] [0,1,2,3,4,5,6])
  rcases r101 with⟨l6,v12,v13,v14⟩ | ⟨e51,e52⟩
  ·obtain⟨rfl,hle⟩:=hq
   refine fL ?_ hle
   refine bB (aA (aD (G (aK (G (aU h (fun hb63 h=> ?_) (fun hb63 h=> ?_)))))))
   ·refine G (aN (aM (aG ?_)))
    obtain rfl:=sI h
    exact aE [some (.tree .u8 .u32)] [] [0,1,2,3,4,5] [(2,.adr 5 0 3 0)] (aB4 p1 v12 p3 p4 v13 v14 o1 o2 o3 o4 (0:Int) (0:Int)) 6 5 (by kernel_rfl) (by kernel_rfl) (by kernel_rfl)
   refine G (aU h (fun hb64 h=> ?_) (fun hb64 h=> ?_))
   ·obtain⟨c19,c20,h⟩:=g2 h
    refine GN a0 [(1,1,oc c19),(2,2,oc c20)] (aN (aM (aG ?_)))
    obtain rfl:=sI h
    exact aE [some (.tree .u8 .u32)] [] [0,1,2,3,4,5] [(2,.adr 5 0 3 0)] (aAB p1 v12 p3 p4 v13 v14 o1 o2 o3 o4 ((l6.getD ((0:Int).toNat) (Tree.node 0 0 [])).op) ((l6.getD ((0:Int).toNat) (Tree.node 0 0 [])).set) ((l6.getD ((0:Int).toNat) (Tree.node 0 0 [])).kids)) 6 5 (by kernel_rfl) (by kernel_rfl) (by kernel_rfl)
   refine aC (aO (aA (G (aN ?_))))
   obtain rfl:=sI h
   exact aE [some (.tree .u8 .u32)] [] [0,1,2,3,4,5,6] [(2,.adr 5 0 3 0)] (aBy p1 v12 p3 p4 v13 v14 o1 o2 o3 o4 (2:Int) (0:Int) l6) 7 5 (by kernel_rfl) (by kernel_rfl) (by kernel_rfl)
  obtain rfl:=hq
  refine bD (aF ?_)
  obtain rfl:=sI h
  exact rfl
 refine GX 1 [0,1,2,3,4] (bI q25) (fun _=>aF (aF ?_))
 obtain rfl:=sI h
 exact rfl
def cV(p1:List UInt8)(p3 p4:Int)(o1:List (List UInt8))(o2:List Int)(o3:List (Int×Tree×Tree))(o4:List ((List UInt8)×Int))(rec_pq_either_v1:(List UInt8)→Int→Int→Int→Int→Int→(List (List UInt8))→(List Int)→(List (Int×Tree×Tree))→(List ((List UInt8)×Int))→Option ((Tree×Int×Int×Int)⊕(Int×Int))):(Int×Int×Int×List Tree)→Option ((Int×Int×Int×List Tree)⊕(((List Tree)×Int×Int×Int)⊕(Int×Int))):=fun(p26,p27,p28,l11) =>
 ((aJ (124:Int) p1 p26 p3 p4 p27 p28 o1 o2 o3 o4).bind fun(z54:(Bool×Int)⊕(Int×Int))=>match z54 with
 | .inr (e115,e116)=>some (Sum.inr (Sum.inr (e115,e116)))
 | .inl (r165,r166)=>(if r165=true then((iN rec_pq_either_v1 p1 r166 p3 p4 p27 p28 o1 o2 o3 o4).bind fun(z56:(Tree×Int×Int×Int)⊕(Int×Int))=>match z56 with
 | .inr (e119,e120)=>some (Sum.inr (Sum.inr (e119,e120)))
 | .inl (r171,r172,r173,r174)=>(if(l11.length+([(Tree.node r171.op r171.set r171.kids)]:List Tree).length)*32≤140737488355328∧l11.length+([(Tree.node r171.op r171.set r171.kids)]:List Tree).length≤9223372036854775807 then some (Sum.inl (r172,r173,r174,(l11++([(Tree.node r171.op r171.set r171.kids)]:List Tree))))else none))
 else some (Sum.inr (Sum.inl (l11,r166,p27,p28)))))
def fU(rec_pq_either_v1:(List UInt8)→Int→Int→Int→Int→Int→(List (List UInt8))→(List Int)→(List (Int×Tree×Tree))→(List ((List UInt8)×Int))→Option ((Tree×Int×Int×Int)⊕(Int×Int)))(p1:List UInt8)(p2 p3 p4 p5 p6:Int)(o1:List (List UInt8))(o2:List Int)(o3:List (Int×Tree×Tree))(o4:List ((List UInt8)×Int)):Option ((Tree×Int×Int×Int)⊕(Int×Int)) :=
 ((iN rec_pq_either_v1 p1 p2 p3 p4 p5 p6 o1 o2 o3 o4).bind fun(z44:(Tree×Int×Int×Int)⊕(Int×Int))=>match z44 with
 | .inr (e93,e94)=>some (Sum.inr (e93,e94))
 | .inl (r135,r136,r137,r138)=>((iter (cV p1 p3 p4 o1 o2 o3 o4 rec_pq_either_v1) (r136,r137,r138,([(Tree.node r135.op r135.set r135.kids)]:List Tree))).bind fun(r175:(((List Tree)×Int×Int×Int)⊕(Int×Int)))=>match r175 with
 | .inl (l12,v17,v18,v19)=>(if((l12.length:Int) == (1:Int))=true then(if 0≤(0:Int)∧(0:Int)<(l12.length:Int)then(if(0:Int).toNat<l12.length then some (Sum.inl ((Tree.node ((l12.getD ((0:Int).toNat) (Tree.node 0 0 [])).op) ((l12.getD ((0:Int).toNat) (Tree.node 0 0 [])).set) ((l12.getD ((0:Int).toNat) (Tree.node 0 0 [])).kids)),v17,v18,v19))else none)else none)
 else some (Sum.inl ((Tree.node (3:Int) (0:Int) l12),v17,v18,v19)))
 | .inr ((e111,e112))=>some (Sum.inr (e111,e112))))
def gA:Nat→(List UInt8)→Int→Int→Int→Int→Int→(List (List UInt8))→(List Int)→(List (Int×Tree×Tree))→(List ((List UInt8)×Int))→Option ((Tree×Int×Int×Int)⊕(Int×Int))
 | 0=>fun _ _ _ _ _ _ _ _ _ _=>none
 | n+1=>fU (gA n)
theorem rA(rec_pq_either_v1:(List UInt8)→Int→Int→Int→Int→Int→(List (List UInt8))→(List Int)→(List (Int×Tree×Tree))→(List ((List UInt8)×Int))→Option ((Tree×Int×Int×Int)⊕(Int×Int)))(hrec_pq_either_v1:∀ {p1:List UInt8} {p2:Int} {p3:Int} {p4:Int} {p5:Int} {p6:Int} {o1:List (List UInt8)} {o2:List Int} {o3:List (Int×Tree×Tree)} {o4:List ((List UInt8)×Int)} {res:(Tree×Int×Int×Int)⊕(Int×Int)},rec_pq_either_v1 p1 p2 p3 p4 p5 p6 o1 o2 o3 o4=some res→Does Try.prog 55 [.adr 0 0 10 0] (bK p1 p2 p3 p4 p5 p6 o1 o2 o3 o4) (jK (fun(q:Tree×Int×Int×Int)=>(.agg [.u8 q.1.op,.u32 q.1.set,.p false (.slice (.tree .u8 .u32)) q.1.kids],(bK p1 q.2.1 p3 p4 q.2.2.1 q.2.2.2 o1 o2 o3 o4))) (aR 40 .i64 .i64) res)){p1:List UInt8}{p2:Int}{p3:Int}{p4:Int}{p5:Int}{p6:Int}{o1:List (List UInt8)}{o2:List Int}{o3:List (Int×Tree×Tree)}{o4:List ((List UInt8)×Int)}{res:(Tree×Int×Int×Int)⊕(Int×Int)}(h:fU rec_pq_either_v1 p1 p2 p3 p4 p5 p6 o1 o2 o3 o4=some res):
  Does Try.prog 55 [.adr 0 0 10 0] (bK p1 p2 p3 p4 p5 p6 o1 o2 o3 o4) (jK (fun(q:Tree×Int×Int×Int)=>(.agg [.u8 q.1.op,.u32 q.1.set,.p false (.slice (.tree .u8 .u32)) q.1.kids],(bK p1 q.2.1 p3 p4 q.2.2.1 q.2.2.2 o1 o2 o3 o4))) (aR 40 .i64 .i64) res):=by
 refine Does.of_body bL Try.func55 (by kernel_rfl) rfl (nl rfl) (fun Bw w0=> ?_)
 unfold fU at h
 refine G (aD ?_)
 obtain⟨z44,q44,h⟩:=aB h
 rcases z44 with⟨r135,r136,r137,r138⟩ | ⟨e93,e94⟩
 ·refine jH 1 [0,1,2,3,4] (jW rec_pq_either_v1 hrec_pq_either_v1 q44) (aA (aD (aK (n0 h (fun(p26,p27,p28,l11)=>aQ [(0,.adr 0 0 10 0),(2,.adr 5 0 3 0),(3,.sl 6)] (Z6 p1 p26 p3 p4 p27 p28 o1 o2 o3 o4 (0:Int) (0:Int) l11) 7 5) (fT (gR Try.f55.ntmps 0 (fun(l12,v17,v18,v19)=>aQ [(2,.adr 5 0 3 0),(3,.sl 6)] (Z6 p1 v17 p3 p4 v18 v19 o1 o2 o3 o4 (0:Int) (0:Int) l12) 7 5)) (rH (aR 40 .i64 .i64))) (gg [] [0,1,2,3,4,5,29]) (fun y o h=> ?_) (fun r175 h e σ' hq=> ?_)))))
  ·obtain⟨p26,p27,p28,l11⟩:=y
   unfold cV at h
   refine aD (aD ?_)
   obtain⟨z54,q54,h⟩:=aB h
   rcases z54 with⟨r165,r166⟩ | ⟨e115,e116⟩
   ·refine jH 1 [0,1,2,3,4] (bE q54) (aA (aU h (fun hb15 h=> ?_) (fun hb15 h=> ?_)))
    ·refine aC (aA (aK ?_))
     obtain⟨z56,q56,h⟩:=aB h
     rcases z56 with⟨r171,r172,r173,r174⟩ | ⟨e119,e120⟩
     ·obtain⟨c36,h⟩:=bO h
      have u_1:=(jW rec_pq_either_v1 hrec_pq_either_v1 q56)
      refine dT ⟨[],[(2,(oO u_1 [0,1,2,3,4]))]⟩ [(2,2,oc u_1),(4,4,oc c36)] (aO ?_)
      exact eB h (gg [] [0,1,2,3,4,5,55])
     refine GX 2 [0,1,2,3,4] (jW rec_pq_either_v1 hrec_pq_either_v1 q56) (fun _=> ?_)
     obtain rfl:=sI h
     refine bD (bS (aS ?_))
     exact rfl
    refine bA (eL ?_)
    obtain rfl:=sI h
    refine fV (cX ?_)
    exact dB (gg [] [0,1,2,3,4,5,6])
   refine GX 1 [0,1,2,3,4] (bE q54) (fun _=> ?_)
   obtain rfl:=sI h
   refine aF (aF (bS (aS ?_)))
   exact rfl
  rcases r175 with⟨l12,v17,v18,v19⟩ | ⟨e111,e112⟩
  ·obtain⟨rfl,hle⟩:=hq
   refine fL ?_ hle
   refine bB (aA (aD (G (aU h (fun hb16 h=> ?_) (fun hb16 h=> ?_)))))
   ·obtain⟨c39,c40,h⟩:=g2 h
    refine GN a0 [(1,1,oc c39),(2,2,oc c40)] (aN (aG ?_))
    obtain rfl:=sI h
    exact aE [some (.tree .u8 .u32)] [] [0,1,2,3,4,5] [(2,.adr 5 0 3 0)] (aAB p1 v17 p3 p4 v18 v19 o1 o2 o3 o4 ((l12.getD ((0:Int).toNat) (Tree.node 0 0 [])).op) ((l12.getD ((0:Int).toNat) (Tree.node 0 0 [])).set) ((l12.getD ((0:Int).toNat) (Tree.node 0 0 [])).kids)) 6 5 (by kernel_rfl) (by kernel_rfl) (by kernel_rfl)
   refine aC (aA (G (aN ?_)))
   obtain rfl:=sI h
   exact aE [some (.tree .u8 .u32)] [] [0,1,2,3,4,5,6] [(2,.adr 5 0 3 0)] (aBy p1 v17 p3 p4 v18 v19 o1 o2 o3 o4 (3:Int) (0:Int) l12) 7 5 (by kernel_rfl) (by kernel_rfl) (by kernel_rfl)
  obtain rfl:=hq
  refine bD (aF ?_)
  obtain rfl:=sI h
  exact rfl
 refine GX 1 [0,1,2,3,4] (jW rec_pq_either_v1 hrec_pq_either_v1 q44) (fun _=>aF ?_)
 obtain rfl:=sI h
 exact rfl
theorem fD:∀(n:Nat) {p1:List UInt8} {p2:Int} {p3:Int} {p4:Int} {p5:Int} {p6:Int} {o1:List (List UInt8)} {o2:List Int} {o3:List (Int×Tree×Tree)} {o4:List ((List UInt8)×Int)} {res:(Tree×Int×Int×Int)⊕(Int×Int)},gA n p1 p2 p3 p4 p5 p6 o1 o2 o3 o4=some res→Does Try.prog 55 [.adr 0 0 10 0] (bK p1 p2 p3 p4 p5 p6 o1 o2 o3 o4) (jK (fun(q:Tree×Int×Int×Int)=>(.agg [.u8 q.1.op,.u32 q.1.set,.p false (.slice (.tree .u8 .u32)) q.1.kids],(bK p1 q.2.1 p3 p4 q.2.2.1 q.2.2.2 o1 o2 o3 o4))) (aR 40 .i64 .i64) res)
 | 0,_,_,_,_,_,_,_,_,_,_,_,h=>by cases h
 | n+1,p1,p2,p3,p4,p5,p6,o1,o2,o3,o4,res,h=>rA (gA n) (fD n)  h
def iM(does1 at1:Int)(p1:List UInt8)(p2 p3 p4 p5 p6:Int)(o1:List (List UInt8))(o2:List Int)(o3:List (Int×Tree×Tree))(o4:List ((List UInt8)×Int)):Option ((Int×(List (Int×Tree×Tree))×Int×Int)⊕(Int×Int)) :=
 (if(decide ((o3.length:Int)≥(24:Int)))=true then((dH (24:Int) at1 p1 p2 p3 p4 p5 p6 o1 o2 o3 o4).bind fun(z12:(Unit)⊕(Int×Int))=>match z12 with
 | .inr (e23,e24)=>some (Sum.inr (e23,e24))
 | .inl _=>none)
 else((gA 1000 p1 p2 p3 p4 p5 p6 o1 o2 o3 o4).bind fun(z14:(Tree×Int×Int×Int)⊕(Int×Int))=>match z14 with
 | .inr (e27,e28)=>some (Sum.inr (e27,e28))
 | .inl (r25,r26,r27,r28)=>((eH (47:Int) p1 r26 p3 p4 r27 r28 o1 o2 o3 o4).bind fun(z16:(Int)⊕(Int×Int))=>match z16 with
 | .inr (e31,e32)=>some (Sum.inr (e31,e32))
 | .inl r30=>((gA 1000 p1 r30 p3 p4 r27 r28 o1 o2 o3 o4).bind fun(z18:(Tree×Int×Int×Int)⊕(Int×Int))=>match z18 with
 | .inr (e35,e36)=>some (Sum.inr (e35,e36))
 | .inl (r35,r36,r37,r38)=>((eH (59:Int) p1 r36 p3 p4 r37 r38 o1 o2 o3 o4).bind fun(z20:(Int)⊕(Int×Int))=>match z20 with
 | .inr (e39,e40)=>some (Sum.inr (e39,e40))
 | .inl r40=>(if(o3.length+([(does1,((Tree.node r25.op r25.set r25.kids),(Tree.node r35.op r35.set r35.kids)))]:List (Int×Tree×Tree)).length)*72≤140737488355328∧o3.length+([(does1,((Tree.node r25.op r25.set r25.kids),(Tree.node r35.op r35.set r35.kids)))]:List (Int×Tree×Tree)).length≤9223372036854775807 then some (Sum.inl (r40,(o3++([(does1,((Tree.node r25.op r25.set r25.kids),(Tree.node r35.op r35.set r35.kids)))]:List (Int×Tree×Tree))),r37,r38))else none))))))
theorem pQ{does1:Int}{at1:Int}{p1:List UInt8}{p2:Int}{p3:Int}{p4:Int}{p5:Int}{p6:Int}{o1:List (List UInt8)}{o2:List Int}{o3:List (Int×Tree×Tree)}{o4:List ((List UInt8)×Int)}{res:(Int×(List (Int×Tree×Tree))×Int×Int)⊕(Int×Int)}(h:iM does1 at1 p1 p2 p3 p4 p5 p6 o1 o2 o3 o4=some res):
  Does Try.prog 35 [.adr 0 0 10 0,.u8 does1,.i64 at1] (bK p1 p2 p3 p4 p5 p6 o1 o2 o3 o4) (jK (fun(q:Int×(List (Int×Tree×Tree))×Int×Int)=>(.tup [],(aBN p1 q.1 p3 p4 q.2.2.1 q.2.2.2 o1 o2 o4 q.2.1))) (aR 40 .i64 .i64) res):=by
 refine Does.of_body bL Try.func35 (by kernel_rfl) rfl (nl rfl) (fun Bw w0=> ?_)
 unfold iM at h
 refine aD (G (aU h (fun hb2 h=> ?_) (fun hb2 h=> ?_)))
 ·obtain⟨z12,q12,h⟩:=aB h
  rcases z12 with _ | ⟨e23,e24⟩
  ·cases h
  refine GX 2 [0,1,2,3,4] (b0 q12) (fun _=>aF ?_)
  obtain rfl:=sI h
  exact rfl
 refine aC (aA (G (aD ?_)))
 obtain⟨z14,q14,h⟩:=aB h
 rcases z14 with⟨r25,r26,r27,r28⟩ | ⟨e27,e28⟩
 ·refine jH 1 [0,1,2,3,4] (fD 1000 q14) (aA (aD ?_))
  obtain⟨z16,q16,h⟩:=aB h
  rcases z16 with r30 | ⟨e31,e32⟩
  ·refine jH 1 [0,1,2,3,4] (bX q16) (aA (aD ?_))
   obtain⟨z18,q18,h⟩:=aB h
   rcases z18 with⟨r35,r36,r37,r38⟩ | ⟨e35,e36⟩
   ·refine jH 1 [0,1,2,3,4] (fD 1000 q18) (aA (aD ?_))
    obtain⟨z20,q20,h⟩:=aB h
    rcases z20 with r40 | ⟨e39,e40⟩
    ·refine jH 1 [0,1,2,3,4] (bX q20) (aA ?_)
     obtain⟨c4,h⟩:=bO h
     refine yT a0 [(8,8,oc c4)] ?_
     obtain rfl:=sI h
     exact(aE [] [] [0,1,2,3,4,253] [] (aBN p1 r40 p3 p4 r37 r38 o1 o2 o4 (o3++([(does1,((Tree.node r25.op r25.set r25.kids),(Tree.node r35.op r35.set r35.kids)))]:List (Int×Tree×Tree)))) 6 5 (by kernel_rfl) (by kernel_rfl) (by kernel_rfl)).normal
    refine GX 1 [0,1,2,3,4] (bX q20) (fun _=>aF ?_)
    obtain rfl:=sI h
    exact rfl
   refine GX 1 [0,1,2,3,4] (fD 1000 q18) (fun _=>aF ?_)
   obtain rfl:=sI h
   exact rfl
  refine GX 1 [0,1,2,3,4] (bX q16) (fun _=>aF ?_)
  obtain rfl:=sI h
  exact rfl
 refine GX 1 [0,1,2,3,4] (fD 1000 q14) (fun _=>aF ?_)
 obtain rfl:=sI h
 exact rfl
def dR(p1:List UInt8):(Int×(List (List UInt8))×Int×Int×(List Int)×(List (Int×Tree×Tree))×(List ((List UInt8)×Int))×Int×Int)→Option ((Int×(List (List UInt8))×Int×Int×(List Int)×(List (Int×Tree×Tree))×(List ((List UInt8)×Int))×Int×Int)⊕((Int×(List (List UInt8))×Int×Int×(List Int)×(List (Int×Tree×Tree))×(List ((List UInt8)×Int))×Int×Int)⊕(Int×Int))):=fun(p34,p35,p36,p37,p38,p39,p40,p41,p42) =>
 ((dV p1 p34 p36 p37 p41 p42 p35 p38 p39 p40).bind fun(z78:(Int×Int)⊕(Int×Int))=>match z78 with
 | .inr (e159,e160)=>some (Sum.inr (Sum.inr (e159,e160)))
 | .inl (r196,r197)=>(if(r196 != (0:Int))=true then((fC p1 r197 p36 p37 p41 p42 p35 p38 p39 p40).bind fun(z80:((List UInt8)×Int×Int)⊕(Int×Int))=>match z80 with
 | .inr (e163,e164)=>some (Sum.inr (Sum.inr (e163,e164)))
 | .inl (r201,r202,r203)=>(if(kR .str ([99,108,97,115,115]:List UInt8) r201)=true then((gY p1 r203 p36 p37 p41 p42 p35 p38 p39 p40).bind fun(z82:(Int×(List (List UInt8))×(List Int)×List ((List UInt8)×Int))⊕(Int×Int))=>match z82 with
 | .inr (e167,e168)=>some (Sum.inr (Sum.inr (e167,e168)))
 | .inl (r208,r209,r210,r211)=>some (Sum.inl (r208,r209,p36,p37,r210,p39,r211,p41,p42)))
 else(if(kR .str ([115,101,116]:List UInt8) r201)=true then((j3 p1 r203 p36 p37 p41 p42 p35 p38 p39 p40).bind fun(z84:(Int×List ((List UInt8)×Int))⊕(Int×Int))=>match z84 with
 | .inr (e171,e172)=>some (Sum.inr (Sum.inr (e171,e172)))
 | .inl (r214,r215)=>some (Sum.inl (r214,p35,p36,p37,p38,p39,r215,p41,p42)))
 else(if(kR .str ([106,111,105,110]:List UInt8) r201)=true then((iO p1 r203 p36 p37 p41 p42 p35 p38 p39 p40).bind fun(z86:(Int×Int×Int)⊕(Int×Int))=>match z86 with
 | .inr (e175,e176)=>some (Sum.inr (Sum.inr (e175,e176)))
 | .inl (r219,r220,r221)=>some (Sum.inl (r219,p35,r220,r221,p38,p39,p40,p41,p42)))
 else(if(kR .str ([116,114,101,97,116]:List UInt8) r201)=true then((g8 p1 r203 p36 p37 p41 p42 p35 p38 p39 p40).bind fun(z88:(Int×List Int)⊕(Int×Int))=>match z88 with
 | .inr (e179,e180)=>some (Sum.inr (Sum.inr (e179,e180)))
 | .inl (r224,r225)=>some (Sum.inl (r224,p35,p36,p37,r225,p39,p40,p41,p42)))
 else(if((dI .str (fY .str (fY .str (fY .str ([]:List ((List UInt8)×Int)) ([107,101,101,112]:List UInt8) (0:Int)) ([109,97,121]:List UInt8) (1:Int)) ([109,117,115,116]:List UInt8) (2:Int)) r201).isSome)=true then((iM ((dI .str (fY .str (fY .str (fY .str ([]:List ((List UInt8)×Int)) ([107,101,101,112]:List UInt8) (0:Int)) ([109,97,121]:List UInt8) (1:Int)) ([109,117,115,116]:List UInt8) (2:Int)) r201).getD (0:Int)) r202 p1 r203 p36 p37 p41 p42 p35 p38 p39 p40).bind fun(z90:(Int×(List (Int×Tree×Tree))×Int×Int)⊕(Int×Int))=>match z90 with
 | .inr (e183,e184)=>some (Sum.inr (Sum.inr (e183,e184)))
 | .inl (r230,r231,r232,r233)=>some (Sum.inl (r230,p35,p36,p37,p38,r231,p40,r232,r233)))
 else((dH (21:Int) r202 p1 r203 p36 p37 p41 p42 p35 p38 p39 p40).bind fun(z92:(Unit)⊕(Int×Int))=>match z92 with
 | .inr (e187,e188)=>some (Sum.inr (Sum.inr (e187,e188)))
 | .inl _=>none)))))))
 else some (Sum.inr (Sum.inl (r197,p35,p36,p37,p38,p39,p40,p41,p42)))))
def zC(p1:List UInt8)(p2 p3 p4 p5 p6:Int)(o1:List ((List UInt8)×Int)):Option ((Int×(List (List UInt8))×Int×Int×(List Int)×(List (Int×Tree×Tree))×(List ((List UInt8)×Int))×Int×Int)⊕(Int×Int)) :=
 ((iter (dR p1) (p2,([]:List (List UInt8)),p3,p4,([]:List Int),([]:List (Int×Tree×Tree)),o1,p5,p6)).bind fun(r234:((Int×(List (List UInt8))×Int×Int×(List Int)×(List (Int×Tree×Tree))×(List ((List UInt8)×Int))×Int×Int)⊕(Int×Int)))=>match r234 with
 | .inl (v19,v20,v21,v22,v23,v24,v25,v26,v27)=>some (Sum.inl (v19,v20,v21,v22,v23,v24,v25,v26,v27))
 | .inr ((e155,e156))=>some (Sum.inr (e155,e156)))
theorem sY{p1:List UInt8}{p2:Int}{p3:Int}{p4:Int}{p5:Int}{p6:Int}{o1:List ((List UInt8)×Int)}{res:(Int×(List (List UInt8))×Int×Int×(List Int)×(List (Int×Tree×Tree))×(List ((List UInt8)×Int))×Int×Int)⊕(Int×Int)}(h:zC p1 p2 p3 p4 p5 p6 o1=some res):
  Does Try.prog 23 [.adr 0 0 10 0] (ob2 p1 p2 p3 p4 p5 p6 o1) (jK (fun(q:Int×(List (List UInt8))×Int×Int×(List Int)×(List (Int×Tree×Tree))×(List ((List UInt8)×Int))×Int×Int)=>(.tup [],(aBx p1 q.1 q.2.2.1 q.2.2.2.1 q.2.2.2.2.2.2.2.1 q.2.2.2.2.2.2.2.2 q.2.2.2.2.2.2.1 q.2.1 q.2.2.2.2.1 q.2.2.2.2.2.1))) (aR 40 .i64 .i64) res):=by
 refine Does.of_body bL Try.func23 (by kernel_rfl) rfl (nl rfl) (fun Bw w0=> ?_)
 unfold zC at h
 refine G (G (aK (n0 h (fun(p34,p35,p36,p37,p38,p39,p40,p41,p42)=>aQ [(0,.adr 0 0 10 0),(2,.mp 5),(3,.mp 6)] (aCM p1 p34 p36 p37 p41 p42 p40 p35 p38 p39 (fY .str (fY .str (fY .str ([]:List ((List UInt8)×Int)) ([107,101,101,112]:List UInt8) (0:Int)) ([109,97,121]:List UInt8) (1:Int)) ([109,117,115,116]:List UInt8) (2:Int))) 7 2) (fT (gR Try.f23.ntmps 0 (fun(v19,v20,v21,v22,v23,v24,v25,v26,v27)=>aQ [] (aBx p1 v19 v21 v22 v26 v27 v25 v20 v23 v24) 5 2)) (rH (aR 40 .i64 .i64))) (gg [.nilC 0 2 106 9 .str,.nilC 0 5 107 3 (.int .i64),.nilC 0 6 108 52 (.prod (.int .u8) Y1)] [0,1,106,107,108,2,58]) (fun y o h=> ?_) (fun r234 h e σ' hq=> ?_))))
 ·obtain⟨p34,p35,p36,p37,p38,p39,p40,p41,p42⟩:=y
  unfold dR at h
  refine aD (aD ?_)
  obtain⟨z78,q78,h⟩:=aB h
  rcases z78 with⟨r196,r197⟩ | ⟨e159,e160⟩
  ·refine jH 1 [0,2,3,4,1] (bI q78) (aA (aU h (fun hb76 h=> ?_) (fun hb76 h=> ?_)))
   ·refine aC (aA (aK (aD ?_)))
    obtain⟨z80,q80,h⟩:=aB h
    rcases z80 with⟨r201,r202,r203⟩ | ⟨e163,e164⟩
    ·refine jH 1 [0,2,3,4,1] (dP q80) (aA (aD ?_))
     rcases aW h with⟨hb81,h⟩ | ⟨hb81,h⟩
     ·refine dT ⟨[],[(2,⟨.unk,[],false,[],[0],[],none⟩)]⟩ [(2,2,oc (And.intro tt hb81))] (aA (G (Z2 rfl ?_)))
      obtain⟨z82,q82,h⟩:=aB h
      rcases z82 with⟨r208,r209,r210,r211⟩ | ⟨e167,e168⟩
      ·refine jH 2 [0,2,3,4,1] (nZ q82) (aO ?_)
       exact eB h (gg [] [0,1,175,176,4,5,6])
      refine GX 2 [0,2,3,4,1] (nZ q82) (fun _=> ?_)
      obtain rfl:=sI h
      refine bD (bS (aS ?_))
      exact rfl
     rcases aW h with⟨hb83,h⟩ | ⟨hb83,h⟩
     ·refine dT ⟨[],[(2,⟨.unk,[],false,[],[1],[],none⟩)]⟩ [(2,2,⟨True∧rW .str [(([99,108,97,115,115]:List UInt8),(yM 29)),(([115,101,116]:List UInt8),(yM 30)),(([106,111,105,110]:List UInt8),(yM 31)),(([116,114,101,97,116]:List UInt8),(yM 32))] r201 1,⟨trivial,⟨hb81,hb83⟩⟩⟩)] (aA (G (Z2 rfl ?_)))
      obtain⟨z84,q84,h⟩:=aB h
      rcases z84 with⟨r214,r215⟩ | ⟨e171,e172⟩
      ·refine jH 2 [0,2,3,4,1] (rI q84) (aO ?_)
       exact eB h (gg [] [0,1,2,3,4,5,6])
      refine GX 2 [0,2,3,4,1] (rI q84) (fun _=> ?_)
      obtain rfl:=sI h
      refine bD (bS (aS ?_))
      exact rfl
     rcases aW h with⟨hb85,h⟩ | ⟨hb85,h⟩
     ·refine dT ⟨[],[(2,⟨.unk,[],false,[],[2],[],none⟩)]⟩ [(2,2,⟨True∧rW .str [(([99,108,97,115,115]:List UInt8),(yM 29)),(([115,101,116]:List UInt8),(yM 30)),(([106,111,105,110]:List UInt8),(yM 31)),(([116,114,101,97,116]:List UInt8),(yM 32))] r201 2,⟨trivial,⟨hb81,⟨hb83,hb85⟩⟩⟩⟩)] (aA (G (Z2 rfl ?_)))
      obtain⟨z86,q86,h⟩:=aB h
      rcases z86 with⟨r219,r220,r221⟩ | ⟨e175,e176⟩
      ·refine jH 2 [0,2,3,4,1] (pD q86) (aO ?_)
       exact eB h (gg [] [0,1,2,3,4,5,6])
      refine GX 2 [0,2,3,4,1] (pD q86) (fun _=> ?_)
      obtain rfl:=sI h
      refine bD (bS (aS ?_))
      exact rfl
     rcases aW h with⟨hb87,h⟩ | ⟨hb87,h⟩
     ·refine dT ⟨[],[(2,⟨.unk,[],false,[],[3],[],none⟩)]⟩ [(2,2,⟨True∧rW .str [(([99,108,97,115,115]:List UInt8),(yM 29)),(([115,101,116]:List UInt8),(yM 30)),(([106,111,105,110]:List UInt8),(yM 31)),(([116,114,101,97,116]:List UInt8),(yM 32))] r201 3,⟨trivial,⟨hb81,⟨hb83,⟨hb85,hb87⟩⟩⟩⟩⟩)] (aA (G (Z2 rfl ?_)))
      obtain⟨z88,q88,h⟩:=aB h
      rcases z88 with⟨r224,r225⟩ | ⟨e179,e180⟩
      ·refine jH 2 [0,2,3,4,1] (n9 q88) (aO ?_)
       exact eB h (gg [] [0,1,2,3,4,5,6])
      refine GX 2 [0,2,3,4,1] (n9 q88) (fun _=> ?_)
      obtain rfl:=sI h
      refine bD (bS (aS ?_))
      exact rfl
     refine dT ⟨[],[(2,⟨.unk,[],false,[],[4],[],none⟩)]⟩ [(2,2,⟨True∧rW .str [(([99,108,97,115,115]:List UInt8),(yM 29)),(([115,101,116]:List UInt8),(yM 30)),(([106,111,105,110]:List UInt8),(yM 31)),(([116,114,101,97,116]:List UInt8),(yM 32))] r201 4,⟨trivial,⟨hb81,⟨hb83,⟨hb85,⟨hb87,trivial⟩⟩⟩⟩⟩⟩)] (aA (G (aBV rfl (G (G (aU h (fun hb89 h=> ?_) (fun hb89 h=> ?_)))))))
     ·obtain⟨z90,q90,h⟩:=aB h
      rcases z90 with⟨r230,r231,r232,r233⟩ | ⟨e183,e184⟩
      ·refine jH 3 [0,2,3,4,1] (pQ q90) (aO ?_)
       exact eB h (gg [] [0,1,2,3,255,5,6])
      refine GX 3 [0,2,3,4,1] (pQ q90) (fun _=> ?_)
      obtain rfl:=sI h
      refine bD (bS (aS ?_))
      exact rfl
     obtain⟨z92,q92,h⟩:=aB h
     rcases z92 with _ | ⟨e187,e188⟩
     ·cases h
     refine GX 2 [0,2,3,4,1] (b0 q92) (fun _=> ?_)
     obtain rfl:=sI h
     refine bD (bS (aS ?_))
     exact rfl
    refine GX 1 [0,2,3,4,1] (dP q80) (fun _=> ?_)
    obtain rfl:=sI h
    refine aF (bD (bS (aS ?_)))
    exact rfl
   refine bA (eL ?_)
   obtain rfl:=sI h
   refine fV (cX ?_)
   exact dB (gg [] [0,1,2,3,4])
  refine GX 1 [0,2,3,4,1] (bI q78) (fun _=> ?_)
  obtain rfl:=sI h
  refine aF (aF (bS (aS ?_)))
  exact rfl
 rcases r234 with⟨v19,v20,v21,v22,v23,v24,v25,v26,v27⟩ | ⟨e155,e156⟩
 ·obtain⟨rfl,hle⟩:=hq
  refine fL ?_ hle
  refine bB ?_
  obtain rfl:=sI h
  exact(aE [] [] [0,1,2,3,4] [] (aBx p1 v19 v21 v22 v26 v27 v25 v20 v23 v24) 5 2 (by kernel_rfl) (by kernel_rfl) (by kernel_rfl)).normal
 obtain rfl:=hq
 refine bD ?_
 obtain rfl:=sI h
 exact rfl
theorem qU(e1 e2:Int):Catches Try.prog 21 [.adr 0 0 5 0,.adr 1 0 2 0] (ob3 (0:Int) (0:Int) (0:Int) (0:Int)) (ob3 (0:Int) (0:Int) e1 e2) (aR 40 .i64 .i64 (e1,e2)):=by
 refine Catches.of_body (nx:=2) (pn:=2) Try.func21 rfl rfl rfl rfl rfl rfl rfl rfl (by kernel_rfl) rfl (fun Bw w0=> ?_)
 have h:some ()=some ():=rfl
 refine GN a0 [(1,1,⟨∃ms,Try.prog.underlying 20=some (.interface ms),⟨_,rfl⟩⟩)] (Z2 rfl (GN a0 [(1,1,⟨∃d,Try.prog.underlying 40=some d∧(match d with | .interface _=>false | _=>true)=true,⟨_,rfl,rfl⟩⟩)] (aD (G (aBV rfl (aC (aA (yT a0 [] ?_))))))))
 exact eN h (gg [] [0,1])
theorem qX:aAT Try.prog 21 2:=by
 intro vals w hv
 obtain⟨v2,v3,rfl⟩:∃v2 v3,vals = #[v2,v3]:=by
  match hq:vals.toList with
  | [a,b]=>exact⟨a,b,Array.ext' hq⟩
  | []=>have:=congrArg List.length hq;simp[hv]at this
  | [_]=>have:=congrArg List.length hq;simp[hv]at this
  | _::_::_::_=>have:=congrArg List.length hq;simp[hv]at this
 refine callsD_of_wpS Try.func21 rfl fun c₀ cs hu=> ?_
 apply wpS_seq
 apply wpS_region
 simp[wpOpsS,go_sem,recoverD,hu,Try.ntmps21,Exit.thenS]
 apply wpS_seq
 apply wpS_region
 simp[wpOpsS,go_sem,Exit.thenS,Act.eval,Act.put]
 refine wpS_cond (t:=false) (by simp[Act.eval,Array.replicate]) ?_
 simp only[Bool.false_eq_true,if_false]
 refine wpS_of_wp (wp_skip ?_)
 cases c₀
 simp_all [bodyPostS,results,Try.results21]
def iU(text1:List UInt8):Option ((((List (List UInt8))×Int×Int×(List Int)×List (Int×Tree×Tree))×Int×Int)⊕(Int×Int)) :=
 (if(decide ((text1.length:Int) > (4096:Int)))=true then((N0 (24:Int) (4096:Int) text1 (0:Int) (0:Int) (0:Int) (0:Int) (0:Int) ([]:List ((List UInt8)×Int))).bind fun(z2:(Unit)⊕(Int×Int))=>match z2 with
 | .inr (e3,e4)=>some (Sum.inr (e3,e4))
 | .inl _=>none)
 else((zC text1 (0:Int) (0:Int) (0:Int) (0:Int) (0:Int) ([]:List ((List UInt8)×Int))).bind fun(z4:(Int×(List (List UInt8))×Int×Int×(List Int)×(List (Int×Tree×Tree))×(List ((List UInt8)×Int))×Int×Int)⊕(Int×Int))=>match z4 with
 | .inr (e7,e8)=>some (Sum.inr (e7,e8))
 | .inl (r10,r11,r12,r13,r14,r15,r16,r17,r18)=>some (Sum.inl ((r11,(r12,(r13,(r14,r15)))),((0:Int),(0:Int))))))
def wQ:(((List (List UInt8))×Int×Int×(List Int)×List (Int×Tree×Tree))×Int×Int)⊕(Int×Int)→((List (List UInt8))×Int×Int×(List Int)×List (Int×Tree×Tree))×Int×Int
 | .inl x=>x
 | .inr e=>((([]:List (List UInt8)),((0:Int),((0:Int),(([]:List Int),([]:List (Int×Tree×Tree)))))),(e.1,e.2))
def d9(text1:List UInt8):Option (((List (List UInt8))×Int×Int×(List Int)×List (Int×Tree×Tree))×Int×Int):=(iU text1).map wQ
theorem uG(text1:List UInt8)(res:(((List (List UInt8))×Int×Int×(List Int)×List (Int×Tree×Tree))×Int×Int)⊕(Int×Int))(h:iU text1=some res):
  Pure Try.prog 13 [.st text1] (c9 (gJ false (aA1 (fun(q:((List (List UInt8))×Int×Int×(List Int)×List (Int×Tree×Tree))×Int×Int)=>([⟨Y4,q.1⟩,⟨Y5,q.2⟩]:List (Σ T:Ty,T.den))) (fun(e:Int×Int)=>([⟨Y4,(([]:List (List UInt8)),((0:Int),((0:Int),(([]:List Int),([]:List (Int×Tree×Tree))))))⟩,⟨Y5,(e.1,e.2)⟩]:List (Σ T:Ty,T.den))) res))):=by
 refine Pure.of_defer (args:=[.st text1]) (gd:=21) (fnd:=Try.f21) (l:=[(0,.st text1),(2,.adr 0 0 5 0),(3,.adr 1 0 2 0),(4,.adr 2 0 10 0)]) (m:=(ob1 (0:Int) (0:Int) (0:Int) (0:Int) text1 (0:Int) (0:Int) (0:Int) (0:Int) (0:Int) ([]:List ((List UInt8)×Int)))) (nx:=4) (s2:=5) (s3:=2) (lp:=[(2,.adr 0 0 5 0),(3,.adr 1 0 2 0)]) (mp:=(ob3 (0:Int) (0:Int) (0:Int) (0:Int))) (nxp:=2) (fv:=aR 40 .i64 .i64) (hin:=(ob3 (0:Int) (0:Int) (0:Int) (0:Int))) (hout:=fun e=>(ob3 (0:Int) (0:Int) e.1 e.2)) (t2:=2) (t3:=3) (d:=9) bL Try.func13 (by kernel_rfl) Try.func21 (by kernel_rfl) rfl rfl rfl rfl rfl rfl rfl rfl (nl rfl) rfl rfl (by decide) rfl rfl (by decide) (fun Bw w0=> ?_) (fun Bw w0 D=> ?_) qX (fun e=>qU e.1 e.2) (by kernel_rfl) (fun e=>by kernel_rfl) [Y4,Y5] (fun e=>by kernel_rfl)
 ·clear h
  have h:some ()=some ():=rfl
  refine Ge (aA (Ge ?_))
  exact eN h (gg [] [0,8,40,24])
 unfold iU at h
 refine aD (G (aU h (fun hb1 h=> ?_) (fun hb1 h=> ?_)))
 ·obtain⟨z2,q2,h⟩:=aB h
  rcases z2 with _ | ⟨e3,e4⟩
  ·cases h
  have u_1:=(wN q2)
  refine aAQ bL ⟨[],[(1,(oD u_1 [2,3]))]⟩ 1 (aR 40 .i64 .i64 (e3,e4)) [] [0,1] [(2,.adr 0 0 5 0),(3,.adr 1 0 2 0)] (ob3 (0:Int) (0:Int) (0:Int) (0:Int)) 2 2 [True,Dies Try.prog 22 [.adr 0 0 10 0,.i64 (24:Int),.i64 (4096:Int)] (ob2 text1 (0:Int) (0:Int) (0:Int) (0:Int) (0:Int) ([]:List ((List UInt8)×Int))) (aR 40 .i64 .i64 (e3,e4))] (by kernel_rfl) (by kernel_rfl) ⟨tt,(wN q2),tt⟩ (fun σ1 hle=>aF ?_)
  obtain rfl:=sI h
  exact⟨rfl,hle⟩
 refine aC (aA (aD ?_))
 obtain⟨z4,q4,h⟩:=aB h
 rcases z4 with⟨r10,r11,r12,r13,r14,r15,r16,r17,r18⟩ | ⟨e7,e8⟩
 ·refine jH 1 [2,3] (sY q4) (aA (G (aN ?_)))
  obtain rfl:=sI h
  exact⟨rfl,aT [Y4,Y5] (by kernel_rfl)⟩
 have u_1:=(sY q4)
 refine aAQ bL ⟨[],[(1,(oD u_1 [2,3]))]⟩ 1 (aR 40 .i64 .i64 (e7,e8)) [] [0,1] [(2,.adr 0 0 5 0),(3,.adr 1 0 2 0)] (ob3 (0:Int) (0:Int) (0:Int) (0:Int)) 2 2 [True,Dies Try.prog 23 [.adr 0 0 10 0] (ob2 text1 (0:Int) (0:Int) (0:Int) (0:Int) (0:Int) ([]:List ((List UInt8)×Int))) (aR 40 .i64 .i64 (e7,e8))] (by kernel_rfl) (by kernel_rfl) ⟨tt,(sY q4),tt⟩ (fun σ1 hle=>aF ?_)
 obtain rfl:=sI h
 exact⟨rfl,hle⟩
theorem fW{text1:List UInt8}{res:((List (List UInt8))×Int×Int×(List Int)×List (Int×Tree×Tree))×Int×Int}(h:d9 text1=some res):
  Pure Try.prog 13 [.st text1] (c9 (gJ false [⟨Y4,res.1⟩,⟨Y5,res.2⟩])):=by
 unfold d9 at h
 obtain⟨r,hr,rfl⟩:=Option.map_eq_some_iff.1 h
 have:=uG  text1 r hr
 cases r with
 | inl x=>exact this
 | inr e=>exact this
def rB  : Option (Bool) :=
 ((d9 ([99,108,97,115,115,32,65,32,66,59,32,115,101,116,32,83,32,61,32,65,32,66,59,32,107,101,101,112,32,65,32,47,32,66,32,124,32,83,42,59,32,109,97,121,32,46,32,47,32,46,59]:List UInt8)).bind fun(r3,r4) =>
 ((d9 ([107,101,101,112,32,65,32,47,32,65,59]:List UInt8)).bind fun(r7,r8) =>
 ((d9 ([99,108,97,115,115,32,65,32,65,59]:List UInt8)).bind fun(r11,r12) =>
 ((d9 ([107,101,101,112,32,47]:List UInt8)).bind fun(r15,r16) =>
 (((if(r4.1 == (0:Int))=true then(if((r3.1.length:Int) == (2:Int))=true then(if((r3.2.2.2.2.length:Int) == (2:Int))=true then(if 0≤(1:Int)∧(1:Int)<(r3.2.2.2.2.length:Int)then(if((((r3.2.2.2.2.getD ((1:Int).toNat) ((0:Int),((Tree.node 0 0 []),(Tree.node 0 0 [])))).2.1).set) == (3:Int))=true then(if((r8.1 == (22:Int)) && (r8.2 == (5:Int)))=true then(if((r12.1 == (23:Int)) && (r12.2 == (8:Int)))=true then some (((r16.1 == (21:Int)) && (r16.2 == (6:Int))))
 else some (false))
 else some (false))
 else some (false))else none)
 else some (false))
 else some (false))
 else some (false))).bind fun v1=>some v1)))))
theorem D7{res:Bool}(h:rB=some res):
  Pure Try.prog 10 [] (c9 (gJ false [⟨.bool,res⟩])):=by
 refine Pure.of_body bL Try.func10 (by kernel_rfl) rfl (nl rfl) (fun Bw w0=> ?_) rfl
 unfold rB at h
 refine G ?_
 obtain⟨⟨r3,r4⟩,q2,h⟩:=aB h
 refine GP 0 (fW q2) ?_
 obtain⟨⟨r7,r8⟩,q4,h⟩:=aB h
 refine GP 0 (fW q4) ?_
 obtain⟨⟨r11,r12⟩,q6,h⟩:=aB h
 refine GP 0 (fW q6) ?_
 obtain⟨⟨r15,r16⟩,q8,h⟩:=aB h
 refine GP 0 (fW q8) (aD (eM h (fun v1=>aQ [(0,.bo v1)] [] 0) (fun v1 h=> ?_) (fun v1 h=> ?_)))
 ·rcases aW h with⟨hb13,h⟩ | ⟨hb13,h⟩
  ·rcases aW h with⟨hb14,h⟩ | ⟨hb14,h⟩
   ·rcases aW h with⟨hb15,h⟩ | ⟨hb15,h⟩
    ·obtain⟨c3,h⟩:=bO h
     rcases aW h with⟨hb16,h⟩ | ⟨hb16,h⟩
     ·rcases aW h with⟨hb17,h⟩ | ⟨hb17,h⟩
      ·rcases aW h with⟨hb18,h⟩ | ⟨hb18,h⟩
       ·refine dT ⟨[(3,true),(8,true),(9,true),(14,true),(15,true),(23,true),(24,true),(28,true),(29,true),(33,true),(34,true),(38,true)],[]⟩ [(4,7,an hb13),(8,8,oc hb13),(10,13,an hb14),(14,14,oc hb14),(16,17,an hb15),(18,18,oc (And.intro hb15 c3)),(19,22,an hb15),(23,23,oc hb15),(25,26,an hb16),(27,27,oc (And.intro hb16 O7)),(28,28,oc hb16),(30,31,an hb17),(32,32,oc (And.intro hb17 O7)),(33,33,oc hb17),(35,36,an hb18),(37,37,oc (And.intro hb18 O7)),(38,38,oc hb18)] ?_
        exact eN h (gg [] [])
       refine dT ⟨[(3,true),(8,true),(9,true),(14,true),(15,true),(23,true),(24,true),(28,true),(29,true),(33,true),(34,false),(38,false)],[]⟩ [(4,7,an hb13),(8,8,oc hb13),(10,13,an hb14),(14,14,oc hb14),(16,17,an hb15),(18,18,oc (And.intro hb15 c3)),(19,22,an hb15),(23,23,oc hb15),(25,26,an hb16),(27,27,oc (And.intro hb16 O7)),(28,28,oc hb16),(30,31,an hb17),(32,32,oc (And.intro hb17 O7)),(33,33,oc hb17),(35,38,oc hb18)] ?_
       exact eN h (gg [] [])
      refine dT ⟨[(3,true),(8,true),(9,true),(14,true),(15,true),(23,true),(24,true),(28,true),(29,false),(33,false)],[]⟩ [(4,7,an hb13),(8,8,oc hb13),(10,13,an hb14),(14,14,oc hb14),(16,17,an hb15),(18,18,oc (And.intro hb15 c3)),(19,22,an hb15),(23,23,oc hb15),(25,26,an hb16),(27,27,oc (And.intro hb16 O7)),(28,28,oc hb16),(30,33,oc hb17)] ?_
      exact eN h (gg [] [])
     refine dT ⟨[(3,true),(8,true),(9,true),(14,true),(15,true),(23,true),(24,false),(28,false)],[]⟩ [(4,7,an hb13),(8,8,oc hb13),(10,13,an hb14),(14,14,oc hb14),(16,17,an hb15),(18,18,oc (And.intro hb15 c3)),(19,22,an hb15),(23,23,oc hb15),(25,28,oc hb16)] ?_
     exact eN h (gg [] [])
    refine dT ⟨[(3,true),(8,true),(9,true),(14,true),(15,false),(23,false)],[]⟩ [(4,7,an hb13),(8,8,oc hb13),(10,13,an hb14),(14,14,oc hb14),(16,23,oc hb15)] ?_
    exact eN h (gg [] [])
   refine dT ⟨[(3,true),(8,true),(9,false),(14,false)],[]⟩ [(4,7,an hb13),(8,8,oc hb13),(10,14,oc hb14)] ?_
   exact eN h (gg [] [])
  refine dT ⟨[(3,false),(8,false)],[]⟩ [(4,8,oc hb13)] ?_
  exact eN h (gg [] [])
 refine aA (aN ?_)
 obtain rfl:=sI h
 exact aT [.bool] (by kernel_rfl)
def gI(p1 p2 p3:Int)(p4:List Int)(p5:List (Int×(List Int)×List Int)):Option (Int) :=
 (if ¬(6:Int)=0 then some (IntKind.i64.wrap ((1:Int)+(IntKind.i64.wrap (Int.tmod p1 (6:Int)))))else none)
theorem sC(β3 β4:Bool){p1:Int}{p2:Int}{p3:Int}{p4:List Int}{p5:List (Int×(List Int)×List Int)}{res:Int}(h:gI p1 p2 p3 p4 p5=some res):
  Pure Try.prog 15 [.agg [.u8 p1,.u8 p2,.u8 p3,.p β3 (.slice (.int .u8)) p4,.p β4 (.slice (.prod (.int .u8) Y6)) p5]] (c9 (gJ false [⟨(.int .i64),res⟩])):=by
 refine Pure.of_body bL Try.func15 (by kernel_rfl) rfl (nl rfl) (fun Bw w0=> ?_) rfl
 unfold gI at h
 refine G (GC 2 h (fun h=>aN ?_))
 obtain rfl:=sI h
 exact aT [(.int .i64)] (by kernel_rfl)
def iZ(n1 i1:Int):Option (List UInt8) :=
 (if ¬n1=0 then some (iV ([(IntKind.u8.wrap (IntKind.i64.wrap ((65:Int)+(Int.tmod i1 n1))))]:List Int))else none)
theorem kB{n1:Int}{i1:Int}{res:List UInt8}(h:iZ n1 i1=some res):
  Pure Try.prog 19 [.i64 n1,.i64 i1] (c9 (gJ false [⟨.str,res⟩])):=by
 refine Pure.of_body bL Try.func19 (by kernel_rfl) rfl (nl rfl) (fun Bw w0=> ?_) rfl
 unfold iZ at h
 refine G (GC 2 h (fun h=>aN ?_))
 obtain rfl:=sI h
 exact aT [.str] (by kernel_rfl)
def gW(n1 bits1:Int):((List UInt8)×Int)→Option (((List UInt8)×Int)⊕(List UInt8)):=fun(out4,i2) =>
 (if(decide (i2<n1))=true then(if 0≤i2 then(if ¬(2:Int)=0 then(((if((Int.tmod (Int.fdiv bits1 (2 ^ (min i2.toNat IntKind.u8.bits))) (2:Int)) == (1:Int))=true then(if out4.length+([32]:List UInt8).length≤9223372036854775807 then((iZ n1 i2).bind fun r12 =>
 (if(out4++([32]:List UInt8)).length+r12.length≤9223372036854775807 then some (((out4++([32]:List UInt8))++r12))else none))else none)
 else some (out4))).bind fun out6=>some (Sum.inl (out6,(IntKind.i64.wrap (i2+(1:Int))))))else none)else none)
 else some (Sum.inr out4))
def fE(n1 bits1:Int):Option (List UInt8) :=
 ((iter (gW n1 bits1) (([]:List UInt8),(0:Int))).bind fun out5=>some out5)
theorem jA{n1:Int}{bits1:Int}{res:List UInt8}(h:fE n1 bits1=some res):
  Pure Try.prog 18 [.i64 n1,.u8 bits1] (c9 (gJ false [⟨.str,res⟩])):=by
 refine Pure.of_body bL Try.func18 (by kernel_rfl) rfl (nl rfl) (fun Bw w0=> ?_) rfl
 unfold fE at h
 refine G (G (aD (G (aK (t7 h (fun(out4,i2)=>aQ [(0,.i64 n1),(1,.u8 bits1),(5,.st out4),(6,.i64 i2)] [] 0) 0 (fun out5=>aQ [(5,.st out5)] [] 0) (gg [] []) (fun y o h=> ?_) (fun out5 h=> ?_))))))
 ·obtain⟨out4,i2⟩:=y
  unfold gW at h
  refine aD (G (aU h (fun hb7 h=> ?_) (fun hb7 h=> ?_)))
  ·refine aC (aA (aD (aK ?_)))
   obtain⟨c27,c28,h⟩:=g2 h
   refine GN a0 [(2,2,oc c27),(3,3,oc c28)] (eM h (fun out6=>aQ [(0,.i64 n1),(1,.u8 bits1),(5,.st out6),(6,.i64 i2)] [] 0) (fun out6 h=> ?_) (fun out6 h=> ?_))
   ·refine aU h (fun hb9 h=> ?_) (fun hb9 h=> ?_)
    ·obtain⟨c35,h⟩:=bO h
     obtain⟨r12,q12,h⟩:=aB h
     obtain⟨c36,h⟩:=bO h
     have u_1:=(kB q12)
     refine dT ⟨[],[(4,(oP u_1))]⟩ [(1,1,oc c35),(4,4,oc u_1),(5,5,oc c36)] ?_
     exact eN h (gg [] [])
    refine aC ?_
    exact eN h (gg [] [])
   refine aO (aA (Ge ?_))
   exact eB h (gg [] [])
  refine bA (eL ?_)
  exact eX h (gg [] [])
 refine bB (aA (G (aN ?_)))
 obtain rfl:=sI h
 exact aT [.str] (by kernel_rfl)
def cL(r1:List Int)(r2:Int):Option (Int×Int) :=
 (if(decide (r2≥(r1.length:Int)))=true then some ((0:Int),r2)
 else(if 0≤(IntKind.i64.wrap ((IntKind.i64.wrap (r2+(1:Int))) - (1:Int)))∧(IntKind.i64.wrap ((IntKind.i64.wrap (r2+(1:Int))) - (1:Int)))<(r1.length:Int)then some ((IntKind.i64.wrap (r1.getD ((IntKind.i64.wrap ((IntKind.i64.wrap (r2+(1:Int))) - (1:Int))).toNat) (0:Int))),(IntKind.i64.wrap (r2+(1:Int))))else none))
theorem f0{r1:List Int}{r2:Int}{res:Int×Int}(h:cL r1 r2=some res):
  Owns Try.prog 46 [.adr 0 0 2 0] [(0,.box [.p false (.slice (.int .u8)) r1,.i64 r2])] (.i64 res.1) [(0,.box [.p false (.slice (.int .u8)) r1,.i64 res.2])]:=by
 refine Owns.of_body bL Try.func46 (by kernel_rfl) rfl (nl rfl) (fun Bw w0=> ?_)
 unfold cL at h
 refine G (aD (GD a0 [] (aU h (fun hb2 h=> ?_) (fun hb2 h=> ?_))))
 ·refine G (aN (aG ?_))
  obtain rfl:=sI h
  exact aE [some (.int .i64)] [] [0] [(2,.i64 (0:Int))] [(0,.box [.p false (.slice (.int .u8)) r1,.i64 r2])] 1 1 (by kernel_rfl) (by kernel_rfl) (by kernel_rfl)
 refine aC (aA (G ?_))
 obtain⟨c4,h⟩:=bO h
 refine GD a0 [(9,9,oc c4)] (aN ?_)
 obtain rfl:=sI h
 exact aE [some (.int .i64)] [] [0] [(2,.i64 (IntKind.i64.wrap (r1.getD ((IntKind.i64.wrap ((IntKind.i64.wrap (r2+(1:Int))) - (1:Int))).toNat) (0:Int))))] [(0,.box [.p false (.slice (.int .u8)) r1,.i64 (IntKind.i64.wrap (r2+(1:Int)))])] 1 1 (by kernel_rfl) (by kernel_rfl) (by kernel_rfl)
def hY(rec_hq_expr_v1:Int→Int→(List Int)→Int→Option ((List UInt8)×Int))(d1 x1:Int)(i1:List Int)(i2:Int):Option ((List UInt8)×Int) :=
 ((cL i1 i2).bind fun(r73,r74) =>
 (if(decide (x1≤(0:Int)))=true then((iZ d1 r73).bind fun r76 =>
 some (r76,r74))
 else(if ¬(12:Int)=0 then(if((Int.tmod r73 (12:Int)) == (4:Int))=true then some (([46]:List UInt8),r74)
 else(if((Int.tmod r73 (12:Int)) == (5:Int))=true then((cL i1 r74).bind fun(r79,r80) =>
 ((fE d1 (IntKind.u8.wrap r79)).bind fun r82 =>
 (if([91]:List UInt8).length+r82.length≤9223372036854775807 then(if(([91]:List UInt8)++r82).length+([93]:List UInt8).length≤9223372036854775807 then some (((([91]:List UInt8)++r82)++([93]:List UInt8)),r80)else none)else none)))
 else(if((Int.tmod r73 (12:Int)) == (6:Int))=true then((cL i1 r74).bind fun(r85,r86) =>
 ((fE d1 (IntKind.u8.wrap r85)).bind fun r88 =>
 (if([91,94]:List UInt8).length+r88.length≤9223372036854775807 then(if(([91,94]:List UInt8)++r88).length+([93]:List UInt8).length≤9223372036854775807 then some (((([91,94]:List UInt8)++r88)++([93]:List UInt8)),r86)else none)else none)))
 else(if((Int.tmod r73 (12:Int)) == (7:Int))=true then((rec_hq_expr_v1 d1 (IntKind.i64.wrap (x1 - (1:Int))) i1 r74).bind fun(r91,r92) =>
 (if([40]:List UInt8).length+r91.length≤9223372036854775807 then(if(([40]:List UInt8)++r91).length+([41,42]:List UInt8).length≤9223372036854775807 then some (((([40]:List UInt8)++r91)++([41,42]:List UInt8)),r92)else none)else none))
 else(if((Int.tmod r73 (12:Int)) == (8:Int))=true then((rec_hq_expr_v1 d1 (IntKind.i64.wrap (x1 - (1:Int))) i1 r74).bind fun(r95,r96) =>
 (if([40]:List UInt8).length+r95.length≤9223372036854775807 then(if(([40]:List UInt8)++r95).length+([41,43]:List UInt8).length≤9223372036854775807 then some (((([40]:List UInt8)++r95)++([41,43]:List UInt8)),r96)else none)else none))
 else(if((Int.tmod r73 (12:Int)) == (9:Int))=true then((rec_hq_expr_v1 d1 (IntKind.i64.wrap (x1 - (1:Int))) i1 r74).bind fun(r99,r100) =>
 (if([40]:List UInt8).length+r99.length≤9223372036854775807 then(if(([40]:List UInt8)++r99).length+([41,63]:List UInt8).length≤9223372036854775807 then some (((([40]:List UInt8)++r99)++([41,63]:List UInt8)),r100)else none)else none))
 else(if((Int.tmod r73 (12:Int)) == (10:Int))=true then((rec_hq_expr_v1 d1 (IntKind.i64.wrap (x1 - (1:Int))) i1 r74).bind fun(r103,r104) =>
 ((rec_hq_expr_v1 d1 (IntKind.i64.wrap (x1 - (1:Int))) i1 r104).bind fun(r107,r108) =>
 (if([40]:List UInt8).length+r103.length≤9223372036854775807 then(if(([40]:List UInt8)++r103).length+([124]:List UInt8).length≤9223372036854775807 then(if((([40]:List UInt8)++r103)++([124]:List UInt8)).length+r107.length≤9223372036854775807 then(if(((([40]:List UInt8)++r103)++([124]:List UInt8))++r107).length+([41]:List UInt8).length≤9223372036854775807 then some (((((([40]:List UInt8)++r103)++([124]:List UInt8))++r107)++([41]:List UInt8)),r108)else none)else none)else none)else none)))
 else(if((Int.tmod r73 (12:Int)) == (11:Int))=true then((rec_hq_expr_v1 d1 (IntKind.i64.wrap (x1 - (1:Int))) i1 r74).bind fun(r111,r112) =>
 ((rec_hq_expr_v1 d1 (IntKind.i64.wrap (x1 - (1:Int))) i1 r112).bind fun(r115,r116) =>
 (if r111.length+([32]:List UInt8).length≤9223372036854775807 then(if(r111++([32]:List UInt8)).length+r115.length≤9223372036854775807 then some (((r111++([32]:List UInt8))++r115),r116)else none)else none)))
 else((iZ d1 r73).bind fun r118 =>
 some (r118,r74))))))))))else none)))
def gK:Nat→Int→Int→(List Int)→Int→Option ((List UInt8)×Int)
 | 0=>fun _ _ _ _=>none
 | n+1=>hY (gK n)
theorem uE(rec_hq_expr_v1:Int→Int→(List Int)→Int→Option ((List UInt8)×Int))(hrec_hq_expr_v1:∀ {d1:Int} {x1:Int} {i1:List Int} {i2:Int} {res:(List UInt8)×Int},rec_hq_expr_v1 d1 x1 i1 i2=some res→Owns Try.prog 28 [.i64 d1,.adr 0 0 2 0,.i64 x1] [(0,.box [.p false (.slice (.int .u8)) i1,.i64 i2])] (.st res.1) [(0,.box [.p false (.slice (.int .u8)) i1,.i64 res.2])]){d1:Int}{x1:Int}{i1:List Int}{i2:Int}{res:(List UInt8)×Int}(h:hY rec_hq_expr_v1 d1 x1 i1 i2=some res):
  Owns Try.prog 28 [.i64 d1,.adr 0 0 2 0,.i64 x1] [(0,.box [.p false (.slice (.int .u8)) i1,.i64 i2])] (.st res.1) [(0,.box [.p false (.slice (.int .u8)) i1,.i64 res.2])]:=by
 refine Owns.of_body bL Try.func28 (by kernel_rfl) rfl (nl rfl) (fun Bw w0=> ?_)
 unfold hY at h
 refine G ?_
 obtain⟨⟨r73,r74⟩,q44,h⟩:=aB h
 refine GO 1 [0] (f0 q44) (aD (G (aU h (fun hb19 h=> ?_) (fun hb19 h=> ?_))))
 ·obtain⟨r76,q46,h⟩:=aB h
  refine GP 2 (kB q46) (aN (aG ?_))
  obtain rfl:=sI h
  exact aE [some .str] [] [0] [(6,.st r76)] [(0,.box [.p false (.slice (.int .u8)) i1,.i64 r74])] 1 1 (by kernel_rfl) (by kernel_rfl) (by kernel_rfl)
 refine aC (aA (aD (GC 1 h (fun h=>aK (G (aU h (fun hb20 h=> ?_) (fun hb20 h=> ?_)))))))
 ·refine G (aN (aM (aG ?_)))
  obtain rfl:=sI h
  exact aE [some .str] [] [0] [(6,.st ([46]:List UInt8))] [(0,.box [.p false (.slice (.int .u8)) i1,.i64 r74])] 1 1 (by kernel_rfl) (by kernel_rfl) (by kernel_rfl)
 refine G (aU h (fun hb21 h=> ?_) (fun hb21 h=> ?_))
 ·obtain⟨⟨r79,r80⟩,q48,h⟩:=aB h
  refine GO 1 [0] (f0 q48) ?_
  obtain⟨r82,q50,h⟩:=aB h
  obtain⟨c49,c50,h⟩:=g2 h
  have u_1:=(jA q50)
  refine GN ⟨[],[(3,(oP u_1))]⟩ [(3,3,oc u_1),(4,4,oc c49),(5,5,oc c50)] (aN (aM (aG ?_)))
  obtain rfl:=sI h
  exact aE [some .str] [] [0] [(6,.st ((([91]:List UInt8)++r82)++([93]:List UInt8)))] [(0,.box [.p false (.slice (.int .u8)) i1,.i64 r80])] 1 1 (by kernel_rfl) (by kernel_rfl) (by kernel_rfl)
 refine G (aU h (fun hb22 h=> ?_) (fun hb22 h=> ?_))
 ·obtain⟨⟨r85,r86⟩,q52,h⟩:=aB h
  refine GO 1 [0] (f0 q52) ?_
  obtain⟨r88,q54,h⟩:=aB h
  obtain⟨c53,c54,h⟩:=g2 h
  have u_1:=(jA q54)
  refine GN ⟨[],[(3,(oP u_1))]⟩ [(3,3,oc u_1),(4,4,oc c53),(5,5,oc c54)] (aN (aM (aG ?_)))
  obtain rfl:=sI h
  exact aE [some .str] [] [0] [(6,.st ((([91,94]:List UInt8)++r88)++([93]:List UInt8)))] [(0,.box [.p false (.slice (.int .u8)) i1,.i64 r86])] 1 1 (by kernel_rfl) (by kernel_rfl) (by kernel_rfl)
 refine G (aU h (fun hb23 h=> ?_) (fun hb23 h=> ?_))
 ·obtain⟨⟨r91,r92⟩,q56,h⟩:=aB h
  refine GO 4 [0] (hrec_hq_expr_v1 q56) ?_
  obtain⟨c57,c58,h⟩:=g2 h
  refine GN a0 [(1,1,oc c57),(2,2,oc c58)] (aN (aM (aG ?_)))
  obtain rfl:=sI h
  exact aE [some .str] [] [0] [(6,.st ((([40]:List UInt8)++r91)++([41,42]:List UInt8)))] [(0,.box [.p false (.slice (.int .u8)) i1,.i64 r92])] 1 1 (by kernel_rfl) (by kernel_rfl) (by kernel_rfl)
 refine G (aU h (fun hb24 h=> ?_) (fun hb24 h=> ?_))
 ·obtain⟨⟨r95,r96⟩,q58,h⟩:=aB h
  refine GO 4 [0] (hrec_hq_expr_v1 q58) ?_
  obtain⟨c61,c62,h⟩:=g2 h
  refine GN a0 [(1,1,oc c61),(2,2,oc c62)] (aN (aM (aG ?_)))
  obtain rfl:=sI h
  exact aE [some .str] [] [0] [(6,.st ((([40]:List UInt8)++r95)++([41,43]:List UInt8)))] [(0,.box [.p false (.slice (.int .u8)) i1,.i64 r96])] 1 1 (by kernel_rfl) (by kernel_rfl) (by kernel_rfl)
 refine G (aU h (fun hb25 h=> ?_) (fun hb25 h=> ?_))
 ·obtain⟨⟨r99,r100⟩,q60,h⟩:=aB h
  refine GO 4 [0] (hrec_hq_expr_v1 q60) ?_
  obtain⟨c65,c66,h⟩:=g2 h
  refine GN a0 [(1,1,oc c65),(2,2,oc c66)] (aN (aM (aG ?_)))
  obtain rfl:=sI h
  exact aE [some .str] [] [0] [(6,.st ((([40]:List UInt8)++r99)++([41,63]:List UInt8)))] [(0,.box [.p false (.slice (.int .u8)) i1,.i64 r100])] 1 1 (by kernel_rfl) (by kernel_rfl) (by kernel_rfl)
 refine G (aU h (fun hb26 h=> ?_) (fun hb26 h=> ?_))
 ·obtain⟨⟨r103,r104⟩,q62,h⟩:=aB h
  refine GO 4 [0] (hrec_hq_expr_v1 q62) ?_
  obtain⟨⟨r107,r108⟩,q64,h⟩:=aB h
  refine GO 4 [0] (hrec_hq_expr_v1 q64) ?_
  obtain⟨c71,c72,c73,c74,h⟩:=g4 h
  refine GN a0 [(1,1,oc c71),(2,2,oc c72),(4,4,oc c73),(5,5,oc c74)] (aN (aM (aG ?_)))
  obtain rfl:=sI h
  exact aE [some .str] [] [0] [(6,.st ((((([40]:List UInt8)++r103)++([124]:List UInt8))++r107)++([41]:List UInt8)))] [(0,.box [.p false (.slice (.int .u8)) i1,.i64 r108])] 1 1 (by kernel_rfl) (by kernel_rfl) (by kernel_rfl)
 refine G (aU h (fun hb27 h=> ?_) (fun hb27 h=> ?_))
 ·obtain⟨⟨r111,r112⟩,q66,h⟩:=aB h
  refine GO 4 [0] (hrec_hq_expr_v1 q66) ?_
  obtain⟨⟨r115,r116⟩,q68,h⟩:=aB h
  refine GO 4 [0] (hrec_hq_expr_v1 q68) ?_
  obtain⟨c77,c78,h⟩:=g2 h
  refine GN a0 [(1,1,oc c77),(3,3,oc c78)] (aN (aM (aG ?_)))
  obtain rfl:=sI h
  exact aE [some .str] [] [0] [(6,.st ((r111++([32]:List UInt8))++r115))] [(0,.box [.p false (.slice (.int .u8)) i1,.i64 r116])] 1 1 (by kernel_rfl) (by kernel_rfl) (by kernel_rfl)
 refine aC (aO (aA ?_))
 obtain⟨r118,q70,h⟩:=aB h
 refine GP 2 (kB q70) (aN ?_)
 obtain rfl:=sI h
 exact aE [some .str] [] [0] [(6,.st r118)] [(0,.box [.p false (.slice (.int .u8)) i1,.i64 r74])] 1 1 (by kernel_rfl) (by kernel_rfl) (by kernel_rfl)
theorem pM:∀(n:Nat) {d1:Int} {x1:Int} {i1:List Int} {i2:Int} {res:(List UInt8)×Int},gK n d1 x1 i1 i2=some res→Owns Try.prog 28 [.i64 d1,.adr 0 0 2 0,.i64 x1] [(0,.box [.p false (.slice (.int .u8)) i1,.i64 i2])] (.st res.1) [(0,.box [.p false (.slice (.int .u8)) i1,.i64 res.2])]
 | 0,_,_,_,_,_,h=>by cases h
 | n+1,d1,x1,i1,i2,res,h=>uE (gK n) (pM n)  h
def kT(n1:Int)(l1:List Int):Option (List UInt8) :=
 (if((l1.length:Int) == (0:Int))=true then some ([]:List UInt8)
 else(if 0≤(0:Int)∧(0:Int)≤(min (l1.length:Int) (30:Int))∧(min (l1.length:Int) (30:Int))≤(l1.length:Int)then((gK 1000 n1 (3:Int) ((l1.take (min (l1.length:Int) (30:Int)).toNat).drop (0:Int).toNat) (0:Int)).bind fun(r3,r4) =>
 some r3)else none))
theorem wC{n1:Int}{l1:List Int}{res:List UInt8}(h:kT n1 l1=some res):
  Pure Try.prog 20 [.i64 n1,.p false (.slice (.int .u8)) l1] (c9 (gJ false [⟨.str,res⟩])):=by
 refine Pure.of_body bL Try.func20 (by kernel_rfl) rfl (nl rfl) (fun Bw w0=> ?_) rfl
 unfold kT at h
 refine G (aD (G (aU h (fun hb1 h=> ?_) (fun hb1 h=> ?_))))
 ·refine G (aN (aG ?_))
  obtain rfl:=sI h
  exact aT [.str] (by kernel_rfl)
 refine aC (aA ?_)
 obtain⟨c2,h⟩:=bO h
 obtain⟨⟨r3,r4⟩,q2,h⟩:=aB h
 have u_1:=(pM 1000 q2)
 refine GN ⟨[],[(8,(oO u_1 [88]))]⟩ [(5,5,oc c2),(8,8,oc u_1)] (aN ?_)
 obtain rfl:=sI h
 exact aT [.str] (by kernel_rfl)
def iP(d4:List Int)(r2:Int):((List UInt8)×Int)→Option (((List UInt8)×Int)⊕(List UInt8)):=fun(v6,v7) =>
 (((if(decide (v7<(d4.length:Int)))=true then some ((decide (v7<r2)))
 else some (false))).bind fun v9=>(if v9=true then(if v6.length+([116,114,101,97,116,32]:List UInt8).length≤9223372036854775807 then((iZ r2 v7).bind fun r23 =>
 (if(v6++([116,114,101,97,116,32]:List UInt8)).length+r23.length≤9223372036854775807 then(if((v6++([116,114,101,97,116,32]:List UInt8))++r23).length+([32,61,32]:List UInt8).length≤9223372036854775807 then(if 0≤v7∧v7<(d4.length:Int)then((iZ r2 (IntKind.i64.wrap (d4.getD v7.toNat (0:Int)))).bind fun r24 =>
 (if(((v6++([116,114,101,97,116,32]:List UInt8))++r23)++([32,61,32]:List UInt8)).length+r24.length≤9223372036854775807 then(if((((v6++([116,114,101,97,116,32]:List UInt8))++r23)++([32,61,32]:List UInt8))++r24).length+([59,10]:List UInt8).length≤9223372036854775807 then some (Sum.inl ((((((v6++([116,114,101,97,116,32]:List UInt8))++r23)++([32,61,32]:List UInt8))++r24)++([59,10]:List UInt8)),(IntKind.i64.wrap (v7+(1:Int)))))else none)else none))else none)else none)else none))else none)
 else some (Sum.inr v6)))
def iQ(d5:List (Int×(List Int)×List Int))(r2:Int):((List UInt8)×Int)→Option (((List UInt8)×Int)⊕(List UInt8)):=fun(v14,v15) =>
 (((if(decide (v15<(d5.length:Int)))=true then some ((decide (v15<(10:Int))))
 else some (false))).bind fun v17=>(if v17=true then(if 0≤v15∧v15<(d5.length:Int)then(if ¬(3:Int)=0 then(if 0≤(Int.tmod ((d5.getD v15.toNat ((0:Int),(([]:List Int),([]:List Int)))).1) (3:Int))∧(Int.tmod ((d5.getD v15.toNat ((0:Int),(([]:List Int),([]:List Int)))).1) (3:Int))<(([([107,101,101,112,32]:List UInt8),([109,97,121,32]:List UInt8),([109,117,115,116,32]:List UInt8)]:List (List UInt8)).length:Int)then(if(Int.tmod ((d5.getD v15.toNat ((0:Int),(([]:List Int),([]:List Int)))).1) (3:Int)).toNat<([([107,101,101,112,32]:List UInt8),([109,97,121,32]:List UInt8),([109,117,115,116,32]:List UInt8)]:List (List UInt8)).length then(if v14.length+(([([107,101,101,112,32]:List UInt8),([109,97,121,32]:List UInt8),([109,117,115,116,32]:List UInt8)]:List (List UInt8)).getD ((Int.tmod ((d5.getD v15.toNat ((0:Int),(([]:List Int),([]:List Int)))).1) (3:Int)).toNat) ([]:List UInt8)).length≤9223372036854775807 then(if 0≤v15∧v15<(d5.length:Int)then((kT r2 ((d5.getD v15.toNat ((0:Int),(([]:List Int),([]:List Int)))).2.1)).bind fun r35 =>
 (if(v14++(([([107,101,101,112,32]:List UInt8),([109,97,121,32]:List UInt8),([109,117,115,116,32]:List UInt8)]:List (List UInt8)).getD ((Int.tmod ((d5.getD v15.toNat ((0:Int),(([]:List Int),([]:List Int)))).1) (3:Int)).toNat) ([]:List UInt8))).length+r35.length≤9223372036854775807 then(if((v14++(([([107,101,101,112,32]:List UInt8),([109,97,121,32]:List UInt8),([109,117,115,116,32]:List UInt8)]:List (List UInt8)).getD ((Int.tmod ((d5.getD v15.toNat ((0:Int),(([]:List Int),([]:List Int)))).1) (3:Int)).toNat) ([]:List UInt8)))++r35).length+([32,47,32]:List UInt8).length≤9223372036854775807 then(if 0≤v15∧v15<(d5.length:Int)then((kT r2 ((d5.getD v15.toNat ((0:Int),(([]:List Int),([]:List Int)))).2.2)).bind fun r36 =>
 (if(((v14++(([([107,101,101,112,32]:List UInt8),([109,97,121,32]:List UInt8),([109,117,115,116,32]:List UInt8)]:List (List UInt8)).getD ((Int.tmod ((d5.getD v15.toNat ((0:Int),(([]:List Int),([]:List Int)))).1) (3:Int)).toNat) ([]:List UInt8)))++r35)++([32,47,32]:List UInt8)).length+r36.length≤9223372036854775807 then(if((((v14++(([([107,101,101,112,32]:List UInt8),([109,97,121,32]:List UInt8),([109,117,115,116,32]:List UInt8)]:List (List UInt8)).getD ((Int.tmod ((d5.getD v15.toNat ((0:Int),(([]:List Int),([]:List Int)))).1) (3:Int)).toNat) ([]:List UInt8)))++r35)++([32,47,32]:List UInt8))++r36).length+([59,10]:List UInt8).length≤9223372036854775807 then some (Sum.inl ((((((v14++(([([107,101,101,112,32]:List UInt8),([109,97,121,32]:List UInt8),([109,117,115,116,32]:List UInt8)]:List (List UInt8)).getD ((Int.tmod ((d5.getD v15.toNat ((0:Int),(([]:List Int),([]:List Int)))).1) (3:Int)).toNat) ([]:List UInt8)))++r35)++([32,47,32]:List UInt8))++r36)++([59,10]:List UInt8)),(IntKind.i64.wrap (v15+(1:Int)))))else none)else none))else none)else none)else none))else none)else none)else none)else none)else none)else none)
 else some (Sum.inr v14)))
def q9(d1 d2 d3:Int)(d4:List Int)(d5:List (Int×(List Int)×List Int)):Option (List UInt8) :=
 ((gI d1 d2 d3 d4 d5).bind fun r2 =>
 ((fE r2 (255:Int)).bind fun r4 =>
 (if([99,108,97,115,115]:List UInt8).length+r4.length≤9223372036854775807 then(if(([99,108,97,115,115]:List UInt8)++r4).length+([59,10]:List UInt8).length≤9223372036854775807 then(((if(d2 != (0:Int))=true then(if((([99,108,97,115,115]:List UInt8)++r4)++([59,10]:List UInt8)).length+([106,111,105,110]:List UInt8).length≤9223372036854775807 then((fE r2 d2).bind fun r11 =>
 (if(((([99,108,97,115,115]:List UInt8)++r4)++([59,10]:List UInt8))++([106,111,105,110]:List UInt8)).length+r11.length≤9223372036854775807 then(if((((([99,108,97,115,115]:List UInt8)++r4)++([59,10]:List UInt8))++([106,111,105,110]:List UInt8))++r11).length+([32,47]:List UInt8).length≤9223372036854775807 then((fE r2 d3).bind fun r12 =>
 (if(((((([99,108,97,115,115]:List UInt8)++r4)++([59,10]:List UInt8))++([106,111,105,110]:List UInt8))++r11)++([32,47]:List UInt8)).length+r12.length≤9223372036854775807 then(if((((((([99,108,97,115,115]:List UInt8)++r4)++([59,10]:List UInt8))++([106,111,105,110]:List UInt8))++r11)++([32,47]:List UInt8))++r12).length+([59,10]:List UInt8).length≤9223372036854775807 then some ((((((((([99,108,97,115,115]:List UInt8)++r4)++([59,10]:List UInt8))++([106,111,105,110]:List UInt8))++r11)++([32,47]:List UInt8))++r12)++([59,10]:List UInt8)))else none)else none))else none)else none))else none)
 else some (((([99,108,97,115,115]:List UInt8)++r4)++([59,10]:List UInt8))))).bind fun v1=>((iter (iP d4 r2) (v1,(0:Int))).bind fun v8=>((iter (iQ d5 r2) (v8,(0:Int))).bind fun v16=>some v16)))else none)else none)))
theorem J4(β3:Bool){d1:Int}{d2:Int}{d3:Int}{d4:List Int}{d5:List (Int×(List Int)×List Int)}{res:List UInt8}(h:q9 d1 d2 d3 d4 d5=some res):
  Pure Try.prog 12 [.agg [.u8 d1,.u8 d2,.u8 d3,.p β3 (.slice (.int .u8)) d4,.p false (.slice (.prod (.int .u8) Y6)) d5]] (c9 (gJ false [⟨.str,res⟩])):=by
 refine Pure.of_body bL Try.func12 (by kernel_rfl) rfl (nl rfl) (fun Bw w0=> ?_) rfl
 unfold q9 at h
 refine G ?_
 obtain⟨r2,q2,h⟩:=aB h
 refine GP 1 (sC β3 false q2) ?_
 obtain⟨r4,q4,h⟩:=aB h
 obtain⟨c3,c4,h⟩:=g2 h
 have u_1:=(jA q4)
 refine GN ⟨[],[(1,(oP u_1))]⟩ [(1,1,oc u_1),(2,2,oc c3),(3,3,oc c4)] (aD (G (eM h (fun v1=>aQ [(1,.adr 0 0 5 0),(3,.i64 r2),(4,.st v1)] (aAq d1 d2 d3 β3 d4 d5) 1) (fun v1 h=> ?_) (fun v1 h=> ?_))))
 ·refine aU h (fun hb2 h=> ?_) (fun hb2 h=> ?_)
  ·obtain⟨c20,h⟩:=bO h
   obtain⟨r11,q11,h⟩:=aB h
   obtain⟨c21,c22,h⟩:=g2 h
   obtain⟨r12,q12,h⟩:=aB h
   obtain⟨c23,c24,h⟩:=g2 h
   have u_1:=(jA q11)
   have u_2:=(jA q12)
   refine yT ⟨[],[(5,(oP u_1)),(11,(oP u_2))]⟩ [(1,1,oc c20),(5,5,oc u_1),(6,6,oc c21),(7,7,oc c22),(11,11,oc u_2),(12,12,oc c23),(13,13,oc c24)] ?_
   exact eN h (gg [] [0])
  refine aC ?_
  exact eN h (gg [] [0])
 refine aA (aD (G (aK (t7 h (fun(v6,v7)=>aQ [(1,.adr 0 0 5 0),(3,.i64 r2),(4,.st v6),(5,.i64 v7)] (aAq d1 d2 d3 β3 d4 d5) 1) 0 (fun v8=>aQ [(1,.adr 0 0 5 0),(3,.i64 r2),(4,.st v8)] (aAq d1 d2 d3 β3 d4 d5) 1) (gg [] [0]) (fun y o h=> ?_) (fun v8 h=> ?_)))))
 ·obtain⟨v6,v7⟩:=y
  unfold iP at h
  refine aD (aD (eM h (fun v9=>aQ [(1,.adr 0 0 5 0),(3,.i64 r2),(4,.st v6),(5,.i64 v7),(40,.bo v9)] (aAq d1 d2 d3 β3 d4 d5) 1) (fun v9 h=> ?_) (fun v9 h=> ?_)))
  ·rcases aW h with⟨hb13,h⟩ | ⟨hb13,h⟩
   ·refine dT ⟨[(5,true),(9,true)],[]⟩ [(6,8,an hb13),(9,9,oc hb13)] ?_
    exact eN h (gg [] [0])
   refine dT ⟨[(5,false),(9,false)],[]⟩ [(6,9,oc hb13)] ?_
   exact eN h (gg [] [0])
  refine aA (aU h (fun hb14 h=> ?_) (fun hb14 h=> ?_))
  ·refine aC (aA (aD (aK ?_)))
   obtain⟨c55,h⟩:=bO h
   obtain⟨r23,q23,h⟩:=aB h
   obtain⟨c56,c57,c58,h⟩:=g3 h
   obtain⟨r24,q24,h⟩:=aB h
   obtain⟨c59,c60,h⟩:=g2 h
   have u_1:=(kB q23)
   have u_2:=(kB q24)
   refine yT ⟨[],[(4,(oP u_1)),(14,(oP u_2))]⟩ [(1,1,oc c55),(4,4,oc u_1),(5,5,oc c56),(6,6,oc c57),(11,11,oc c58),(14,14,oc u_2),(15,15,oc c59),(16,16,oc c60)] (aO (aA (Ge ?_)))
   exact eB h (gg [] [0])
  refine bA (eL ?_)
  exact eX h (gg [] [0])
 refine bB (aA (G (aD (G (aK (t7 h (fun(v14,v15)=>aQ [(1,.adr 0 0 5 0),(3,.i64 r2),(4,.st v14),(6,.sl 1),(7,.i64 v15)] (aCb d1 d2 d3 β3 d4 d5 ([([107,101,101,112,32]:List UInt8),([109,97,121,32]:List UInt8),([109,117,115,116,32]:List UInt8)]:List (List UInt8))) 2) 2 (fun v16=>aQ [(4,.st v16)] [] 0) (gg [] [0,1]) (fun y o h=> ?_) (fun v16 h=> ?_)))))))
 ·obtain⟨v14,v15⟩:=y
  unfold iQ at h
  refine aD (aD (eM h (fun v17=>aQ [(1,.adr 0 0 5 0),(3,.i64 r2),(4,.st v14),(6,.sl 1),(7,.i64 v15),(69,.bo v17)] (aCb d1 d2 d3 β3 d4 d5 ([([107,101,101,112,32]:List UInt8),([109,97,121,32]:List UInt8),([109,117,115,116,32]:List UInt8)]:List (List UInt8))) 2) (fun v17 h=> ?_) (fun v17 h=> ?_)))
  ·rcases aW h with⟨hb25,h⟩ | ⟨hb25,h⟩
   ·refine dT ⟨[(5,true),(8,true)],[]⟩ [(6,7,an hb25),(8,8,oc hb25)] ?_
    exact eN h (gg [] [0,1])
   refine dT ⟨[(5,false),(8,false)],[]⟩ [(6,8,oc hb25)] ?_
   exact eN h (gg [] [0,1])
  refine aA (aU h (fun hb26 h=> ?_) (fun hb26 h=> ?_))
  ·refine aC (aA (aD (aK ?_)))
   obtain⟨c116,c117,c118,c119,h⟩:=g4 h
   obtain⟨c120,c121,h⟩:=g2 h
   obtain⟨r35,q35,h⟩:=aB h
   obtain⟨c122,c123,c124,h⟩:=g3 h
   obtain⟨r36,q36,h⟩:=aB h
   obtain⟨c125,c126,h⟩:=g2 h
   have u_1:=(wC q35)
   have u_2:=(wC q36)
   refine yT ⟨[],[(19,(oP u_1)),(29,(oP u_2))]⟩ [(5,5,oc c116),(8,8,oc c117),(9,9,oc c118),(10,10,oc c119),(11,11,oc c120),(16,16,oc c121),(19,19,oc u_1),(20,20,oc c122),(21,21,oc c123),(26,26,oc c124),(29,29,oc u_2),(30,30,oc c125),(31,31,oc c126)] (aO (aA (Ge ?_)))
   exact eB h (gg [] [0,1])
  refine bA (eL ?_)
  exact eX h (gg [] [])
 refine bB (aA (G (aN ?_)))
 obtain rfl:=sI h
 exact aT [.str] (by kernel_rfl)
def fF(c1:Int):Option (Bool) :=
 (((if(c1 == (95:Int))=true then some (true)
 else(if(decide (c1≥(48:Int)))=true then(if(decide (c1≤(57:Int)))=true then some (true)
 else(if(decide (c1≥(65:Int)))=true then(if(decide (c1≤(90:Int)))=true then some (true)
 else(if(decide (c1≥(97:Int)))=true then some ((decide (c1≤(122:Int))))
 else some (false)))
 else(if(decide (c1≥(97:Int)))=true then some ((decide (c1≤(122:Int))))
 else some (false))))
 else(if(decide (c1≥(65:Int)))=true then(if(decide (c1≤(90:Int)))=true then some (true)
 else(if(decide (c1≥(97:Int)))=true then some ((decide (c1≤(122:Int))))
 else some (false)))
 else(if(decide (c1≥(97:Int)))=true then some ((decide (c1≤(122:Int))))
 else some (false)))))).bind fun v1=>some v1)
theorem fB{c1:Int}{res:Bool}(h:fF c1=some res):
  Pure Try.prog 36 [.u8 c1] (c9 (gJ false [⟨.bool,res⟩])):=by
 refine Pure.of_body bL Try.func36 (by kernel_rfl) rfl (nl rfl) (fun Bw w0=> ?_) rfl
 unfold fF at h
 refine G (aD (eM h (fun v1=>aQ [(2,.bo v1)] [] 0) (fun v1 h=> ?_) (fun v1 h=> ?_)))
 ·rcases aW h with⟨hb23,h⟩ | ⟨hb23,h⟩
  ·refine dT ⟨[(2,true),(9,true)],[]⟩ [(3,5,oc hb23),(8,9,oc hb23)] ?_
   exact eN h (gg [] [])
  rcases aW h with⟨hb24,h⟩ | ⟨hb24,h⟩
  ·rcases aW h with⟨hb25,h⟩ | ⟨hb25,h⟩
   ·refine dT ⟨[(2,false),(5,true),(8,true),(9,false),(10,true),(17,true)],[]⟩ [(3,5,an hb23),(6,7,an hb24),(8,8,oc (And.intro hb23 hb24)),(9,9,oc hb23),(11,13,oc hb25),(16,17,oc hb25)] ?_
    exact eN h (gg [] [])
   rcases aW h with⟨hb26,h⟩ | ⟨hb26,h⟩
   ·rcases aW h with⟨hb27,h⟩ | ⟨hb27,h⟩
    ·refine dT ⟨[(2,false),(5,true),(8,true),(9,false),(10,false),(13,true),(16,true),(17,false),(18,true),(25,true)],[]⟩ [(3,5,an hb23),(6,7,an hb24),(8,8,oc (And.intro hb23 hb24)),(9,9,oc hb23),(11,13,an hb25),(14,15,an hb26),(16,16,oc (And.intro hb25 hb26)),(17,17,oc hb25),(19,21,oc hb27),(24,25,oc hb27)] ?_
     exact eN h (gg [] [])
    rcases aW h with⟨hb28,h⟩ | ⟨hb28,h⟩
    ·refine dT ⟨[(2,false),(5,true),(8,true),(9,false),(10,false),(13,true),(16,true),(17,false),(18,false),(21,true),(24,true),(25,false)],[]⟩ [(3,5,an hb23),(6,7,an hb24),(8,8,oc (And.intro hb23 hb24)),(9,9,oc hb23),(11,13,an hb25),(14,15,an hb26),(16,16,oc (And.intro hb25 hb26)),(17,17,oc hb25),(19,21,an hb27),(22,23,an hb28),(24,24,oc (And.intro hb27 hb28)),(25,25,oc hb27)] ?_
     exact eN h (gg [] [])
    refine dT ⟨[(2,false),(5,true),(8,true),(9,false),(10,false),(13,true),(16,true),(17,false),(18,false),(21,false),(24,false),(25,false)],[]⟩ [(3,5,an hb23),(6,7,an hb24),(8,8,oc (And.intro hb23 hb24)),(9,9,oc hb23),(11,13,an hb25),(14,15,an hb26),(16,16,oc (And.intro hb25 hb26)),(17,17,oc hb25),(19,21,an hb27),(22,23,oc hb28),(24,24,oc (And.intro hb27 hb28)),(25,25,oc hb27)] ?_
    exact eN h (gg [] [])
   rcases aW h with⟨hb29,h⟩ | ⟨hb29,h⟩
   ·refine dT ⟨[(2,false),(5,true),(8,true),(9,false),(10,false),(13,false),(16,false),(17,false),(21,true),(24,true)],[]⟩ [(3,5,an hb23),(6,7,an hb24),(8,8,oc (And.intro hb23 hb24)),(9,9,oc hb23),(11,13,an hb25),(14,15,oc hb26),(16,16,oc (And.intro hb25 hb26)),(17,17,oc hb25),(22,23,an hb29),(24,24,oc hb29)] ?_
    exact eN h (gg [] [])
   refine dT ⟨[(2,false),(5,true),(8,true),(9,false),(10,false),(13,false),(16,false),(17,false),(21,false),(24,false)],[]⟩ [(3,5,an hb23),(6,7,an hb24),(8,8,oc (And.intro hb23 hb24)),(9,9,oc hb23),(11,13,an hb25),(14,15,oc hb26),(16,16,oc (And.intro hb25 hb26)),(17,17,oc hb25),(22,24,oc hb29)] ?_
   exact eN h (gg [] [])
  rcases aW h with⟨hb30,h⟩ | ⟨hb30,h⟩
  ·rcases aW h with⟨hb31,h⟩ | ⟨hb31,h⟩
   ·refine dT ⟨[(2,false),(5,false),(8,false),(9,false),(13,true),(16,true),(18,true),(25,true)],[]⟩ [(3,5,an hb23),(6,7,oc hb24),(8,8,oc (And.intro hb23 hb24)),(9,9,oc hb23),(14,15,an hb30),(16,16,oc hb30),(19,21,oc hb31),(24,25,oc hb31)] ?_
    exact eN h (gg [] [])
   rcases aW h with⟨hb32,h⟩ | ⟨hb32,h⟩
   ·refine dT ⟨[(2,false),(5,false),(8,false),(9,false),(13,true),(16,true),(18,false),(21,true),(24,true),(25,false)],[]⟩ [(3,5,an hb23),(6,7,oc hb24),(8,8,oc (And.intro hb23 hb24)),(9,9,oc hb23),(14,15,an hb30),(16,16,oc hb30),(19,21,an hb31),(22,23,an hb32),(24,24,oc (And.intro hb31 hb32)),(25,25,oc hb31)] ?_
    exact eN h (gg [] [])
   refine dT ⟨[(2,false),(5,false),(8,false),(9,false),(13,true),(16,true),(18,false),(21,false),(24,false),(25,false)],[]⟩ [(3,5,an hb23),(6,7,oc hb24),(8,8,oc (And.intro hb23 hb24)),(9,9,oc hb23),(14,15,an hb30),(16,16,oc hb30),(19,21,an hb31),(22,23,oc hb32),(24,24,oc (And.intro hb31 hb32)),(25,25,oc hb31)] ?_
   exact eN h (gg [] [])
  rcases aW h with⟨hb33,h⟩ | ⟨hb33,h⟩
  ·refine dT ⟨[(2,false),(5,false),(8,false),(9,false),(13,false),(16,false),(21,true),(24,true)],[]⟩ [(3,5,an hb23),(6,7,oc hb24),(8,8,oc (And.intro hb23 hb24)),(9,9,oc hb23),(14,16,oc hb30),(22,23,an hb33),(24,24,oc hb33)] ?_
   exact eN h (gg [] [])
  refine dT ⟨[(2,false),(5,false),(8,false),(9,false),(13,false),(16,false),(21,false),(24,false)],[]⟩ [(3,5,an hb23),(6,7,oc hb24),(8,8,oc (And.intro hb23 hb24)),(9,9,oc hb23),(14,16,oc hb30),(22,24,oc hb33)] ?_
  exact eN h (gg [] [])
 refine aA (aN ?_)
 obtain rfl:=sI h
 exact aT [.bool] (by kernel_rfl)
def cE(code1 at1:Int)(p1:List UInt8)(p2 p3 p4 p5 p6 p7 p8:Int)(o1:List (List UInt8))(o2:List Int)(o3:List (Int×Tree×Tree))(o4:List (List UInt8))(o5:List Int):Option (Int×Int) :=
 (((if(p7 == (0:Int))=true then some ((code1,at1))
 else some ((p7,p8)))).bind fun(v5,v6)=>some (v5,v6))
theorem cR{code1:Int}{at1:Int}{p1:List UInt8}{p2:Int}{p3:Int}{p4:Int}{p5:Int}{p6:Int}{p7:Int}{p8:Int}{o1:List (List UInt8)}{o2:List Int}{o3:List (Int×Tree×Tree)}{o4:List (List UInt8)}{o5:List Int}{res:Int×Int}(h:cE code1 at1 p1 p2 p3 p4 p5 p6 p7 p8 o1 o2 o3 o4 o5=some res):
  Owns Try.prog 37 [.adr 0 0 13 0,.i64 code1,.i64 at1] (bJ p1 p2 p3 p4 p5 p6 p7 p8 o1 o2 o3 o4 o5) (.tup []) (bJ p1 p2 p3 p4 p5 p6 res.1 res.2 o1 o2 o3 o4 o5):=by
 refine Owns.of_body bL Try.func37 (by kernel_rfl) rfl (nl rfl) (fun Bw w0=> ?_)
 unfold cE at h
 refine G (eM h (fun(v5,v6)=>aQ [] (bJ p1 p2 p3 p4 p5 p6 v5 v6 o1 o2 o3 o4 o5) 6 6) (fun r2 h=> ?_) (fun r2 h=> ?_))
 ·refine aU h (fun hb4 h=> ?_) (fun hb4 h=> ?_)
  ·refine G (Ge ?_)
   exact eN h (gg [] [0,1,2,3,4,5])
  refine aC ?_
  exact eN h (gg [] [0,1,2,3,4,5])
 obtain⟨v5,v6⟩:=r2
 obtain rfl:=sI h
 exact(aE [] [] [0,1,2,3,4,5] [] (bJ p1 p2 p3 p4 p5 p6 v5 v6 o1 o2 o3 o4 o5) 6 6 (by kernel_rfl) (by kernel_rfl) (by kernel_rfl)).normal
end
end Go.Proofs.Ytjfjigknkhgkdaa.T
