/- Functions of the program as functions on data, and that the program's own come to them. -/
import Derived.Test.YtacpjjgochokcaaDoorTvT06x0
namespace Go.Proofs.YtacpjjgochokcaaDoor.T
open Go Go.Tv Go.Proofs
noncomputable section
set_option maxRecDepth 100000
set_option maxHeartbeats 4000000
def M1(e1 at1:Int)(p1:List UInt8)(p2 p3 p4 p5 p6:Int)(o1:List ((List UInt8)×Int)):Option ((Unit)⊕(Int×Int)):=some (Sum.inr (e1,at1))
theorem xI(v:Value)(e a:Int)(w:World):
  Calls Tryd.prog 31 #[v,.int .i64 e,.int .i64 a] w fun r w'=>r = .panicked [{ v:=aP 53 .i64 .i64 (e,a),recovered:=false }]∧w'=w:=by
 go_enter Tryd.func31,Tryd.ntmps31
 go_wp2
 exact⟨rfl,rfl,rfl⟩
theorem wO{e1:Int}{at1:Int}{p1:List UInt8}{p2:Int}{p3:Int}{p4:Int}{p5:Int}{p6:Int}{o1:List ((List UInt8)×Int)}{res:(Unit)⊕(Int×Int)}(h:M1 e1 at1 p1 p2 p3 p4 p5 p6 o1=some res):
  Does Tryd.prog 31 [.adr 0 0 10 0,.i64 e1,.i64 at1] (ob2 p1 p2 p3 p4 p5 p6 o1) (iS (fun(q:Unit)=>(.tup [],[])) (aP 53 .i64 .i64) res):=by
 obtain rfl:=sI h
 exact Dies.of_calls Tryd.func31 (by kernel_rfl) rfl (fun v w=>xI v _ _ w)
def iF(s1:List UInt8)(c1:Int):Option (Int):=some (tY s1 c1 0)
theorem jG(s:ByteArray)(c:Int)(w:World):
  Calls Tryd.prog 84 #[.string s,.int .u8 c] w fun e w'=>e = .returned (.int .i64 (Lib.indexByte s.data.toList c.toNat.toUInt8))∧w'=w:=by
 have hd:∀w,(callFunc 87 #[.string s,.int .u8 c]).run Tryd.prog w = .ok (.value (.int .i64 (Lib.indexByte s.data.toList c.toNat.toUInt8))) w:=fun w=>by
  rw[run_callFunc_extern (fn:=Tryd.f87) (e:=Extern.BytealgIndexByte.indexByte) Tryd.func87 (by kernel_rfl) rfl (by kernel_rfl) (by kernel_rfl),Lib.run_indexByteString]
  rfl
 go_enter Tryd.func84,Tryd.ntmps84
 go_wp2
 go_ret
 exact⟨rfl,rfl⟩
theorem kZ{s1:List UInt8}{c1:Int}{res:Int}(h:iF s1 c1=some res):
  Pure Tryd.prog 84 [.st s1,.u8 c1] (bX (fL false [⟨(.int .i64),res⟩])):=by
 obtain rfl:=sI h
 exact Pure.of_idx Tryd.func84 (by kernel_rfl) rfl (fun s w=>jG s _ w)
def fK(s1:List UInt8)(c1:Int):Option (Int) :=
 ((iF s1 c1).bind fun r2 =>
 some r2)
theorem iR{s1:List UInt8}{c1:Int}{res:Int}(h:fK s1 c1=some res):
  Pure Tryd.prog 76 [.st s1,.u8 c1] (bX (fL false [⟨(.int .i64),res⟩])):=by
 refine Pure.of_body bK Tryd.func76 (by kernel_rfl) rfl (nl rfl) (fun Bw w0=> ?_) rfl
 unfold fK at h
 refine G ?_
 obtain⟨r2,q2,h⟩:=aD h
 refine GP 2 (kZ q2) (aV ?_)
 obtain rfl:=sI h
 exact aK [(.int .i64)] (by kernel_rfl)
def nV(c1:Int):Option (Bool) :=
 (((if(c1 == (32:Int))=true then some (true)
 else(if(c1 == (9:Int))=true then some (true)
 else(if(c1 == (10:Int))=true then some (true)
 else some ((c1 == (13:Int))))))).bind fun v1=>some v1)
theorem wD{c1:Int}{res:Bool}(h:nV c1=some res):
  Pure Tryd.prog 77 [.u8 c1] (bX (fL false [⟨.bool,res⟩])):=by
 refine Pure.of_body bK Tryd.func77 (by kernel_rfl) rfl (nl rfl) (fun Bw w0=> ?_) rfl
 unfold nV at h
 refine G (aC (fA h (fun v1=>aN [(2,.bo v1)] [] 0) (fun v1 h=> ?_) (fun v1 h=> ?_)))
 ·rcases bY h with⟨hb7,h⟩ | ⟨hb7,h⟩
  ·refine gA ⟨[(2,true),(5,true)],[]⟩ [(3,5,oc hb7)] ?_
   exact eN h (gg [] [])
  rcases bY h with⟨hb8,h⟩ | ⟨hb8,h⟩
  ·refine gA ⟨[(2,false),(5,false),(6,true),(9,true)],[]⟩ [(3,4,an hb7),(5,5,oc hb7),(7,9,oc hb8)] ?_
   exact eN h (gg [] [])
  rcases bY h with⟨hb9,h⟩ | ⟨hb9,h⟩
  ·refine gA ⟨[(2,false),(5,false),(6,false),(9,false),(10,true),(13,true)],[]⟩ [(3,4,an hb7),(5,5,oc hb7),(7,8,an hb8),(9,9,oc hb8),(11,13,oc hb9)] ?_
   exact eN h (gg [] [])
  refine gA ⟨[(2,false),(5,false),(6,false),(9,false),(10,false),(13,false)],[]⟩ [(3,4,an hb7),(5,5,oc hb7),(7,8,an hb8),(9,9,oc hb8),(11,12,an hb9),(13,13,oc hb9)] ?_
  exact eN h (gg [] [])
 refine aA (aV ?_)
 obtain rfl:=sI h
 exact aK [.bool] (by kernel_rfl)
def fV(c1:Int):Option (Bool) :=
 (((if(c1 == (95:Int))=true then some (true)
 else(if(decide (c1≥(97:Int)))=true then(if(decide (c1≤(122:Int)))=true then some (true)
 else(if(decide (c1≥(65:Int)))=true then(if(decide (c1≤(90:Int)))=true then some (true)
 else(if(decide (c1≥(48:Int)))=true then some ((decide (c1≤(57:Int))))
 else some (false)))
 else(if(decide (c1≥(48:Int)))=true then some ((decide (c1≤(57:Int))))
 else some (false))))
 else(if(decide (c1≥(65:Int)))=true then(if(decide (c1≤(90:Int)))=true then some (true)
 else(if(decide (c1≥(48:Int)))=true then some ((decide (c1≤(57:Int))))
 else some (false)))
 else(if(decide (c1≥(48:Int)))=true then some ((decide (c1≤(57:Int))))
 else some (false)))))).bind fun v1=>some v1)
theorem cH{c1:Int}{res:Bool}(h:fV c1=some res):
  Pure Tryd.prog 78 [.u8 c1] (bX (fL false [⟨.bool,res⟩])):=by
 refine Pure.of_body bK Tryd.func78 (by kernel_rfl) rfl (nl rfl) (fun Bw w0=> ?_) rfl
 unfold fV at h
 refine G (aC (fA h (fun v1=>aN [(2,.bo v1)] [] 0) (fun v1 h=> ?_) (fun v1 h=> ?_)))
 ·rcases bY h with⟨hb23,h⟩ | ⟨hb23,h⟩
  ·refine gA ⟨[(2,true),(9,true)],[]⟩ [(3,5,oc hb23),(8,9,oc hb23)] ?_
   exact eN h (gg [] [])
  rcases bY h with⟨hb24,h⟩ | ⟨hb24,h⟩
  ·rcases bY h with⟨hb25,h⟩ | ⟨hb25,h⟩
   ·refine gA ⟨[(2,false),(5,true),(8,true),(9,false),(10,true),(17,true)],[]⟩ [(3,5,an hb23),(6,7,an hb24),(8,8,oc (And.intro hb23 hb24)),(9,9,oc hb23),(11,13,oc hb25),(16,17,oc hb25)] ?_
    exact eN h (gg [] [])
   rcases bY h with⟨hb26,h⟩ | ⟨hb26,h⟩
   ·rcases bY h with⟨hb27,h⟩ | ⟨hb27,h⟩
    ·refine gA ⟨[(2,false),(5,true),(8,true),(9,false),(10,false),(13,true),(16,true),(17,false),(18,true),(25,true)],[]⟩ [(3,5,an hb23),(6,7,an hb24),(8,8,oc (And.intro hb23 hb24)),(9,9,oc hb23),(11,13,an hb25),(14,15,an hb26),(16,16,oc (And.intro hb25 hb26)),(17,17,oc hb25),(19,21,oc hb27),(24,25,oc hb27)] ?_
     exact eN h (gg [] [])
    rcases bY h with⟨hb28,h⟩ | ⟨hb28,h⟩
    ·refine gA ⟨[(2,false),(5,true),(8,true),(9,false),(10,false),(13,true),(16,true),(17,false),(18,false),(21,true),(24,true),(25,false)],[]⟩ [(3,5,an hb23),(6,7,an hb24),(8,8,oc (And.intro hb23 hb24)),(9,9,oc hb23),(11,13,an hb25),(14,15,an hb26),(16,16,oc (And.intro hb25 hb26)),(17,17,oc hb25),(19,21,an hb27),(22,23,an hb28),(24,24,oc (And.intro hb27 hb28)),(25,25,oc hb27)] ?_
     exact eN h (gg [] [])
    refine gA ⟨[(2,false),(5,true),(8,true),(9,false),(10,false),(13,true),(16,true),(17,false),(18,false),(21,false),(24,false),(25,false)],[]⟩ [(3,5,an hb23),(6,7,an hb24),(8,8,oc (And.intro hb23 hb24)),(9,9,oc hb23),(11,13,an hb25),(14,15,an hb26),(16,16,oc (And.intro hb25 hb26)),(17,17,oc hb25),(19,21,an hb27),(22,23,oc hb28),(24,24,oc (And.intro hb27 hb28)),(25,25,oc hb27)] ?_
    exact eN h (gg [] [])
   rcases bY h with⟨hb29,h⟩ | ⟨hb29,h⟩
   ·refine gA ⟨[(2,false),(5,true),(8,true),(9,false),(10,false),(13,false),(16,false),(17,false),(21,true),(24,true)],[]⟩ [(3,5,an hb23),(6,7,an hb24),(8,8,oc (And.intro hb23 hb24)),(9,9,oc hb23),(11,13,an hb25),(14,15,oc hb26),(16,16,oc (And.intro hb25 hb26)),(17,17,oc hb25),(22,23,an hb29),(24,24,oc hb29)] ?_
    exact eN h (gg [] [])
   refine gA ⟨[(2,false),(5,true),(8,true),(9,false),(10,false),(13,false),(16,false),(17,false),(21,false),(24,false)],[]⟩ [(3,5,an hb23),(6,7,an hb24),(8,8,oc (And.intro hb23 hb24)),(9,9,oc hb23),(11,13,an hb25),(14,15,oc hb26),(16,16,oc (And.intro hb25 hb26)),(17,17,oc hb25),(22,24,oc hb29)] ?_
   exact eN h (gg [] [])
  rcases bY h with⟨hb30,h⟩ | ⟨hb30,h⟩
  ·rcases bY h with⟨hb31,h⟩ | ⟨hb31,h⟩
   ·refine gA ⟨[(2,false),(5,false),(8,false),(9,false),(13,true),(16,true),(18,true),(25,true)],[]⟩ [(3,5,an hb23),(6,7,oc hb24),(8,8,oc (And.intro hb23 hb24)),(9,9,oc hb23),(14,15,an hb30),(16,16,oc hb30),(19,21,oc hb31),(24,25,oc hb31)] ?_
    exact eN h (gg [] [])
   rcases bY h with⟨hb32,h⟩ | ⟨hb32,h⟩
   ·refine gA ⟨[(2,false),(5,false),(8,false),(9,false),(13,true),(16,true),(18,false),(21,true),(24,true),(25,false)],[]⟩ [(3,5,an hb23),(6,7,oc hb24),(8,8,oc (And.intro hb23 hb24)),(9,9,oc hb23),(14,15,an hb30),(16,16,oc hb30),(19,21,an hb31),(22,23,an hb32),(24,24,oc (And.intro hb31 hb32)),(25,25,oc hb31)] ?_
    exact eN h (gg [] [])
   refine gA ⟨[(2,false),(5,false),(8,false),(9,false),(13,true),(16,true),(18,false),(21,false),(24,false),(25,false)],[]⟩ [(3,5,an hb23),(6,7,oc hb24),(8,8,oc (And.intro hb23 hb24)),(9,9,oc hb23),(14,15,an hb30),(16,16,oc hb30),(19,21,an hb31),(22,23,oc hb32),(24,24,oc (And.intro hb31 hb32)),(25,25,oc hb31)] ?_
   exact eN h (gg [] [])
  rcases bY h with⟨hb33,h⟩ | ⟨hb33,h⟩
  ·refine gA ⟨[(2,false),(5,false),(8,false),(9,false),(13,false),(16,false),(21,true),(24,true)],[]⟩ [(3,5,an hb23),(6,7,oc hb24),(8,8,oc (And.intro hb23 hb24)),(9,9,oc hb23),(14,16,oc hb30),(22,23,an hb33),(24,24,oc hb33)] ?_
   exact eN h (gg [] [])
  refine gA ⟨[(2,false),(5,false),(8,false),(9,false),(13,false),(16,false),(21,false),(24,false)],[]⟩ [(3,5,an hb23),(6,7,oc hb24),(8,8,oc (And.intro hb23 hb24)),(9,9,oc hb23),(14,16,oc hb30),(22,24,oc hb33)] ?_
  exact eN h (gg [] [])
 refine aA (aV ?_)
 obtain rfl:=sI h
 exact aK [.bool] (by kernel_rfl)
def eG(s1:List (List UInt8))(v1:List UInt8):(Int)→Option ((Int)⊕((Unit)⊕(Int))):=fun v3 =>
 (if(decide (v3<(s1.length:Int)))=true then(if 0≤v3∧v3<(s1.length:Int)then(if(v1 == (s1.getD v3.toNat ([]:List UInt8)))=true then some (Sum.inr (Sum.inr v3))
 else some (Sum.inl (IntKind.i64.wrap (v3+(1:Int)))))else none)
 else some (Sum.inr (Sum.inl ())))
def dI(s1:List (List UInt8))(v1:List UInt8):Option (Int) :=
 ((iter (eG s1 v1) (0:Int)).bind fun(r2:((Unit)⊕(Int)))=>match r2 with
 | .inl _=>some (-1:Int)
 | .inr (r1)=>some r1)
theorem iN(β0:Bool){s1:List (List UInt8)}{v1:List UInt8}{res:Int}(h:dI s1 v1=some res):
  Pure Tryd.prog 83 [.p β0 (.slice .str) s1,.st v1] (bX (fL false [⟨(.int .i64),res⟩])):=by
 refine Pure.of_body bK Tryd.func83 (by kernel_rfl) rfl (nl rfl) (fun Bw w0=> ?_) rfl
 unfold dI at h
 refine G (aC (G (aF (oH h (fun v3=>aN [(0,.p β0 (.slice .str) s1),(1,.st v1),(7,.i64 (s1.length:Int)),(8,.i64 v3)] [] 0) (fS (gW Tryd.f83.ntmps 0 (fun _=>aN [] [] 0)) (nE tb Tryd.f83.results.toList (fun r1=>[⟨(.int .i64),r1⟩]))) (gg [] []) (fun v3 o h=> ?_) (fun r2 h e σ' hq=> ?_)))))
 ·unfold eG at h
  refine G (aC (aS h (fun hb5 h=> ?_) (fun hb5 h=> ?_)))
  ·refine aB (aA (aC (aF (G (GC 3 h (fun h=>aS h (fun hb6 h=> ?_) (fun hb6 h=> ?_)))))))
   ·refine G (aV ?_)
    obtain rfl:=sI h
    refine aT (aG (d9 (aR ?_)))
    exact gH (aK [(.int .i64)] (by kernel_rfl))
   refine aB (aM (aA (Ge ?_)))
   exact eB h (gg [] [])
  refine aH (bM ?_)
  obtain rfl:=sI h
  refine gE (b5 ?_)
  exact dB (gg [] [])
 rcases r2 with _ | r1
 ·obtain⟨rfl,hle⟩:=hq
  refine fG ?_ hle
  refine aJ (aA (G (aV ?_)))
  obtain rfl:=sI h
  exact aK [(.int .i64)] (by kernel_rfl)
 obtain⟨rfl,hr⟩:=hq
 refine aT (aG ?_)
 obtain rfl:=sI h
 exact hr
def cW(e1 at1:Int)(p1:List UInt8)(p2 p3 p4 p5 p6:Int)(o1:List (List UInt8))(o2:List Int)(o3:List (Int×Tree×Tree))(o4:List ((List UInt8)×Int)):Option ((Unit)⊕(Int×Int)):=some (Sum.inr (e1,at1))
theorem rJ(v:Value)(e a:Int)(w:World):
  Calls Tryd.prog 31 #[v,.int .i64 e,.int .i64 a] w fun r w'=>r = .panicked [{ v:=aP 53 .i64 .i64 (e,a),recovered:=false }]∧w'=w:=by
 go_enter Tryd.func31,Tryd.ntmps31
 go_wp2
 exact⟨rfl,rfl,rfl⟩
theorem bW{e1:Int}{at1:Int}{p1:List UInt8}{p2:Int}{p3:Int}{p4:Int}{p5:Int}{p6:Int}{o1:List (List UInt8)}{o2:List Int}{o3:List (Int×Tree×Tree)}{o4:List ((List UInt8)×Int)}{res:(Unit)⊕(Int×Int)}(h:cW e1 at1 p1 p2 p3 p4 p5 p6 o1 o2 o3 o4=some res):
  Does Tryd.prog 31 [.adr 0 0 10 0,.i64 e1,.i64 at1] (bE p1 p2 p3 p4 p5 p6 o1 o2 o3 o4) (iS (fun(q:Unit)=>(.tup [],[])) (aP 53 .i64 .i64) res):=by
 obtain rfl:=sI h
 exact Dies.of_calls Tryd.func31 (by kernel_rfl) rfl (fun v w=>rJ v _ _ w)
def oZ(d1:List UInt8)(d3 d4 d5 d6:Int)(o1:List (List UInt8))(o2:List Int)(o3:List (Int×Tree×Tree))(o4:List ((List UInt8)×Int)):(Int)→Option ((Int)⊕((Int)⊕((Int×Int)⊕(Int×Int)))):=fun d10 =>
 (if(decide (d10<(d1.length:Int)))=true then(if 0≤d10∧d10<(d1.length:Int)then(if(((d1.getD d10.toNat 0).toNat:Int) == (35:Int))=true then(if 0≤d10∧d10≤(d1.length:Int)∧(d1.length:Int)≤(d1.length:Int)then((fK ((d1.take (d1.length:Int).toNat).drop d10.toNat) (10:Int)).bind fun r56 =>
 (((if(decide (r56<(0:Int)))=true then some ((IntKind.i64.wrap ((d1.length:Int) - d10)))
 else some (r56))).bind fun v14=>some (Sum.inl (IntKind.i64.wrap (d10+v14)))))else none)
 else((nV ((d1.getD d10.toNat 0).toNat:Int)).bind fun r58 =>
 (if r58=true then some (Sum.inl (IntKind.i64.wrap (d10+(1:Int))))
 else((((fV ((d1.getD d10.toNat 0).toNat:Int)).bind fun r63 =>
 (if(!r63)=true then((fK ([40,41,91,93,94,124,42,43,63,46,59,47,61]:List UInt8) ((d1.getD d10.toNat 0).toNat:Int)).bind fun r64 =>
 some ((decide (r64<(0:Int)))))
 else some (false)))).bind fun v15=>(if v15=true then((cW (20:Int) d10 d1 d10 d3 d4 d5 d6 o1 o2 o3 o4).bind fun(z12:(Unit)⊕(Int×Int))=>match z12 with
 | .inr (e27,e28)=>some (Sum.inr (Sum.inr (Sum.inl (e27,e28))))
 | .inl _=>none)
 else some (Sum.inr (Sum.inr (Sum.inr (((d1.getD d10.toNat 0).toNat:Int),d10)))))))))else none)
 else some (Sum.inr (Sum.inl d10)))
def eH(d1:List UInt8)(d2 d3 d4 d5 d6:Int)(o1:List (List UInt8))(o2:List Int)(o3:List (Int×Tree×Tree))(o4:List ((List UInt8)×Int)):Option ((Int×Int)⊕(Int×Int)) :=
 ((iter (oZ d1 d3 d4 d5 d6 o1 o2 o3 o4) d2).bind fun(r65:((Int)⊕((Int×Int)⊕(Int×Int))))=>match r65 with
 | .inl v13=>some (Sum.inl ((0:Int),v13))
 | .inr (.inl (e23,e24))=>some (Sum.inr (e23,e24))
 | .inr (.inr ((r53,r54)))=>some (Sum.inl (r53,r54)))
theorem bD{d1:List UInt8}{d2:Int}{d3:Int}{d4:Int}{d5:Int}{d6:Int}{o1:List (List UInt8)}{o2:List Int}{o3:List (Int×Tree×Tree)}{o4:List ((List UInt8)×Int)}{res:(Int×Int)⊕(Int×Int)}(h:eH d1 d2 d3 d4 d5 d6 o1 o2 o3 o4=some res):
  Does Tryd.prog 53 [.adr 0 0 10 0] (bE d1 d2 d3 d4 d5 d6 o1 o2 o3 o4) (iS (fun(q:Int×Int)=>(.u8 q.1,(bE d1 q.2 d3 d4 d5 d6 o1 o2 o3 o4))) (aP 53 .i64 .i64) res):=by
 refine Does.of_body bK Tryd.func53 (by kernel_rfl) rfl (nl rfl) (fun Bw w0=> ?_)
 unfold eH at h
 refine G (aC (aF (oH h (fun d10=>aN [(0,.adr 0 0 10 0)] (bE d1 d10 d3 d4 d5 d6 o1 o2 o3 o4) 5 5) (fS (gW Tryd.f53.ntmps 0 (fun v13=>aN [] (bE d1 v13 d3 d4 d5 d6 o1 o2 o3 o4) 5 5)) (fS (qG (aP 53 .i64 .i64)) (J6 tb Tryd.f53.ntmps Tryd.f53.results.toList (fun(r53,r54)=>(.u8 r53,(bE d1 r54 d3 d4 d5 d6 o1 o2 o3 o4)))))) (gg [] [0,1,2,3,4]) (fun d10 o h=> ?_) (fun r65 h e σ' hq=> ?_))))
 ·unfold oZ at h
  refine aC (GD a0 [] (aS h (fun hb46 h=> ?_) (fun hb46 h=> ?_)))
  ·refine aB (aA (aF ?_))
   obtain⟨c22,h⟩:=bB h
   refine GD a0 [(8,8,oc c22)] (G (aS h (fun hb47 h=> ?_) (fun hb47 h=> ?_)))
   ·obtain⟨c24,h⟩:=bB h
    obtain⟨r56,q62,h⟩:=aD h
    have u_1:=(iR q62)
    refine GD ⟨[],[(9,(oP u_1))]⟩ [(8,8,oc c24),(9,9,oc u_1)] (aC (G (fA h (fun v14=>aN [(0,.adr 0 0 10 0),(4,.i64 v14)] (bE d1 d10 d3 d4 d5 d6 o1 o2 o3 o4) 5 5) (fun v14 h=> ?_) (fun v14 h=> ?_))))
    ·refine aS h (fun hb49 h=> ?_) (fun hb49 h=> ?_)
     ·refine xB a0 [] ?_
      exact eN h (gg [] [0,1,2,3,4])
     refine aB ?_
     exact eN h (gg [] [0,1,2,3,4])
    refine aA (Ge (aM ?_))
    exact eB h (gg [] [0,1,2,3,4])
   obtain⟨r58,q64,h⟩:=aD h
   refine GP 1 (wD q64) (aS h (fun hb50 h=> ?_) (fun hb50 h=> ?_))
   ·refine Ge (aM ?_)
    exact eB h (gg [] [0,1,2,3,4])
   refine aC (aC (fA h (fun v15=>aN [(0,.adr 0 0 10 0),(3,.u8 ((d1.getD d10.toNat 0).toNat:Int)),(72,.bo v15)] (bE d1 d10 d3 d4 d5 d6 o1 o2 o3 o4) 5 5) (fun v15 h=> ?_) (fun v15 h=> ?_)))
   ·obtain⟨r63,q69,h⟩:=aD h
    rcases bY h with⟨hb53,h⟩ | ⟨hb53,h⟩
    ·obtain⟨r64,q70,h⟩:=aD h
     have u_1:=(cH q69)
     have u_2:=(iR q70)
     refine gA ⟨[(3,true),(7,true)],[(1,(oP u_1)),(5,(oP u_2))]⟩ [(1,1,oc u_1),(4,4,an hb53),(5,5,oc (And.intro hb53 u_2)),(6,6,an hb53),(7,7,oc hb53)] ?_
     exact eN h (gg [] [0,1,2,3,4])
    have u_1:=(cH q69)
    refine gA ⟨[(3,false),(7,false)],[(1,(oP u_1))]⟩ [(1,1,oc u_1),(4,7,oc hb53)] ?_
    exact eN h (gg [] [0,1,2,3,4])
   refine aA (aS h (fun hb54 h=> ?_) (fun hb54 h=> ?_))
   ·obtain⟨z12,q72,h⟩:=aD h
    rcases z12 with _ | ⟨e27,e28⟩
    ·cases h
    refine GX 5 [0,1,2,3,4] (bW q72) (fun _=> ?_)
    obtain rfl:=sI h
    refine aE (aX (bJ (aR (zY ?_))))
    exact rfl
   refine aB (aA (G (aV ?_)))
   obtain rfl:=sI h
   refine aT (d9 (aR (aR ?_)))
   exact yL (aO [some (.int .u8)] [] [0,1,2,3,4] [(2,.u8 ((d1.getD d10.toNat 0).toNat:Int))] (bE d1 d10 d3 d4 d5 d6 o1 o2 o3 o4) 5 5 (by kernel_rfl) (by kernel_rfl) (by kernel_rfl))
  refine aH (bM ?_)
  obtain rfl:=sI h
  refine gE (b5 ?_)
  exact dB (gg [] [0,1,2,3,4])
 rcases r65 with v13 | ⟨e23,e24⟩ | ⟨r53,r54⟩
 ·obtain⟨rfl,hle⟩:=hq
  refine fG ?_ hle
  refine aJ (aA (G (aV ?_)))
  obtain rfl:=sI h
  exact aO [some (.int .u8)] [] [0,1,2,3,4] [(2,.u8 (0:Int))] (bE d1 v13 d3 d4 d5 d6 o1 o2 o3 o4) 5 5 (by kernel_rfl) (by kernel_rfl) (by kernel_rfl)
 ·obtain rfl:=hq
  refine aX (aE ?_)
  obtain rfl:=sI h
  exact rfl
 obtain⟨rfl,hr⟩:=hq
 refine aT (aG ?_)
 obtain rfl:=sI h
 exact hr
def oK(p1:List UInt8):(Int)→Option ((Int)⊕(Int)):=fun p11 =>
 (((if(decide (p11<(p1.length:Int)))=true then(if 0≤p11∧p11<(p1.length:Int)then((fV ((p1.getD p11.toNat 0).toNat:Int)).bind fun r32 =>
 some (r32))else none)
 else some (false))).bind fun v7=>(if v7=true then some (Sum.inl (IntKind.i64.wrap (p11+(1:Int))))
 else some (Sum.inr p11)))
def iJ(p1:List UInt8)(p2 p3 p4 p5 p6:Int)(o1:List (List UInt8))(o2:List Int)(o3:List (Int×Tree×Tree))(o4:List ((List UInt8)×Int)):Option (((List UInt8)×Int×Int)⊕(Int×Int)) :=
 ((eH p1 p2 p3 p4 p5 p6 o1 o2 o3 o4).bind fun(z6:(Int×Int)⊕(Int×Int))=>match z6 with
 | .inr (e11,e12)=>some (Sum.inr (e11,e12))
 | .inl (r21,r22)=>((fV r21).bind fun r23 =>
 (if(!r23)=true then((cW (21:Int) r22 p1 r22 p3 p4 p5 p6 o1 o2 o3 o4).bind fun(z8:(Unit)⊕(Int×Int))=>match z8 with
 | .inr (e15,e16)=>some (Sum.inr (e15,e16))
 | .inl _=>none)
 else((iter (oK p1) r22).bind fun p12=>(if 0≤r22∧r22≤p12∧p12≤(p1.length:Int)then some (Sum.inl (((p1.take p12.toNat).drop r22.toNat),r22,p12))else none)))))
theorem dG{p1:List UInt8}{p2:Int}{p3:Int}{p4:Int}{p5:Int}{p6:Int}{o1:List (List UInt8)}{o2:List Int}{o3:List (Int×Tree×Tree)}{o4:List ((List UInt8)×Int)}{res:((List UInt8)×Int×Int)⊕(Int×Int)}(h:iJ p1 p2 p3 p4 p5 p6 o1 o2 o3 o4=some res):
  Does Tryd.prog 54 [.adr 0 0 10 0] (bE p1 p2 p3 p4 p5 p6 o1 o2 o3 o4) (iS (fun(q:(List UInt8)×Int×Int)=>(.tup [.st q.1,.i64 q.2.1],(bE p1 q.2.2 p3 p4 p5 p6 o1 o2 o3 o4))) (aP 53 .i64 .i64) res):=by
 refine Does.of_body bK Tryd.func54 (by kernel_rfl) rfl (nl rfl) (fun Bw w0=> ?_)
 unfold iJ at h
 refine G (aC (aC ?_))
 obtain⟨z6,q18,h⟩:=aD h
 rcases z6 with⟨r21,r22⟩ | ⟨e11,e12⟩
 ·obtain⟨r23,q19,h⟩:=aD h
  have u_1:=(bD q18)
  have u_2:=(cH q19)
  refine gA ⟨[],[(1,(oO u_1 [0,1,2,3,4])),(2,(oP u_2))]⟩ [(1,1,oc u_1),(2,2,oc u_2)] (aA (aS h (fun hb14 h=> ?_) (fun hb14 h=> ?_)))
  ·obtain⟨z8,q21,h⟩:=aD h
   rcases z8 with _ | ⟨e15,e16⟩
   ·cases h
   refine GX 5 [0,1,2,3,4] (bW q21) (fun _=>aE ?_)
   obtain rfl:=sI h
   exact rfl
  refine aB (aA (G (aC (aF (hU h (fun p11=>aN [(0,.adr 0 0 10 0),(4,.i64 r22)] (bE p1 p11 p3 p4 p5 p6 o1 o2 o3 o4) 5 5) 0 (fun p12=>aN [(0,.adr 0 0 10 0),(4,.i64 r22)] (bE p1 p12 p3 p4 p5 p6 o1 o2 o3 o4) 5 5) (gg [] [0,1,2,3,4]) (fun p11 o h=> ?_) (fun p12 h=> ?_))))))
  ·unfold oK at h
   refine aC (aC (fA h (fun v7=>aN [(0,.adr 0 0 10 0),(4,.i64 r22),(40,.bo v7)] (bE p1 p11 p3 p4 p5 p6 o1 o2 o3 o4) 5 5) (fun v7 h=> ?_) (fun v7 h=> ?_)))
   ·rcases bY h with⟨hb25,h⟩ | ⟨hb25,h⟩
    ·obtain⟨c20,h⟩:=bB h
     obtain⟨r32,q30,h⟩:=aD h
     have u_1:=(cH q30)
     refine xB ⟨[(10,true),(21,true)],[(20,(oP u_1))]⟩ [(11,18,an hb25),(19,19,oc (And.intro hb25 c20)),(20,20,oc (And.intro hb25 u_1)),(21,21,oc hb25)] ?_
     exact eN h (gg [] [0,1,2,3,4])
    refine xB ⟨[(10,false),(21,false)],[]⟩ [(11,21,oc hb25)] ?_
    exact eN h (gg [] [0,1,2,3,4])
   refine aA (aS h (fun hb26 h=> ?_) (fun hb26 h=> ?_))
   ·refine aB (aA (aF (Ge (aM ?_))))
    exact eB h (gg [] [0,1,2,3,4])
   refine aH (bM ?_)
   exact eX h (gg [] [0,1,2,3,4])
  refine aJ (aA ?_)
  obtain⟨c22,h⟩:=bB h
  refine GD a0 [(9,9,oc c22)] (aV ?_)
  obtain rfl:=sI h
  exact aO [some .str,some (.int .i64)] [] [0,1,2,3,4] [(2,.st ((p1.take p12.toNat).drop r22.toNat)),(3,.i64 r22)] (bE p1 p12 p3 p4 p5 p6 o1 o2 o3 o4) 5 5 (by kernel_rfl) (by kernel_rfl) (by kernel_rfl)
 refine GX 1 [0,1,2,3,4] (bD q18) (fun _=>aE (aE ?_))
 obtain rfl:=sI h
 exact rfl
def dW(c1:Int)(p1:List UInt8)(p2 p3 p4 p5 p6:Int)(o1:List (List UInt8))(o2:List Int)(o3:List (Int×Tree×Tree))(o4:List ((List UInt8)×Int)):Option ((Bool×Int)⊕(Int×Int)) :=
 ((eH p1 p2 p3 p4 p5 p6 o1 o2 o3 o4).bind fun(z4:(Int×Int)⊕(Int×Int))=>match z4 with
 | .inr (e7,e8)=>some (Sum.inr (e7,e8))
 | .inl (r8,r9)=>(if(r8 != c1)=true then some (Sum.inl (false,r9))
 else some (Sum.inl (true,(IntKind.i64.wrap (r9+(1:Int)))))))
theorem aZ{c1:Int}{p1:List UInt8}{p2:Int}{p3:Int}{p4:Int}{p5:Int}{p6:Int}{o1:List (List UInt8)}{o2:List Int}{o3:List (Int×Tree×Tree)}{o4:List ((List UInt8)×Int)}{res:(Bool×Int)⊕(Int×Int)}(h:dW c1 p1 p2 p3 p4 p5 p6 o1 o2 o3 o4=some res):
  Does Tryd.prog 71 [.adr 0 0 10 0,.u8 c1] (bE p1 p2 p3 p4 p5 p6 o1 o2 o3 o4) (iS (fun(q:Bool×Int)=>(.bo q.1,(bE p1 q.2 p3 p4 p5 p6 o1 o2 o3 o4))) (aP 53 .i64 .i64) res):=by
 refine Does.of_body bK Tryd.func71 (by kernel_rfl) rfl (nl rfl) (fun Bw w0=> ?_)
 unfold dW at h
 refine G (aC (aC ?_))
 obtain⟨z4,q4,h⟩:=aD h
 rcases z4 with⟨r8,r9⟩ | ⟨e7,e8⟩
 ·refine lA 1 [0,1,2,3,4] (bD q4) (aA (aS h (fun hb2 h=> ?_) (fun hb2 h=> ?_)))
  ·refine G (aV (aG ?_))
   obtain rfl:=sI h
   exact aO [some .bool] [] [0,1,2,3,4] [(4,.bo false)] (bE p1 r9 p3 p4 p5 p6 o1 o2 o3 o4) 5 5 (by kernel_rfl) (by kernel_rfl) (by kernel_rfl)
  refine aB (aA (G (G (aV ?_))))
  obtain rfl:=sI h
  exact aO [some .bool] [] [0,1,2,3,4] [(4,.bo true)] (bE p1 (IntKind.i64.wrap (r9+(1:Int))) p3 p4 p5 p6 o1 o2 o3 o4) 5 5 (by kernel_rfl) (by kernel_rfl) (by kernel_rfl)
 refine GX 1 [0,1,2,3,4] (bD q4) (fun _=>aE (aE ?_))
 obtain rfl:=sI h
 exact rfl
def kN(p1:List UInt8)(p2 p3 p4 p5 p6:Int)(o1:List (List UInt8))(o2:List Int)(o3:List (Int×Tree×Tree))(o4:List ((List UInt8)×Int)):Option (((List UInt8)×Int)⊕(Int×Int)) :=
 ((iJ p1 p2 p3 p4 p5 p6 o1 o2 o3 o4).bind fun(z6:((List UInt8)×Int×Int)⊕(Int×Int))=>match z6 with
 | .inr (e11,e12)=>some (Sum.inr (e11,e12))
 | .inl (r11,r12,r13)=>(if((bF .str o4 r11).isSome)=true then((cW (23:Int) r12 p1 r13 p3 p4 p5 p6 o1 o2 o3 o4).bind fun(z8:(Unit)⊕(Int×Int))=>match z8 with
 | .inr (e15,e16)=>some (Sum.inr (e15,e16))
 | .inl _=>none)
 else some (Sum.inl (r11,r13))))
theorem gX{p1:List UInt8}{p2:Int}{p3:Int}{p4:Int}{p5:Int}{p6:Int}{o1:List (List UInt8)}{o2:List Int}{o3:List (Int×Tree×Tree)}{o4:List ((List UInt8)×Int)}{res:((List UInt8)×Int)⊕(Int×Int)}(h:kN p1 p2 p3 p4 p5 p6 o1 o2 o3 o4=some res):
  Does Tryd.prog 72 [.adr 0 0 10 0] (bE p1 p2 p3 p4 p5 p6 o1 o2 o3 o4) (iS (fun(q:(List UInt8)×Int)=>(.st q.1,(bE p1 q.2 p3 p4 p5 p6 o1 o2 o3 o4))) (aP 53 .i64 .i64) res):=by
 refine Does.of_body bK Tryd.func72 (by kernel_rfl) rfl (nl rfl) (fun Bw w0=> ?_)
 unfold kN at h
 refine G (aC ?_)
 obtain⟨z6,q6,h⟩:=aD h
 rcases z6 with⟨r11,r12,r13⟩ | ⟨e11,e12⟩
 ·refine lA 1 [0,1,2,3,4] (dG q6) (aA (aC (G (G (aS h (fun hb2 h=> ?_) (fun hb2 h=> ?_))))))
  ·obtain⟨z8,q8,h⟩:=aD h
   rcases z8 with _ | ⟨e15,e16⟩
   ·cases h
   refine GX 2 [0,1,2,3,4] (bW q8) (fun _=>aE ?_)
   obtain rfl:=sI h
   exact rfl
  refine aB (aA (G (aV ?_)))
  obtain rfl:=sI h
  exact aO [some .str] [] [0,1,2,3,4] [(2,.st r11)] (bE p1 r13 p3 p4 p5 p6 o1 o2 o3 o4) 5 5 (by kernel_rfl) (by kernel_rfl) (by kernel_rfl)
 refine GX 1 [0,1,2,3,4] (dG q6) (fun _=>aE ?_)
 obtain rfl:=sI h
 exact rfl
def m6(d1:List UInt8)(d3 d4 d5 d6:Int)(o3:List (Int×Tree×Tree)):(Int×(List (List UInt8))×(List Int)×List ((List UInt8)×Int))→Option ((Int×(List (List UInt8))×(List Int)×List ((List UInt8)×Int))⊕((Int×(List (List UInt8))×(List Int)×List ((List UInt8)×Int))⊕(Int×Int))):=fun(d19,d20,d21,d22) =>
 ((dW (59:Int) d1 d19 d3 d4 d5 d6 d20 d21 o3 d22).bind fun(z42:(Bool×Int)⊕(Int×Int))=>match z42 with
 | .inr (e87,e88)=>some (Sum.inr (Sum.inr (e87,e88)))
 | .inl (r64,r65)=>(if(!r64)=true then((eH d1 r65 d3 d4 d5 d6 d20 d21 o3 d22).bind fun(z44:(Int×Int)⊕(Int×Int))=>match z44 with
 | .inr (e91,e92)=>some (Sum.inr (Sum.inr (e91,e92)))
 | .inl (r68,r69)=>((kN d1 r69 d3 d4 d5 d6 d20 d21 o3 d22).bind fun(z46:((List UInt8)×Int)⊕(Int×Int))=>match z46 with
 | .inr (e95,e96)=>some (Sum.inr (Sum.inr (e95,e96)))
 | .inl (r72,r73)=>(if(decide ((d20.length:Int)≥(24:Int)))=true then((cW (24:Int) r69 d1 r73 d3 d4 d5 d6 d20 d21 o3 d22).bind fun(z48:(Unit)⊕(Int×Int))=>match z48 with
 | .inr (e99,e100)=>some (Sum.inr (Sum.inr (e99,e100)))
 | .inl _=>none)
 else(if 0≤(d20.length:Int)then(if(d21.length+([(d20.length:Int)]:List Int).length)*8≤140737488355328∧d21.length+([(d20.length:Int)]:List Int).length≤9223372036854775807 then(if(d20.length+([r72]:List (List UInt8)).length)*16≤140737488355328∧d20.length+([r72]:List (List UInt8)).length≤9223372036854775807 then some (Sum.inl (r73,(d20++([r72]:List (List UInt8))),(d21++([(d20.length:Int)]:List Int)),(eF .str d22 r72 (IntKind.u32.wrap ((1:Int)*2 ^ (min (d20.length:Int).toNat IntKind.u32.bits))))))else none)else none)else none))))
 else some (Sum.inr (Sum.inl (r65,d20,d21,d22)))))
def nX(d1:List UInt8)(d2 d3 d4 d5 d6:Int)(o1:List (List UInt8))(o2:List Int)(o3:List (Int×Tree×Tree))(o4:List ((List UInt8)×Int)):Option ((Int×(List (List UInt8))×(List Int)×List ((List UInt8)×Int))⊕(Int×Int)) :=
 ((iter (m6 d1 d3 d4 d5 d6 o3) (d2,o1,o2,o4)).bind fun(r74:((Int×(List (List UInt8))×(List Int)×List ((List UInt8)×Int))⊕(Int×Int)))=>match r74 with
 | .inl (v9,v10,v11,v12)=>some (Sum.inl (v9,v10,v11,v12))
 | .inr ((e83,e84))=>some (Sum.inr (e83,e84)))
theorem nZ{d1:List UInt8}{d2:Int}{d3:Int}{d4:Int}{d5:Int}{d6:Int}{o1:List (List UInt8)}{o2:List Int}{o3:List (Int×Tree×Tree)}{o4:List ((List UInt8)×Int)}{res:(Int×(List (List UInt8))×(List Int)×List ((List UInt8)×Int))⊕(Int×Int)}(h:nX d1 d2 d3 d4 d5 d6 o1 o2 o3 o4=some res):
  Does Tryd.prog 49 [.adr 0 0 10 0] (bE d1 d2 d3 d4 d5 d6 o1 o2 o3 o4) (iS (fun(q:Int×(List (List UInt8))×(List Int)×List ((List UInt8)×Int))=>(.tup [],(aBw d1 q.1 d3 d4 d5 d6 o3 q.2.2.2 q.2.1 q.2.2.1))) (aP 53 .i64 .i64) res):=by
 refine Does.of_body bK Tryd.func49 (by kernel_rfl) rfl (nl rfl) (fun Bw w0=> ?_)
 unfold nX at h
 refine aF (oH h (fun(d19,d20,d21,d22)=>aN [(0,.adr 0 0 10 0)] (aBw d1 d19 d3 d4 d5 d6 o3 d22 d20 d21) 7 5) (fS (gW Tryd.f49.ntmps 0 (fun(v9,v10,v11,v12)=>aN [] (aBw d1 v9 d3 d4 d5 d6 o3 v12 v10 v11) 7 5)) (qG (aP 53 .i64 .i64))) (gg [] [0,1,2,3,4,1,2]) (fun y o h=> ?_) (fun r74 h e σ' hq=> ?_))
 ·obtain⟨d19,d20,d21,d22⟩:=y
  unfold m6 at h
  refine aC (aC ?_)
  obtain⟨z42,q42,h⟩:=aD h
  rcases z42 with⟨r64,r65⟩ | ⟨e87,e88⟩
  ·refine lA 1 [0,5,6,3,4] (aZ q42) (aA (aS h (fun hb11 h=> ?_) (fun hb11 h=> ?_)))
   ·refine aB (aA (aF (aC ?_)))
    obtain⟨z44,q44,h⟩:=aD h
    rcases z44 with⟨r68,r69⟩ | ⟨e91,e92⟩
    ·refine lA 1 [0,5,6,3,4] (bD q44) (aA (G (aC ?_)))
     obtain⟨z46,q46,h⟩:=aD h
     rcases z46 with⟨r72,r73⟩ | ⟨e95,e96⟩
     ·refine lA 1 [0,5,6,3,4] (gX q46) (aA (aC (G (aS h (fun hb12 h=> ?_) (fun hb12 h=> ?_)))))
      ·obtain⟨z48,q48,h⟩:=aD h
       rcases z48 with _ | ⟨e99,e100⟩
       ·cases h
       refine GX 2 [0,5,6,3,4] (bW q48) (fun _=> ?_)
       obtain rfl:=sI h
       refine aE (aX (bJ (aR ?_)))
       exact rfl
      refine aB (aA ?_)
      obtain⟨c32,h⟩:=bB h
      refine GD a0 [(11,11,oc c32)] ?_
      obtain⟨c34,h⟩:=bB h
      refine GD a0 [(13,13,oc c34)] (GCe 8 h (fun h=>aM ?_))
      exact eB h (gg [] [0,1,2,3,4,479,375])
     refine GX 1 [0,5,6,3,4] (gX q46) (fun _=> ?_)
     obtain rfl:=sI h
     refine aE (aX (bJ (aR ?_)))
     exact rfl
    refine GX 1 [0,5,6,3,4] (bD q44) (fun _=> ?_)
    obtain rfl:=sI h
    refine aE (aX (bJ (aR ?_)))
    exact rfl
   refine aH (bM ?_)
   obtain rfl:=sI h
   refine gE (b5 ?_)
   exact dB (gg [] [0,1,2,3,4,5,6])
  refine GX 1 [0,5,6,3,4] (aZ q42) (fun _=> ?_)
  obtain rfl:=sI h
  refine aE (aE (bJ (aR ?_)))
  exact rfl
 rcases r74 with⟨v9,v10,v11,v12⟩ | ⟨e83,e84⟩
 ·obtain⟨rfl,hle⟩:=hq
  refine fG ?_ hle
  refine aJ ?_
  obtain rfl:=sI h
  exact(aO [] [] [0,1,2,3,4,5,6] [] (aBw d1 v9 d3 d4 d5 d6 o3 v12 v10 v11) 7 5 (by kernel_rfl) (by kernel_rfl) (by kernel_rfl)).normal
 obtain rfl:=hq
 refine aX ?_
 obtain rfl:=sI h
 exact rfl
def fO(c1:Int)(p1:List UInt8)(p2 p3 p4 p5 p6:Int)(o1:List (List UInt8))(o2:List Int)(o3:List (Int×Tree×Tree))(o4:List ((List UInt8)×Int)):Option ((Int)⊕(Int×Int)) :=
 ((dW c1 p1 p2 p3 p4 p5 p6 o1 o2 o3 o4).bind fun(z6:(Bool×Int)⊕(Int×Int))=>match z6 with
 | .inr (e11,e12)=>some (Sum.inr (e11,e12))
 | .inl (r7,r8)=>(if(!r7)=true then((cW (21:Int) r8 p1 r8 p3 p4 p5 p6 o1 o2 o3 o4).bind fun(z8:(Unit)⊕(Int×Int))=>match z8 with
 | .inr (e15,e16)=>some (Sum.inr (e15,e16))
 | .inl _=>none)
 else some (Sum.inl r8)))
theorem bN{c1:Int}{p1:List UInt8}{p2:Int}{p3:Int}{p4:Int}{p5:Int}{p6:Int}{o1:List (List UInt8)}{o2:List Int}{o3:List (Int×Tree×Tree)}{o4:List ((List UInt8)×Int)}{res:(Int)⊕(Int×Int)}(h:fO c1 p1 p2 p3 p4 p5 p6 o1 o2 o3 o4=some res):
  Does Tryd.prog 73 [.adr 0 0 10 0,.u8 c1] (bE p1 p2 p3 p4 p5 p6 o1 o2 o3 o4) (iS (fun(q:Int)=>(.tup [],(bE p1 q p3 p4 p5 p6 o1 o2 o3 o4))) (aP 53 .i64 .i64) res):=by
 refine Does.of_body bK Tryd.func73 (by kernel_rfl) rfl (nl rfl) (fun Bw w0=> ?_)
 unfold fO at h
 refine aC ?_
 obtain⟨z6,q6,h⟩:=aD h
 rcases z6 with⟨r7,r8⟩ | ⟨e11,e12⟩
 ·refine lA 2 [0,1,2,3,4] (aZ q6) (aA (aS h (fun hb2 h=> ?_) (fun hb2 h=> ?_)))
  ·obtain⟨z8,q8,h⟩:=aD h
   rcases z8 with _ | ⟨e15,e16⟩
   ·cases h
   refine GX 5 [0,1,2,3,4] (bW q8) (fun _=> ?_)
   obtain rfl:=sI h
   exact rfl
  refine aB ?_
  obtain rfl:=sI h
  exact(aO [] [] [0,1,2,3,4] [] (bE p1 r8 p3 p4 p5 p6 o1 o2 o3 o4) 5 5 (by kernel_rfl) (by kernel_rfl) (by kernel_rfl)).normal
 refine GX 2 [0,1,2,3,4] (aZ q6) (fun _=>aE ?_)
 obtain rfl:=sI h
 exact rfl
def kM(p1:List UInt8)(p2 p3 p4 p5 p6:Int)(o1:List (List UInt8))(o2:List Int)(o3:List (Int×Tree×Tree))(o4:List ((List UInt8)×Int)):Option ((Int×Int)⊕(Int×Int)) :=
 ((iJ p1 p2 p3 p4 p5 p6 o1 o2 o3 o4).bind fun(z6:((List UInt8)×Int×Int)⊕(Int×Int))=>match z6 with
 | .inr (e11,e12)=>some (Sum.inr (e11,e12))
 | .inl (r11,r12,r13)=>(if((bF .str o4 r11).isSome)=true then some (Sum.inl (((bF .str o4 r11).getD (0:Int)),r13))
 else((cW (22:Int) r12 p1 r13 p3 p4 p5 p6 o1 o2 o3 o4).bind fun(z8:(Unit)⊕(Int×Int))=>match z8 with
 | .inr (e15,e16)=>some (Sum.inr (e15,e16))
 | .inl _=>none)))
theorem g9{p1:List UInt8}{p2:Int}{p3:Int}{p4:Int}{p5:Int}{p6:Int}{o1:List (List UInt8)}{o2:List Int}{o3:List (Int×Tree×Tree)}{o4:List ((List UInt8)×Int)}{res:(Int×Int)⊕(Int×Int)}(h:kM p1 p2 p3 p4 p5 p6 o1 o2 o3 o4=some res):
  Does Tryd.prog 82 [.adr 0 0 10 0] (bE p1 p2 p3 p4 p5 p6 o1 o2 o3 o4) (iS (fun(q:Int×Int)=>(.u32 q.1,(bE p1 q.2 p3 p4 p5 p6 o1 o2 o3 o4))) (aP 53 .i64 .i64) res):=by
 refine Does.of_body bK Tryd.func82 (by kernel_rfl) rfl (nl rfl) (fun Bw w0=> ?_)
 unfold kM at h
 refine G (aC ?_)
 obtain⟨z6,q6,h⟩:=aD h
 rcases z6 with⟨r11,r12,r13⟩ | ⟨e11,e12⟩
 ·refine lA 1 [0,1,2,3,4] (dG q6) (aA (aC (G (G (aS h (fun hb2 h=> ?_) (fun hb2 h=> ?_))))))
  ·refine G (aV (aG ?_))
   obtain rfl:=sI h
   exact aO [some (.int .u32)] [] [0,1,2,3,4] [(2,.u32 ((bF .str o4 r11).getD (0:Int)))] (bE p1 r13 p3 p4 p5 p6 o1 o2 o3 o4) 5 5 (by kernel_rfl) (by kernel_rfl) (by kernel_rfl)
  refine aB (aA (aC ?_))
  obtain⟨z8,q8,h⟩:=aD h
  rcases z8 with _ | ⟨e15,e16⟩
  ·cases h
  refine GX 2 [0,1,2,3,4] (bW q8) (fun _=>aE ?_)
  obtain rfl:=sI h
  exact rfl
 refine GX 1 [0,1,2,3,4] (dG q6) (fun _=>aE ?_)
 obtain rfl:=sI h
 exact rfl
def lF(end1:Int)(p1:List UInt8)(p3 p4 p5 p6:Int)(o1:List (List UInt8))(o2:List Int)(o3:List (Int×Tree×Tree))(o4:List ((List UInt8)×Int)):(Int×Int)→Option ((Int×Int)⊕((Int×Int)⊕(Int×Int))):=fun(p11,bits5) =>
 ((eH p1 p11 p3 p4 p5 p6 o1 o2 o3 o4).bind fun(z22:(Int×Int)⊕(Int×Int))=>match z22 with
 | .inr (e47,e48)=>some (Sum.inr (Sum.inr (e47,e48)))
 | .inl (r45,r46)=>(if(r45 != end1)=true then((kM p1 r46 p3 p4 p5 p6 o1 o2 o3 o4).bind fun(z24:(Int×Int)⊕(Int×Int))=>match z24 with
 | .inr (e51,e52)=>some (Sum.inr (Sum.inr (e51,e52)))
 | .inl (r49,r50)=>some (Sum.inl (r50,(aI .or .u32 bits5 r49))))
 else some (Sum.inr (Sum.inl (r46,bits5)))))
def fF(end1:Int)(p1:List UInt8)(p2 p3 p4 p5 p6:Int)(o1:List (List UInt8))(o2:List Int)(o3:List (Int×Tree×Tree))(o4:List ((List UInt8)×Int)):Option ((Int×Int)⊕(Int×Int)) :=
 ((iter (lF end1 p1 p3 p4 p5 p6 o1 o2 o3 o4) (p2,(0:Int))).bind fun(r51:((Int×Int)⊕(Int×Int)))=>match r51 with
 | .inl (p12,bits6)=>some (Sum.inl (bits6,(IntKind.i64.wrap (p12+(1:Int)))))
 | .inr ((e43,e44))=>some (Sum.inr (e43,e44)))
theorem aW{end1:Int}{p1:List UInt8}{p2:Int}{p3:Int}{p4:Int}{p5:Int}{p6:Int}{o1:List (List UInt8)}{o2:List Int}{o3:List (Int×Tree×Tree)}{o4:List ((List UInt8)×Int)}{res:(Int×Int)⊕(Int×Int)}(h:fF end1 p1 p2 p3 p4 p5 p6 o1 o2 o3 o4=some res):
  Does Tryd.prog 74 [.adr 0 0 10 0,.u8 end1] (bE p1 p2 p3 p4 p5 p6 o1 o2 o3 o4) (iS (fun(q:Int×Int)=>(.u32 q.1,(bE p1 q.2 p3 p4 p5 p6 o1 o2 o3 o4))) (aP 53 .i64 .i64) res):=by
 refine Does.of_body bK Tryd.func74 (by kernel_rfl) rfl (nl rfl) (fun Bw w0=> ?_)
 unfold fF at h
 refine G (G (aC (aF (oH h (fun(p11,bits5)=>aN [(0,.adr 0 0 10 0),(1,.u8 end1),(5,.u32 bits5)] (bE p1 p11 p3 p4 p5 p6 o1 o2 o3 o4) 5 5) (fS (gW Tryd.f74.ntmps 0 (fun(p12,bits6)=>aN [(0,.adr 0 0 10 0),(5,.u32 bits6)] (bE p1 p12 p3 p4 p5 p6 o1 o2 o3 o4) 5 5)) (qG (aP 53 .i64 .i64))) (gg [] [0,1,2,3,4]) (fun y o h=> ?_) (fun r51 h e σ' hq=> ?_)))))
 ·obtain⟨p11,bits5⟩:=y
  unfold lF at h
  refine aC (aC ?_)
  obtain⟨z22,q22,h⟩:=aD h
  rcases z22 with⟨r45,r46⟩ | ⟨e47,e48⟩
  ·refine lA 1 [0,1,2,3,4] (bD q22) (aA (aS h (fun hb6 h=> ?_) (fun hb6 h=> ?_)))
   ·refine aB (aA (aF ?_))
    obtain⟨z24,q24,h⟩:=aD h
    rcases z24 with⟨r49,r50⟩ | ⟨e51,e52⟩
    ·refine lA 2 [0,1,2,3,4] (g9 q24) (aM ?_)
     exact eB h (gg [] [0,1,2,3,4])
    refine GX 2 [0,1,2,3,4] (g9 q24) (fun _=> ?_)
    obtain rfl:=sI h
    refine aX (bJ (aR ?_))
    exact rfl
   refine aH (bM ?_)
   obtain rfl:=sI h
   refine gE (b5 ?_)
   exact dB (gg [] [0,1,2,3,4])
  refine GX 1 [0,1,2,3,4] (bD q22) (fun _=> ?_)
  obtain rfl:=sI h
  refine aE (aE (bJ (aR ?_)))
  exact rfl
 rcases r51 with⟨p12,bits6⟩ | ⟨e43,e44⟩
 ·obtain⟨rfl,hle⟩:=hq
  refine fG ?_ hle
  refine aJ (aA (G (G (aV ?_))))
  obtain rfl:=sI h
  exact aO [some (.int .u32)] [] [0,1,2,3,4] [(4,.u32 bits6)] (bE p1 (IntKind.i64.wrap (p12+(1:Int))) p3 p4 p5 p6 o1 o2 o3 o4) 5 5 (by kernel_rfl) (by kernel_rfl) (by kernel_rfl)
 obtain rfl:=hq
 refine aX (aE ?_)
 obtain rfl:=sI h
 exact rfl
def sA(p1:List UInt8)(p2 p3 p4 p5 p6:Int)(o1:List (List UInt8))(o2:List Int)(o3:List (Int×Tree×Tree))(o4:List ((List UInt8)×Int)):Option ((Int×List ((List UInt8)×Int))⊕(Int×Int)) :=
 ((kN p1 p2 p3 p4 p5 p6 o1 o2 o3 o4).bind fun(z8:((List UInt8)×Int)⊕(Int×Int))=>match z8 with
 | .inr (e15,e16)=>some (Sum.inr (e15,e16))
 | .inl (r13,r14)=>((fO (61:Int) p1 r14 p3 p4 p5 p6 o1 o2 o3 o4).bind fun(z10:(Int)⊕(Int×Int))=>match z10 with
 | .inr (e19,e20)=>some (Sum.inr (e19,e20))
 | .inl r16=>((fF (59:Int) p1 r16 p3 p4 p5 p6 o1 o2 o3 o4).bind fun(z12:(Int×Int)⊕(Int×Int))=>match z12 with
 | .inr (e23,e24)=>some (Sum.inr (e23,e24))
 | .inl (r19,r20)=>some (Sum.inl (r20,(eF .str o4 r13 r19))))))
theorem qL{p1:List UInt8}{p2:Int}{p3:Int}{p4:Int}{p5:Int}{p6:Int}{o1:List (List UInt8)}{o2:List Int}{o3:List (Int×Tree×Tree)}{o4:List ((List UInt8)×Int)}{res:(Int×List ((List UInt8)×Int))⊕(Int×Int)}(h:sA p1 p2 p3 p4 p5 p6 o1 o2 o3 o4=some res):
  Does Tryd.prog 50 [.adr 0 0 10 0] (bE p1 p2 p3 p4 p5 p6 o1 o2 o3 o4) (iS (fun(q:Int×List ((List UInt8)×Int))=>(.tup [],(bE p1 q.1 p3 p4 p5 p6 o1 o2 o3 q.2))) (aP 53 .i64 .i64) res):=by
 refine Does.of_body bK Tryd.func50 (by kernel_rfl) rfl (nl rfl) (fun Bw w0=> ?_)
 unfold sA at h
 refine aC ?_
 obtain⟨z8,q8,h⟩:=aD h
 rcases z8 with⟨r13,r14⟩ | ⟨e15,e16⟩
 ·refine lA 1 [0,1,2,3,4] (gX q8) (aA (aC ?_))
  obtain⟨z10,q10,h⟩:=aD h
  rcases z10 with r16 | ⟨e19,e20⟩
  ·refine lA 1 [0,1,2,3,4] (bN q10) (aA ?_)
   obtain⟨z12,q12,h⟩:=aD h
   rcases z12 with⟨r19,r20⟩ | ⟨e23,e24⟩
   ·have u_1:=(aW q12)
    refine mU bK oJ ⟨[],[(6,(oO u_1 [0,1,2,3,4]))]⟩ (.one 0 (.one 1 (.one 2 (.one 4 (.one 5 (.two 3 (.one 6 (.one 7 (.leaf))) 6 (.one 3 (.one 7 (.leaf))))))))) [([],[]),([],[]),([],[]),([0],[]),([],[]),([],[]),([0,1,2,3,4],[0,1,2,3,4,93,94,95,96,97,98,99,100]),([4],[4])] 2 [] [] [0,1,2,3,4] [] (bE p1 r20 p3 p4 p5 p6 o1 o2 o3 (eF .str o4 r13 r19)) 5 5 (Ts 6 ((pO u_1)::(pO u_1)::(Ts 3 []))) (by kernel_rfl) (by kernel_rfl) (tr 6 ⟨u_1,u_1,(tr 3 tt)⟩) (fun _=> ?_) (fun y hy=>by cases hy)
    obtain rfl:=sI h
    exact(aO [] [] [0,1,2,3,4] [] (bE p1 r20 p3 p4 p5 p6 o1 o2 o3 (eF .str o4 r13 r19)) 5 5 (by kernel_rfl) (by kernel_rfl) (by kernel_rfl)).normal
   have u_1:=(aW q12)
   refine mU bK oJ ⟨[],[(6,(oD u_1 [0,1,2,3,4]))]⟩ (.one 0 (.one 1 (.one 2 (.one 4 (.one 5 (.twoD 3 (.dead 6) 6)))))) [([],[]),([],[]),([],[]),([0],[]),([],[]),([],[]),([0,1,2,3,4],[0,1,2,3,4,93,94,95,96,97,98,99,100]),([],[])] 0 [(aP 53 .i64 .i64 (e23,e24)),(aP 53 .i64 .i64 (e23,e24))] [] [0,1,2,3,4] [] [] 5 5 (Ts 6 [Dies Tryd.prog 74 [.adr 0 0 10 0,.u8 (59:Int)] (bE p1 r16 p3 p4 p5 p6 o1 o2 o3 o4) (aP 53 .i64 .i64 (e23,e24)),Dies Tryd.prog 74 [.adr 0 0 10 0,.u8 (59:Int)] (bE p1 r16 p3 p4 p5 p6 o1 o2 o3 o4) (aP 53 .i64 .i64 (e23,e24))]) (by kernel_rfl) (by kernel_rfl) (tr 6 ⟨(aW q12),(aW q12),tt⟩) (fun h0=>absurd rfl h0) (fun y hy σ1=> ?_)
   obtain rfl:y=(aP 53 .i64 .i64 (e23,e24)):=by simpa using hy
   obtain rfl:=sI h
   exact rfl
  refine GX 1 [0,1,2,3,4] (bN q10) (fun _=>aE ?_)
  obtain rfl:=sI h
  exact rfl
 refine GX 1 [0,1,2,3,4] (gX q8) (fun _=>aE ?_)
 obtain rfl:=sI h
 exact rfl
def pV(p1:List UInt8)(p2 p3 p4 p5 p6:Int)(o1:List (List UInt8))(o2:List Int)(o3:List (Int×Tree×Tree))(o4:List ((List UInt8)×Int)):Option ((Int×Int×Int)⊕(Int×Int)) :=
 ((fF (47:Int) p1 p2 p3 p4 p5 p6 o1 o2 o3 o4).bind fun(z6:(Int×Int)⊕(Int×Int))=>match z6 with
 | .inr (e11,e12)=>some (Sum.inr (e11,e12))
 | .inl (r11,r12)=>((fF (59:Int) p1 r12 (aI .or .u32 p3 r11) p4 p5 p6 o1 o2 o3 o4).bind fun(z8:(Int×Int)⊕(Int×Int))=>match z8 with
 | .inr (e15,e16)=>some (Sum.inr (e15,e16))
 | .inl (r15,r16)=>some (Sum.inl (r16,(aI .or .u32 p3 r11),(aI .or .u32 p4 r15)))))
theorem oQ{p1:List UInt8}{p2:Int}{p3:Int}{p4:Int}{p5:Int}{p6:Int}{o1:List (List UInt8)}{o2:List Int}{o3:List (Int×Tree×Tree)}{o4:List ((List UInt8)×Int)}{res:(Int×Int×Int)⊕(Int×Int)}(h:pV p1 p2 p3 p4 p5 p6 o1 o2 o3 o4=some res):
  Does Tryd.prog 51 [.adr 0 0 10 0] (bE p1 p2 p3 p4 p5 p6 o1 o2 o3 o4) (iS (fun(q:Int×Int×Int)=>(.tup [],(bE p1 q.1 q.2.1 q.2.2 p5 p6 o1 o2 o3 o4))) (aP 53 .i64 .i64) res):=by
 refine Does.of_body bK Tryd.func51 (by kernel_rfl) rfl (nl rfl) (fun Bw w0=> ?_)
 unfold pV at h
 refine aC ?_
 obtain⟨z6,q6,h⟩:=aD h
 rcases z6 with⟨r11,r12⟩ | ⟨e11,e12⟩
 ·have u_1:=(aW q6)
  refine mU bK oJ ⟨[],[(6,(oO u_1 [0,1,2,3,4]))]⟩ (.one 0 (.one 1 (.one 2 (.one 3 (.one 5 (.two 4 (.one 6 (.one 7 (.one 8 (.one 9 (.one 10 (.one 11 (.leaf))))))) 6 (.one 4 (.one 7 (.one 8 (.one 9 (.one 10 (.one 11 (.leaf))))))))))))) [([],[]),([],[]),([],[]),([],[]),([0],[]),([],[]),([0,1,2,3,4],[0,1,2,3,4,53,54,55,56,57,58,59,60]),([],[]),([],[]),([],[]),([],[]),([0],[0])] 2 [] [] [0,1,2,3,4] [(0,.adr 0 0 10 0)] (bE p1 r12 (aI .or .u32 p3 r11) p4 p5 p6 o1 o2 o3 o4) 5 5 (Ts 6 ((pO u_1)::(pO u_1)::(Ts 11 []))) (by kernel_rfl) (by kernel_rfl) (tr 6 ⟨u_1,u_1,(tr 11 tt)⟩) (fun _=> ?_) (fun y hy=>by cases hy)
  refine aA ?_
  obtain⟨z8,q8,h⟩:=aD h
  rcases z8 with⟨r15,r16⟩ | ⟨e15,e16⟩
  ·have u_1:=(aW q8)
   refine mU bK oJ ⟨[],[(6,(oO u_1 [0,1,2,3,4]))]⟩ (.one 0 (.one 1 (.one 2 (.one 3 (.one 5 (.two 4 (.one 6 (.one 7 (.one 8 (.one 9 (.one 10 (.one 11 (.leaf))))))) 6 (.one 4 (.one 7 (.one 8 (.one 9 (.one 10 (.one 11 (.leaf))))))))))))) [([],[]),([],[]),([],[]),([],[]),([0],[]),([],[]),([0,1,2,3,4],[0,1,2,3,4,53,54,55,56,57,58,59,60]),([],[]),([],[]),([],[]),([],[]),([0],[0])] 2 [] [] [0,1,2,3,4] [] (bE p1 r16 (aI .or .u32 p3 r11) (aI .or .u32 p4 r15) p5 p6 o1 o2 o3 o4) 5 5 (Ts 6 ((pO u_1)::(pO u_1)::(Ts 11 []))) (by kernel_rfl) (by kernel_rfl) (tr 6 ⟨u_1,u_1,(tr 11 tt)⟩) (fun _=> ?_) (fun y hy=>by cases hy)
   obtain rfl:=sI h
   exact(aO [] [] [0,1,2,3,4] [] (bE p1 r16 (aI .or .u32 p3 r11) (aI .or .u32 p4 r15) p5 p6 o1 o2 o3 o4) 5 5 (by kernel_rfl) (by kernel_rfl) (by kernel_rfl)).normal
  have u_1:=(aW q8)
  refine mU bK oJ ⟨[],[(6,(oD u_1 [0,1,2,3,4]))]⟩ (.one 0 (.one 1 (.one 2 (.one 3 (.one 5 (.twoD 4 (.dead 6) 6)))))) [([],[]),([],[]),([],[]),([],[]),([0],[]),([],[]),([0,1,2,3,4],[0,1,2,3,4,53,54,55,56,57,58,59,60]),([],[]),([],[]),([],[]),([],[]),([],[])] 0 [(aP 53 .i64 .i64 (e15,e16)),(aP 53 .i64 .i64 (e15,e16))] [] [0,1,2,3,4] [] [] 5 5 (Ts 6 [Dies Tryd.prog 74 [.adr 0 0 10 0,.u8 (59:Int)] (bE p1 r12 (aI .or .u32 p3 r11) p4 p5 p6 o1 o2 o3 o4) (aP 53 .i64 .i64 (e15,e16)),Dies Tryd.prog 74 [.adr 0 0 10 0,.u8 (59:Int)] (bE p1 r12 (aI .or .u32 p3 r11) p4 p5 p6 o1 o2 o3 o4) (aP 53 .i64 .i64 (e15,e16))]) (by kernel_rfl) (by kernel_rfl) (tr 6 ⟨(aW q8),(aW q8),tt⟩) (fun h0=>absurd rfl h0) (fun y hy σ1=> ?_)
  obtain rfl:y=(aP 53 .i64 .i64 (e15,e16)):=by simpa using hy
  obtain rfl:=sI h
  exact rfl
 have u_1:=(aW q6)
 refine mU bK oJ ⟨[],[(6,(oD u_1 [0,1,2,3,4]))]⟩ (.one 0 (.one 1 (.one 2 (.one 3 (.one 5 (.twoD 4 (.dead 6) 6)))))) [([],[]),([],[]),([],[]),([],[]),([0],[]),([],[]),([0,1,2,3,4],[0,1,2,3,4,53,54,55,56,57,58,59,60]),([],[]),([],[]),([],[]),([],[]),([],[])] 0 [(aP 53 .i64 .i64 (e11,e12)),(aP 53 .i64 .i64 (e11,e12))] [] [0,1,2,3,4] [] [] 5 5 (Ts 6 [Dies Tryd.prog 74 [.adr 0 0 10 0,.u8 (47:Int)] (bE p1 p2 p3 p4 p5 p6 o1 o2 o3 o4) (aP 53 .i64 .i64 (e11,e12)),Dies Tryd.prog 74 [.adr 0 0 10 0,.u8 (47:Int)] (bE p1 p2 p3 p4 p5 p6 o1 o2 o3 o4) (aP 53 .i64 .i64 (e11,e12))]) (by kernel_rfl) (by kernel_rfl) (tr 6 ⟨(aW q6),(aW q6),tt⟩) (fun h0=>absurd rfl h0) (fun y hy σ1=> ?_)
 obtain rfl:y=(aP 53 .i64 .i64 (e11,e12)):=by simpa using hy
 refine aE ?_
 obtain rfl:=sI h
 exact rfl
def n6(p1:List UInt8)(p2 p3 p4 p5 p6:Int)(o1:List (List UInt8))(o2:List Int)(o3:List (Int×Tree×Tree))(o4:List ((List UInt8)×Int)):Option ((Int×Int)⊕(Int×Int)) :=
 ((iJ p1 p2 p3 p4 p5 p6 o1 o2 o3 o4).bind fun(z6:((List UInt8)×Int×Int)⊕(Int×Int))=>match z6 with
 | .inr (e11,e12)=>some (Sum.inr (e11,e12))
 | .inl (r13,r14,r15)=>((dI o1 r13).bind fun r17 =>
 (if(decide (r17<(0:Int)))=true then((cW (22:Int) r14 p1 r15 p3 p4 p5 p6 o1 o2 o3 o4).bind fun(z8:(Unit)⊕(Int×Int))=>match z8 with
 | .inr (e15,e16)=>some (Sum.inr (e15,e16))
 | .inl _=>none)
 else some (Sum.inl (r17,r15)))))
theorem fW{p1:List UInt8}{p2:Int}{p3:Int}{p4:Int}{p5:Int}{p6:Int}{o1:List (List UInt8)}{o2:List Int}{o3:List (Int×Tree×Tree)}{o4:List ((List UInt8)×Int)}{res:(Int×Int)⊕(Int×Int)}(h:n6 p1 p2 p3 p4 p5 p6 o1 o2 o3 o4=some res):
  Does Tryd.prog 75 [.adr 0 0 10 0] (bE p1 p2 p3 p4 p5 p6 o1 o2 o3 o4) (iS (fun(q:Int×Int)=>(.i64 q.1,(bE p1 q.2 p3 p4 p5 p6 o1 o2 o3 o4))) (aP 53 .i64 .i64) res):=by
 refine Does.of_body bK Tryd.func75 (by kernel_rfl) rfl (nl rfl) (fun Bw w0=> ?_)
 unfold n6 at h
 refine G (aC ?_)
 obtain⟨z6,q8,h⟩:=aD h
 rcases z6 with⟨r13,r14,r15⟩ | ⟨e11,e12⟩
 ·refine lA 1 [0,1,2,3,4] (dG q8) (aA ?_)
  obtain⟨r17,q10,h⟩:=aD h
  refine GP 6 (iN true q10) (aC (G (aS h (fun hb2 h=> ?_) (fun hb2 h=> ?_))))
  ·obtain⟨z8,q12,h⟩:=aD h
   rcases z8 with _ | ⟨e15,e16⟩
   ·cases h
   refine GX 2 [0,1,2,3,4] (bW q12) (fun _=>aE ?_)
   obtain rfl:=sI h
   exact rfl
  refine aB (aA (G (aV ?_)))
  obtain rfl:=sI h
  exact aO [some (.int .i64)] [] [0,1,2,3,4] [(2,.i64 r17)] (bE p1 r15 p3 p4 p5 p6 o1 o2 o3 o4) 5 5 (by kernel_rfl) (by kernel_rfl) (by kernel_rfl)
 refine GX 1 [0,1,2,3,4] (dG q8) (fun _=>aE ?_)
 obtain rfl:=sI h
 exact rfl
def nO(p1:List UInt8)(p2 p3 p4 p5 p6:Int)(o1:List (List UInt8))(o2:List Int)(o3:List (Int×Tree×Tree))(o4:List ((List UInt8)×Int)):Option ((Int×List Int)⊕(Int×Int)) :=
 ((n6 p1 p2 p3 p4 p5 p6 o1 o2 o3 o4).bind fun(z10:(Int×Int)⊕(Int×Int))=>match z10 with
 | .inr (e19,e20)=>some (Sum.inr (e19,e20))
 | .inl (r15,r16)=>((fO (61:Int) p1 r16 p3 p4 p5 p6 o1 o2 o3 o4).bind fun(z12:(Int)⊕(Int×Int))=>match z12 with
 | .inr (e23,e24)=>some (Sum.inr (e23,e24))
 | .inl r18=>((n6 p1 r18 p3 p4 p5 p6 o1 o2 o3 o4).bind fun(z14:(Int×Int)⊕(Int×Int))=>match z14 with
 | .inr (e27,e28)=>some (Sum.inr (e27,e28))
 | .inl (r21,r22)=>(if 0≤r15∧r15<(o2.length:Int)then(if r15.toNat<o2.length then((fO (59:Int) p1 r22 p3 p4 p5 p6 o1 (o2.set r15.toNat r21) o3 o4).bind fun(z16:(Int)⊕(Int×Int))=>match z16 with
 | .inr (e31,e32)=>some (Sum.inr (e31,e32))
 | .inl r24=>some (Sum.inl (r24,(o2.set r15.toNat r21))))else none)else none))))
theorem nQ{p1:List UInt8}{p2:Int}{p3:Int}{p4:Int}{p5:Int}{p6:Int}{o1:List (List UInt8)}{o2:List Int}{o3:List (Int×Tree×Tree)}{o4:List ((List UInt8)×Int)}{res:(Int×List Int)⊕(Int×Int)}(h:nO p1 p2 p3 p4 p5 p6 o1 o2 o3 o4=some res):
  Does Tryd.prog 52 [.adr 0 0 10 0] (bE p1 p2 p3 p4 p5 p6 o1 o2 o3 o4) (iS (fun(q:Int×List Int)=>(.tup [],(bE p1 q.1 p3 p4 p5 p6 o1 q.2 o3 o4))) (aP 53 .i64 .i64) res):=by
 refine Does.of_body bK Tryd.func52 (by kernel_rfl) rfl (nl rfl) (fun Bw w0=> ?_)
 unfold nO at h
 refine aC ?_
 obtain⟨z10,q10,h⟩:=aD h
 rcases z10 with⟨r15,r16⟩ | ⟨e19,e20⟩
 ·refine lA 1 [0,1,2,3,4] (fW q10) (aA (aC ?_))
  obtain⟨z12,q12,h⟩:=aD h
  rcases z12 with r18 | ⟨e23,e24⟩
  ·refine lA 1 [0,1,2,3,4] (bN q12) (aA (aC ?_))
   obtain⟨z14,q14,h⟩:=aD h
   rcases z14 with⟨r21,r22⟩ | ⟨e27,e28⟩
   ·obtain⟨c7,c8,h⟩:=g2 h
    have u_1:=(fW q14)
    refine mU bK oJ ⟨[],[(7,(oO u_1 [0,1,2,3,4]))]⟩ (.one 0 (.one 1 (.one 2 (.one 3 (.one 5 (.one 6 (.two 4 (.one 7 (.one 8 (.one 9 (.leaf)))) 7 (.one 4 (.one 8 (.one 9 (.leaf))))))))))) [([],[]),([],[]),([],[]),([],[]),([0],[]),([],[]),([],[]),([0,1,2,3,4],[0,1,2,3,4,101,102,103,104,105,106,107,108]),([2],[]),([2],[2])] 2 [] [] [0,1,2,3,4] [(0,.adr 0 0 10 0)] (bE p1 r22 p3 p4 p5 p6 o1 (o2.set r15.toNat r21) o3 o4) 5 5 (Ts 7 [pO u_1,pO u_1,0≤r15∧r15<(o2.length:Int),r15.toNat<o2.length,True,0≤r15∧r15<(o2.length:Int),r15.toNat<o2.length]) (by kernel_rfl) (by kernel_rfl) (tr 7 ⟨u_1,u_1,c7,c8,tt,c7,c8,tt⟩) (fun _=> ?_) (fun y hy=>by cases hy)
    refine aA ?_
    obtain⟨z16,q16,h⟩:=aD h
    rcases z16 with r24 | ⟨e31,e32⟩
    ·refine lA 1 [0,1,2,3,4] (bN q16) ?_
     obtain rfl:=sI h
     exact(aO [] [] [0,1,2,3,4] [] (bE p1 r24 p3 p4 p5 p6 o1 (o2.set r15.toNat r21) o3 o4) 5 5 (by kernel_rfl) (by kernel_rfl) (by kernel_rfl)).normal
    refine GX 1 [0,1,2,3,4] (bN q16) (fun _=> ?_)
    obtain rfl:=sI h
    exact rfl
   have u_1:=(fW q14)
   refine mU bK oJ ⟨[],[(7,(oD u_1 [0,1,2,3,4]))]⟩ (.one 0 (.one 1 (.one 2 (.one 3 (.one 5 (.one 6 (.twoD 4 (.dead 7) 7))))))) [([],[]),([],[]),([],[]),([],[]),([0],[]),([],[]),([],[]),([0,1,2,3,4],[0,1,2,3,4,101,102,103,104,105,106,107,108]),([],[]),([],[])] 0 [(aP 53 .i64 .i64 (e27,e28)),(aP 53 .i64 .i64 (e27,e28))] [] [0,1,2,3,4] [] [] 5 5 (Ts 7 [Dies Tryd.prog 75 [.adr 0 0 10 0] (bE p1 r18 p3 p4 p5 p6 o1 o2 o3 o4) (aP 53 .i64 .i64 (e27,e28)),Dies Tryd.prog 75 [.adr 0 0 10 0] (bE p1 r18 p3 p4 p5 p6 o1 o2 o3 o4) (aP 53 .i64 .i64 (e27,e28))]) (by kernel_rfl) (by kernel_rfl) (tr 7 ⟨(fW q14),(fW q14),tt⟩) (fun h0=>absurd rfl h0) (fun y hy σ1=> ?_)
   obtain rfl:y=(aP 53 .i64 .i64 (e27,e28)):=by simpa using hy
   refine aE ?_
   obtain rfl:=sI h
   exact rfl
  refine GX 1 [0,1,2,3,4] (bN q12) (fun _=>aE ?_)
  obtain rfl:=sI h
  exact rfl
 refine GX 1 [0,1,2,3,4] (fW q10) (fun _=>aE ?_)
 obtain rfl:=sI h
 exact rfl
def nA(rec_pq_either_v1:(List UInt8)→Int→Int→Int→Int→Int→(List (List UInt8))→(List Int)→(List (Int×Tree×Tree))→(List ((List UInt8)×Int))→Option ((Tree×Int×Int×Int)⊕(Int×Int)))(d1:List UInt8)(d2 d3 d4 d5 d6:Int)(o1:List (List UInt8))(o2:List Int)(o3:List (Int×Tree×Tree))(o4:List ((List UInt8)×Int)):Option ((Tree×Int×Int×Int)⊕(Int×Int)) :=
 ((dW (40:Int) d1 d2 d3 d4 d5 d6 o1 o2 o3 o4).bind fun(z30:(Bool×Int)⊕(Int×Int))=>match z30 with
 | .inr (e61,e62)=>some (Sum.inr (e61,e62))
 | .inl (r55,r56)=>(if r55=true then(if(decide ((IntKind.i64.wrap (d6+(1:Int))) > (16:Int)))=true then((cW (25:Int) d2 d1 r56 d3 d4 d5 (IntKind.i64.wrap (d6+(1:Int))) o1 o2 o3 o4).bind fun(z32:(Unit)⊕(Int×Int))=>match z32 with
 | .inr (e65,e66)=>some (Sum.inr (e65,e66))
 | .inl _=>none)
 else((rec_pq_either_v1 d1 r56 d3 d4 d5 (IntKind.i64.wrap (d6+(1:Int))) o1 o2 o3 o4).bind fun(z34:(Tree×Int×Int×Int)⊕(Int×Int))=>match z34 with
 | .inr (e69,e70)=>some (Sum.inr (e69,e70))
 | .inl (r61,r62,r63,r64)=>((fO (41:Int) d1 r62 d3 d4 r63 r64 o1 o2 o3 o4).bind fun(z36:(Int)⊕(Int×Int))=>match z36 with
 | .inr (e73,e74)=>some (Sum.inr (e73,e74))
 | .inl r66=>some (Sum.inl ((Tree.node r61.op r61.set r61.kids),r66,r63,(IntKind.i64.wrap (r64 - (1:Int))))))))
 else(if(decide ((IntKind.i64.wrap (d5+(1:Int))) > (200:Int)))=true then((cW (26:Int) d2 d1 r56 d3 d4 (IntKind.i64.wrap (d5+(1:Int))) d6 o1 o2 o3 o4).bind fun(z38:(Unit)⊕(Int×Int))=>match z38 with
 | .inr (e77,e78)=>some (Sum.inr (e77,e78))
 | .inl _=>none)
 else(if 0≤(o1.length:Int)then((dW (46:Int) d1 r56 d3 d4 (IntKind.i64.wrap (d5+(1:Int))) d6 o1 o2 o3 o4).bind fun(z40:(Bool×Int)⊕(Int×Int))=>match z40 with
 | .inr (e81,e82)=>some (Sum.inr (e81,e82))
 | .inl (r69,r70)=>(((if r69=true then some ((Sum.inl ((IntKind.u32.wrap ((IntKind.u32.wrap ((1:Int)*2 ^ (min (o1.length:Int).toNat IntKind.u32.bits))) - (1:Int))),r70)))
 else((dW (91:Int) d1 r70 d3 d4 (IntKind.i64.wrap (d5+(1:Int))) d6 o1 o2 o3 o4).bind fun(z50:(Bool×Int)⊕(Int×Int))=>match z50 with
 | .inr (e103,e104)=>some ((Sum.inr (e103,e104)))
 | .inl (r89,r90)=>(if r89=true then((dW (94:Int) d1 r90 d3 d4 (IntKind.i64.wrap (d5+(1:Int))) d6 o1 o2 o3 o4).bind fun(z52:(Bool×Int)⊕(Int×Int))=>match z52 with
 | .inr (e107,e108)=>some ((Sum.inr (e107,e108)))
 | .inl (r93,r94)=>((fF (93:Int) d1 r94 d3 d4 (IntKind.i64.wrap (d5+(1:Int))) d6 o1 o2 o3 o4).bind fun(z54:(Int×Int)⊕(Int×Int))=>match z54 with
 | .inr (e111,e112)=>some ((Sum.inr (e111,e112)))
 | .inl (r97,r98)=>(if r93=true then some ((Sum.inl ((aI .andNot .u32 (IntKind.u32.wrap ((IntKind.u32.wrap ((1:Int)*2 ^ (min (o1.length:Int).toNat IntKind.u32.bits))) - (1:Int))) r97),r98)))
 else some ((Sum.inl (r97,r98))))))
 else((kM d1 r90 d3 d4 (IntKind.i64.wrap (d5+(1:Int))) d6 o1 o2 o3 o4).bind fun(z56:(Int×Int)⊕(Int×Int))=>match z56 with
 | .inr (e115,e116)=>some ((Sum.inr (e115,e116)))
 | .inl (r101,r102)=>some ((Sum.inl (r101,r102)))))))).bind fun(r103:((Int×Int)⊕(Int×Int)))=>match r103 with
 | .inl (v6,v7)=>some (Sum.inl ((Tree.node (1:Int) v6 ([]:List Tree)),v7,(IntKind.i64.wrap (d5+(1:Int))),d6))
 | .inr ((e99,e100))=>some (Sum.inr (e99,e100))))else none))))
theorem mV(rec_pq_either_v1:(List UInt8)→Int→Int→Int→Int→Int→(List (List UInt8))→(List Int)→(List (Int×Tree×Tree))→(List ((List UInt8)×Int))→Option ((Tree×Int×Int×Int)⊕(Int×Int)))(hrec_pq_either_v1:∀ {p1:List UInt8} {p2:Int} {p3:Int} {p4:Int} {p5:Int} {p6:Int} {o1:List (List UInt8)} {o2:List Int} {o3:List (Int×Tree×Tree)} {o4:List ((List UInt8)×Int)} {res:(Tree×Int×Int×Int)⊕(Int×Int)},rec_pq_either_v1 p1 p2 p3 p4 p5 p6 o1 o2 o3 o4=some res→Does Tryd.prog 79 [.adr 0 0 10 0] (bE p1 p2 p3 p4 p5 p6 o1 o2 o3 o4) (iS (fun(q:Tree×Int×Int×Int)=>(.agg [.u8 q.1.op,.u32 q.1.set,.p false (.slice (.tree .u8 .u32)) q.1.kids],(bE p1 q.2.1 p3 p4 q.2.2.1 q.2.2.2 o1 o2 o3 o4))) (aP 53 .i64 .i64) res)){d1:List UInt8}{d2:Int}{d3:Int}{d4:Int}{d5:Int}{d6:Int}{o1:List (List UInt8)}{o2:List Int}{o3:List (Int×Tree×Tree)}{o4:List ((List UInt8)×Int)}{res:(Tree×Int×Int×Int)⊕(Int×Int)}(h:nA rec_pq_either_v1 d1 d2 d3 d4 d5 d6 o1 o2 o3 o4=some res):
  Does Tryd.prog 90 [.adr 0 0 10 0] (bE d1 d2 d3 d4 d5 d6 o1 o2 o3 o4) (iS (fun(q:Tree×Int×Int×Int)=>(.agg [.u8 q.1.op,.u32 q.1.set,.p false (.slice (.tree .u8 .u32)) q.1.kids],(bE d1 q.2.1 d3 d4 q.2.2.1 q.2.2.2 o1 o2 o3 o4))) (aP 53 .i64 .i64) res):=by
 refine Does.of_body bK Tryd.func90 (by kernel_rfl) rfl (nl rfl) (fun Bw w0=> ?_)
 unfold nA at h
 refine G (G (aC (aC ?_)))
 obtain⟨z30,q30,h⟩:=aD h
 rcases z30 with⟨r55,r56⟩ | ⟨e61,e62⟩
 ·refine lA 1 [0,1,2,3,4] (aZ q30) (aA (aS h (fun hb10 h=> ?_) (fun hb10 h=> ?_)))
  ·refine aC (G (G (aS h (fun hb11 h=> ?_) (fun hb11 h=> ?_))))
   ·obtain⟨z32,q32,h⟩:=aD h
    rcases z32 with _ | ⟨e65,e66⟩
    ·cases h
    refine GX 2 [0,1,2,3,4] (bW q32) (fun _=>aE (aE ?_))
    obtain rfl:=sI h
    exact rfl
   refine aB (aA (aC ?_))
   obtain⟨z34,q34,h⟩:=aD h
   rcases z34 with⟨r61,r62,r63,r64⟩ | ⟨e69,e70⟩
   ·refine lA 1 [0,1,2,3,4] (hrec_pq_either_v1 q34) (aA (aC ?_))
    obtain⟨z36,q36,h⟩:=aD h
    rcases z36 with r66 | ⟨e73,e74⟩
    ·refine lA 1 [0,1,2,3,4] (bN q36) (aA (G (G (aV (aG ?_)))))
     obtain rfl:=sI h
     exact aO [some (.tree .u8 .u32)] [] [0,1,2,3,4,5] [(2,.adr 5 0 3 0)] (aBk d1 r66 d3 d4 r63 (IntKind.i64.wrap (r64 - (1:Int))) o1 o2 o3 o4 r61.op r61.set r61.kids) 6 5 (by kernel_rfl) (by kernel_rfl) (by kernel_rfl)
    refine GX 1 [0,1,2,3,4] (bN q36) (fun _=>aE (aE ?_))
    obtain rfl:=sI h
    exact rfl
   refine GX 1 [0,1,2,3,4] (hrec_pq_either_v1 q34) (fun _=>aE (aE ?_))
   obtain rfl:=sI h
   exact rfl
  refine aB (aA (aC (G (G (aS h (fun hb12 h=> ?_) (fun hb12 h=> ?_))))))
  ·obtain⟨z38,q38,h⟩:=aD h
   rcases z38 with _ | ⟨e77,e78⟩
   ·cases h
   refine GX 2 [0,1,2,3,4] (bW q38) (fun _=>aE ?_)
   obtain rfl:=sI h
   exact rfl
  refine aB (aA (G (GC 6 h (fun h=>aC (aF (aC ?_))))))
  obtain⟨z40,q40,h⟩:=aD h
  rcases z40 with⟨r69,r70⟩ | ⟨e81,e82⟩
  ·refine lA 1 [0,1,2,3,4] (aZ q40) (aA (aCj h (fS (tG Tryd.f90.ntmps (fun(v6,v7)=>aN [(2,.adr 5 0 3 0),(5,.adr 6 0 3 0)] (aD0 d1 v7 d3 d4 (IntKind.i64.wrap (d5+(1:Int))) d6 o1 o2 o3 o4 (0:Int) (0:Int) (1:Int) v6) 7 5)) (qG (aP 53 .i64 .i64))) (fun r103 h=> ?_) (fun r103 h e σ' hq=> ?_)))
   ·refine aS h (fun hb16 h=> ?_) (fun hb16 h=> ?_)
    ·refine Ge ?_
     obtain rfl:=sI h
     refine b5 ?_
     exact gZ (gg [] [0,1,2,3,4,5,181])
    refine aC ?_
    obtain⟨z50,q50,h⟩:=aD h
    rcases z50 with⟨r89,r90⟩ | ⟨e103,e104⟩
    ·refine lA 1 [0,1,2,3,4] (aZ q50) (aA (aS h (fun hb17 h=> ?_) (fun hb17 h=> ?_)))
     ·refine aC ?_
      obtain⟨z52,q52,h⟩:=aD h
      rcases z52 with⟨r93,r94⟩ | ⟨e107,e108⟩
      ·refine lA 1 [0,1,2,3,4] (aZ q52) (aA (aC ?_))
       obtain⟨z54,q54,h⟩:=aD h
       rcases z54 with⟨r97,r98⟩ | ⟨e111,e112⟩
       ·refine lA 1 [0,1,2,3,4] (aW q54) (aA (G (aS h (fun hb18 h=> ?_) (fun hb18 h=> ?_))))
        ·refine Ge ?_
         obtain rfl:=sI h
         refine b5 ?_
         exact gZ (gg [] [0,1,2,3,4,5,181])
        refine aB ?_
        obtain rfl:=sI h
        refine b5 ?_
        exact gZ (gg [] [0,1,2,3,4,5,181])
       refine GX 1 [0,1,2,3,4] (aW q54) (fun _=> ?_)
       obtain rfl:=sI h
       refine aE (aR ?_)
       exact rfl
      refine GX 1 [0,1,2,3,4] (aZ q52) (fun _=> ?_)
      obtain rfl:=sI h
      refine aE (aR ?_)
      exact rfl
     obtain⟨z56,q56,h⟩:=aD h
     rcases z56 with⟨r101,r102⟩ | ⟨e115,e116⟩
     ·refine lA 1 [0,1,2,3,4] (g9 q56) ?_
      obtain rfl:=sI h
      refine b5 ?_
      exact gZ (gg [] [0,1,2,3,4,5,181])
     refine GX 1 [0,1,2,3,4] (g9 q56) (fun _=> ?_)
     obtain rfl:=sI h
     refine aR ?_
     exact rfl
    refine GX 1 [0,1,2,3,4] (aZ q50) (fun _=> ?_)
    obtain rfl:=sI h
    refine aE (aR ?_)
    exact rfl
   rcases r103 with⟨v6,v7⟩ | ⟨e99,e100⟩
   ·obtain⟨rfl,hle⟩:=hq
    refine fG ?_ hle
    refine aM (aA (G (aV ?_)))
    obtain rfl:=sI h
    exact aO [some (.tree .u8 .u32)] [] [0,1,2,3,4,5] [(2,.adr 5 0 3 0)] (aDr d1 v7 d3 d4 (IntKind.i64.wrap (d5+(1:Int))) d6 o1 o2 o3 o4 (1:Int) v6) 6 5 (by kernel_rfl) (by kernel_rfl) (by kernel_rfl)
   obtain rfl:=hq
   refine aX (aE ?_)
   obtain rfl:=sI h
   exact rfl
  refine GX 1 [0,1,2,3,4] (aZ q40) (fun _=>aE (aX (aE ?_)))
  obtain rfl:=sI h
  exact rfl
 refine GX 1 [0,1,2,3,4] (aZ q30) (fun _=>aE (aE ?_))
 obtain rfl:=sI h
 exact rfl
def nM(p1:List UInt8)(p3 p4:Int)(o1:List (List UInt8))(o2:List Int)(o3:List (Int×Tree×Tree))(o4:List ((List UInt8)×Int))(r36:Tree)(r38 r39:Int):(Int×Int)→Option ((Int×Int)⊕((Int)⊕((Int×Int)⊕(Tree×Int×Int×Int)))):=fun(p15,v13) =>
 (if(decide (v13<(7:Int)))=true then(if 0≤v13∧v13<((7:Nat):Int)then(((if((([(0:Int),(0:Int),(0:Int),(0:Int),(42:Int),(43:Int),(63:Int)]:List Int).getD v13.toNat 0) != (0:Int))=true then((dW (([(0:Int),(0:Int),(0:Int),(0:Int),(42:Int),(43:Int),(63:Int)]:List Int).getD v13.toNat 0) p1 p15 p3 p4 r38 r39 o1 o2 o3 o4).bind fun(z22:(Bool×Int)⊕(Int×Int))=>match z22 with
 | .inr (e59,e60)=>some ((Sum.inr (e59,e60)))
 | .inl (r62,r63)=>some ((Sum.inl (r63,r62))))
 else some ((Sum.inl (p15,false))))).bind fun(r64:((Int×Bool)⊕(Int×Int)))=>match r64 with
 | .inl (p16,v15)=>(if v15=true then some (Sum.inr (Sum.inr (Sum.inr ((Tree.node (IntKind.u8.wrap v13) (0:Int) ([(Tree.node r36.op r36.set r36.kids)]:List Tree)),p16,r38,r39))))
 else some (Sum.inl (p16,(IntKind.i64.wrap (v13+(1:Int))))))
 | .inr ((e57,e58))=>some (Sum.inr (Sum.inr (Sum.inl (e57,e58)))))else none)
 else some (Sum.inr (Sum.inl p15)))
def nL(rec_pq_either_v1:(List UInt8)→Int→Int→Int→Int→Int→(List (List UInt8))→(List Int)→(List (Int×Tree×Tree))→(List ((List UInt8)×Int))→Option ((Tree×Int×Int×Int)⊕(Int×Int)))(p1:List UInt8)(p2 p3 p4 p5 p6:Int)(o1:List (List UInt8))(o2:List Int)(o3:List (Int×Tree×Tree))(o4:List ((List UInt8)×Int)):Option ((Tree×Int×Int×Int)⊕(Int×Int)) :=
 ((nA rec_pq_either_v1 p1 p2 p3 p4 p5 p6 o1 o2 o3 o4).bind fun(z13:(Tree×Int×Int×Int)⊕(Int×Int))=>match z13 with
 | .inr (e33,e34)=>some (Sum.inr (e33,e34))
 | .inl (r36,r37,r38,r39)=>((iter (nM p1 p3 p4 o1 o2 o3 o4 r36 r38 r39) (r37,(0:Int))).bind fun(r65:((Int)⊕((Int×Int)⊕(Tree×Int×Int×Int))))=>match r65 with
 | .inl v14=>some (Sum.inl ((Tree.node r36.op r36.set r36.kids),v14,r38,r39))
 | .inr (.inl (e51,e52))=>some (Sum.inr (e51,e52))
 | .inr (.inr ((r54,r55,r56,r57)))=>some (Sum.inl (r54,r55,r56,r57))))
theorem m9(rec_pq_either_v1:(List UInt8)→Int→Int→Int→Int→Int→(List (List UInt8))→(List Int)→(List (Int×Tree×Tree))→(List ((List UInt8)×Int))→Option ((Tree×Int×Int×Int)⊕(Int×Int)))(hrec_pq_either_v1:∀ {p1:List UInt8} {p2:Int} {p3:Int} {p4:Int} {p5:Int} {p6:Int} {o1:List (List UInt8)} {o2:List Int} {o3:List (Int×Tree×Tree)} {o4:List ((List UInt8)×Int)} {res:(Tree×Int×Int×Int)⊕(Int×Int)},rec_pq_either_v1 p1 p2 p3 p4 p5 p6 o1 o2 o3 o4=some res→Does Tryd.prog 79 [.adr 0 0 10 0] (bE p1 p2 p3 p4 p5 p6 o1 o2 o3 o4) (iS (fun(q:Tree×Int×Int×Int)=>(.agg [.u8 q.1.op,.u32 q.1.set,.p false (.slice (.tree .u8 .u32)) q.1.kids],(bE p1 q.2.1 p3 p4 q.2.2.1 q.2.2.2 o1 o2 o3 o4))) (aP 53 .i64 .i64) res)){p1:List UInt8}{p2:Int}{p3:Int}{p4:Int}{p5:Int}{p6:Int}{o1:List (List UInt8)}{o2:List Int}{o3:List (Int×Tree×Tree)}{o4:List ((List UInt8)×Int)}{res:(Tree×Int×Int×Int)⊕(Int×Int)}(h:nL rec_pq_either_v1 p1 p2 p3 p4 p5 p6 o1 o2 o3 o4=some res):
  Does Tryd.prog 88 [.adr 0 0 10 0] (bE p1 p2 p3 p4 p5 p6 o1 o2 o3 o4) (iS (fun(q:Tree×Int×Int×Int)=>(.agg [.u8 q.1.op,.u32 q.1.set,.p false (.slice (.tree .u8 .u32)) q.1.kids],(bE p1 q.2.1 p3 p4 q.2.2.1 q.2.2.2 o1 o2 o3 o4))) (aP 53 .i64 .i64) res):=by
 refine Does.of_body bK Tryd.func88 (by kernel_rfl) rfl (nl rfl) (fun Bw w0=> ?_)
 unfold nL at h
 refine G (aC ?_)
 obtain⟨z13,q13,h⟩:=aD h
 rcases z13 with⟨r36,r37,r38,r39⟩ | ⟨e33,e34⟩
 ·refine lA 1 [0,1,2,3,4] (mV rec_pq_either_v1 hrec_pq_either_v1 q13) (aA (aC (G (aF ?_))))
  refine oH h (fun(p15,v13)=>aN [(0,.adr 0 0 10 0),(2,.adr 5 0 3 0),(3,.adr 6 0 3 0),(8,.agg [.u8 (0:Int),.u8 (0:Int),.u8 (0:Int),.u8 (0:Int),.u8 (42:Int),.u8 (43:Int),.u8 (63:Int)]),(9,.i64 v13)] (aCG p1 p15 p3 p4 r38 r39 o1 o2 o3 o4 (0:Int) (0:Int) r36.op r36.set r36.kids) 7 5) (fS (gW Tryd.f88.ntmps 0 (fun v14=>aN [(2,.adr 5 0 3 0),(3,.adr 6 0 3 0)] (aCG p1 v14 p3 p4 r38 r39 o1 o2 o3 o4 (0:Int) (0:Int) r36.op r36.set r36.kids) 7 5)) (fS (qG (aP 53 .i64 .i64)) (J6 tb Tryd.f88.ntmps Tryd.f88.results.toList (fun(r54,r55,r56,r57)=>(.agg [.u8 r54.op,.u32 r54.set,.p false (.slice (.tree .u8 .u32)) r54.kids],(bE p1 r55 p3 p4 r56 r57 o1 o2 o3 o4)))))) (gg [] [0,1,2,3,4,5,29]) (fun y o h=> ?_) (fun r65 h e σ' hq=> ?_)
  ·obtain⟨p15,v13⟩:=y
   unfold nM at h
   refine G (aC (aS h (fun hb26 h=> ?_) (fun hb26 h=> ?_)))
   ·refine aB (aA (aC (aF (GC 1 h (fun h=>aC (aCj h (fS (tG Tryd.f88.ntmps (fun(p16,v15)=>aN [(0,.adr 0 0 10 0),(2,.adr 5 0 3 0),(3,.adr 6 0 3 0),(4,.i64 v13),(8,.agg [.u8 (0:Int),.u8 (0:Int),.u8 (0:Int),.u8 (0:Int),.u8 (42:Int),.u8 (43:Int),.u8 (63:Int)]),(9,.i64 v13),(19,.bo v15)] (aCG p1 p16 p3 p4 r38 r39 o1 o2 o3 o4 (0:Int) (0:Int) r36.op r36.set r36.kids) 7 5)) (qG (aP 53 .i64 .i64))) (fun r64 h=> ?_) (fun r64 h e σ' hq=> ?_)))))))
    ·rcases bY h with⟨hb29,h⟩ | ⟨hb29,h⟩
     ·obtain⟨z22,q22,h⟩:=aD h
      rcases z22 with⟨r62,r63⟩ | ⟨e59,e60⟩
      ·have u_1:=(aZ q22)
       refine gA ⟨[(2,true),(6,true)],[(5,(oO u_1 [0,1,2,3,4]))]⟩ [(3,4,an hb29),(5,5,oc (And.intro hb29 u_1)),(6,6,oc hb29)] ?_
       obtain rfl:=sI h
       refine b5 ?_
       exact gZ (gg [] [0,1,2,3,4,5,6])
      have u_1:=(aZ q22)
      refine GXn u_1 ⟨[(2,true)],[(5,(oD u_1 [0,1,2,3,4]))]⟩ 5 [(3,4,an hb29),(5,5,oc (And.intro hb29 u_1))] (fun _=> ?_)
      obtain rfl:=sI h
      refine aR ?_
      exact rfl
     refine gA ⟨[(2,false),(6,false)],[]⟩ [(3,6,oc hb29)] ?_
     obtain rfl:=sI h
     refine b5 ?_
     exact gZ (gg [] [0,1,2,3,4,5,6])
    rcases r64 with⟨p16,v15⟩ | ⟨e57,e58⟩
    ·obtain⟨rfl,hle⟩:=hq
     refine fG ?_ hle
     refine aA (aS h (fun hb30 h=> ?_) (fun hb30 h=> ?_))
     ·refine G (aV ?_)
      obtain rfl:=sI h
      refine aT (aG (d9 (aR (aR ?_))))
      exact yL (aO [some (.tree .u8 .u32)] [] [0,1,2,3,4,5,31] [(2,.adr 5 0 3 0)] (aCv p1 p16 p3 p4 r38 r39 o1 o2 o3 o4 (IntKind.u8.wrap v13) (0:Int) ([(Tree.node r36.op r36.set r36.kids)]:List Tree)) 7 5 (by kernel_rfl) (by kernel_rfl) (by kernel_rfl))
     refine aB (aM (aA (Ge ?_)))
     exact eB h (gg [] [0,1,2,3,4,5,6])
    obtain rfl:=hq
    obtain rfl:=sI h
    refine aE (aX (aE (bJ (aR (zY ?_)))))
    exact rfl
   refine aH (bM ?_)
   obtain rfl:=sI h
   refine gE (b5 ?_)
   exact dB (gg [] [0,1,2,3,4,5,6])
  rcases r65 with v14 | ⟨e51,e52⟩ | ⟨r54,r55,r56,r57⟩
  ·obtain⟨rfl,hle⟩:=hq
   refine fG ?_ hle
   refine aJ (aA (G (aV ?_)))
   obtain rfl:=sI h
   exact aO [some (.tree .u8 .u32)] [] [0,1,2,3,4,5] [(2,.adr 5 0 3 0)] (aBk p1 v14 p3 p4 r38 r39 o1 o2 o3 o4 r36.op r36.set r36.kids) 6 5 (by kernel_rfl) (by kernel_rfl) (by kernel_rfl)
  ·obtain rfl:=hq
   refine aX (aE ?_)
   obtain rfl:=sI h
   exact rfl
  obtain⟨rfl,hr⟩:=hq
  refine aT (aG ?_)
  obtain rfl:=sI h
  exact hr
 refine GX 1 [0,1,2,3,4] (mV rec_pq_either_v1 hrec_pq_either_v1 q13) (fun _=>aE ?_)
 obtain rfl:=sI h
 exact rfl
def p8(p1:List UInt8)(p3 p4:Int)(o1:List (List UInt8))(o2:List Int)(o3:List (Int×Tree×Tree))(o4:List ((List UInt8)×Int))(rec_pq_either_v1:(List UInt8)→Int→Int→Int→Int→Int→(List (List UInt8))→(List Int)→(List (Int×Tree×Tree))→(List ((List UInt8)×Int))→Option ((Tree×Int×Int×Int)⊕(Int×Int))):(Int×Int×Int×(List Tree)×Int)→Option ((Int×Int×Int×(List Tree)×Int)⊕(((List Tree)×Int×Int×Int)⊕(Int×Int))):=fun(p16,p17,p18,l5,c4) =>
 ((((fV c4).bind fun r88 =>
 (if r88=true then some (true)
 else(if(c4 == (40:Int))=true then some (true)
 else(if(c4 == (91:Int))=true then some (true)
 else some ((c4 == (46:Int)))))))).bind fun v15=>(if v15=true then((nL rec_pq_either_v1 p1 p16 p3 p4 p17 p18 o1 o2 o3 o4).bind fun(z26:(Tree×Int×Int×Int)⊕(Int×Int))=>match z26 with
 | .inr (e55,e56)=>some (Sum.inr (Sum.inr (e55,e56)))
 | .inl (r93,r94,r95,r96)=>(if(l5.length+([(Tree.node r93.op r93.set r93.kids)]:List Tree).length)*32≤140737488355328∧l5.length+([(Tree.node r93.op r93.set r93.kids)]:List Tree).length≤9223372036854775807 then((eH p1 r94 p3 p4 r95 r96 o1 o2 o3 o4).bind fun(z28:(Int×Int)⊕(Int×Int))=>match z28 with
 | .inr (e59,e60)=>some (Sum.inr (Sum.inr (e59,e60)))
 | .inl (r99,r100)=>some (Sum.inl (r100,r95,r96,(l5++([(Tree.node r93.op r93.set r93.kids)]:List Tree)),r99)))else none))
 else some (Sum.inr (Sum.inl (l5,p16,p17,p18)))))
def oB(rec_pq_either_v1:(List UInt8)→Int→Int→Int→Int→Int→(List (List UInt8))→(List Int)→(List (Int×Tree×Tree))→(List ((List UInt8)×Int))→Option ((Tree×Int×Int×Int)⊕(Int×Int)))(p1:List UInt8)(p2 p3 p4 p5 p6:Int)(o1:List (List UInt8))(o2:List Int)(o3:List (Int×Tree×Tree))(o4:List ((List UInt8)×Int)):Option ((Tree×Int×Int×Int)⊕(Int×Int)) :=
 ((eH p1 p2 p3 p4 p5 p6 o1 o2 o3 o4).bind fun(z16:(Int×Int)⊕(Int×Int))=>match z16 with
 | .inr (e33,e34)=>some (Sum.inr (e33,e34))
 | .inl (r54,r55)=>((iter (p8 p1 p3 p4 o1 o2 o3 o4 rec_pq_either_v1) (r55,p5,p6,([]:List Tree),r54)).bind fun(r101:(((List Tree)×Int×Int×Int)⊕(Int×Int)))=>match r101 with
 | .inl (l6,v12,v13,v14)=>(if((l6.length:Int) == (0:Int))=true then some (Sum.inl ((Tree.node (0:Int) (0:Int) ([]:List Tree)),v12,v13,v14))
 else(if((l6.length:Int) == (1:Int))=true then(if 0≤(0:Int)∧(0:Int)<(l6.length:Int)then(if(0:Int).toNat<l6.length then some (Sum.inl ((Tree.node ((l6.getD ((0:Int).toNat) (Tree.node 0 0 [])).op) ((l6.getD ((0:Int).toNat) (Tree.node 0 0 [])).set) ((l6.getD ((0:Int).toNat) (Tree.node 0 0 [])).kids)),v12,v13,v14))else none)else none)
 else some (Sum.inl ((Tree.node (2:Int) (0:Int) l6),v12,v13,v14))))
 | .inr ((e51,e52))=>some (Sum.inr (e51,e52))))
theorem i8(rec_pq_either_v1:(List UInt8)→Int→Int→Int→Int→Int→(List (List UInt8))→(List Int)→(List (Int×Tree×Tree))→(List ((List UInt8)×Int))→Option ((Tree×Int×Int×Int)⊕(Int×Int)))(hrec_pq_either_v1:∀ {p1:List UInt8} {p2:Int} {p3:Int} {p4:Int} {p5:Int} {p6:Int} {o1:List (List UInt8)} {o2:List Int} {o3:List (Int×Tree×Tree)} {o4:List ((List UInt8)×Int)} {res:(Tree×Int×Int×Int)⊕(Int×Int)},rec_pq_either_v1 p1 p2 p3 p4 p5 p6 o1 o2 o3 o4=some res→Does Tryd.prog 79 [.adr 0 0 10 0] (bE p1 p2 p3 p4 p5 p6 o1 o2 o3 o4) (iS (fun(q:Tree×Int×Int×Int)=>(.agg [.u8 q.1.op,.u32 q.1.set,.p false (.slice (.tree .u8 .u32)) q.1.kids],(bE p1 q.2.1 p3 p4 q.2.2.1 q.2.2.2 o1 o2 o3 o4))) (aP 53 .i64 .i64) res)){p1:List UInt8}{p2:Int}{p3:Int}{p4:Int}{p5:Int}{p6:Int}{o1:List (List UInt8)}{o2:List Int}{o3:List (Int×Tree×Tree)}{o4:List ((List UInt8)×Int)}{res:(Tree×Int×Int×Int)⊕(Int×Int)}(h:oB rec_pq_either_v1 p1 p2 p3 p4 p5 p6 o1 o2 o3 o4=some res):
  Does Tryd.prog 85 [.adr 0 0 10 0] (bE p1 p2 p3 p4 p5 p6 o1 o2 o3 o4) (iS (fun(q:Tree×Int×Int×Int)=>(.agg [.u8 q.1.op,.u32 q.1.set,.p false (.slice (.tree .u8 .u32)) q.1.kids],(bE p1 q.2.1 p3 p4 q.2.2.1 q.2.2.2 o1 o2 o3 o4))) (aP 53 .i64 .i64) res):=by
 refine Does.of_body bK Tryd.func85 (by kernel_rfl) rfl (nl rfl) (fun Bw w0=> ?_)
 unfold oB at h
 refine G (G (aC (aC ?_)))
 obtain⟨z16,q25,h⟩:=aD h
 rcases z16 with⟨r54,r55⟩ | ⟨e33,e34⟩
 ·refine lA 1 [0,1,2,3,4] (bD q25) (aA (aF (oH h (fun(p16,p17,p18,l5,c4)=>aN [(0,.adr 0 0 10 0),(2,.adr 5 0 3 0),(3,.sl 6),(4,.u8 c4)] (Z3 p1 p16 p3 p4 p17 p18 o1 o2 o3 o4 (0:Int) (0:Int) l5) 7 5) (fS (gW Tryd.f85.ntmps 0 (fun(l6,v12,v13,v14)=>aN [(2,.adr 5 0 3 0),(3,.sl 6)] (Z3 p1 v12 p3 p4 v13 v14 o1 o2 o3 o4 (0:Int) (0:Int) l6) 7 5)) (qG (aP 53 .i64 .i64))) (gg [.nilS 3 45 72 (.tree .u8 .u32)] [0,1,2,3,4,5,45]) (fun y o h=> ?_) (fun r101 h e σ' hq=> ?_))))
  ·obtain⟨p16,p17,p18,l5,c4⟩:=y
   unfold p8 at h
   refine aC (aC (fA h (fun v15=>aN [(0,.adr 0 0 10 0),(2,.adr 5 0 3 0),(3,.sl 6),(20,.bo v15)] (Z3 p1 p16 p3 p4 p17 p18 o1 o2 o3 o4 (0:Int) (0:Int) l5) 7 5) (fun v15 h=> ?_) (fun v15 h=> ?_)))
   ·obtain⟨r88,q42,h⟩:=aD h
    rcases bY h with⟨hb59,h⟩ | ⟨hb59,h⟩
    ·have u_1:=(cH q42)
     refine gA ⟨[(2,true),(5,true)],[(1,(oP u_1))]⟩ [(1,1,oc u_1),(3,5,oc hb59)] ?_
     exact eN h (gg [] [0,1,2,3,4,5,6])
    rcases bY h with⟨hb60,h⟩ | ⟨hb60,h⟩
    ·have u_1:=(cH q42)
     refine gA ⟨[(2,false),(5,false),(6,true),(9,true)],[(1,(oP u_1))]⟩ [(1,1,oc u_1),(3,4,an hb59),(5,5,oc hb59),(7,9,oc hb60)] ?_
     exact eN h (gg [] [0,1,2,3,4,5,6])
    rcases bY h with⟨hb61,h⟩ | ⟨hb61,h⟩
    ·have u_1:=(cH q42)
     refine gA ⟨[(2,false),(5,false),(6,false),(9,false),(10,true),(13,true)],[(1,(oP u_1))]⟩ [(1,1,oc u_1),(3,4,an hb59),(5,5,oc hb59),(7,8,an hb60),(9,9,oc hb60),(11,13,oc hb61)] ?_
     exact eN h (gg [] [0,1,2,3,4,5,6])
    have u_1:=(cH q42)
    refine gA ⟨[(2,false),(5,false),(6,false),(9,false),(10,false),(13,false)],[(1,(oP u_1))]⟩ [(1,1,oc u_1),(3,4,an hb59),(5,5,oc hb59),(7,8,an hb60),(9,9,oc hb60),(11,12,an hb61),(13,13,oc hb61)] ?_
    exact eN h (gg [] [0,1,2,3,4,5,6])
   refine aA (aS h (fun hb62 h=> ?_) (fun hb62 h=> ?_))
   ·refine aB (aA (aC (aF ?_)))
    obtain⟨z26,q44,h⟩:=aD h
    rcases z26 with⟨r93,r94,r95,r96⟩ | ⟨e55,e56⟩
    ·obtain⟨c16,h⟩:=bB h
     have u_1:=(m9 rec_pq_either_v1 hrec_pq_either_v1 q44)
     refine gA ⟨[],[(2,(oO u_1 [0,1,2,3,4]))]⟩ [(2,2,oc u_1),(4,4,oc c16)] (aM (aA ?_))
     obtain⟨z28,q46,h⟩:=aD h
     rcases z28 with⟨r99,r100⟩ | ⟨e59,e60⟩
     ·refine lA 1 [0,1,2,3,4] (bD q46) ?_
      exact eB h (gg [] [0,1,2,3,4,5,39])
     refine GX 1 [0,1,2,3,4] (bD q46) (fun _=> ?_)
     obtain rfl:=sI h
     refine bJ (aR ?_)
     exact rfl
    refine GX 2 [0,1,2,3,4] (m9 rec_pq_either_v1 hrec_pq_either_v1 q44) (fun _=> ?_)
    obtain rfl:=sI h
    refine aX (aE (bJ (aR ?_)))
    exact rfl
   refine aH (bM ?_)
   obtain rfl:=sI h
   refine gE (b5 ?_)
   exact dB (gg [] [0,1,2,3,4,5,6])
  rcases r101 with⟨l6,v12,v13,v14⟩ | ⟨e51,e52⟩
  ·obtain⟨rfl,hle⟩:=hq
   refine fG ?_ hle
   refine aJ (aA (aC (G (aF (G (aS h (fun hb63 h=> ?_) (fun hb63 h=> ?_)))))))
   ·refine G (aV (aT (aG ?_)))
    obtain rfl:=sI h
    exact aO [some (.tree .u8 .u32)] [] [0,1,2,3,4,5] [(2,.adr 5 0 3 0)] (aDr p1 v12 p3 p4 v13 v14 o1 o2 o3 o4 (0:Int) (0:Int)) 6 5 (by kernel_rfl) (by kernel_rfl) (by kernel_rfl)
   refine G (aS h (fun hb64 h=> ?_) (fun hb64 h=> ?_))
   ·obtain⟨c19,c20,h⟩:=g2 h
    refine GN a0 [(1,1,oc c19),(2,2,oc c20)] (aV (aT (aG ?_)))
    obtain rfl:=sI h
    exact aO [some (.tree .u8 .u32)] [] [0,1,2,3,4,5] [(2,.adr 5 0 3 0)] (aBk p1 v12 p3 p4 v13 v14 o1 o2 o3 o4 ((l6.getD ((0:Int).toNat) (Tree.node 0 0 [])).op) ((l6.getD ((0:Int).toNat) (Tree.node 0 0 [])).set) ((l6.getD ((0:Int).toNat) (Tree.node 0 0 [])).kids)) 6 5 (by kernel_rfl) (by kernel_rfl) (by kernel_rfl)
   refine aB (aM (aA (G (aV ?_))))
   obtain rfl:=sI h
   exact aO [some (.tree .u8 .u32)] [] [0,1,2,3,4,5,6] [(2,.adr 5 0 3 0)] (aCv p1 v12 p3 p4 v13 v14 o1 o2 o3 o4 (2:Int) (0:Int) l6) 7 5 (by kernel_rfl) (by kernel_rfl) (by kernel_rfl)
  obtain rfl:=hq
  refine aX (aE ?_)
  obtain rfl:=sI h
  exact rfl
 refine GX 1 [0,1,2,3,4] (bD q25) (fun _=>aE (aE ?_))
 obtain rfl:=sI h
 exact rfl
def mH(p1:List UInt8)(p3 p4:Int)(o1:List (List UInt8))(o2:List Int)(o3:List (Int×Tree×Tree))(o4:List ((List UInt8)×Int))(rec_pq_either_v1:(List UInt8)→Int→Int→Int→Int→Int→(List (List UInt8))→(List Int)→(List (Int×Tree×Tree))→(List ((List UInt8)×Int))→Option ((Tree×Int×Int×Int)⊕(Int×Int))):(Int×Int×Int×List Tree)→Option ((Int×Int×Int×List Tree)⊕(((List Tree)×Int×Int×Int)⊕(Int×Int))):=fun(p26,p27,p28,l11) =>
 ((dW (124:Int) p1 p26 p3 p4 p27 p28 o1 o2 o3 o4).bind fun(z54:(Bool×Int)⊕(Int×Int))=>match z54 with
 | .inr (e115,e116)=>some (Sum.inr (Sum.inr (e115,e116)))
 | .inl (r165,r166)=>(if r165=true then((oB rec_pq_either_v1 p1 r166 p3 p4 p27 p28 o1 o2 o3 o4).bind fun(z56:(Tree×Int×Int×Int)⊕(Int×Int))=>match z56 with
 | .inr (e119,e120)=>some (Sum.inr (Sum.inr (e119,e120)))
 | .inl (r171,r172,r173,r174)=>(if(l11.length+([(Tree.node r171.op r171.set r171.kids)]:List Tree).length)*32≤140737488355328∧l11.length+([(Tree.node r171.op r171.set r171.kids)]:List Tree).length≤9223372036854775807 then some (Sum.inl (r172,r173,r174,(l11++([(Tree.node r171.op r171.set r171.kids)]:List Tree))))else none))
 else some (Sum.inr (Sum.inl (l11,r166,p27,p28)))))
def j6(rec_pq_either_v1:(List UInt8)→Int→Int→Int→Int→Int→(List (List UInt8))→(List Int)→(List (Int×Tree×Tree))→(List ((List UInt8)×Int))→Option ((Tree×Int×Int×Int)⊕(Int×Int)))(p1:List UInt8)(p2 p3 p4 p5 p6:Int)(o1:List (List UInt8))(o2:List Int)(o3:List (Int×Tree×Tree))(o4:List ((List UInt8)×Int)):Option ((Tree×Int×Int×Int)⊕(Int×Int)) :=
 ((oB rec_pq_either_v1 p1 p2 p3 p4 p5 p6 o1 o2 o3 o4).bind fun(z44:(Tree×Int×Int×Int)⊕(Int×Int))=>match z44 with
 | .inr (e93,e94)=>some (Sum.inr (e93,e94))
 | .inl (r135,r136,r137,r138)=>((iter (mH p1 p3 p4 o1 o2 o3 o4 rec_pq_either_v1) (r136,r137,r138,([(Tree.node r135.op r135.set r135.kids)]:List Tree))).bind fun(r175:(((List Tree)×Int×Int×Int)⊕(Int×Int)))=>match r175 with
 | .inl (l12,v17,v18,v19)=>(if((l12.length:Int) == (1:Int))=true then(if 0≤(0:Int)∧(0:Int)<(l12.length:Int)then(if(0:Int).toNat<l12.length then some (Sum.inl ((Tree.node ((l12.getD ((0:Int).toNat) (Tree.node 0 0 [])).op) ((l12.getD ((0:Int).toNat) (Tree.node 0 0 [])).set) ((l12.getD ((0:Int).toNat) (Tree.node 0 0 [])).kids)),v17,v18,v19))else none)else none)
 else some (Sum.inl ((Tree.node (3:Int) (0:Int) l12),v17,v18,v19)))
 | .inr ((e111,e112))=>some (Sum.inr (e111,e112))))
def gY:Nat→(List UInt8)→Int→Int→Int→Int→Int→(List (List UInt8))→(List Int)→(List (Int×Tree×Tree))→(List ((List UInt8)×Int))→Option ((Tree×Int×Int×Int)⊕(Int×Int))
 | 0=>fun _ _ _ _ _ _ _ _ _ _=>none
 | n+1=>j6 (gY n)
theorem rH(rec_pq_either_v1:(List UInt8)→Int→Int→Int→Int→Int→(List (List UInt8))→(List Int)→(List (Int×Tree×Tree))→(List ((List UInt8)×Int))→Option ((Tree×Int×Int×Int)⊕(Int×Int)))(hrec_pq_either_v1:∀ {p1:List UInt8} {p2:Int} {p3:Int} {p4:Int} {p5:Int} {p6:Int} {o1:List (List UInt8)} {o2:List Int} {o3:List (Int×Tree×Tree)} {o4:List ((List UInt8)×Int)} {res:(Tree×Int×Int×Int)⊕(Int×Int)},rec_pq_either_v1 p1 p2 p3 p4 p5 p6 o1 o2 o3 o4=some res→Does Tryd.prog 79 [.adr 0 0 10 0] (bE p1 p2 p3 p4 p5 p6 o1 o2 o3 o4) (iS (fun(q:Tree×Int×Int×Int)=>(.agg [.u8 q.1.op,.u32 q.1.set,.p false (.slice (.tree .u8 .u32)) q.1.kids],(bE p1 q.2.1 p3 p4 q.2.2.1 q.2.2.2 o1 o2 o3 o4))) (aP 53 .i64 .i64) res)){p1:List UInt8}{p2:Int}{p3:Int}{p4:Int}{p5:Int}{p6:Int}{o1:List (List UInt8)}{o2:List Int}{o3:List (Int×Tree×Tree)}{o4:List ((List UInt8)×Int)}{res:(Tree×Int×Int×Int)⊕(Int×Int)}(h:j6 rec_pq_either_v1 p1 p2 p3 p4 p5 p6 o1 o2 o3 o4=some res):
  Does Tryd.prog 79 [.adr 0 0 10 0] (bE p1 p2 p3 p4 p5 p6 o1 o2 o3 o4) (iS (fun(q:Tree×Int×Int×Int)=>(.agg [.u8 q.1.op,.u32 q.1.set,.p false (.slice (.tree .u8 .u32)) q.1.kids],(bE p1 q.2.1 p3 p4 q.2.2.1 q.2.2.2 o1 o2 o3 o4))) (aP 53 .i64 .i64) res):=by
 refine Does.of_body bK Tryd.func79 (by kernel_rfl) rfl (nl rfl) (fun Bw w0=> ?_)
 unfold j6 at h
 refine G (aC ?_)
 obtain⟨z44,q44,h⟩:=aD h
 rcases z44 with⟨r135,r136,r137,r138⟩ | ⟨e93,e94⟩
 ·refine lA 1 [0,1,2,3,4] (i8 rec_pq_either_v1 hrec_pq_either_v1 q44) (aA (aC (aF (oH h (fun(p26,p27,p28,l11)=>aN [(0,.adr 0 0 10 0),(2,.adr 5 0 3 0),(3,.sl 6)] (Z3 p1 p26 p3 p4 p27 p28 o1 o2 o3 o4 (0:Int) (0:Int) l11) 7 5) (fS (gW Tryd.f79.ntmps 0 (fun(l12,v17,v18,v19)=>aN [(2,.adr 5 0 3 0),(3,.sl 6)] (Z3 p1 v17 p3 p4 v18 v19 o1 o2 o3 o4 (0:Int) (0:Int) l12) 7 5)) (qG (aP 53 .i64 .i64))) (gg [] [0,1,2,3,4,5,29]) (fun y o h=> ?_) (fun r175 h e σ' hq=> ?_)))))
  ·obtain⟨p26,p27,p28,l11⟩:=y
   unfold mH at h
   refine aC (aC ?_)
   obtain⟨z54,q54,h⟩:=aD h
   rcases z54 with⟨r165,r166⟩ | ⟨e115,e116⟩
   ·refine lA 1 [0,1,2,3,4] (aZ q54) (aA (aS h (fun hb15 h=> ?_) (fun hb15 h=> ?_)))
    ·refine aB (aA (aF ?_))
     obtain⟨z56,q56,h⟩:=aD h
     rcases z56 with⟨r171,r172,r173,r174⟩ | ⟨e119,e120⟩
     ·obtain⟨c36,h⟩:=bB h
      have u_1:=(i8 rec_pq_either_v1 hrec_pq_either_v1 q56)
      refine gA ⟨[],[(2,(oO u_1 [0,1,2,3,4]))]⟩ [(2,2,oc u_1),(4,4,oc c36)] (aM ?_)
      exact eB h (gg [] [0,1,2,3,4,5,55])
     refine GX 2 [0,1,2,3,4] (i8 rec_pq_either_v1 hrec_pq_either_v1 q56) (fun _=> ?_)
     obtain rfl:=sI h
     refine aX (bJ (aR ?_))
     exact rfl
    refine aH (bM ?_)
    obtain rfl:=sI h
    refine gE (b5 ?_)
    exact dB (gg [] [0,1,2,3,4,5,6])
   refine GX 1 [0,1,2,3,4] (aZ q54) (fun _=> ?_)
   obtain rfl:=sI h
   refine aE (aE (bJ (aR ?_)))
   exact rfl
  rcases r175 with⟨l12,v17,v18,v19⟩ | ⟨e111,e112⟩
  ·obtain⟨rfl,hle⟩:=hq
   refine fG ?_ hle
   refine aJ (aA (aC (G (aS h (fun hb16 h=> ?_) (fun hb16 h=> ?_)))))
   ·obtain⟨c39,c40,h⟩:=g2 h
    refine GN a0 [(1,1,oc c39),(2,2,oc c40)] (aV (aG ?_))
    obtain rfl:=sI h
    exact aO [some (.tree .u8 .u32)] [] [0,1,2,3,4,5] [(2,.adr 5 0 3 0)] (aBk p1 v17 p3 p4 v18 v19 o1 o2 o3 o4 ((l12.getD ((0:Int).toNat) (Tree.node 0 0 [])).op) ((l12.getD ((0:Int).toNat) (Tree.node 0 0 [])).set) ((l12.getD ((0:Int).toNat) (Tree.node 0 0 [])).kids)) 6 5 (by kernel_rfl) (by kernel_rfl) (by kernel_rfl)
   refine aB (aA (G (aV ?_)))
   obtain rfl:=sI h
   exact aO [some (.tree .u8 .u32)] [] [0,1,2,3,4,5,6] [(2,.adr 5 0 3 0)] (aCv p1 v17 p3 p4 v18 v19 o1 o2 o3 o4 (3:Int) (0:Int) l12) 7 5 (by kernel_rfl) (by kernel_rfl) (by kernel_rfl)
  obtain rfl:=hq
  refine aX (aE ?_)
  obtain rfl:=sI h
  exact rfl
 refine GX 1 [0,1,2,3,4] (i8 rec_pq_either_v1 hrec_pq_either_v1 q44) (fun _=>aE ?_)
 obtain rfl:=sI h
 exact rfl
theorem eY:∀(n:Nat) {p1:List UInt8} {p2:Int} {p3:Int} {p4:Int} {p5:Int} {p6:Int} {o1:List (List UInt8)} {o2:List Int} {o3:List (Int×Tree×Tree)} {o4:List ((List UInt8)×Int)} {res:(Tree×Int×Int×Int)⊕(Int×Int)},gY n p1 p2 p3 p4 p5 p6 o1 o2 o3 o4=some res→Does Tryd.prog 79 [.adr 0 0 10 0] (bE p1 p2 p3 p4 p5 p6 o1 o2 o3 o4) (iS (fun(q:Tree×Int×Int×Int)=>(.agg [.u8 q.1.op,.u32 q.1.set,.p false (.slice (.tree .u8 .u32)) q.1.kids],(bE p1 q.2.1 p3 p4 q.2.2.1 q.2.2.2 o1 o2 o3 o4))) (aP 53 .i64 .i64) res)
 | 0,_,_,_,_,_,_,_,_,_,_,_,h=>by cases h
 | n+1,p1,p2,p3,p4,p5,p6,o1,o2,o3,o4,res,h=>rH (gY n) (eY n)  h
def o8(does1 at1:Int)(p1:List UInt8)(p2 p3 p4 p5 p6:Int)(o1:List (List UInt8))(o2:List Int)(o3:List (Int×Tree×Tree))(o4:List ((List UInt8)×Int)):Option ((Int×(List (Int×Tree×Tree))×Int×Int)⊕(Int×Int)) :=
 (if(decide ((o3.length:Int)≥(24:Int)))=true then((cW (24:Int) at1 p1 p2 p3 p4 p5 p6 o1 o2 o3 o4).bind fun(z12:(Unit)⊕(Int×Int))=>match z12 with
 | .inr (e23,e24)=>some (Sum.inr (e23,e24))
 | .inl _=>none)
 else((gY 1000 p1 p2 p3 p4 p5 p6 o1 o2 o3 o4).bind fun(z14:(Tree×Int×Int×Int)⊕(Int×Int))=>match z14 with
 | .inr (e27,e28)=>some (Sum.inr (e27,e28))
 | .inl (r25,r26,r27,r28)=>((fO (47:Int) p1 r26 p3 p4 r27 r28 o1 o2 o3 o4).bind fun(z16:(Int)⊕(Int×Int))=>match z16 with
 | .inr (e31,e32)=>some (Sum.inr (e31,e32))
 | .inl r30=>((gY 1000 p1 r30 p3 p4 r27 r28 o1 o2 o3 o4).bind fun(z18:(Tree×Int×Int×Int)⊕(Int×Int))=>match z18 with
 | .inr (e35,e36)=>some (Sum.inr (e35,e36))
 | .inl (r35,r36,r37,r38)=>((fO (59:Int) p1 r36 p3 p4 r37 r38 o1 o2 o3 o4).bind fun(z20:(Int)⊕(Int×Int))=>match z20 with
 | .inr (e39,e40)=>some (Sum.inr (e39,e40))
 | .inl r40=>(if(o3.length+([(does1,((Tree.node r25.op r25.set r25.kids),(Tree.node r35.op r35.set r35.kids)))]:List (Int×Tree×Tree)).length)*72≤140737488355328∧o3.length+([(does1,((Tree.node r25.op r25.set r25.kids),(Tree.node r35.op r35.set r35.kids)))]:List (Int×Tree×Tree)).length≤9223372036854775807 then some (Sum.inl (r40,(o3++([(does1,((Tree.node r25.op r25.set r25.kids),(Tree.node r35.op r35.set r35.kids)))]:List (Int×Tree×Tree))),r37,r38))else none))))))
theorem oT{does1:Int}{at1:Int}{p1:List UInt8}{p2:Int}{p3:Int}{p4:Int}{p5:Int}{p6:Int}{o1:List (List UInt8)}{o2:List Int}{o3:List (Int×Tree×Tree)}{o4:List ((List UInt8)×Int)}{res:(Int×(List (Int×Tree×Tree))×Int×Int)⊕(Int×Int)}(h:o8 does1 at1 p1 p2 p3 p4 p5 p6 o1 o2 o3 o4=some res):
  Does Tryd.prog 55 [.adr 0 0 10 0,.u8 does1,.i64 at1] (bE p1 p2 p3 p4 p5 p6 o1 o2 o3 o4) (iS (fun(q:Int×(List (Int×Tree×Tree))×Int×Int)=>(.tup [],(aDs p1 q.1 p3 p4 q.2.2.1 q.2.2.2 o1 o2 o4 q.2.1))) (aP 53 .i64 .i64) res):=by
 refine Does.of_body bK Tryd.func55 (by kernel_rfl) rfl (nl rfl) (fun Bw w0=> ?_)
 unfold o8 at h
 refine aC (G (aS h (fun hb2 h=> ?_) (fun hb2 h=> ?_)))
 ·obtain⟨z12,q12,h⟩:=aD h
  rcases z12 with _ | ⟨e23,e24⟩
  ·cases h
  refine GX 2 [0,1,2,3,4] (bW q12) (fun _=>aE ?_)
  obtain rfl:=sI h
  exact rfl
 refine aB (aA (G (aC ?_)))
 obtain⟨z14,q14,h⟩:=aD h
 rcases z14 with⟨r25,r26,r27,r28⟩ | ⟨e27,e28⟩
 ·refine lA 1 [0,1,2,3,4] (eY 1000 q14) (aA (aC ?_))
  obtain⟨z16,q16,h⟩:=aD h
  rcases z16 with r30 | ⟨e31,e32⟩
  ·refine lA 1 [0,1,2,3,4] (bN q16) (aA (aC ?_))
   obtain⟨z18,q18,h⟩:=aD h
   rcases z18 with⟨r35,r36,r37,r38⟩ | ⟨e35,e36⟩
   ·refine lA 1 [0,1,2,3,4] (eY 1000 q18) (aA (aC ?_))
    obtain⟨z20,q20,h⟩:=aD h
    rcases z20 with r40 | ⟨e39,e40⟩
    ·refine lA 1 [0,1,2,3,4] (bN q20) (aA ?_)
     obtain⟨c4,h⟩:=bB h
     refine xB a0 [(8,8,oc c4)] ?_
     obtain rfl:=sI h
     exact(aO [] [] [0,1,2,3,4,253] [] (aDs p1 r40 p3 p4 r37 r38 o1 o2 o4 (o3++([(does1,((Tree.node r25.op r25.set r25.kids),(Tree.node r35.op r35.set r35.kids)))]:List (Int×Tree×Tree)))) 6 5 (by kernel_rfl) (by kernel_rfl) (by kernel_rfl)).normal
    refine GX 1 [0,1,2,3,4] (bN q20) (fun _=>aE ?_)
    obtain rfl:=sI h
    exact rfl
   refine GX 1 [0,1,2,3,4] (eY 1000 q18) (fun _=>aE ?_)
   obtain rfl:=sI h
   exact rfl
  refine GX 1 [0,1,2,3,4] (bN q16) (fun _=>aE ?_)
  obtain rfl:=sI h
  exact rfl
 refine GX 1 [0,1,2,3,4] (eY 1000 q14) (fun _=>aE ?_)
 obtain rfl:=sI h
 exact rfl
def xW(p1:List UInt8):(Int×(List (List UInt8))×Int×Int×(List Int)×(List (Int×Tree×Tree))×(List ((List UInt8)×Int))×Int×Int)→Option ((Int×(List (List UInt8))×Int×Int×(List Int)×(List (Int×Tree×Tree))×(List ((List UInt8)×Int))×Int×Int)⊕((Int×(List (List UInt8))×Int×Int×(List Int)×(List (Int×Tree×Tree))×(List ((List UInt8)×Int))×Int×Int)⊕(Int×Int))):=fun(p34,p35,p36,p37,p38,p39,p40,p41,p42) =>
 ((eH p1 p34 p36 p37 p41 p42 p35 p38 p39 p40).bind fun(z78:(Int×Int)⊕(Int×Int))=>match z78 with
 | .inr (e159,e160)=>some (Sum.inr (Sum.inr (e159,e160)))
 | .inl (r196,r197)=>(if(r196 != (0:Int))=true then((iJ p1 r197 p36 p37 p41 p42 p35 p38 p39 p40).bind fun(z80:((List UInt8)×Int×Int)⊕(Int×Int))=>match z80 with
 | .inr (e163,e164)=>some (Sum.inr (Sum.inr (e163,e164)))
 | .inl (r201,r202,r203)=>(if(iL .str ([99,108,97,115,115]:List UInt8) r201)=true then((nX p1 r203 p36 p37 p41 p42 p35 p38 p39 p40).bind fun(z82:(Int×(List (List UInt8))×(List Int)×List ((List UInt8)×Int))⊕(Int×Int))=>match z82 with
 | .inr (e167,e168)=>some (Sum.inr (Sum.inr (e167,e168)))
 | .inl (r208,r209,r210,r211)=>some (Sum.inl (r208,r209,p36,p37,r210,p39,r211,p41,p42)))
 else(if(iL .str ([115,101,116]:List UInt8) r201)=true then((sA p1 r203 p36 p37 p41 p42 p35 p38 p39 p40).bind fun(z84:(Int×List ((List UInt8)×Int))⊕(Int×Int))=>match z84 with
 | .inr (e171,e172)=>some (Sum.inr (Sum.inr (e171,e172)))
 | .inl (r214,r215)=>some (Sum.inl (r214,p35,p36,p37,p38,p39,r215,p41,p42)))
 else(if(iL .str ([106,111,105,110]:List UInt8) r201)=true then((pV p1 r203 p36 p37 p41 p42 p35 p38 p39 p40).bind fun(z86:(Int×Int×Int)⊕(Int×Int))=>match z86 with
 | .inr (e175,e176)=>some (Sum.inr (Sum.inr (e175,e176)))
 | .inl (r219,r220,r221)=>some (Sum.inl (r219,p35,r220,r221,p38,p39,p40,p41,p42)))
 else(if(iL .str ([116,114,101,97,116]:List UInt8) r201)=true then((nO p1 r203 p36 p37 p41 p42 p35 p38 p39 p40).bind fun(z88:(Int×List Int)⊕(Int×Int))=>match z88 with
 | .inr (e179,e180)=>some (Sum.inr (Sum.inr (e179,e180)))
 | .inl (r224,r225)=>some (Sum.inl (r224,p35,p36,p37,r225,p39,p40,p41,p42)))
 else(if((bF .str (eF .str (eF .str (eF .str ([]:List ((List UInt8)×Int)) ([107,101,101,112]:List UInt8) (0:Int)) ([109,97,121]:List UInt8) (1:Int)) ([109,117,115,116]:List UInt8) (2:Int)) r201).isSome)=true then((o8 ((bF .str (eF .str (eF .str (eF .str ([]:List ((List UInt8)×Int)) ([107,101,101,112]:List UInt8) (0:Int)) ([109,97,121]:List UInt8) (1:Int)) ([109,117,115,116]:List UInt8) (2:Int)) r201).getD (0:Int)) r202 p1 r203 p36 p37 p41 p42 p35 p38 p39 p40).bind fun(z90:(Int×(List (Int×Tree×Tree))×Int×Int)⊕(Int×Int))=>match z90 with
 | .inr (e183,e184)=>some (Sum.inr (Sum.inr (e183,e184)))
 | .inl (r230,r231,r232,r233)=>some (Sum.inl (r230,p35,p36,p37,p38,r231,p40,r232,r233)))
 else((cW (21:Int) r202 p1 r203 p36 p37 p41 p42 p35 p38 p39 p40).bind fun(z92:(Unit)⊕(Int×Int))=>match z92 with
 | .inr (e187,e188)=>some (Sum.inr (Sum.inr (e187,e188)))
 | .inl _=>none)))))))
 else some (Sum.inr (Sum.inl (r197,p35,p36,p37,p38,p39,p40,p41,p42)))))
def L4(p1:List UInt8)(p2 p3 p4 p5 p6:Int)(o1:List ((List UInt8)×Int)):Option ((Int×(List (List UInt8))×Int×Int×(List Int)×(List (Int×Tree×Tree))×(List ((List UInt8)×Int))×Int×Int)⊕(Int×Int)) :=
 ((iter (xW p1) (p2,([]:List (List UInt8)),p3,p4,([]:List Int),([]:List (Int×Tree×Tree)),o1,p5,p6)).bind fun(r234:((Int×(List (List UInt8))×Int×Int×(List Int)×(List (Int×Tree×Tree))×(List ((List UInt8)×Int))×Int×Int)⊕(Int×Int)))=>match r234 with
 | .inl (v19,v20,v21,v22,v23,v24,v25,v26,v27)=>some (Sum.inl (v19,v20,v21,v22,v23,v24,v25,v26,v27))
 | .inr ((e155,e156))=>some (Sum.inr (e155,e156)))
theorem sJ{p1:List UInt8}{p2:Int}{p3:Int}{p4:Int}{p5:Int}{p6:Int}{o1:List ((List UInt8)×Int)}{res:(Int×(List (List UInt8))×Int×Int×(List Int)×(List (Int×Tree×Tree))×(List ((List UInt8)×Int))×Int×Int)⊕(Int×Int)}(h:L4 p1 p2 p3 p4 p5 p6 o1=some res):
  Does Tryd.prog 32 [.adr 0 0 10 0] (ob2 p1 p2 p3 p4 p5 p6 o1) (iS (fun(q:Int×(List (List UInt8))×Int×Int×(List Int)×(List (Int×Tree×Tree))×(List ((List UInt8)×Int))×Int×Int)=>(.tup [],(aCD p1 q.1 q.2.2.1 q.2.2.2.1 q.2.2.2.2.2.2.2.1 q.2.2.2.2.2.2.2.2 q.2.2.2.2.2.2.1 q.2.1 q.2.2.2.2.1 q.2.2.2.2.2.1))) (aP 53 .i64 .i64) res):=by
 refine Does.of_body bK Tryd.func32 (by kernel_rfl) rfl (nl rfl) (fun Bw w0=> ?_)
 unfold L4 at h
 refine G (G (aF (oH h (fun(p34,p35,p36,p37,p38,p39,p40,p41,p42)=>aN [(0,.adr 0 0 10 0),(2,.mp 5),(3,.mp 6)] (aD9 p1 p34 p36 p37 p41 p42 p40 p35 p38 p39 (eF .str (eF .str (eF .str ([]:List ((List UInt8)×Int)) ([107,101,101,112]:List UInt8) (0:Int)) ([109,97,121]:List UInt8) (1:Int)) ([109,117,115,116]:List UInt8) (2:Int))) 7 2) (fS (gW Tryd.f32.ntmps 0 (fun(v19,v20,v21,v22,v23,v24,v25,v26,v27)=>aN [] (aCD p1 v19 v21 v22 v26 v27 v25 v20 v23 v24) 5 2)) (qG (aP 53 .i64 .i64))) (gg [.nilC 0 2 106 9 .str,.nilC 0 5 107 3 (.int .i64),.nilC 0 6 108 74 (.prod (.int .u8) Y1)] [0,1,106,107,108,2,58]) (fun y o h=> ?_) (fun r234 h e σ' hq=> ?_))))
 ·obtain⟨p34,p35,p36,p37,p38,p39,p40,p41,p42⟩:=y
  unfold xW at h
  refine aC (aC ?_)
  obtain⟨z78,q78,h⟩:=aD h
  rcases z78 with⟨r196,r197⟩ | ⟨e159,e160⟩
  ·refine lA 1 [0,2,3,4,1] (bD q78) (aA (aS h (fun hb76 h=> ?_) (fun hb76 h=> ?_)))
   ·refine aB (aA (aF (aC ?_)))
    obtain⟨z80,q80,h⟩:=aD h
    rcases z80 with⟨r201,r202,r203⟩ | ⟨e163,e164⟩
    ·refine lA 1 [0,2,3,4,1] (dG q80) (aA (aC ?_))
     rcases bY h with⟨hb81,h⟩ | ⟨hb81,h⟩
     ·refine gA ⟨[],[(2,⟨.unk,[],false,[],[0],[],none⟩)]⟩ [(2,2,oc (And.intro tt hb81))] (aA (G (aAy rfl ?_)))
      obtain⟨z82,q82,h⟩:=aD h
      rcases z82 with⟨r208,r209,r210,r211⟩ | ⟨e167,e168⟩
      ·refine lA 2 [0,2,3,4,1] (nZ q82) (aM ?_)
       exact eB h (gg [] [0,1,175,176,4,5,6])
      refine GX 2 [0,2,3,4,1] (nZ q82) (fun _=> ?_)
      obtain rfl:=sI h
      refine aX (bJ (aR ?_))
      exact rfl
     rcases bY h with⟨hb83,h⟩ | ⟨hb83,h⟩
     ·refine gA ⟨[],[(2,⟨.unk,[],false,[],[1],[],none⟩)]⟩ [(2,2,⟨True∧qW .str [(([99,108,97,115,115]:List UInt8),(x9 49)),(([115,101,116]:List UInt8),(x9 50)),(([106,111,105,110]:List UInt8),(x9 51)),(([116,114,101,97,116]:List UInt8),(x9 52))] r201 1,⟨trivial,⟨hb81,hb83⟩⟩⟩)] (aA (G (aAy rfl ?_)))
      obtain⟨z84,q84,h⟩:=aD h
      rcases z84 with⟨r214,r215⟩ | ⟨e171,e172⟩
      ·refine lA 2 [0,2,3,4,1] (qL q84) (aM ?_)
       exact eB h (gg [] [0,1,2,3,4,5,6])
      refine GX 2 [0,2,3,4,1] (qL q84) (fun _=> ?_)
      obtain rfl:=sI h
      refine aX (bJ (aR ?_))
      exact rfl
     rcases bY h with⟨hb85,h⟩ | ⟨hb85,h⟩
     ·refine gA ⟨[],[(2,⟨.unk,[],false,[],[2],[],none⟩)]⟩ [(2,2,⟨True∧qW .str [(([99,108,97,115,115]:List UInt8),(x9 49)),(([115,101,116]:List UInt8),(x9 50)),(([106,111,105,110]:List UInt8),(x9 51)),(([116,114,101,97,116]:List UInt8),(x9 52))] r201 2,⟨trivial,⟨hb81,⟨hb83,hb85⟩⟩⟩⟩)] (aA (G (aAy rfl ?_)))
      obtain⟨z86,q86,h⟩:=aD h
      rcases z86 with⟨r219,r220,r221⟩ | ⟨e175,e176⟩
      ·refine lA 2 [0,2,3,4,1] (oQ q86) (aM ?_)
       exact eB h (gg [] [0,1,2,3,4,5,6])
      refine GX 2 [0,2,3,4,1] (oQ q86) (fun _=> ?_)
      obtain rfl:=sI h
      refine aX (bJ (aR ?_))
      exact rfl
     rcases bY h with⟨hb87,h⟩ | ⟨hb87,h⟩
     ·refine gA ⟨[],[(2,⟨.unk,[],false,[],[3],[],none⟩)]⟩ [(2,2,⟨True∧qW .str [(([99,108,97,115,115]:List UInt8),(x9 49)),(([115,101,116]:List UInt8),(x9 50)),(([106,111,105,110]:List UInt8),(x9 51)),(([116,114,101,97,116]:List UInt8),(x9 52))] r201 3,⟨trivial,⟨hb81,⟨hb83,⟨hb85,hb87⟩⟩⟩⟩⟩)] (aA (G (aAy rfl ?_)))
      obtain⟨z88,q88,h⟩:=aD h
      rcases z88 with⟨r224,r225⟩ | ⟨e179,e180⟩
      ·refine lA 2 [0,2,3,4,1] (nQ q88) (aM ?_)
       exact eB h (gg [] [0,1,2,3,4,5,6])
      refine GX 2 [0,2,3,4,1] (nQ q88) (fun _=> ?_)
      obtain rfl:=sI h
      refine aX (bJ (aR ?_))
      exact rfl
     refine gA ⟨[],[(2,⟨.unk,[],false,[],[4],[],none⟩)]⟩ [(2,2,⟨True∧qW .str [(([99,108,97,115,115]:List UInt8),(x9 49)),(([115,101,116]:List UInt8),(x9 50)),(([106,111,105,110]:List UInt8),(x9 51)),(([116,114,101,97,116]:List UInt8),(x9 52))] r201 4,⟨trivial,⟨hb81,⟨hb83,⟨hb85,⟨hb87,trivial⟩⟩⟩⟩⟩⟩)] (aA (G (aC2 rfl (G (G (aS h (fun hb89 h=> ?_) (fun hb89 h=> ?_)))))))
     ·obtain⟨z90,q90,h⟩:=aD h
      rcases z90 with⟨r230,r231,r232,r233⟩ | ⟨e183,e184⟩
      ·refine lA 3 [0,2,3,4,1] (oT q90) (aM ?_)
       exact eB h (gg [] [0,1,2,3,255,5,6])
      refine GX 3 [0,2,3,4,1] (oT q90) (fun _=> ?_)
      obtain rfl:=sI h
      refine aX (bJ (aR ?_))
      exact rfl
     obtain⟨z92,q92,h⟩:=aD h
     rcases z92 with _ | ⟨e187,e188⟩
     ·cases h
     refine GX 2 [0,2,3,4,1] (bW q92) (fun _=> ?_)
     obtain rfl:=sI h
     refine aX (bJ (aR ?_))
     exact rfl
    refine GX 1 [0,2,3,4,1] (dG q80) (fun _=> ?_)
    obtain rfl:=sI h
    refine aE (aX (bJ (aR ?_)))
    exact rfl
   refine aH (bM ?_)
   obtain rfl:=sI h
   refine gE (b5 ?_)
   exact dB (gg [] [0,1,2,3,4])
  refine GX 1 [0,2,3,4,1] (bD q78) (fun _=> ?_)
  obtain rfl:=sI h
  refine aE (aE (bJ (aR ?_)))
  exact rfl
 rcases r234 with⟨v19,v20,v21,v22,v23,v24,v25,v26,v27⟩ | ⟨e155,e156⟩
 ·obtain⟨rfl,hle⟩:=hq
  refine fG ?_ hle
  refine aJ ?_
  obtain rfl:=sI h
  exact(aO [] [] [0,1,2,3,4] [] (aCD p1 v19 v21 v22 v26 v27 v25 v20 v23 v24) 5 2 (by kernel_rfl) (by kernel_rfl) (by kernel_rfl)).normal
 obtain rfl:=hq
 refine aX ?_
 obtain rfl:=sI h
 exact rfl
theorem qS(e1 e2:Int):Catches Tryd.prog 30 [.adr 0 0 5 0,.adr 1 0 2 0] (ob3 (0:Int) (0:Int) (0:Int) (0:Int)) (ob3 (0:Int) (0:Int) e1 e2) (aP 53 .i64 .i64 (e1,e2)):=by
 refine Catches.of_body (nx:=2) (pn:=2) Tryd.func30 rfl rfl rfl rfl rfl rfl rfl rfl (by kernel_rfl) rfl (fun Bw w0=> ?_)
 have h:some ()=some ():=rfl
 refine GN a0 [(1,1,⟨∃ms,Tryd.prog.underlying 20=some (.interface ms),⟨_,rfl⟩⟩)] (aAy rfl (GN a0 [(1,1,⟨∃d,Tryd.prog.underlying 53=some d∧(match d with | .interface _=>false | _=>true)=true,⟨_,rfl,rfl⟩⟩)] (aC (G (aC2 rfl (aB (aA (xB a0 [] ?_))))))))
 exact eN h (gg [] [0,1])
theorem qK:aBT Tryd.prog 30 2:=by
 intro vals w hv
 obtain⟨v2,v3,rfl⟩:∃v2 v3,vals = #[v2,v3]:=by
  match hq:vals.toList with
  | [a,b]=>exact⟨a,b,Array.ext' hq⟩
  | []=>have:=congrArg List.length hq;simp[hv]at this
  | [_]=>have:=congrArg List.length hq;simp[hv]at this
  | _::_::_::_=>have:=congrArg List.length hq;simp[hv]at this
 refine callsD_of_wpS Tryd.func30 rfl fun c₀ cs hu=> ?_
 apply wpS_seq
 apply wpS_region
 simp[wpOpsS,go_sem,recoverD,hu,Tryd.ntmps30,Exit.thenS]
 apply wpS_seq
 apply wpS_region
 simp[wpOpsS,go_sem,Exit.thenS,Act.eval,Act.put]
 refine wpS_cond (t:=false) (by simp[Act.eval,Array.replicate]) ?_
 simp only[Bool.false_eq_true,if_false]
 refine wpS_of_wp (wp_skip ?_)
 cases c₀
 simp_all [bodyPostS,results,Tryd.results30]
def kY(text1:List UInt8):Option ((((List (List UInt8))×Int×Int×(List Int)×List (Int×Tree×Tree))×Int×Int)⊕(Int×Int)) :=
 (if(decide ((text1.length:Int) > (4096:Int)))=true then((M1 (24:Int) (4096:Int) text1 (0:Int) (0:Int) (0:Int) (0:Int) (0:Int) ([]:List ((List UInt8)×Int))).bind fun(z2:(Unit)⊕(Int×Int))=>match z2 with
 | .inr (e3,e4)=>some (Sum.inr (e3,e4))
 | .inl _=>none)
 else((L4 text1 (0:Int) (0:Int) (0:Int) (0:Int) (0:Int) ([]:List ((List UInt8)×Int))).bind fun(z4:(Int×(List (List UInt8))×Int×Int×(List Int)×(List (Int×Tree×Tree))×(List ((List UInt8)×Int))×Int×Int)⊕(Int×Int))=>match z4 with
 | .inr (e7,e8)=>some (Sum.inr (e7,e8))
 | .inl (r10,r11,r12,r13,r14,r15,r16,r17,r18)=>some (Sum.inl ((r11,(r12,(r13,(r14,r15)))),((0:Int),(0:Int))))))
def wX:(((List (List UInt8))×Int×Int×(List Int)×List (Int×Tree×Tree))×Int×Int)⊕(Int×Int)→((List (List UInt8))×Int×Int×(List Int)×List (Int×Tree×Tree))×Int×Int
 | .inl x=>x
 | .inr e=>((([]:List (List UInt8)),((0:Int),((0:Int),(([]:List Int),([]:List (Int×Tree×Tree)))))),(e.1,e.2))
def cS(text1:List UInt8):Option (((List (List UInt8))×Int×Int×(List Int)×List (Int×Tree×Tree))×Int×Int):=(kY text1).map wX
theorem t6(text1:List UInt8)(res:(((List (List UInt8))×Int×Int×(List Int)×List (Int×Tree×Tree))×Int×Int)⊕(Int×Int))(h:kY text1=some res):
  Pure Tryd.prog 22 [.st text1] (bX (fL false (aBJ (fun(q:((List (List UInt8))×Int×Int×(List Int)×List (Int×Tree×Tree))×Int×Int)=>([⟨Y4,q.1⟩,⟨Y5,q.2⟩]:List (Σ T:Ty,T.den))) (fun(e:Int×Int)=>([⟨Y4,(([]:List (List UInt8)),((0:Int),((0:Int),(([]:List Int),([]:List (Int×Tree×Tree))))))⟩,⟨Y5,(e.1,e.2)⟩]:List (Σ T:Ty,T.den))) res))):=by
 refine Pure.of_defer (args:=[.st text1]) (gd:=30) (fnd:=Tryd.f30) (l:=[(0,.st text1),(2,.adr 0 0 5 0),(3,.adr 1 0 2 0),(4,.adr 2 0 10 0)]) (m:=(ob1 (0:Int) (0:Int) (0:Int) (0:Int) text1 (0:Int) (0:Int) (0:Int) (0:Int) (0:Int) ([]:List ((List UInt8)×Int)))) (nx:=4) (s2:=5) (s3:=2) (lp:=[(2,.adr 0 0 5 0),(3,.adr 1 0 2 0)]) (mp:=(ob3 (0:Int) (0:Int) (0:Int) (0:Int))) (nxp:=2) (fv:=aP 53 .i64 .i64) (hin:=(ob3 (0:Int) (0:Int) (0:Int) (0:Int))) (hout:=fun e=>(ob3 (0:Int) (0:Int) e.1 e.2)) (t2:=2) (t3:=3) (d:=9) bK Tryd.func22 (by kernel_rfl) Tryd.func30 (by kernel_rfl) rfl rfl rfl rfl rfl rfl rfl rfl (nl rfl) rfl rfl (by decide) rfl rfl (by decide) (fun Bw w0=> ?_) (fun Bw w0 D=> ?_) qK (fun e=>qS e.1 e.2) (by kernel_rfl) (fun e=>by kernel_rfl) [Y4,Y5] (fun e=>by kernel_rfl)
 ·clear h
  have h:some ()=some ():=rfl
  refine Ge (aA (Ge ?_))
  exact eN h (gg [] [0,8,40,24])
 unfold kY at h
 refine aC (G (aS h (fun hb1 h=> ?_) (fun hb1 h=> ?_)))
 ·obtain⟨z2,q2,h⟩:=aD h
  rcases z2 with _ | ⟨e3,e4⟩
  ·cases h
  have u_1:=(wO q2)
  refine aBU bK ⟨[],[(1,(oD u_1 [2,3]))]⟩ 1 (aP 53 .i64 .i64 (e3,e4)) [] [0,1] [(2,.adr 0 0 5 0),(3,.adr 1 0 2 0)] (ob3 (0:Int) (0:Int) (0:Int) (0:Int)) 2 2 [True,Dies Tryd.prog 31 [.adr 0 0 10 0,.i64 (24:Int),.i64 (4096:Int)] (ob2 text1 (0:Int) (0:Int) (0:Int) (0:Int) (0:Int) ([]:List ((List UInt8)×Int))) (aP 53 .i64 .i64 (e3,e4))] (by kernel_rfl) (by kernel_rfl) ⟨tt,(wO q2),tt⟩ (fun σ1 hle=>aE ?_)
  obtain rfl:=sI h
  exact⟨rfl,hle⟩
 refine aB (aA (aC ?_))
 obtain⟨z4,q4,h⟩:=aD h
 rcases z4 with⟨r10,r11,r12,r13,r14,r15,r16,r17,r18⟩ | ⟨e7,e8⟩
 ·refine lA 1 [2,3] (sJ q4) (aA (G (aV ?_)))
  obtain rfl:=sI h
  exact⟨rfl,aK [Y4,Y5] (by kernel_rfl)⟩
 have u_1:=(sJ q4)
 refine aBU bK ⟨[],[(1,(oD u_1 [2,3]))]⟩ 1 (aP 53 .i64 .i64 (e7,e8)) [] [0,1] [(2,.adr 0 0 5 0),(3,.adr 1 0 2 0)] (ob3 (0:Int) (0:Int) (0:Int) (0:Int)) 2 2 [True,Dies Tryd.prog 32 [.adr 0 0 10 0] (ob2 text1 (0:Int) (0:Int) (0:Int) (0:Int) (0:Int) ([]:List ((List UInt8)×Int))) (aP 53 .i64 .i64 (e7,e8))] (by kernel_rfl) (by kernel_rfl) ⟨tt,(sJ q4),tt⟩ (fun σ1 hle=>aE ?_)
 obtain rfl:=sI h
 exact⟨rfl,hle⟩
theorem vK{text1:List UInt8}{res:((List (List UInt8))×Int×Int×(List Int)×List (Int×Tree×Tree))×Int×Int}(h:cS text1=some res):
  Pure Tryd.prog 22 [.st text1] (bX (fL false [⟨Y4,res.1⟩,⟨Y5,res.2⟩])):=by
 unfold cS at h
 obtain⟨r,hr,rfl⟩:=Option.map_eq_some_iff.1 h
 have:=t6  text1 r hr
 cases r with
 | inl x=>exact this
 | inr e=>exact this
def g5(e1:Int)(e3:List Tree)(rec_auto_Turn:Int→Int→(List Tree)→Option (Tree)):((List Tree)×Int)→Option (((List Tree)×Int)⊕(List Tree)):=fun(out2,v2) =>
 (if(decide (v2<(e3.length:Int)))=true then(if 0≤v2∧v2<(e3.length:Int)then(((if(e1 == (2:Int))=true then(if 0≤(IntKind.i64.wrap ((IntKind.i64.wrap ((e3.length:Int) - (1:Int))) - v2))∧(IntKind.i64.wrap ((IntKind.i64.wrap ((e3.length:Int) - (1:Int))) - v2))<(e3.length:Int)then some (((e3.getD ((IntKind.i64.wrap ((IntKind.i64.wrap ((e3.length:Int) - (1:Int))) - v2)).toNat) (Tree.node 0 0 [])).op,(e3.getD ((IntKind.i64.wrap ((IntKind.i64.wrap ((e3.length:Int) - (1:Int))) - v2)).toNat) (Tree.node 0 0 [])).set,(e3.getD ((IntKind.i64.wrap ((IntKind.i64.wrap ((e3.length:Int) - (1:Int))) - v2)).toNat) (Tree.node 0 0 [])).kids))else none)
 else some (((e3.getD v2.toNat (Tree.node 0 0 [])).op,(e3.getD v2.toNat (Tree.node 0 0 [])).set,(e3.getD v2.toNat (Tree.node 0 0 [])).kids)))).bind fun(k7,k8,k9)=>((rec_auto_Turn k7 k8 k9).bind fun r9 =>
 (if(out2.length+([(Tree.node r9.op r9.set r9.kids)]:List Tree).length)*32≤140737488355328∧out2.length+([(Tree.node r9.op r9.set r9.kids)]:List Tree).length≤9223372036854775807 then some (Sum.inl ((out2++([(Tree.node r9.op r9.set r9.kids)]:List Tree)),(IntKind.i64.wrap (v2+(1:Int)))))else none)))else none)
 else some (Sum.inr out2))
def iQ(rec_auto_Turn:Int→Int→(List Tree)→Option (Tree))(e1 e2:Int)(e3:List Tree):Option (Tree) :=
 ((iter (g5 e1 e3 rec_auto_Turn) (([]:List Tree),(0:Int))).bind fun out3=>some (Tree.node e1 e2 out3))
def jQ:Nat→Int→Int→(List Tree)→Option (Tree)
 | 0=>fun _ _ _=>none
 | n+1=>iQ (jQ n)
theorem uW(rec_auto_Turn:Int→Int→(List Tree)→Option (Tree))(hrec_auto_Turn:∀(β2:Bool) {e1:Int} {e2:Int} {e3:List Tree} {res:Tree},rec_auto_Turn e1 e2 e3=some res→Pure Tryd.prog 33 [.agg [.u8 e1,.u32 e2,.p β2 (.slice (.tree .u8 .u32)) e3]] (bX (fL false [⟨(.tree .u8 .u32),res⟩])))(β2:Bool){e1:Int}{e2:Int}{e3:List Tree}{res:Tree}(h:iQ rec_auto_Turn e1 e2 e3=some res):
  Pure Tryd.prog 33 [.agg [.u8 e1,.u32 e2,.p β2 (.slice (.tree .u8 .u32)) e3]] (bX (fL false [⟨(.tree .u8 .u32),res⟩])):=by
 refine Pure.of_body bK Tryd.func33 (by kernel_rfl) rfl (nl rfl) (fun Bw w0=> ?_) rfl
 unfold iQ at h
 refine G (G (aC (G (aF (hU h (fun(out2,v2)=>aN [(1,.adr 0 0 3 0),(2,.adr 1 0 3 0),(3,.adr 2 0 3 0),(13,.i64 (e3.length:Int)),(14,.i64 v2)] (aEs e1 e2 β2 e3 (0:Int) (0:Int) e1 e2 out2) 4) 0 (fun out3=>aN [(2,.adr 0 0 3 0),(3,.adr 1 0 3 0)] (aEx (0:Int) (0:Int) e1 e2 out3) 3) (gg [.nilC 56 2 104 72 (.tree .u8 .u32)] [0,8,56,104]) (fun y o h=> ?_) (fun out3 h=> ?_))))))
 ·obtain⟨out2,v2⟩:=y
  unfold g5 at h
  refine G (aC (aS h (fun hb7 h=> ?_) (fun hb7 h=> ?_)))
  ·refine aB (aA (aC (aF (G (GC 3 h (fun h=>aC (G (fA h (fun(k7,k8,k9)=>aN [(1,.adr 0 0 3 0),(2,.adr 1 0 3 0),(3,.adr 2 0 3 0),(5,.adr 4 0 3 0),(13,.i64 (e3.length:Int)),(14,.i64 v2)] (aEl e1 e2 β2 e3 (0:Int) (0:Int) e1 e2 out2 k7 k8 β2 k9) 5) (fun r7 h=> ?_) (fun r7 h=> ?_)))))))))
   ·refine aS h (fun hb9 h=> ?_) (fun hb9 h=> ?_)
    ·refine GCe 8 h (fun h=> ?_)
     exact eN h (gg [] [0,1,2,3,68])
    refine aB ?_
    exact eN h (gg [] [0,1,2,3,68])
   obtain⟨k7,k8,k9⟩:=r7
   refine aA ?_
   obtain⟨r9,q6,h⟩:=aD h
   obtain⟨c24,h⟩:=bB h
   have u_1:=(hrec_auto_Turn β2 q6)
   refine xB ⟨[],[(3,(oP u_1))]⟩ [(3,3,oc u_1),(5,5,oc c24)] (aM (aA (Ge ?_)))
   exact eB h (gg [] [0,1,2,45])
  refine aH (bM ?_)
  exact eX h (gg [] [1,2,3])
 refine aJ (aA (G (aV ?_)))
 obtain rfl:=sI h
 exact aK [(.tree .u8 .u32)] (by kernel_rfl)
theorem pX:∀(n:Nat) (β2:Bool) {e1:Int} {e2:Int} {e3:List Tree} {res:Tree},jQ n e1 e2 e3=some res→Pure Tryd.prog 33 [.agg [.u8 e1,.u32 e2,.p β2 (.slice (.tree .u8 .u32)) e3]] (bX (fL false [⟨(.tree .u8 .u32),res⟩]))
 | 0,_,_,_,_,_,h=>by cases h
 | n+1,β2,e1,e2,e3,res,h=>uW (jQ n) (pX n) β2 h
def eV(i1:Int)(s1:Bool)(s2 s3 s4 s5 s6 s7 s8 s9:Int):Option (Int×Int×Int×Int) :=
 (if ¬(64:Int)=0 then(if 0≤(IntKind.i64.wrap (Int.tdiv i1 (64:Int)))∧(IntKind.i64.wrap (Int.tdiv i1 (64:Int)))<((4:Nat):Int)then(if ¬(64:Int)=0 then(if 0≤(Int.tmod i1 (64:Int))then(if 0≤(IntKind.i64.wrap (Int.tdiv i1 (64:Int)))∧(IntKind.i64.wrap (Int.tdiv i1 (64:Int)))<((4:Nat):Int)then some ((if(IntKind.i64.wrap (Int.tdiv i1 (64:Int))).toNat=0 then(aI .or .u64 (([s2,s3,s4,s5]:List Int).getD ((IntKind.i64.wrap (Int.tdiv i1 (64:Int))).toNat) 0) (IntKind.u64.wrap ((1:Int)*2 ^ (min (Int.tmod i1 (64:Int)).toNat IntKind.u64.bits))))else s2),(if(IntKind.i64.wrap (Int.tdiv i1 (64:Int))).toNat=1 then(aI .or .u64 (([s2,s3,s4,s5]:List Int).getD ((IntKind.i64.wrap (Int.tdiv i1 (64:Int))).toNat) 0) (IntKind.u64.wrap ((1:Int)*2 ^ (min (Int.tmod i1 (64:Int)).toNat IntKind.u64.bits))))else s3),(if(IntKind.i64.wrap (Int.tdiv i1 (64:Int))).toNat=2 then(aI .or .u64 (([s2,s3,s4,s5]:List Int).getD ((IntKind.i64.wrap (Int.tdiv i1 (64:Int))).toNat) 0) (IntKind.u64.wrap ((1:Int)*2 ^ (min (Int.tmod i1 (64:Int)).toNat IntKind.u64.bits))))else s4),(if(IntKind.i64.wrap (Int.tdiv i1 (64:Int))).toNat=3 then(aI .or .u64 (([s2,s3,s4,s5]:List Int).getD ((IntKind.i64.wrap (Int.tdiv i1 (64:Int))).toNat) 0) (IntKind.u64.wrap ((1:Int)*2 ^ (min (Int.tmod i1 (64:Int)).toNat IntKind.u64.bits))))else s5))else none)else none)else none)else none)else none)
theorem pG{i1:Int}{s1:Bool}{s2:Int}{s3:Int}{s4:Int}{s5:Int}{s6:Int}{s7:Int}{s8:Int}{s9:Int}{res:Int×Int×Int×Int}(h:eV i1 s1 s2 s3 s4 s5 s6 s7 s8 s9=some res):
  Owns Tryd.prog 60 [.adr 0 0 9 1,.i64 i1] (aCn s1 s2 s3 s4 s5 s6 s7 s8 s9) (.tup []) (aCn s1 res.1 res.2.1 res.2.2.1 res.2.2.2 s6 s7 s8 s9):=by
 refine Owns.of_body bK Tryd.func60 (by kernel_rfl) rfl (nl rfl) (fun Bw w0=> ?_)
 unfold eV at h
 obtain⟨c16,c17,c18,c19,h⟩:=g4 h
 obtain⟨c20,h⟩:=bB h
 refine xB a0 [(2,2,oc c16),(4,4,oc c17),(7,7,oc c18),(8,8,oc c19),(11,11,oc c20)] ?_
 obtain rfl:=sI h
 exact(aO [] [] [0] [] (aCn s1 (if(IntKind.i64.wrap (Int.tdiv i1 (64:Int))).toNat=0 then(aI .or .u64 (([s2,s3,s4,s5]:List Int).getD ((IntKind.i64.wrap (Int.tdiv i1 (64:Int))).toNat) 0) (IntKind.u64.wrap ((1:Int)*2 ^ (min (Int.tmod i1 (64:Int)).toNat IntKind.u64.bits))))else s2) (if(IntKind.i64.wrap (Int.tdiv i1 (64:Int))).toNat=1 then(aI .or .u64 (([s2,s3,s4,s5]:List Int).getD ((IntKind.i64.wrap (Int.tdiv i1 (64:Int))).toNat) 0) (IntKind.u64.wrap ((1:Int)*2 ^ (min (Int.tmod i1 (64:Int)).toNat IntKind.u64.bits))))else s3) (if(IntKind.i64.wrap (Int.tdiv i1 (64:Int))).toNat=2 then(aI .or .u64 (([s2,s3,s4,s5]:List Int).getD ((IntKind.i64.wrap (Int.tdiv i1 (64:Int))).toNat) 0) (IntKind.u64.wrap ((1:Int)*2 ^ (min (Int.tmod i1 (64:Int)).toNat IntKind.u64.bits))))else s4) (if(IntKind.i64.wrap (Int.tdiv i1 (64:Int))).toNat=3 then(aI .or .u64 (([s2,s3,s4,s5]:List Int).getD ((IntKind.i64.wrap (Int.tdiv i1 (64:Int))).toNat) 0) (IntKind.u64.wrap ((1:Int)*2 ^ (min (Int.tmod i1 (64:Int)).toNat IntKind.u64.bits))))else s5) s6 s7 s8 s9) 1 1 (by kernel_rfl) (by kernel_rfl) (by kernel_rfl)).normal
def eS(s1 s2 s3 s4 i1:Int):Option (Bool) :=
 (if ¬(64:Int)=0 then(if 0≤(IntKind.i64.wrap (Int.tdiv i1 (64:Int)))∧(IntKind.i64.wrap (Int.tdiv i1 (64:Int)))<((4:Nat):Int)then(if ¬(64:Int)=0 then(if 0≤(Int.tmod i1 (64:Int))then some ((aI .and .u64 (Int.fdiv (([s1,s2,s3,s4]:List Int).getD ((IntKind.i64.wrap (Int.tdiv i1 (64:Int))).toNat) 0) (2 ^ (min (Int.tmod i1 (64:Int)).toNat IntKind.u64.bits))) (1:Int)) == (1:Int))else none)else none)else none)else none)
theorem gI{s1:Int}{s2:Int}{s3:Int}{s4:Int}{i1:Int}{res:Bool}(h:eS s1 s2 s3 s4 i1=some res):
  Pure Tryd.prog 58 [.agg [.u64 s1,.u64 s2,.u64 s3,.u64 s4],.i64 i1] (bX (fL false [⟨.bool,res⟩])):=by
 refine Pure.of_body bK Tryd.func58 (by kernel_rfl) rfl (nl rfl) (fun Bw w0=> ?_) rfl
 unfold eS at h
 refine G ?_
 obtain⟨c5,c6,c7,c8,h⟩:=g4 h
 refine GN a0 [(1,1,oc c5),(2,2,oc c6),(5,5,oc c7),(6,6,oc c8)] (aV ?_)
 obtain rfl:=sI h
 exact aK [.bool] (by kernel_rfl)
def mO(o1 o2 o3 o4:Int):(Int×Int×Int×Int×Int)→Option ((Int×Int×Int×Int×Int)⊕(Int×Int×Int×Int)):=fun(s9,s10,s11,s12,v2) =>
 (if(decide (v2<(4:Int)))=true then(if 0≤v2∧v2<((4:Nat):Int)then(if 0≤v2∧v2<((4:Nat):Int)then(if 0≤v2∧v2<((4:Nat):Int)then some (Sum.inl ((if v2.toNat=0 then(aI .or .u64 (([s9,s10,s11,s12]:List Int).getD v2.toNat 0) (([o1,o2,o3,o4]:List Int).getD v2.toNat 0))else s9),(if v2.toNat=1 then(aI .or .u64 (([s9,s10,s11,s12]:List Int).getD v2.toNat 0) (([o1,o2,o3,o4]:List Int).getD v2.toNat 0))else s10),(if v2.toNat=2 then(aI .or .u64 (([s9,s10,s11,s12]:List Int).getD v2.toNat 0) (([o1,o2,o3,o4]:List Int).getD v2.toNat 0))else s11),(if v2.toNat=3 then(aI .or .u64 (([s9,s10,s11,s12]:List Int).getD v2.toNat 0) (([o1,o2,o3,o4]:List Int).getD v2.toNat 0))else s12),(IntKind.i64.wrap (v2+(1:Int)))))else none)else none)else none)
 else some (Sum.inr (s9,s10,s11,s12)))
def cF(s1 s2 s3 s4 o1 o2 o3 o4:Int):Option (Int×Int×Int×Int) :=
 ((iter (mO o1 o2 o3 o4) (s1,s2,s3,s4,(0:Int))).bind fun(s13,s14,s15,s16)=>some (s13,(s14,(s15,s16))))
theorem b7{s1:Int}{s2:Int}{s3:Int}{s4:Int}{o1:Int}{o2:Int}{o3:Int}{o4:Int}{res:Int×Int×Int×Int}(h:cF s1 s2 s3 s4 o1 o2 o3 o4=some res):
  Pure Tryd.prog 57 [.agg [.u64 s1,.u64 s2,.u64 s3,.u64 s4],.agg [.u64 o1,.u64 o2,.u64 o3,.u64 o4]] (bX (fL false [⟨Y9,res⟩])):=by
 refine Pure.of_body bK Tryd.func57 (by kernel_rfl) rfl (nl rfl) (fun Bw w0=> ?_) rfl
 unfold cF at h
 refine G (aC (G (aF (hU h (fun(s9,s10,s11,s12,v2)=>aN [(2,.adr 0 0 4 0),(3,.adr 1 0 4 0),(4,.adr 2 0 4 0),(6,.i64 v2)] (aEd s9 s10 s11 s12 o1 o2 o3 o4 (0:Int) (0:Int) (0:Int) (0:Int)) 3) 0 (fun(s13,s14,s15,s16)=>aN [(2,.adr 0 0 4 0),(4,.adr 1 0 4 0)] (aDo s13 s14 s15 s16 (0:Int) (0:Int) (0:Int) (0:Int)) 2) (gg [] [0,8,16]) (fun y o h=> ?_) (fun r1 h=> ?_)))))
 ·obtain⟨s9,s10,s11,s12,v2⟩:=y
  unfold mO at h
  refine G (aC (aS h (fun hb3 h=> ?_) (fun hb3 h=> ?_)))
  ·refine aB (aA (aC (aF (G ?_))))
   obtain⟨c16,c17,c18,h⟩:=g3 h
   refine xB a0 [(1,1,oc c16),(4,4,oc c17),(7,7,oc c18)] (aM (aA (Ge ?_)))
   exact eB h (gg [] [0,1,2])
  refine aH (bM ?_)
  exact eX h (gg [] [0,2])
 obtain⟨s13,s14,s15,s16⟩:=r1
 refine aJ (aA (G (aV ?_)))
 obtain rfl:=sI h
 exact aK [Y9] (by kernel_rfl)
def bV(from1 from2 from3 from4 to1 to2 to3 to4:Int)(o2:List (Int×Int×Int×Int)):((List (Int×Int×Int×Int))×Int)→Option (((List (Int×Int×Int×Int))×Int)⊕(List (Int×Int×Int×Int))):=fun(m10,v6) =>
 (if(decide (v6<(o2.length:Int)))=true then((eS from1 from2 from3 from4 v6).bind fun r32 =>
 (((if r32=true then(if 0≤v6∧v6<(m10.length:Int)then(if v6.toNat<m10.length then((cF ((m10.getD v6.toNat ((0:Int),((0:Int),((0:Int),(0:Int))))).1) ((m10.getD v6.toNat ((0:Int),((0:Int),((0:Int),(0:Int))))).2.1) ((m10.getD v6.toNat ((0:Int),((0:Int),((0:Int),(0:Int))))).2.2.1) ((m10.getD v6.toNat ((0:Int),((0:Int),((0:Int),(0:Int))))).2.2.2) to1 to2 to3 to4).bind fun r36 =>
 (if 0≤v6∧v6<(m10.length:Int)then(if v6.toNat<m10.length then some ((m10.set v6.toNat (r36.1,(r36.2.1,(r36.2.2.1,r36.2.2.2)))))else none)else none))else none)else none)
 else some (m10))).bind fun m11=>some (Sum.inl (m11,(IntKind.i64.wrap (v6+(1:Int)))))))
 else some (Sum.inr m10))
def cL(from1 from2 from3 from4 to1 to2 to3 to4:Int)(m1:Bool)(o1:List Int)(o2:List (Int×Int×Int×Int)):Option (List (Int×Int×Int×Int)) :=
 ((iter (bV from1 from2 from3 from4 to1 to2 to3 to4 o2) (o2,(0:Int))).bind fun v7=>some v7)
theorem iE{from1:Int}{from2:Int}{from3:Int}{from4:Int}{to1:Int}{to2:Int}{to3:Int}{to4:Int}{m1:Bool}{o1:List Int}{o2:List (Int×Int×Int×Int)}{res:List (Int×Int×Int×Int)}(h:cL from1 from2 from3 from4 to1 to2 to3 to4 m1 o1 o2=some res):
  Owns Tryd.prog 80 [.adr 0 0 3 0,.agg [.u64 from1,.u64 from2,.u64 from3,.u64 from4],.agg [.u64 to1,.u64 to2,.u64 to3,.u64 to4]] (I4 m1 o1 o2) (.tup []) (I4 m1 o1 res):=by
 refine Owns.of_body bK Tryd.func80 (by kernel_rfl) rfl (nl rfl) (fun Bw w0=> ?_)
 unfold cL at h
 refine G (G (aF (hU h (fun(m10,v6)=>aN [(0,.adr 0 0 3 0),(4,.adr 3 0 4 0),(5,.adr 4 0 4 0),(11,.i64 (o2.length:Int)),(12,.i64 v6)] (aDA m1 o1 m10 from1 from2 from3 from4 to1 to2 to3 to4) 5 3) 0 (fun v7=>aN [] (I4 m1 o1 v7) 3 3) (gg [] [0,1,2,3,11]) (fun y o h=> ?_) (fun v7 h=> ?_))))
 ·obtain⟨m10,v6⟩:=y
  unfold bV at h
  refine G (aC (aS h (fun hb16 h=> ?_) (fun hb16 h=> ?_)))
  ·refine aB (aA (aC (aF (G ?_))))
   obtain⟨r32,q32,h⟩:=aD h
   refine GP 2 (gI q32) (fA h (fun m11=>aN [(0,.adr 0 0 3 0),(4,.adr 3 0 4 0),(5,.adr 4 0 4 0),(11,.i64 (o2.length:Int)),(12,.i64 v6)] (aDA m1 o1 m11 from1 from2 from3 from4 to1 to2 to3 to4) 5 3) (fun m11 h=> ?_) (fun m11 h=> ?_))
   ·refine aS h (fun hb18 h=> ?_) (fun hb18 h=> ?_)
    ·obtain⟨c93,c94,h⟩:=g2 h
     obtain⟨r36,q36,h⟩:=aD h
     obtain⟨c95,c96,h⟩:=g2 h
     have u_1:=(b7 q36)
     refine xB ⟨[],[(13,(oP u_1))]⟩ [(10,10,oc c93),(11,11,oc c94),(13,13,oc u_1),(14,14,oc c95),(15,15,oc c96)] ?_
     exact eN h (gg [] [0,1,2,3,4])
    refine aB ?_
    exact eN h (gg [] [0,1,2,3,4])
   refine aM (aA (Ge ?_))
   exact eB h (gg [] [0,1,2,3,4])
  refine aH (bM ?_)
  exact eX h (gg [] [0,1,2])
 refine aJ ?_
 obtain rfl:=sI h
 exact(aO [] [] [0,1,2] [] (I4 m1 o1 v7) 3 3 (by kernel_rfl) (by kernel_rfl) (by kernel_rfl)).normal
def dD(i3:List Tree)(rec_auto_maker_of_v3:Int→Int→(List Tree)→Bool→(List Int)→(List (Int×Int×Int×Int))→Option ((Bool×(Int×Int×Int×Int)×Int×Int×Int×Int)×(List Int)×(List (Int×Int×Int×Int))×Bool)):((List Int)×(List (Int×Int×Int×Int))×Bool×Bool×Int×Int×Int×Int×Int×Int×Int×Int×Int)→Option (((List Int)×(List (Int×Int×Int×Int))×Bool×Bool×Int×Int×Int×Int×Int×Int×Int×Int×Int)⊕(Bool×Int×Int×Int×Int×Int×Int×Int×Int×(List Int)×(List (Int×Int×Int×Int))×Bool)):=fun(d20,d21,d22,v148,v149,v150,v151,v152,v153,v154,v155,v156,v157) =>
 (if(decide (v157<(i3.length:Int)))=true then(if 0≤v157∧v157<(i3.length:Int)then((rec_auto_maker_of_v3 ((i3.getD v157.toNat (Tree.node 0 0 [])).op) ((i3.getD v157.toNat (Tree.node 0 0 [])).set) ((i3.getD v157.toNat (Tree.node 0 0 [])).kids) d22 d20 d21).bind fun(r209,r210,r211,r212) =>
 ((cL v153 v154 v155 v156 r209.2.1.1 r209.2.1.2.1 r209.2.1.2.2.1 r209.2.1.2.2.2 r212 r210 r211).bind fun r214 =>
 (((if v148=true then((cF v149 v150 v151 v152 r209.2.1.1 r209.2.1.2.1 r209.2.1.2.2.1 r209.2.1.2.2.2).bind fun r218 =>
 some ((r218.1,r218.2.1,r218.2.2.1,r218.2.2.2)))
 else some ((v149,v150,v151,v152)))).bind fun(v170,v171,v172,v173)=>(((if r209.1=true then((cF r209.2.2.1 r209.2.2.2.1 r209.2.2.2.2.1 r209.2.2.2.2.2 v153 v154 v155 v156).bind fun r223 =>
 some ((r223.1,r223.2.1,r223.2.2.1,r223.2.2.2)))
 else some ((r209.2.2.1,r209.2.2.2.1,r209.2.2.2.2.1,r209.2.2.2.2.2)))).bind fun(v174,v175,v176,v177)=>(((if v148=true then some (r209.1)
 else some (false))).bind fun v178=>some (Sum.inl (r210,r214,r212,v178,v170,v171,v172,v173,v174,v175,v176,v177,(IntKind.i64.wrap (v157+(1:Int))))))))))else none)
 else some (Sum.inr (v148,v149,v150,v151,v152,v153,v154,v155,v156,d20,d21,d22)))
def cZ(i3:List Tree)(rec_auto_maker_of_v3:Int→Int→(List Tree)→Bool→(List Int)→(List (Int×Int×Int×Int))→Option ((Bool×(Int×Int×Int×Int)×Int×Int×Int×Int)×(List Int)×(List (Int×Int×Int×Int))×Bool)):((List Int)×(List (Int×Int×Int×Int))×Bool×Bool×Int×Int×Int×Int×Int×Int×Int×Int×Int)→Option (((List Int)×(List (Int×Int×Int×Int))×Bool×Bool×Int×Int×Int×Int×Int×Int×Int×Int×Int)⊕(Bool×Int×Int×Int×Int×Int×Int×Int×Int×(List Int)×(List (Int×Int×Int×Int))×Bool)):=fun(d26,d27,d28,v198,v199,v200,v201,v202,v203,v204,v205,v206,v207) =>
 (if(decide (v207<(i3.length:Int)))=true then(if 0≤v207∧v207<(i3.length:Int)then((rec_auto_maker_of_v3 ((i3.getD v207.toNat (Tree.node 0 0 [])).op) ((i3.getD v207.toNat (Tree.node 0 0 [])).set) ((i3.getD v207.toNat (Tree.node 0 0 [])).kids) d28 d26 d27).bind fun(r263,r264,r265,r266) =>
 (((if v198=true then((cF v199 v200 v201 v202 r263.2.1.1 r263.2.1.2.1 r263.2.1.2.2.1 r263.2.1.2.2.2).bind fun r275 =>
 ((cF v203 v204 v205 v206 r263.2.2.1 r263.2.2.2.1 r263.2.2.2.2.1 r263.2.2.2.2.2).bind fun r276 =>
 some ((true,r275.1,r275.2.1,r275.2.2.1,r275.2.2.2,r276.1,r276.2.1,r276.2.2.1,r276.2.2.2))))
 else((cF v199 v200 v201 v202 r263.2.1.1 r263.2.1.2.1 r263.2.1.2.2.1 r263.2.1.2.2.2).bind fun r277 =>
 ((cF v203 v204 v205 v206 r263.2.2.1 r263.2.2.2.1 r263.2.2.2.2.1 r263.2.2.2.2.2).bind fun r278 =>
 some ((r263.1,r277.1,r277.2.1,r277.2.2.1,r277.2.2.2,r278.1,r278.2.1,r278.2.2.1,r278.2.2.2)))))).bind fun(v220,v221,v222,v223,v224,v225,v226,v227,v228)=>some (Sum.inl (r264,r265,r266,v220,v221,v222,v223,v224,v225,v226,v227,v228,(IntKind.i64.wrap (v207+(1:Int)))))))else none)
 else some (Sum.inr (v198,v199,v200,v201,v202,v203,v204,v205,v206,d26,d27,d28)))
def dJ(rec_auto_maker_of_v3:Int→Int→(List Tree)→Bool→(List Int)→(List (Int×Int×Int×Int))→Option ((Bool×(Int×Int×Int×Int)×Int×Int×Int×Int)×(List Int)×(List (Int×Int×Int×Int))×Bool))(i1 i2:Int)(i3:List Tree)(d1:Bool)(o1:List Int)(o2:List (Int×Int×Int×Int)):Option ((Bool×(Int×Int×Int×Int)×Int×Int×Int×Int)×(List Int)×(List (Int×Int×Int×Int))×Bool) :=
 (if(i1 == (1:Int))=true then(if(decide ((o1.length:Int)≥(200:Int)))=true then some ((false,(((0:Int),((0:Int),((0:Int),(0:Int)))),((0:Int),((0:Int),((0:Int),(0:Int)))))),o1,o2,true)
 else((eV (o1.length:Int) false (0:Int) (0:Int) (0:Int) (0:Int) (0:Int) (0:Int) (0:Int) (0:Int)).bind fun(r164,r165,r166,r167) =>
 (if(o1.length+([i2]:List Int).length)*4≤140737488355328∧o1.length+([i2]:List Int).length≤9223372036854775807 then(if(o2.length+([((0:Int),((0:Int),((0:Int),(0:Int))))]:List (Int×Int×Int×Int)).length)*32≤140737488355328∧o2.length+([((0:Int),((0:Int),((0:Int),(0:Int))))]:List (Int×Int×Int×Int)).length≤9223372036854775807 then some ((false,((r164,(r165,(r166,r167))),(r164,(r165,(r166,r167))))),(o1++([i2]:List Int)),(o2++([((0:Int),((0:Int),((0:Int),(0:Int))))]:List (Int×Int×Int×Int))),d1)else none)else none)))
 else(if(i1 == (2:Int))=true then((iter (dD i3 rec_auto_maker_of_v3) (o1,o2,d1,true,(0:Int),(0:Int),(0:Int),(0:Int),(0:Int),(0:Int),(0:Int),(0:Int),(0:Int))).bind fun(v158,v159,v160,v161,v162,v163,v164,v165,v166,v167,v168,v169)=>some ((v158,((v159,(v160,(v161,v162))),(v163,(v164,(v165,v166))))),v167,v168,v169))
 else(if(i1 == (3:Int))=true then((iter (cZ i3 rec_auto_maker_of_v3) (o1,o2,d1,false,(0:Int),(0:Int),(0:Int),(0:Int),(0:Int),(0:Int),(0:Int),(0:Int),(0:Int))).bind fun(v208,v209,v210,v211,v212,v213,v214,v215,v216,v217,v218,v219)=>some ((v208,((v209,(v210,(v211,v212))),(v213,(v214,(v215,v216))))),v217,v218,v219))
 else(((if(i1 == (4:Int))=true then some ((i1 == (4:Int)))
 else(if(i1 == (5:Int))=true then some ((i1 == (5:Int)))
 else some ((i1 == (6:Int)))))).bind fun v229=>(if v229=true then(((if(decide ((i3.length:Int) > (0:Int)))=true then(if 0≤(0:Int)∧(0:Int)<(i3.length:Int)then((rec_auto_maker_of_v3 ((i3.getD ((0:Int).toNat) (Tree.node 0 0 [])).op) ((i3.getD ((0:Int).toNat) (Tree.node 0 0 [])).set) ((i3.getD ((0:Int).toNat) (Tree.node 0 0 [])).kids) d1 o1 o2).bind fun(r293,r294,r295,r296) =>
 some ((r294,r295,r296,r293.1,r293.2.1.1,r293.2.1.2.1,r293.2.1.2.2.1,r293.2.1.2.2.2,r293.2.2.1,r293.2.2.2.1,r293.2.2.2.2.1,r293.2.2.2.2.2)))else none)
 else some ((o1,o2,d1,false,(0:Int),(0:Int),(0:Int),(0:Int),(0:Int),(0:Int),(0:Int),(0:Int))))).bind fun(d29,d30,d31,v230,v231,v232,v233,v234,v235,v236,v237,v238)=>(((if(i1 != (6:Int))=true then((cL v235 v236 v237 v238 v231 v232 v233 v234 d31 d29 d30).bind fun r301 =>
 some (r301))
 else some (d30))).bind fun v239=>(((if v230=true then some (true)
 else some ((i1 != (5:Int))))).bind fun v240=>some ((v240,((v231,(v232,(v233,v234))),(v235,(v236,(v237,v238))))),d29,v239,d31))))
 else some ((true,(((0:Int),((0:Int),((0:Int),(0:Int)))),((0:Int),((0:Int),((0:Int),(0:Int)))))),o1,o2,d1))))))
def cK:Nat→Int→Int→(List Tree)→Bool→(List Int)→(List (Int×Int×Int×Int))→Option ((Bool×(Int×Int×Int×Int)×Int×Int×Int×Int)×(List Int)×(List (Int×Int×Int×Int))×Bool)
 | 0=>fun _ _ _ _ _ _=>none
 | n+1=>dJ (cK n)
theorem mK(rec_auto_maker_of_v3:Int→Int→(List Tree)→Bool→(List Int)→(List (Int×Int×Int×Int))→Option ((Bool×(Int×Int×Int×Int)×Int×Int×Int×Int)×(List Int)×(List (Int×Int×Int×Int))×Bool))(hrec_auto_maker_of_v3:∀(β2:Bool) {i1:Int} {i2:Int} {i3:List Tree} {d1:Bool} {o1:List Int} {o2:List (Int×Int×Int×Int)} {res:(Bool×(Int×Int×Int×Int)×Int×Int×Int×Int)×(List Int)×(List (Int×Int×Int×Int))×Bool},rec_auto_maker_of_v3 i1 i2 i3 d1 o1 o2=some res→Owns Tryd.prog 56 [.adr 0 0 3 0,.agg [.u8 i1,.u32 i2,.p β2 (.slice (.tree .u8 .u32)) i3]] (I4 d1 o1 o2) (.agg [.bo res.1.1,.u64 res.1.2.1.1,.u64 res.1.2.1.2.1,.u64 res.1.2.1.2.2.1,.u64 res.1.2.1.2.2.2,.u64 res.1.2.2.1,.u64 res.1.2.2.2.1,.u64 res.1.2.2.2.2.1,.u64 res.1.2.2.2.2.2]) (aCe res.2.2.2 res.2.1 res.2.2.1))(β2:Bool){i1:Int}{i2:Int}{i3:List Tree}{d1:Bool}{o1:List Int}{o2:List (Int×Int×Int×Int)}{res:(Bool×(Int×Int×Int×Int)×Int×Int×Int×Int)×(List Int)×(List (Int×Int×Int×Int))×Bool}(h:dJ rec_auto_maker_of_v3 i1 i2 i3 d1 o1 o2=some res):
  Owns Tryd.prog 56 [.adr 0 0 3 0,.agg [.u8 i1,.u32 i2,.p β2 (.slice (.tree .u8 .u32)) i3]] (I4 d1 o1 o2) (.agg [.bo res.1.1,.u64 res.1.2.1.1,.u64 res.1.2.1.2.1,.u64 res.1.2.1.2.2.1,.u64 res.1.2.1.2.2.2,.u64 res.1.2.2.1,.u64 res.1.2.2.2.1,.u64 res.1.2.2.2.2.1,.u64 res.1.2.2.2.2.2]) (aCe res.2.2.2 res.2.1 res.2.2.1):=by
 refine Owns.of_body bK Tryd.func56 (by kernel_rfl) rfl (nl rfl) (fun Bw w0=> ?_)
 unfold dJ at h
 refine G (aC (G (aF (G (aS h (fun hb63 h=> ?_) (fun hb63 h=> ?_))))))
 ·refine aC (G (aS h (fun hb64 h=> ?_) (fun hb64 h=> ?_)))
  ·refine G (G (aV (aG (aT (aG ?_)))))
   obtain rfl:=sI h
   exact aO [some yZ] [] [0,1,2,1,2,11] [(4,.adr 5 0 9 0)] (R3 true o1 o2 false (0:Int) (0:Int) (0:Int) (0:Int) (0:Int) (0:Int) (0:Int) (0:Int)) 6 3 (by kernel_rfl) (by kernel_rfl) (by kernel_rfl)
  refine aB (aA (G ?_))
  obtain⟨⟨r164,r165,r166,r167⟩,q86,h⟩:=aD h
  refine GO 6 [99] (pG q86) (G ?_)
  obtain⟨c38,h⟩:=bB h
  refine GD a0 [(8,8,oc c38)] (GC 7 h (fun h=>G (aV (aT (aG ?_)))))
  obtain rfl:=sI h
  exact aO [some yZ] [] [0,1,2,259,347,11] [(4,.adr 5 0 9 0)] (R3 d1 (o1++([i2]:List Int)) (o2++([((0:Int),((0:Int),((0:Int),(0:Int))))]:List (Int×Int×Int×Int))) false r164 r165 r166 r167 r164 r165 r166 r167) 6 3 (by kernel_rfl) (by kernel_rfl) (by kernel_rfl)
 refine G (aS h (fun hb65 h=> ?_) (fun hb65 h=> ?_))
 ·refine G (aC (G (aF (hU h (fun(d20,d21,d22,v148,v149,v150,v151,v152,v153,v154,v155,v156,v157)=>aN [(0,.adr 0 0 3 0),(4,.adr 5 0 9 0),(6,.adr 6 0 9 0),(65,.p β2 (.slice (.tree .u8 .u32)) i3),(66,.i64 (i3.length:Int)),(67,.i64 v157)] (aBj d22 d20 d21 false (0:Int) (0:Int) (0:Int) (0:Int) (0:Int) (0:Int) (0:Int) (0:Int) v148 v149 v150 v151 v152 v153 v154 v155 v156) 7 3) 1 (fun(v158,v159,v160,v161,v162,v163,v164,v165,v166,v167,v168,v169)=>aN [(4,.adr 3 0 9 0),(6,.adr 4 0 9 0)] (aB3 v169 false (0:Int) (0:Int) (0:Int) (0:Int) (0:Int) (0:Int) (0:Int) (0:Int) v158 v159 v160 v161 v162 v163 v164 v165 v166 v167 v168) 7 3) (gg [] [0,1,2,1,2,11,75]) (fun y o h=> ?_) (fun r225 h=> ?_)))))
  ·obtain⟨d20,d21,d22,v148,v149,v150,v151,v152,v153,v154,v155,v156,v157⟩:=y
   unfold dD at h
   refine G (aC (aS h (fun hb78 h=> ?_) (fun hb78 h=> ?_)))
   ·refine aB (aA (aC (aF (GC 0 h (fun h=> ?_)))))
    obtain⟨⟨r209,r210,r211,r212⟩,q110,h⟩:=aD h
    refine GO 2 [0,3,4] (hrec_auto_maker_of_v3 β2 q110) ?_
    obtain⟨r214,q112,h⟩:=aD h
    refine GO 5 [0,63,64] (iE q112) (aC (G (fA h (fun(v170,v171,v172,v173)=>aN [(0,.adr 0 0 3 0),(4,.adr 5 0 9 0),(6,.adr 6 0 9 0),(9,.adr 7 0 9 0),(65,.p β2 (.slice (.tree .u8 .u32)) i3),(66,.i64 (i3.length:Int)),(67,.i64 v157)] (aDy r212 r210 r214 false (0:Int) (0:Int) (0:Int) (0:Int) (0:Int) (0:Int) (0:Int) (0:Int) v148 v170 v171 v172 v173 v153 v154 v155 v156 r209.1 r209.2.1.1 r209.2.1.2.1 r209.2.1.2.2.1 r209.2.1.2.2.2 r209.2.2.1 r209.2.2.2.1 r209.2.2.2.2.1 r209.2.2.2.2.2) 8 3) (fun r219 h=> ?_) (fun r219 h=> ?_))))
    ·refine aS h (fun hb80 h=> ?_) (fun hb80 h=> ?_)
     ·obtain⟨r218,q116,h⟩:=aD h
      refine GPe 4 (b7 q116) ?_
      exact eN h (gg [] [0,1,2,63,64,5,6,71])
     refine aB ?_
     exact eN h (gg [] [0,1,2,63,64,5,6,71])
    obtain⟨v170,v171,v172,v173⟩:=r219
    refine aA (aC (G (fA h (fun(v174,v175,v176,v177)=>aN [(0,.adr 0 0 3 0),(4,.adr 5 0 9 0),(6,.adr 6 0 9 0),(9,.adr 7 0 9 0),(65,.p β2 (.slice (.tree .u8 .u32)) i3),(66,.i64 (i3.length:Int)),(67,.i64 v157)] (aDy r212 r210 r214 false (0:Int) (0:Int) (0:Int) (0:Int) (0:Int) (0:Int) (0:Int) (0:Int) v148 v170 v171 v172 v173 v153 v154 v155 v156 r209.1 r209.2.1.1 r209.2.1.2.1 r209.2.1.2.2.1 r209.2.1.2.2.2 v174 v175 v176 v177) 8 3) (fun r224 h=> ?_) (fun r224 h=> ?_))))
    ·refine aS h (fun hb82 h=> ?_) (fun hb82 h=> ?_)
     ·obtain⟨r223,q120,h⟩:=aD h
      refine GPe 4 (b7 q120) ?_
      exact eN h (gg [] [0,1,2,3,4,5,6,7])
     refine aB ?_
     exact eN h (gg [] [0,1,2,3,4,5,6,7])
    obtain⟨v174,v175,v176,v177⟩:=r224
    refine aA (fA h (fun v178=>aN [(0,.adr 0 0 3 0),(4,.adr 5 0 9 0),(6,.adr 6 0 9 0),(65,.p β2 (.slice (.tree .u8 .u32)) i3),(66,.i64 (i3.length:Int)),(67,.i64 v157)] (aBj r212 r210 r214 false (0:Int) (0:Int) (0:Int) (0:Int) (0:Int) (0:Int) (0:Int) (0:Int) v178 v170 v171 v172 v173 v174 v175 v176 v177) 7 3) (fun v178 h=> ?_) (fun v178 h=> ?_))
    ·rcases bY h with⟨hb85,h⟩ | ⟨hb85,h⟩
     ·refine xB ⟨[(2,true),(5,true)],[]⟩ [(3,4,an hb85),(5,5,oc hb85)] ?_
      exact eN h (gg [] [0,1,2,3,4,5,6])
     refine xB ⟨[(2,false),(5,false)],[]⟩ [(3,5,oc hb85)] ?_
     exact eN h (gg [] [0,1,2,3,4,5,6])
    refine aM (aA (Ge ?_))
    exact eB h (gg [] [0,1,2,3,4,5,6])
   refine aH (bM ?_)
   exact eX h (gg [] [0,1,2,5,6,3,4])
  obtain⟨v158,v159,v160,v161,v162,v163,v164,v165,v166,v167,v168,v169⟩:=r225
  refine aJ (aA (G (aV (aT (aG ?_)))))
  obtain rfl:=sI h
  exact aO [some yZ] [] [0,1,2,5,6,3] [(4,.adr 5 0 9 0)] (R3 v169 v167 v168 v158 v159 v160 v161 v162 v163 v164 v165 v166) 6 3 (by kernel_rfl) (by kernel_rfl) (by kernel_rfl)
 refine G (aS h (fun hb86 h=> ?_) (fun hb86 h=> ?_))
 ·refine G (aC (G (aF (hU h (fun(d26,d27,d28,v198,v199,v200,v201,v202,v203,v204,v205,v206,v207)=>aN [(0,.adr 0 0 3 0),(4,.adr 5 0 9 0),(10,.adr 6 0 9 0),(111,.p β2 (.slice (.tree .u8 .u32)) i3),(112,.i64 (i3.length:Int)),(113,.i64 v207)] (aBj d28 d26 d27 false (0:Int) (0:Int) (0:Int) (0:Int) (0:Int) (0:Int) (0:Int) (0:Int) v198 v199 v200 v201 v202 v203 v204 v205 v206) 7 3) 3 (fun(v208,v209,v210,v211,v212,v213,v214,v215,v216,v217,v218,v219)=>aN [(4,.adr 3 0 9 0),(10,.adr 4 0 9 0)] (aB3 v219 false (0:Int) (0:Int) (0:Int) (0:Int) (0:Int) (0:Int) (0:Int) (0:Int) v208 v209 v210 v211 v212 v213 v214 v215 v216 v217 v218) 7 3) (gg [] [0,1,2,1,2,11,83]) (fun y o h=> ?_) (fun r280 h=> ?_)))))
  ·obtain⟨d26,d27,d28,v198,v199,v200,v201,v202,v203,v204,v205,v206,v207⟩:=y
   unfold cZ at h
   refine G (aC (aS h (fun hb92 h=> ?_) (fun hb92 h=> ?_)))
   ·refine aB (aA (aC (aF (GC 0 h (fun h=> ?_)))))
    obtain⟨⟨r263,r264,r265,r266⟩,q142,h⟩:=aD h
    refine GO 2 [0,3,4] (hrec_auto_maker_of_v3 β2 q142) (fA h (fun(v220,v221,v222,v223,v224,v225,v226,v227,v228)=>aN [(0,.adr 0 0 3 0),(4,.adr 5 0 9 0),(10,.adr 6 0 9 0),(111,.p β2 (.slice (.tree .u8 .u32)) i3),(112,.i64 (i3.length:Int)),(113,.i64 v207)] (aBj r266 r264 r265 false (0:Int) (0:Int) (0:Int) (0:Int) (0:Int) (0:Int) (0:Int) (0:Int) v220 v221 v222 v223 v224 v225 v226 v227 v228) 7 3) (fun r279 h=> ?_) (fun r279 h=> ?_))
    ·rcases bY h with⟨hb95,h⟩ | ⟨hb95,h⟩
     ·obtain⟨r275,q151,h⟩:=aD h
      obtain⟨r276,q152,h⟩:=aD h
      have u_1:=(b7 q151)
      have u_2:=(b7 q152)
      refine xB ⟨[(2,true),(5,true)],[(10,(oP u_1)),(15,(oP u_2))]⟩ [(3,5,oc hb95),(10,10,oc u_1),(15,15,oc u_2)] ?_
      exact eN h (gg [] [0,1,2,63,64,5,6])
     obtain⟨r277,q153,h⟩:=aD h
     obtain⟨r278,q154,h⟩:=aD h
     have u_1:=(b7 q153)
     have u_2:=(b7 q154)
     refine xB ⟨[(2,false),(5,false)],[(10,(oP u_1)),(15,(oP u_2))]⟩ [(3,4,an hb95),(5,5,oc hb95),(10,10,oc u_1),(15,15,oc u_2)] ?_
     exact eN h (gg [] [0,1,2,63,64,5,6])
    obtain⟨v220,v221,v222,v223,v224,v225,v226,v227,v228⟩:=r279
    refine aM (aA (Ge ?_))
    exact eB h (gg [] [0,1,2,3,4,5,6])
   refine aH (bM ?_)
   exact eX h (gg [] [0,1,2,5,6,3,4])
  obtain⟨v208,v209,v210,v211,v212,v213,v214,v215,v216,v217,v218,v219⟩:=r280
  refine aJ (aA (G (aV (aT (aG ?_)))))
  obtain rfl:=sI h
  exact aO [some yZ] [] [0,1,2,5,6,3] [(4,.adr 5 0 9 0)] (R3 v219 v217 v218 v208 v209 v210 v211 v212 v213 v214 v215 v216) 6 3 (by kernel_rfl) (by kernel_rfl) (by kernel_rfl)
 refine aC (G (fA h (fun v229=>aN [(0,.adr 0 0 3 0),(3,.adr 3 0 3 0),(4,.adr 4 0 9 0),(139,.bo v229)] (aEm d1 o1 o2 i1 i2 β2 i3 false (0:Int) (0:Int) (0:Int) (0:Int) (0:Int) (0:Int) (0:Int) (0:Int)) 5 3) (fun v229 h=> ?_) (fun v229 h=> ?_)))
 ·refine aS h (fun hb98 h=> ?_) (fun hb98 h=> ?_)
  ·refine aB ?_
   exact eN h (gg [] [0,1,2,3,11])
  refine G (aS h (fun hb99 h=> ?_) (fun hb99 h=> ?_))
  ·refine aB ?_
   exact eN h (gg [] [0,1,2,3,11])
  refine Ge ?_
  exact eN h (gg [] [0,1,2,3,11])
 refine aA (aS h (fun hb100 h=> ?_) (fun hb100 h=> ?_))
 ·refine G (aC (G (fA h (fun(d29,d30,d31,v230,v231,v232,v233,v234,v235,v236,v237,v238)=>aN [(0,.adr 0 0 3 0),(3,.adr 5 0 3 0),(4,.adr 6 0 9 0),(14,.adr 7 0 9 0)] (aEe d31 d29 d30 i1 i2 β2 i3 false (0:Int) (0:Int) (0:Int) (0:Int) (0:Int) (0:Int) (0:Int) (0:Int) v230 v231 v232 v233 v234 v235 v236 v237 v238) 8 3) (fun r297 h=> ?_) (fun r297 h=> ?_))))
  ·refine aS h (fun hb102 h=> ?_) (fun hb102 h=> ?_)
   ·obtain⟨c56,h⟩:=bB h
    obtain⟨⟨r293,r294,r295,r296⟩,q158,h⟩:=aD h
    have u_1:=(hrec_auto_maker_of_v3 β2 q158)
    refine gA ⟨[],[(5,(oO u_1 [0,1,2]))]⟩ [(3,3,oc c56),(5,5,oc u_1)] ?_
    exact eN h (gg [] [0,1,2,85,86,3,4,5])
   refine aB ?_
   exact eN h (gg [] [0,1,2,1,2,3,4,5])
  obtain⟨d29,d30,d31,v230,v231,v232,v233,v234,v235,v236,v237,v238⟩:=r297
  refine aA (aC (G (fA h (fun v239=>aN [(3,.adr 3 0 3 0),(4,.adr 4 0 9 0),(14,.adr 5 0 9 0)] (aEv d31 i1 i2 β2 i3 false (0:Int) (0:Int) (0:Int) (0:Int) (0:Int) (0:Int) (0:Int) (0:Int) v230 v231 v232 v233 v234 v235 v236 v237 v238 d29 v239) 8 3) (fun v239 h=> ?_) (fun v239 h=> ?_))))
  ·refine aS h (fun hb104 h=> ?_) (fun hb104 h=> ?_)
   ·obtain⟨r301,q162,h⟩:=aD h
    refine lA 5 [0,3,4] (iE q162) ?_
    exact eN h (gg [] [0,1,2,5,6,7,3,4])
   refine aB ?_
   exact eN h (gg [] [0,1,2,5,6,7,3,4])
  refine aA (aC (fA h (fun v240=>aN [(4,.adr 3 0 9 0),(14,.adr 4 0 9 0)] (aB3 d31 false (0:Int) (0:Int) (0:Int) (0:Int) (0:Int) (0:Int) (0:Int) (0:Int) v240 v231 v232 v233 v234 v235 v236 v237 v238 d29 v239) 7 3) (fun v240 h=> ?_) (fun v240 h=> ?_)))
  ·rcases bY h with⟨hb107,h⟩ | ⟨hb107,h⟩
   ·refine gA ⟨[(2,true),(6,true)],[]⟩ [(3,6,oc hb107)] ?_
    exact eN h (gg [] [0,1,2,4,5,6,7])
   refine gA ⟨[(2,false),(6,false)],[]⟩ [(3,5,an hb107),(6,6,oc hb107)] ?_
   exact eN h (gg [] [0,1,2,4,5,6,7])
  refine aA (G (aV (aT (aG ?_))))
  obtain rfl:=sI h
  exact aO [some yZ] [] [0,1,2,5,6,3] [(4,.adr 5 0 9 0)] (R3 d31 d29 v239 v240 v231 v232 v233 v234 v235 v236 v237 v238) 6 3 (by kernel_rfl) (by kernel_rfl) (by kernel_rfl)
 refine aB (aM (aA (G (aV ?_))))
 obtain rfl:=sI h
 exact aO [some yZ] [] [0,1,2,1,2,4] [(4,.adr 5 0 9 0)] (R3 d1 o1 o2 true (0:Int) (0:Int) (0:Int) (0:Int) (0:Int) (0:Int) (0:Int) (0:Int)) 6 3 (by kernel_rfl) (by kernel_rfl) (by kernel_rfl)
theorem i5:∀(n:Nat) (β2:Bool) {i1:Int} {i2:Int} {i3:List Tree} {d1:Bool} {o1:List Int} {o2:List (Int×Int×Int×Int)} {res:(Bool×(Int×Int×Int×Int)×Int×Int×Int×Int)×(List Int)×(List (Int×Int×Int×Int))×Bool},cK n i1 i2 i3 d1 o1 o2=some res→Owns Tryd.prog 56 [.adr 0 0 3 0,.agg [.u8 i1,.u32 i2,.p β2 (.slice (.tree .u8 .u32)) i3]] (I4 d1 o1 o2) (.agg [.bo res.1.1,.u64 res.1.2.1.1,.u64 res.1.2.1.2.1,.u64 res.1.2.1.2.2.1,.u64 res.1.2.1.2.2.2,.u64 res.1.2.2.1,.u64 res.1.2.2.2.1,.u64 res.1.2.2.2.2.1,.u64 res.1.2.2.2.2.2]) (aCe res.2.2.2 res.2.1 res.2.2.1)
 | 0,_,_,_,_,_,_,_,_,h=>by cases h
 | n+1,β2,i1,i2,i3,d1,o1,o2,res,h=>mK (cK n) (i5 n) β2 h
def fB(a1 a2 a3 a4 b1 b2 b3 b4:Int):(Int)→Option ((Int)⊕((Unit)⊕(Bool))):=fun v2 =>
 (if(decide (v2<(4:Int)))=true then(if 0≤v2∧v2<((4:Nat):Int)then(if 0≤v2∧v2<((4:Nat):Int)then(if((aI .and .u64 (([a1,a2,a3,a4]:List Int).getD v2.toNat 0) (([b1,b2,b3,b4]:List Int).getD v2.toNat 0)) != (0:Int))=true then some (Sum.inr (Sum.inr true))
 else some (Sum.inl (IntKind.i64.wrap (v2+(1:Int)))))else none)else none)
 else some (Sum.inr (Sum.inl ())))
def gK(a1 a2 a3 a4 b1 b2 b3 b4:Int):Option (Bool) :=
 ((iter (fB a1 a2 a3 a4 b1 b2 b3 b4) (0:Int)).bind fun(r2:((Unit)⊕(Bool)))=>match r2 with
 | .inl _=>some false
 | .inr (r1)=>some r1)
theorem xE{a1:Int}{a2:Int}{a3:Int}{a4:Int}{b1:Int}{b2:Int}{b3:Int}{b4:Int}{res:Bool}(h:gK a1 a2 a3 a4 b1 b2 b3 b4=some res):
  Pure Tryd.prog 59 [.agg [.u64 a1,.u64 a2,.u64 a3,.u64 a4],.agg [.u64 b1,.u64 b2,.u64 b3,.u64 b4]] (bX (fL false [⟨.bool,res⟩])):=by
 refine Pure.of_body bK Tryd.func59 (by kernel_rfl) rfl (nl rfl) (fun Bw w0=> ?_) rfl
 unfold gK at h
 refine G (aC (G (aF (oH h (fun v2=>aN [(2,.adr 0 0 4 0),(3,.adr 1 0 4 0),(6,.i64 v2)] (aDo a1 a2 a3 a4 b1 b2 b3 b4) 2) (fS (gW Tryd.f59.ntmps 0 (fun _=>aN [] [] 0)) (nE tb Tryd.f59.results.toList (fun r1=>[⟨.bool,r1⟩]))) (gg [] [0,8]) (fun v2 o h=> ?_) (fun r2 h e σ' hq=> ?_)))))
 ·unfold fB at h
  refine G (aC (aS h (fun hb5 h=> ?_) (fun hb5 h=> ?_)))
  ·refine aB (aA (aC (aF (G ?_))))
   obtain⟨c11,c12,h⟩:=g2 h
   refine GD a0 [(1,1,oc c11),(4,4,oc c12)] (aS h (fun hb6 h=> ?_) (fun hb6 h=> ?_))
   ·refine G (aV ?_)
    obtain rfl:=sI h
    refine aT (aG (d9 (aR ?_)))
    exact gH (aK [.bool] (by kernel_rfl))
   refine aB (aM (aA (Ge ?_)))
   exact eB h (gg [] [0,1])
  refine aH (bM ?_)
  obtain rfl:=sI h
  refine gE (b5 ?_)
  exact dB (gg [] [])
 rcases r2 with _ | r1
 ·obtain⟨rfl,hle⟩:=hq
  refine fG ?_ hle
  refine aJ (aA (G (aV ?_)))
  obtain rfl:=sI h
  exact aK [.bool] (by kernel_rfl)
 obtain⟨rfl,hr⟩:=hq
 refine aT (aG ?_)
 obtain rfl:=sI h
 exact hr
def dP(i1 s1 s2 s3 s4:Int):Option (Int×Int×Int×Int) :=
 (if ¬(64:Int)=0 then(if 0≤(IntKind.i64.wrap (Int.tdiv i1 (64:Int)))∧(IntKind.i64.wrap (Int.tdiv i1 (64:Int)))<((4:Nat):Int)then(if ¬(64:Int)=0 then(if 0≤(Int.tmod i1 (64:Int))then(if 0≤(IntKind.i64.wrap (Int.tdiv i1 (64:Int)))∧(IntKind.i64.wrap (Int.tdiv i1 (64:Int)))<((4:Nat):Int)then some ((if(IntKind.i64.wrap (Int.tdiv i1 (64:Int))).toNat=0 then(aI .or .u64 (([s1,s2,s3,s4]:List Int).getD ((IntKind.i64.wrap (Int.tdiv i1 (64:Int))).toNat) 0) (IntKind.u64.wrap ((1:Int)*2 ^ (min (Int.tmod i1 (64:Int)).toNat IntKind.u64.bits))))else s1),(if(IntKind.i64.wrap (Int.tdiv i1 (64:Int))).toNat=1 then(aI .or .u64 (([s1,s2,s3,s4]:List Int).getD ((IntKind.i64.wrap (Int.tdiv i1 (64:Int))).toNat) 0) (IntKind.u64.wrap ((1:Int)*2 ^ (min (Int.tmod i1 (64:Int)).toNat IntKind.u64.bits))))else s2),(if(IntKind.i64.wrap (Int.tdiv i1 (64:Int))).toNat=2 then(aI .or .u64 (([s1,s2,s3,s4]:List Int).getD ((IntKind.i64.wrap (Int.tdiv i1 (64:Int))).toNat) 0) (IntKind.u64.wrap ((1:Int)*2 ^ (min (Int.tmod i1 (64:Int)).toNat IntKind.u64.bits))))else s3),(if(IntKind.i64.wrap (Int.tdiv i1 (64:Int))).toNat=3 then(aI .or .u64 (([s1,s2,s3,s4]:List Int).getD ((IntKind.i64.wrap (Int.tdiv i1 (64:Int))).toNat) 0) (IntKind.u64.wrap ((1:Int)*2 ^ (min (Int.tmod i1 (64:Int)).toNat IntKind.u64.bits))))else s4))else none)else none)else none)else none)else none)
theorem pJ{i1:Int}{s1:Int}{s2:Int}{s3:Int}{s4:Int}{res:Int×Int×Int×Int}(h:dP i1 s1 s2 s3 s4=some res):
  Owns Tryd.prog 60 [.adr 0 0 4 0,.i64 i1] [(0,.box [.u64 s1,.u64 s2,.u64 s3,.u64 s4])] (.tup []) [(0,.box [.u64 res.1,.u64 res.2.1,.u64 res.2.2.1,.u64 res.2.2.2])]:=by
 refine Owns.of_body bK Tryd.func60 (by kernel_rfl) rfl (nl rfl) (fun Bw w0=> ?_)
 unfold dP at h
 obtain⟨c16,c17,c18,c19,h⟩:=g4 h
 obtain⟨c20,h⟩:=bB h
 refine xB a0 [(2,2,oc c16),(4,4,oc c17),(7,7,oc c18),(8,8,oc c19),(11,11,oc c20)] ?_
 obtain rfl:=sI h
 exact(aO [] [] [0] [] [(0,.box [.u64 (if(IntKind.i64.wrap (Int.tdiv i1 (64:Int))).toNat=0 then(aI .or .u64 (([s1,s2,s3,s4]:List Int).getD ((IntKind.i64.wrap (Int.tdiv i1 (64:Int))).toNat) 0) (IntKind.u64.wrap ((1:Int)*2 ^ (min (Int.tmod i1 (64:Int)).toNat IntKind.u64.bits))))else s1),.u64 (if(IntKind.i64.wrap (Int.tdiv i1 (64:Int))).toNat=1 then(aI .or .u64 (([s1,s2,s3,s4]:List Int).getD ((IntKind.i64.wrap (Int.tdiv i1 (64:Int))).toNat) 0) (IntKind.u64.wrap ((1:Int)*2 ^ (min (Int.tmod i1 (64:Int)).toNat IntKind.u64.bits))))else s2),.u64 (if(IntKind.i64.wrap (Int.tdiv i1 (64:Int))).toNat=2 then(aI .or .u64 (([s1,s2,s3,s4]:List Int).getD ((IntKind.i64.wrap (Int.tdiv i1 (64:Int))).toNat) 0) (IntKind.u64.wrap ((1:Int)*2 ^ (min (Int.tmod i1 (64:Int)).toNat IntKind.u64.bits))))else s3),.u64 (if(IntKind.i64.wrap (Int.tdiv i1 (64:Int))).toNat=3 then(aI .or .u64 (([s1,s2,s3,s4]:List Int).getD ((IntKind.i64.wrap (Int.tdiv i1 (64:Int))).toNat) 0) (IntKind.u64.wrap ((1:Int)*2 ^ (min (Int.tmod i1 (64:Int)).toNat IntKind.u64.bits))))else s4)])] 1 1 (by kernel_rfl) (by kernel_rfl) (by kernel_rfl)).normal
end
end Go.Proofs.YtacpjjgochokcaaDoor.T
