/- Functions of the program as functions on data, and that the program's own come to them. -/
import Derived.Test.YtmcemnfjddoejaaGreatDoorTvT23a0
import Derived.Test.YtmcemnfjddoejaaGreatDoorTvT23aa
import Derived.Test.YtmcemnfjddoejaaGreatDoorTvT23aa1
import Derived.Test.YtmcemnfjddoejaaGreatDoorTvVm
namespace Go.Proofs.YtmcemnfjddoejaaGreatDoor.T
open Go Go.Tv Go.Proofs
noncomputable section
set_option maxRecDepth 100000
set_option maxHeartbeats 4000000
def bD(f:List Int)(c:List Z3):((List Z3)×(List Z3)×(List Int)×Int)→Option (((List Z3)×(List Z3)×(List Int)×Int)⊕((List Z3)×(List Z3)×List Int)):=fun(k,j,v10,v11) =>
 (if(decide (v11<(c.length:Int)))=true then(if 0≤v11∧v11<(c.length:Int)then(if ¬(2:Int)=0 then(((if(decide (v11<(f.length:Int)))=true then(if 0≤v11∧v11<(f.length:Int)then(if 0≤v11∧v11<(f.length:Int)then(if(j.length+([(2,(0,0,([]:List Int)),(0,0,0,0,0,(cE 0)),(f.getD v11.toNat 0),false,0,0),(3,(0,0,([]:List Int)),(0,0,0,0,0,(cE 0)),0,false,0,(f.getD v11.toNat 0))]:List Z3).length)*128≤140737488355328∧j.length+([(2,(0,0,([]:List Int)),(0,0,0,0,0,(cE 0)),(f.getD v11.toNat 0),false,0,0),(3,(0,0,([]:List Int)),(0,0,0,0,0,(cE 0)),0,false,0,(f.getD v11.toNat 0))]:List Z3).length≤9223372036854775807 then some ((j++([(2,(0,0,([]:List Int)),(0,0,0,0,0,(cE 0)),(f.getD v11.toNat 0),false,0,0),(3,(0,0,([]:List Int)),(0,0,0,0,0,(cE 0)),0,false,0,(f.getD v11.toNat 0))]:List Z3)))else none)else none)else none)
 else some (j))).bind fun e=>(if(v10.length+([(e.length:Int)]:List Int).length)*8≤140737488355328∧v10.length+([(e.length:Int)]:List Int).length≤9223372036854775807 then(if(k.length+([((Int.tmod ((c.getD v11.toNat (0,(0,0,[]),(0,0,0,0,0,(some 0)),0,false,0,0)).1) (2:Int)),((c.getD v11.toNat (0,(0,0,[]),(0,0,0,0,0,(some 0)),0,false,0,0)).2.1.1,(c.getD v11.toNat (0,(0,0,[]),(0,0,0,0,0,(some 0)),0,false,0,0)).2.1.2.1,(c.getD v11.toNat (0,(0,0,[]),(0,0,0,0,0,(some 0)),0,false,0,0)).2.1.2.2),((c.getD v11.toNat (0,(0,0,[]),(0,0,0,0,0,(some 0)),0,false,0,0)).2.2.1.1,(c.getD v11.toNat (0,(0,0,[]),(0,0,0,0,0,(some 0)),0,false,0,0)).2.2.1.2.1,(c.getD v11.toNat (0,(0,0,[]),(0,0,0,0,0,(some 0)),0,false,0,0)).2.2.1.2.2.1,(c.getD v11.toNat (0,(0,0,[]),(0,0,0,0,0,(some 0)),0,false,0,0)).2.2.1.2.2.2.1,(c.getD v11.toNat (0,(0,0,[]),(0,0,0,0,0,(some 0)),0,false,0,0)).2.2.1.2.2.2.2.1,(c.getD v11.toNat (0,(0,0,[]),(0,0,0,0,0,(some 0)),0,false,0,0)).2.2.1.2.2.2.2.2),(c.getD v11.toNat (0,(0,0,[]),(0,0,0,0,0,(some 0)),0,false,0,0)).2.2.2.1,(c.getD v11.toNat (0,(0,0,[]),(0,0,0,0,0,(some 0)),0,false,0,0)).2.2.2.2.1,(c.getD v11.toNat (0,(0,0,[]),(0,0,0,0,0,(some 0)),0,false,0,0)).2.2.2.2.2.1,(c.getD v11.toNat (0,(0,0,[]),(0,0,0,0,0,(some 0)),0,false,0,0)).2.2.2.2.2.2)]:List Z3).length)*128≤140737488355328∧k.length+([((Int.tmod ((c.getD v11.toNat (0,(0,0,[]),(0,0,0,0,0,(some 0)),0,false,0,0)).1) (2:Int)),((c.getD v11.toNat (0,(0,0,[]),(0,0,0,0,0,(some 0)),0,false,0,0)).2.1.1,(c.getD v11.toNat (0,(0,0,[]),(0,0,0,0,0,(some 0)),0,false,0,0)).2.1.2.1,(c.getD v11.toNat (0,(0,0,[]),(0,0,0,0,0,(some 0)),0,false,0,0)).2.1.2.2),((c.getD v11.toNat (0,(0,0,[]),(0,0,0,0,0,(some 0)),0,false,0,0)).2.2.1.1,(c.getD v11.toNat (0,(0,0,[]),(0,0,0,0,0,(some 0)),0,false,0,0)).2.2.1.2.1,(c.getD v11.toNat (0,(0,0,[]),(0,0,0,0,0,(some 0)),0,false,0,0)).2.2.1.2.2.1,(c.getD v11.toNat (0,(0,0,[]),(0,0,0,0,0,(some 0)),0,false,0,0)).2.2.1.2.2.2.1,(c.getD v11.toNat (0,(0,0,[]),(0,0,0,0,0,(some 0)),0,false,0,0)).2.2.1.2.2.2.2.1,(c.getD v11.toNat (0,(0,0,[]),(0,0,0,0,0,(some 0)),0,false,0,0)).2.2.1.2.2.2.2.2),(c.getD v11.toNat (0,(0,0,[]),(0,0,0,0,0,(some 0)),0,false,0,0)).2.2.2.1,(c.getD v11.toNat (0,(0,0,[]),(0,0,0,0,0,(some 0)),0,false,0,0)).2.2.2.2.1,(c.getD v11.toNat (0,(0,0,[]),(0,0,0,0,0,(some 0)),0,false,0,0)).2.2.2.2.2.1,(c.getD v11.toNat (0,(0,0,[]),(0,0,0,0,0,(some 0)),0,false,0,0)).2.2.2.2.2.2)]:List Z3).length≤9223372036854775807 then(if(e.length+([((Int.tmod ((c.getD v11.toNat (0,(0,0,[]),(0,0,0,0,0,(some 0)),0,false,0,0)).1) (2:Int)),((c.getD v11.toNat (0,(0,0,[]),(0,0,0,0,0,(some 0)),0,false,0,0)).2.1.1,(c.getD v11.toNat (0,(0,0,[]),(0,0,0,0,0,(some 0)),0,false,0,0)).2.1.2.1,(c.getD v11.toNat (0,(0,0,[]),(0,0,0,0,0,(some 0)),0,false,0,0)).2.1.2.2),((c.getD v11.toNat (0,(0,0,[]),(0,0,0,0,0,(some 0)),0,false,0,0)).2.2.1.1,(c.getD v11.toNat (0,(0,0,[]),(0,0,0,0,0,(some 0)),0,false,0,0)).2.2.1.2.1,(c.getD v11.toNat (0,(0,0,[]),(0,0,0,0,0,(some 0)),0,false,0,0)).2.2.1.2.2.1,(c.getD v11.toNat (0,(0,0,[]),(0,0,0,0,0,(some 0)),0,false,0,0)).2.2.1.2.2.2.1,(c.getD v11.toNat (0,(0,0,[]),(0,0,0,0,0,(some 0)),0,false,0,0)).2.2.1.2.2.2.2.1,(c.getD v11.toNat (0,(0,0,[]),(0,0,0,0,0,(some 0)),0,false,0,0)).2.2.1.2.2.2.2.2),(c.getD v11.toNat (0,(0,0,[]),(0,0,0,0,0,(some 0)),0,false,0,0)).2.2.2.1,(c.getD v11.toNat (0,(0,0,[]),(0,0,0,0,0,(some 0)),0,false,0,0)).2.2.2.2.1,(c.getD v11.toNat (0,(0,0,[]),(0,0,0,0,0,(some 0)),0,false,0,0)).2.2.2.2.2.1,(c.getD v11.toNat (0,(0,0,[]),(0,0,0,0,0,(some 0)),0,false,0,0)).2.2.2.2.2.2)]:List Z3).length)*128≤140737488355328∧e.length+([((Int.tmod ((c.getD v11.toNat (0,(0,0,[]),(0,0,0,0,0,(some 0)),0,false,0,0)).1) (2:Int)),((c.getD v11.toNat (0,(0,0,[]),(0,0,0,0,0,(some 0)),0,false,0,0)).2.1.1,(c.getD v11.toNat (0,(0,0,[]),(0,0,0,0,0,(some 0)),0,false,0,0)).2.1.2.1,(c.getD v11.toNat (0,(0,0,[]),(0,0,0,0,0,(some 0)),0,false,0,0)).2.1.2.2),((c.getD v11.toNat (0,(0,0,[]),(0,0,0,0,0,(some 0)),0,false,0,0)).2.2.1.1,(c.getD v11.toNat (0,(0,0,[]),(0,0,0,0,0,(some 0)),0,false,0,0)).2.2.1.2.1,(c.getD v11.toNat (0,(0,0,[]),(0,0,0,0,0,(some 0)),0,false,0,0)).2.2.1.2.2.1,(c.getD v11.toNat (0,(0,0,[]),(0,0,0,0,0,(some 0)),0,false,0,0)).2.2.1.2.2.2.1,(c.getD v11.toNat (0,(0,0,[]),(0,0,0,0,0,(some 0)),0,false,0,0)).2.2.1.2.2.2.2.1,(c.getD v11.toNat (0,(0,0,[]),(0,0,0,0,0,(some 0)),0,false,0,0)).2.2.1.2.2.2.2.2),(c.getD v11.toNat (0,(0,0,[]),(0,0,0,0,0,(some 0)),0,false,0,0)).2.2.2.1,(c.getD v11.toNat (0,(0,0,[]),(0,0,0,0,0,(some 0)),0,false,0,0)).2.2.2.2.1,(c.getD v11.toNat (0,(0,0,[]),(0,0,0,0,0,(some 0)),0,false,0,0)).2.2.2.2.2.1,(c.getD v11.toNat (0,(0,0,[]),(0,0,0,0,0,(some 0)),0,false,0,0)).2.2.2.2.2.2)]:List Z3).length≤9223372036854775807 then some (Sum.inl ((k++([((Int.tmod ((c.getD v11.toNat (0,(0,0,[]),(0,0,0,0,0,(some 0)),0,false,0,0)).1) (2:Int)),((c.getD v11.toNat (0,(0,0,[]),(0,0,0,0,0,(some 0)),0,false,0,0)).2.1.1,(c.getD v11.toNat (0,(0,0,[]),(0,0,0,0,0,(some 0)),0,false,0,0)).2.1.2.1,(c.getD v11.toNat (0,(0,0,[]),(0,0,0,0,0,(some 0)),0,false,0,0)).2.1.2.2),((c.getD v11.toNat (0,(0,0,[]),(0,0,0,0,0,(some 0)),0,false,0,0)).2.2.1.1,(c.getD v11.toNat (0,(0,0,[]),(0,0,0,0,0,(some 0)),0,false,0,0)).2.2.1.2.1,(c.getD v11.toNat (0,(0,0,[]),(0,0,0,0,0,(some 0)),0,false,0,0)).2.2.1.2.2.1,(c.getD v11.toNat (0,(0,0,[]),(0,0,0,0,0,(some 0)),0,false,0,0)).2.2.1.2.2.2.1,(c.getD v11.toNat (0,(0,0,[]),(0,0,0,0,0,(some 0)),0,false,0,0)).2.2.1.2.2.2.2.1,(c.getD v11.toNat (0,(0,0,[]),(0,0,0,0,0,(some 0)),0,false,0,0)).2.2.1.2.2.2.2.2),(c.getD v11.toNat (0,(0,0,[]),(0,0,0,0,0,(some 0)),0,false,0,0)).2.2.2.1,(c.getD v11.toNat (0,(0,0,[]),(0,0,0,0,0,(some 0)),0,false,0,0)).2.2.2.2.1,(c.getD v11.toNat (0,(0,0,[]),(0,0,0,0,0,(some 0)),0,false,0,0)).2.2.2.2.2.1,(c.getD v11.toNat (0,(0,0,[]),(0,0,0,0,0,(some 0)),0,false,0,0)).2.2.2.2.2.2)]:List Z3)),(e++([((Int.tmod ((c.getD v11.toNat (0,(0,0,[]),(0,0,0,0,0,(some 0)),0,false,0,0)).1) (2:Int)),((c.getD v11.toNat (0,(0,0,[]),(0,0,0,0,0,(some 0)),0,false,0,0)).2.1.1,(c.getD v11.toNat (0,(0,0,[]),(0,0,0,0,0,(some 0)),0,false,0,0)).2.1.2.1,(c.getD v11.toNat (0,(0,0,[]),(0,0,0,0,0,(some 0)),0,false,0,0)).2.1.2.2),((c.getD v11.toNat (0,(0,0,[]),(0,0,0,0,0,(some 0)),0,false,0,0)).2.2.1.1,(c.getD v11.toNat (0,(0,0,[]),(0,0,0,0,0,(some 0)),0,false,0,0)).2.2.1.2.1,(c.getD v11.toNat (0,(0,0,[]),(0,0,0,0,0,(some 0)),0,false,0,0)).2.2.1.2.2.1,(c.getD v11.toNat (0,(0,0,[]),(0,0,0,0,0,(some 0)),0,false,0,0)).2.2.1.2.2.2.1,(c.getD v11.toNat (0,(0,0,[]),(0,0,0,0,0,(some 0)),0,false,0,0)).2.2.1.2.2.2.2.1,(c.getD v11.toNat (0,(0,0,[]),(0,0,0,0,0,(some 0)),0,false,0,0)).2.2.1.2.2.2.2.2),(c.getD v11.toNat (0,(0,0,[]),(0,0,0,0,0,(some 0)),0,false,0,0)).2.2.2.1,(c.getD v11.toNat (0,(0,0,[]),(0,0,0,0,0,(some 0)),0,false,0,0)).2.2.2.2.1,(c.getD v11.toNat (0,(0,0,[]),(0,0,0,0,0,(some 0)),0,false,0,0)).2.2.2.2.2.1,(c.getD v11.toNat (0,(0,0,[]),(0,0,0,0,0,(some 0)),0,false,0,0)).2.2.2.2.2.2)]:List Z3)),(v10++([(e.length:Int)]:List Int)),(IntKind.i64.wrap (v11+1))))else none)else none)else none))else none)else none)
 else some (Sum.inr (k,j,v10)))
def bM(c:List Int)(e:List qb)(f:List qb):(Int)→Option ((Int)⊕((Unit)⊕(Bool))):=fun v20 =>
 (if(decide (v20<(c.length:Int)))=true then(if 0≤v20∧v20<(c.length:Int)then(if v20.toNat<c.length then(((if 0≤v20∧v20<(e.length:Int)then(if 0≤(c.getD v20.toNat 0)∧(c.getD v20.toNat 0)<(f.length:Int)then(if(((e.getD v20.toNat (0,(0,0),0,([]:List Z2),false)).1) != ((f.getD ((c.getD v20.toNat 0).toNat) (0,(0,0),0,([]:List Z2),false)).1))=true then some (true)
 else(if 0≤v20∧v20<(e.length:Int)then(if 0≤(c.getD v20.toNat 0)∧(c.getD v20.toNat 0)<(f.length:Int)then((cg ((e.getD v20.toNat (0,(0,0),0,([]:List Z2),false)).2.2.2.1) ((e.getD v20.toNat (0,(0,0),0,([]:List Z2),false)).2.2.2.2) ((f.getD ((c.getD v20.toNat 0).toNat) (0,(0,0),0,([]:List Z2),false)).2.2.2.1) ((f.getD ((c.getD v20.toNat 0).toNat) (0,(0,0),0,([]:List Z2),false)).2.2.2.2)).bind fun j =>
 some ((!j)))else none)else none))else none)else none)).bind fun k=>(if k=true then some (Sum.inr (Sum.inr false))
 else some (Sum.inl (IntKind.i64.wrap (v20+1)))))else none)else none)
 else some (Sum.inr (Sum.inl ())))
def dw(I J M N O:Int)(R:Option Nat)(D:List Int)(E:List Z3)(V:List Int):Option (Bool) :=
 ((dW).bind fun X =>
 (if(!X)=true then some false
 else(((if(decide ((D.length:Int) > 60))=true then some (true)
 else some ((decide ((E.length:Int) > 20))))).bind fun v1=>(if v1=true then some true
 else((dI D).bind fun u =>
 ((dA I J M N O R).bind fun f =>
 ((ee E false (u.length:Int)).bind fun Y =>
 ((iter (bD V Y) (([]:List Z3),([]:List Z3),([]:List Int),0)).bind fun(j,k,v)=>((dG).bind fun c =>
 ((g6 c.1 c.2.1 c.2.2.1 c.2.2.2.1 c.2.2.2.2.1 c.2.2.2.2.2.1 c.2.2.2.2.2.2.1 c.2.2.2.2.2.2.2.1 c.2.2.2.2.2.2.2.2 f.1 f.2.1 f.2.2.1 f.2.2.2.1 f.2.2.2.2.1 f.2.2.2.2.2 u j).bind fun(p,x) =>
 ((dG).bind fun e =>
 ((g6 e.1 e.2.1 e.2.2.1 e.2.2.2.1 e.2.2.2.2.1 e.2.2.2.2.2.1 e.2.2.2.2.2.2.1 e.2.2.2.2.2.2.2.1 e.2.2.2.2.2.2.2.2 f.1 f.2.1 f.2.2.1 f.2.2.2.1 f.2.2.2.2.1 f.2.2.2.2.2 u k).bind fun(q,z) =>
 (((if(x.1 != 0)=true then some (true)
 else(if(z.1 != 0)=true then some (true)
 else(if((p.length:Int) != (j.length:Int))=true then some (true)
 else some (((q.length:Int) != (k.length:Int))))))).bind fun A=>(if A=true then some false
 else((iter (bM v p q) (0:Int)).bind fun(B:((Unit)⊕(Bool)))=>match B with
 | .inl _=>some true
 | .inr (C)=>some C)))))))))))))))
theorem mV(C D x:Bool){d1 d2:Int}{d3 d4 d5:Int}{d6:Option Nat}{i1:List Int}{x1:List Z3}{N:List Int}{O:Bool}(h:dw d1 d2 d3 d4 d5 d6 i1 x1 N=some O):
  Pure Tryz.prog 6 [.agg [.u8 d1,.u8 d2,.u8 d3,.p false (.int .u16) d4,.p false (.int .u16) d5,.p false .flt d6],.p C (.slice (.int .u8)) i1,.p D (.slice (.prod (.int .i64) vK)) x1,.p x (.slice (.int .i64)) N] (aG (aV false [⟨.bool,O⟩])):=by
 refine PB Tryz.func6 (fun Bw w0=> ?_);unfold dw at h;refine G (af ?_);obtain⟨r2,q2,h⟩:=aj h;refine GP 0 (oY q2) (aA h (fun B1 h=> ?_) (fun B1 h=> ?_))
 ·refine G (ao (ah ?_));obtain rfl:=sI h;exact RI [.bool]
 refine ae (ab (af (af (bd h (fun v1=>ay [(1,.p C (.slice (.int .u8)) i1),(2,.p D (.slice (.prod (.int .i64) vK)) x1),(3,.p x (.slice (.int .i64)) N),(4,.adr 0 0 6 0),(31,.bo v1)] (Lv d1 d2 d3 d4 d5 d6) 1) (fun v1 h=> ?_) (fun v1 h=> ?_)))))
 ·rcases aF h with⟨B4,h⟩ | ⟨B4,h⟩
  ·exact bq ⟨[(3,true),(7,true)],[]⟩ [(4,7,oc B4)] (eN h (gg [] [0]))
  exact bq ⟨[(3,false),(7,false)],[]⟩ [(4,6,an B4),(7,7,oc B4)] (eN h (gg [] [0]))
 refine ab (aA h (fun B5 h=> ?_) (fun B5 h=> ?_))
 ·refine G (ao (ah ?_));obtain rfl:=sI h;exact RI [.bool]
 refine ae (ab ?_);obtain⟨r5,q5,h⟩:=aj h;obtain⟨j,q6,h⟩:=aj h;have c:=(oH C q5);have m:=(nM q6);refine GD ⟨[],[(1,(oP c)),(3,(oP m))]⟩ [(1,1,oc c),(3,3,oc m)] (G (G (af ?_)));obtain⟨k,q8,h⟩:=aj h;refine GP 3 (pR D q8) (ak (cf h (fun(v8,v9,v10,v11)=>ay [(3,.p x (.slice (.int .i64)) N),(9,.p false (.slice (.int .u8)) r5),(10,.adr 0 0 6 0),(11,.sl 1),(12,.sl 2),(13,.sl 3),(39,.p false (.slice (.prod (.int .i64) vK)) k),(40,.i64 (k.length:Int)),(41,.i64 v11)] (JG j.1 j.2.1 j.2.2.1 j.2.2.2.1 j.2.2.2.2.1 j.2.2.2.2.2 v8 v9 v10) 4) 0 (fun(R,V,u)=>ay [(9,.p false (.slice (.int .u8)) r5),(10,.adr 0 0 6 0),(11,.sl 1),(12,.sl 2),(13,.sl 3)] (JG j.1 j.2.1 j.2.2.1 j.2.2.2.1 j.2.2.2.2.1 j.2.2.2.2.2 R V u) 4) (gg [.nilS 11 129 61 (.prod (.int .i64) vK),.nilS 12 130 61 (.prod (.int .i64) vK),.nilS 13 131 3 (.int .i64)] [33,129,130,131]) (fun y o h=> ?_) (fun r9 h=> ?_)))
 ·obtain⟨v8,v9,v10,v11⟩:=y;unfold bD at h;refine G (af (aA h (fun a3 h=> ?_) (fun a3 h=> ?_)))
  ·refine ae (ab (af (ak (GC 1 h (fun h=>GC 2 h (fun h=>af (G ?_)))))));refine bd h (fun E=>ay [(3,.p x (.slice (.int .i64)) N),(9,.p false (.slice (.int .u8)) r5),(10,.adr 0 0 6 0),(11,.sl 1),(12,.sl 2),(13,.sl 3),(15,.adr 4 0 14 0),(39,.p false (.slice (.prod (.int .i64) vK)) k),(40,.i64 (k.length:Int)),(41,.i64 v11)] (K4 j.1 j.2.1 j.2.2.1 j.2.2.2.1 j.2.2.2.2.1 j.2.2.2.2.2 v8 E v10 (Int.tmod ((k.getD v11.toNat (0,(0,0,[]),(0,0,0,0,0,(some 0)),0,false,0,0)).1) (2:Int)) ((k.getD v11.toNat (0,(0,0,[]),(0,0,0,0,0,(some 0)),0,false,0,0)).2.1.1) ((k.getD v11.toNat (0,(0,0,[]),(0,0,0,0,0,(some 0)),0,false,0,0)).2.1.2.1) ((k.getD v11.toNat (0,(0,0,[]),(0,0,0,0,0,(some 0)),0,false,0,0)).2.1.2.2) ((k.getD v11.toNat (0,(0,0,[]),(0,0,0,0,0,(some 0)),0,false,0,0)).2.2.1.1) ((k.getD v11.toNat (0,(0,0,[]),(0,0,0,0,0,(some 0)),0,false,0,0)).2.2.1.2.1) ((k.getD v11.toNat (0,(0,0,[]),(0,0,0,0,0,(some 0)),0,false,0,0)).2.2.1.2.2.1) ((k.getD v11.toNat (0,(0,0,[]),(0,0,0,0,0,(some 0)),0,false,0,0)).2.2.1.2.2.2.1) ((k.getD v11.toNat (0,(0,0,[]),(0,0,0,0,0,(some 0)),0,false,0,0)).2.2.1.2.2.2.2.1) ((k.getD v11.toNat (0,(0,0,[]),(0,0,0,0,0,(some 0)),0,false,0,0)).2.2.1.2.2.2.2.2) ((k.getD v11.toNat (0,(0,0,[]),(0,0,0,0,0,(some 0)),0,false,0,0)).2.2.2.1) ((k.getD v11.toNat (0,(0,0,[]),(0,0,0,0,0,(some 0)),0,false,0,0)).2.2.2.2.1) ((k.getD v11.toNat (0,(0,0,[]),(0,0,0,0,0,(some 0)),0,false,0,0)).2.2.2.2.2.1) ((k.getD v11.toNat (0,(0,0,[]),(0,0,0,0,0,(some 0)),0,false,0,0)).2.2.2.2.2.2)) 5) (fun E h=> ?_) (fun E h=> ?_)
   ·refine aA h (fun a4 h=> ?_) (fun a4 h=> ?_)
    ·obtain⟨a5,a6,a7,h⟩:=g3 h;exact jF a0 [(3,3,oc a5),(8,8,oc a6),(13,13,oc a7)] (eN h (gg [] [0,1,236,3,36]))
    exact ae (eN h (gg [] [0,1,2,3,36]))
   refine ab (GC 4 h (fun h=> ?_));obtain⟨a8,a9,h⟩:=g2 h;refine jF a0 [(3,3,oc a8),(7,7,oc a9)] (au (ab (Ge ?_)));exact eB h (gg [] [0,77,109,37])
  refine aq (aL ?_);exact eX h (gg [] [0,1,2,3])
 obtain⟨R,V,u⟩:=r9;refine av (ab ?_);obtain⟨be,aa,h⟩:=aj h;obtain⟨⟨I,bi⟩,ac,h⟩:=aj h;have c:=(gR aa);have m:=(oX false false false false false true ac);refine GD ⟨[],[(0,(oP c)),(4,(oP m))]⟩ [(0,0,oc c),(4,4,oc m)] ?_;obtain⟨bs,ad,h⟩:=aj h;obtain⟨⟨J,bt⟩,ax,h⟩:=aj h;have c:=(gR ad);have m:=(oX false false false false false true ax);refine GD ⟨[],[(0,(oP c)),(4,(oP m))]⟩ [(0,0,oc c),(4,4,oc m)] (af (af (bd h (fun L=>ay [(13,.sl 0),(16,.p false (.slice (.prod (.int .i64) yc)) I),(18,.p false (.slice (.prod (.int .i64) yc)) J),(119,.bo L)] [(0,.arr 3 (.int .i64) u)] 1) (fun L h=> ?_) (fun L h=> ?_))))
 ·rcases aF h with⟨q,h⟩ | ⟨q,h⟩
  ·exact bq ⟨[(3,true),(7,true)],[]⟩ [(4,7,oc q)] (eN h (gg [] [3]))
  rcases aF h with⟨v,h⟩ | ⟨v,h⟩
  ·exact bq ⟨[(3,false),(7,false),(8,true),(14,true)],[]⟩ [(4,6,an q),(7,7,oc q),(9,14,oc v)] (eN h (gg [] [3]))
  rcases aF h with⟨z,h⟩ | ⟨z,h⟩
  ·exact bq ⟨[(3,false),(7,false),(8,false),(14,false),(15,true),(21,true)],[]⟩ [(4,6,an q),(7,7,oc q),(9,13,an v),(14,14,oc v),(16,21,oc z)] (eN h (gg [] [3]))
  exact bq ⟨[(3,false),(7,false),(8,false),(14,false),(15,false),(21,false)],[]⟩ [(4,6,an q),(7,7,oc q),(9,13,an v),(14,14,oc v),(16,20,an z),(21,21,oc z)] (eN h (gg [] [3]))
 refine ab (aA h (fun b1 h=> ?_) (fun b1 h=> ?_))
 ·refine G (ao (ah ?_));obtain rfl:=sI h;exact RI [.bool]
 refine ae (ab (af (G (ak (ji h (fun v20=>ay [(16,.p false (.slice (.prod (.int .i64) yc)) I),(18,.p false (.slice (.prod (.int .i64) yc)) J),(120,.sl 0),(121,.i64 (u.length:Int)),(122,.i64 v20)] [(0,.arr 3 (.int .i64) u)] 1) (cO (dO Tryz.f6.ntmps 2 (fun _=>ay [] [] 0)) (eS tb Tryz.f6.results.toList (fun X=>[⟨.bool,X⟩]))) (gg [] [0]) (fun v20 o h=> ?_) (fun b2 h e σ' hq=> ?_))))))
 ·unfold bM at h;refine G (af (aA h (fun b3 h=> ?_) (fun b3 h=> ?_)))
  ·refine ae (ab (af (ak ?_)));obtain⟨Y,Z,h⟩:=g2 h;refine GN a0 [(1,1,oc Y),(2,2,oc Z)] (af (bd h (fun M=>ay [(16,.p false (.slice (.prod (.int .i64) yc)) I),(18,.p false (.slice (.prod (.int .i64) yc)) J),(120,.sl 0),(121,.i64 (u.length:Int)),(122,.i64 v20),(151,.bo M)] [(0,.arr 3 (.int .i64) u)] 1) (fun M h=> ?_) (fun M h=> ?_)))
   ·obtain⟨A,B,h⟩:=g2 h;rcases aF h with⟨f,h⟩ | ⟨f,h⟩
    ·exact jF ⟨[(11,true),(24,true)],[]⟩ [(2,2,oc A),(7,7,oc B),(12,24,oc f)] (eN h (gg [] [0]))
    obtain⟨a1,a2,h⟩:=g2 h;obtain⟨bv,b4,h⟩:=aj h;have c:=(la false false b4);exact jF ⟨[(11,false),(24,false)],[(22,(oP c))]⟩ [(2,2,oc A),(7,7,oc B),(12,13,an f),(14,14,oc (And.intro f a1)),(15,18,an f),(19,19,oc (And.intro f a2)),(20,21,an f),(22,22,oc (And.intro f c)),(23,23,an f),(24,24,oc f)] (eN h (gg [] [0]))
   refine ab (aA h (fun b5 h=> ?_) (fun b5 h=> ?_))
   ·refine G (ao ?_);obtain rfl:=sI h;refine az (ah (br (aK ?_)));exact bA (RI [.bool])
   refine ae (au (ab (Ge ?_)));exact eB h (gg [] [0])
  refine aq (aL ?_);obtain rfl:=sI h;refine cU (aX ?_);exact bC (gg [] [])
 rcases b2 with _ | X
 ·obtain⟨rfl,b6⟩:=hq;refine bZ ?_ b6;refine av (ab (G (ao ?_)));obtain rfl:=sI h;exact RI [.bool]
 obtain⟨rfl,hr⟩:=hq;refine az (ah ?_);obtain rfl:=sI h;exact hr
end
end Go.Proofs.YtmcemnfjddoejaaGreatDoor.T
namespace Go.Proofs.YtmcemnfjddoejaaGreatDoor.T
open Go Go.Tv Go.Proofs
noncomputable section
theorem J5{L:List jB}(C:L.length≤20)(at_:List Int):iter (bD at_ L) (([]:List jB),([]:List jB),([]:List Int),((0:Nat):Int))=some (z5 L L.length,lN L at_ L.length,AH L at_ L.length):=by
 refine dL (fun k=>(z5 L k,lN L at_ k,AH L at_ k,((k:Nat):Int))) L.length (fun k D=> ?_) ?_
 ·have f:(k:Int)<(L.length:Int):=by omega
  have g2:0≤(k:Int):=by omega
  have w:=bj (i:=k) (by omega);have j:¬(2:Int)=0:=by decide
  have E:=kD L k;have I:=tx L at_ k;have hi:=rO L at_ k;have J:=C8 at_ k;have p:∀a:jB,((z5 L k).length+([a]:List jB).length)*128≤140737488355328∧(z5 L k).length+([a]:List jB).length≤9223372036854775807:=fun a=>by simp only[List.length_singleton];omega
  have u:∀a b:jB,((lN L at_ k).length+([a,b]:List jB).length)*128≤140737488355328∧(lN L at_ k).length+([a,b]:List jB).length≤9223372036854775807:=fun a b=>by simp only[List.length_cons,List.length_nil];omega
  have q:∀v:Int,((AH L at_ k).length+([v]:List Int).length)*8≤140737488355328∧(AH L at_ k).length+([v]:List Int).length≤9223372036854775807:=fun v=>by simp only[List.length_singleton];omega
  have e:∀a:jB,((lN L at_ k++qF at_ k).length+([a]:List jB).length)*128≤140737488355328∧(lN L at_ k++qF at_ k).length+([a]:List jB).length≤9223372036854775807:=fun a=>by simp only[List.length_append,List.length_singleton];omega
  by_cases h:k<at_.length
  ·have g3:(k:Int)<(at_.length:Int):=by omega
   have c:lN L at_ k++[Ij (at_.getD k 0),Ii (at_.getD k 0)]=lN L at_ k++qF at_ k:=by unfold qF;rw[if_pos h]
   unfold Ij Ii at c;simp only[bD,f,g2,g3,and_self,decide_true,if_true,j,not_false_eq_true,Int.toNat_natCast,u,c,Option.bind_some,p,q,e,w];rfl
  ·have g3:¬(k:Int)<(at_.length:Int):=by omega
   have c:lN L at_ k=lN L at_ k++qF at_ k:=by unfold qF;rw[if_neg h,List.append_nil]
   have x:z5 L (k+1)=z5 L k++[half (L.getD k AK)]:=rfl;have z:lN L at_ (k+1)=lN L at_ k++qF at_ k++[half (L.getD k AK)]:=rfl;have A:AH L at_ (k+1)=AH L at_ k++[((lN L at_ k++qF at_ k).length:Int)]:=rfl;rw[x,z,A,←c];rw[←c]at e;simp only[bD,f,g2,g3,and_self,decide_true,decide_false,Bool.false_eq_true,if_true,if_false,j,not_false_eq_true,Int.toNat_natCast,Option.bind_some,p,q,e,w];rfl
 ·have B:¬((L.length:Int)<(L.length:Int)):=Int.lt_irrefl _;simp only[bD,B,decide_false,Bool.false_eq_true,if_false]
theorem Gx{t:List Int}(I:Bytes t)(J:t.length≤4096){c:Wy}(k:cS c.1 c.2.1 c.2.2.1 c.2.2.2.1 c.2.2.2.2.1 c.2.2.2.2.2=some true){L:List jB}(M:L.length≤20)(N:∀s∈L,DW s)(at_:List Int):
  ∃A B:List C3,g6 [] fU iG [] DP Ek [] 2 2 c.1 c.2.1 c.2.2.1 c.2.2.2.1 c.2.2.2.2.1 c.2.2.2.2.2 t (z5 L L.length)=some (A,0,0)∧g6 [] fU iG [] DP Ek [] 2 2 c.1 c.2.1 c.2.2.1 c.2.2.2.1 c.2.2.2.2.1 c.2.2.2.2.2 t (lN L at_ L.length)=some (B,0,0) ∧
   A.length=(z5 L L.length).length∧B.length=(lN L at_ L.length).length∧∀i,i<L.length→∃j:Nat,(AH L at_ L.length).getD i 0=(j:Int)∧j<B.length∧B.getD j Im=A.getD i Im∧(A.getD i Im).2.2.2.1.length≤100000:=by
 obtain⟨b,e,hb⟩:=GM;rcases LZ hb (c:=c) I (by omega)with⟨v,-⟩ | ⟨-,⟨q3,-⟩ | ⟨-,p,x,z,O⟩⟩
 ·rw[k]at v;cases v
 ·omega
 obtain⟨C,D,E,f,A,B,R,V,h1,hA,hB,q⟩:=both hb M N at_ O L.length (Nat.le_refl _);have u:=kD L L.length;have X:=tx L at_ L.length;have Y:iter (aR (z5 L L.length) b) ((LF p.1 p.2 c).1,(LF p.1 p.2 c).2,c.1,c.2.1,c.2.2.1,c.2.2.2.1,c.2.2.2.2.1,c.2.2.2.2.2,t,p.1,p.2,some (ik p.1 p.2 c),x,([]:List C3),0)=some (.inl A):=by refine Eq.trans R (bL ?_);have:=HE (l:=z5 L L.length) b C D E f A;rw[u]at this;exact this
 have Z:iter (aR (lN L at_ L.length) b) ((LF p.1 p.2 c).1,(LF p.1 p.2 c).2,c.1,c.2.1,c.2.2.1,c.2.2.2.1,c.2.2.2.2.1,c.2.2.2.2.2,t,p.1,p.2,some (ik p.1 p.2 c),x,([]:List C3),0)=some (.inl B) :=
  Eq.trans V (bL (HE (l:=lN L at_ L.length) b C D E f B))
 refine⟨A,B,?_,?_,by omega,hB,q⟩
 ·unfold g6;rw[if_neg (by rw[decide_eq_true_eq];omega),e];simp only[Option.bind_some,bne_self_eq_false,Bool.false_eq_true,if_false,z,ER,Y]
 ·unfold g6;rw[if_neg (by rw[decide_eq_true_eq];omega),e];simp only[Option.bind_some,bne_self_eq_false,Bool.false_eq_true,if_false,z,ER,Z]
theorem BX{p q u v x:Int}(z:Option Nat)(Y:0≤p∧p≤255)(Z:0≤q∧q≤255)(h3:0≤u∧u≤255)(h4:0≤v∧v≤65535)(h5:0≤x∧x≤65535){l:List Int}(hl:∀i,0≤l.getD i 0∧l.getD i 0≤255){s:List jB}(hs:∀i,i<s.length→Bytes (s.getD i AK).2.1.2.2)(at_:List Int):
  dw p q u v x z l s at_=some true:=by
 unfold dw;simp only[IQ,Option.bind_some,Bool.not_true,Bool.false_eq_true,if_false];by_cases C:(l.length:Int) > 60
 ·simp only[C,decide_true,if_true,Option.bind_some]
 by_cases O:(s.length:Int) > 20
 ·simp only[C,O,decide_true,decide_false,Bool.false_eq_true,if_true,if_false,Option.bind_some]
 simp only[C,O,decide_false,Bool.false_eq_true,if_false,Option.bind_some,Ib];obtain⟨t,ht,D,a1⟩:=GK (l:=l) (by omega) hl;obtain⟨k1,R⟩:=Fh z Y Z h3 h4 h5;obtain⟨L,hL,a2,E⟩:=G0 (l:=s) (by omega) hs (m:=t.length) (by omega);have I:iter (bD at_ L) (([]:List jB),([]:List jB),([]:List Int),(0:Int))=some (z5 L L.length,lN L at_ L.length,AH L at_ L.length):=J5 (by omega) at_;simp only[ht,k1,hL,Option.bind_some,I];generalize yB p q u v x z=c at R;obtain⟨A,B,e1,e2,hA,hB,J⟩:=Gx D (by omega) R (L:=L) (by omega) E at_;have b1:((A.length:Int) != ((z5 L L.length).length:Int))=false:=by rw[hA];simp
 have b2:((B.length:Int) != ((lN L at_ L.length).length:Int))=false:=by rw[hB];simp
 have a3:=rO L at_ L.length;have a4:=kD L L.length;have f:iter (bM (AH L at_ L.length) A B) ((0:Nat):Int)=some (.inl ()):=by
  refine dL (fun k=>((k:Nat):Int)) L.length (fun k hk=> ?_) ?_
  ·obtain⟨j,j1,j2,V,X⟩:=J k hk;have M:(k:Int)<((AH L at_ L.length).length:Int):=by omega
   have q2:0≤(k:Int):=by omega
   have q3:(k:Int)<(A.length:Int):=by omega
   have q4:k<(AH L at_ L.length).length:=by omega
   have q5:0≤(j:Int)∧(j:Int)<(B.length:Int):=⟨by omega,by omega⟩;generalize N:A.getD k Im=a at V X;simp only[bM,M,q2,q3,q4,q5,and_self,decide_true,if_true,Int.toNat_natCast,j1,V,N,bne_self_eq_false,Bool.not_true,Bool.false_eq_true,if_false,FY X,Option.bind_some,bj (show k≤9000000000000000000 by omega)]
  ·have M:¬((L.length:Int)<((AH L at_ L.length).length:Int)):=by omega
   simp only[bM,M,decide_false,Bool.false_eq_true,if_false]
 have e:iter (bM (AH L at_ L.length) A B) (0:Int)=some (.inl ()):=f;simp only[e1,e2,Option.bind_some,bne_self_eq_false,Bool.false_eq_true,if_false,b1,b2,e]
abbrev iu:List Ty:=[(.prod (.int .u8) (.prod (.int .u8) (.prod (.int .u8) (.prod (.int .u16) (.prod (.int .u16) .flt))))),(.slice (.int .u8)),(.slice (.prod (.int .i64) (.prod (.prod (.int .i64) (.prod (.int .i64) (.slice (.int .u8)))) (.prod (.prod (.int .i64) (.prod (.int .i64) (.prod (.int .u8) (.prod (.int .i64) (.prod (.int .i64) .flt))))) (.prod (.int .i64) (.prod .bool (.prod (.int .i64) (.int .i64)))))))),(.slice (.int .i64))]
theorem FU{l:List jB}(h:Wf (.slice (.prod (.int .i64) (.prod (.prod (.int .i64) (.prod (.int .i64) (.slice (.int .u8)))) (.prod (.prod (.int .i64) (.prod (.int .i64) (.prod (.int .u8) (.prod (.int .i64) (.prod (.int .i64) .flt))))) (.prod (.int .i64) (.prod .bool (.prod (.int .i64) (.int .i64)))))))) l):∀i,i<l.length→Bytes (l.getD i AK).2.1.2.2:=fun i hi=>by
 have:=h.2 i hi;rw[iK hi];exact G2 this.2.1.2.2
theorem zW(x:KH iu)(c:LR iu x):dw x.1.1 x.1.2.1 x.1.2.2.1 x.1.2.2.2.1 x.1.2.2.2.2.1 x.1.2.2.2.2.2 x.2.1 x.2.2.1 x.2.2.2.1=some true :=
 BX _ c.1.1 c.1.2.1 c.1.2.2.1 c.1.2.2.2.1 c.1.2.2.2.2.1 (G4 c.2.1) (FU c.2.2.1) _
end
end Go.Proofs.YtmcemnfjddoejaaGreatDoor.T
