/- Functions of the program as functions on data, and that the program's own come to them. -/
import Derived.Test.YtmcemnfjddoejaaGreatDoorTvT23a0
import Derived.Test.YtmcemnfjddoejaaGreatDoorTvT23aa1
namespace Go.Proofs.YtmcemnfjddoejaaGreatDoor.T
open Go Go.Tv Go.Proofs
open Go.IntKind (i32 i64 u32 u8)
noncomputable section
set_option maxRecDepth 100000
set_option maxHeartbeats 4000000
def sM(e:List Tree):((List Int)×(List Z2)×Bool×(List ub)×Int)→Option (((List Int)×(List Z2)×Bool×(List ub)×Int)⊕((List Int)×(List Z2)×Bool×List ub)):=fun(m,p,q,v10,v11) =>
 (if(decide (v11<(e.length:Int)))=true then(if 0≤v11∧v11<(e.length:Int)then((gD 1000 ((e.getD v11.toNat (Tree.node 0 0 [])).op) ((e.getD v11.toNat (Tree.node 0 0 [])).set) ((e.getD v11.toNat (Tree.node 0 0 [])).kids) q m p).bind fun(c,f,j,k) =>
 (if(v10.length+([(c.1,(c.2.1.1,c.2.1.2.1,c.2.1.2.2.1,c.2.1.2.2.2),c.2.2.1,c.2.2.2.1,c.2.2.2.2.1,c.2.2.2.2.2)]:List ub).length)*72≤140737488355328∧v10.length+([(c.1,(c.2.1.1,c.2.1.2.1,c.2.1.2.2.1,c.2.1.2.2.2),c.2.2.1,c.2.2.2.1,c.2.2.2.2.1,c.2.2.2.2.2)]:List ub).length≤9223372036854775807 then some (Sum.inl (f,j,k,(v10++([(c.1,(c.2.1.1,c.2.1.2.1,c.2.1.2.2.1,c.2.1.2.2.2),c.2.2.1,c.2.2.2.1,c.2.2.2.2.1,c.2.2.2.2.2)]:List ub)),(i64.wrap (v11+1))))else none))else none)
 else some (Sum.inr (m,p,q,v10)))
def sT(e:List ub):(Int×Int×Int×Int×Int)→Option ((Int×Int×Int×Int×Int)⊕Z2):=fun(j,k,m,p,c) =>
 (if(decide (c<(e.length:Int)))=true then(if 0≤c∧c<(e.length:Int)then(if c.toNat<e.length then((dn j k m p ((e.getD c.toNat (false,(0,0,0,0),0,0,0,0)).2.1.1) ((e.getD c.toNat (false,(0,0,0,0),0,0,0,0)).2.1.2.1) ((e.getD c.toNat (false,(0,0,0,0),0,0,0,0)).2.1.2.2.1) ((e.getD c.toNat (false,(0,0,0,0),0,0,0,0)).2.1.2.2.2)).bind fun f =>
 some (Sum.inl (f.1,f.2.1,f.2.2.1,f.2.2.2,(i64.wrap (c+1)))))else none)else none)
 else some (Sum.inr (j,k,m,p)))
def sQ(e f:List Z2)(j:Int):(Int×Int×Int×Int×Int)→Option ((Int×Int×Int×Int×Int)⊕Z2):=fun(m,p,q,u,c) =>
 (if(decide (c<(e.length:Int)))=true then((iP ((f.getD j.toNat (0,0,0,0)).1) ((f.getD j.toNat (0,0,0,0)).2.1) ((f.getD j.toNat (0,0,0,0)).2.2.1) ((f.getD j.toNat (0,0,0,0)).2.2.2) c).bind fun v =>
 (((if v=true then(if 0≤c∧c<(e.length:Int)then(if c.toNat<e.length then((dn m p q u ((e.getD c.toNat (0,0,0,0)).1) ((e.getD c.toNat (0,0,0,0)).2.1) ((e.getD c.toNat (0,0,0,0)).2.2.1) ((e.getD c.toNat (0,0,0,0)).2.2.2)).bind fun k =>
 some ((k.1,k.2.1,k.2.2.1,k.2.2.2)))else none)else none)
 else some ((m,p,q,u)))).bind fun(x,z,A,B)=>some (Sum.inl (x,z,A,B,(i64.wrap (c+1))))))
 else some (Sum.inr (m,p,q,u)))
def sk(e:List ub)(f:List Z2)(j:Int):(Int×Int)→Option ((Int×Int)⊕(Int)):=fun(k,c) =>
 (if(decide (c<(e.length:Int)))=true then(if 0≤c∧c<(e.length:Int)then(if c.toNat<e.length then(((if((e.getD c.toNat (false,(0,0,0,0),0,0,0,0)).1)=true then some (true)
 else((rn ((f.getD j.toNat (0,0,0,0)).1) ((f.getD j.toNat (0,0,0,0)).2.1) ((f.getD j.toNat (0,0,0,0)).2.2.1) ((f.getD j.toNat (0,0,0,0)).2.2.2) ((e.getD c.toNat (false,(0,0,0,0),0,0,0,0)).2.2.1) ((e.getD c.toNat (false,(0,0,0,0),0,0,0,0)).2.2.2.1) ((e.getD c.toNat (false,(0,0,0,0),0,0,0,0)).2.2.2.2.1) ((e.getD c.toNat (false,(0,0,0,0),0,0,0,0)).2.2.2.2.2)).bind fun m =>
 some (m)))).bind fun p=>(((if p=true then(if 0≤c then some ((bitsOf .or .u32 k (u32.wrap (1*2 ^ (min c.toNat u32.bits)))))else none)
 else some (k))).bind fun q=>some (Sum.inl (q,(i64.wrap (c+1))))))else none)else none)
 else some (Sum.inr k))
def rE(m:List Int)(q u v x p:Int):(Int×Int×Int×Int×Int)→Option ((Int×Int×Int×Int×Int)⊕Z2):=fun(e,f,j,k,c) =>
 (if(decide (c<(m.length:Int)))=true then(if 0≤c∧c<(m.length:Int)then(if c.toNat<m.length then((((iP q u v x c).bind fun z =>
 (if z=true then(if 0≤p then some (((bitsOf .and .u32 (Int.fdiv (m.getD c.toNat 0) (2 ^ (min p.toNat u32.bits))) (1:Int)) == 1))else none)
 else some (false)))).bind fun A=>(((if A=true then((j7 c e f j k).bind fun(B,C,D,E) =>
 some ((B,C,D,E)))
 else some ((e,f,j,k)))).bind fun(I,J,L,M)=>some (Sum.inl (I,J,L,M,(i64.wrap (c+1))))))else none)else none)
 else some (Sum.inr (e,f,j,k)))
def sS(L:Int)(J:List Int)(u v x z:Int):((List Z2)×(List (Z2×Int))×(List Int)×Int)→Option (((List Z2)×(List (Z2×Int))×(List Int)×Int)⊕(((List Z2)×(List (Z2×Int))×List Int)⊕(Ep×Int))):=fun(c,p,q,e) =>
 (if(decide (e<L))=true then((iter (rE J u v x z e) (0,0,0,0,0)).bind fun(f,j,k,m)=>(((if(!((bc l0 p (f,j,k,m)).isSome))=true then(if(decide ((c.length:Int)≥300))=true then some ((Sum.inr ((([]:List (List Int)),([]:List Int)),27)))
 else(if(c.length+([(f,j,k,m)]:List Z2).length)*32≤140737488355328∧c.length+([(f,j,k,m)]:List Z2).length≤9223372036854775807 then some ((Sum.inl ((c++([(f,j,k,m)]:List Z2)),(dN l0 p (f,j,k,m) (c.length:Int)),(c.length:Int))))else none))
 else some ((Sum.inl (c,p,((bc l0 p (f,j,k,m)).getD 0)))))).bind fun(A:(((List Z2)×(List (Z2×Int))×Int)⊕(Ep×Int)))=>match A with
 | .inl (B,C,D)=>(if 0≤e∧e<(q.length:Int)then(if e.toNat<q.length then some (Sum.inl (B,C,(q.set e.toNat D),(i64.wrap (e+1))))else none)else none)
 | .inr ((E,I))=>some (Sum.inr (Sum.inr (E,I)))))
 else some (Sum.inr (Sum.inl (c,p,q))))
def rB(p:Int)(I:List Int)(J:List Z2)(L:List ub)(M N O R:Int):((List (List Int))×(List Int)×(List Z2)×(List (Z2×Int))×Int)→Option (((List (List Int))×(List Int)×(List Z2)×(List (Z2×Int))×Int)⊕(Ep⊕(Ep×Int))):=fun(f,j,e,q,c) =>
 (if(decide (c<(e.length:Int)))=true then(if 0≤c∧c<(e.length:Int)then(if c.toNat<e.length then((iter (sQ J e c) (M,N,O,R,0)).bind fun(u,v,x,z)=>((iter (sk L e c) (0,0)).bind fun k=>(if 0≤p∧p≤p∧8*p≤281474976710656∧p≤9223372036854775807 then((iter (sS p I u v x z) (e,q,(List.replicate p.toNat (0:Int)),0)).bind fun(A:(((List Z2)×(List (Z2×Int))×List Int)⊕(Ep×Int)))=>match A with
 | .inl (B,C,m)=>(if(f.length+([m]:List (List Int)).length)*24≤140737488355328∧f.length+([m]:List (List Int)).length≤9223372036854775807 then(if(j.length+([k]:List Int).length)*4≤140737488355328∧j.length+([k]:List Int).length≤9223372036854775807 then some (Sum.inl ((f++([m]:List (List Int))),(j++([k]:List Int)),B,C,(i64.wrap (c+1))))else none)else none)
 | .inr ((D,E))=>some (Sum.inr (Sum.inr (D,E))))else none)))else none)else none)
 else some (Sum.inr (Sum.inl (f,j))))
def p7(C:List Tree)(p:Int):Option (Ep×Int) :=
 (((if(decide (p<1))=true then some (true)
 else(if(decide (p > 24))=true then some (true)
 else some ((decide ((C.length:Int) > 24)))))).bind fun v1=>(if v1=true then some ((([]:List (List Int)),([]:List Int)),2)
 else((iter (sM C) (([]:List Int),([]:List Z2),false,([]:List ub),0)).bind fun(q,u,v,c)=>(if v=true then some ((([]:List (List Int)),([]:List Int)),26)
 else((iter (sT c) (0,0,0,0,0)).bind fun(x,z,A,B)=>((iter (rB p q u c x z A B) (([]:List (List Int)),([]:List Int),([(0,0,0,0)]:List Z2),(dN l0 ([]:List (Z2×Int)) (0,0,0,0) (0:Int)),0)).bind fun(e:(Ep⊕(Ep×Int)))=>match e with
 | .inl (f,j)=>some ((f,j),0)
 | .inr ((k,m))=>some (k,m)))))))
theorem rH(ax:Bool){d1:List Tree}{O:Int}{dd:Ep×Int}(h:p7 d1 O=some dd):
  Pure Tryz.prog 74 [.p ax (.slice (.tree .u8 .u32)) d1,.i64 O] (aG (aU false [⟨CP,dd.1⟩,⟨(.int .i64),dd.2⟩])):=by
 refine PB Tryz.func74 (fun Bw w0=> ?_);unfold p7 at h;refine G (af (af (bg h (fun v1=>ay [(0,.p ax (.slice (.tree .u8 .u32)) d1),(1,.i64 O),(4,.adr 0 0 2 0),(40,.bo v1)] [(0,.box [.nils,.nils])] 1) (fun v1 h=> ?_) (fun v1 h=> ?_))))
 ·rcases aF h with⟨B5,h⟩ | ⟨B5,h⟩
  ·exact bq ⟨[(2,true),(5,true)],[]⟩ [(3,5,oc B5)] (eN h (gg [] [0]))
  rcases aF h with⟨B6,h⟩ | ⟨B6,h⟩
  ·exact bq ⟨[(2,false),(5,false),(6,true),(10,true)],[]⟩ [(3,4,an B5),(5,5,oc B5),(7,10,oc B6)] (eN h (gg [] [0]))
  exact bq ⟨[(2,false),(5,false),(6,false),(10,false)],[]⟩ [(3,4,an B5),(5,5,oc B5),(7,9,an B6),(10,10,oc B6)] (eN h (gg [] [0]))
 refine ab (aA h (fun B7 h=> ?_) (fun B7 h=> ?_))
 ·refine G (ao (ah ?_));obtain rfl:=sI h;exact RI [CP,(.int .i64)]
 refine ae (ab (G (G (af (G (ak (cd h (fun(v7,v8,v9,v10,v11)=>ay [(1,.i64 O),(4,.adr 0 0 2 0),(6,.adr 1 0 3 0),(7,.sl 4),(44,.p ax (.slice (.tree .u8 .u32)) d1),(45,.i64 (d1.length:Int)),(46,.i64 v11)] (Kq v9 v7 v8 v10) 5) 0 (fun(q,u,v,m)=>ay [(1,.i64 O),(4,.adr 0 0 2 0),(6,.adr 1 0 3 0),(7,.sl 4)] (Kq v q u m) 5) (gg [.nilC 9 0 57 136 (.int .u32),.nilC 9 1 58 262 l0,.nilS 7 59 264 BX] [0,9,57,58,59]) (fun y o h=> ?_) (fun f7 h=> ?_))))))))
 ·obtain⟨v7,v8,v9,v10,v11⟩:=y;unfold sM at h;refine G (af (aA h (fun f8 h=> ?_) (fun f8 h=> ?_)))
  ·refine ae (ab (af (ak (GC 0 h (fun h=> ?_)))));obtain⟨⟨gi,gj,gp,gs⟩,q6,h⟩:=aj h;obtain⟨f9,h⟩:=aD h;have L:=(kd 1000 ax q6);refine bq ⟨[],[(3,(oO L [1,2,3]))]⟩ [(3,3,oc L),(5,5,oc f9)] (au (ab (Ge ?_)));exact eB h (gg [] [0,1,69,70,85])
  refine aq (aL ?_);exact eX h (gg [] [0,1,2,3,4])
 obtain⟨q,u,v,m⟩:=f7;refine av (ab (af (G (aA h (fun fa h=> ?_) (fun fa h=> ?_)))))
 ·refine G (ao (ah ?_));obtain rfl:=sI h;exact RI [CP,(.int .i64)]
 refine ae (ab (G (af (G (ak (cd h (fun(de,di,dk,dm,ds)=>ay [(1,.i64 O),(4,.adr 0 0 2 0),(6,.adr 1 0 3 0),(7,.sl 4),(10,.adr 5 0 4 0),(62,.sl 4),(63,.i64 (m.length:Int)),(64,.i64 ds)] (Kw v q u m de di dk dm) 6) 2 (fun(D,E,I,J)=>ay [(1,.i64 O),(4,.adr 0 0 2 0),(6,.adr 1 0 3 0),(7,.sl 4),(10,.adr 5 0 4 0)] (Kw v q u m D E I J) 6) (gg [] [0,1,2,3,4,37]) (fun y o h=> ?_) (fun fd h=> ?_)))))))
 ·obtain⟨de,di,dk,dm,ds⟩:=y;unfold sT at h;refine G (af (aA h (fun fi h=> ?_) (fun fi h=> ?_)))
  ·refine ae (ab (af (ak ?_)));obtain⟨fo,fr,h⟩:=g2 h;refine GN a0 [(0,0,oc fo),(1,1,oc fr)] ?_;obtain⟨h1,fs,h⟩:=aj h;refine Lw 3 (cz fs) (au (ab (Ge ?_)));exact eB h (gg [] [0,1,2,3,4,5])
  refine aq (aL ?_);exact eX h (gg [] [0,1,2,3,4,5])
 obtain⟨D,E,I,J⟩:=fd;refine av (ab (G (G (GN a0 [(0,0,oc zI),(2,2,oc zI)] (af (G (ak (jl h (fun(j,k,f,M,c)=>ay [(1,.i64 O),(4,.adr 0 0 2 0),(6,.adr 1 0 3 0),(7,.sl 4),(10,.adr 5 0 4 0),(13,.adr 6 0 2 0),(14,.sl 9),(15,.mp 10),(16,.i64 c)] (LD v q u m D E I J j k f M) 11) (cN (dM Tryz.f74.ntmps 4 (fun(b1,b2)=>ay [(4,.adr 0 0 2 0),(13,.adr 1 0 2 0)] (KV b1 b2) 4)) (eQ tb Tryz.f74.results.toList (fun(b3,b4)=>[⟨CP,b3⟩,⟨(.int .i64),b4⟩]))) (gg [.nilC 6 0 86 80 (.slice (.int .i64)),.nilC 6 1 87 136 (.int .u32)] [0,1,2,3,4,5,6,86,87,22,38]) (fun y o h=> ?_) (fun dt h e σ' hq=> ?_)))))))))
 ·obtain⟨j,k,f,M,c⟩:=y;unfold rB at h;refine af (G (aA h (fun du h=> ?_) (fun du h=> ?_)))
  ·refine ae (ab (af (ak ?_)));obtain⟨e1,e2,h⟩:=g2 h;refine GN a0 [(2,2,oc e1),(3,3,oc e2)] (G (G (af (G (ak ?_)))));refine cd h (fun(b5,b6,be,bi,a3)=>ay [(1,.i64 O),(4,.adr 0 0 2 0),(6,.adr 1 0 3 0),(7,.sl 4),(10,.adr 5 0 4 0),(13,.adr 6 0 2 0),(14,.sl 9),(15,.mp 10),(16,.i64 c),(17,.adr 11 0 4 0),(18,.u32 0),(19,.adr 12 0 4 0),(93,.i64 (u.length:Int)),(94,.i64 a3)] (FG v q u m D E I J j k f M ((f.getD c.toNat (0,0,0,0)).1) ((f.getD c.toNat (0,0,0,0)).2.1) ((f.getD c.toNat (0,0,0,0)).2.2.1) ((f.getD c.toNat (0,0,0,0)).2.2.2) b5 b6 be bi) 13) 6 (fun(x,z,A,B)=>ay [(1,.i64 O),(4,.adr 0 0 2 0),(6,.adr 1 0 3 0),(7,.sl 4),(10,.adr 5 0 4 0),(13,.adr 6 0 2 0),(14,.sl 9),(15,.mp 10),(16,.i64 c),(17,.adr 11 0 4 0),(18,.u32 0),(19,.adr 12 0 4 0)] (FG v q u m D E I J j k f M ((f.getD c.toNat (0,0,0,0)).1) ((f.getD c.toNat (0,0,0,0)).2.1) ((f.getD c.toNat (0,0,0,0)).2.2.1) ((f.getD c.toNat (0,0,0,0)).2.2.2) x z A B) 13) (gg [] [0,1,2,3,4,5,6,7,8,9,10,75,107]) (fun y o h=> ?_) (fun e3 h=> ?_)
   ·obtain⟨b5,b6,be,bi,a3⟩:=y;unfold sQ at h;refine G (af (aA h (fun e4 h=> ?_) (fun e4 h=> ?_)))
    ·refine ae (ab (af (ak (G ?_))));obtain⟨ft,e5,h⟩:=aj h;refine GP 2 (hN e5) (bg h (fun(bs,bt,bv,bx)=>ay [(1,.i64 O),(4,.adr 0 0 2 0),(6,.adr 1 0 3 0),(7,.sl 4),(10,.adr 5 0 4 0),(13,.adr 6 0 2 0),(14,.sl 9),(15,.mp 10),(16,.i64 c),(17,.adr 11 0 4 0),(18,.u32 0),(19,.adr 12 0 4 0),(93,.i64 (u.length:Int)),(94,.i64 a3)] (FG v q u m D E I J j k f M ((f.getD c.toNat (0,0,0,0)).1) ((f.getD c.toNat (0,0,0,0)).2.1) ((f.getD c.toNat (0,0,0,0)).2.2.1) ((f.getD c.toNat (0,0,0,0)).2.2.2) bs bt bv bx) 13) (fun c1 h=> ?_) (fun c1 h=> ?_))
     ·refine aA h (fun e6 h=> ?_) (fun e6 h=> ?_)
      ·obtain⟨e7,e8,h⟩:=g2 h;obtain⟨fv,e9,h⟩:=aj h;have L:=(cz e9);exact jC ⟨[],[(8,(oP L))]⟩ [(6,6,oc e7),(7,7,oc e8),(8,8,oc L)] (eN h (gg [] [0,1,2,3,4,5,6,7,8,9,10,11,12]))
      exact ae (eN h (gg [] [0,1,2,3,4,5,6,7,8,9,10,11,12]))
     obtain⟨bs,bt,bv,bx⟩:=c1;refine au (ab (Ge ?_));exact eB h (gg [] [0,1,2,3,4,5,6,7,8,9,10,11,12])
    refine aq (aL ?_);exact eX h (gg [] [0,1,2,3,4,5,6,7,8,9,10,11,12])
   obtain⟨x,z,A,B⟩:=e3;refine av (ab (af (G (ak ?_))));refine cd h (fun(a4,Z)=>ay [(1,.i64 O),(4,.adr 0 0 2 0),(6,.adr 1 0 3 0),(7,.sl 4),(10,.adr 5 0 4 0),(13,.adr 6 0 2 0),(14,.sl 9),(15,.mp 10),(16,.i64 c),(17,.adr 11 0 4 0),(18,.u32 a4),(19,.adr 12 0 4 0),(110,.sl 4),(111,.i64 (m.length:Int)),(112,.i64 Z)] (FG v q u m D E I J j k f M ((f.getD c.toNat (0,0,0,0)).1) ((f.getD c.toNat (0,0,0,0)).2.1) ((f.getD c.toNat (0,0,0,0)).2.2.1) ((f.getD c.toNat (0,0,0,0)).2.2.2) x z A B) 13) 8 (fun N=>ay [(1,.i64 O),(4,.adr 0 0 2 0),(6,.adr 1 0 3 0),(7,.sl 4),(10,.adr 5 0 4 0),(13,.adr 6 0 2 0),(14,.sl 9),(15,.mp 10),(16,.i64 c),(18,.u32 N),(19,.adr 11 0 4 0)] (LY v q u m D E I J j k f M x z A B) 12) (gg [] [0,1,2,3,4,5,6,7,8,9,10,11,12]) (fun y o h=> ?_) (fun N h=> ?_)
   ·obtain⟨a4,Z⟩:=y;unfold sk at h;refine G (af (aA h (fun ea h=> ?_) (fun ea h=> ?_)))
    ·refine ae (ab (af (ak ?_)));obtain⟨ec,ed,h⟩:=g2 h;refine GN a0 [(1,1,oc ec),(2,2,oc ed)] (af (bg h (fun a5=>ay [(1,.i64 O),(4,.adr 0 0 2 0),(6,.adr 1 0 3 0),(7,.sl 4),(10,.adr 5 0 4 0),(13,.adr 6 0 2 0),(14,.sl 9),(15,.mp 10),(16,.i64 c),(17,.adr 11 0 4 0),(18,.u32 a4),(19,.adr 12 0 4 0),(21,.i64 Z),(110,.sl 4),(111,.i64 (m.length:Int)),(112,.i64 Z),(124,.bo a5)] (FG v q u m D E I J j k f M ((f.getD c.toNat (0,0,0,0)).1) ((f.getD c.toNat (0,0,0,0)).2.1) ((f.getD c.toNat (0,0,0,0)).2.2.1) ((f.getD c.toNat (0,0,0,0)).2.2.2) x z A B) 13) (fun a5 h=> ?_) (fun a5 h=> ?_)))
     ·rcases aF h with⟨a1,h⟩ | ⟨a1,h⟩
      ·exact bq ⟨[(2,true),(7,true)],[]⟩ [(3,7,oc a1)] (eN h (gg [] [0,1,2,3,4,5,6,7,8,9,10,11,12]))
      obtain⟨fw,ef,h⟩:=aj h;have L:=(yq ef);exact bq ⟨[(2,false),(7,false)],[(6,(oP L))]⟩ [(3,5,an a1),(6,6,oc (And.intro a1 L)),(7,7,oc a1)] (eN h (gg [] [0,1,2,3,4,5,6,7,8,9,10,11,12]))
     refine ab (bg h (fun a6=>ay [(1,.i64 O),(4,.adr 0 0 2 0),(6,.adr 1 0 3 0),(7,.sl 4),(10,.adr 5 0 4 0),(13,.adr 6 0 2 0),(14,.sl 9),(15,.mp 10),(16,.i64 c),(17,.adr 11 0 4 0),(18,.u32 a6),(19,.adr 12 0 4 0),(110,.sl 4),(111,.i64 (m.length:Int)),(112,.i64 Z)] (FG v q u m D E I J j k f M ((f.getD c.toNat (0,0,0,0)).1) ((f.getD c.toNat (0,0,0,0)).2.1) ((f.getD c.toNat (0,0,0,0)).2.2.1) ((f.getD c.toNat (0,0,0,0)).2.2.2) x z A B) 13) (fun a6 h=> ?_) (fun a6 h=> ?_))
     ·refine aA h (fun eh h=> ?_) (fun eh h=> ?_)
      ·refine tq 2 h (fun h=> ?_);exact eN h (gg [] [0,1,2,3,4,5,6,7,8,9,10,11,12])
      exact ae (eN h (gg [] [0,1,2,3,4,5,6,7,8,9,10,11,12]))
     refine au (ab (Ge ?_));exact eB h (gg [] [0,1,2,3,4,5,6,7,8,9,10,11,12])
    refine aq (aL ?_);exact eX h (gg [] [0,1,2,3,4,5,6,7,8,9,10,12])
   refine av (ab (GC 1 h (fun h=>af (G (ak ?_)))));refine jl h (fun(V,X,R,C)=>ay [(1,.i64 O),(4,.adr 0 0 2 0),(6,.adr 1 0 3 0),(7,.sl 4),(10,.adr 5 0 4 0),(13,.adr 6 0 2 0),(14,.sl 9),(15,.mp 10),(16,.i64 c),(18,.u32 N),(19,.adr 11 0 4 0),(23,.sl 12),(132,.i64 O),(133,.i64 C)] (KT v q u m D E I J j k V X x z A B R) 13) (cN (dM Tryz.f74.ntmps 10 (fun(c2,c3,c4)=>ay [(1,.i64 O),(4,.adr 0 0 2 0),(6,.adr 1 0 3 0),(7,.sl 4),(10,.adr 5 0 4 0),(13,.adr 6 0 2 0),(14,.sl 9),(15,.mp 10),(16,.i64 c),(18,.u32 N),(23,.sl 11)] (LQ v q u m D E I J j k c2 c3 c4) 12)) (eQ tb Tryz.f74.results.toList (fun(c5,c6)=>[⟨CP,c5⟩,⟨(.int .i64),c6⟩]))) (gg [] [0,1,2,3,4,5,6,7,8,9,10,11,20]) (fun y o h=> ?_) (fun ei h e σ' hq=> ?_)
   ·obtain⟨V,X,R,C⟩:=y;unfold sS at h;refine G (af (aA h (fun ej h=> ?_) (fun ej h=> ?_)))
    ·refine ae (ab (af (ak (G (G (af (G (ak ?_))))))));refine cd h (fun(a7,a8,a9,aa,a2)=>ay [(1,.i64 O),(4,.adr 0 0 2 0),(6,.adr 1 0 3 0),(7,.sl 4),(10,.adr 5 0 4 0),(13,.adr 6 0 2 0),(14,.sl 9),(15,.mp 10),(16,.i64 c),(18,.u32 N),(19,.adr 11 0 4 0),(23,.sl 12),(24,.i64 C),(25,.adr 13 0 4 0),(132,.i64 O),(133,.i64 C),(139,.sl 2),(140,.i64 (q.length:Int)),(141,.i64 a2)] (H8 v q u m D E I J j k V X x z A B R a7 a8 a9 aa) 14) 12 (fun(c7,c8,c9,cc)=>ay [(1,.i64 O),(4,.adr 0 0 2 0),(6,.adr 1 0 3 0),(7,.sl 4),(10,.adr 5 0 4 0),(13,.adr 6 0 2 0),(14,.sl 9),(15,.mp 10),(16,.i64 c),(18,.u32 N),(19,.adr 11 0 4 0),(23,.sl 12),(24,.i64 C),(25,.adr 13 0 4 0),(132,.i64 O),(133,.i64 C)] (H8 v q u m D E I J j k V X x z A B R c7 c8 c9 cc) 14) (gg [] [0,1,2,3,4,5,6,7,8,9,10,11,12,37]) (fun y o h=> ?_) (fun ek h=> ?_)
     ·obtain⟨a7,a8,a9,aa,a2⟩:=y;unfold rE at h;refine G (af (aA h (fun el h=> ?_) (fun el h=> ?_)))
      ·refine ae (ab (af (ak ?_)));obtain⟨er,es,h⟩:=g2 h;refine GN a0 [(1,1,oc er),(2,2,oc es)] (af (bg h (fun ac=>ay [(1,.i64 O),(4,.adr 0 0 2 0),(6,.adr 1 0 3 0),(7,.sl 4),(10,.adr 5 0 4 0),(13,.adr 6 0 2 0),(14,.sl 9),(15,.mp 10),(16,.i64 c),(18,.u32 N),(19,.adr 11 0 4 0),(23,.sl 12),(24,.i64 C),(25,.adr 13 0 4 0),(26,.i64 a2),(132,.i64 O),(133,.i64 C),(139,.sl 2),(140,.i64 (q.length:Int)),(141,.i64 a2),(155,.bo ac)] (H8 v q u m D E I J j k V X x z A B R a7 a8 a9 aa) 14) (fun ac h=> ?_) (fun ac h=> ?_)))
       ·obtain⟨g1,ch,h⟩:=aj h;rcases aF h with⟨Y,h⟩ | ⟨Y,h⟩
        ·obtain⟨et,h⟩:=aD h;have L:=(hN ch);exact bq ⟨[(3,true),(9,true)],[(2,(oP L))]⟩ [(2,2,oc L),(4,5,an Y),(6,6,oc (And.intro Y et)),(7,8,an Y),(9,9,oc Y)] (eN h (gg [] [0,1,2,3,4,5,6,7,8,9,10,11,12,13]))
        have L:=(hN ch);exact bq ⟨[(3,false),(9,false)],[(2,(oP L))]⟩ [(2,2,oc L),(4,9,oc Y)] (eN h (gg [] [0,1,2,3,4,5,6,7,8,9,10,11,12,13]))
       refine ab (bg h (fun(cp,cs,cx,d2)=>ay [(1,.i64 O),(4,.adr 0 0 2 0),(6,.adr 1 0 3 0),(7,.sl 4),(10,.adr 5 0 4 0),(13,.adr 6 0 2 0),(14,.sl 9),(15,.mp 10),(16,.i64 c),(18,.u32 N),(19,.adr 11 0 4 0),(23,.sl 12),(24,.i64 C),(25,.adr 13 0 4 0),(132,.i64 O),(133,.i64 C),(139,.sl 2),(140,.i64 (q.length:Int)),(141,.i64 a2)] (H8 v q u m D E I J j k V X x z A B R cp cs cx d2) 14) (fun d3 h=> ?_) (fun d3 h=> ?_))
       ·refine aA h (fun eu h=> ?_) (fun eu h=> ?_)
        ·obtain⟨⟨g5,g7,gb,gd⟩,ey,h⟩:=aj h;exact kO 1 [13] (qX ey) (eN h (gg [] [0,1,2,3,4,5,6,7,8,9,10,11,12,13]))
        exact ae (eN h (gg [] [0,1,2,3,4,5,6,7,8,9,10,11,12,13]))
       obtain⟨cp,cs,cx,d2⟩:=d3;refine au (ab (Ge ?_));exact eB h (gg [] [0,1,2,3,4,5,6,7,8,9,10,11,12,13])
      refine aq (aL ?_);exact eX h (gg [] [0,1,2,3,4,5,6,7,8,9,10,11,12,13])
     obtain⟨c7,c8,c9,cc⟩:=ek;refine av (ab (GN a0 [(2,2,oc zI)] (af (G (Db h (cN (od Tryz.f74.ntmps (fun(d4,d5,d6)=>ay [(1,.i64 O),(4,.adr 0 0 2 0),(6,.adr 1 0 3 0),(7,.sl 4),(10,.adr 5 0 4 0),(13,.adr 6 0 2 0),(14,.sl 9),(15,.mp 10),(16,.i64 c),(18,.u32 N),(19,.adr 11 0 4 0),(23,.sl 12),(24,.i64 C),(28,.i64 d6),(132,.i64 O),(133,.i64 C)] (KT v q u m D E I J j k d4 d5 x z A B R) 13)) (eQ tb Tryz.f74.results.toList (fun(d7,d8)=>[⟨CP,d7⟩,⟨(.int .i64),d8⟩]))) (fun d9 h=> ?_) (fun d9 h e σ' hq=> ?_))))))
     ·refine aA h (fun f1 h=> ?_) (fun f1 h=> ?_)
      ·refine af (G (G (aA h (fun f2 h=> ?_) (fun f2 h=> ?_))))
       ·refine G (ao ?_);obtain rfl:=sI h;refine ah (aK ?_);exact bu (RI [CP,(.int .i64)])
       refine ae (ab (GN a0 [(3,3,oc zI)] (tq 3 h (fun h=> ?_))));obtain rfl:=sI h;exact aX (cu (gg [] [0,1,2,3,4,5,6,7,8,190,10,11,12]))
      refine ae ?_;obtain rfl:=sI h;exact aX (cu (gg [] [0,1,2,3,4,5,6,7,8,9,10,11,12]))
     rcases d9 with⟨d4,d5,d6⟩ | ⟨d7,d8⟩
     ·obtain⟨rfl,ad⟩:=hq;refine bY ?_ ad;refine ab ?_;obtain⟨f3,f4,h⟩:=g2 h;refine bq a0 [(3,3,oc f3),(4,4,oc f4)] (au (ab (Ge ?_)));exact eB h (gg [] [0,1,2,3,4,5,6,7,8,9,10,11,12])
     obtain⟨rfl,hr⟩:=hq;obtain rfl:=sI h;refine ah (az (ah (br (aK ?_))));exact bu hr
    refine aq (aL ?_);obtain rfl:=sI h;refine cR (aX ?_);exact bC (gg [] [0,1,2,3,4,5,6,7,8,9,10,12])
   rcases ei with⟨c2,c3,c4⟩ | ⟨c5,c6⟩
   ·obtain⟨rfl,ad⟩:=hq;refine bY ?_ ad;refine av (ab ?_);obtain⟨f5,f6,h⟩:=g2 h;refine jC a0 [(4,4,oc f5),(9,9,oc f6)] (au (ab (Ge ?_)));exact eB h (gg [] [0,1,2,3,4,5,6,44,84,9,10])
   obtain⟨rfl,hr⟩:=hq;obtain rfl:=sI h;refine az (ah (az (ah (br (aK ?_)))));exact bu hr
  refine aq (aL ?_);obtain rfl:=sI h;refine cR (aX ?_);exact bC (gg [] [0,6,7,8])
 rcases dt with⟨b1,b2⟩ | ⟨b3,b4⟩
 ·obtain⟨rfl,ad⟩:=hq;refine bY ?_ ad;refine av (ab (G (nA [.frzC 0 0,.frzC 0 1] (by kernel_rfl) (ao ?_))));obtain rfl:=sI h;exact RI [CP,(.int .i64)]
 obtain⟨rfl,hr⟩:=hq;refine az (ah ?_);obtain rfl:=sI h;exact hr
def o7(f:List (List Int))(e:Int):(Int)→Option ((Int)⊕((Unit)⊕(Bool))):=fun c =>
 (if(decide (c<((f.getD e.toNat []).length:Int)))=true then(if 0≤c∧c<((f.getD e.toNat []).length:Int)then(((if(decide (((f.getD e.toNat []).getD c.toNat 0)<0))=true then some (true)
 else some ((decide (((f.getD e.toNat []).getD c.toNat 0)≥(f.length:Int)))))).bind fun j=>(if j=true then some (Sum.inr (Sum.inr false))
 else some (Sum.inl (i64.wrap (c+1)))))else none)
 else some (Sum.inr (Sum.inl ())))
def ph(e:List (List Int)):(Int)→Option ((Int)⊕((Unit)⊕(Bool))):=fun c =>
 (if(decide (c<(e.length:Int)))=true then(if 0≤c∧c<(e.length:Int)then(if 0≤(0:Int)∧0<(e.length:Int)then(if(((e.getD c.toNat []).length:Int) != ((e.getD ((0:Int).toNat) []).length:Int))=true then some (Sum.inr (Sum.inr false))
 else((iter (o7 e c) (0:Int)).bind fun(f:((Unit)⊕(Bool)))=>match f with
 | .inl _=>some (Sum.inl (i64.wrap (c+1)))
 | .inr (j)=>some (Sum.inr (Sum.inr j))))else none)else none)
 else some (Sum.inr (Sum.inl ())))
def pz(c:List (List Int))(e:List Int):Option (Bool) :=
 (((if((c.length:Int) == 0)=true then some (true)
 else some (((c.length:Int) != (e.length:Int))))).bind fun v1=>(if v1=true then some false
 else((iter (ph c) (0:Int)).bind fun(f:((Unit)⊕(Bool)))=>match f with
 | .inl _=>some true
 | .inr (j)=>some j)))
theorem xP(c k:Bool){f:List (List Int)}{q:List Int}{z:Bool}(h:pz f q=some z):
  Pure Tryz.prog 109 [.agg [.p c (.slice (.slice (.int .i64))) f,.p k (.slice (.int .u32)) q]] (aG (aU false [⟨.bool,z⟩])):=by
 refine PB Tryz.func109 (fun Bw w0=> ?_);unfold pz at h;refine G (af (af (bg h (fun v1=>ay [(1,.adr 0 0 2 0),(19,.bo v1)] (G9 c f k q) 1) (fun v1 h=> ?_) (fun v1 h=> ?_))))
 ·rcases aF h with⟨B,h⟩ | ⟨B,h⟩
  ·exact bq ⟨[(4,true),(12,true)],[]⟩ [(5,12,oc B)] (eN h (gg [] [0]))
  exact bq ⟨[(4,false),(12,false)],[]⟩ [(5,11,an B),(12,12,oc B)] (eN h (gg [] [0]))
 refine ab (aA h (fun N h=> ?_) (fun N h=> ?_))
 ·refine G (ao (ah ?_));obtain rfl:=sI h;exact RI [.bool]
 refine ae (ab (af (G (ak (jl h (fun j=>ay [(1,.adr 0 0 2 0),(21,.p c (.slice (.slice (.int .i64))) f),(22,.i64 (f.length:Int)),(23,.i64 j)] (G9 c f k q) 1) (cN (dM Tryz.f109.ntmps 0 (fun _=>ay [] [] 0)) (eQ tb Tryz.f109.results.toList (fun L=>[⟨.bool,L⟩]))) (gg [] [0]) (fun j o h=> ?_) (fun O h e σ' A=> ?_))))))
 ·unfold ph at h;refine G (af (aA h (fun C h=> ?_) (fun C h=> ?_)))
  ·refine ae (ab (af (ak (GC 0 h (fun h=>af (GC 4 h (fun h=>aA h (fun D h=> ?_) (fun D h=> ?_))))))))
   ·refine G (ao ?_);obtain rfl:=sI h;refine ah (az (ah (br (aK ?_))));exact bu (RI [.bool])
   refine ae (ab (G (ak (jl h (fun u=>ay [(1,.adr 0 0 2 0),(21,.p c (.slice (.slice (.int .i64))) f),(22,.i64 (f.length:Int)),(23,.i64 j),(35,.p c (.slice (.int .i64)) (f.getD j.toNat [])),(36,.i64 ((f.getD j.toNat []).length:Int)),(37,.i64 u)] (G9 c f k q) 1) (cN (dM Tryz.f109.ntmps 2 (fun _=>ay [(1,.adr 0 0 2 0),(21,.p c (.slice (.slice (.int .i64))) f),(22,.i64 (f.length:Int)),(23,.i64 j)] (G9 c f k q) 1)) (eQ tb Tryz.f109.results.toList (fun M=>[⟨.bool,M⟩]))) (gg [] [0]) (fun u o h=> ?_) (fun R h e σ' A=> ?_)))))
   ·unfold o7 at h;refine G (af (aA h (fun E h=> ?_) (fun E h=> ?_)))
    ·refine ae (ab (af (ak (GC 0 h (fun h=>af (bg h (fun v=>ay [(1,.adr 0 0 2 0),(21,.p c (.slice (.slice (.int .i64))) f),(22,.i64 (f.length:Int)),(23,.i64 j),(35,.p c (.slice (.int .i64)) (f.getD j.toNat [])),(36,.i64 ((f.getD j.toNat []).length:Int)),(37,.i64 u),(49,.bo v)] (G9 c f k q) 1) (fun v h=> ?_) (fun v h=> ?_)))))))
     ·rcases aF h with⟨m,h⟩ | ⟨m,h⟩
      ·exact bq ⟨[(2,true),(8,true)],[]⟩ [(3,8,oc m)] (eN h (gg [] [0]))
      exact bq ⟨[(2,false),(8,false)],[]⟩ [(3,7,an m),(8,8,oc m)] (eN h (gg [] [0]))
     refine ab (aA h (fun I h=> ?_) (fun I h=> ?_))
     ·refine G (ao ?_);obtain rfl:=sI h;refine az (ah (br (aK ?_)));exact bu (RI [.bool])
     refine ae (au (ab (Ge ?_)));exact eB h (gg [] [0])
    refine aq (aL ?_);obtain rfl:=sI h;refine cR (aX ?_);exact bC (gg [] [0])
   rcases R with _ | M
   ·obtain⟨rfl,x⟩:=A;refine bY ?_ x;refine av (au (ab (Ge ?_)));exact eB h (gg [] [0])
   obtain⟨rfl,J⟩:=A;obtain rfl:=sI h;refine az (az (ah (br (aK ?_))));exact bu J
  refine aq (aL ?_);obtain rfl:=sI h;refine cR (aX ?_);exact bC (gg [] [])
 rcases O with _ | L
 ·obtain⟨rfl,x⟩:=A;refine bY ?_ x;refine av (ab (G (ao ?_)));obtain rfl:=sI h;exact RI [.bool]
 obtain⟨rfl,J⟩:=A;refine az (ah ?_);obtain rfl:=sI h;exact J
def j3(e:Int)(_:List (List Int))(f c:List Int):Option (List Int) :=
 (if 0≤e∧e<(f.length:Int)then(if(c.length+([(i64.wrap (f.getD e.toNat 0))]:List Int).length)*8≤140737488355328∧c.length+([(i64.wrap (f.getD e.toNat 0))]:List Int).length≤9223372036854775807 then some (c++([(i64.wrap (f.getD e.toNat 0))]:List Int))else none)else none)
theorem rf(f j:Bool){k:Int}{q:List (List Int)}{m c e:List Int}(h:j3 k q m c=some e):
  ff Tryz.prog 111 [.i64 k,.sl 0,.fad true [.p f (.slice (.slice (.int .i64))) q,.p j (.slice (.int .u32)) m] 0] [(0,.arr 3 (.int .i64) c)] (.sl 1) [(1,.arr 3 (.int .i64) e)]:=by
 refine OB Tryz.func111 (fun Bw w0=> ?_);unfold j3 at h;refine G ?_;obtain⟨u,v,h⟩:=g2 h;refine GN a0 [(4,4,oc u),(8,8,oc v)] (ao ?_);obtain rfl:=sI h;exact RO [none] [] [0,73] [(5,.sl 1)] [(1,.arr 3 (.int .i64) (c++([(i64.wrap (m.getD k.toNat 0))]:List Int)))] 2 1
def oJ(e:List Int):tP→Option (tP⊕(List Int)):=fun(f,c) =>
 (if(decide (c<(e.length:Int)))=true then(if 0≤c∧c<(e.length:Int)then(if c.toNat<e.length then(if 0≤(8:Int)then(if 0≤(16:Int)then(if 0≤(24:Int)then(if(f.length+([(u8.wrap (e.getD c.toNat 0)),(u8.wrap (Int.fdiv (e.getD c.toNat 0) (2 ^ (min (8:Int).toNat i64.bits)))),(u8.wrap (Int.fdiv (e.getD c.toNat 0) (2 ^ (min (16:Int).toNat i64.bits)))),(u8.wrap (Int.fdiv (e.getD c.toNat 0) (2 ^ (min (24:Int).toNat i64.bits))))]:List Int).length)*1≤140737488355328∧f.length+([(u8.wrap (e.getD c.toNat 0)),(u8.wrap (Int.fdiv (e.getD c.toNat 0) (2 ^ (min (8:Int).toNat i64.bits)))),(u8.wrap (Int.fdiv (e.getD c.toNat 0) (2 ^ (min (16:Int).toNat i64.bits)))),(u8.wrap (Int.fdiv (e.getD c.toNat 0) (2 ^ (min (24:Int).toNat i64.bits))))]:List Int).length≤9223372036854775807 then some (Sum.inl ((f++([(u8.wrap (e.getD c.toNat 0)),(u8.wrap (Int.fdiv (e.getD c.toNat 0) (2 ^ (min (8:Int).toNat i64.bits)))),(u8.wrap (Int.fdiv (e.getD c.toNat 0) (2 ^ (min (16:Int).toNat i64.bits)))),(u8.wrap (Int.fdiv (e.getD c.toNat 0) (2 ^ (min (24:Int).toNat i64.bits))))]:List Int)),(i64.wrap (c+1))))else none)else none)else none)else none)else none)else none)
 else some (Sum.inr f))
def pe(p:Int)(q:List (List Int))(u:List Int):((List Z6)×(List Int)×(List Int)×Int)→Option (((List Z6)×(List Int)×(List Int)×Int)⊕(List Int)):=fun(e,v20,j,c) =>
 (if(decide (c<p))=true then(if 0≤(0:Int)∧0≤(j.length:Int)then((j3 c q u (j.take (0:Int).toNat)).bind fun m =>
 ((iter (oJ m) (([]:List Int),0)).bind fun f=>(((if(!((bc .str e (bytesOf f)).isSome))=true then some (((dN .str e (bytesOf f) (e.length:Int)),(e.length:Int)))
 else some ((e,((bc .str e (bytesOf f)).getD 0))))).bind fun(k,v30)=>(if 0≤c∧c<(v20.length:Int)then(if c.toNat<v20.length then some (Sum.inl (k,(v20.set c.toNat v30),m,(i64.wrap (c+1))))else none)else none))))else none)
 else some (Sum.inr v20))
def pL(c:Int)(f:List (List Int))(j:List Int):Option (List Int) :=
 (if 0≤c∧c≤c∧8*c≤281474976710656∧c≤9223372036854775807 then((iter (pe c f j) (([]:List Z6),(List.replicate c.toNat (0:Int)),([]:List Int),0)).bind fun e=>some e)else none)
theorem wN(e f:Bool){k:Int}{m:List (List Int)}{q u:List Int}(h:pL k m q=some u):
  Pure Tryz.prog 110 [.i64 k,.fn 111 [.fad true [.p e (.slice (.slice (.int .i64))) m,.p f (.slice (.int .u32)) q] 0]] (aG (aU false [⟨(.slice (.int .i64)),u⟩])):=by
 refine PB Tryz.func110 (fun Bw w0=> ?_);unfold pL at h;refine G (G (GC 1 h (fun h=>G (af (G (ak (cd h (fun(j,v20,v,c)=>ay [(1,.fn 111 [.fad true [.p e (.slice (.slice (.int .i64))) m,.p f (.slice (.int .u32)) q] 0]),(5,.mp 0),(6,.sl 1),(7,.sl 2),(17,.i64 k),(18,.i64 c)] (Ib j v20 v) 3) 0 (fun x=>ay [(6,.sl 0)] [(0,.arr 3 (.int .i64) x)] 1) (gg [.nilS 7 72 3 (.int .i64)] [8,32,72]) (fun y o h=> ?_) (fun x h=> ?_))))))))
 ·obtain⟨j,v20,v,c⟩:=y;unfold pe at h;refine G (af (aA h (fun X h=> ?_) (fun X h=> ?_)))
  ·refine ae (ab (af (ak (G ?_))));obtain⟨Y,h⟩:=aD h;obtain⟨V,q6,h⟩:=aj h;have z:=(rf e f q6);refine GN ⟨[],[(4,(oO z [51]))]⟩ [(3,3,oc Y),(4,4,oc z)] (G (af (G (ak (cd h (fun(A,B)=>ay [(1,.fn 111 [.fad true [.p e (.slice (.slice (.int .i64))) m,.p f (.slice (.int .u32)) q] 0]),(5,.mp 0),(6,.sl 1),(7,.sl 2),(8,.i64 c),(9,.sl 3),(17,.i64 k),(18,.i64 c),(26,.sl 2),(27,.i64 (V.length:Int)),(28,.i64 B)] (IG j v20 V A) 4) 2 (fun C=>ay [(1,.fn 111 [.fad true [.p e (.slice (.slice (.int .i64))) m,.p f (.slice (.int .u32)) q] 0]),(5,.mp 0),(6,.sl 1),(7,.sl 2),(8,.i64 c),(9,.sl 3),(17,.i64 k),(18,.i64 c)] (IG j v20 V C) 4) (gg [.nilS 9 107 5 (.int .u8)] [0,1,59,107]) (fun y o h=> ?_) (fun C h=> ?_))))))
   ·obtain⟨A,B⟩:=y;unfold oJ at h;refine G (af (aA h (fun Z h=> ?_) (fun Z h=> ?_)))
    ·refine ae (ab (af (ak ?_)));obtain⟨D,E,h⟩:=g2 h;refine GN a0 [(0,0,oc D),(1,1,oc E)] ?_;obtain⟨I,J,L,M,h⟩:=g4 h;refine bq a0 [(4,4,oc I),(7,7,oc J),(10,10,oc L),(13,13,oc M)] (au (ab (Ge ?_)));exact eB h (gg [] [0,1,2,140])
    refine aq (aL ?_);exact eX h (gg [] [0,1,2,3])
   refine av (ab (G (af (G (bg h (fun(N,v30)=>ay [(1,.fn 111 [.fad true [.p e (.slice (.slice (.int .i64))) m,.p f (.slice (.int .u32)) q] 0]),(5,.mp 0),(6,.sl 1),(7,.sl 2),(8,.i64 c),(12,.i64 v30),(17,.i64 k),(18,.i64 c)] (Ib N v20 V) 3) (fun r9 h=> ?_) (fun r9 h=> ?_))))))
   ·refine aA h (fun a1 h=> ?_) (fun a1 h=> ?_)
    ·refine G (Ge ?_);exact eN h (gg [] [0,1,2])
    exact ae (eN h (gg [] [0,1,2]))
   obtain⟨N,v30⟩:=r9;refine ab ?_;obtain⟨O,R,h⟩:=g2 h;refine bq a0 [(3,3,oc O),(4,4,oc R)] (au (ab (Ge ?_)));exact eB h (gg [] [0,1,2])
  refine aq (aL ?_);exact eX h (gg [] [1])
 refine av (ab (G (ao ?_)));obtain rfl:=sI h;exact RI [(.slice (.int .i64))]
def lq(e:Int)(j:List Int)(f:List (List Int)):tP→Option (tP⊕(List Int)):=fun(c,v4) =>
 (if(decide (v4<((f.getD e.toNat []).length:Int)))=true then(if 0≤v4∧v4<((f.getD e.toNat []).length:Int)then(if 0≤((f.getD e.toNat []).getD v4.toNat 0)∧((f.getD e.toNat []).getD v4.toNat 0)<(j.length:Int)then(if(c.length+([(j.getD (((f.getD e.toNat []).getD v4.toNat 0).toNat) 0)]:List Int).length)*8≤140737488355328∧c.length+([(j.getD (((f.getD e.toNat []).getD v4.toNat 0).toNat) 0)]:List Int).length≤9223372036854775807 then some (Sum.inl ((c++([(j.getD (((f.getD e.toNat []).getD v4.toNat 0).toNat) 0)]:List Int)),(i64.wrap (v4+1))))else none)else none)else none)
 else some (Sum.inr c))
def j9(e:Int)(f:List Int)(k:List (List Int))(_ c:List Int):Option (List Int) :=
 (if 0≤e∧e<(f.length:Int)then(if(c.length+([(f.getD e.toNat 0)]:List Int).length)*8≤140737488355328∧c.length+([(f.getD e.toNat 0)]:List Int).length≤9223372036854775807 then(if 0≤e∧e<(k.length:Int)then((iter (lq e f k) ((c++([(f.getD e.toNat 0)]:List Int)),0)).bind fun j=>some j)else none)else none)else none)
theorem qU(j k v:Bool){q:Int}{x:List Int}{u:List (List Int)}{D e m:List Int}(h:j9 q x u D e=some m):
  ff Tryz.prog 112 [.i64 q,.sl 0,.fad true [.p j (.slice (.int .i64)) x] 0,.fad true [.p k (.slice (.slice (.int .i64))) u,.p v (.slice (.int .u32)) D] 0] [(0,.arr 3 (.int .i64) e)] (.sl 1) [(1,.arr 3 (.int .i64) m)]:=by
 refine OB Tryz.func112 (fun Bw w0=> ?_);unfold j9 at h;refine G ?_;obtain⟨z,A,h⟩:=g2 h;refine GN a0 [(3,3,oc z),(6,6,oc A)] (af (GC 3 h (fun h=>ak (cd h (fun(f,v4)=>ay [(1,.sl 1),(2,.fad true [.p j (.slice (.int .i64)) x] 0),(20,.p k (.slice (.int .i64)) (u.getD q.toNat [])),(21,.i64 ((u.getD q.toNat []).length:Int)),(22,.i64 v4)] [(1,.arr 3 (.int .i64) f)] 2 1) 0 (fun c=>ay [(1,.sl 1)] [(1,.arr 3 (.int .i64) c)] 2 1) (gg [] [0,57]) (fun y o h=> ?_) (fun c h=> ?_)))))
 ·obtain⟨f,v4⟩:=y;unfold lq at h;refine G (af (aA h (fun E h=> ?_) (fun E h=> ?_)))
  ·refine ae (ab (af (ak (GC 0 h (fun h=> ?_)))));obtain⟨B,C,h⟩:=g2 h;refine bq a0 [(3,3,oc B),(6,6,oc C)] (au (ab (Ge ?_)));exact eB h (gg [] [0,82])
  refine aq (aL ?_);exact eX h (gg [] [0,1])
 refine av (ab (G (ao ?_)));obtain rfl:=sI h;exact RO [none] [] [0,1] [(6,.sl 1)] [(1,.arr 3 (.int .i64) c)] 2 1
def lY(e:List Int):tP→Option (tP⊕(List Int)):=fun(f,c) =>
 (if(decide (c<(e.length:Int)))=true then(if 0≤c∧c<(e.length:Int)then(if c.toNat<e.length then(if 0≤(8:Int)then(if 0≤(16:Int)then(if 0≤(24:Int)then(if(f.length+([(u8.wrap (e.getD c.toNat 0)),(u8.wrap (Int.fdiv (e.getD c.toNat 0) (2 ^ (min (8:Int).toNat i64.bits)))),(u8.wrap (Int.fdiv (e.getD c.toNat 0) (2 ^ (min (16:Int).toNat i64.bits)))),(u8.wrap (Int.fdiv (e.getD c.toNat 0) (2 ^ (min (24:Int).toNat i64.bits))))]:List Int).length)*1≤140737488355328∧f.length+([(u8.wrap (e.getD c.toNat 0)),(u8.wrap (Int.fdiv (e.getD c.toNat 0) (2 ^ (min (8:Int).toNat i64.bits)))),(u8.wrap (Int.fdiv (e.getD c.toNat 0) (2 ^ (min (16:Int).toNat i64.bits)))),(u8.wrap (Int.fdiv (e.getD c.toNat 0) (2 ^ (min (24:Int).toNat i64.bits))))]:List Int).length≤9223372036854775807 then some (Sum.inl ((f++([(u8.wrap (e.getD c.toNat 0)),(u8.wrap (Int.fdiv (e.getD c.toNat 0) (2 ^ (min (8:Int).toNat i64.bits)))),(u8.wrap (Int.fdiv (e.getD c.toNat 0) (2 ^ (min (16:Int).toNat i64.bits)))),(u8.wrap (Int.fdiv (e.getD c.toNat 0) (2 ^ (min (24:Int).toNat i64.bits))))]:List Int)),(i64.wrap (c+1))))else none)else none)else none)else none)else none)else none)
 else some (Sum.inr f))
def lO(p:Int)(q:List Int)(u:List (List Int))(v:List Int):((List Z6)×(List Int)×(List Int)×Int)→Option (((List Z6)×(List Int)×(List Int)×Int)⊕(List Int)):=fun(e,v20,j,c) =>
 (if(decide (c<p))=true then(if 0≤(0:Int)∧0≤(j.length:Int)then((j9 c q u v (j.take (0:Int).toNat)).bind fun m =>
 ((iter (lY m) (([]:List Int),0)).bind fun f=>(((if(!((bc .str e (bytesOf f)).isSome))=true then some (((dN .str e (bytesOf f) (e.length:Int)),(e.length:Int)))
 else some ((e,((bc .str e (bytesOf f)).getD 0))))).bind fun(k,v30)=>(if 0≤c∧c<(v20.length:Int)then(if c.toNat<v20.length then some (Sum.inl (k,(v20.set c.toNat v30),m,(i64.wrap (c+1))))else none)else none))))else none)
 else some (Sum.inr v20))
def lf(c:Int)(f:List Int)(j:List (List Int))(k:List Int):Option (List Int) :=
 (if 0≤c∧c≤c∧8*c≤281474976710656∧c≤9223372036854775807 then((iter (lO c f j k) (([]:List Z6),(List.replicate c.toNat (0:Int)),([]:List Int),0)).bind fun e=>some e)else none)
theorem tg(e f j:Bool){m:Int}{q:List Int}{u:List (List Int)}{v x:List Int}(h:lf m q u v=some x):
  Pure Tryz.prog 110 [.i64 m,.fn 112 [.fad true [.p e (.slice (.int .i64)) q] 0,.fad true [.p f (.slice (.slice (.int .i64))) u,.p j (.slice (.int .u32)) v] 0]] (aG (aU false [⟨(.slice (.int .i64)),x⟩])):=by
 refine PB Tryz.func110 (fun Bw w0=> ?_);unfold lf at h;refine G (G (GC 1 h (fun h=>G (af (G (ak (cd h (fun(k,v20,z,c)=>ay [(1,.fn 112 [.fad true [.p e (.slice (.int .i64)) q] 0,.fad true [.p f (.slice (.slice (.int .i64))) u,.p j (.slice (.int .u32)) v] 0]),(5,.mp 0),(6,.sl 1),(7,.sl 2),(17,.i64 m),(18,.i64 c)] (Ib k v20 z) 3) 0 (fun A=>ay [(6,.sl 0)] [(0,.arr 3 (.int .i64) A)] 1) (gg [.nilS 7 72 3 (.int .i64)] [8,32,72]) (fun y o h=> ?_) (fun A h=> ?_))))))))
 ·obtain⟨k,v20,z,c⟩:=y;unfold lO at h;refine G (af (aA h (fun Z h=> ?_) (fun Z h=> ?_)))
  ·refine ae (ab (af (ak (G ?_))));obtain⟨a1,h⟩:=aD h;obtain⟨Y,q6,h⟩:=aj h;have B:=(qU e f j q6);refine GN ⟨[],[(4,(oO B [51]))]⟩ [(3,3,oc a1),(4,4,oc B)] (G (af (G (ak (cd h (fun(C,D)=>ay [(1,.fn 112 [.fad true [.p e (.slice (.int .i64)) q] 0,.fad true [.p f (.slice (.slice (.int .i64))) u,.p j (.slice (.int .u32)) v] 0]),(5,.mp 0),(6,.sl 1),(7,.sl 2),(8,.i64 c),(9,.sl 3),(17,.i64 m),(18,.i64 c),(26,.sl 2),(27,.i64 (Y.length:Int)),(28,.i64 D)] (IG k v20 Y C) 4) 2 (fun E=>ay [(1,.fn 112 [.fad true [.p e (.slice (.int .i64)) q] 0,.fad true [.p f (.slice (.slice (.int .i64))) u,.p j (.slice (.int .u32)) v] 0]),(5,.mp 0),(6,.sl 1),(7,.sl 2),(8,.i64 c),(9,.sl 3),(17,.i64 m),(18,.i64 c)] (IG k v20 Y E) 4) (gg [.nilS 9 107 5 (.int .u8)] [0,1,59,107]) (fun y o h=> ?_) (fun E h=> ?_))))))
   ·obtain⟨C,D⟩:=y;unfold lY at h;refine G (af (aA h (fun a2 h=> ?_) (fun a2 h=> ?_)))
    ·refine ae (ab (af (ak ?_)));obtain⟨I,J,h⟩:=g2 h;refine GN a0 [(0,0,oc I),(1,1,oc J)] ?_;obtain⟨L,M,N,O,h⟩:=g4 h;refine bq a0 [(4,4,oc L),(7,7,oc M),(10,10,oc N),(13,13,oc O)] (au (ab (Ge ?_)));exact eB h (gg [] [0,1,2,140])
    refine aq (aL ?_);exact eX h (gg [] [0,1,2,3])
   refine av (ab (G (af (G (bg h (fun(R,v30)=>ay [(1,.fn 112 [.fad true [.p e (.slice (.int .i64)) q] 0,.fad true [.p f (.slice (.slice (.int .i64))) u,.p j (.slice (.int .u32)) v] 0]),(5,.mp 0),(6,.sl 1),(7,.sl 2),(8,.i64 c),(12,.i64 v30),(17,.i64 m),(18,.i64 c)] (Ib R v20 Y) 3) (fun r9 h=> ?_) (fun r9 h=> ?_))))))
   ·refine aA h (fun a3 h=> ?_) (fun a3 h=> ?_)
    ·refine G (Ge ?_);exact eN h (gg [] [0,1,2])
    exact ae (eN h (gg [] [0,1,2]))
   obtain⟨R,v30⟩:=r9;refine ab ?_;obtain⟨V,X,h⟩:=g2 h;refine bq a0 [(3,3,oc V),(4,4,oc X)] (au (ab (Ge ?_)));exact eB h (gg [] [0,1,2])
  refine aq (aL ?_);exact eX h (gg [] [1])
 refine av (ab (G (ao ?_)));obtain rfl:=sI h;exact RI [(.slice (.int .i64))]
def qz(e:List Int):(Int×Int)→Option ((Int×Int)⊕(Int)):=fun(f,c) =>
 (if(decide (c<(e.length:Int)))=true then(if 0≤c∧c<(e.length:Int)then some (Sum.inl ((max f (e.getD c.toNat 0)),(i64.wrap (c+1))))else none)
 else some (Sum.inr f))
def kS(c:List Int):Option (Int) :=
 ((iter (qz c) (0,0)).bind fun e=>some e)
theorem mq(c:Bool){f:List Int}{e:Int}(h:kS f=some e):
  Pure Tryz.prog 113 [.p c (.slice (.int .i64)) f] (aG (aU false [⟨(.int .i64),e⟩])):=by
 refine PB Tryz.func113 (fun Bw w0=> ?_);unfold kS at h;refine G (G (af (G (ak (cd h (fun(j,k)=>ay [(3,.i64 j),(6,.p c (.slice (.int .i64)) f),(7,.i64 (f.length:Int)),(8,.i64 k)] [] 0) 0 (fun m=>ay [(3,.i64 m)] [] 0) (gg [] []) (fun y o h=> ?_) (fun m h=> ?_))))))
 ·obtain⟨j,k⟩:=y;unfold qz at h;refine G (af (aA h (fun q h=> ?_) (fun q h=> ?_)))
  ·refine ae (ab (af (ak (GC 0 h (fun h=>Ge (au (ab (Ge ?_))))))));exact eB h (gg [] [])
  refine aq (aL ?_);exact eX h (gg [] [])
 refine av (ab (G (ao ?_)));obtain rfl:=sI h;exact RI [(.int .i64)]
def ot(e:Int):tP→Option (tP⊕(List Int)):=fun(c,v4) =>
 (if(decide (v4<((List.replicate (i64.wrap (e+1)).toNat (0:Int)).length:Int)))=true then(if 0≤v4∧v4<(c.length:Int)then(if v4.toNat<c.length then some (Sum.inl ((c.set v4.toNat (-1:Int)),(i64.wrap (v4+1))))else none)else none)
 else some (Sum.inr c))
def oh(j:List (List Int))(k e:List Int)(f:Int):((List Int)×(List Int)×(List Int)×Int)→Option (((List Int)×(List Int)×(List Int)×Int)⊕((List Int)×(List Int)×List Int)):=fun(m,p,u,c) =>
 (if(decide (c<((j.getD ((e.getD f.toNat 0).toNat) []).length:Int)))=true then(if 0≤c∧c<((j.getD ((e.getD f.toNat 0).toNat) []).length:Int)then(if 0≤((j.getD ((e.getD f.toNat 0).toNat) []).getD c.toNat 0)∧((j.getD ((e.getD f.toNat 0).toNat) []).getD c.toNat 0)<(k.length:Int)then(if 0≤(k.getD (((j.getD ((e.getD f.toNat 0).toNat) []).getD c.toNat 0).toNat) 0)∧(k.getD (((j.getD ((e.getD f.toNat 0).toNat) []).getD c.toNat 0).toNat) 0)<(m.length:Int)then(if(k.getD (((j.getD ((e.getD f.toNat 0).toNat) []).getD c.toNat 0).toNat) 0).toNat<m.length then(((if(decide ((m.getD ((k.getD (((j.getD ((e.getD f.toNat 0).toNat) []).getD c.toNat 0).toNat) 0).toNat) 0)<0))=true then(if 0≤((j.getD ((e.getD f.toNat 0).toNat) []).getD c.toNat 0)∧((j.getD ((e.getD f.toNat 0).toNat) []).getD c.toNat 0)<(k.length:Int)then(if 0≤(k.getD (((j.getD ((e.getD f.toNat 0).toNat) []).getD c.toNat 0).toNat) 0)∧(k.getD (((j.getD ((e.getD f.toNat 0).toNat) []).getD c.toNat 0).toNat) 0)<(m.length:Int)then(if(k.getD (((j.getD ((e.getD f.toNat 0).toNat) []).getD c.toNat 0).toNat) 0).toNat<m.length then(if(p.length+([((j.getD ((e.getD f.toNat 0).toNat) []).getD c.toNat 0)]:List Int).length)*8≤140737488355328∧p.length+([((j.getD ((e.getD f.toNat 0).toNat) []).getD c.toNat 0)]:List Int).length≤9223372036854775807 then some (((m.set ((k.getD (((j.getD ((e.getD f.toNat 0).toNat) []).getD c.toNat 0).toNat) 0).toNat) (p.length:Int)),(p++([((j.getD ((e.getD f.toNat 0).toNat) []).getD c.toNat 0)]:List Int))))else none)else none)else none)else none)
 else some ((m,p)))).bind fun(q,v)=>(if 0≤((j.getD ((e.getD f.toNat 0).toNat) []).getD c.toNat 0)∧((j.getD ((e.getD f.toNat 0).toNat) []).getD c.toNat 0)<(k.length:Int)then(if 0≤(k.getD (((j.getD ((e.getD f.toNat 0).toNat) []).getD c.toNat 0).toNat) 0)∧(k.getD (((j.getD ((e.getD f.toNat 0).toNat) []).getD c.toNat 0).toNat) 0)<(q.length:Int)then(if(k.getD (((j.getD ((e.getD f.toNat 0).toNat) []).getD c.toNat 0).toNat) 0).toNat<q.length then(if(u.length+([(q.getD ((k.getD (((j.getD ((e.getD f.toNat 0).toNat) []).getD c.toNat 0).toNat) 0).toNat) 0)]:List Int).length)*8≤140737488355328∧u.length+([(q.getD ((k.getD (((j.getD ((e.getD f.toNat 0).toNat) []).getD c.toNat 0).toNat) 0).toNat) 0)]:List Int).length≤9223372036854775807 then some (Sum.inl (q,v,(u++([(q.getD ((k.getD (((j.getD ((e.getD f.toNat 0).toNat) []).getD c.toNat 0).toNat) 0).toNat) 0)]:List Int)),(i64.wrap (c+1))))else none)else none)else none)else none))else none)else none)else none)else none)
 else some (Sum.inr (m,p,u)))
def oa(v:List (List Int))(p x:List Int):((List (List Int))×(List Int)×(List Int)×(List Int)×Int)→Option (((List (List Int))×(List Int)×(List Int)×(List Int)×Int)⊕Ep):=fun(j,k,q,f,c) =>
 (if(decide (c<(f.length:Int)))=true then(if 0≤c∧c<(f.length:Int)then(if c.toNat<f.length then(if 0≤(f.getD c.toNat 0)∧(f.getD c.toNat 0)<(v.length:Int)then((iter (oh v x f c) (q,f,([]:List Int),0)).bind fun(u,e,m)=>(if(j.length+([m]:List (List Int)).length)*24≤140737488355328∧j.length+([m]:List (List Int)).length≤9223372036854775807 then(if 0≤c∧c<(e.length:Int)then(if c.toNat<e.length then(if 0≤(e.getD c.toNat 0)∧(e.getD c.toNat 0)<(p.length:Int)then(if(k.length+([(p.getD ((e.getD c.toNat 0).toNat) 0)]:List Int).length)*4≤140737488355328∧k.length+([(p.getD ((e.getD c.toNat 0).toNat) 0)]:List Int).length≤9223372036854775807 then some (Sum.inl ((j++([m]:List (List Int))),(k++([(p.getD ((e.getD c.toNat 0).toNat) 0)]:List Int)),u,e,(i64.wrap (c+1))))else none)else none)else none)else none)else none))else none)else none)else none)
 else some (Sum.inr (j,k)))
def nj(m:List (List Int))(p c:List Int):Option Ep :=
 ((kS c).bind fun e =>
 (if 0≤(i64.wrap (e+1))∧(i64.wrap (e+1))≤(i64.wrap (e+1))∧8*(i64.wrap (e+1))≤281474976710656∧(i64.wrap (e+1))≤9223372036854775807 then((iter (ot e) ((List.replicate (i64.wrap (e+1)).toNat (0:Int)),0)).bind fun f=>(if 0≤(0:Int)∧0<(c.length:Int)then(if 0≤(c.getD ((0:Int).toNat) 0)∧(c.getD ((0:Int).toNat) 0)<(f.length:Int)then(if(c.getD ((0:Int).toNat) 0).toNat<f.length then((iter (oa m p c) (([]:List (List Int)),([]:List Int),(f.set ((c.getD ((0:Int).toNat) 0).toNat) 0),([0]:List Int),0)).bind fun(j,k)=>some (j,k))else none)else none)else none))else none))
theorem vg(e j f:Bool){m:List (List Int)}{x z:List Int}{B:(List (List Int))×List Int}(h:nj m x z=some B):
  Pure Tryz.prog 114 [.agg [.p e (.slice (.slice (.int .i64))) m,.p j (.slice (.int .u32)) x],.p f (.slice (.int .i64)) z] (aG (aU false [⟨CP,B⟩])):=by
 refine PB Tryz.func114 (fun Bw w0=> ?_);unfold nj at h;refine G (G ?_);obtain⟨r2,q2,h⟩:=aj h;obtain⟨c2,h⟩:=aD h;have C:=(mq f q2);refine GN ⟨[],[(1,(oP C))]⟩ [(1,1,oc C),(3,3,oc c2)] (af (G (ak (cd h (fun(v3,v4)=>ay [(1,.p f (.slice (.int .i64)) z),(2,.adr 0 0 2 0),(4,.adr 1 0 2 0),(5,.adr 2 0 2 0),(6,.sl 3),(18,.i64 ((List.replicate (i64.wrap (r2+1)).toNat (0:Int)).length:Int)),(19,.i64 v4)] (KA e m j x v3) 4) 0 (fun v5=>ay [(1,.p f (.slice (.int .i64)) z),(2,.adr 0 0 2 0),(4,.adr 1 0 2 0),(5,.adr 2 0 2 0),(6,.sl 3)] (KA e m j x v5) 4) (gg [] [0,8,16,48]) (fun y o h=> ?_) (fun v5 h=> ?_)))))
 ·obtain⟨v3,v4⟩:=y;unfold ot at h;refine G (af (aA h (fun B3 h=> ?_) (fun B3 h=> ?_)))
  ·refine ae (ab (af (ak (G ?_))));obtain⟨b4,b5,h⟩:=g2 h;refine bq a0 [(2,2,oc b4),(3,3,oc b5)] (au (ab (Ge ?_)));exact eB h (gg [] [0,1,2,3])
  refine aq (aL ?_);exact eX h (gg [] [0,1,2,3])
 refine av (ab (G ?_));obtain⟨b6,be,bi,h⟩:=g3 h;refine GN a0 [(2,2,oc b6),(4,4,oc be),(5,5,oc bi)] (af (G (ak (cd h (fun(q,u,D,k,c)=>ay [(1,.p f (.slice (.int .i64)) z),(2,.adr 0 0 2 0),(4,.adr 1 0 2 0),(5,.adr 2 0 2 0),(6,.sl 5),(8,.sl 6),(9,.i64 c)] (LI e m j x q u D k) 7) 2 (fun(E,I)=>ay [(4,.adr 0 0 2 0),(5,.adr 1 0 2 0)] (KV E I) 4) (gg [.nilC 2 0 76 80 (.slice (.int .i64)),.nilC 2 1 77 136 (.int .u32)] [0,1,2,76,77,3,4]) (fun y o h=> ?_) (fun bs h=> ?_)))))
 ·obtain⟨q,u,D,k,c⟩:=y;unfold oa at h;refine af (G (aA h (fun bt h=> ?_) (fun bt h=> ?_)))
  ·refine ae (ab (af (ak (G (af ?_)))));obtain⟨J,L,M,h⟩:=g3 h;refine GD a0 [(4,4,oc J),(5,5,oc L),(6,6,oc M)] (ak (cd h (fun(N,O,A,v)=>ay [(1,.p f (.slice (.int .i64)) z),(2,.adr 0 0 2 0),(4,.adr 1 0 2 0),(5,.adr 2 0 2 0),(6,.sl 5),(8,.sl 6),(9,.i64 c),(10,.sl 7),(45,.p e (.slice (.int .i64)) (m.getD ((k.getD c.toNat 0).toNat) [])),(46,.i64 ((m.getD ((k.getD c.toNat 0).toNat) []).length:Int)),(47,.i64 v)] (Kf e m j x q u N O A) 8) 4 (fun(R,V,X)=>ay [(1,.p f (.slice (.int .i64)) z),(2,.adr 0 0 2 0),(4,.adr 1 0 2 0),(5,.adr 2 0 2 0),(6,.sl 5),(8,.sl 6),(9,.i64 c),(10,.sl 7)] (Kf e m j x q u R V X) 8) (gg [.nilS 10 127 3 (.int .i64)] [0,1,2,3,4,5,6,127]) (fun y o h=> ?_) (fun bv h=> ?_)))
   ·obtain⟨N,O,A,v⟩:=y;unfold oh at h;refine G (af (aA h (fun bx h=> ?_) (fun bx h=> ?_)))
    ·refine ae (ab (af (ak (GC 0 h (fun h=>af ?_)))));obtain⟨Y,Z,a1,h⟩:=g3 h;refine GN a0 [(3,3,oc Y),(5,5,oc Z),(6,6,oc a1)] (bg h (fun(a2,a3)=>ay [(1,.p f (.slice (.int .i64)) z),(2,.adr 0 0 2 0),(4,.adr 1 0 2 0),(5,.adr 2 0 2 0),(6,.sl 5),(8,.sl 6),(9,.i64 c),(10,.sl 7),(12,.i64 ((m.getD ((k.getD c.toNat 0).toNat) []).getD v.toNat 0)),(45,.p e (.slice (.int .i64)) (m.getD ((k.getD c.toNat 0).toNat) [])),(46,.i64 ((m.getD ((k.getD c.toNat 0).toNat) []).length:Int)),(47,.i64 v)] (Kf e m j x q u a2 a3 A) 8) (fun a4 h=> ?_) (fun a4 h=> ?_))
     ·refine aA h (fun c1 h=> ?_) (fun c1 h=> ?_)
      ·obtain⟨a5,a6,a7,h⟩:=g3 h;refine GN a0 [(3,3,oc a5),(7,7,oc a6),(8,8,oc a7)] (tq 3 h (fun h=> ?_));exact eN h (gg [] [0,1,2,3,4,5,200,7])
      exact ae (eN h (gg [] [0,1,2,3,4,5,6,7]))
     obtain⟨a2,a3⟩:=a4;refine ab ?_;obtain⟨a8,a9,aa,ac,h⟩:=g4 h;refine bq a0 [(4,4,oc a8),(6,6,oc a9),(7,7,oc aa),(9,9,oc ac)] (au (ab (Ge ?_)));exact eB h (gg [] [0,1,2,3,4,5,6,80])
    refine aq (aL ?_);exact eX h (gg [] [0,1,2,3,4,5,6,7])
   obtain⟨R,V,X⟩:=bv;refine av (ab ?_);obtain⟨ad,ax,b1,b2,h⟩:=g4 h;obtain⟨b3,h⟩:=aD h;refine jC a0 [(4,4,oc ad),(11,11,oc ax),(12,12,oc b1),(13,13,oc b2),(16,16,oc b3)] (au (ab (Ge ?_)));exact eB h (gg [] [0,1,2,40,136,5,6])
  refine aq (aL ?_);exact eX h (gg [] [1,2,3,4])
 obtain⟨E,I⟩:=bs;refine av (ab (G (nA [.frzC 0 0,.frzC 0 1] (by kernel_rfl) (ao ?_))));obtain rfl:=sI h;exact RI [CP]
def qp(k:List (List Int))(m:List Int):(List Int)→Option ((List Int)⊕(List Int)):=fun c =>
 ((lf (c.length:Int) c k m).bind fun e =>
 ((kS e).bind fun f =>
 ((kS c).bind fun j =>
 (if(f == j)=true then some (Sum.inr c)
 else some (Sum.inl e)))))
def nr(j:List (List Int))(e:List Int):Option (Ep×Int) :=
 ((pz j e).bind fun k =>
 (if(!k)=true then some ((([]:List (List Int)),([]:List Int)),2)
 else((pL (e.length:Int) j e).bind fun m =>
 ((iter (qp j e) m).bind fun c=>((nj j e c).bind fun f =>
 some ((f.1,f.2),0))))))
theorem qC(c e:Bool){u:List (List Int)}{v:List Int}{k:Ep×Int}(h:nr u v=some k):
  Pure Tryz.prog 75 [.agg [.p c (.slice (.slice (.int .i64))) u,.p e (.slice (.int .u32)) v]] (aG (aU false [⟨CP,k.1⟩,⟨(.int .i64),k.2⟩])):=by
 refine PB Tryz.func75 (fun Bw w0=> ?_);unfold nr at h;refine G (af ?_);obtain⟨O,C,h⟩:=aj h;refine GP 1 (xP c e C) (aA h (fun D h=> ?_) (fun D h=> ?_))
 ·refine G (ao (ah ?_));obtain rfl:=sI h;exact RI [CP,(.int .i64)]
 refine ae (ab ?_);obtain⟨R,E,h⟩:=aj h;refine GP 4 (wN c e E) (af (ak (cd h (fun f=>ay [(1,.adr 0 0 2 0),(2,.adr 1 0 2 0),(4,.adr 2 0 1 0)] (K0 c u e v f) 3) 0 (fun j=>ay [(1,.adr 0 0 2 0),(2,.adr 1 0 2 0),(4,.adr 2 0 1 0)] (K0 c u e v j) 3) (gg [] [0,8,88]) (fun f o h=> ?_) (fun j h=> ?_))))
 ·unfold qp at h;refine ak ?_;obtain⟨I,x,h⟩:=aj h;refine GP 3 (tg false c e x) (af ?_);obtain⟨J,z,h⟩:=aj h;obtain⟨L,A,h⟩:=aj h;have m:=(mq false z);have q:=(mq false A);refine GD ⟨[],[(1,(oP m)),(3,(oP q))]⟩ [(1,1,oc m),(3,3,oc q)] (aA h (fun M h=> ?_) (fun M h=> ?_))
  ·refine aq (aL (ix rfl ?_));exact eX h (gg [] [0,1,2])
  refine ae (ab (Ge (au ?_)));exact eB h (gg [] [0,1,2])
 refine av (ab ?_);obtain⟨N,B,h⟩:=aj h;refine GP 2 (vg c e false B) (ao ?_);obtain rfl:=sI h;exact RI [CP,(.int .i64)]
def uB(c:List Z8):((List Tree)×(List Tree)×Int)→Option (((List Tree)×(List Tree)×Int)⊕((List Tree)×List Tree)):=fun(v4,f,v6) =>
 (if(decide (v6<(c.length:Int)))=true then(if 0≤v6∧v6<(c.length:Int)then(if(v4.length+([(Tree.node (((c.getD v6.toNat (0,(Tree.node 0 0 []),(Tree.node 0 0 []))).2.1).op) (((c.getD v6.toNat (0,(Tree.node 0 0 []),(Tree.node 0 0 []))).2.1).set) (((c.getD v6.toNat (0,(Tree.node 0 0 []),(Tree.node 0 0 []))).2.1).kids))]:List Tree).length)*32≤140737488355328∧v4.length+([(Tree.node (((c.getD v6.toNat (0,(Tree.node 0 0 []),(Tree.node 0 0 []))).2.1).op) (((c.getD v6.toNat (0,(Tree.node 0 0 []),(Tree.node 0 0 []))).2.1).set) (((c.getD v6.toNat (0,(Tree.node 0 0 []),(Tree.node 0 0 []))).2.1).kids))]:List Tree).length≤9223372036854775807 then((pU 1000 (((c.getD v6.toNat (0,(Tree.node 0 0 []),(Tree.node 0 0 []))).2.2).op) (((c.getD v6.toNat (0,(Tree.node 0 0 []),(Tree.node 0 0 []))).2.2).set) (((c.getD v6.toNat (0,(Tree.node 0 0 []),(Tree.node 0 0 []))).2.2).kids)).bind fun e =>
 (if(f.length+([(Tree.node e.op e.set e.kids)]:List Tree).length)*32≤140737488355328∧f.length+([(Tree.node e.op e.set e.kids)]:List Tree).length≤9223372036854775807 then some (Sum.inl ((v4++([(Tree.node (((c.getD v6.toNat (0,(Tree.node 0 0 []),(Tree.node 0 0 []))).2.1).op) (((c.getD v6.toNat (0,(Tree.node 0 0 []),(Tree.node 0 0 []))).2.1).set) (((c.getD v6.toNat (0,(Tree.node 0 0 []),(Tree.node 0 0 []))).2.1).kids))]:List Tree)),(f++([(Tree.node e.op e.set e.kids)]:List Tree)),(i64.wrap (v6+1))))else none))else none)else none)
 else some (Sum.inr (v4,f)))
def wW(p:List (List UInt8))(u v:Int)(x:List Int)(q:List Z8):Option ((Option Z7)×Int) :=
 (if((p.length:Int) == 0)=true then some ((none:Option Z7),22)
 else((iter (uB q) (([]:List Tree),([]:List Tree),0)).bind fun(z,A)=>((p7 z (p.length:Int)).bind fun(c,e) =>
 (if(e != 0)=true then some ((none:Option Z7),e)
 else((p7 A (p.length:Int)).bind fun(f,j) =>
 (if(j != 0)=true then some ((none:Option Z7),j)
 else((nr c.1 c.2).bind fun(k,_) =>
 ((nr f.1 f.2).bind fun(m,_) =>
 some ((some ((p,u,v,x,q),(k.1,k.2),m.1,m.2):Option Z7),0)))))))))
theorem Ce{j:List (List UInt8)}{k m:Int}{q:List Int}{e:List Z8}{c:(Option Z7)×Int}(h:wW j k m q e=some c):
  Pure Tryz.prog 47 [.agg [.p false (.slice .str) j,.u32 k,.u32 m,.p false (.slice (.int .i64)) q,.p false (.slice (.prod (.int .u8) Cq)) e]] (aG (aU false [⟨(.ptr mw),c.1⟩,⟨(.int .i64),c.2⟩])):=by
 refine PB Tryz.func47 (fun Bw w0=> ?_);unfold wW at h;refine G (af (G (aA h (fun E h=> ?_) (fun E h=> ?_))))
 ·refine G (ao (ah ?_));obtain rfl:=sI h;exact RI [(.ptr mw),(.int .i64)]
 refine ae (ab (G (af (G (ak (cd h (fun(v4,B,v6)=>ay [(1,.adr 0 0 5 0),(4,.sl 1),(5,.sl 2),(17,.p false (.slice (.prod (.int .u8) Cq)) e),(18,.i64 (e.length:Int)),(19,.i64 v6)] (KJ j k m q e v4 B) 3) 0 (fun(C,D)=>ay [(1,.adr 0 0 5 0),(4,.sl 1),(5,.sl 2)] (KJ j k m q e C D) 3) (gg [.nilS 4 104 208 (.tree .u8 .u32),.nilS 5 105 208 (.tree .u8 .u32)] [0,104,105]) (fun y o h=> ?_) (fun I h=> ?_)))))))
 ·obtain⟨v4,B,v6⟩:=y;unfold uB at h;refine G (af (aA h (fun J h=> ?_) (fun J h=> ?_)))
  ·refine ae (ab (af (ak (GC 0 h (fun h=> ?_)))));obtain⟨u,h⟩:=aD h;obtain⟨r6,L,h⟩:=aj h;obtain⟨v,h⟩:=aD h;have f:=(rT 1000 false L);refine jC ⟨[],[(8,(oP f))]⟩ [(4,4,oc u),(8,8,oc f),(10,10,oc v)] (au (ab (Ge ?_)));exact eB h (gg [] [0,75,123])
  refine aq (aL ?_);exact eX h (gg [] [0,1,2])
 obtain⟨C,D⟩:=I;refine av (ab ?_);obtain⟨⟨M,N⟩,O,h⟩:=aj h;refine GP 4 (rH true O) (af (G (aA h (fun R h=> ?_) (fun R h=> ?_))))
 ·refine G (ao (ah ?_));obtain rfl:=sI h;exact RI [(.ptr mw),(.int .i64)]
 refine ae (ab ?_);obtain⟨⟨V,X⟩,x,h⟩:=aj h;refine GP 4 (rH true x) (af (G (aA h (fun Y h=> ?_) (fun Y h=> ?_))))
 ·refine G (ao (ah ?_));obtain rfl:=sI h;exact RI [(.ptr mw),(.int .i64)]
 refine ae (ab (G ?_));obtain⟨⟨Z,a1⟩,z,h⟩:=aj h;refine GP 2 (qC false false z) ?_;obtain⟨⟨a2,a3⟩,A,h⟩:=aj h;refine GP 2 (qC false false A) (G (ao ?_));obtain rfl:=sI h;exact RI [(.ptr mw),(.int .i64)]
def jJ(c:List UInt8):Option ((Option Z7)×Int×Int) :=
 ((pv c).bind fun(e,f) =>
 (if(f.1 != 0)=true then some ((none:Option Z7),f.1,f.2)
 else((wW e.1 e.2.1 e.2.2.1 e.2.2.2.1 e.2.2.2.2).bind fun(j,k) =>
 some (j,k,0))))
theorem uq{c:List UInt8}{e:(Option Z7)×Int×Int}(h:jJ c=some e):
  Pure Tryz.prog 28 [.st c] (aG (aU false [⟨(.ptr mw),e.1⟩,⟨Y2,e.2⟩])):=by
 refine PB Tryz.func28 (fun Bw w0=> ?_);unfold jJ at h;refine G ?_;obtain⟨⟨m,p⟩,f,h⟩:=aj h;refine GP 1 (wK f) (af (G (aA h (fun j h=> ?_) (fun j h=> ?_))))
 ·refine GD a0 [] (ao (ah ?_));obtain rfl:=sI h;exact RI [(.ptr mw),Y2]
 refine ae (ab ?_);obtain⟨⟨q,u⟩,k,h⟩:=aj h;refine GP 1 (Ce k) (G (ao ?_));obtain rfl:=sI h;exact RI [(.ptr mw),Y2]
def cH(c:Option Z7):Option (Int) :=
 (if c.isNone=true then some 0
 else(if c.isSome=true then some (((c.getD (Ty.zero mw)).1.1).length:Int)else none))
theorem iX(f:Bool){j:Option Z7}{c:Int}(h:cH j=some c):
  Pure Tryz.prog 29 [.p f (.ptr mw) j] (aG (aU false [⟨(.int .i64),c⟩])):=by
 refine PB Tryz.func29 (fun Bw w0=> ?_);unfold cH at h;refine G (af (GN a0 [(1,1,⟨∃e,Tryz.prog.underlying 97=some (.pointer e),⟨_,rfl⟩⟩)] (aA h (fun k h=> ?_) (fun k h=> ?_))))
 ·refine G (ao (ah ?_));obtain rfl:=sI h;exact RI [(.int .i64)]
 refine ae (ab (GC 1 h (fun h=>ao ?_)));obtain rfl:=sI h;exact RI [(.int .i64)]
def dC(c:List eD)(e:Int):(Int×Int)→Option ((Int×Int)⊕((Unit)⊕(Bool))):=fun(f,v4) =>
 (if(decide (v4<(c.length:Int)))=true then(if 0≤v4∧v4<(c.length:Int)then(((if(decide (((c.getD v4.toNat (0,0,0)).1)≤f))=true then some (true)
 else(if(decide (((c.getD v4.toNat (0,0,0)).2.1)<((c.getD v4.toNat (0,0,0)).1)))=true then some (true)
 else(if(decide (((c.getD v4.toNat (0,0,0)).2.1) > 1114111))=true then some (true)
 else(if(decide (((c.getD v4.toNat (0,0,0)).2.2)<0))=true then some (true)
 else(if(decide (((c.getD v4.toNat (0,0,0)).2.2)≥e))=true then some (true)
 else some ((decide (((c.getD v4.toNat (0,0,0)).2.2) > 255))))))))).bind fun j=>(if j=true then some (Sum.inr (Sum.inr false))
 else some (Sum.inl ((c.getD v4.toNat (0,0,0)).2.1,(i64.wrap (v4+1))))))else none)
 else some (Sum.inr (Sum.inl ())))
def lA(e:List eD)(c:Int):Option (Bool) :=
 (if(decide ((e.length:Int) > 256))=true then some false
 else((iter (dC e c) ((-1:Int),0)).bind fun(f:((Unit)⊕(Bool)))=>match f with
 | .inl _=>some true
 | .inr (j)=>some j))
theorem yv(x:Bool){u:List eD}{j:Int}{z:Bool}(h:lA u j=some z):
  Pure Tryz.prog 48 [.p x (.slice (.prod (.int .i32) Y1)) u,.i64 j] (aG (aU false [⟨.bool,z⟩])):=by
 refine PB Tryz.func48 (fun Bw w0=> ?_);unfold lA at h;refine G (af (G (aA h (fun J h=> ?_) (fun J h=> ?_))))
 ·refine G (ao (ah ?_));obtain rfl:=sI h;exact RI [.bool]
 refine ae (ab (G (af (G (ak (jl h (fun(q,v4)=>ay [(1,.i64 j),(5,.i32 q),(11,.p x (.slice (.prod (.int .i32) Y1)) u),(12,.i64 (u.length:Int)),(13,.i64 v4)] [] 0) (cN (dM Tryz.f48.ntmps 0 (fun _=>ay [] [] 0)) (eQ tb Tryz.f48.results.toList (fun E=>[⟨.bool,E⟩]))) (gg [] []) (fun y o h=> ?_) (fun L h e σ' I=> ?_)))))))
 ·obtain⟨q,v4⟩:=y;unfold dC at h;refine G (af (aA h (fun A h=> ?_) (fun A h=> ?_)))
  ·refine ae (ab (af (ak (GC 0 h (fun h=>af (af (bg h (fun B=>ay [(1,.i64 j),(7,.adr 0 0 3 0),(11,.p x (.slice (.prod (.int .i32) Y1)) u),(12,.i64 (u.length:Int)),(13,.i64 v4),(48,.bo B)] [(0,.box [.i32 ((u.getD v4.toNat (0,0,0)).1),.i32 ((u.getD v4.toNat (0,0,0)).2.1),.i64 ((u.getD v4.toNat (0,0,0)).2.2)])] 1) (fun B h=> ?_) (fun B h=> ?_))))))))
   ·rcases aF h with⟨c,h⟩ | ⟨c,h⟩
    ·exact bq ⟨[(4,true),(10,true)],[]⟩ [(5,10,oc c)] (eN h (gg [] [24]))
    rcases aF h with⟨f,h⟩ | ⟨f,h⟩
    ·exact bq ⟨[(4,false),(10,false),(11,true),(15,true)],[]⟩ [(5,9,an c),(10,10,oc c),(12,15,oc f)] (eN h (gg [] [24]))
    rcases aF h with⟨k,h⟩ | ⟨k,h⟩
    ·exact bq ⟨[(4,false),(10,false),(11,false),(15,false),(16,true),(20,true)],[]⟩ [(5,9,an c),(10,10,oc c),(12,14,an f),(15,15,oc f),(17,20,oc k)] (eN h (gg [] [24]))
    rcases aF h with⟨m,h⟩ | ⟨m,h⟩
    ·exact bq ⟨[(4,false),(10,false),(11,false),(15,false),(16,false),(20,false),(21,true),(26,true)],[]⟩ [(5,9,an c),(10,10,oc c),(12,14,an f),(15,15,oc f),(17,19,an k),(20,20,oc k),(22,26,oc m)] (eN h (gg [] [24]))
    rcases aF h with⟨v,h⟩ | ⟨v,h⟩
    ·exact bq ⟨[(4,false),(10,false),(11,false),(15,false),(16,false),(20,false),(21,false),(26,false),(27,true),(31,true)],[]⟩ [(5,9,an c),(10,10,oc c),(12,14,an f),(15,15,oc f),(17,19,an k),(20,20,oc k),(22,25,an m),(26,26,oc m),(28,31,oc v)] (eN h (gg [] [24]))
    exact bq ⟨[(4,false),(10,false),(11,false),(15,false),(16,false),(20,false),(21,false),(26,false),(27,false),(31,false)],[]⟩ [(5,9,an c),(10,10,oc c),(12,14,an f),(15,15,oc f),(17,19,an k),(20,20,oc k),(22,25,an m),(26,26,oc m),(28,30,an v),(31,31,oc v)] (eN h (gg [] [24]))
   refine ab (aA h (fun C h=> ?_) (fun C h=> ?_))
   ·refine G (ao ?_);obtain rfl:=sI h;refine ah (az (ah (br (aK ?_))));exact bu (RI [.bool])
   refine ae (ab (Ge (au (ab (Ge ?_)))));exact eB h (gg [] [])
  refine aq (aL ?_);obtain rfl:=sI h;refine cR (aX ?_);exact bC (gg [] [])
 rcases L with _ | E
 ·obtain⟨rfl,D⟩:=I;refine bY ?_ D;refine av (ab (G (ao ?_)));obtain rfl:=sI h;exact RI [.bool]
 obtain⟨rfl,M⟩:=I;refine az (ah ?_);obtain rfl:=sI h;exact M
def gv(e:List eD)(f:Int):(Int)→Option ((Int)⊕(Int)):=fun c =>
 (((if(decide (c<(e.length:Int)))=true then(if 0≤c∧c<(e.length:Int)then some ((decide (((e.getD c.toNat (0,0,0)).2.1)<(i32.wrap ((i32.wrap f)*2 ^ (min (8:Int).toNat i32.bits))))))else none)
 else some (false))).bind fun j=>(if j=true then some (Sum.inl (i64.wrap (c+1)))
 else some (Sum.inr c)))
def iY(j:List eD)(k e:Int):((ep 256)×Int)→Option (((ep 256)×Int)⊕(ep 256)):=fun(f,c) =>
 (if 0≤e∧e<(j.length:Int)then(if(decide (c≤(min ((j.getD e.toNat (0,0,0)).2.1) (i32.wrap ((i32.wrap ((i32.wrap k)*2 ^ (min (8:Int).toNat i32.bits)))+255)))))=true then(if 0≤e∧e<(j.length:Int)then(if 0≤(bitsOf .and .i32 c 255)∧(bitsOf .and .i32 c 255)<((256:Nat):Int)then some (Sum.inl ((rV f ((bitsOf .and .i32 c 255).toNat) (u8.wrap ((j.getD e.toNat (0,0,0)).2.2))),(i32.wrap (c+1))))else none)else none)
 else some (Sum.inr f))else none)
def gw(f:List eD)(e:Int):((ep 256)×Int)→Option (((ep 256)×Int)⊕(ep 256)):=fun(j,c) =>
 (((if(decide (c<(f.length:Int)))=true then(if 0≤c∧c<(f.length:Int)then some ((decide (((f.getD c.toNat (0,0,0)).1)≤(i32.wrap ((i32.wrap ((i32.wrap e)*2 ^ (min (8:Int).toNat i32.bits)))+255)))))else none)
 else some (false))).bind fun k=>(if k=true then(if 0≤c∧c<(f.length:Int)then((iter (iY f e c) (j,(max ((f.getD c.toNat (0,0,0)).1) (i32.wrap ((i32.wrap e)*2 ^ (min (8:Int).toNat i32.bits)))))).bind fun m=>some (Sum.inl (m,(i64.wrap (c+1)))))else none)
 else some (Sum.inr j)))
def fc(x:List eD):((ep 4352)×(List (ep 256))×(List ((ep 256)×Int))×Int×Int)→Option (((ep 4352)×(List (ep 256))×(List ((ep 256)×Int))×Int×Int)⊕AE):=fun(k,c,j,v,e) =>
 (if(decide (e<4352))=true then(if 0≤(8:Int)then(if 0≤(8:Int)then((iter (gv x e) v).bind fun m=>((iter (gw x e) ((cW 256),m)).bind fun f=>(if(H3 f (cW 256))=true then some (Sum.inl (k,c,j,m,(i64.wrap (e+1))))
 else(((if(!((bc (.arr .u8 256) j f).isSome))=true then(if(c.length+([f]:List (ep 256)).length)*256≤140737488355328∧c.length+([f]:List (ep 256)).length≤9223372036854775807 then some (((c++([f]:List (ep 256))),(dN (.arr .u8 256) j f (c.length:Int)),(c.length:Int)))else none)
 else some ((c,j,((bc (.arr .u8 256) j f).getD 0))))).bind fun(p,q,u)=>(if 0≤e∧e<((4352:Nat):Int)then some (Sum.inl ((rV k e.toNat u),p,q,m,(i64.wrap (e+1))))else none)))))else none)else none)
 else some (Sum.inr (k,c)))
def gA(f:List eD)(j:Int):Option ((Option AE)×Int) :=
 ((lA f j).bind fun k =>
 (if(!k)=true then some ((none:Option AE),10)
 else(if 0≤(1:Int)∧(1:Int)≤1∧256*(1:Int)≤281474976710656∧(1:Int)≤9223372036854775807 then((iter (fc f) ((cW 4352),(List.replicate (1:Int).toNat (cW 256)),([]:List ((ep 256)×Int)),0,0)).bind fun(c,e)=>some ((some (c,e):Option AE),0))else none)))
theorem m5(e:Bool){v:List eD}{i1:Int}{J:(Option AE)×Int}(h:gA v i1=some J):
  Pure Tryz.prog 30 [.p e (.slice (.prod (.int .i32) Y1)) v,.i64 i1] (aG (aU false [⟨(.ptr xn),J.1⟩,⟨(.int .i64),J.2⟩])):=by
 refine PB Tryz.func30 (fun Bw w0=> ?_);unfold gA at h;refine G (af ?_);obtain⟨r2,q2,h⟩:=aj h;refine GP 2 (yv e q2) (aA h (fun B1 h=> ?_) (fun B1 h=> ?_))
 ·refine G (ao (ah ?_));obtain rfl:=sI h;exact RI [(.ptr xn),(.int .i64)]
 refine ae (ab (GC 0 h (fun h=>GN a0 [(0,0,oc DJ)] (G (af (G (ak (cd h (fun(f,j,k,O,c)=>ay [(0,.p e (.slice (.prod (.int .i32) Y1)) v),(6,.adr 0 0 4353 0),(7,.mp 2),(8,.i64 O),(25,.i64 c)] (Lj f j k) 3) 0 (fun(R,V)=>ay [(6,.adr 0 0 4353 0)] (LG R V) 2) (gg [] [64,48,80]) (fun y o h=> ?_) (fun r6 h=> ?_)))))))))
 ·obtain⟨f,j,k,O,c⟩:=y;unfold fc at h;refine G (af (aA h (fun aa h=> ?_) (fun aa h=> ?_)))
  ·refine ae (ab (af (ak (G ?_))));obtain⟨X,Y,h⟩:=g2 h;refine GN a0 [(2,2,oc X),(5,5,oc Y)] (G (af (ak ?_)));refine cd h (fun L=>ay [(0,.p e (.slice (.prod (.int .i32) Y1)) v),(6,.adr 0 0 4353 0),(7,.mp 2),(8,.i64 L),(9,.i64 c),(10,.i32 (i32.wrap ((i32.wrap c)*2 ^ (min (8:Int).toNat i32.bits)))),(11,.i32 (i32.wrap ((i32.wrap ((i32.wrap c)*2 ^ (min (8:Int).toNat i32.bits)))+255))),(12,.adr 3 0 256 0),(25,.i64 c)] (BG f j k (cW 256)) 4) 2 (fun q=>ay [(0,.p e (.slice (.prod (.int .i32) Y1)) v),(6,.adr 0 0 4353 0),(7,.mp 2),(8,.i64 q),(9,.i64 c),(10,.i32 (i32.wrap ((i32.wrap c)*2 ^ (min (8:Int).toNat i32.bits)))),(11,.i32 (i32.wrap ((i32.wrap ((i32.wrap c)*2 ^ (min (8:Int).toNat i32.bits)))+255))),(12,.adr 3 0 256 0),(25,.i64 c)] (BG f j k (cW 256)) 4) (gg [] [0,1,2,99]) (fun L o h=> ?_) (fun q h=> ?_)
   ·unfold gv at h;refine af (af (bg h (fun M=>ay [(0,.p e (.slice (.prod (.int .i32) Y1)) v),(6,.adr 0 0 4353 0),(7,.mp 2),(8,.i64 L),(9,.i64 c),(10,.i32 (i32.wrap ((i32.wrap c)*2 ^ (min (8:Int).toNat i32.bits)))),(11,.i32 (i32.wrap ((i32.wrap ((i32.wrap c)*2 ^ (min (8:Int).toNat i32.bits)))+255))),(12,.adr 3 0 256 0),(25,.i64 c),(47,.bo M)] (BG f j k (cW 256)) 4) (fun M h=> ?_) (fun M h=> ?_)))
    ·rcases aF h with⟨u,h⟩ | ⟨u,h⟩
     ·obtain⟨Z,h⟩:=aD h;exact bq ⟨[(4,true),(12,true)],[]⟩ [(5,6,an u),(7,7,oc (And.intro u Z)),(8,11,an u),(12,12,oc u)] (eN h (gg [] [0,1,2,3]))
     exact bq ⟨[(4,false),(12,false)],[]⟩ [(5,12,oc u)] (eN h (gg [] [0,1,2,3]))
    refine ab (aA h (fun ac h=> ?_) (fun ac h=> ?_))
    ·refine ae (ab (ak (Ge (au ?_))));exact eB h (gg [] [0,1,2,3])
    refine aq (aL ?_);exact eX h (gg [] [0,1,2,3])
   refine av (ab (af (G (ak (cd h (fun(N,x)=>ay [(0,.p e (.slice (.prod (.int .i32) Y1)) v),(6,.adr 0 0 4353 0),(7,.mp 2),(8,.i64 q),(9,.i64 c),(10,.i32 (i32.wrap ((i32.wrap c)*2 ^ (min (8:Int).toNat i32.bits)))),(11,.i32 (i32.wrap ((i32.wrap ((i32.wrap c)*2 ^ (min (8:Int).toNat i32.bits)))+255))),(12,.adr 3 0 256 0),(13,.i64 x),(25,.i64 c)] (BG f j k N) 4) 4 (fun a1=>ay [(0,.p e (.slice (.prod (.int .i32) Y1)) v),(6,.adr 0 0 4353 0),(7,.mp 2),(8,.i64 q),(9,.i64 c),(12,.adr 3 0 256 0),(25,.i64 c)] (BG f j k a1) 4) (gg [] [0,1,2,3]) (fun y o h=> ?_) (fun a1 h=> ?_))))))
   ·obtain⟨N,x⟩:=y;unfold gw at h;refine af (af (bg h (fun z=>ay [(0,.p e (.slice (.prod (.int .i32) Y1)) v),(6,.adr 0 0 4353 0),(7,.mp 2),(8,.i64 q),(9,.i64 c),(10,.i32 (i32.wrap ((i32.wrap c)*2 ^ (min (8:Int).toNat i32.bits)))),(11,.i32 (i32.wrap ((i32.wrap ((i32.wrap c)*2 ^ (min (8:Int).toNat i32.bits)))+255))),(12,.adr 3 0 256 0),(13,.i64 x),(25,.i64 c),(63,.bo z)] (BG f j k N) 4) (fun z h=> ?_) (fun z h=> ?_)))
    ·rcases aF h with⟨m,h⟩ | ⟨m,h⟩
     ·obtain⟨a2,h⟩:=aD h;exact bq ⟨[(4,true),(12,true)],[]⟩ [(5,6,an m),(7,7,oc (And.intro m a2)),(8,11,an m),(12,12,oc m)] (eN h (gg [] [0,1,2,3]))
     exact bq ⟨[(4,false),(12,false)],[]⟩ [(5,12,oc m)] (eN h (gg [] [0,1,2,3]))
    refine ab (aA h (fun a3 h=> ?_) (fun a3 h=> ?_))
    ·refine ae (ab (af (ak (GC 2 h (fun h=>ak ?_)))));refine cd h (fun(A,B)=>ay [(0,.p e (.slice (.prod (.int .i32) Y1)) v),(6,.adr 0 0 4353 0),(7,.mp 2),(8,.i64 q),(9,.i64 c),(10,.i32 (i32.wrap ((i32.wrap c)*2 ^ (min (8:Int).toNat i32.bits)))),(11,.i32 (i32.wrap ((i32.wrap ((i32.wrap c)*2 ^ (min (8:Int).toNat i32.bits)))+255))),(12,.adr 3 0 256 0),(13,.i64 x),(14,.i32 B),(25,.i64 c)] (BG f j k A) 4) 6 (fun C=>ay [(0,.p e (.slice (.prod (.int .i32) Y1)) v),(6,.adr 0 0 4353 0),(7,.mp 2),(8,.i64 q),(9,.i64 c),(10,.i32 (i32.wrap ((i32.wrap c)*2 ^ (min (8:Int).toNat i32.bits)))),(11,.i32 (i32.wrap ((i32.wrap ((i32.wrap c)*2 ^ (min (8:Int).toNat i32.bits)))+255))),(12,.adr 3 0 256 0),(13,.i64 x),(25,.i64 c)] (BG f j k C) 4) (gg [] [0,1,2,3]) (fun y o h=> ?_) (fun C h=> ?_)
     ·obtain⟨A,B⟩:=y;unfold iY at h;refine af (GC 3 h (fun h=>aA h (fun a4 h=> ?_) (fun a4 h=> ?_)))
      ·refine ae (ab (af (ak ?_)));obtain⟨a5,a6,h⟩:=g2 h;refine bq a0 [(4,4,oc a5),(8,8,oc a6)] (au (ab (Ge ?_)));exact eB h (gg [] [0,1,2,3])
      refine aq (aL ?_);exact eX h (gg [] [0,1,2,3])
     refine av (au (ab (Ge ?_)));exact eB h (gg [] [0,1,2,3])
    refine aq (aL ?_);exact eX h (gg [] [0,1,2,3])
   refine av (ab (af (GN a0 [(2,2,⟨Tryz.prog.eqGuardType Tryz.prog.depth 157=false,(by kernel_rfl)⟩)] (aA h (fun a7 h=> ?_) (fun a7 h=> ?_)))))
   ·refine aq (aL (av (ab (Ge ?_))));exact eB h (gg [] [0,1,2])
   refine ae (ab (GN a0 [(2,2,oc DJ)] (af (G (bg h (fun(D,E,I)=>ay [(0,.p e (.slice (.prod (.int .i32) Y1)) v),(6,.adr 0 0 4353 0),(7,.mp 2),(8,.i64 q),(9,.i64 c),(15,.i64 I),(25,.i64 c)] (Lj f D E) 3) (fun r5 h=> ?_) (fun r5 h=> ?_))))))
   ·refine aA h (fun a8 h=> ?_) (fun a8 h=> ?_)
    ·refine G ?_;obtain⟨a9,h⟩:=aD h;refine GD a0 [(7,7,oc a9)] (bq a0 [(3,3,oc DJ)] ?_);exact eN h (gg [] [0,212,2])
    exact ae (eN h (gg [] [0,1,2]))
   obtain⟨D,E,I⟩:=r5;refine ab (tq 5 h (fun h=>au (ab (Ge ?_))));exact eB h (gg [] [0,1,2])
  refine aq (aL ?_);exact eX h (gg [] [0,1])
 obtain⟨R,V⟩:=r6;refine av (ab (G (nA [.frzL 0 0] (by kernel_rfl) (ao ?_))));obtain rfl:=sI h;exact RI [(.ptr xn),(.int .i64)]
def qA(c:List eD):(Int×Int)→Option ((Int×Int)⊕((Unit)⊕(Bool))):=fun(e,v4) =>
 (if(decide (v4<(c.length:Int)))=true then(if 0≤v4∧v4<(c.length:Int)then(((if(decide (((c.getD v4.toNat (0,0,0)).1)≤e))=true then some (true)
 else(if(decide (((c.getD v4.toNat (0,0,0)).2.1)<((c.getD v4.toNat (0,0,0)).1)))=true then some (true)
 else(if(decide (((c.getD v4.toNat (0,0,0)).2.1) > 1114111))=true then some (true)
 else(if(decide (((c.getD v4.toNat (0,0,0)).2.2)<0))=true then some (true)
 else some ((decide (((c.getD v4.toNat (0,0,0)).2.2) > (i64.wrap (1114111 - (i64.wrap (i32.wrap (((c.getD v4.toNat (0,0,0)).2.1) - ((c.getD v4.toNat (0,0,0)).1)))))))))))))).bind fun f=>(if f=true then some (Sum.inr (Sum.inr false))
 else some (Sum.inl ((c.getD v4.toNat (0,0,0)).2.1,(i64.wrap (v4+1))))))else none)
 else some (Sum.inr (Sum.inl ())))
def qK(c:List eD):Option (Bool) :=
 (if(decide ((c.length:Int) > 256))=true then some false
 else((iter (qA c) ((-1:Int),0)).bind fun(e:((Unit)⊕(Bool)))=>match e with
 | .inl _=>some true
 | .inr (f)=>some f))
theorem yh(u:Bool){m:List eD}{v:Bool}(h:qK m=some v):
  Pure Tryz.prog 49 [.p u (.slice (.prod (.int .i32) Y1)) m] (aG (aU false [⟨.bool,v⟩])):=by
 refine PB Tryz.func49 (fun Bw w0=> ?_);unfold qK at h;refine G (af (G (aA h (fun E h=> ?_) (fun E h=> ?_))))
 ·refine G (ao (ah ?_));obtain rfl:=sI h;exact RI [.bool]
 refine ae (ab (G (af (G (ak (jl h (fun(k,v4)=>ay [(3,.i32 k),(9,.p u (.slice (.prod (.int .i32) Y1)) m),(10,.i64 (m.length:Int)),(11,.i64 v4)] [] 0) (cN (dM Tryz.f49.ntmps 0 (fun _=>ay [] [] 0)) (eQ tb Tryz.f49.results.toList (fun C=>[⟨.bool,C⟩]))) (gg [] []) (fun y o h=> ?_) (fun I h e σ' D=> ?_)))))))
 ·obtain⟨k,v4⟩:=y;unfold qA at h;refine G (af (aA h (fun x h=> ?_) (fun x h=> ?_)))
  ·refine ae (ab (af (ak (GC 0 h (fun h=>af (af (bg h (fun z=>ay [(5,.adr 0 0 3 0),(9,.p u (.slice (.prod (.int .i32) Y1)) m),(10,.i64 (m.length:Int)),(11,.i64 v4),(47,.bo z)] [(0,.box [.i32 ((m.getD v4.toNat (0,0,0)).1),.i32 ((m.getD v4.toNat (0,0,0)).2.1),.i64 ((m.getD v4.toNat (0,0,0)).2.2)])] 1) (fun z h=> ?_) (fun z h=> ?_))))))))
   ·rcases aF h with⟨c,h⟩ | ⟨c,h⟩
    ·exact bq ⟨[(4,true),(10,true)],[]⟩ [(5,10,oc c)] (eN h (gg [] [24]))
    rcases aF h with⟨f,h⟩ | ⟨f,h⟩
    ·exact bq ⟨[(4,false),(10,false),(11,true),(15,true)],[]⟩ [(5,9,an c),(10,10,oc c),(12,15,oc f)] (eN h (gg [] [24]))
    rcases aF h with⟨j,h⟩ | ⟨j,h⟩
    ·exact bq ⟨[(4,false),(10,false),(11,false),(15,false),(16,true),(20,true)],[]⟩ [(5,9,an c),(10,10,oc c),(12,14,an f),(15,15,oc f),(17,20,oc j)] (eN h (gg [] [24]))
    rcases aF h with⟨q,h⟩ | ⟨q,h⟩
    ·exact bq ⟨[(4,false),(10,false),(11,false),(15,false),(16,false),(20,false),(21,true),(32,true)],[]⟩ [(5,9,an c),(10,10,oc c),(12,14,an f),(15,15,oc f),(17,19,an j),(20,20,oc j),(22,32,oc q)] (eN h (gg [] [24]))
    exact bq ⟨[(4,false),(10,false),(11,false),(15,false),(16,false),(20,false),(21,false),(32,false)],[]⟩ [(5,9,an c),(10,10,oc c),(12,14,an f),(15,15,oc f),(17,19,an j),(20,20,oc j),(22,31,an q),(32,32,oc q)] (eN h (gg [] [24]))
   refine ab (aA h (fun A h=> ?_) (fun A h=> ?_))
   ·refine G (ao ?_);obtain rfl:=sI h;refine ah (az (ah (br (aK ?_))));exact bu (RI [.bool])
   refine ae (ab (Ge (au (ab (Ge ?_)))));exact eB h (gg [] [])
  refine aq (aL ?_);obtain rfl:=sI h;refine cR (aX ?_);exact bC (gg [] [])
 rcases I with _ | C
 ·obtain⟨rfl,B⟩:=D;refine bY ?_ B;refine av (ab (G (ao ?_)));obtain rfl:=sI h;exact RI [.bool]
 obtain⟨rfl,J⟩:=D;refine az (ah ?_);obtain rfl:=sI h;exact J
def mP(e:Int):Option eD :=
 (if(decide (e<128))=true then some (1,0,0)
 else(((if(decide (e<194))=true then some (true)
 else some ((decide (e > 244))))).bind fun v1=>(if v1=true then some (0,0,0)
 else(if(decide (e<224))=true then some (2,128,191)
 else(if(e == 224)=true then some (3,160,191)
 else(if(e == 237)=true then some (3,128,159)
 else(if(decide (e<240))=true then some (3,128,191)
 else(if(e == 240)=true then some (4,144,191)
 else(if(e == 244)=true then some (4,128,143)
 else some (4,128,191))))))))))
theorem zK{f:Int}{c:Int×Int×Int}(h:mP f=some c):
  Pure Tryz.prog 140 [.u8 f] (aG (aU false [⟨(.int .i64),c.1⟩,⟨(.int .u8),c.2.1⟩,⟨(.int .u8),c.2.2⟩])):=by
 refine PB Tryz.func140 (fun Bw w0=> ?_);unfold mP at h;refine G (af (ak (G (aA h (fun m h=> ?_) (fun m h=> ?_)))))
 ·refine G (ao (az (ah ?_)));obtain rfl:=sI h;exact RI [(.int .i64),(.int .u8),(.int .u8)]
 refine af (bg h (fun v1=>ay [(0,.u8 f),(8,.bo v1)] [] 0) (fun v1 h=> ?_) (fun v1 h=> ?_))
 ·rcases aF h with⟨e,h⟩ | ⟨e,h⟩
  ·exact bq ⟨[(2,true),(5,true)],[]⟩ [(3,5,oc e)] (eN h (gg [] []))
  exact bq ⟨[(2,false),(5,false)],[]⟩ [(3,4,an e),(5,5,oc e)] (eN h (gg [] []))
 refine ab (aA h (fun p h=> ?_) (fun p h=> ?_))
 ·refine G (ao (az (ah ?_)));obtain rfl:=sI h;exact RI [(.int .i64),(.int .u8),(.int .u8)]
 refine G (aA h (fun q h=> ?_) (fun q h=> ?_))
 ·refine G (ao (az (ah ?_)));obtain rfl:=sI h;exact RI [(.int .i64),(.int .u8),(.int .u8)]
 refine G (aA h (fun u h=> ?_) (fun u h=> ?_))
 ·refine G (ao (az (ah ?_)));obtain rfl:=sI h;exact RI [(.int .i64),(.int .u8),(.int .u8)]
 refine G (aA h (fun v h=> ?_) (fun v h=> ?_))
 ·refine G (ao (az (ah ?_)));obtain rfl:=sI h;exact RI [(.int .i64),(.int .u8),(.int .u8)]
 refine G (aA h (fun x h=> ?_) (fun x h=> ?_))
 ·refine G (ao (az (ah ?_)));obtain rfl:=sI h;exact RI [(.int .i64),(.int .u8),(.int .u8)]
 refine G (aA h (fun j h=> ?_) (fun j h=> ?_))
 ·refine G (ao (az (ah ?_)));obtain rfl:=sI h;exact RI [(.int .i64),(.int .u8),(.int .u8)]
 refine G (aA h (fun k h=> ?_) (fun k h=> ?_))
 ·refine G (ao (az (ah ?_)));obtain rfl:=sI h;exact RI [(.int .i64),(.int .u8),(.int .u8)]
 refine ae (au (ab (G (ao ?_))));obtain rfl:=sI h;exact RI [(.int .i64),(.int .u8),(.int .u8)]
def il(f:List Int)(e q:Int):(Int×Int×Int×Int×Int)→Option ((Int×Int×Int×Int×Int)⊕((Int×Int)⊕eD)):=fun(v10,v11,j,m,c) =>
 (if(decide (c<q))=true then(((if(decide ((i64.wrap (e+c))≥(f.length:Int)))=true then some (true)
 else(if 0≤(i64.wrap (e+c))∧(i64.wrap (e+c))<(f.length:Int)then(if(decide ((f.getD ((i64.wrap (e+c)).toNat) 0)<v10))=true then some (true)
 else(if 0≤(i64.wrap (e+c))∧(i64.wrap (e+c))<(f.length:Int)then some ((decide ((f.getD ((i64.wrap (e+c)).toNat) 0) > v11)))else none))else none))).bind fun p=>(if p=true then some (Sum.inr (Sum.inr (65533,e,j)))
 else(if 0≤(6:Int)then(if 0≤(i64.wrap (e+c))∧(i64.wrap (e+c))<(f.length:Int)then some (Sum.inl (128,191,(i64.wrap (c+1)),(bitsOf .or .i32 (i32.wrap (m*2 ^ (min (6:Int).toNat i32.bits))) (i32.wrap (bitsOf .and .u8 (f.getD ((i64.wrap (e+c)).toNat) 0) (63:Int)))),(i64.wrap (c+1))))else none)else none)))
 else some (Sum.inr (Sum.inl (j,m))))
def pc(e:List Int)(c:Int):Option eD :=
 (((if(decide (c<0))=true then some (true)
 else some ((decide (c≥(e.length:Int)))))).bind fun v1=>(if v1=true then some (0,0,0)
 else(if 0≤c∧c<(e.length:Int)then((mP (e.getD c.toNat 0)).bind fun(f,m,p) =>
 (if(decide (f<2))=true then(((if(f == 1)=true then(if 0≤c∧c<(e.length:Int)then some ((i32.wrap (e.getD c.toNat 0)))else none)
 else some (65533))).bind fun q=>some (q,c,1))
 else(if 0≤c∧c<(e.length:Int)then(if 0≤f then((iter (il e c f) (m,p,1,(bitsOf .and .i32 (i32.wrap (e.getD c.toNat 0)) (Int.fdiv 127 (2 ^ (min f.toNat i32.bits)))),1)).bind fun(u:((Int×Int)⊕eD))=>match u with
 | .inl (j,k)=>some (k,c,j)
 | .inr (v)=>some v)else none)else none)))else none)))
theorem Bz(j:Bool){x:List Int}{k:Int}{z:Int×Int×Int}(h:pc x k=some z):
  Pure Tryz.prog 115 [.p j (.slice (.int .u8)) x,.i64 k] (aG (aU false [⟨(.prod (.int .i32) Y2),z⟩])):=by
 refine PB Tryz.func115 (fun Bw w0=> ?_);unfold pc at h;refine G (af (af (bg h (fun v1=>ay [(0,.p j (.slice (.int .u8)) x),(1,.i64 k),(4,.adr 0 0 3 0),(18,.bo v1)] [(0,.box [.i32 0,.i64 0,.i64 0])] 1) (fun v1 h=> ?_) (fun v1 h=> ?_))))
 ·rcases aF h with⟨E,h⟩ | ⟨E,h⟩
  ·exact bq ⟨[(2,true),(7,true)],[]⟩ [(3,7,oc E)] (eN h (gg [] [0]))
  exact bq ⟨[(2,false),(7,false)],[]⟩ [(3,6,an E),(7,7,oc E)] (eN h (gg [] [0]))
 refine ab (aA h (fun B4 h=> ?_) (fun B4 h=> ?_))
 ·refine G (ao (ah ?_));obtain rfl:=sI h;exact RI [(.prod (.int .i32) Y2)]
 refine ae (ab ?_);obtain⟨c2,h⟩:=aD h;obtain⟨⟨X,r5,r6⟩,q2,h⟩:=aj h;have A:=(zK q2);refine GN ⟨[],[(4,(oP A))]⟩ [(2,2,oc c2),(4,4,oc A)] (G (af (G (aA h (fun B5 h=> ?_) (fun B5 h=> ?_)))))
 ·refine af (G (bg h (fun I=>ay [(4,.adr 0 0 3 0),(8,.adr 1 0 3 0)] (I3 0 (0:Int) (0:Int) I k 1) 2) (fun I h=> ?_) (fun I h=> ?_)))
  ·refine aA h (fun B7 h=> ?_) (fun B7 h=> ?_)
   ·refine tq 2 h (fun h=> ?_);exact eN h (gg [] [0,113])
   exact ae (eN h (gg [] [0,113]))
  refine ab (G (ao (ah ?_)));obtain rfl:=sI h;exact RI [(.prod (.int .i32) Y2)]
 refine ae (ab ?_);obtain⟨c9,J,h⟩:=g2 h;refine GD a0 [(2,2,oc c9),(6,6,oc J)] (af (G (ak (jl h (fun(v10,v11,m,q,u)=>ay [(0,.p j (.slice (.int .u8)) x),(1,.i64 k),(4,.adr 0 0 3 0),(5,.i64 X),(6,.u8 v10),(7,.u8 v11),(8,.adr 1 0 3 0),(9,.i32 q),(10,.i64 u)] (I3 0 (0:Int) (0:Int) (65533:Int) k m) 2) (cN (dM Tryz.f115.ntmps 0 (fun(B,C)=>ay [(4,.adr 0 0 3 0),(8,.adr 1 0 3 0),(9,.i32 C)] (I3 0 (0:Int) (0:Int) (65533:Int) k B) 2)) (eQ tb Tryz.f115.results.toList (fun Y=>[⟨(.prod (.int .i32) Y2),Y⟩]))) (gg [] [0,113]) (fun y o h=> ?_) (fun r8 h e σ' Z=> ?_)))))
 ·obtain⟨v10,v11,m,q,u⟩:=y;unfold il at h;refine af (G (aA h (fun L h=> ?_) (fun L h=> ?_)))
  ·refine ae (ab (af (ak (af (af (bg h (fun v=>ay [(0,.p j (.slice (.int .u8)) x),(1,.i64 k),(4,.adr 0 0 3 0),(5,.i64 X),(8,.adr 1 0 3 0),(9,.i32 q),(10,.i64 u),(80,.bo v)] (I3 0 (0:Int) (0:Int) (65533:Int) k m) 2) (fun v h=> ?_) (fun v h=> ?_)))))))
   ·rcases aF h with⟨c,h⟩ | ⟨c,h⟩
    ·exact bq ⟨[(6,true),(15,true)],[]⟩ [(7,15,oc c)] (eN h (gg [] [0,1]))
    obtain⟨D,h⟩:=aD h;rcases aF h with⟨f,h⟩ | ⟨f,h⟩
    ·exact bq ⟨[(6,false),(15,false),(16,true),(25,true)],[]⟩ [(7,10,an c),(11,11,oc (And.intro c D)),(12,14,an c),(15,15,oc c),(17,25,oc f)] (eN h (gg [] [0,1]))
    obtain⟨M,h⟩:=aD h;exact bq ⟨[(6,false),(15,false),(16,false),(25,false)],[]⟩ [(7,10,an c),(11,11,oc (And.intro c D)),(12,14,an c),(15,15,oc c),(17,20,an f),(21,21,oc (And.intro f M)),(22,24,an f),(25,25,oc f)] (eN h (gg [] [0,1]))
   refine ab (aA h (fun N h=> ?_) (fun N h=> ?_))
   ·refine G (ao ?_);obtain rfl:=sI h;refine ah (az (ah (br (aK ?_))));exact bu (RI [(.prod (.int .i32) Y2)])
   refine ae (ab ?_);obtain⟨O,R,h⟩:=g2 h;refine GN a0 [(1,1,oc O),(6,6,oc R)] (G (Ge (au (ab (Ge ?_)))));exact eB h (gg [] [0,1])
  refine aq (aL ?_);obtain rfl:=sI h;refine cR (aX ?_);exact bC (gg [] [0,1])
 rcases r8 with⟨B,C⟩ | Y
 ·obtain⟨rfl,V⟩:=Z;refine bY ?_ V;refine av (ab (G (G (ao ?_))));obtain rfl:=sI h;exact RI [(.prod (.int .i32) Y2)]
 obtain⟨rfl,hr⟩:=Z;refine az (ah ?_);obtain rfl:=sI h;exact hr
def jG(j:List Int):((List eD)×Int)→Option (((List eD)×Int)⊕(List eD)):=fun(c,f) =>
 (if(decide (f<(j.length:Int)))=true then((pc j f).bind fun e =>
 (if(c.length+([(e.1,e.2.1,e.2.2)]:List eD).length)*24≤140737488355328∧c.length+([(e.1,e.2.1,e.2.2)]:List eD).length≤9223372036854775807 then some (Sum.inl ((c++([(e.1,e.2.1,e.2.2)]:List eD)),(i64.wrap (f+e.2.2))))else none))
 else some (Sum.inr c))
def mD(e:List Int):Option (List eD) :=
 ((iter (jG e) (([]:List eD),0)).bind fun c=>some c)
theorem uK(f:Bool){m:List Int}{j:List eD}(h:mD m=some j):
  Pure Tryz.prog 76 [.p f (.slice (.int .u8)) m] (aG (aU false [⟨(.slice (.prod (.int .i32) Y2)),j⟩])):=by
 refine PB Tryz.func76 (fun Bw w0=> ?_);unfold mD at h;refine G (G (af (G (ak (cd h (fun(c,k)=>ay [(0,.p f (.slice (.int .u8)) m),(3,.sl 0),(4,.i64 k)] [(0,.arr 219 (.prod (.int .i32) Y2) c)] 1) 0 (fun e=>ay [(3,.sl 0)] [(0,.arr 219 (.prod (.int .i32) Y2) e)] 1) (gg [.nilS 3 24 219 (.prod (.int .i32) Y2)] [24]) (fun y o h=> ?_) (fun e h=> ?_))))))
 ·obtain⟨c,k⟩:=y;unfold jG at h;refine af (G (aA h (fun q h=> ?_) (fun q h=> ?_)))
  ·refine ae (ab (ak ?_));obtain⟨v,u,h⟩:=aj h;refine GP 2 (Bz f u) (GC 3 h (fun h=>Ge (au ?_)));exact eB h (gg [] [97])
  refine aq (aL ?_);exact eX h (gg [] [0])
 refine av (ab (G (ao ?_)));obtain rfl:=sI h;exact RI [(.slice (.prod (.int .i32) Y2))]
def nD(c:Int):Option (Bool) :=
 (((if(c == 32)=true then some (true)
 else(if(c == 9)=true then some (true)
 else(if(c == 10)=true then some (true)
 else some ((c == 13)))))).bind fun v1=>some v1)
theorem qt{k:Int}{f:Bool}(h:nD k=some f):
  Pure Tryz.prog 77 [.i32 k] (aG (aU false [⟨.bool,f⟩])):=by
 refine PB Tryz.func77 (fun Bw w0=> ?_);unfold nD at h;refine G (af (bg h (fun v1=>ay [(2,.bo v1)] [] 0) (fun v1 h=> ?_) (fun v1 h=> ?_)))
 ·rcases aF h with⟨c,h⟩ | ⟨c,h⟩
  ·exact bq ⟨[(2,true),(5,true)],[]⟩ [(3,5,oc c)] (eN h (gg [] []))
  rcases aF h with⟨e,h⟩ | ⟨e,h⟩
  ·exact bq ⟨[(2,false),(5,false),(6,true),(9,true)],[]⟩ [(3,4,an c),(5,5,oc c),(7,9,oc e)] (eN h (gg [] []))
  rcases aF h with⟨j,h⟩ | ⟨j,h⟩
  ·exact bq ⟨[(2,false),(5,false),(6,false),(9,false),(10,true),(13,true)],[]⟩ [(3,4,an c),(5,5,oc c),(7,8,an e),(9,9,oc e),(11,13,oc j)] (eN h (gg [] []))
  exact bq ⟨[(2,false),(5,false),(6,false),(9,false),(10,false),(13,false)],[]⟩ [(3,4,an c),(5,5,oc c),(7,8,an e),(9,9,oc e),(11,12,an j),(13,13,oc j)] (eN h (gg [] []))
 refine ab (ao ?_);obtain rfl:=sI h;exact RI [.bool]
def jZ(c e f:Int):Option (Bool) :=
 some (c == 45)
theorem ru{e f j:Int}{c:Bool}(h:jZ e f j=some c):
  Pure Tryz.prog 117 [.agg [.i32 e,.i64 f,.i64 j]] (aG (aU false [⟨.bool,c⟩])):=by
 refine PB Tryz.func117 (fun Bw w0=> ?_);unfold jZ at h;refine G (G (ao ?_));obtain rfl:=sI h;exact RI [.bool]
def mO(e:List eD):(Int)→Option ((Int)⊕((Unit)⊕(Int))):=fun c =>
 (if(decide (c<(e.length:Int)))=true then(if 0≤c∧c<(e.length:Int)then((jZ ((e.getD c.toNat (0,0,0)).1) ((e.getD c.toNat (0,0,0)).2.1) ((e.getD c.toNat (0,0,0)).2.2)).bind fun f =>
 (if f=true then some (Sum.inr (Sum.inr c))
 else some (Sum.inl (i64.wrap (c+1)))))else none)
 else some (Sum.inr (Sum.inl ())))
def mh(c:List eD):Option (Int) :=
 ((iter (mO c) (0:Int)).bind fun(e:((Unit)⊕(Int)))=>match e with
 | .inl _=>some (-1:Int)
 | .inr (f)=>some f)
theorem uh(c:Bool){k:List eD}{f:Int}(h:mh k=some f):
  Pure Tryz.prog 141 [.p c (.slice (.prod (.int .i32) Y2)) k,.fn 117 []] (aG (aU false [⟨(.int .i64),f⟩])):=by
 refine PB Tryz.func141 (fun Bw w0=> ?_);unfold mh at h;refine G (af (G (ak (jl h (fun q=>ay [(0,.p c (.slice (.prod (.int .i32) Y2)) k),(1,.fn 117 []),(7,.i64 (k.length:Int)),(8,.i64 q)] [] 0) (cN (dM Tryz.f141.ntmps 0 (fun _=>ay [] [] 0)) (eQ tb Tryz.f141.results.toList (fun u=>[⟨(.int .i64),u⟩]))) (gg [] []) (fun q o h=> ?_) (fun x h e σ' v=> ?_)))))
 ·unfold mO at h;refine G (af (aA h (fun z h=> ?_) (fun z h=> ?_)))
  ·refine ae (ab (af (ak (G ?_))));obtain⟨A,h⟩:=aD h;obtain⟨E,B,h⟩:=aj h;have j:=(ru B);refine GN ⟨[],[(5,(oP j))]⟩ [(3,3,oc A),(5,5,oc j)] (aA h (fun C h=> ?_) (fun C h=> ?_))
   ·refine G (ao ?_);obtain rfl:=sI h;refine az (ah (br (aK ?_)));exact bu (RI [(.int .i64)])
   refine ae (au (ab (Ge ?_)));exact eB h (gg [] [])
  refine aq (aL ?_);obtain rfl:=sI h;refine cR (aX ?_);exact bC (gg [] [])
 rcases x with _ | u
 ·obtain⟨rfl,m⟩:=v;refine bY ?_ m;refine av (ab (G (ao ?_)));obtain rfl:=sI h;exact RI [(.int .i64)]
 obtain⟨rfl,D⟩:=v;refine az (ah ?_);obtain rfl:=sI h;exact D
def rk(c:List eD):Option (Bool) :=
 ((mh c).bind fun e =>
 some (decide (e≥0)))
theorem yG(c:Bool){f:List eD}{e:Bool}(h:rk f=some e):
  Pure Tryz.prog 116 [.p c (.slice (.prod (.int .i32) Y2)) f,.fn 117 []] (aG (aU false [⟨.bool,e⟩])):=by
 refine PB Tryz.func116 (fun Bw w0=> ?_);unfold rk at h;refine G ?_;obtain⟨k,j,h⟩:=aj h;refine GP 2 (uh c j) (ao ?_);obtain rfl:=sI h;exact RI [.bool]
def jB(c:List eD):Option (Bool) :=
 ((rk c).bind fun e =>
 some e)
theorem mv(c:Bool){f:List eD}{e:Bool}(h:jB f=some e):
  Pure Tryz.prog 79 [.p c (.slice (.prod (.int .i32) Y2)) f] (aG (aU false [⟨.bool,e⟩])):=by
 refine PB Tryz.func79 (fun Bw w0=> ?_);unfold jB at h;refine G ?_;obtain⟨k,j,h⟩:=aj h;refine GP 1 (yG c j) (ao ?_);obtain rfl:=sI h;exact RI [.bool]
def uw(j:List eD)(m:Bool):((List Int)×(List Int)×Bool×Int×Int)→Option (((List Int)×(List Int)×Bool×Int×Int)⊕(((List Int)×(List Int)×Int)⊕(jd×Bool))):=fun(c,f,p,k,e) =>
 (if(decide (e<(j.length:Int)))=true then(if 0≤e∧e<(j.length:Int)then(if(((j.getD e.toNat (0,0,0)).1) == 65533)=true then some (Sum.inr (Sum.inr ((c,f),false)))
 else(((if(((j.getD e.toNat (0,0,0)).1) == 45)=true then some (true)
 else(if(decide (((j.getD e.toNat (0,0,0)).1)≥48))=true then some ((decide (((j.getD e.toNat (0,0,0)).1)≤57)))
 else some (false)))).bind fun q=>(((if q=true then(((if p=true then some (true)
 else(if(!(m == (((j.getD e.toNat (0,0,0)).1) == 45)))=true then some (true)
 else(if m=true then(if((c.length:Int) == 0)=true then some (true)
 else some ((e == (i64.wrap ((j.length:Int) - 1)))))
 else some (false))))).bind fun u=>(if u=true then some ((Sum.inr ((c,f),false)))
 else(if 0≤(c.length:Int)∧(c.length:Int)<(f.length:Int)then(if(c.length:Int).toNat<f.length then(if(!m)=true then(if 0≤(c.length:Int)∧(c.length:Int)<((f.set ((c.length:Int).toNat) 1).length:Int)then(if(c.length:Int).toNat<(f.set ((c.length:Int).toNat) 1).length then some ((Sum.inl (c,((f.set ((c.length:Int).toNat) 1).set ((c.length:Int).toNat) (u8.wrap (i32.wrap (((j.getD e.toNat (0,0,0)).1) - 48)))),true,k)))else none)else none)
 else some ((Sum.inl (c,(f.set ((c.length:Int).toNat) 1),true,k))))else none)else none)))
 else(if(((j.getD e.toNat (0,0,0)).1) == 46)=true then(((if m=true then some (true)
 else(if(!(e == 0))=true then some ((!(e == (i64.wrap ((j.length:Int) - 1)))))
 else some (false)))).bind fun v=>(if v=true then some ((Sum.inr ((c,f),false)))
 else(if(c.length+([46]:List Int).length)*4≤140737488355328∧c.length+([46]:List Int).length≤9223372036854775807 then(if(f.length+([0]:List Int).length)*1≤140737488355328∧f.length+([0]:List Int).length≤9223372036854775807 then some ((Sum.inl ((c++([46]:List Int)),(f++([0]:List Int)),false,k)))else none)else none)))
 else(if(c.length+([(j.getD e.toNat (0,0,0)).1]:List Int).length)*4≤140737488355328∧c.length+([(j.getD e.toNat (0,0,0)).1]:List Int).length≤9223372036854775807 then(if(f.length+([0]:List Int).length)*1≤140737488355328∧f.length+([0]:List Int).length≤9223372036854775807 then some ((Sum.inl ((c++([(j.getD e.toNat (0,0,0)).1]:List Int)),(f++([0]:List Int)),false,(i64.wrap (k+1)))))else none)else none)))).bind fun(x:(((List Int)×(List Int)×Bool×Int)⊕(jd×Bool)))=>match x with
 | .inl (z,A,B,C)=>some (Sum.inl (z,A,B,C,(i64.wrap (e+1))))
 | .inr ((D,E))=>some (Sum.inr (Sum.inr (D,E))))))else none)
 else some (Sum.inr (Sum.inl (c,f,k))))
def wY(m:List eD):Option (jd×Bool) :=
 ((jB m).bind fun p =>
 ((iter (uw m p) (([]:List Int),([0]:List Int),false,0,0)).bind fun(e:(((List Int)×(List Int)×Int)⊕(jd×Bool)))=>match e with
 | .inl (c,v30,f)=>(((if(decide (f > 0))=true then some ((decide ((c.length:Int)≤24)))
 else some (false))).bind fun j=>some ((c,v30),j))
 | .inr ((q,k))=>some (q,k)))
theorem CF(u:Bool){v:List eD}{I:jd×Bool}(h:wY v=some I):
  Pure Tryz.prog 78 [.p u (.slice (.prod (.int .i32) Y2)) v] (aG (aU false [⟨wS,I.1⟩,⟨.bool,I.2⟩])):=by
 refine PB Tryz.func78 (fun Bw w0=> ?_);unfold wY at h;refine G ?_;obtain⟨X,q2,h⟩:=aj h;refine GP 1 (mv u q2) (G (G (G (af (G (ak (jl h (fun(B,D,J,E,q)=>ay [(0,.p u (.slice (.prod (.int .i32) Y2)) v),(2,.adr 0 0 2 0),(4,.bo X),(5,.adr 1 0 2 0),(6,.bo J),(7,.i64 E),(17,.p u (.slice (.prod (.int .i32) Y2)) v),(18,.i64 (v.length:Int)),(19,.i64 q)] (IE B D) 4) (cN (dM Tryz.f78.ntmps 0 (fun(L,v30,Y)=>ay [(2,.adr 0 0 2 0),(5,.adr 1 0 2 0),(7,.i64 Y)] (IE L v30) 4)) (eQ tb Tryz.f78.results.toList (fun(r9,Z)=>[⟨wS,r9⟩,⟨.bool,Z⟩]))) (gg [.nilC 56 0 112 21 (.int .i32)] [0,56,112,40]) (fun y o h=> ?_) (fun b4 h e σ' hq=> ?_))))))))
 ·obtain⟨B,D,J,E,q⟩:=y;unfold uw at h;refine G (af (aA h (fun a1 h=> ?_) (fun a1 h=> ?_)))
  ·refine ae (ab (af (ak (GC 1 h (fun h=>G (ak (G (aA h (fun a2 h=> ?_) (fun a2 h=> ?_)))))))))
   ·refine G (nA [.frzC 0 0,.frzC 0 1] (by kernel_rfl) (ao ?_));obtain rfl:=sI h;refine az (az (ah (br (aK ?_))));exact bu (RI [wS,.bool])
   refine af (bg h (fun M=>ay [(0,.p u (.slice (.prod (.int .i32) Y2)) v),(2,.adr 0 0 2 0),(4,.bo X),(5,.adr 1 0 2 0),(6,.bo J),(7,.i64 E),(8,.i64 q),(9,.adr 4 0 3 0),(10,.i64 (B.length:Int)),(17,.p u (.slice (.prod (.int .i32) Y2)) v),(18,.i64 (v.length:Int)),(19,.i64 q),(46,.bo M)] (Lc B D ((v.getD q.toNat (0,0,0)).1) ((v.getD q.toNat (0,0,0)).2.1) ((v.getD q.toNat (0,0,0)).2.2)) 5) (fun M h=> ?_) (fun M h=> ?_))
   ·rcases aF h with⟨k,h⟩ | ⟨k,h⟩
    ·exact bq ⟨[(3,true),(12,true)],[]⟩ [(4,7,oc k),(11,12,oc k)] (eN h (gg [] [0,1,2,3,36]))
    rcases aF h with⟨x,h⟩ | ⟨x,h⟩
    ·exact bq ⟨[(3,false),(7,true),(11,true),(12,false)],[]⟩ [(4,7,an k),(8,10,an x),(11,11,oc (And.intro k x)),(12,12,oc k)] (eN h (gg [] [0,1,2,3,36]))
    exact bq ⟨[(3,false),(7,false),(11,false),(12,false)],[]⟩ [(4,7,an k),(8,10,oc x),(11,11,oc (And.intro k x)),(12,12,oc k)] (eN h (gg [] [0,1,2,3,36]))
   refine ab (Db h (cN (od Tryz.f78.ntmps (fun(a3,a4,a5,a6)=>ay [(0,.p u (.slice (.prod (.int .i32) Y2)) v),(2,.adr 0 0 2 0),(4,.bo X),(5,.adr 1 0 2 0),(6,.bo a5),(7,.i64 a6),(17,.p u (.slice (.prod (.int .i32) Y2)) v),(18,.i64 (v.length:Int)),(19,.i64 q)] (IE a3 a4) 4)) (eQ tb Tryz.f78.results.toList (fun(a7,a8)=>[⟨wS,a7⟩,⟨.bool,a8⟩]))) (fun a9 h=> ?_) (fun a9 h e σ' hq=> ?_))
   ·refine aA h (fun aa h=> ?_) (fun aa h=> ?_)
    ·refine af (af (bg h (fun N=>ay [(0,.p u (.slice (.prod (.int .i32) Y2)) v),(2,.adr 0 0 2 0),(4,.bo X),(5,.adr 1 0 2 0),(7,.i64 E),(9,.adr 4 0 3 0),(10,.i64 (B.length:Int)),(17,.p u (.slice (.prod (.int .i32) Y2)) v),(18,.i64 (v.length:Int)),(19,.i64 q),(81,.bo N)] (Lc B D ((v.getD q.toNat (0,0,0)).1) ((v.getD q.toNat (0,0,0)).2.1) ((v.getD q.toNat (0,0,0)).2.2)) 5) (fun N h=> ?_) (fun N h=> ?_)))
     ·rcases aF h with⟨f,h⟩ | ⟨f,h⟩
      ·exact bq ⟨[(1,true),(7,true)],[]⟩ [(2,7,oc f)] (eN h (gg [] [0,1,2,3,4]))
      rcases aF h with⟨c,h⟩ | ⟨c,h⟩
      ·exact bq ⟨[(1,false),(7,false),(8,true),(21,true)],[]⟩ [(2,6,an f),(7,7,oc f),(9,10,oc c),(20,21,oc c)] (eN h (gg [] [0,1,2,3,4]))
      rcases aF h with⟨j,h⟩ | ⟨j,h⟩
      ·rcases aF h with⟨z,h⟩ | ⟨z,h⟩
       ·exact bq ⟨[(1,false),(7,false),(8,false),(10,true),(13,true),(19,true),(20,true),(21,false)],[]⟩ [(2,6,an f),(7,7,oc f),(9,10,an c),(11,13,an j),(14,18,oc z),(19,19,oc (And.intro j z)),(20,20,oc (And.intro c j)),(21,21,oc c)] (eN h (gg [] [0,1,2,3,4]))
       exact bq ⟨[(1,false),(7,false),(8,false),(10,true),(13,false),(19,false),(20,true),(21,false)],[]⟩ [(2,6,an f),(7,7,oc f),(9,10,an c),(11,13,an j),(14,18,an z),(19,19,oc (And.intro j z)),(20,20,oc (And.intro c j)),(21,21,oc c)] (eN h (gg [] [0,1,2,3,4]))
      exact bq ⟨[(1,false),(7,false),(8,false),(10,false),(20,false),(21,false)],[]⟩ [(2,6,an f),(7,7,oc f),(9,10,an c),(11,13,oc j),(19,19,oc j),(20,20,oc (And.intro c j)),(21,21,oc c)] (eN h (gg [] [0,1,2,3,4]))
     refine ab (aA h (fun ac h=> ?_) (fun ac h=> ?_))
     ·refine G (nA [.frzC 0 0,.frzC 0 1] (by kernel_rfl) (ao ?_));obtain rfl:=sI h;refine ah (aK ?_);exact bu (RI [wS,.bool])
     refine ae (ab (G ?_));obtain⟨b5,b6,h⟩:=g2 h;refine GN a0 [(3,3,oc b5),(4,4,oc b6)] (G (aA h (fun ad h=> ?_) (fun ad h=> ?_)))
     ·obtain⟨be,bi,h⟩:=g2 h;refine bq a0 [(7,7,oc be),(8,8,oc bi)] ?_;obtain rfl:=sI h;exact aX (cu (gg [] [0,1,2,3]))
     refine ae ?_;obtain rfl:=sI h;exact aX (cu (gg [] [0,1,2,3]))
    refine G (aA h (fun ax h=> ?_) (fun ax h=> ?_))
    ·refine G (af (af (bg h (fun O=>ay [(0,.p u (.slice (.prod (.int .i32) Y2)) v),(2,.adr 0 0 2 0),(4,.bo X),(5,.adr 1 0 2 0),(7,.i64 E),(17,.p u (.slice (.prod (.int .i32) Y2)) v),(18,.i64 (v.length:Int)),(19,.i64 q),(116,.bo O)] (IE B D) 4) (fun O h=> ?_) (fun O h=> ?_))))
     ·rcases aF h with⟨m,h⟩ | ⟨m,h⟩
      ·exact bq ⟨[(1,true),(8,true)],[]⟩ [(2,4,oc m),(7,8,oc m)] (eN h (gg [] [0,1,2,3]))
      rcases aF h with⟨A,h⟩ | ⟨A,h⟩
      ·exact bq ⟨[(1,false),(4,true),(7,true),(8,false)],[]⟩ [(2,4,an m),(5,6,an A),(7,7,oc (And.intro m A)),(8,8,oc m)] (eN h (gg [] [0,1,2,3]))
      exact bq ⟨[(1,false),(4,false),(7,false),(8,false)],[]⟩ [(2,4,an m),(5,6,oc A),(7,7,oc (And.intro m A)),(8,8,oc m)] (eN h (gg [] [0,1,2,3]))
     refine ab (aA h (fun b1 h=> ?_) (fun b1 h=> ?_))
     ·refine G (nA [.frzC 0 0,.frzC 0 1] (by kernel_rfl) (ao ?_));obtain rfl:=sI h;refine ah (aK ?_);exact bu (RI [wS,.bool])
     refine ae (ab ?_);obtain⟨bs,bt,h⟩:=g2 h;refine jC a0 [(3,3,oc bs),(7,7,oc bt)] ?_;obtain rfl:=sI h;exact aX (cu (gg [] [0,1,28,60]))
    refine G ?_;obtain⟨b2,b3,h⟩:=g2 h;refine jC a0 [(5,5,oc b2),(9,9,oc b3)] ?_;obtain rfl:=sI h;exact aX (cu (gg [] [0,1,101,133]))
   rcases a9 with⟨a3,a4,a5,a6⟩ | ⟨a7,a8⟩
   ·obtain⟨rfl,R⟩:=hq;refine bY ?_ R;refine au (au (ab (Ge ?_)));exact eB h (gg [] [0,1,2,3])
   obtain⟨rfl,hr⟩:=hq;obtain rfl:=sI h;refine az (az (ah (br (aK ?_))));exact bu hr
  refine aq (aL ?_);obtain rfl:=sI h;refine cR (aX ?_);exact bC (gg [] [0,1,2,3])
 rcases b4 with⟨L,v30,Y⟩ | ⟨r9,Z⟩
 ·obtain⟨rfl,R⟩:=hq;refine bY ?_ R;refine av (ab (af (bg h (fun V=>ay [(2,.adr 0 0 2 0),(3,.bo V)] (L3 L v30) 3) (fun V h=> ?_) (fun V h=> ?_))))
  ·rcases aF h with⟨C,h⟩ | ⟨C,h⟩
   ·exact jC ⟨[(3,true),(8,true)],[]⟩ [(4,7,an C),(8,8,oc C)] (eN h (gg [] [0,2,3]))
   exact jC ⟨[(3,false),(8,false)],[]⟩ [(4,8,oc C)] (eN h (gg [] [0,2,3]))
  refine ab (nA [.frzC 0 0,.frzC 0 1] (by kernel_rfl) (ao ?_));obtain rfl:=sI h;exact RI [wS,.bool]
 obtain⟨rfl,hr⟩:=hq;refine az (ah ?_);obtain rfl:=sI h;exact hr
def fL(e f:List Int):(Int)→Option ((Int)⊕((Unit)⊕(Bool))):=fun c =>
 (if(decide (c<(e.length:Int)))=true then(if 0≤c∧c<(e.length:Int)then(if 0≤c∧c<(f.length:Int)then(if((e.getD c.toNat 0) != (f.getD c.toNat 0))=true then some (Sum.inr (Sum.inr false))
 else some (Sum.inl (i64.wrap (c+1))))else none)else none)
 else some (Sum.inr (Sum.inl ())))
def cZ(c e:List Int):Option (Bool) :=
 (if((c.length:Int) != (e.length:Int))=true then some false
 else((iter (fL c e) (0:Int)).bind fun(f:((Unit)⊕(Bool)))=>match f with
 | .inl _=>some true
 | .inr (j)=>some j))
theorem fJ(c f:Bool){k m:List Int}{j:Bool}(h:cZ k m=some j):
  Pure Tryz.prog 82 [.p c (.slice (.int .i32)) k,.p f (.slice (.int .i32)) m] (aG (aU false [⟨.bool,j⟩])):=by
 refine PB Tryz.func82 (fun Bw w0=> ?_);unfold cZ at h;refine G (af (G (aA h (fun B h=> ?_) (fun B h=> ?_))))
 ·refine G (ao (ah ?_));obtain rfl:=sI h;exact RI [.bool]
 refine ae (ab (af (G (ak (jl h (fun x=>ay [(0,.p c (.slice (.int .i32)) k),(1,.p f (.slice (.int .i32)) m),(12,.i64 (k.length:Int)),(13,.i64 x)] [] 0) (cN (dM Tryz.f82.ntmps 0 (fun _=>ay [] [] 0)) (eQ tb Tryz.f82.results.toList (fun z=>[⟨.bool,z⟩]))) (gg [] []) (fun x o h=> ?_) (fun C h e σ' A=> ?_))))))
 ·unfold fL at h;refine G (af (aA h (fun D h=> ?_) (fun D h=> ?_)))
  ·refine ae (ab (af (ak (G ?_))));obtain⟨q,u,h⟩:=g2 h;refine GD a0 [(2,2,oc q),(6,6,oc u)] (aA h (fun E h=> ?_) (fun E h=> ?_))
   ·refine G (ao ?_);obtain rfl:=sI h;refine az (ah (br (aK ?_)));exact bu (RI [.bool])
   refine ae (au (ab (Ge ?_)));exact eB h (gg [] [])
  refine aq (aL ?_);obtain rfl:=sI h;refine cR (aX ?_);exact bC (gg [] [])
 rcases C with _ | z
 ·obtain⟨rfl,v⟩:=A;refine bY ?_ v;refine av (ab (G (ao ?_)));obtain rfl:=sI h;exact RI [.bool]
 obtain⟨rfl,I⟩:=A;refine az (ah ?_);obtain rfl:=sI h;exact I
def nM(c _ e _:List Int):Option (Bool) :=
 ((cZ c e).bind fun f =>
 some f)
theorem vf(c j e k:Bool){m q:List Int}{u v:List Int}{f:Bool}(h:nM m q u v=some f):
  Pure Tryz.prog 81 [.agg [.p c (.slice (.int .i32)) m,.p j (.slice (.int .u8)) q],.fad true [.p e (.slice (.int .i32)) u,.p k (.slice (.int .u8)) v] 0] (aG (aU false [⟨.bool,f⟩])):=by
 refine PB Tryz.func81 (fun Bw w0=> ?_);unfold nM at h;refine G ?_;obtain⟨z,x,h⟩:=aj h;refine GP 4 (fJ c e x) (ao ?_);obtain rfl:=sI h;exact RI [.bool]
def lT(e:List jd)(f j:List Int):(Int)→Option ((Int)⊕((Unit)⊕(Int))):=fun c =>
 (if(decide (c<(e.length:Int)))=true then(if 0≤c∧c<(e.length:Int)then((nM ((e.getD c.toNat ([],([]:List Int))).1) ((e.getD c.toNat ([],([]:List Int))).2) f j).bind fun k =>
 (if k=true then some (Sum.inr (Sum.inr c))
 else some (Sum.inl (i64.wrap (c+1)))))else none)
 else some (Sum.inr (Sum.inl ())))
def kR(c:List jd)(e f:List Int):Option (Int) :=
 ((iter (lT c e f) (0:Int)).bind fun(j:((Unit)⊕(Int)))=>match j with
 | .inl _=>some (-1:Int)
 | .inr (k)=>some k)
theorem td(c f j:Bool){q:List jd}{u v:List Int}{k:Int}(h:kR q u v=some k):
  Pure Tryz.prog 118 [.p c (.slice wS) q,.fn 81 [.fad true [.p f (.slice (.int .i32)) u,.p j (.slice (.int .u8)) v] 0]] (aG (aU false [⟨(.int .i64),k⟩])):=by
 refine PB Tryz.func118 (fun Bw w0=> ?_);unfold kR at h;refine G (af (G (ak (jl h (fun z=>ay [(0,.p c (.slice wS) q),(1,.fn 81 [.fad true [.p f (.slice (.int .i32)) u,.p j (.slice (.int .u8)) v] 0]),(7,.i64 (q.length:Int)),(8,.i64 z)] [] 0) (cN (dM Tryz.f118.ntmps 0 (fun _=>ay [] [] 0)) (eQ tb Tryz.f118.results.toList (fun A=>[⟨(.int .i64),A⟩]))) (gg [] []) (fun z o h=> ?_) (fun C h e σ' B=> ?_)))))
 ·unfold lT at h;refine G (af (aA h (fun D h=> ?_) (fun D h=> ?_)))
  ·refine ae (ab (af (ak (G ?_))));obtain⟨E,h⟩:=aD h;obtain⟨M,I,h⟩:=aj h;have m:=(vf c c f j I);refine GN ⟨[],[(5,(oP m))]⟩ [(3,3,oc E),(5,5,oc m)] (aA h (fun J h=> ?_) (fun J h=> ?_))
   ·refine G (ao ?_);obtain rfl:=sI h;refine az (ah (br (aK ?_)));exact bu (RI [(.int .i64)])
   refine ae (au (ab (Ge ?_)));exact eB h (gg [] [])
  refine aq (aL ?_);obtain rfl:=sI h;refine cR (aX ?_);exact bC (gg [] [])
 rcases C with _ | A
 ·obtain⟨rfl,x⟩:=B;refine bY ?_ x;refine av (ab (G (ao ?_)));obtain rfl:=sI h;exact RI [(.int .i64)]
 obtain⟨rfl,L⟩:=B;refine az (ah ?_);obtain rfl:=sI h;exact L
def oS(c:List jd)(e f:List Int):Option (Bool) :=
 ((kR c e f).bind fun j =>
 some (decide (j≥0)))
theorem xd(c e f:Bool){k:List jd}{m q:List Int}{j:Bool}(h:oS k m q=some j):
  Pure Tryz.prog 80 [.p c (.slice wS) k,.fn 81 [.fad true [.p e (.slice (.int .i32)) m,.p f (.slice (.int .u8)) q] 0]] (aG (aU false [⟨.bool,j⟩])):=by
 refine PB Tryz.func80 (fun Bw w0=> ?_);unfold oS at h;refine G ?_;obtain⟨v,u,h⟩:=aj h;refine GP 2 (td c e f u) (ao ?_);obtain rfl:=sI h;exact RI [.bool]
end
end Go.Proofs.YtmcemnfjddoejaaGreatDoor.T
