import Derived.Test.YtmcemnfjddoejaaGreatDoorTvT23c0
import Derived.Test.YtmcemnfjddoejaaGreatDoorTvT23cDeskFaults1
namespace Go.Proofs.YtmcemnfjddoejaaGreatDoor.T
open Go Go.Tv Go.Proofs
open Go.IntKind (i32 i64 u32 u8)
noncomputable section
set_option maxRecDepth 100000
set_option maxHeartbeats 4000000
def sB(e:XX):(QK×Qj×Bool×(List ud)×Int)→Option ((QK×Qj×Bool×(List ud)×Int)⊕(QK×Qj×Bool×List ud)):=fun(q,u,v,v10,v11) =>
 (if(decide (v11<(e.length:Int)))=true then(if 0≤v11∧v11<(e.length:Int)then((dU 1000 ((e.getD v11.toNat (Tree.node 0 0 [])).op) ((e.getD v11.toNat (Tree.node 0 0 [])).set) ((e.getD v11.toNat (Tree.node 0 0 [])).kids) v q u).bind fun(c,f,j,p) =>
 (if(v10.length+([(c.1,(c.2.1.1,c.2.1.2.1,c.2.1.2.2.1,c.2.1.2.2.2),c.2.2.1,c.2.2.2.1,c.2.2.2.2.1,c.2.2.2.2.2)]:List ud).length)*72≤140737488355328∧v10.length+([(c.1,(c.2.1.1,c.2.1.2.1,c.2.1.2.2.1,c.2.1.2.2.2),c.2.2.1,c.2.2.2.1,c.2.2.2.2.1,c.2.2.2.2.2)]:List ud).length≤9223372036854775807 then some (Sum.inl (f,j,p,(v10++([(c.1,(c.2.1.1,c.2.1.2.1,c.2.1.2.2.1,c.2.1.2.2.2),c.2.2.1,c.2.2.2.1,c.2.2.2.2.1,c.2.2.2.2.2)]:List ud)),(i64.wrap (v11+1))))else none))else none)
 else some (Sum.inr (q,u,v,v10)))
def ub(e:List ud):(Int×Int×Int×Int×Int)→Option ((Int×Int×Int×Int×Int)⊕Z2):=fun(j,p,q,u,c) =>
 (if(decide (c<(e.length:Int)))=true then(if 0≤c∧c<(e.length:Int)then(if c.toNat<e.length then((cY j p q u ((e.getD c.toNat (false,(0,0,0,0),0,0,0,0)).2.1.1) ((e.getD c.toNat (false,(0,0,0,0),0,0,0,0)).2.1.2.1) ((e.getD c.toNat (false,(0,0,0,0),0,0,0,0)).2.1.2.2.1) ((e.getD c.toNat (false,(0,0,0,0),0,0,0,0)).2.1.2.2.2)).bind fun f =>
 some (Sum.inl (f.1,f.2.1,f.2.2.1,f.2.2.2,(i64.wrap (c+1)))))else none)else none)
 else some (Sum.inr (j,p,q,u)))
def tn(e f:Qj)(j:Int):(Int×Int×Int×Int×Int)→Option ((Int×Int×Int×Int×Int)⊕Z2):=fun(q,u,v,x,c) =>
 (if(decide (c<(e.length:Int)))=true then((gR ((f.getD j.toNat (0,0,0,0)).1) ((f.getD j.toNat (0,0,0,0)).2.1) ((f.getD j.toNat (0,0,0,0)).2.2.1) ((f.getD j.toNat (0,0,0,0)).2.2.2) c).bind fun z =>
 (((if z=true then(if 0≤c∧c<(e.length:Int)then(if c.toNat<e.length then((cY q u v x ((e.getD c.toNat (0,0,0,0)).1) ((e.getD c.toNat (0,0,0,0)).2.1) ((e.getD c.toNat (0,0,0,0)).2.2.1) ((e.getD c.toNat (0,0,0,0)).2.2.2)).bind fun p =>
 some ((p.1,p.2.1,p.2.2.1,p.2.2.2)))else none)else none)
 else some ((q,u,v,x)))).bind fun(A,B,C,D)=>some (Sum.inl (A,B,C,D,(i64.wrap (c+1))))))
 else some (Sum.inr (q,u,v,x)))
def tj(e:List ud)(f:Qj)(j:Int):(Int×Int)→Option ((Int×Int)⊕(Int)):=fun(p,c) =>
 (if(decide (c<(e.length:Int)))=true then(if 0≤c∧c<(e.length:Int)then(if c.toNat<e.length then(((if((e.getD c.toNat (false,(0,0,0,0),0,0,0,0)).1)=true then some (true)
 else((oa ((f.getD j.toNat (0,0,0,0)).1) ((f.getD j.toNat (0,0,0,0)).2.1) ((f.getD j.toNat (0,0,0,0)).2.2.1) ((f.getD j.toNat (0,0,0,0)).2.2.2) ((e.getD c.toNat (false,(0,0,0,0),0,0,0,0)).2.2.1) ((e.getD c.toNat (false,(0,0,0,0),0,0,0,0)).2.2.2.1) ((e.getD c.toNat (false,(0,0,0,0),0,0,0,0)).2.2.2.2.1) ((e.getD c.toNat (false,(0,0,0,0),0,0,0,0)).2.2.2.2.2)).bind fun q =>
 some (q)))).bind fun u=>(((if u=true then(if 0≤c then some ((bitsOf .or .u32 p (u32.wrap (1*2 ^ (min c.toNat u32.bits)))))else none)
 else some (p))).bind fun v=>some (Sum.inl (v,(i64.wrap (c+1))))))else none)else none)
 else some (Sum.inr p))
def se(q:QK)(v x z A u:Int):(Int×Int×Int×Int×Int)→Option ((Int×Int×Int×Int×Int)⊕Z2):=fun(e,f,j,p,c) =>
 (if(decide (c<(q.length:Int)))=true then(if 0≤c∧c<(q.length:Int)then(if c.toNat<q.length then((((gR v x z A c).bind fun B =>
 (if B=true then(if 0≤u then some (((bitsOf .and .u32 (Int.fdiv (q.getD c.toNat 0) (2 ^ (min u.toNat u32.bits))) (1:Int)) == 1))else none)
 else some (false)))).bind fun C=>(((if C=true then((iu c e f j p).bind fun(D,E,I,J) =>
 some ((D,E,I,J)))
 else some ((e,f,j,p)))).bind fun(L,M,N,O)=>some (Sum.inl (L,M,N,O,(i64.wrap (c+1))))))else none)else none)
 else some (Sum.inr (e,f,j,p)))
def tZ(N:Int)(M:QK)(x z A B:Int):(Qj×(List (Z2×Int))×QK×Int)→Option ((Qj×(List (Z2×Int))×QK×Int)⊕((Qj×(List (Z2×Int))×QK)⊕(Gp×Int))):=fun(c,u,v,e) =>
 (if(decide (e<N))=true then((iter (se M x z A B e) (0,0,0,0,0)).bind fun(f,j,p,q)=>(((if(!((aU mG u (f,j,p,q)).isSome))=true then(if(decide ((c.length:Int)≥300))=true then some ((Sum.inr ((([]:QZ),([]:QK)),27)))
 else(if(c.length+([(f,j,p,q)]:Qj).length)*32≤140737488355328∧c.length+([(f,j,p,q)]:Qj).length≤9223372036854775807 then some ((Sum.inl ((c++([(f,j,p,q)]:Qj)),(cj mG u (f,j,p,q) (c.length:Int)),(c.length:Int))))else none))
 else some ((Sum.inl (c,u,((aU mG u (f,j,p,q)).getD 0)))))).bind fun(C:((Qj×(List (Z2×Int))×Int)⊕(Gp×Int)))=>match C with
 | .inl (D,E,I)=>(if 0≤e∧e<(v.length:Int)then(if e.toNat<v.length then some (Sum.inl (D,E,(v.set e.toNat I),(i64.wrap (e+1))))else none)else none)
 | .inr ((J,L))=>some (Sum.inr (Sum.inr (J,L)))))
 else some (Sum.inr (Sum.inl (c,u,v))))
def ss(u:Int)(L:QK)(M:Qj)(N:List ud)(O V X Y:Int):(QZ×QK×Qj×(List (Z2×Int))×Int)→Option ((QZ×QK×Qj×(List (Z2×Int))×Int)⊕(Gp⊕(Gp×Int))):=fun(f,j,e,v,c) =>
 (if(decide (c<(e.length:Int)))=true then(if 0≤c∧c<(e.length:Int)then(if c.toNat<e.length then((iter (tn M e c) (O,V,X,Y,0)).bind fun(x,z,A,B)=>((iter (tj N e c) (0,0)).bind fun p=>(if 0≤u∧u≤u∧8*u≤281474976710656∧u≤9223372036854775807 then((iter (tZ u L x z A B) (e,v,(List.replicate u.toNat (0:Int)),0)).bind fun(C:((Qj×(List (Z2×Int))×QK)⊕(Gp×Int)))=>match C with
 | .inl (D,E,q)=>(if(f.length+([q]:QZ).length)*24≤140737488355328∧f.length+([q]:QZ).length≤9223372036854775807 then(if(j.length+([p]:QK).length)*4≤140737488355328∧j.length+([p]:QK).length≤9223372036854775807 then some (Sum.inl ((f++([q]:QZ)),(j++([p]:QK)),D,E,(i64.wrap (c+1))))else none)else none)
 | .inr ((I,J))=>some (Sum.inr (Sum.inr (I,J))))else none)))else none)else none)
 else some (Sum.inr (Sum.inl (f,j))))
def nr(E:XX)(u:Int):Option (Gp×Int) :=
 (((if(decide (u<1))=true then some (true)
 else(if(decide (u > 24))=true then some (true)
 else some ((decide ((E.length:Int) > 24)))))).bind fun v1=>(if v1=true then some ((([]:QZ),([]:QK)),2)
 else((iter (sB E) (([]:QK),([]:Qj),false,([]:List ud),0)).bind fun(v,x,z,c)=>(if z=true then some ((([]:QZ),([]:QK)),26)
 else((iter (ub c) (0,0,0,0,0)).bind fun(A,B,C,D)=>((iter (ss u v x c A B C D) (([]:QZ),([]:QK),([(0,0,0,0)]:Qj),(cj mG ([]:List (Z2×Int)) (0,0,0,0) (0:Int)),0)).bind fun(e:(Gp⊕(Gp×Int)))=>match e with
 | .inl (f,j)=>some ((f,j),0)
 | .inr ((p,q))=>some (p,q)))))))
theorem sE(b3:Bool){d1:XX}{X:Int}{dd:Gp×Int}(h:nr d1 X=some dd):
  Pure Tryz.prog 74 [.p b3 (.slice (.tree .u8 .u32)) d1,.i64 X] (aJ (bc false [⟨DZ,dd.1⟩,⟨(.int .i64),dd.2⟩])):=by
 refine PB Tryz.func74 (fun Bw w0=>?_);unfold nr at h;refine G (af (af (bn h (fun v1=>aA [(0,.p b3 (.slice (.tree .u8 .u32)) d1),(1,.i64 X),(4,.adr 0 0 2 0),(40,.bo v1)] [(0,.box [.nils,.nils])] 1) (fun v1 h=>?_) (fun v1 h=>?_))))
 ·rcases aI h with⟨B5,h⟩ | ⟨B5,h⟩
  ·exact bz ⟨[(2,true),(5,true)],[]⟩ [(3,5,oc B5)] (eN h (gg [] [0]))
  rcases aI h with⟨B6,h⟩ | ⟨B6,h⟩
  ·exact bz ⟨[(2,false),(5,false),(6,true),(10,true)],[]⟩ [(3,4,an B5),(5,5,oc B5),(7,10,oc B6)] (eN h (gg [] [0]))
  exact bz ⟨[(2,false),(5,false),(6,false),(10,false)],[]⟩ [(3,4,an B5),(5,5,oc B5),(7,9,an B6),(10,10,oc B6)] (eN h (gg [] [0]))
 refine ab (aC h (fun B7 h=>?_) (fun B7 h=>?_))
 ·refine G (au (ah ?_));obtain rfl:=sI h;exact RI [DZ,(.int .i64)]
 refine ae (ab (G (G (af (G (ak (cw h (fun(v7,v8,v9,v10,v11)=>aA [(1,.i64 X),(4,.adr 0 0 2 0),(6,.adr 1 0 3 0),(7,.sl 4),(44,.p b3 (.slice (.tree .u8 .u32)) d1),(45,.i64 (d1.length:Int)),(46,.i64 v11)] (MD v9 v7 v8 v10) 5) 0 (fun(v,x,z,u)=>aA [(1,.i64 X),(4,.adr 0 0 2 0),(6,.adr 1 0 3 0),(7,.sl 4)] (MD z v x u) 5) (gg [.nilC 9 0 57 136 (.int .u32),.nilC 9 1 58 262 mG,.nilS 7 59 264 CD] [0,9,57,58,59]) (fun y o h=>?_) (fun f5 h=>?_))))))))
 ·obtain⟨v7,v8,v9,v10,v11⟩:=y;unfold sB at h;refine G (af (aC h (fun f6 h=>?_) (fun f6 h=>?_)))
  ·refine ae (ab (af (ak (GC 0 h (fun h=>?_)))));obtain⟨⟨g7,g8,g9,gb⟩,q6,h⟩:=aj h;obtain⟨f7,h⟩:=aE h;have N:=(kH 1000 b3 q6);refine bz ⟨[],[(3,(oO N [1,2,3]))]⟩ [(3,3,oc N),(5,5,oc f7)] (ay (ab (Ge ?_)));exact eB h (gg [] [0,1,69,70,85])
  refine aw (aQ ?_);exact eX h (gg [] [0,1,2,3,4])
 obtain⟨v,x,z,u⟩:=f5;refine az (ab (af (G (aC h (fun f8 h=>?_) (fun f8 h=>?_)))))
 ·refine G (au (ah ?_));obtain rfl:=sI h;exact RI [DZ,(.int .i64)]
 refine ae (ab (G (af (G (ak (cw h (fun(de,di,dk,dm,ds)=>aA [(1,.i64 X),(4,.adr 0 0 2 0),(6,.adr 1 0 3 0),(7,.sl 4),(10,.adr 5 0 4 0),(62,.sl 4),(63,.i64 (u.length:Int)),(64,.i64 ds)] (Ng z v x u de di dk dm) 6) 2 (fun(I,J,L,M)=>aA [(1,.i64 X),(4,.adr 0 0 2 0),(6,.adr 1 0 3 0),(7,.sl 4),(10,.adr 5 0 4 0)] (Ng z v x u I J L M) 6) (gg [] [0,1,2,3,4,37]) (fun y o h=>?_) (fun f9 h=>?_)))))))
 ·obtain⟨de,di,dk,dm,ds⟩:=y;unfold ub at h;refine G (af (aC h (fun fa h=>?_) (fun fa h=>?_)))
  ·refine ae (ab (af (ak ?_)));obtain⟨fd,fi,h⟩:=g2 h;refine GN a0 [(0,0,oc fd),(1,1,oc fi)] ?_;obtain⟨gd,fo,h⟩:=aj h;refine NL 3 (cQ fo) (ay (ab (Ge ?_)));exact eB h (gg [] [0,1,2,3,4,5])
  refine aw (aQ ?_);exact eX h (gg [] [0,1,2,3,4,5])
 obtain⟨I,J,L,M⟩:=f9;refine az (ab (G (G (GN a0 [(0,0,oc Aq),(2,2,oc Aq)] (af (G (ak (kj h (fun(j,q,f,O,c)=>aA [(1,.i64 X),(4,.adr 0 0 2 0),(6,.adr 1 0 3 0),(7,.sl 4),(10,.adr 5 0 4 0),(13,.adr 6 0 2 0),(14,.sl 9),(15,.mp 10),(16,.i64 c)] (OD z v x u I J L M j q f O) 11) (dw (fc Tryz.f74.ntmps 4 (fun(b4,b5)=>aA [(4,.adr 0 0 2 0),(13,.adr 1 0 2 0)] (No b4 b5) 4)) (gm tb Tryz.f74.results.toList (fun(b6,b7)=>[⟨DZ,b6⟩,⟨(.int .i64),b7⟩]))) (gg [.nilC 6 0 86 80 (.slice (.int .i64)),.nilC 6 1 87 136 (.int .u32)] [0,1,2,3,4,5,6,86,87,22,38]) (fun y o h=>?_) (fun dt h e σ' hq=>?_)))))))))
 ·obtain⟨j,q,f,O,c⟩:=y;unfold ss at h;refine af (G (aC h (fun du h=>?_) (fun du h=>?_)))
  ·refine ae (ab (af (ak ?_)));obtain⟨e1,e2,h⟩:=g2 h;refine GN a0 [(2,2,oc e1),(3,3,oc e2)] (G (G (af (G (ak ?_)))));refine cw h (fun(b8,b9,be,bi,a6)=>aA [(1,.i64 X),(4,.adr 0 0 2 0),(6,.adr 1 0 3 0),(7,.sl 4),(10,.adr 5 0 4 0),(13,.adr 6 0 2 0),(14,.sl 9),(15,.mp 10),(16,.i64 c),(17,.adr 11 0 4 0),(18,.u32 0),(19,.adr 12 0 4 0),(93,.i64 (x.length:Int)),(94,.i64 a6)] (Hw z v x u I J L M j q f O ((f.getD c.toNat (0,0,0,0)).1) ((f.getD c.toNat (0,0,0,0)).2.1) ((f.getD c.toNat (0,0,0,0)).2.2.1) ((f.getD c.toNat (0,0,0,0)).2.2.2) b8 b9 be bi) 13) 6 (fun(A,B,C,D)=>aA [(1,.i64 X),(4,.adr 0 0 2 0),(6,.adr 1 0 3 0),(7,.sl 4),(10,.adr 5 0 4 0),(13,.adr 6 0 2 0),(14,.sl 9),(15,.mp 10),(16,.i64 c),(17,.adr 11 0 4 0),(18,.u32 0),(19,.adr 12 0 4 0)] (Hw z v x u I J L M j q f O ((f.getD c.toNat (0,0,0,0)).1) ((f.getD c.toNat (0,0,0,0)).2.1) ((f.getD c.toNat (0,0,0,0)).2.2.1) ((f.getD c.toNat (0,0,0,0)).2.2.2) A B C D) 13) (gg [] [0,1,2,3,4,5,6,7,8,9,10,75,107]) (fun y o h=>?_) (fun e3 h=>?_)
   ·obtain⟨b8,b9,be,bi,a6⟩:=y;unfold tn at h;refine G (af (aC h (fun e4 h=>?_) (fun e4 h=>?_)))
    ·refine ae (ab (af (ak (G ?_))));obtain⟨fr,e5,h⟩:=aj h;refine GP 2 (iv e5) (bn h (fun(bs,bv,bx,c1)=>aA [(1,.i64 X),(4,.adr 0 0 2 0),(6,.adr 1 0 3 0),(7,.sl 4),(10,.adr 5 0 4 0),(13,.adr 6 0 2 0),(14,.sl 9),(15,.mp 10),(16,.i64 c),(17,.adr 11 0 4 0),(18,.u32 0),(19,.adr 12 0 4 0),(93,.i64 (x.length:Int)),(94,.i64 a6)] (Hw z v x u I J L M j q f O ((f.getD c.toNat (0,0,0,0)).1) ((f.getD c.toNat (0,0,0,0)).2.1) ((f.getD c.toNat (0,0,0,0)).2.2.1) ((f.getD c.toNat (0,0,0,0)).2.2.2) bs bv bx c1) 13) (fun c2 h=>?_) (fun c2 h=>?_))
     ·refine aC h (fun e6 h=>?_) (fun e6 h=>?_)
      ·obtain⟨e7,e8,h⟩:=g2 h;obtain⟨fs,e9,h⟩:=aj h;have N:=(cQ e9);exact kY ⟨[],[(8,(oP N))]⟩ [(6,6,oc e7),(7,7,oc e8),(8,8,oc N)] (eN h (gg [] [0,1,2,3,4,5,6,7,8,9,10,11,12]))
      exact ae (eN h (gg [] [0,1,2,3,4,5,6,7,8,9,10,11,12]))
     obtain⟨bs,bv,bx,c1⟩:=c2;refine ay (ab (Ge ?_));exact eB h (gg [] [0,1,2,3,4,5,6,7,8,9,10,11,12])
    refine aw (aQ ?_);exact eX h (gg [] [0,1,2,3,4,5,6,7,8,9,10,11,12])
   obtain⟨A,B,C,D⟩:=e3;refine az (ab (af (G (ak ?_))));refine cw h (fun(a7,a3)=>aA [(1,.i64 X),(4,.adr 0 0 2 0),(6,.adr 1 0 3 0),(7,.sl 4),(10,.adr 5 0 4 0),(13,.adr 6 0 2 0),(14,.sl 9),(15,.mp 10),(16,.i64 c),(17,.adr 11 0 4 0),(18,.u32 a7),(19,.adr 12 0 4 0),(110,.sl 4),(111,.i64 (u.length:Int)),(112,.i64 a3)] (Hw z v x u I J L M j q f O ((f.getD c.toNat (0,0,0,0)).1) ((f.getD c.toNat (0,0,0,0)).2.1) ((f.getD c.toNat (0,0,0,0)).2.2.1) ((f.getD c.toNat (0,0,0,0)).2.2.2) A B C D) 13) 8 (fun V=>aA [(1,.i64 X),(4,.adr 0 0 2 0),(6,.adr 1 0 3 0),(7,.sl 4),(10,.adr 5 0 4 0),(13,.adr 6 0 2 0),(14,.sl 9),(15,.mp 10),(16,.i64 c),(18,.u32 V),(19,.adr 11 0 4 0)] (NZ z v x u I J L M j q f O A B C D) 12) (gg [] [0,1,2,3,4,5,6,7,8,9,10,11,12]) (fun y o h=>?_) (fun V h=>?_)
   ·obtain⟨a7,a3⟩:=y;unfold tj at h;refine G (af (aC h (fun ea h=>?_) (fun ea h=>?_)))
    ·refine ae (ab (af (ak ?_)));obtain⟨eb,ec,h⟩:=g2 h;refine GN a0 [(1,1,oc eb),(2,2,oc ec)] (af (bn h (fun a8=>aA [(1,.i64 X),(4,.adr 0 0 2 0),(6,.adr 1 0 3 0),(7,.sl 4),(10,.adr 5 0 4 0),(13,.adr 6 0 2 0),(14,.sl 9),(15,.mp 10),(16,.i64 c),(17,.adr 11 0 4 0),(18,.u32 a7),(19,.adr 12 0 4 0),(21,.i64 a3),(110,.sl 4),(111,.i64 (u.length:Int)),(112,.i64 a3),(124,.bo a8)] (Hw z v x u I J L M j q f O ((f.getD c.toNat (0,0,0,0)).1) ((f.getD c.toNat (0,0,0,0)).2.1) ((f.getD c.toNat (0,0,0,0)).2.2.1) ((f.getD c.toNat (0,0,0,0)).2.2.2) A B C D) 13) (fun a8 h=>?_) (fun a8 h=>?_)))
     ·rcases aI h with⟨a4,h⟩ | ⟨a4,h⟩
      ·exact bz ⟨[(2,true),(7,true)],[]⟩ [(3,7,oc a4)] (eN h (gg [] [0,1,2,3,4,5,6,7,8,9,10,11,12]))
      obtain⟨ft,ed,h⟩:=aj h;have N:=(yU ed);exact bz ⟨[(2,false),(7,false)],[(6,(oP N))]⟩ [(3,5,an a4),(6,6,oc (And.intro a4 N)),(7,7,oc a4)] (eN h (gg [] [0,1,2,3,4,5,6,7,8,9,10,11,12]))
     refine ab (bn h (fun a9=>aA [(1,.i64 X),(4,.adr 0 0 2 0),(6,.adr 1 0 3 0),(7,.sl 4),(10,.adr 5 0 4 0),(13,.adr 6 0 2 0),(14,.sl 9),(15,.mp 10),(16,.i64 c),(17,.adr 11 0 4 0),(18,.u32 a9),(19,.adr 12 0 4 0),(110,.sl 4),(111,.i64 (u.length:Int)),(112,.i64 a3)] (Hw z v x u I J L M j q f O ((f.getD c.toNat (0,0,0,0)).1) ((f.getD c.toNat (0,0,0,0)).2.1) ((f.getD c.toNat (0,0,0,0)).2.2.1) ((f.getD c.toNat (0,0,0,0)).2.2.2) A B C D) 13) (fun a9 h=>?_) (fun a9 h=>?_))
     ·refine aC h (fun ef h=>?_) (fun ef h=>?_)
      ·refine xg 2 h (fun h=>?_);exact eN h (gg [] [0,1,2,3,4,5,6,7,8,9,10,11,12])
      exact ae (eN h (gg [] [0,1,2,3,4,5,6,7,8,9,10,11,12]))
     refine ay (ab (Ge ?_));exact eB h (gg [] [0,1,2,3,4,5,6,7,8,9,10,11,12])
    refine aw (aQ ?_);exact eX h (gg [] [0,1,2,3,4,5,6,7,8,9,10,12])
   refine az (ab (GC 1 h (fun h=>af (G (ak ?_)))));refine kj h (fun(Z,a1,Y,E)=>aA [(1,.i64 X),(4,.adr 0 0 2 0),(6,.adr 1 0 3 0),(7,.sl 4),(10,.adr 5 0 4 0),(13,.adr 6 0 2 0),(14,.sl 9),(15,.mp 10),(16,.i64 c),(18,.u32 V),(19,.adr 11 0 4 0),(23,.sl 12),(132,.i64 X),(133,.i64 E)] (NF z v x u I J L M j q Z a1 A B C D Y) 13) (dw (fc Tryz.f74.ntmps 10 (fun(c3,c4,c5)=>aA [(1,.i64 X),(4,.adr 0 0 2 0),(6,.adr 1 0 3 0),(7,.sl 4),(10,.adr 5 0 4 0),(13,.adr 6 0 2 0),(14,.sl 9),(15,.mp 10),(16,.i64 c),(18,.u32 V),(23,.sl 11)] (Om z v x u I J L M j q c3 c4 c5) 12)) (gm tb Tryz.f74.results.toList (fun(c6,c7)=>[⟨DZ,c6⟩,⟨(.int .i64),c7⟩]))) (gg [] [0,1,2,3,4,5,6,7,8,9,10,11,20]) (fun y o h=>?_) (fun eh h e σ' hq=>?_)
   ·obtain⟨Z,a1,Y,E⟩:=y;unfold tZ at h;refine G (af (aC h (fun ei h=>?_) (fun ei h=>?_)))
    ·refine ae (ab (af (ak (G (G (af (G (ak ?_))))))));refine cw h (fun(aa,ac,ad,ax,a5)=>aA [(1,.i64 X),(4,.adr 0 0 2 0),(6,.adr 1 0 3 0),(7,.sl 4),(10,.adr 5 0 4 0),(13,.adr 6 0 2 0),(14,.sl 9),(15,.mp 10),(16,.i64 c),(18,.u32 V),(19,.adr 11 0 4 0),(23,.sl 12),(24,.i64 E),(25,.adr 13 0 4 0),(132,.i64 X),(133,.i64 E),(139,.sl 2),(140,.i64 (v.length:Int)),(141,.i64 a5)] (J4 z v x u I J L M j q Z a1 A B C D Y aa ac ad ax) 14) 12 (fun(c8,c9,cc,ch)=>aA [(1,.i64 X),(4,.adr 0 0 2 0),(6,.adr 1 0 3 0),(7,.sl 4),(10,.adr 5 0 4 0),(13,.adr 6 0 2 0),(14,.sl 9),(15,.mp 10),(16,.i64 c),(18,.u32 V),(19,.adr 11 0 4 0),(23,.sl 12),(24,.i64 E),(25,.adr 13 0 4 0),(132,.i64 X),(133,.i64 E)] (J4 z v x u I J L M j q Z a1 A B C D Y c8 c9 cc ch) 14) (gg [] [0,1,2,3,4,5,6,7,8,9,10,11,12,37]) (fun y o h=>?_) (fun ej h=>?_)
     ·obtain⟨aa,ac,ad,ax,a5⟩:=y;unfold se at h;refine G (af (aC h (fun ek h=>?_) (fun ek h=>?_)))
      ·refine ae (ab (af (ak ?_)));obtain⟨el,er,h⟩:=g2 h;refine GN a0 [(1,1,oc el),(2,2,oc er)] (af (bn h (fun b1=>aA [(1,.i64 X),(4,.adr 0 0 2 0),(6,.adr 1 0 3 0),(7,.sl 4),(10,.adr 5 0 4 0),(13,.adr 6 0 2 0),(14,.sl 9),(15,.mp 10),(16,.i64 c),(18,.u32 V),(19,.adr 11 0 4 0),(23,.sl 12),(24,.i64 E),(25,.adr 13 0 4 0),(26,.i64 a5),(132,.i64 X),(133,.i64 E),(139,.sl 2),(140,.i64 (v.length:Int)),(141,.i64 a5),(155,.bo b1)] (J4 z v x u I J L M j q Z a1 A B C D Y aa ac ad ax) 14) (fun b1 h=>?_) (fun b1 h=>?_)))
       ·obtain⟨fv,cl,h⟩:=aj h;rcases aI h with⟨a2,h⟩ | ⟨a2,h⟩
        ·obtain⟨es,h⟩:=aE h;have N:=(iv cl);exact bz ⟨[(3,true),(9,true)],[(2,(oP N))]⟩ [(2,2,oc N),(4,5,an a2),(6,6,oc (And.intro a2 es)),(7,8,an a2),(9,9,oc a2)] (eN h (gg [] [0,1,2,3,4,5,6,7,8,9,10,11,12,13]))
        have N:=(iv cl);exact bz ⟨[(3,false),(9,false)],[(2,(oP N))]⟩ [(2,2,oc N),(4,9,oc a2)] (eN h (gg [] [0,1,2,3,4,5,6,7,8,9,10,11,12,13]))
       refine ab (bn h (fun(cp,cs,cx,d2)=>aA [(1,.i64 X),(4,.adr 0 0 2 0),(6,.adr 1 0 3 0),(7,.sl 4),(10,.adr 5 0 4 0),(13,.adr 6 0 2 0),(14,.sl 9),(15,.mp 10),(16,.i64 c),(18,.u32 V),(19,.adr 11 0 4 0),(23,.sl 12),(24,.i64 E),(25,.adr 13 0 4 0),(132,.i64 X),(133,.i64 E),(139,.sl 2),(140,.i64 (v.length:Int)),(141,.i64 a5)] (J4 z v x u I J L M j q Z a1 A B C D Y cp cs cx d2) 14) (fun d3 h=>?_) (fun d3 h=>?_))
       ·refine aC h (fun et h=>?_) (fun et h=>?_)
        ·obtain⟨⟨fw,g1,g5,g6⟩,eu,h⟩:=aj h;exact lg 1 [13] (rI eu) (eN h (gg [] [0,1,2,3,4,5,6,7,8,9,10,11,12,13]))
        exact ae (eN h (gg [] [0,1,2,3,4,5,6,7,8,9,10,11,12,13]))
       obtain⟨cp,cs,cx,d2⟩:=d3;refine ay (ab (Ge ?_));exact eB h (gg [] [0,1,2,3,4,5,6,7,8,9,10,11,12,13])
      refine aw (aQ ?_);exact eX h (gg [] [0,1,2,3,4,5,6,7,8,9,10,11,12,13])
     obtain⟨c8,c9,cc,ch⟩:=ej;refine az (ab (GN a0 [(2,2,oc Aq)] (af (G (Ec h (dw (oT Tryz.f74.ntmps (fun(d4,d5,d6)=>aA [(1,.i64 X),(4,.adr 0 0 2 0),(6,.adr 1 0 3 0),(7,.sl 4),(10,.adr 5 0 4 0),(13,.adr 6 0 2 0),(14,.sl 9),(15,.mp 10),(16,.i64 c),(18,.u32 V),(19,.adr 11 0 4 0),(23,.sl 12),(24,.i64 E),(28,.i64 d6),(132,.i64 X),(133,.i64 E)] (NF z v x u I J L M j q d4 d5 A B C D Y) 13)) (gm tb Tryz.f74.results.toList (fun(d7,d8)=>[⟨DZ,d7⟩,⟨(.int .i64),d8⟩]))) (fun d9 h=>?_) (fun d9 h e σ' hq=>?_))))))
     ·refine aC h (fun ew h=>?_) (fun ew h=>?_)
      ·refine af (G (G (aC h (fun ey h=>?_) (fun ey h=>?_))))
       ·refine G (au ?_);obtain rfl:=sI h;refine ah (aN ?_);exact bH (RI [DZ,(.int .i64)])
       refine ae (ab (GN a0 [(3,3,oc Aq)] (xg 3 h (fun h=>?_))));obtain rfl:=sI h;exact bm (cM (gg [] [0,1,2,3,4,5,6,7,8,190,10,11,12]))
      refine ae ?_;obtain rfl:=sI h;exact bm (cM (gg [] [0,1,2,3,4,5,6,7,8,9,10,11,12]))
     rcases d9 with⟨d4,d5,d6⟩ | ⟨d7,d8⟩
     ·obtain⟨rfl,b2⟩:=hq;refine cC ?_ b2;refine ab ?_;obtain⟨f1,f2,h⟩:=g2 h;refine bz a0 [(3,3,oc f1),(4,4,oc f2)] (ay (ab (Ge ?_)));exact eB h (gg [] [0,1,2,3,4,5,6,7,8,9,10,11,12])
     obtain⟨rfl,hr⟩:=hq;obtain rfl:=sI h;refine ah (aB (ah (bG (aN ?_))));exact bH hr
    refine aw (aQ ?_);obtain rfl:=sI h;refine dJ (bm ?_);exact bN (gg [] [0,1,2,3,4,5,6,7,8,9,10,12])
   rcases eh with⟨c3,c4,c5⟩ | ⟨c6,c7⟩
   ·obtain⟨rfl,b2⟩:=hq;refine cC ?_ b2;refine az (ab ?_);obtain⟨f3,f4,h⟩:=g2 h;refine kY a0 [(4,4,oc f3),(9,9,oc f4)] (ay (ab (Ge ?_)));exact eB h (gg [] [0,1,2,3,4,5,6,44,84,9,10])
   obtain⟨rfl,hr⟩:=hq;obtain rfl:=sI h;refine aB (ah (aB (ah (bG (aN ?_)))));exact bH hr
  refine aw (aQ ?_);obtain rfl:=sI h;refine dJ (bm ?_);exact bN (gg [] [0,6,7,8])
 rcases dt with⟨b4,b5⟩ | ⟨b6,b7⟩
 ·obtain⟨rfl,b2⟩:=hq;refine cC ?_ b2;refine az (ab (G (kr [.frzC 0 0,.frzC 0 1] (by kernel_rfl) (au ?_))));obtain rfl:=sI h;exact RI [DZ,(.int .i64)]
 obtain⟨rfl,hr⟩:=hq;refine aB (ah ?_);obtain rfl:=sI h;exact hr
def ph(f:QZ)(e:Int):(Int)→Option ((Int)⊕((Unit)⊕(Bool))):=fun c =>
 (if(decide (c<((f.getD e.toNat []).length:Int)))=true then(if 0≤c∧c<((f.getD e.toNat []).length:Int)then(((if(decide (((f.getD e.toNat []).getD c.toNat 0)<0))=true then some (true)
 else some ((decide (((f.getD e.toNat []).getD c.toNat 0)≥(f.length:Int)))))).bind fun j=>(if j=true then some (Sum.inr (Sum.inr false))
 else some (Sum.inl (i64.wrap (c+1)))))else none)
 else some (Sum.inr (Sum.inl ())))
def pQ(e:QZ):(Int)→Option ((Int)⊕((Unit)⊕(Bool))):=fun c =>
 (if(decide (c<(e.length:Int)))=true then(if 0≤c∧c<(e.length:Int)then(if 0≤(0:Int)∧0<(e.length:Int)then(if(((e.getD c.toNat []).length:Int) != ((e.getD ((0:Int).toNat) []).length:Int))=true then some (Sum.inr (Sum.inr false))
 else((iter (ph e c) (0:Int)).bind fun(f:((Unit)⊕(Bool)))=>match f with
 | .inl _=>some (Sum.inl (i64.wrap (c+1)))
 | .inr (j)=>some (Sum.inr (Sum.inr j))))else none)else none)
 else some (Sum.inr (Sum.inl ())))
def mf(c:QZ)(e:QK):Option (Bool) :=
 (((if((c.length:Int) == 0)=true then some (true)
 else some (((c.length:Int) != (e.length:Int))))).bind fun v1=>(if v1=true then some false
 else((iter (pQ c) (0:Int)).bind fun(f:((Unit)⊕(Bool)))=>match f with
 | .inl _=>some true
 | .inr (j)=>some j)))
theorem yq(c q:Bool){f:QZ}{v:QK}{B:Bool}(h:mf f v=some B):
  Pure Tryz.prog 109 [.agg [.p c (.slice (.slice (.int .i64))) f,.p q (.slice (.int .u32)) v]] (aJ (bc false [⟨.bool,B⟩])):=by
 refine PB Tryz.func109 (fun Bw w0=>?_);unfold mf at h;refine G (af (af (bn h (fun v1=>aA [(1,.adr 0 0 2 0),(19,.bo v1)] (JD c f q v) 1) (fun v1 h=>?_) (fun v1 h=>?_))))
 ·rcases aI h with⟨D,h⟩ | ⟨D,h⟩
  ·exact bz ⟨[(4,true),(12,true)],[]⟩ [(5,12,oc D)] (eN h (gg [] [0]))
  exact bz ⟨[(4,false),(12,false)],[]⟩ [(5,11,an D),(12,12,oc D)] (eN h (gg [] [0]))
 refine ab (aC h (fun V h=>?_) (fun V h=>?_))
 ·refine G (au (ah ?_));obtain rfl:=sI h;exact RI [.bool]
 refine ae (ab (af (G (ak (kj h (fun j=>aA [(1,.adr 0 0 2 0),(21,.p c (.slice (.slice (.int .i64))) f),(22,.i64 (f.length:Int)),(23,.i64 j)] (JD c f q v) 1) (dw (fc Tryz.f109.ntmps 0 (fun _=>aA [] [] 0)) (gm tb Tryz.f109.results.toList (fun N=>[⟨.bool,N⟩]))) (gg [] [0]) (fun j o h=>?_) (fun X h e σ' C=>?_))))))
 ·unfold pQ at h;refine G (af (aC h (fun E h=>?_) (fun E h=>?_)))
  ·refine ae (ab (af (ak (GC 0 h (fun h=>af (GC 4 h (fun h=>aC h (fun I h=>?_) (fun I h=>?_))))))))
   ·refine G (au ?_);obtain rfl:=sI h;refine ah (aB (ah (bG (aN ?_))));exact bH (RI [.bool])
   refine ae (ab (G (ak (kj h (fun x=>aA [(1,.adr 0 0 2 0),(21,.p c (.slice (.slice (.int .i64))) f),(22,.i64 (f.length:Int)),(23,.i64 j),(35,.p c (.slice (.int .i64)) (f.getD j.toNat [])),(36,.i64 ((f.getD j.toNat []).length:Int)),(37,.i64 x)] (JD c f q v) 1) (dw (fc Tryz.f109.ntmps 2 (fun _=>aA [(1,.adr 0 0 2 0),(21,.p c (.slice (.slice (.int .i64))) f),(22,.i64 (f.length:Int)),(23,.i64 j)] (JD c f q v) 1)) (gm tb Tryz.f109.results.toList (fun O=>[⟨.bool,O⟩]))) (gg [] [0]) (fun x o h=>?_) (fun Y h e σ' C=>?_)))))
   ·unfold ph at h;refine G (af (aC h (fun J h=>?_) (fun J h=>?_)))
    ·refine ae (ab (af (ak (GC 0 h (fun h=>af (bn h (fun z=>aA [(1,.adr 0 0 2 0),(21,.p c (.slice (.slice (.int .i64))) f),(22,.i64 (f.length:Int)),(23,.i64 j),(35,.p c (.slice (.int .i64)) (f.getD j.toNat [])),(36,.i64 ((f.getD j.toNat []).length:Int)),(37,.i64 x),(49,.bo z)] (JD c f q v) 1) (fun z h=>?_) (fun z h=>?_)))))))
     ·rcases aI h with⟨u,h⟩ | ⟨u,h⟩
      ·exact bz ⟨[(2,true),(8,true)],[]⟩ [(3,8,oc u)] (eN h (gg [] [0]))
      exact bz ⟨[(2,false),(8,false)],[]⟩ [(3,7,an u),(8,8,oc u)] (eN h (gg [] [0]))
     refine ab (aC h (fun L h=>?_) (fun L h=>?_))
     ·refine G (au ?_);obtain rfl:=sI h;refine aB (ah (bG (aN ?_)));exact bH (RI [.bool])
     refine ae (ay (ab (Ge ?_)));exact eB h (gg [] [0])
    refine aw (aQ ?_);obtain rfl:=sI h;refine dJ (bm ?_);exact bN (gg [] [0])
   rcases Y with _ | O
   ·obtain⟨rfl,A⟩:=C;refine cC ?_ A;refine az (ay (ab (Ge ?_)));exact eB h (gg [] [0])
   obtain⟨rfl,M⟩:=C;obtain rfl:=sI h;refine aB (aB (ah (bG (aN ?_))));exact bH M
  refine aw (aQ ?_);obtain rfl:=sI h;refine dJ (bm ?_);exact bN (gg [] [])
 rcases X with _ | N
 ·obtain⟨rfl,A⟩:=C;refine cC ?_ A;refine az (ab (G (au ?_)));obtain rfl:=sI h;exact RI [.bool]
 obtain⟨rfl,M⟩:=C;refine aB (ah ?_);obtain rfl:=sI h;exact M
def iq(e:Int)(_:QZ)(j c:QK):Option QK :=
 (if 0≤e∧e<(j.length:Int)then(if(c.length+([(i64.wrap (j.getD e.toNat 0))]:QK).length)*8≤140737488355328∧c.length+([(i64.wrap (j.getD e.toNat 0))]:QK).length≤9223372036854775807 then some (c++([(i64.wrap (j.getD e.toNat 0))]:QK))else none)else none)
theorem rK(f j:Bool){q:Int}{v:QZ}{u c e:QK}(h:iq q v u c=some e):
  fP Tryz.prog 111 [.i64 q,.sl 0,.fad true [.p f (.slice (.slice (.int .i64))) v,.p j (.slice (.int .u32)) u] 0] [(0,.arr 3 (.int .i64) c)] (.sl 1) [(1,.arr 3 (.int .i64) e)]:=by
 refine OB Tryz.func111 (fun Bw w0=>?_);unfold iq at h;refine G ?_;obtain⟨x,z,h⟩:=g2 h;refine GN a0 [(4,4,oc x),(8,8,oc z)] (au ?_);obtain rfl:=sI h;exact RO [none] [] [0,73] [(5,.sl 1)] [(1,.arr 3 (.int .i64) (c++([(i64.wrap (u.getD q.toNat 0))]:QK)))] 2 1
def jb(e:QK):vR→Option (vR⊕QK):=fun(f,c) =>
 (if(decide (c<(e.length:Int)))=true then(if 0≤c∧c<(e.length:Int)then(if c.toNat<e.length then(if 0≤(8:Int)then(if 0≤(16:Int)then(if 0≤(24:Int)then(if(f.length+([(u8.wrap (e.getD c.toNat 0)),(u8.wrap (Int.fdiv (e.getD c.toNat 0) (2 ^ (min (8:Int).toNat i64.bits)))),(u8.wrap (Int.fdiv (e.getD c.toNat 0) (2 ^ (min (16:Int).toNat i64.bits)))),(u8.wrap (Int.fdiv (e.getD c.toNat 0) (2 ^ (min (24:Int).toNat i64.bits))))]:QK).length)*1≤140737488355328∧f.length+([(u8.wrap (e.getD c.toNat 0)),(u8.wrap (Int.fdiv (e.getD c.toNat 0) (2 ^ (min (8:Int).toNat i64.bits)))),(u8.wrap (Int.fdiv (e.getD c.toNat 0) (2 ^ (min (16:Int).toNat i64.bits)))),(u8.wrap (Int.fdiv (e.getD c.toNat 0) (2 ^ (min (24:Int).toNat i64.bits))))]:QK).length≤9223372036854775807 then some (Sum.inl ((f++([(u8.wrap (e.getD c.toNat 0)),(u8.wrap (Int.fdiv (e.getD c.toNat 0) (2 ^ (min (8:Int).toNat i64.bits)))),(u8.wrap (Int.fdiv (e.getD c.toNat 0) (2 ^ (min (16:Int).toNat i64.bits)))),(u8.wrap (Int.fdiv (e.getD c.toNat 0) (2 ^ (min (24:Int).toNat i64.bits))))]:QK)),(i64.wrap (c+1))))else none)else none)else none)else none)else none)else none)
 else some (Sum.inr f))
def pj(u:Int)(v:QZ)(x:QK):(XQ×QK×QK×Int)→Option ((XQ×QK×QK×Int)⊕QK):=fun(e,v20,j,c) =>
 (if(decide (c<u))=true then(if 0≤(0:Int)∧0≤(j.length:Int)then((iq c v x (j.take (0:Int).toNat)).bind fun q =>
 ((iter (jb q) (([]:QK),0)).bind fun f=>(((if(!((aU .str e (bytesOf f)).isSome))=true then some (((cj .str e (bytesOf f) (e.length:Int)),(e.length:Int)))
 else some ((e,((aU .str e (bytesOf f)).getD 0))))).bind fun(p,v30)=>(if 0≤c∧c<(v20.length:Int)then(if c.toNat<v20.length then some (Sum.inl (p,(v20.set c.toNat v30),q,(i64.wrap (c+1))))else none)else none))))else none)
 else some (Sum.inr v20))
def mr(c:Int)(j:QZ)(p:QK):Option QK :=
 (if 0≤c∧c≤c∧8*c≤281474976710656∧c≤9223372036854775807 then((iter (pj c j p) (([]:XQ),(List.replicate c.toNat (0:Int)),([]:QK),0)).bind fun e=>some e)else none)
theorem wY(e f:Bool){q:Int}{u:QZ}{v x:QK}(h:mr q u v=some x):
  Pure Tryz.prog 110 [.i64 q,.fn 111 [.fad true [.p e (.slice (.slice (.int .i64))) u,.p f (.slice (.int .u32)) v] 0]] (aJ (bc false [⟨(.slice (.int .i64)),x⟩])):=by
 refine PB Tryz.func110 (fun Bw w0=>?_);unfold mr at h;refine G (G (GC 1 h (fun h=>G (af (G (ak (cw h (fun(j,v20,z,c)=>aA [(1,.fn 111 [.fad true [.p e (.slice (.slice (.int .i64))) u,.p f (.slice (.int .u32)) v] 0]),(5,.mp 0),(6,.sl 1),(7,.sl 2),(17,.i64 q),(18,.i64 c)] (KB j v20 z) 3) 0 (fun A=>aA [(6,.sl 0)] [(0,.arr 3 (.int .i64) A)] 1) (gg [.nilS 7 72 3 (.int .i64)] [8,32,72]) (fun y o h=>?_) (fun A h=>?_))))))))
 ·obtain⟨j,v20,z,c⟩:=y;unfold pj at h;refine G (af (aC h (fun a1 h=>?_) (fun a1 h=>?_)))
  ·refine ae (ab (af (ak (G ?_))));obtain⟨a2,h⟩:=aE h;obtain⟨Z,q6,h⟩:=aj h;have B:=(rK e f q6);refine GN ⟨[],[(4,(oO B [51]))]⟩ [(3,3,oc a2),(4,4,oc B)] (G (af (G (ak (cw h (fun(C,D)=>aA [(1,.fn 111 [.fad true [.p e (.slice (.slice (.int .i64))) u,.p f (.slice (.int .u32)) v] 0]),(5,.mp 0),(6,.sl 1),(7,.sl 2),(8,.i64 c),(9,.sl 3),(17,.i64 q),(18,.i64 c),(26,.sl 2),(27,.i64 (Z.length:Int)),(28,.i64 D)] (Ki j v20 Z C) 4) 2 (fun E=>aA [(1,.fn 111 [.fad true [.p e (.slice (.slice (.int .i64))) u,.p f (.slice (.int .u32)) v] 0]),(5,.mp 0),(6,.sl 1),(7,.sl 2),(8,.i64 c),(9,.sl 3),(17,.i64 q),(18,.i64 c)] (Ki j v20 Z E) 4) (gg [.nilS 9 107 5 (.int .u8)] [0,1,59,107]) (fun y o h=>?_) (fun E h=>?_))))))
   ·obtain⟨C,D⟩:=y;unfold jb at h;refine G (af (aC h (fun a3 h=>?_) (fun a3 h=>?_)))
    ·refine ae (ab (af (ak ?_)));obtain⟨I,J,h⟩:=g2 h;refine GN a0 [(0,0,oc I),(1,1,oc J)] ?_;obtain⟨L,M,N,O,h⟩:=g4 h;refine bz a0 [(4,4,oc L),(7,7,oc M),(10,10,oc N),(13,13,oc O)] (ay (ab (Ge ?_)));exact eB h (gg [] [0,1,2,140])
    refine aw (aQ ?_);exact eX h (gg [] [0,1,2,3])
   refine az (ab (G (af (G (bn h (fun(V,v30)=>aA [(1,.fn 111 [.fad true [.p e (.slice (.slice (.int .i64))) u,.p f (.slice (.int .u32)) v] 0]),(5,.mp 0),(6,.sl 1),(7,.sl 2),(8,.i64 c),(12,.i64 v30),(17,.i64 q),(18,.i64 c)] (KB V v20 Z) 3) (fun r9 h=>?_) (fun r9 h=>?_))))))
   ·refine aC h (fun a4 h=>?_) (fun a4 h=>?_)
    ·refine G (Ge ?_);exact eN h (gg [] [0,1,2])
    exact ae (eN h (gg [] [0,1,2]))
   obtain⟨V,v30⟩:=r9;refine ab ?_;obtain⟨X,Y,h⟩:=g2 h;refine bz a0 [(3,3,oc X),(4,4,oc Y)] (ay (ab (Ge ?_)));exact eB h (gg [] [0,1,2])
  refine aw (aQ ?_);exact eX h (gg [] [1])
 refine az (ab (G (au ?_)));obtain rfl:=sI h;exact RI [(.slice (.int .i64))]
def fG(e:Int)(p:QK)(j:QZ):vR→Option (vR⊕QK):=fun(c,v4) =>
 (if(decide (v4<((j.getD e.toNat []).length:Int)))=true then(if 0≤v4∧v4<((j.getD e.toNat []).length:Int)then(if 0≤((j.getD e.toNat []).getD v4.toNat 0)∧((j.getD e.toNat []).getD v4.toNat 0)<(p.length:Int)then(if(c.length+([(p.getD (((j.getD e.toNat []).getD v4.toNat 0).toNat) 0)]:QK).length)*8≤140737488355328∧c.length+([(p.getD (((j.getD e.toNat []).getD v4.toNat 0).toNat) 0)]:QK).length≤9223372036854775807 then some (Sum.inl ((c++([(p.getD (((j.getD e.toNat []).getD v4.toNat 0).toNat) 0)]:QK)),(i64.wrap (v4+1))))else none)else none)else none)
 else some (Sum.inr c))
def ir(e:Int)(j:QK)(q:QZ)(_ c:QK):Option QK :=
 (if 0≤e∧e<(j.length:Int)then(if(c.length+([(j.getD e.toNat 0)]:QK).length)*8≤140737488355328∧c.length+([(j.getD e.toNat 0)]:QK).length≤9223372036854775807 then(if 0≤e∧e<(q.length:Int)then((iter (fG e j q) ((c++([(j.getD e.toNat 0)]:QK)),0)).bind fun p=>some p)else none)else none)else none)
theorem rJ(j q z:Bool){v:Int}{A:QK}{x:QZ}{I e u:QK}(h:ir v A x I e=some u):
  fP Tryz.prog 112 [.i64 v,.sl 0,.fad true [.p j (.slice (.int .i64)) A] 0,.fad true [.p q (.slice (.slice (.int .i64))) x,.p z (.slice (.int .u32)) I] 0] [(0,.arr 3 (.int .i64) e)] (.sl 1) [(1,.arr 3 (.int .i64) u)]:=by
 refine OB Tryz.func112 (fun Bw w0=>?_);unfold ir at h;refine G ?_;obtain⟨B,C,h⟩:=g2 h;refine GN a0 [(3,3,oc B),(6,6,oc C)] (af (GC 3 h (fun h=>ak (cw h (fun(f,v4)=>aA [(1,.sl 1),(2,.fad true [.p j (.slice (.int .i64)) A] 0),(20,.p q (.slice (.int .i64)) (x.getD v.toNat [])),(21,.i64 ((x.getD v.toNat []).length:Int)),(22,.i64 v4)] [(1,.arr 3 (.int .i64) f)] 2 1) 0 (fun c=>aA [(1,.sl 1)] [(1,.arr 3 (.int .i64) c)] 2 1) (gg [] [0,57]) (fun y o h=>?_) (fun c h=>?_)))))
 ·obtain⟨f,v4⟩:=y;unfold fG at h;refine G (af (aC h (fun J h=>?_) (fun J h=>?_)))
  ·refine ae (ab (af (ak (GC 0 h (fun h=>?_)))));obtain⟨D,E,h⟩:=g2 h;refine bz a0 [(3,3,oc D),(6,6,oc E)] (ay (ab (Ge ?_)));exact eB h (gg [] [0,82])
  refine aw (aQ ?_);exact eX h (gg [] [0,1])
 refine az (ab (G (au ?_)));obtain rfl:=sI h;exact RO [none] [] [0,1] [(6,.sl 1)] [(1,.arr 3 (.int .i64) c)] 2 1
def mj(e:QK):vR→Option (vR⊕QK):=fun(f,c) =>
 (if(decide (c<(e.length:Int)))=true then(if 0≤c∧c<(e.length:Int)then(if c.toNat<e.length then(if 0≤(8:Int)then(if 0≤(16:Int)then(if 0≤(24:Int)then(if(f.length+([(u8.wrap (e.getD c.toNat 0)),(u8.wrap (Int.fdiv (e.getD c.toNat 0) (2 ^ (min (8:Int).toNat i64.bits)))),(u8.wrap (Int.fdiv (e.getD c.toNat 0) (2 ^ (min (16:Int).toNat i64.bits)))),(u8.wrap (Int.fdiv (e.getD c.toNat 0) (2 ^ (min (24:Int).toNat i64.bits))))]:QK).length)*1≤140737488355328∧f.length+([(u8.wrap (e.getD c.toNat 0)),(u8.wrap (Int.fdiv (e.getD c.toNat 0) (2 ^ (min (8:Int).toNat i64.bits)))),(u8.wrap (Int.fdiv (e.getD c.toNat 0) (2 ^ (min (16:Int).toNat i64.bits)))),(u8.wrap (Int.fdiv (e.getD c.toNat 0) (2 ^ (min (24:Int).toNat i64.bits))))]:QK).length≤9223372036854775807 then some (Sum.inl ((f++([(u8.wrap (e.getD c.toNat 0)),(u8.wrap (Int.fdiv (e.getD c.toNat 0) (2 ^ (min (8:Int).toNat i64.bits)))),(u8.wrap (Int.fdiv (e.getD c.toNat 0) (2 ^ (min (16:Int).toNat i64.bits)))),(u8.wrap (Int.fdiv (e.getD c.toNat 0) (2 ^ (min (24:Int).toNat i64.bits))))]:QK)),(i64.wrap (c+1))))else none)else none)else none)else none)else none)else none)
 else some (Sum.inr f))
def mC(u:Int)(v:QK)(x:QZ)(z:QK):(XQ×QK×QK×Int)→Option ((XQ×QK×QK×Int)⊕QK):=fun(e,v20,j,c) =>
 (if(decide (c<u))=true then(if 0≤(0:Int)∧0≤(j.length:Int)then((ir c v x z (j.take (0:Int).toNat)).bind fun q =>
 ((iter (mj q) (([]:QK),0)).bind fun f=>(((if(!((aU .str e (bytesOf f)).isSome))=true then some (((cj .str e (bytesOf f) (e.length:Int)),(e.length:Int)))
 else some ((e,((aU .str e (bytesOf f)).getD 0))))).bind fun(p,v30)=>(if 0≤c∧c<(v20.length:Int)then(if c.toNat<v20.length then some (Sum.inl (p,(v20.set c.toNat v30),q,(i64.wrap (c+1))))else none)else none))))else none)
 else some (Sum.inr v20))
def iU(c:Int)(j:QK)(p:QZ)(q:QK):Option QK :=
 (if 0≤c∧c≤c∧8*c≤281474976710656∧c≤9223372036854775807 then((iter (mC c j p q) (([]:XQ),(List.replicate c.toNat (0:Int)),([]:QK),0)).bind fun e=>some e)else none)
theorem ta(e f j:Bool){u:Int}{v:QK}{x:QZ}{z A:QK}(h:iU u v x z=some A):
  Pure Tryz.prog 110 [.i64 u,.fn 112 [.fad true [.p e (.slice (.int .i64)) v] 0,.fad true [.p f (.slice (.slice (.int .i64))) x,.p j (.slice (.int .u32)) z] 0]] (aJ (bc false [⟨(.slice (.int .i64)),A⟩])):=by
 refine PB Tryz.func110 (fun Bw w0=>?_);unfold iU at h;refine G (G (GC 1 h (fun h=>G (af (G (ak (cw h (fun(q,v20,B,c)=>aA [(1,.fn 112 [.fad true [.p e (.slice (.int .i64)) v] 0,.fad true [.p f (.slice (.slice (.int .i64))) x,.p j (.slice (.int .u32)) z] 0]),(5,.mp 0),(6,.sl 1),(7,.sl 2),(17,.i64 u),(18,.i64 c)] (KB q v20 B) 3) 0 (fun C=>aA [(6,.sl 0)] [(0,.arr 3 (.int .i64) C)] 1) (gg [.nilS 7 72 3 (.int .i64)] [8,32,72]) (fun y o h=>?_) (fun C h=>?_))))))))
 ·obtain⟨q,v20,B,c⟩:=y;unfold mC at h;refine G (af (aC h (fun a2 h=>?_) (fun a2 h=>?_)))
  ·refine ae (ab (af (ak (G ?_))));obtain⟨a3,h⟩:=aE h;obtain⟨r8,q6,h⟩:=aj h;have D:=(rJ e f j q6);refine GN ⟨[],[(4,(oO D [51]))]⟩ [(3,3,oc a3),(4,4,oc D)] (G (af (G (ak (cw h (fun(E,I)=>aA [(1,.fn 112 [.fad true [.p e (.slice (.int .i64)) v] 0,.fad true [.p f (.slice (.slice (.int .i64))) x,.p j (.slice (.int .u32)) z] 0]),(5,.mp 0),(6,.sl 1),(7,.sl 2),(8,.i64 c),(9,.sl 3),(17,.i64 u),(18,.i64 c),(26,.sl 2),(27,.i64 (r8.length:Int)),(28,.i64 I)] (Ki q v20 r8 E) 4) 2 (fun J=>aA [(1,.fn 112 [.fad true [.p e (.slice (.int .i64)) v] 0,.fad true [.p f (.slice (.slice (.int .i64))) x,.p j (.slice (.int .u32)) z] 0]),(5,.mp 0),(6,.sl 1),(7,.sl 2),(8,.i64 c),(9,.sl 3),(17,.i64 u),(18,.i64 c)] (Ki q v20 r8 J) 4) (gg [.nilS 9 107 5 (.int .u8)] [0,1,59,107]) (fun y o h=>?_) (fun J h=>?_))))))
   ·obtain⟨E,I⟩:=y;unfold mj at h;refine G (af (aC h (fun a4 h=>?_) (fun a4 h=>?_)))
    ·refine ae (ab (af (ak ?_)));obtain⟨L,M,h⟩:=g2 h;refine GN a0 [(0,0,oc L),(1,1,oc M)] ?_;obtain⟨N,O,V,X,h⟩:=g4 h;refine bz a0 [(4,4,oc N),(7,7,oc O),(10,10,oc V),(13,13,oc X)] (ay (ab (Ge ?_)));exact eB h (gg [] [0,1,2,140])
    refine aw (aQ ?_);exact eX h (gg [] [0,1,2,3])
   refine az (ab (G (af (G (bn h (fun(Y,v30)=>aA [(1,.fn 112 [.fad true [.p e (.slice (.int .i64)) v] 0,.fad true [.p f (.slice (.slice (.int .i64))) x,.p j (.slice (.int .u32)) z] 0]),(5,.mp 0),(6,.sl 1),(7,.sl 2),(8,.i64 c),(12,.i64 v30),(17,.i64 u),(18,.i64 c)] (KB Y v20 r8) 3) (fun r9 h=>?_) (fun r9 h=>?_))))))
   ·refine aC h (fun a5 h=>?_) (fun a5 h=>?_)
    ·refine G (Ge ?_);exact eN h (gg [] [0,1,2])
    exact ae (eN h (gg [] [0,1,2]))
   obtain⟨Y,v30⟩:=r9;refine ab ?_;obtain⟨Z,a1,h⟩:=g2 h;refine bz a0 [(3,3,oc Z),(4,4,oc a1)] (ay (ab (Ge ?_)));exact eB h (gg [] [0,1,2])
  refine aw (aQ ?_);exact eX h (gg [] [1])
 refine az (ab (G (au ?_)));obtain rfl:=sI h;exact RI [(.slice (.int .i64))]
def qW(e:QK):(Int×Int)→Option ((Int×Int)⊕(Int)):=fun(f,c) =>
 (if(decide (c<(e.length:Int)))=true then(if 0≤c∧c<(e.length:Int)then some (Sum.inl ((max f (e.getD c.toNat 0)),(i64.wrap (c+1))))else none)
 else some (Sum.inr f))
def jC(c:QK):Option (Int) :=
 ((iter (qW c) (0,0)).bind fun e=>some e)
theorem mW(c:Bool){f:QK}{e:Int}(h:jC f=some e):
  Pure Tryz.prog 113 [.p c (.slice (.int .i64)) f] (aJ (bc false [⟨(.int .i64),e⟩])):=by
 refine PB Tryz.func113 (fun Bw w0=>?_);unfold jC at h;refine G (G (af (G (ak (cw h (fun(j,q)=>aA [(3,.i64 j),(6,.p c (.slice (.int .i64)) f),(7,.i64 (f.length:Int)),(8,.i64 q)] [] 0) 0 (fun u=>aA [(3,.i64 u)] [] 0) (gg [] []) (fun y o h=>?_) (fun u h=>?_))))))
 ·obtain⟨j,q⟩:=y;unfold qW at h;refine G (af (aC h (fun v h=>?_) (fun v h=>?_)))
  ·refine ae (ab (af (ak (GC 0 h (fun h=>Ge (ay (ab (Ge ?_))))))));exact eB h (gg [] [])
  refine aw (aQ ?_);exact eX h (gg [] [])
 refine az (ab (G (au ?_)));obtain rfl:=sI h;exact RI [(.int .i64)]
def ky(e:Int):vR→Option (vR⊕QK):=fun(c,v4) =>
 (if(decide (v4<((List.replicate (i64.wrap (e+1)).toNat (0:Int)).length:Int)))=true then(if 0≤v4∧v4<(c.length:Int)then(if v4.toNat<c.length then some (Sum.inl ((c.set v4.toNat (-1:Int)),(i64.wrap (v4+1))))else none)else none)
 else some (Sum.inr c))
def kh(j:QZ)(p e:QK)(f:Int):(QK×QK×QK×Int)→Option ((QK×QK×QK×Int)⊕(QK×QK×QK)):=fun(q,u,x,c) =>
 (if(decide (c<((j.getD ((e.getD f.toNat 0).toNat) []).length:Int)))=true then(if 0≤c∧c<((j.getD ((e.getD f.toNat 0).toNat) []).length:Int)then(if 0≤((j.getD ((e.getD f.toNat 0).toNat) []).getD c.toNat 0)∧((j.getD ((e.getD f.toNat 0).toNat) []).getD c.toNat 0)<(p.length:Int)then(if 0≤(p.getD (((j.getD ((e.getD f.toNat 0).toNat) []).getD c.toNat 0).toNat) 0)∧(p.getD (((j.getD ((e.getD f.toNat 0).toNat) []).getD c.toNat 0).toNat) 0)<(q.length:Int)then(if(p.getD (((j.getD ((e.getD f.toNat 0).toNat) []).getD c.toNat 0).toNat) 0).toNat<q.length then(((if(decide ((q.getD ((p.getD (((j.getD ((e.getD f.toNat 0).toNat) []).getD c.toNat 0).toNat) 0).toNat) 0)<0))=true then(if 0≤((j.getD ((e.getD f.toNat 0).toNat) []).getD c.toNat 0)∧((j.getD ((e.getD f.toNat 0).toNat) []).getD c.toNat 0)<(p.length:Int)then(if 0≤(p.getD (((j.getD ((e.getD f.toNat 0).toNat) []).getD c.toNat 0).toNat) 0)∧(p.getD (((j.getD ((e.getD f.toNat 0).toNat) []).getD c.toNat 0).toNat) 0)<(q.length:Int)then(if(p.getD (((j.getD ((e.getD f.toNat 0).toNat) []).getD c.toNat 0).toNat) 0).toNat<q.length then(if(u.length+([((j.getD ((e.getD f.toNat 0).toNat) []).getD c.toNat 0)]:QK).length)*8≤140737488355328∧u.length+([((j.getD ((e.getD f.toNat 0).toNat) []).getD c.toNat 0)]:QK).length≤9223372036854775807 then some (((q.set ((p.getD (((j.getD ((e.getD f.toNat 0).toNat) []).getD c.toNat 0).toNat) 0).toNat) (u.length:Int)),(u++([((j.getD ((e.getD f.toNat 0).toNat) []).getD c.toNat 0)]:QK))))else none)else none)else none)else none)
 else some ((q,u)))).bind fun(v,z)=>(if 0≤((j.getD ((e.getD f.toNat 0).toNat) []).getD c.toNat 0)∧((j.getD ((e.getD f.toNat 0).toNat) []).getD c.toNat 0)<(p.length:Int)then(if 0≤(p.getD (((j.getD ((e.getD f.toNat 0).toNat) []).getD c.toNat 0).toNat) 0)∧(p.getD (((j.getD ((e.getD f.toNat 0).toNat) []).getD c.toNat 0).toNat) 0)<(v.length:Int)then(if(p.getD (((j.getD ((e.getD f.toNat 0).toNat) []).getD c.toNat 0).toNat) 0).toNat<v.length then(if(x.length+([(v.getD ((p.getD (((j.getD ((e.getD f.toNat 0).toNat) []).getD c.toNat 0).toNat) 0).toNat) 0)]:QK).length)*8≤140737488355328∧x.length+([(v.getD ((p.getD (((j.getD ((e.getD f.toNat 0).toNat) []).getD c.toNat 0).toNat) 0).toNat) 0)]:QK).length≤9223372036854775807 then some (Sum.inl (v,z,(x++([(v.getD ((p.getD (((j.getD ((e.getD f.toNat 0).toNat) []).getD c.toNat 0).toNat) 0).toNat) 0)]:QK)),(i64.wrap (c+1))))else none)else none)else none)else none))else none)else none)else none)else none)
 else some (Sum.inr (q,u,x)))
def kx(z:QZ)(u A:QK):(QZ×QK×QK×QK×Int)→Option ((QZ×QK×QK×QK×Int)⊕Gp):=fun(j,p,v,f,c) =>
 (if(decide (c<(f.length:Int)))=true then(if 0≤c∧c<(f.length:Int)then(if c.toNat<f.length then(if 0≤(f.getD c.toNat 0)∧(f.getD c.toNat 0)<(z.length:Int)then((iter (kh z A f c) (v,f,([]:QK),0)).bind fun(x,e,q)=>(if(j.length+([q]:QZ).length)*24≤140737488355328∧j.length+([q]:QZ).length≤9223372036854775807 then(if 0≤c∧c<(e.length:Int)then(if c.toNat<e.length then(if 0≤(e.getD c.toNat 0)∧(e.getD c.toNat 0)<(u.length:Int)then(if(p.length+([(u.getD ((e.getD c.toNat 0).toNat) 0)]:QK).length)*4≤140737488355328∧p.length+([(u.getD ((e.getD c.toNat 0).toNat) 0)]:QK).length≤9223372036854775807 then some (Sum.inl ((j++([q]:QZ)),(p++([(u.getD ((e.getD c.toNat 0).toNat) 0)]:QK)),x,e,(i64.wrap (c+1))))else none)else none)else none)else none)else none))else none)else none)else none)
 else some (Sum.inr (j,p)))
def kS(q:QZ)(u c:QK):Option Gp :=
 ((jC c).bind fun e =>
 (if 0≤(i64.wrap (e+1))∧(i64.wrap (e+1))≤(i64.wrap (e+1))∧8*(i64.wrap (e+1))≤281474976710656∧(i64.wrap (e+1))≤9223372036854775807 then((iter (ky e) ((List.replicate (i64.wrap (e+1)).toNat (0:Int)),0)).bind fun f=>(if 0≤(0:Int)∧0<(c.length:Int)then(if 0≤(c.getD ((0:Int).toNat) 0)∧(c.getD ((0:Int).toNat) 0)<(f.length:Int)then(if(c.getD ((0:Int).toNat) 0).toNat<f.length then((iter (kx q u c) (([]:QZ),([]:QK),(f.set ((c.getD ((0:Int).toNat) 0).toNat) 0),([0]:QK),0)).bind fun(j,p)=>some (j,p))else none)else none)else none))else none))
theorem vX(e j f:Bool){u:QZ}{A B:QK}{D:QZ×QK}(h:kS u A B=some D):
  Pure Tryz.prog 114 [.agg [.p e (.slice (.slice (.int .i64))) u,.p j (.slice (.int .u32)) A],.p f (.slice (.int .i64)) B] (aJ (bc false [⟨DZ,D⟩])):=by
 refine PB Tryz.func114 (fun Bw w0=>?_);unfold kS at h;refine G (G ?_);obtain⟨r2,q2,h⟩:=aj h;obtain⟨c2,h⟩:=aE h;have E:=(mW f q2);refine GN ⟨[],[(1,(oP E))]⟩ [(1,1,oc E),(3,3,oc c2)] (af (G (ak (cw h (fun(v3,v4)=>aA [(1,.p f (.slice (.int .i64)) B),(2,.adr 0 0 2 0),(4,.adr 1 0 2 0),(5,.adr 2 0 2 0),(6,.sl 3),(18,.i64 ((List.replicate (i64.wrap (r2+1)).toNat (0:Int)).length:Int)),(19,.i64 v4)] (MI e u j A v3) 4) 0 (fun v5=>aA [(1,.p f (.slice (.int .i64)) B),(2,.adr 0 0 2 0),(4,.adr 1 0 2 0),(5,.adr 2 0 2 0),(6,.sl 3)] (MI e u j A v5) 4) (gg [] [0,8,16,48]) (fun y o h=>?_) (fun v5 h=>?_)))))
 ·obtain⟨v3,v4⟩:=y;unfold ky at h;refine G (af (aC h (fun B3 h=>?_) (fun B3 h=>?_)))
  ·refine ae (ab (af (ak (G ?_))));obtain⟨b7,b8,h⟩:=g2 h;refine bz a0 [(2,2,oc b7),(3,3,oc b8)] (ay (ab (Ge ?_)));exact eB h (gg [] [0,1,2,3])
  refine aw (aQ ?_);exact eX h (gg [] [0,1,2,3])
 refine az (ab (G ?_));obtain⟨b9,be,bi,h⟩:=g3 h;refine GN a0 [(2,2,oc b9),(4,4,oc be),(5,5,oc bi)] (af (G (ak (cw h (fun(v,x,I,q,c)=>aA [(1,.p f (.slice (.int .i64)) B),(2,.adr 0 0 2 0),(4,.adr 1 0 2 0),(5,.adr 2 0 2 0),(6,.sl 5),(8,.sl 6),(9,.i64 c)] (Oy e u j A v x I q) 7) 2 (fun(J,L)=>aA [(4,.adr 0 0 2 0),(5,.adr 1 0 2 0)] (No J L) 4) (gg [.nilC 2 0 76 80 (.slice (.int .i64)),.nilC 2 1 77 136 (.int .u32)] [0,1,2,76,77,3,4]) (fun y o h=>?_) (fun bs h=>?_)))))
 ·obtain⟨v,x,I,q,c⟩:=y;unfold kx at h;refine af (G (aC h (fun bv h=>?_) (fun bv h=>?_)))
  ·refine ae (ab (af (ak (G (af ?_)))));obtain⟨M,N,O,h⟩:=g3 h;refine GD a0 [(4,4,oc M),(5,5,oc N),(6,6,oc O)] (ak (cw h (fun(V,X,C,z)=>aA [(1,.p f (.slice (.int .i64)) B),(2,.adr 0 0 2 0),(4,.adr 1 0 2 0),(5,.adr 2 0 2 0),(6,.sl 5),(8,.sl 6),(9,.i64 c),(10,.sl 7),(45,.p e (.slice (.int .i64)) (u.getD ((q.getD c.toNat 0).toNat) [])),(46,.i64 ((u.getD ((q.getD c.toNat 0).toNat) []).length:Int)),(47,.i64 z)] (Lk e u j A v x V X C) 8) 4 (fun(Y,Z,a1)=>aA [(1,.p f (.slice (.int .i64)) B),(2,.adr 0 0 2 0),(4,.adr 1 0 2 0),(5,.adr 2 0 2 0),(6,.sl 5),(8,.sl 6),(9,.i64 c),(10,.sl 7)] (Lk e u j A v x Y Z a1) 8) (gg [.nilS 10 127 3 (.int .i64)] [0,1,2,3,4,5,6,127]) (fun y o h=>?_) (fun bx h=>?_)))
   ·obtain⟨V,X,C,z⟩:=y;unfold kh at h;refine G (af (aC h (fun c1 h=>?_) (fun c1 h=>?_)))
    ·refine ae (ab (af (ak (GC 0 h (fun h=>af ?_)))));obtain⟨a2,a3,a4,h⟩:=g3 h;refine GN a0 [(3,3,oc a2),(5,5,oc a3),(6,6,oc a4)] (bn h (fun(a5,a6)=>aA [(1,.p f (.slice (.int .i64)) B),(2,.adr 0 0 2 0),(4,.adr 1 0 2 0),(5,.adr 2 0 2 0),(6,.sl 5),(8,.sl 6),(9,.i64 c),(10,.sl 7),(12,.i64 ((u.getD ((q.getD c.toNat 0).toNat) []).getD z.toNat 0)),(45,.p e (.slice (.int .i64)) (u.getD ((q.getD c.toNat 0).toNat) [])),(46,.i64 ((u.getD ((q.getD c.toNat 0).toNat) []).length:Int)),(47,.i64 z)] (Lk e u j A v x a5 a6 C) 8) (fun a7 h=>?_) (fun a7 h=>?_))
     ·refine aC h (fun c3 h=>?_) (fun c3 h=>?_)
      ·obtain⟨a8,a9,aa,h⟩:=g3 h;refine GN a0 [(3,3,oc a8),(7,7,oc a9),(8,8,oc aa)] (xg 3 h (fun h=>?_));exact eN h (gg [] [0,1,2,3,4,5,200,7])
      exact ae (eN h (gg [] [0,1,2,3,4,5,6,7]))
     obtain⟨a5,a6⟩:=a7;refine ab ?_;obtain⟨ac,ad,ax,b1,h⟩:=g4 h;refine bz a0 [(4,4,oc ac),(6,6,oc ad),(7,7,oc ax),(9,9,oc b1)] (ay (ab (Ge ?_)));exact eB h (gg [] [0,1,2,3,4,5,6,80])
    refine aw (aQ ?_);exact eX h (gg [] [0,1,2,3,4,5,6,7])
   obtain⟨Y,Z,a1⟩:=bx;refine az (ab ?_);obtain⟨b2,b3,b4,b5,h⟩:=g4 h;obtain⟨b6,h⟩:=aE h;refine kY a0 [(4,4,oc b2),(11,11,oc b3),(12,12,oc b4),(13,13,oc b5),(16,16,oc b6)] (ay (ab (Ge ?_)));exact eB h (gg [] [0,1,2,40,136,5,6])
  refine aw (aQ ?_);exact eX h (gg [] [1,2,3,4])
 obtain⟨J,L⟩:=bs;refine az (ab (G (kr [.frzC 0 0,.frzC 0 1] (by kernel_rfl) (au ?_))));obtain rfl:=sI h;exact RI [DZ]
def mY(p:QZ)(q:QK):QK→Option (QK⊕QK):=fun c =>
 ((iU (c.length:Int) c p q).bind fun e =>
 ((jC e).bind fun f =>
 ((jC c).bind fun j =>
 (if(f == j)=true then some (Sum.inr c)
 else some (Sum.inl e)))))
def lX(j:QZ)(e:QK):Option (Gp×Int) :=
 ((mf j e).bind fun p =>
 (if(!p)=true then some ((([]:QZ),([]:QK)),2)
 else((mr (e.length:Int) j e).bind fun q =>
 ((iter (mY j e) q).bind fun c=>((kS j e c).bind fun f =>
 some ((f.1,f.2),0))))))
theorem qI(c e:Bool){x:QZ}{z:QK}{q:Gp×Int}(h:lX x z=some q):
  Pure Tryz.prog 75 [.agg [.p c (.slice (.slice (.int .i64))) x,.p e (.slice (.int .u32)) z]] (aJ (bc false [⟨DZ,q.1⟩,⟨(.int .i64),q.2⟩])):=by
 refine PB Tryz.func75 (fun Bw w0=>?_);unfold lX at h;refine G (af ?_);obtain⟨X,E,h⟩:=aj h;refine GP 1 (yq c e E) (aC h (fun I h=>?_) (fun I h=>?_))
 ·refine G (au (ah ?_));obtain rfl:=sI h;exact RI [DZ,(.int .i64)]
 refine ae (ab ?_);obtain⟨Y,J,h⟩:=aj h;refine GP 4 (wY c e J) (af (ak (cw h (fun f=>aA [(1,.adr 0 0 2 0),(2,.adr 1 0 2 0),(4,.adr 2 0 1 0)] (MN c x e z f) 3) 0 (fun j=>aA [(1,.adr 0 0 2 0),(2,.adr 1 0 2 0),(4,.adr 2 0 1 0)] (MN c x e z j) 3) (gg [] [0,8,88]) (fun f o h=>?_) (fun j h=>?_))))
 ·unfold mY at h;refine ak ?_;obtain⟨L,A,h⟩:=aj h;refine GP 3 (ta false c e A) (af ?_);obtain⟨M,B,h⟩:=aj h;obtain⟨N,C,h⟩:=aj h;have u:=(mW false B);have v:=(mW false C);refine GD ⟨[],[(1,(oP u)),(3,(oP v))]⟩ [(1,1,oc u),(3,3,oc v)] (aC h (fun O h=>?_) (fun O h=>?_))
  ·refine aw (aQ (jz rfl ?_));exact eX h (gg [] [0,1,2])
  refine ae (ab (Ge (ay ?_)));exact eB h (gg [] [0,1,2])
 refine az (ab ?_);obtain⟨V,D,h⟩:=aj h;refine GP 2 (vX c e false D) (au ?_);obtain rfl:=sI h;exact RI [DZ,(.int .i64)]
def ve(c:XJ):(XX×XX×Int)→Option ((XX×XX×Int)⊕(XX×XX)):=fun(v4,f,v6) =>
 (if(decide (v6<(c.length:Int)))=true then(if 0≤v6∧v6<(c.length:Int)then(if(v4.length+([(Tree.node (((c.getD v6.toNat (0,(Tree.node 0 0 []),(Tree.node 0 0 []))).2.1).op) (((c.getD v6.toNat (0,(Tree.node 0 0 []),(Tree.node 0 0 []))).2.1).set) (((c.getD v6.toNat (0,(Tree.node 0 0 []),(Tree.node 0 0 []))).2.1).kids))]:XX).length)*32≤140737488355328∧v4.length+([(Tree.node (((c.getD v6.toNat (0,(Tree.node 0 0 []),(Tree.node 0 0 []))).2.1).op) (((c.getD v6.toNat (0,(Tree.node 0 0 []),(Tree.node 0 0 []))).2.1).set) (((c.getD v6.toNat (0,(Tree.node 0 0 []),(Tree.node 0 0 []))).2.1).kids))]:XX).length≤9223372036854775807 then((lj 1000 (((c.getD v6.toNat (0,(Tree.node 0 0 []),(Tree.node 0 0 []))).2.2).op) (((c.getD v6.toNat (0,(Tree.node 0 0 []),(Tree.node 0 0 []))).2.2).set) (((c.getD v6.toNat (0,(Tree.node 0 0 []),(Tree.node 0 0 []))).2.2).kids)).bind fun e =>
 (if(f.length+([(Tree.node e.op e.set e.kids)]:XX).length)*32≤140737488355328∧f.length+([(Tree.node e.op e.set e.kids)]:XX).length≤9223372036854775807 then some (Sum.inl ((v4++([(Tree.node (((c.getD v6.toNat (0,(Tree.node 0 0 []),(Tree.node 0 0 []))).2.1).op) (((c.getD v6.toNat (0,(Tree.node 0 0 []),(Tree.node 0 0 []))).2.1).set) (((c.getD v6.toNat (0,(Tree.node 0 0 []),(Tree.node 0 0 []))).2.1).kids))]:XX)),(f++([(Tree.node e.op e.set e.kids)]:XX)),(i64.wrap (v6+1))))else none))else none)else none)
 else some (Sum.inr (v4,f)))
def sK(u:QQ)(x z:Int)(A:QK)(v:XJ):Option ((Option Z6)×Int) :=
 (if((u.length:Int) == 0)=true then some ((none:Option Z6),22)
 else((iter (ve v) (([]:XX),([]:XX),0)).bind fun(B,C)=>((nr B (u.length:Int)).bind fun(c,e) =>
 (if(e != 0)=true then some ((none:Option Z6),e)
 else((nr C (u.length:Int)).bind fun(f,j) =>
 (if(j != 0)=true then some ((none:Option Z6),j)
 else((lX c.1 c.2).bind fun(p,_) =>
 ((lX f.1 f.2).bind fun(q,_) =>
 some ((some ((u,x,z,A,v),(p.1,p.2),q.1,q.2):Option Z6),0)))))))))
theorem Df{j:QQ}{q u:Int}{v:QK}{e:XJ}{c:(Option Z6)×Int}(h:sK j q u v e=some c):
  Pure Tryz.prog 47 [.agg [.p false (.slice .str) j,.u32 q,.u32 u,.p false (.slice (.int .i64)) v,.p false (.slice (.prod (.int .u8) Cp)) e]] (aJ (bc false [⟨(.ptr m5),c.1⟩,⟨(.int .i64),c.2⟩])):=by
 refine PB Tryz.func47 (fun Bw w0=>?_);unfold sK at h;refine G (af (G (aC h (fun J h=>?_) (fun J h=>?_))))
 ·refine G (au (ah ?_));obtain rfl:=sI h;exact RI [(.ptr m5),(.int .i64)]
 refine ae (ab (G (af (G (ak (cw h (fun(v4,D,v6)=>aA [(1,.adr 0 0 5 0),(4,.sl 1),(5,.sl 2),(17,.p false (.slice (.prod (.int .u8) Cp)) e),(18,.i64 (e.length:Int)),(19,.i64 v6)] (Nc j q u v e v4 D) 3) 0 (fun(E,I)=>aA [(1,.adr 0 0 5 0),(4,.sl 1),(5,.sl 2)] (Nc j q u v e E I) 3) (gg [.nilS 4 104 208 (.tree .u8 .u32),.nilS 5 105 208 (.tree .u8 .u32)] [0,104,105]) (fun y o h=>?_) (fun L h=>?_)))))))
 ·obtain⟨v4,D,v6⟩:=y;unfold ve at h;refine G (af (aC h (fun M h=>?_) (fun M h=>?_)))
  ·refine ae (ab (af (ak (GC 0 h (fun h=>?_)))));obtain⟨x,h⟩:=aE h;obtain⟨r6,N,h⟩:=aj h;obtain⟨z,h⟩:=aE h;have f:=(sT 1000 false N);refine kY ⟨[],[(8,(oP f))]⟩ [(4,4,oc x),(8,8,oc f),(10,10,oc z)] (ay (ab (Ge ?_)));exact eB h (gg [] [0,75,123])
  refine aw (aQ ?_);exact eX h (gg [] [0,1,2])
 obtain⟨E,I⟩:=L;refine az (ab ?_);obtain⟨⟨O,V⟩,X,h⟩:=aj h;refine GP 4 (sE true X) (af (G (aC h (fun Y h=>?_) (fun Y h=>?_))))
 ·refine G (au (ah ?_));obtain rfl:=sI h;exact RI [(.ptr m5),(.int .i64)]
 refine ae (ab ?_);obtain⟨⟨Z,a1⟩,A,h⟩:=aj h;refine GP 4 (sE true A) (af (G (aC h (fun B6 h=>?_) (fun B6 h=>?_))))
 ·refine G (au (ah ?_));obtain rfl:=sI h;exact RI [(.ptr m5),(.int .i64)]
 refine ae (ab (G ?_));obtain⟨⟨a2,a3⟩,B,h⟩:=aj h;refine GP 2 (qI false false B) ?_;obtain⟨⟨a4,a5⟩,C,h⟩:=aj h;refine GP 2 (qI false false C) (G (au ?_));obtain rfl:=sI h;exact RI [(.ptr m5),(.int .i64)]
def iY(c:QX):Option ((Option Z6)×Int×Int) :=
 ((j5 c).bind fun(e,f) =>
 (if(f.1 != 0)=true then some ((none:Option Z6),f.1,f.2)
 else((sK e.1 e.2.1 e.2.2.1 e.2.2.2.1 e.2.2.2.2).bind fun(j,p) =>
 some (j,p,0))))
theorem u6{c:QX}{e:(Option Z6)×Int×Int}(h:iY c=some e):
  Pure Tryz.prog 28 [.st c] (aJ (bc false [⟨(.ptr m5),e.1⟩,⟨Y2,e.2⟩])):=by
 refine PB Tryz.func28 (fun Bw w0=>?_);unfold iY at h;refine G ?_;obtain⟨⟨q,u⟩,f,h⟩:=aj h;refine GP 1 (yh f) (af (G (aC h (fun j h=>?_) (fun j h=>?_))))
 ·refine GD a0 [] (au (ah ?_));obtain rfl:=sI h;exact RI [(.ptr m5),Y2]
 refine ae (ab ?_);obtain⟨⟨v,x⟩,p,h⟩:=aj h;refine GP 1 (Df p) (G (au ?_));obtain rfl:=sI h;exact RI [(.ptr m5),Y2]
def cg(c:Option Z6):Option (Int) :=
 (if c.isNone=true then some 0
 else(if c.isSome=true then some (((c.getD (Ty.zero m5)).1.1).length:Int)else none))
theorem iS(f:Bool){j:Option Z6}{c:Int}(h:cg j=some c):
  Pure Tryz.prog 29 [.p f (.ptr m5) j] (aJ (bc false [⟨(.int .i64),c⟩])):=by
 refine PB Tryz.func29 (fun Bw w0=>?_);unfold cg at h;refine G (af (GN a0 [(1,1,⟨∃e,Tryz.prog.underlying 97=some (.pointer e),⟨_,rfl⟩⟩)] (aC h (fun q h=>?_) (fun q h=>?_))))
 ·refine G (au (ah ?_));obtain rfl:=sI h;exact RI [(.int .i64)]
 refine ae (ab (GC 1 h (fun h=>au ?_)));obtain rfl:=sI h;exact RI [(.int .i64)]
def dS(c:XZ)(e:Int):(Int×Int)→Option ((Int×Int)⊕((Unit)⊕(Bool))):=fun(f,v4) =>
 (if(decide (v4<(c.length:Int)))=true then(if 0≤v4∧v4<(c.length:Int)then(((if(decide (((c.getD v4.toNat (0,0,0)).1)≤f))=true then some (true)
 else(if(decide (((c.getD v4.toNat (0,0,0)).2.1)<((c.getD v4.toNat (0,0,0)).1)))=true then some (true)
 else(if(decide (((c.getD v4.toNat (0,0,0)).2.1) > 1114111))=true then some (true)
 else(if(decide (((c.getD v4.toNat (0,0,0)).2.2)<0))=true then some (true)
 else(if(decide (((c.getD v4.toNat (0,0,0)).2.2)≥e))=true then some (true)
 else some ((decide (((c.getD v4.toNat (0,0,0)).2.2) > 255))))))))).bind fun j=>(if j=true then some (Sum.inr (Sum.inr false))
 else some (Sum.inl ((c.getD v4.toNat (0,0,0)).2.1,(i64.wrap (v4+1))))))else none)
 else some (Sum.inr (Sum.inl ())))
def lr(e:XZ)(c:Int):Option (Bool) :=
 (if(decide ((e.length:Int) > 256))=true then some false
 else((iter (dS e c) ((-1:Int),0)).bind fun(f:((Unit)⊕(Bool)))=>match f with
 | .inl _=>some true
 | .inr (j)=>some j))
theorem zl(A:Bool){x:XZ}{j:Int}{B:Bool}(h:lr x j=some B):
  Pure Tryz.prog 48 [.p A (.slice (.prod (.int .i32) Y1)) x,.i64 j] (aJ (bc false [⟨.bool,B⟩])):=by
 refine PB Tryz.func48 (fun Bw w0=>?_);unfold lr at h;refine G (af (G (aC h (fun M h=>?_) (fun M h=>?_))))
 ·refine G (au (ah ?_));obtain rfl:=sI h;exact RI [.bool]
 refine ae (ab (G (af (G (ak (kj h (fun(v,v4)=>aA [(1,.i64 j),(5,.i32 v),(11,.p A (.slice (.prod (.int .i32) Y1)) x),(12,.i64 (x.length:Int)),(13,.i64 v4)] [] 0) (dw (fc Tryz.f48.ntmps 0 (fun _=>aA [] [] 0)) (gm tb Tryz.f48.results.toList (fun J=>[⟨.bool,J⟩]))) (gg [] []) (fun y o h=>?_) (fun N h e σ' L=>?_)))))))
 ·obtain⟨v,v4⟩:=y;unfold dS at h;refine G (af (aC h (fun C h=>?_) (fun C h=>?_)))
  ·refine ae (ab (af (ak (GC 0 h (fun h=>af (af (bn h (fun D=>aA [(1,.i64 j),(7,.adr 0 0 3 0),(11,.p A (.slice (.prod (.int .i32) Y1)) x),(12,.i64 (x.length:Int)),(13,.i64 v4),(48,.bo D)] [(0,.box [.i32 ((x.getD v4.toNat (0,0,0)).1),.i32 ((x.getD v4.toNat (0,0,0)).2.1),.i64 ((x.getD v4.toNat (0,0,0)).2.2)])] 1) (fun D h=>?_) (fun D h=>?_))))))))
   ·rcases aI h with⟨c,h⟩ | ⟨c,h⟩
    ·exact bz ⟨[(4,true),(10,true)],[]⟩ [(5,10,oc c)] (eN h (gg [] [24]))
    rcases aI h with⟨f,h⟩ | ⟨f,h⟩
    ·exact bz ⟨[(4,false),(10,false),(11,true),(15,true)],[]⟩ [(5,9,an c),(10,10,oc c),(12,15,oc f)] (eN h (gg [] [24]))
    rcases aI h with⟨q,h⟩ | ⟨q,h⟩
    ·exact bz ⟨[(4,false),(10,false),(11,false),(15,false),(16,true),(20,true)],[]⟩ [(5,9,an c),(10,10,oc c),(12,14,an f),(15,15,oc f),(17,20,oc q)] (eN h (gg [] [24]))
    rcases aI h with⟨u,h⟩ | ⟨u,h⟩
    ·exact bz ⟨[(4,false),(10,false),(11,false),(15,false),(16,false),(20,false),(21,true),(26,true)],[]⟩ [(5,9,an c),(10,10,oc c),(12,14,an f),(15,15,oc f),(17,19,an q),(20,20,oc q),(22,26,oc u)] (eN h (gg [] [24]))
    rcases aI h with⟨z,h⟩ | ⟨z,h⟩
    ·exact bz ⟨[(4,false),(10,false),(11,false),(15,false),(16,false),(20,false),(21,false),(26,false),(27,true),(31,true)],[]⟩ [(5,9,an c),(10,10,oc c),(12,14,an f),(15,15,oc f),(17,19,an q),(20,20,oc q),(22,25,an u),(26,26,oc u),(28,31,oc z)] (eN h (gg [] [24]))
    exact bz ⟨[(4,false),(10,false),(11,false),(15,false),(16,false),(20,false),(21,false),(26,false),(27,false),(31,false)],[]⟩ [(5,9,an c),(10,10,oc c),(12,14,an f),(15,15,oc f),(17,19,an q),(20,20,oc q),(22,25,an u),(26,26,oc u),(28,30,an z),(31,31,oc z)] (eN h (gg [] [24]))
   refine ab (aC h (fun E h=>?_) (fun E h=>?_))
   ·refine G (au ?_);obtain rfl:=sI h;refine ah (aB (ah (bG (aN ?_))));exact bH (RI [.bool])
   refine ae (ab (Ge (ay (ab (Ge ?_)))));exact eB h (gg [] [])
  refine aw (aQ ?_);obtain rfl:=sI h;refine dJ (bm ?_);exact bN (gg [] [])
 rcases N with _ | J
 ·obtain⟨rfl,I⟩:=L;refine cC ?_ I;refine az (ab (G (au ?_)));obtain rfl:=sI h;exact RI [.bool]
 obtain⟨rfl,O⟩:=L;refine aB (ah ?_);obtain rfl:=sI h;exact O
def gP(e:XZ)(f:Int):(Int)→Option ((Int)⊕(Int)):=fun c =>
 (((if(decide (c<(e.length:Int)))=true then(if 0≤c∧c<(e.length:Int)then some ((decide (((e.getD c.toNat (0,0,0)).2.1)<(i32.wrap ((i32.wrap f)*2 ^ (min (8:Int).toNat i32.bits))))))else none)
 else some (false))).bind fun j=>(if j=true then some (Sum.inl (i64.wrap (c+1)))
 else some (Sum.inr c)))
def iQ(j:XZ)(p e:Int):((fb 256)×Int)→Option (((fb 256)×Int)⊕(fb 256)):=fun(f,c) =>
 (if 0≤e∧e<(j.length:Int)then(if(decide (c≤(min ((j.getD e.toNat (0,0,0)).2.1) (i32.wrap ((i32.wrap ((i32.wrap p)*2 ^ (min (8:Int).toNat i32.bits)))+255)))))=true then(if 0≤e∧e<(j.length:Int)then(if 0≤(bitsOf .and .i32 c 255)∧(bitsOf .and .i32 c 255)<((256:Nat):Int)then some (Sum.inl ((tJ f ((bitsOf .and .i32 c 255).toNat) (u8.wrap ((j.getD e.toNat (0,0,0)).2.2))),(i32.wrap (c+1))))else none)else none)
 else some (Sum.inr f))else none)
def gK(f:XZ)(e:Int):((fb 256)×Int)→Option (((fb 256)×Int)⊕(fb 256)):=fun(j,c) =>
 (((if(decide (c<(f.length:Int)))=true then(if 0≤c∧c<(f.length:Int)then some ((decide (((f.getD c.toNat (0,0,0)).1)≤(i32.wrap ((i32.wrap ((i32.wrap e)*2 ^ (min (8:Int).toNat i32.bits)))+255)))))else none)
 else some (false))).bind fun p=>(if p=true then(if 0≤c∧c<(f.length:Int)then((iter (iQ f e c) (j,(max ((f.getD c.toNat (0,0,0)).1) (i32.wrap ((i32.wrap e)*2 ^ (min (8:Int).toNat i32.bits)))))).bind fun q=>some (Sum.inl (q,(i64.wrap (c+1)))))else none)
 else some (Sum.inr j)))
def fD(A:XZ):((fb 4352)×(List (fb 256))×(List ((fb 256)×Int))×Int×Int)→Option (((fb 4352)×(List (fb 256))×(List ((fb 256)×Int))×Int×Int)⊕AR):=fun(p,c,j,z,e) =>
 (if(decide (e<4352))=true then(if 0≤(8:Int)then(if 0≤(8:Int)then((iter (gP A e) z).bind fun q=>((iter (gK A e) ((dv 256),q)).bind fun f=>(if(JK f (dv 256))=true then some (Sum.inl (p,c,j,q,(i64.wrap (e+1))))
 else(((if(!((aU (.arr .u8 256) j f).isSome))=true then(if(c.length+([f]:List (fb 256)).length)*256≤140737488355328∧c.length+([f]:List (fb 256)).length≤9223372036854775807 then some (((c++([f]:List (fb 256))),(cj (.arr .u8 256) j f (c.length:Int)),(c.length:Int)))else none)
 else some ((c,j,((aU (.arr .u8 256) j f).getD 0))))).bind fun(u,v,x)=>(if 0≤e∧e<((4352:Nat):Int)then some (Sum.inl ((tJ p e.toNat x),u,v,q,(i64.wrap (e+1))))else none)))))else none)else none)
 else some (Sum.inr (p,c)))
def fY(f:XZ)(j:Int):Option ((Option AR)×Int) :=
 ((lr f j).bind fun p =>
 (if(!p)=true then some ((none:Option AR),10)
 else(if 0≤(1:Int)∧(1:Int)≤1∧256*(1:Int)≤281474976710656∧(1:Int)≤9223372036854775807 then((iter (fD f) ((dv 4352),(List.replicate (1:Int).toNat (dv 256)),([]:List ((fb 256)×Int)),0,0)).bind fun(c,e)=>some ((some (c,e):Option AR),0))else none)))
theorem oB(e:Bool){z:XZ}{i1:Int}{M:(Option AR)×Int}(h:fY z i1=some M):
  Pure Tryz.prog 30 [.p e (.slice (.prod (.int .i32) Y1)) z,.i64 i1] (aJ (bc false [⟨(.ptr wC),M.1⟩,⟨(.int .i64),M.2⟩])):=by
 refine PB Tryz.func30 (fun Bw w0=>?_);unfold fY at h;refine G (af ?_);obtain⟨r2,q2,h⟩:=aj h;refine GP 2 (zl e q2) (aC h (fun B1 h=>?_) (fun B1 h=>?_))
 ·refine G (au (ah ?_));obtain rfl:=sI h;exact RI [(.ptr wC),(.int .i64)]
 refine ae (ab (GC 0 h (fun h=>GN a0 [(0,0,oc EF)] (G (af (G (ak (cw h (fun(f,j,q,X,c)=>aA [(0,.p e (.slice (.prod (.int .i32) Y1)) z),(6,.adr 0 0 4353 0),(7,.mp 2),(8,.i64 X),(25,.i64 c)] (NI f j q) 3) 0 (fun(Y,Z)=>aA [(6,.adr 0 0 4353 0)] (Ot Y Z) 2) (gg [] [64,48,80]) (fun y o h=>?_) (fun r6 h=>?_)))))))))
 ·obtain⟨f,j,q,X,c⟩:=y;unfold fD at h;refine G (af (aC h (fun ax h=>?_) (fun ax h=>?_)))
  ·refine ae (ab (af (ak (G ?_))));obtain⟨a1,a2,h⟩:=g2 h;refine GN a0 [(2,2,oc a1),(5,5,oc a2)] (G (af (ak ?_)));refine cw h (fun N=>aA [(0,.p e (.slice (.prod (.int .i32) Y1)) z),(6,.adr 0 0 4353 0),(7,.mp 2),(8,.i64 N),(9,.i64 c),(10,.i32 (i32.wrap ((i32.wrap c)*2 ^ (min (8:Int).toNat i32.bits)))),(11,.i32 (i32.wrap ((i32.wrap ((i32.wrap c)*2 ^ (min (8:Int).toNat i32.bits)))+255))),(12,.adr 3 0 256 0),(25,.i64 c)] (Ck f j q (dv 256)) 4) 2 (fun v=>aA [(0,.p e (.slice (.prod (.int .i32) Y1)) z),(6,.adr 0 0 4353 0),(7,.mp 2),(8,.i64 v),(9,.i64 c),(10,.i32 (i32.wrap ((i32.wrap c)*2 ^ (min (8:Int).toNat i32.bits)))),(11,.i32 (i32.wrap ((i32.wrap ((i32.wrap c)*2 ^ (min (8:Int).toNat i32.bits)))+255))),(12,.adr 3 0 256 0),(25,.i64 c)] (Ck f j q (dv 256)) 4) (gg [] [0,1,2,99]) (fun N o h=>?_) (fun v h=>?_)
   ·unfold gP at h;refine af (af (bn h (fun O=>aA [(0,.p e (.slice (.prod (.int .i32) Y1)) z),(6,.adr 0 0 4353 0),(7,.mp 2),(8,.i64 N),(9,.i64 c),(10,.i32 (i32.wrap ((i32.wrap c)*2 ^ (min (8:Int).toNat i32.bits)))),(11,.i32 (i32.wrap ((i32.wrap ((i32.wrap c)*2 ^ (min (8:Int).toNat i32.bits)))+255))),(12,.adr 3 0 256 0),(25,.i64 c),(47,.bo O)] (Ck f j q (dv 256)) 4) (fun O h=>?_) (fun O h=>?_)))
    ·rcases aI h with⟨x,h⟩ | ⟨x,h⟩
     ·obtain⟨a3,h⟩:=aE h;exact bz ⟨[(4,true),(12,true)],[]⟩ [(5,6,an x),(7,7,oc (And.intro x a3)),(8,11,an x),(12,12,oc x)] (eN h (gg [] [0,1,2,3]))
     exact bz ⟨[(4,false),(12,false)],[]⟩ [(5,12,oc x)] (eN h (gg [] [0,1,2,3]))
    refine ab (aC h (fun b1 h=>?_) (fun b1 h=>?_))
    ·refine ae (ab (ak (Ge (ay ?_))));exact eB h (gg [] [0,1,2,3])
    refine aw (aQ ?_);exact eX h (gg [] [0,1,2,3])
   refine az (ab (af (G (ak (cw h (fun(V,A)=>aA [(0,.p e (.slice (.prod (.int .i32) Y1)) z),(6,.adr 0 0 4353 0),(7,.mp 2),(8,.i64 v),(9,.i64 c),(10,.i32 (i32.wrap ((i32.wrap c)*2 ^ (min (8:Int).toNat i32.bits)))),(11,.i32 (i32.wrap ((i32.wrap ((i32.wrap c)*2 ^ (min (8:Int).toNat i32.bits)))+255))),(12,.adr 3 0 256 0),(13,.i64 A),(25,.i64 c)] (Ck f j q V) 4) 4 (fun a4=>aA [(0,.p e (.slice (.prod (.int .i32) Y1)) z),(6,.adr 0 0 4353 0),(7,.mp 2),(8,.i64 v),(9,.i64 c),(12,.adr 3 0 256 0),(25,.i64 c)] (Ck f j q a4) 4) (gg [] [0,1,2,3]) (fun y o h=>?_) (fun a4 h=>?_))))))
   ·obtain⟨V,A⟩:=y;unfold gK at h;refine af (af (bn h (fun B=>aA [(0,.p e (.slice (.prod (.int .i32) Y1)) z),(6,.adr 0 0 4353 0),(7,.mp 2),(8,.i64 v),(9,.i64 c),(10,.i32 (i32.wrap ((i32.wrap c)*2 ^ (min (8:Int).toNat i32.bits)))),(11,.i32 (i32.wrap ((i32.wrap ((i32.wrap c)*2 ^ (min (8:Int).toNat i32.bits)))+255))),(12,.adr 3 0 256 0),(13,.i64 A),(25,.i64 c),(63,.bo B)] (Ck f j q V) 4) (fun B h=>?_) (fun B h=>?_)))
    ·rcases aI h with⟨u,h⟩ | ⟨u,h⟩
     ·obtain⟨a5,h⟩:=aE h;exact bz ⟨[(4,true),(12,true)],[]⟩ [(5,6,an u),(7,7,oc (And.intro u a5)),(8,11,an u),(12,12,oc u)] (eN h (gg [] [0,1,2,3]))
     exact bz ⟨[(4,false),(12,false)],[]⟩ [(5,12,oc u)] (eN h (gg [] [0,1,2,3]))
    refine ab (aC h (fun a6 h=>?_) (fun a6 h=>?_))
    ·refine ae (ab (af (ak (GC 2 h (fun h=>ak ?_)))));refine cw h (fun(C,D)=>aA [(0,.p e (.slice (.prod (.int .i32) Y1)) z),(6,.adr 0 0 4353 0),(7,.mp 2),(8,.i64 v),(9,.i64 c),(10,.i32 (i32.wrap ((i32.wrap c)*2 ^ (min (8:Int).toNat i32.bits)))),(11,.i32 (i32.wrap ((i32.wrap ((i32.wrap c)*2 ^ (min (8:Int).toNat i32.bits)))+255))),(12,.adr 3 0 256 0),(13,.i64 A),(14,.i32 D),(25,.i64 c)] (Ck f j q C) 4) 6 (fun E=>aA [(0,.p e (.slice (.prod (.int .i32) Y1)) z),(6,.adr 0 0 4353 0),(7,.mp 2),(8,.i64 v),(9,.i64 c),(10,.i32 (i32.wrap ((i32.wrap c)*2 ^ (min (8:Int).toNat i32.bits)))),(11,.i32 (i32.wrap ((i32.wrap ((i32.wrap c)*2 ^ (min (8:Int).toNat i32.bits)))+255))),(12,.adr 3 0 256 0),(13,.i64 A),(25,.i64 c)] (Ck f j q E) 4) (gg [] [0,1,2,3]) (fun y o h=>?_) (fun E h=>?_)
     ·obtain⟨C,D⟩:=y;unfold iQ at h;refine af (GC 3 h (fun h=>aC h (fun a7 h=>?_) (fun a7 h=>?_)))
      ·refine ae (ab (af (ak ?_)));obtain⟨a8,a9,h⟩:=g2 h;refine bz a0 [(4,4,oc a8),(8,8,oc a9)] (ay (ab (Ge ?_)));exact eB h (gg [] [0,1,2,3])
      refine aw (aQ ?_);exact eX h (gg [] [0,1,2,3])
     refine az (ay (ab (Ge ?_)));exact eB h (gg [] [0,1,2,3])
    refine aw (aQ ?_);exact eX h (gg [] [0,1,2,3])
   refine az (ab (af (GN a0 [(2,2,⟨Tryz.prog.eqGuardType Tryz.prog.depth 157=false,(by kernel_rfl)⟩)] (aC h (fun aa h=>?_) (fun aa h=>?_)))))
   ·refine aw (aQ (az (ab (Ge ?_))));exact eB h (gg [] [0,1,2])
   refine ae (ab (GN a0 [(2,2,oc EF)] (af (G (bn h (fun(I,J,L)=>aA [(0,.p e (.slice (.prod (.int .i32) Y1)) z),(6,.adr 0 0 4353 0),(7,.mp 2),(8,.i64 v),(9,.i64 c),(15,.i64 L),(25,.i64 c)] (NI f I J) 3) (fun r5 h=>?_) (fun r5 h=>?_))))))
   ·refine aC h (fun ac h=>?_) (fun ac h=>?_)
    ·refine G ?_;obtain⟨ad,h⟩:=aE h;refine GD a0 [(7,7,oc ad)] (bz a0 [(3,3,oc EF)] ?_);exact eN h (gg [] [0,212,2])
    exact ae (eN h (gg [] [0,1,2]))
   obtain⟨I,J,L⟩:=r5;refine ab (xg 5 h (fun h=>ay (ab (Ge ?_))));exact eB h (gg [] [0,1,2])
  refine aw (aQ ?_);exact eX h (gg [] [0,1])
 obtain⟨Y,Z⟩:=r6;refine az (ab (G (kr [.frzL 0 0] (by kernel_rfl) (au ?_))));obtain rfl:=sI h;exact RI [(.ptr wC),(.int .i64)]
def qP(c:XZ):(Int×Int)→Option ((Int×Int)⊕((Unit)⊕(Bool))):=fun(e,v4) =>
 (if(decide (v4<(c.length:Int)))=true then(if 0≤v4∧v4<(c.length:Int)then(((if(decide (((c.getD v4.toNat (0,0,0)).1)≤e))=true then some (true)
 else(if(decide (((c.getD v4.toNat (0,0,0)).2.1)<((c.getD v4.toNat (0,0,0)).1)))=true then some (true)
 else(if(decide (((c.getD v4.toNat (0,0,0)).2.1) > 1114111))=true then some (true)
 else(if(decide (((c.getD v4.toNat (0,0,0)).2.2)<0))=true then some (true)
 else some ((decide (((c.getD v4.toNat (0,0,0)).2.2) > (i64.wrap (1114111 - (i64.wrap (i32.wrap (((c.getD v4.toNat (0,0,0)).2.1) - ((c.getD v4.toNat (0,0,0)).1)))))))))))))).bind fun f=>(if f=true then some (Sum.inr (Sum.inr false))
 else some (Sum.inl ((c.getD v4.toNat (0,0,0)).2.1,(i64.wrap (v4+1))))))else none)
 else some (Sum.inr (Sum.inl ())))
def oS(c:XZ):Option (Bool) :=
 (if(decide ((c.length:Int) > 256))=true then some false
 else((iter (qP c) ((-1:Int),0)).bind fun(e:((Unit)⊕(Bool)))=>match e with
 | .inl _=>some true
 | .inr (f)=>some f))
theorem zv(x:Bool){u:XZ}{z:Bool}(h:oS u=some z):
  Pure Tryz.prog 49 [.p x (.slice (.prod (.int .i32) Y1)) u] (aJ (bc false [⟨.bool,z⟩])):=by
 refine PB Tryz.func49 (fun Bw w0=>?_);unfold oS at h;refine G (af (G (aC h (fun J h=>?_) (fun J h=>?_))))
 ·refine G (au (ah ?_));obtain rfl:=sI h;exact RI [.bool]
 refine ae (ab (G (af (G (ak (kj h (fun(q,v4)=>aA [(3,.i32 q),(9,.p x (.slice (.prod (.int .i32) Y1)) u),(10,.i64 (u.length:Int)),(11,.i64 v4)] [] 0) (dw (fc Tryz.f49.ntmps 0 (fun _=>aA [] [] 0)) (gm tb Tryz.f49.results.toList (fun E=>[⟨.bool,E⟩]))) (gg [] []) (fun y o h=>?_) (fun L h e σ' I=>?_)))))))
 ·obtain⟨q,v4⟩:=y;unfold qP at h;refine G (af (aC h (fun A h=>?_) (fun A h=>?_)))
  ·refine ae (ab (af (ak (GC 0 h (fun h=>af (af (bn h (fun B=>aA [(5,.adr 0 0 3 0),(9,.p x (.slice (.prod (.int .i32) Y1)) u),(10,.i64 (u.length:Int)),(11,.i64 v4),(47,.bo B)] [(0,.box [.i32 ((u.getD v4.toNat (0,0,0)).1),.i32 ((u.getD v4.toNat (0,0,0)).2.1),.i64 ((u.getD v4.toNat (0,0,0)).2.2)])] 1) (fun B h=>?_) (fun B h=>?_))))))))
   ·rcases aI h with⟨c,h⟩ | ⟨c,h⟩
    ·exact bz ⟨[(4,true),(10,true)],[]⟩ [(5,10,oc c)] (eN h (gg [] [24]))
    rcases aI h with⟨f,h⟩ | ⟨f,h⟩
    ·exact bz ⟨[(4,false),(10,false),(11,true),(15,true)],[]⟩ [(5,9,an c),(10,10,oc c),(12,15,oc f)] (eN h (gg [] [24]))
    rcases aI h with⟨j,h⟩ | ⟨j,h⟩
    ·exact bz ⟨[(4,false),(10,false),(11,false),(15,false),(16,true),(20,true)],[]⟩ [(5,9,an c),(10,10,oc c),(12,14,an f),(15,15,oc f),(17,20,oc j)] (eN h (gg [] [24]))
    rcases aI h with⟨v,h⟩ | ⟨v,h⟩
    ·exact bz ⟨[(4,false),(10,false),(11,false),(15,false),(16,false),(20,false),(21,true),(32,true)],[]⟩ [(5,9,an c),(10,10,oc c),(12,14,an f),(15,15,oc f),(17,19,an j),(20,20,oc j),(22,32,oc v)] (eN h (gg [] [24]))
    exact bz ⟨[(4,false),(10,false),(11,false),(15,false),(16,false),(20,false),(21,false),(32,false)],[]⟩ [(5,9,an c),(10,10,oc c),(12,14,an f),(15,15,oc f),(17,19,an j),(20,20,oc j),(22,31,an v),(32,32,oc v)] (eN h (gg [] [24]))
   refine ab (aC h (fun C h=>?_) (fun C h=>?_))
   ·refine G (au ?_);obtain rfl:=sI h;refine ah (aB (ah (bG (aN ?_))));exact bH (RI [.bool])
   refine ae (ab (Ge (ay (ab (Ge ?_)))));exact eB h (gg [] [])
  refine aw (aQ ?_);obtain rfl:=sI h;refine dJ (bm ?_);exact bN (gg [] [])
 rcases L with _ | E
 ·obtain⟨rfl,D⟩:=I;refine cC ?_ D;refine az (ab (G (au ?_)));obtain rfl:=sI h;exact RI [.bool]
 obtain⟨rfl,M⟩:=I;refine aB (ah ?_);obtain rfl:=sI h;exact M
def nz(e:Int):Option Z8 :=
 (if(decide (e<128))=true then some (1,0,0)
 else(((if(decide (e<194))=true then some (true)
 else some ((decide (e > 244))))).bind fun v1=>(if v1=true then some (0,0,0)
 else(if(decide (e<224))=true then some (2,128,191)
 else(if(e == 224)=true then some (3,160,191)
 else(if(e == 237)=true then some (3,128,159)
 else(if(decide (e<240))=true then some (3,128,191)
 else(if(e == 240)=true then some (4,144,191)
 else(if(e == 244)=true then some (4,128,143)
 else some (4,128,191))))))))))
theorem Bh{f:Int}{c:Int×Int×Int}(h:nz f=some c):
  Pure Tryz.prog 140 [.u8 f] (aJ (bc false [⟨(.int .i64),c.1⟩,⟨(.int .u8),c.2.1⟩,⟨(.int .u8),c.2.2⟩])):=by
 refine PB Tryz.func140 (fun Bw w0=>?_);unfold nz at h;refine G (af (ak (G (aC h (fun q h=>?_) (fun q h=>?_)))))
 ·refine G (au (aB (ah ?_)));obtain rfl:=sI h;exact RI [(.int .i64),(.int .u8),(.int .u8)]
 refine af (bn h (fun v1=>aA [(0,.u8 f),(8,.bo v1)] [] 0) (fun v1 h=>?_) (fun v1 h=>?_))
 ·rcases aI h with⟨e,h⟩ | ⟨e,h⟩
  ·exact bz ⟨[(2,true),(5,true)],[]⟩ [(3,5,oc e)] (eN h (gg [] []))
  exact bz ⟨[(2,false),(5,false)],[]⟩ [(3,4,an e),(5,5,oc e)] (eN h (gg [] []))
 refine ab (aC h (fun u h=>?_) (fun u h=>?_))
 ·refine G (au (aB (ah ?_)));obtain rfl:=sI h;exact RI [(.int .i64),(.int .u8),(.int .u8)]
 refine G (aC h (fun v h=>?_) (fun v h=>?_))
 ·refine G (au (aB (ah ?_)));obtain rfl:=sI h;exact RI [(.int .i64),(.int .u8),(.int .u8)]
 refine G (aC h (fun x h=>?_) (fun x h=>?_))
 ·refine G (au (aB (ah ?_)));obtain rfl:=sI h;exact RI [(.int .i64),(.int .u8),(.int .u8)]
 refine G (aC h (fun z h=>?_) (fun z h=>?_))
 ·refine G (au (aB (ah ?_)));obtain rfl:=sI h;exact RI [(.int .i64),(.int .u8),(.int .u8)]
 refine G (aC h (fun A h=>?_) (fun A h=>?_))
 ·refine G (au (aB (ah ?_)));obtain rfl:=sI h;exact RI [(.int .i64),(.int .u8),(.int .u8)]
 refine G (aC h (fun j h=>?_) (fun j h=>?_))
 ·refine G (au (aB (ah ?_)));obtain rfl:=sI h;exact RI [(.int .i64),(.int .u8),(.int .u8)]
 refine G (aC h (fun p h=>?_) (fun p h=>?_))
 ·refine G (au (aB (ah ?_)));obtain rfl:=sI h;exact RI [(.int .i64),(.int .u8),(.int .u8)]
 refine ae (ay (ab (G (au ?_))));obtain rfl:=sI h;exact RI [(.int .i64),(.int .u8),(.int .u8)]
def iJ(f:QK)(e u:Int):(Int×Int×Int×Int×Int)→Option ((Int×Int×Int×Int×Int)⊕((Int×Int)⊕Z8)):=fun(v10,v11,j,p,c) =>
 (if(decide (c<u))=true then(((if(decide ((i64.wrap (e+c))≥(f.length:Int)))=true then some (true)
 else(if 0≤(i64.wrap (e+c))∧(i64.wrap (e+c))<(f.length:Int)then(if(decide ((f.getD ((i64.wrap (e+c)).toNat) 0)<v10))=true then some (true)
 else(if 0≤(i64.wrap (e+c))∧(i64.wrap (e+c))<(f.length:Int)then some ((decide ((f.getD ((i64.wrap (e+c)).toNat) 0) > v11)))else none))else none))).bind fun q=>(if q=true then some (Sum.inr (Sum.inr (65533,e,j)))
 else(if 0≤(6:Int)then(if 0≤(i64.wrap (e+c))∧(i64.wrap (e+c))<(f.length:Int)then some (Sum.inl (128,191,(i64.wrap (c+1)),(bitsOf .or .i32 (i32.wrap (p*2 ^ (min (6:Int).toNat i32.bits))) (i32.wrap (bitsOf .and .u8 (f.getD ((i64.wrap (e+c)).toNat) 0) (63:Int)))),(i64.wrap (c+1))))else none)else none)))
 else some (Sum.inr (Sum.inl (j,p))))
def pr(e:QK)(c:Int):Option Z8 :=
 (((if(decide (c<0))=true then some (true)
 else some ((decide (c≥(e.length:Int)))))).bind fun v1=>(if v1=true then some (0,0,0)
 else(if 0≤c∧c<(e.length:Int)then((nz (e.getD c.toNat 0)).bind fun(f,q,u) =>
 (if(decide (f<2))=true then(((if(f == 1)=true then(if 0≤c∧c<(e.length:Int)then some ((i32.wrap (e.getD c.toNat 0)))else none)
 else some (65533))).bind fun v=>some (v,c,1))
 else(if 0≤c∧c<(e.length:Int)then(if 0≤f then((iter (iJ e c f) (q,u,1,(bitsOf .and .i32 (i32.wrap (e.getD c.toNat 0)) (Int.fdiv 127 (2 ^ (min f.toNat i32.bits)))),1)).bind fun(x:((Int×Int)⊕Z8))=>match x with
 | .inl (j,p)=>some (p,c,j)
 | .inr (z)=>some z)else none)else none)))else none)))
theorem Bv(j:Bool){A:QK}{q:Int}{B:Int×Int×Int}(h:pr A q=some B):
  Pure Tryz.prog 115 [.p j (.slice (.int .u8)) A,.i64 q] (aJ (bc false [⟨(.prod (.int .i32) Y2),B⟩])):=by
 refine PB Tryz.func115 (fun Bw w0=>?_);unfold pr at h;refine G (af (af (bn h (fun v1=>aA [(0,.p j (.slice (.int .u8)) A),(1,.i64 q),(4,.adr 0 0 3 0),(18,.bo v1)] [(0,.box [.i32 0,.i64 0,.i64 0])] 1) (fun v1 h=>?_) (fun v1 h=>?_))))
 ·rcases aI h with⟨J,h⟩ | ⟨J,h⟩
  ·exact bz ⟨[(2,true),(7,true)],[]⟩ [(3,7,oc J)] (eN h (gg [] [0]))
  exact bz ⟨[(2,false),(7,false)],[]⟩ [(3,6,an J),(7,7,oc J)] (eN h (gg [] [0]))
 refine ab (aC h (fun B4 h=>?_) (fun B4 h=>?_))
 ·refine G (au (ah ?_));obtain rfl:=sI h;exact RI [(.prod (.int .i32) Y2)]
 refine ae (ab ?_);obtain⟨c2,h⟩:=aE h;obtain⟨⟨r4,r5,r6⟩,q2,h⟩:=aj h;have C:=(Bh q2);refine GN ⟨[],[(4,(oP C))]⟩ [(2,2,oc c2),(4,4,oc C)] (G (af (G (aC h (fun B5 h=>?_) (fun B5 h=>?_)))))
 ·refine af (G (bn h (fun L=>aA [(4,.adr 0 0 3 0),(8,.adr 1 0 3 0)] (JP 0 (0:Int) (0:Int) L q 1) 2) (fun L h=>?_) (fun L h=>?_)))
  ·refine aC h (fun B7 h=>?_) (fun B7 h=>?_)
   ·refine xg 2 h (fun h=>?_);exact eN h (gg [] [0,113])
   exact ae (eN h (gg [] [0,113]))
  refine ab (G (au (ah ?_)));obtain rfl:=sI h;exact RI [(.prod (.int .i32) Y2)]
 refine ae (ab ?_);obtain⟨c9,M,h⟩:=g2 h;refine GD a0 [(2,2,oc c9),(6,6,oc M)] (af (G (ak (kj h (fun(v10,v11,u,v,x)=>aA [(0,.p j (.slice (.int .u8)) A),(1,.i64 q),(4,.adr 0 0 3 0),(5,.i64 r4),(6,.u8 v10),(7,.u8 v11),(8,.adr 1 0 3 0),(9,.i32 v),(10,.i64 x)] (JP 0 (0:Int) (0:Int) (65533:Int) q u) 2) (dw (fc Tryz.f115.ntmps 0 (fun(D,E)=>aA [(4,.adr 0 0 3 0),(8,.adr 1 0 3 0),(9,.i32 E)] (JP 0 (0:Int) (0:Int) (65533:Int) q D) 2)) (gm tb Tryz.f115.results.toList (fun r7=>[⟨(.prod (.int .i32) Y2),r7⟩]))) (gg [] [0,113]) (fun y o h=>?_) (fun r8 h e σ' hq=>?_)))))
 ·obtain⟨v10,v11,u,v,x⟩:=y;unfold iJ at h;refine af (G (aC h (fun N h=>?_) (fun N h=>?_)))
  ·refine ae (ab (af (ak (af (af (bn h (fun z=>aA [(0,.p j (.slice (.int .u8)) A),(1,.i64 q),(4,.adr 0 0 3 0),(5,.i64 r4),(8,.adr 1 0 3 0),(9,.i32 v),(10,.i64 x),(80,.bo z)] (JP 0 (0:Int) (0:Int) (65533:Int) q u) 2) (fun z h=>?_) (fun z h=>?_)))))))
   ·rcases aI h with⟨c,h⟩ | ⟨c,h⟩
    ·exact bz ⟨[(6,true),(15,true)],[]⟩ [(7,15,oc c)] (eN h (gg [] [0,1]))
    obtain⟨I,h⟩:=aE h;rcases aI h with⟨f,h⟩ | ⟨f,h⟩
    ·exact bz ⟨[(6,false),(15,false),(16,true),(25,true)],[]⟩ [(7,10,an c),(11,11,oc (And.intro c I)),(12,14,an c),(15,15,oc c),(17,25,oc f)] (eN h (gg [] [0,1]))
    obtain⟨O,h⟩:=aE h;exact bz ⟨[(6,false),(15,false),(16,false),(25,false)],[]⟩ [(7,10,an c),(11,11,oc (And.intro c I)),(12,14,an c),(15,15,oc c),(17,20,an f),(21,21,oc (And.intro f O)),(22,24,an f),(25,25,oc f)] (eN h (gg [] [0,1]))
   refine ab (aC h (fun V h=>?_) (fun V h=>?_))
   ·refine G (au ?_);obtain rfl:=sI h;refine ah (aB (ah (bG (aN ?_))));exact bH (RI [(.prod (.int .i32) Y2)])
   refine ae (ab ?_);obtain⟨X,Y,h⟩:=g2 h;refine GN a0 [(1,1,oc X),(6,6,oc Y)] (G (Ge (ay (ab (Ge ?_)))));exact eB h (gg [] [0,1])
  refine aw (aQ ?_);obtain rfl:=sI h;refine dJ (bm ?_);exact bN (gg [] [0,1])
 rcases r8 with⟨D,E⟩ | r7
 ·obtain⟨rfl,Z⟩:=hq;refine cC ?_ Z;refine az (ab (G (G (au ?_))));obtain rfl:=sI h;exact RI [(.prod (.int .i32) Y2)]
 obtain⟨rfl,hr⟩:=hq;refine aB (ah ?_);obtain rfl:=sI h;exact hr
def jR(j:QK):(XZ×Int)→Option ((XZ×Int)⊕XZ):=fun(c,f) =>
 (if(decide (f<(j.length:Int)))=true then((pr j f).bind fun e =>
 (if(c.length+([(e.1,e.2.1,e.2.2)]:XZ).length)*24≤140737488355328∧c.length+([(e.1,e.2.1,e.2.2)]:XZ).length≤9223372036854775807 then some (Sum.inl ((c++([(e.1,e.2.1,e.2.2)]:XZ)),(i64.wrap (f+e.2.2))))else none))
 else some (Sum.inr c))
def nc(e:QK):Option XZ :=
 ((iter (jR e) (([]:XZ),0)).bind fun c=>some c)
theorem u4(f:Bool){u:QK}{j:XZ}(h:nc u=some j):
  Pure Tryz.prog 76 [.p f (.slice (.int .u8)) u] (aJ (bc false [⟨(.slice (.prod (.int .i32) Y2)),j⟩])):=by
 refine PB Tryz.func76 (fun Bw w0=>?_);unfold nc at h;refine G (G (af (G (ak (cw h (fun(c,q)=>aA [(0,.p f (.slice (.int .u8)) u),(3,.sl 0),(4,.i64 q)] [(0,.arr 219 (.prod (.int .i32) Y2) c)] 1) 0 (fun e=>aA [(3,.sl 0)] [(0,.arr 219 (.prod (.int .i32) Y2) e)] 1) (gg [.nilS 3 24 219 (.prod (.int .i32) Y2)] [24]) (fun y o h=>?_) (fun e h=>?_))))))
 ·obtain⟨c,q⟩:=y;unfold jR at h;refine af (G (aC h (fun v h=>?_) (fun v h=>?_)))
  ·refine ae (ab (ak ?_));obtain⟨z,x,h⟩:=aj h;refine GP 2 (Bv f x) (GC 3 h (fun h=>Ge (ay ?_)));exact eB h (gg [] [97])
  refine aw (aQ ?_);exact eX h (gg [] [0])
 refine az (ab (G (au ?_)));obtain rfl:=sI h;exact RI [(.slice (.prod (.int .i32) Y2))]
def jy(c:Int):Option (Bool) :=
 (((if(c == 32)=true then some (true)
 else(if(c == 9)=true then some (true)
 else(if(c == 10)=true then some (true)
 else some ((c == 13)))))).bind fun v1=>some v1)
theorem qV{p:Int}{f:Bool}(h:jy p=some f):
  Pure Tryz.prog 77 [.i32 p] (aJ (bc false [⟨.bool,f⟩])):=by
 refine PB Tryz.func77 (fun Bw w0=>?_);unfold jy at h;refine G (af (bn h (fun v1=>aA [(2,.bo v1)] [] 0) (fun v1 h=>?_) (fun v1 h=>?_)))
 ·rcases aI h with⟨c,h⟩ | ⟨c,h⟩
  ·exact bz ⟨[(2,true),(5,true)],[]⟩ [(3,5,oc c)] (eN h (gg [] []))
  rcases aI h with⟨e,h⟩ | ⟨e,h⟩
  ·exact bz ⟨[(2,false),(5,false),(6,true),(9,true)],[]⟩ [(3,4,an c),(5,5,oc c),(7,9,oc e)] (eN h (gg [] []))
  rcases aI h with⟨j,h⟩ | ⟨j,h⟩
  ·exact bz ⟨[(2,false),(5,false),(6,false),(9,false),(10,true),(13,true)],[]⟩ [(3,4,an c),(5,5,oc c),(7,8,an e),(9,9,oc e),(11,13,oc j)] (eN h (gg [] []))
  exact bz ⟨[(2,false),(5,false),(6,false),(9,false),(10,false),(13,false)],[]⟩ [(3,4,an c),(5,5,oc c),(7,8,an e),(9,9,oc e),(11,12,an j),(13,13,oc j)] (eN h (gg [] []))
 refine ab (au ?_);obtain rfl:=sI h;exact RI [.bool]
def km(c e f:Int):Option (Bool) :=
 some (c == 45)
theorem rH{e f j:Int}{c:Bool}(h:km e f j=some c):
  Pure Tryz.prog 117 [.agg [.i32 e,.i64 f,.i64 j]] (aJ (bc false [⟨.bool,c⟩])):=by
 refine PB Tryz.func117 (fun Bw w0=>?_);unfold km at h;refine G (G (au ?_));obtain rfl:=sI h;exact RI [.bool]
def ny(e:XZ):(Int)→Option ((Int)⊕((Unit)⊕(Int))):=fun c =>
 (if(decide (c<(e.length:Int)))=true then(if 0≤c∧c<(e.length:Int)then((km ((e.getD c.toNat (0,0,0)).1) ((e.getD c.toNat (0,0,0)).2.1) ((e.getD c.toNat (0,0,0)).2.2)).bind fun f =>
 (if f=true then some (Sum.inr (Sum.inr c))
 else some (Sum.inl (i64.wrap (c+1)))))else none)
 else some (Sum.inr (Sum.inl ())))
def mK(c:XZ):Option (Int) :=
 ((iter (ny c) (0:Int)).bind fun(e:((Unit)⊕(Int)))=>match e with
 | .inl _=>some (-1:Int)
 | .inr (f)=>some f)
theorem uG(c:Bool){q:XZ}{f:Int}(h:mK q=some f):
  Pure Tryz.prog 141 [.p c (.slice (.prod (.int .i32) Y2)) q,.fn 117 []] (aJ (bc false [⟨(.int .i64),f⟩])):=by
 refine PB Tryz.func141 (fun Bw w0=>?_);unfold mK at h;refine G (af (G (ak (kj h (fun v=>aA [(0,.p c (.slice (.prod (.int .i32) Y2)) q),(1,.fn 117 []),(7,.i64 (q.length:Int)),(8,.i64 v)] [] 0) (dw (fc Tryz.f141.ntmps 0 (fun _=>aA [] [] 0)) (gm tb Tryz.f141.results.toList (fun x=>[⟨(.int .i64),x⟩]))) (gg [] []) (fun v o h=>?_) (fun A h e σ' z=>?_)))))
 ·unfold ny at h;refine G (af (aC h (fun B h=>?_) (fun B h=>?_)))
  ·refine ae (ab (af (ak (G ?_))));obtain⟨C,h⟩:=aE h;obtain⟨J,D,h⟩:=aj h;have j:=(rH D);refine GN ⟨[],[(5,(oP j))]⟩ [(3,3,oc C),(5,5,oc j)] (aC h (fun E h=>?_) (fun E h=>?_))
   ·refine G (au ?_);obtain rfl:=sI h;refine aB (ah (bG (aN ?_)));exact bH (RI [(.int .i64)])
   refine ae (ay (ab (Ge ?_)));exact eB h (gg [] [])
  refine aw (aQ ?_);obtain rfl:=sI h;refine dJ (bm ?_);exact bN (gg [] [])
 rcases A with _ | x
 ·obtain⟨rfl,u⟩:=z;refine cC ?_ u;refine az (ab (G (au ?_)));obtain rfl:=sI h;exact RI [(.int .i64)]
 obtain⟨rfl,I⟩:=z;refine aB (ah ?_);obtain rfl:=sI h;exact I
def rP(c:XZ):Option (Bool) :=
 ((mK c).bind fun e =>
 some (decide (e≥0)))
theorem zf(c:Bool){f:XZ}{e:Bool}(h:rP f=some e):
  Pure Tryz.prog 116 [.p c (.slice (.prod (.int .i32) Y2)) f,.fn 117 []] (aJ (bc false [⟨.bool,e⟩])):=by
 refine PB Tryz.func116 (fun Bw w0=>?_);unfold rP at h;refine G ?_;obtain⟨q,j,h⟩:=aj h;refine GP 2 (uG c j) (au ?_);obtain rfl:=sI h;exact RI [.bool]
def hY(c:XZ):Option (Bool) :=
 ((rP c).bind fun e =>
 some e)
theorem nB(c:Bool){f:XZ}{e:Bool}(h:hY f=some e):
  Pure Tryz.prog 79 [.p c (.slice (.prod (.int .i32) Y2)) f] (aJ (bc false [⟨.bool,e⟩])):=by
 refine PB Tryz.func79 (fun Bw w0=>?_);unfold hY at h;refine G ?_;obtain⟨q,j,h⟩:=aj h;refine GP 1 (zf c j) (au ?_);obtain rfl:=sI h;exact RI [.bool]
def vG(j:XZ)(q:Bool):(QK×QK×Bool×Int×Int)→Option ((QK×QK×Bool×Int×Int)⊕((QK×QK×Int)⊕(Z9×Bool))):=fun(c,f,u,p,e) =>
 (if(decide (e<(j.length:Int)))=true then(if 0≤e∧e<(j.length:Int)then(if(((j.getD e.toNat (0,0,0)).1) == 65533)=true then some (Sum.inr (Sum.inr ((c,f),false)))
 else(((if(((j.getD e.toNat (0,0,0)).1) == 45)=true then some (true)
 else(if(decide (((j.getD e.toNat (0,0,0)).1)≥48))=true then some ((decide (((j.getD e.toNat (0,0,0)).1)≤57)))
 else some (false)))).bind fun v=>(((if v=true then(((if u=true then some (true)
 else(if(!(q == (((j.getD e.toNat (0,0,0)).1) == 45)))=true then some (true)
 else(if q=true then(if((c.length:Int) == 0)=true then some (true)
 else some ((e == (i64.wrap ((j.length:Int) - 1)))))
 else some (false))))).bind fun x=>(if x=true then some ((Sum.inr ((c,f),false)))
 else(if 0≤(c.length:Int)∧(c.length:Int)<(f.length:Int)then(if(c.length:Int).toNat<f.length then(if(!q)=true then(if 0≤(c.length:Int)∧(c.length:Int)<((f.set ((c.length:Int).toNat) 1).length:Int)then(if(c.length:Int).toNat<(f.set ((c.length:Int).toNat) 1).length then some ((Sum.inl (c,((f.set ((c.length:Int).toNat) 1).set ((c.length:Int).toNat) (u8.wrap (i32.wrap (((j.getD e.toNat (0,0,0)).1) - 48)))),true,p)))else none)else none)
 else some ((Sum.inl (c,(f.set ((c.length:Int).toNat) 1),true,p))))else none)else none)))
 else(if(((j.getD e.toNat (0,0,0)).1) == 46)=true then(((if q=true then some (true)
 else(if(!(e == 0))=true then some ((!(e == (i64.wrap ((j.length:Int) - 1)))))
 else some (false)))).bind fun z=>(if z=true then some ((Sum.inr ((c,f),false)))
 else(if(c.length+([46]:QK).length)*4≤140737488355328∧c.length+([46]:QK).length≤9223372036854775807 then(if(f.length+([0]:QK).length)*1≤140737488355328∧f.length+([0]:QK).length≤9223372036854775807 then some ((Sum.inl ((c++([46]:QK)),(f++([0]:QK)),false,p)))else none)else none)))
 else(if(c.length+([(j.getD e.toNat (0,0,0)).1]:QK).length)*4≤140737488355328∧c.length+([(j.getD e.toNat (0,0,0)).1]:QK).length≤9223372036854775807 then(if(f.length+([0]:QK).length)*1≤140737488355328∧f.length+([0]:QK).length≤9223372036854775807 then some ((Sum.inl ((c++([(j.getD e.toNat (0,0,0)).1]:QK)),(f++([0]:QK)),false,(i64.wrap (p+1)))))else none)else none)))).bind fun(A:((QK×QK×Bool×Int)⊕(Z9×Bool)))=>match A with
 | .inl (B,C,D,E)=>some (Sum.inl (B,C,D,E,(i64.wrap (e+1))))
 | .inr ((I,J))=>some (Sum.inr (Sum.inr (I,J))))))else none)
 else some (Sum.inr (Sum.inl (c,f,p))))
def tg(q:XZ):Option (Z9×Bool) :=
 ((hY q).bind fun u =>
 ((iter (vG q u) (([]:QK),([0]:QK),false,0,0)).bind fun(e:((QK×QK×Int)⊕(Z9×Bool)))=>match e with
 | .inl (c,v30,f)=>(((if(decide (f > 0))=true then some ((decide ((c.length:Int)≤24)))
 else some (false))).bind fun j=>some ((c,v30),j))
 | .inr ((v,p))=>some (v,p)))
theorem Cx(x:Bool){z:XZ}{L:Z9×Bool}(h:tg z=some L):
  Pure Tryz.prog 78 [.p x (.slice (.prod (.int .i32) Y2)) z] (aJ (bc false [⟨rT,L.1⟩,⟨.bool,L.2⟩])):=by
 refine PB Tryz.func78 (fun Bw w0=>?_);unfold tg at h;refine G ?_;obtain⟨r2,q2,h⟩:=aj h;refine GP 1 (nB x q2) (G (G (G (af (G (ak (kj h (fun(D,I,M,J,v)=>aA [(0,.p x (.slice (.prod (.int .i32) Y2)) z),(2,.adr 0 0 2 0),(4,.bo r2),(5,.adr 1 0 2 0),(6,.bo M),(7,.i64 J),(17,.p x (.slice (.prod (.int .i32) Y2)) z),(18,.i64 (z.length:Int)),(19,.i64 v)] (JN D I) 4) (dw (fc Tryz.f78.ntmps 0 (fun(N,v30,a1)=>aA [(2,.adr 0 0 2 0),(5,.adr 1 0 2 0),(7,.i64 a1)] (JN N v30) 4)) (gm tb Tryz.f78.results.toList (fun(r9,a2)=>[⟨rT,r9⟩,⟨.bool,a2⟩]))) (gg [.nilC 56 0 112 21 (.int .i32)] [0,56,112,40]) (fun y o h=>?_) (fun b6 h e σ' hq=>?_))))))))
 ·obtain⟨D,I,M,J,v⟩:=y;unfold vG at h;refine G (af (aC h (fun a3 h=>?_) (fun a3 h=>?_)))
  ·refine ae (ab (af (ak (GC 1 h (fun h=>G (ak (G (aC h (fun a4 h=>?_) (fun a4 h=>?_)))))))))
   ·refine G (kr [.frzC 0 0,.frzC 0 1] (by kernel_rfl) (au ?_));obtain rfl:=sI h;refine aB (aB (ah (bG (aN ?_))));exact bH (RI [rT,.bool])
   refine af (bn h (fun O=>aA [(0,.p x (.slice (.prod (.int .i32) Y2)) z),(2,.adr 0 0 2 0),(4,.bo r2),(5,.adr 1 0 2 0),(6,.bo M),(7,.i64 J),(8,.i64 v),(9,.adr 4 0 3 0),(10,.i64 (D.length:Int)),(17,.p x (.slice (.prod (.int .i32) Y2)) z),(18,.i64 (z.length:Int)),(19,.i64 v),(46,.bo O)] (MJ D I ((z.getD v.toNat (0,0,0)).1) ((z.getD v.toNat (0,0,0)).2.1) ((z.getD v.toNat (0,0,0)).2.2)) 5) (fun O h=>?_) (fun O h=>?_))
   ·rcases aI h with⟨q,h⟩ | ⟨q,h⟩
    ·exact bz ⟨[(3,true),(12,true)],[]⟩ [(4,7,oc q),(11,12,oc q)] (eN h (gg [] [0,1,2,3,36]))
    rcases aI h with⟨A,h⟩ | ⟨A,h⟩
    ·exact bz ⟨[(3,false),(7,true),(11,true),(12,false)],[]⟩ [(4,7,an q),(8,10,an A),(11,11,oc (And.intro q A)),(12,12,oc q)] (eN h (gg [] [0,1,2,3,36]))
    exact bz ⟨[(3,false),(7,false),(11,false),(12,false)],[]⟩ [(4,7,an q),(8,10,oc A),(11,11,oc (And.intro q A)),(12,12,oc q)] (eN h (gg [] [0,1,2,3,36]))
   refine ab (Ec h (dw (oT Tryz.f78.ntmps (fun(a5,a6,a7,a8)=>aA [(0,.p x (.slice (.prod (.int .i32) Y2)) z),(2,.adr 0 0 2 0),(4,.bo r2),(5,.adr 1 0 2 0),(6,.bo a7),(7,.i64 a8),(17,.p x (.slice (.prod (.int .i32) Y2)) z),(18,.i64 (z.length:Int)),(19,.i64 v)] (JN a5 a6) 4)) (gm tb Tryz.f78.results.toList (fun(a9,aa)=>[⟨rT,a9⟩,⟨.bool,aa⟩]))) (fun ac h=>?_) (fun ac h e σ' hq=>?_))
   ·refine aC h (fun ad h=>?_) (fun ad h=>?_)
    ·refine af (af (bn h (fun V=>aA [(0,.p x (.slice (.prod (.int .i32) Y2)) z),(2,.adr 0 0 2 0),(4,.bo r2),(5,.adr 1 0 2 0),(7,.i64 J),(9,.adr 4 0 3 0),(10,.i64 (D.length:Int)),(17,.p x (.slice (.prod (.int .i32) Y2)) z),(18,.i64 (z.length:Int)),(19,.i64 v),(81,.bo V)] (MJ D I ((z.getD v.toNat (0,0,0)).1) ((z.getD v.toNat (0,0,0)).2.1) ((z.getD v.toNat (0,0,0)).2.2)) 5) (fun V h=>?_) (fun V h=>?_)))
     ·rcases aI h with⟨f,h⟩ | ⟨f,h⟩
      ·exact bz ⟨[(1,true),(7,true)],[]⟩ [(2,7,oc f)] (eN h (gg [] [0,1,2,3,4]))
      rcases aI h with⟨c,h⟩ | ⟨c,h⟩
      ·exact bz ⟨[(1,false),(7,false),(8,true),(21,true)],[]⟩ [(2,6,an f),(7,7,oc f),(9,10,oc c),(20,21,oc c)] (eN h (gg [] [0,1,2,3,4]))
      rcases aI h with⟨j,h⟩ | ⟨j,h⟩
      ·rcases aI h with⟨B,h⟩ | ⟨B,h⟩
       ·exact bz ⟨[(1,false),(7,false),(8,false),(10,true),(13,true),(19,true),(20,true),(21,false)],[]⟩ [(2,6,an f),(7,7,oc f),(9,10,an c),(11,13,an j),(14,18,oc B),(19,19,oc (And.intro j B)),(20,20,oc (And.intro c j)),(21,21,oc c)] (eN h (gg [] [0,1,2,3,4]))
       exact bz ⟨[(1,false),(7,false),(8,false),(10,true),(13,false),(19,false),(20,true),(21,false)],[]⟩ [(2,6,an f),(7,7,oc f),(9,10,an c),(11,13,an j),(14,18,an B),(19,19,oc (And.intro j B)),(20,20,oc (And.intro c j)),(21,21,oc c)] (eN h (gg [] [0,1,2,3,4]))
      exact bz ⟨[(1,false),(7,false),(8,false),(10,false),(20,false),(21,false)],[]⟩ [(2,6,an f),(7,7,oc f),(9,10,an c),(11,13,oc j),(19,19,oc j),(20,20,oc (And.intro c j)),(21,21,oc c)] (eN h (gg [] [0,1,2,3,4]))
     refine ab (aC h (fun ax h=>?_) (fun ax h=>?_))
     ·refine G (kr [.frzC 0 0,.frzC 0 1] (by kernel_rfl) (au ?_));obtain rfl:=sI h;refine ah (aN ?_);exact bH (RI [rT,.bool])
     refine ae (ab (G ?_));obtain⟨b7,b8,h⟩:=g2 h;refine GN a0 [(3,3,oc b7),(4,4,oc b8)] (G (aC h (fun b1 h=>?_) (fun b1 h=>?_)))
     ·obtain⟨b9,be,h⟩:=g2 h;refine bz a0 [(7,7,oc b9),(8,8,oc be)] ?_;obtain rfl:=sI h;exact bm (cM (gg [] [0,1,2,3]))
     refine ae ?_;obtain rfl:=sI h;exact bm (cM (gg [] [0,1,2,3]))
    refine G (aC h (fun b2 h=>?_) (fun b2 h=>?_))
    ·refine G (af (af (bn h (fun X=>aA [(0,.p x (.slice (.prod (.int .i32) Y2)) z),(2,.adr 0 0 2 0),(4,.bo r2),(5,.adr 1 0 2 0),(7,.i64 J),(17,.p x (.slice (.prod (.int .i32) Y2)) z),(18,.i64 (z.length:Int)),(19,.i64 v),(116,.bo X)] (JN D I) 4) (fun X h=>?_) (fun X h=>?_))))
     ·rcases aI h with⟨u,h⟩ | ⟨u,h⟩
      ·exact bz ⟨[(1,true),(8,true)],[]⟩ [(2,4,oc u),(7,8,oc u)] (eN h (gg [] [0,1,2,3]))
      rcases aI h with⟨C,h⟩ | ⟨C,h⟩
      ·exact bz ⟨[(1,false),(4,true),(7,true),(8,false)],[]⟩ [(2,4,an u),(5,6,an C),(7,7,oc (And.intro u C)),(8,8,oc u)] (eN h (gg [] [0,1,2,3]))
      exact bz ⟨[(1,false),(4,false),(7,false),(8,false)],[]⟩ [(2,4,an u),(5,6,oc C),(7,7,oc (And.intro u C)),(8,8,oc u)] (eN h (gg [] [0,1,2,3]))
     refine ab (aC h (fun b3 h=>?_) (fun b3 h=>?_))
     ·refine G (kr [.frzC 0 0,.frzC 0 1] (by kernel_rfl) (au ?_));obtain rfl:=sI h;refine ah (aN ?_);exact bH (RI [rT,.bool])
     refine ae (ab ?_);obtain⟨bi,bs,h⟩:=g2 h;refine kY a0 [(3,3,oc bi),(7,7,oc bs)] ?_;obtain rfl:=sI h;exact bm (cM (gg [] [0,1,28,60]))
    refine G ?_;obtain⟨b4,b5,h⟩:=g2 h;refine kY a0 [(5,5,oc b4),(9,9,oc b5)] ?_;obtain rfl:=sI h;exact bm (cM (gg [] [0,1,101,133]))
   rcases ac with⟨a5,a6,a7,a8⟩ | ⟨a9,aa⟩
   ·obtain⟨rfl,Y⟩:=hq;refine cC ?_ Y;refine ay (ay (ab (Ge ?_)));exact eB h (gg [] [0,1,2,3])
   obtain⟨rfl,hr⟩:=hq;obtain rfl:=sI h;refine aB (aB (ah (bG (aN ?_))));exact bH hr
  refine aw (aQ ?_);obtain rfl:=sI h;refine dJ (bm ?_);exact bN (gg [] [0,1,2,3])
 rcases b6 with⟨N,v30,a1⟩ | ⟨r9,a2⟩
 ·obtain⟨rfl,Y⟩:=hq;refine cC ?_ Y;refine az (ab (af (bn h (fun Z=>aA [(2,.adr 0 0 2 0),(3,.bo Z)] (NY N v30) 3) (fun Z h=>?_) (fun Z h=>?_))))
  ·rcases aI h with⟨E,h⟩ | ⟨E,h⟩
   ·exact kY ⟨[(3,true),(8,true)],[]⟩ [(4,7,an E),(8,8,oc E)] (eN h (gg [] [0,2,3]))
   exact kY ⟨[(3,false),(8,false)],[]⟩ [(4,8,oc E)] (eN h (gg [] [0,2,3]))
  refine ab (kr [.frzC 0 0,.frzC 0 1] (by kernel_rfl) (au ?_));obtain rfl:=sI h;exact RI [rT,.bool]
 obtain⟨rfl,hr⟩:=hq;refine aB (ah ?_);obtain rfl:=sI h;exact hr
def gn(e f:QK):(Int)→Option ((Int)⊕((Unit)⊕(Bool))):=fun c =>
 (if(decide (c<(e.length:Int)))=true then(if 0≤c∧c<(e.length:Int)then(if 0≤c∧c<(f.length:Int)then(if((e.getD c.toNat 0) != (f.getD c.toNat 0))=true then some (Sum.inr (Sum.inr false))
 else some (Sum.inl (i64.wrap (c+1))))else none)else none)
 else some (Sum.inr (Sum.inl ())))
def cq(c e:QK):Option (Bool) :=
 (if((c.length:Int) != (e.length:Int))=true then some false
 else((iter (gn c e) (0:Int)).bind fun(f:((Unit)⊕(Bool)))=>match f with
 | .inl _=>some true
 | .inr (j)=>some j))
theorem gq(c f:Bool){q u:QK}{j:Bool}(h:cq q u=some j):
  Pure Tryz.prog 82 [.p c (.slice (.int .i32)) q,.p f (.slice (.int .i32)) u] (aJ (bc false [⟨.bool,j⟩])):=by
 refine PB Tryz.func82 (fun Bw w0=>?_);unfold cq at h;refine G (af (G (aC h (fun D h=>?_) (fun D h=>?_))))
 ·refine G (au (ah ?_));obtain rfl:=sI h;exact RI [.bool]
 refine ae (ab (af (G (ak (kj h (fun A=>aA [(0,.p c (.slice (.int .i32)) q),(1,.p f (.slice (.int .i32)) u),(12,.i64 (q.length:Int)),(13,.i64 A)] [] 0) (dw (fc Tryz.f82.ntmps 0 (fun _=>aA [] [] 0)) (gm tb Tryz.f82.results.toList (fun B=>[⟨.bool,B⟩]))) (gg [] []) (fun A o h=>?_) (fun E h e σ' C=>?_))))))
 ·unfold gn at h;refine G (af (aC h (fun I h=>?_) (fun I h=>?_)))
  ·refine ae (ab (af (ak (G ?_))));obtain⟨v,x,h⟩:=g2 h;refine GD a0 [(2,2,oc v),(6,6,oc x)] (aC h (fun J h=>?_) (fun J h=>?_))
   ·refine G (au ?_);obtain rfl:=sI h;refine aB (ah (bG (aN ?_)));exact bH (RI [.bool])
   refine ae (ay (ab (Ge ?_)));exact eB h (gg [] [])
  refine aw (aQ ?_);obtain rfl:=sI h;refine dJ (bm ?_);exact bN (gg [] [])
 rcases E with _ | B
 ·obtain⟨rfl,z⟩:=C;refine cC ?_ z;refine az (ab (G (au ?_)));obtain rfl:=sI h;exact RI [.bool]
 obtain⟨rfl,L⟩:=C;refine aB (ah ?_);obtain rfl:=sI h;exact L
def oe(c _ e _:QK):Option (Bool) :=
 ((cq c e).bind fun f =>
 some f)
theorem vY(c j e q:Bool){u v:QK}{x z:QK}{f:Bool}(h:oe u v x z=some f):
  Pure Tryz.prog 81 [.agg [.p c (.slice (.int .i32)) u,.p j (.slice (.int .u8)) v],.fad true [.p e (.slice (.int .i32)) x,.p q (.slice (.int .u8)) z] 0] (aJ (bc false [⟨.bool,f⟩])):=by
 refine PB Tryz.func81 (fun Bw w0=>?_);unfold oe at h;refine G ?_;obtain⟨B,A,h⟩:=aj h;refine GP 4 (gq c e A) (au ?_);obtain rfl:=sI h;exact RI [.bool]
def mB(e:List Z9)(f j:QK):(Int)→Option ((Int)⊕((Unit)⊕(Int))):=fun c =>
 (if(decide (c<(e.length:Int)))=true then(if 0≤c∧c<(e.length:Int)then((oe ((e.getD c.toNat ([],([]:QK))).1) ((e.getD c.toNat ([],([]:QK))).2) f j).bind fun p =>
 (if p=true then some (Sum.inr (Sum.inr c))
 else some (Sum.inl (i64.wrap (c+1)))))else none)
 else some (Sum.inr (Sum.inl ())))
def lH(c:List Z9)(e f:QK):Option (Int) :=
 ((iter (mB c e f) (0:Int)).bind fun(j:((Unit)⊕(Int)))=>match j with
 | .inl _=>some (-1:Int)
 | .inr (p)=>some p)
theorem sQ(c f j:Bool){v:List Z9}{x z:QK}{q:Int}(h:lH v x z=some q):
  Pure Tryz.prog 118 [.p c (.slice rT) v,.fn 81 [.fad true [.p f (.slice (.int .i32)) x,.p j (.slice (.int .u8)) z] 0]] (aJ (bc false [⟨(.int .i64),q⟩])):=by
 refine PB Tryz.func118 (fun Bw w0=>?_);unfold lH at h;refine G (af (G (ak (kj h (fun B=>aA [(0,.p c (.slice rT) v),(1,.fn 81 [.fad true [.p f (.slice (.int .i32)) x,.p j (.slice (.int .u8)) z] 0]),(7,.i64 (v.length:Int)),(8,.i64 B)] [] 0) (dw (fc Tryz.f118.ntmps 0 (fun _=>aA [] [] 0)) (gm tb Tryz.f118.results.toList (fun C=>[⟨(.int .i64),C⟩]))) (gg [] []) (fun B o h=>?_) (fun E h e σ' D=>?_)))))
 ·unfold mB at h;refine G (af (aC h (fun I h=>?_) (fun I h=>?_)))
  ·refine ae (ab (af (ak (G ?_))));obtain⟨J,h⟩:=aE h;obtain⟨O,L,h⟩:=aj h;have u:=(vY c c f j L);refine GN ⟨[],[(5,(oP u))]⟩ [(3,3,oc J),(5,5,oc u)] (aC h (fun M h=>?_) (fun M h=>?_))
   ·refine G (au ?_);obtain rfl:=sI h;refine aB (ah (bG (aN ?_)));exact bH (RI [(.int .i64)])
   refine ae (ay (ab (Ge ?_)));exact eB h (gg [] [])
  refine aw (aQ ?_);obtain rfl:=sI h;refine dJ (bm ?_);exact bN (gg [] [])
 rcases E with _ | C
 ·obtain⟨rfl,A⟩:=D;refine cC ?_ A;refine az (ab (G (au ?_)));obtain rfl:=sI h;exact RI [(.int .i64)]
 obtain⟨rfl,N⟩:=D;refine aB (ah ?_);obtain rfl:=sI h;exact N
def mz(c:List Z9)(e f:QK):Option (Bool) :=
 ((lH c e f).bind fun j =>
 some (decide (j≥0)))
theorem xN(c e f:Bool){q:List Z9}{u v:QK}{j:Bool}(h:mz q u v=some j):
  Pure Tryz.prog 80 [.p c (.slice rT) q,.fn 81 [.fad true [.p e (.slice (.int .i32)) u,.p f (.slice (.int .u8)) v] 0]] (aJ (bc false [⟨.bool,j⟩])):=by
 refine PB Tryz.func80 (fun Bw w0=>?_);unfold mz at h;refine G ?_;obtain⟨z,x,h⟩:=aj h;refine GP 2 (sQ c e f x) (au ?_);obtain rfl:=sI h;exact RI [.bool]
end
end Go.Proofs.YtmcemnfjddoejaaGreatDoor.T
