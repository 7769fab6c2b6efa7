import Derived.Test.YtobbjfkfmdiklaaGreatDoorTvT50e0
import Derived.Test.YtobbjfkfmdiklaaGreatDoorTvT50eTopEdges1
namespace Go.Proofs.YtobbjfkfmdiklaaGreatDoor.T
open Go Go.Tv Go.Proofs
open Go.IntKind (i32 i64 u32 u8)
noncomputable section
set_option maxRecDepth 100000
set_option maxHeartbeats 4000000
def rL(p:XX):(QK×Qj×Bool×(List Z9)×Int)→Option ((QK×Qj×Bool×(List Z9)×Int)⊕(QK×Qj×Bool×List Z9)):=fun(x,z,A,v10,v11) =>
 (if(decide (v11<(p.length:Int)))=true then(if 0≤v11∧v11<(p.length:Int)then((dX 1000 ((p.getD v11.toNat (Tree.node 0 0 [])).op) ((p.getD v11.toNat (Tree.node 0 0 [])).set) ((p.getD v11.toNat (Tree.node 0 0 [])).kids) A x z).bind fun(j,q,u,v) =>
 (if(v10.length+([(j.1,(j.2.1.1,j.2.1.2.1,j.2.1.2.2.1,j.2.1.2.2.2),j.2.2.1,j.2.2.2.1,j.2.2.2.2.1,j.2.2.2.2.2)]:List Z9).length)*72≤140737488355328∧v10.length+([(j.1,(j.2.1.1,j.2.1.2.1,j.2.1.2.2.1,j.2.1.2.2.2),j.2.2.1,j.2.2.2.1,j.2.2.2.2.1,j.2.2.2.2.2)]:List Z9).length≤9223372036854775807 then some (Sum.inl (q,u,v,(v10++([(j.1,(j.2.1.1,j.2.1.2.1,j.2.1.2.2.1,j.2.1.2.2.2),j.2.2.1,j.2.2.2.1,j.2.2.2.2.1,j.2.2.2.2.2)]:List Z9)),(i64.wrap (v11+1))))else none))else none)
 else some (Sum.inr (x,z,A,v10)))
def su(p:List Z9):(Int×Int×Int×Int×Int)→Option ((Int×Int×Int×Int×Int)⊕Z2):=fun(u,v,x,z,j) =>
 (if(decide (j<(p.length:Int)))=true then(if 0≤j∧j<(p.length:Int)then(if j.toNat<p.length then((cZ u v x z ((p.getD j.toNat (false,(0,0,0,0),0,0,0,0)).2.1.1) ((p.getD j.toNat (false,(0,0,0,0),0,0,0,0)).2.1.2.1) ((p.getD j.toNat (false,(0,0,0,0),0,0,0,0)).2.1.2.2.1) ((p.getD j.toNat (false,(0,0,0,0),0,0,0,0)).2.1.2.2.2)).bind fun q =>
 some (Sum.inl (q.1,q.2.1,q.2.2.1,q.2.2.2,(i64.wrap (j+1)))))else none)else none)
 else some (Sum.inr (u,v,x,z)))
def qX(p q:Qj)(u:Int):(Int×Int×Int×Int×Int)→Option ((Int×Int×Int×Int×Int)⊕Z2):=fun(x,z,A,B,j) =>
 (if(decide (j<(p.length:Int)))=true then((gH ((q.getD u.toNat (0,0,0,0)).1) ((q.getD u.toNat (0,0,0,0)).2.1) ((q.getD u.toNat (0,0,0,0)).2.2.1) ((q.getD u.toNat (0,0,0,0)).2.2.2) j).bind fun C =>
 (((if C=true then(if 0≤j∧j<(p.length:Int)then(if j.toNat<p.length then((cZ x z A B ((p.getD j.toNat (0,0,0,0)).1) ((p.getD j.toNat (0,0,0,0)).2.1) ((p.getD j.toNat (0,0,0,0)).2.2.1) ((p.getD j.toNat (0,0,0,0)).2.2.2)).bind fun v =>
 some ((v.1,v.2.1,v.2.2.1,v.2.2.2)))else none)else none)
 else some ((x,z,A,B)))).bind fun(D,E,I,J)=>some (Sum.inl (D,E,I,J,(i64.wrap (j+1))))))
 else some (Sum.inr (x,z,A,B)))
def qW(p:List Z9)(q:Qj)(u:Int):(Int×Int)→Option ((Int×Int)⊕(Int)):=fun(v,j) =>
 (if(decide (j<(p.length:Int)))=true then(if 0≤j∧j<(p.length:Int)then(if j.toNat<p.length then(((if((p.getD j.toNat (false,(0,0,0,0),0,0,0,0)).1)=true then some (true)
 else((nv ((q.getD u.toNat (0,0,0,0)).1) ((q.getD u.toNat (0,0,0,0)).2.1) ((q.getD u.toNat (0,0,0,0)).2.2.1) ((q.getD u.toNat (0,0,0,0)).2.2.2) ((p.getD j.toNat (false,(0,0,0,0),0,0,0,0)).2.2.1) ((p.getD j.toNat (false,(0,0,0,0),0,0,0,0)).2.2.2.1) ((p.getD j.toNat (false,(0,0,0,0),0,0,0,0)).2.2.2.2.1) ((p.getD j.toNat (false,(0,0,0,0),0,0,0,0)).2.2.2.2.2)).bind fun x =>
 some (x)))).bind fun z=>(((if z=true then(if 0≤j then some ((bitsOf .or .u32 v (u32.wrap (1*2 ^ (min j.toNat u32.bits)))))else none)
 else some (v))).bind fun A=>some (Sum.inl (A,(i64.wrap (j+1))))))else none)else none)
 else some (Sum.inr v))
def rv(x:QK)(A B C D z:Int):(Int×Int×Int×Int×Int)→Option ((Int×Int×Int×Int×Int)⊕Z2):=fun(p,q,u,v,j) =>
 (if(decide (j<(x.length:Int)))=true then(if 0≤j∧j<(x.length:Int)then(if j.toNat<x.length then((((gH A B C D j).bind fun E =>
 (if E=true then(if 0≤z then some (((bitsOf .and .u32 (Int.fdiv (x.getD j.toNat 0) (2 ^ (min z.toNat u32.bits))) (1:Int)) == 1))else none)
 else some (false)))).bind fun I=>(((if I=true then((iq j p q u v).bind fun(J,L,M,N) =>
 some ((J,L,M,N)))
 else some ((p,q,u,v)))).bind fun(O,V,X,Y)=>some (Sum.inl (O,V,X,Y,(i64.wrap (j+1))))))else none)else none)
 else some (Sum.inr (p,q,u,v)))
def sh(X:Int)(V:QK)(B C D E:Int):(Qj×(List (Z2×Int))×QK×Int)→Option ((Qj×(List (Z2×Int))×QK×Int)⊕((Qj×(List (Z2×Int))×QK)⊕(EC×Int))):=fun(j,z,A,p) =>
 (if(decide (p<X))=true then((iter (rv V B C D E p) (0,0,0,0,0)).bind fun(q,u,v,x)=>(((if(!((bh mv z (q,u,v,x)).isSome))=true then(if(decide ((j.length:Int)≥300))=true then some ((Sum.inr ((([]:QZ),([]:QK)),27)))
 else(if(j.length+([(q,u,v,x)]:Qj).length)*32≤140737488355328∧j.length+([(q,u,v,x)]:Qj).length≤9223372036854775807 then some ((Sum.inl ((j++([(q,u,v,x)]:Qj)),(cN mv z (q,u,v,x) (j.length:Int)),(j.length:Int))))else none))
 else some ((Sum.inl (j,z,((bh mv z (q,u,v,x)).getD 0)))))).bind fun(I:((Qj×(List (Z2×Int))×Int)⊕(EC×Int)))=>match I with
 | .inl (J,L,M)=>(if 0≤p∧p<(A.length:Int)then(if p.toNat<A.length then some (Sum.inl (J,L,(A.set p.toNat M),(i64.wrap (p+1))))else none)else none)
 | .inr ((N,O))=>some (Sum.inr (Sum.inr (N,O)))))
 else some (Sum.inr (Sum.inl (j,z,A))))
def rK(z:Int)(O:QK)(V:Qj)(X:List Z9)(Y Z a1 a2:Int):(QZ×QK×Qj×(List (Z2×Int))×Int)→Option ((QZ×QK×Qj×(List (Z2×Int))×Int)⊕(EC⊕(EC×Int))):=fun(q,u,p,A,j) =>
 (if(decide (j<(p.length:Int)))=true then(if 0≤j∧j<(p.length:Int)then(if j.toNat<p.length then((iter (qX V p j) (Y,Z,a1,a2,0)).bind fun(B,C,D,E)=>((iter (qW X p j) (0,0)).bind fun v=>(if 0≤z∧z≤z∧8*z≤281474976710656∧z≤9223372036854775807 then((iter (sh z O B C D E) (p,A,(List.replicate z.toNat (0:Int)),0)).bind fun(I:((Qj×(List (Z2×Int))×QK)⊕(EC×Int)))=>match I with
 | .inl (J,L,x)=>(if(q.length+([x]:QZ).length)*24≤140737488355328∧q.length+([x]:QZ).length≤9223372036854775807 then(if(u.length+([v]:QK).length)*4≤140737488355328∧u.length+([v]:QK).length≤9223372036854775807 then some (Sum.inl ((q++([x]:QZ)),(u++([v]:QK)),J,L,(i64.wrap (j+1))))else none)else none)
 | .inr ((M,N))=>some (Sum.inr (Sum.inr (M,N))))else none)))else none)else none)
 else some (Sum.inr (Sum.inl (q,u))))
def mV(L:XX)(z:Int):Option (EC×Int) :=
 (((if(decide (z<1))=true then some (true)
 else(if(decide (z > 24))=true then some (true)
 else some ((decide ((L.length:Int) > 24)))))).bind fun v1=>(if v1=true then some ((([]:QZ),([]:QK)),2)
 else((iter (rL L) (([]:QK),([]:Qj),false,([]:List Z9),0)).bind fun(A,B,C,j)=>(if C=true then some ((([]:QZ),([]:QK)),26)
 else((iter (su j) (0,0,0,0,0)).bind fun(D,E,I,J)=>((iter (rK z A B j D E I J) (([]:QZ),([]:QK),([(0,0,0,0)]:Qj),(cN mv ([]:List (Z2×Int)) (0,0,0,0) (0:Int)),0)).bind fun(p:(EC⊕(EC×Int)))=>match p with
 | .inl (q,u)=>some ((q,u),0)
 | .inr ((v,x))=>some (v,x)))))))
theorem sF(b5:Bool){d1:XX}{Z:Int}{dk:EC×Int}(h:mV d1 Z=some dk):
  Pure Tryz.prog 88 [.p b5 (.slice (.tree .u8 .u32)) d1,.i64 Z] (aK (bd false [⟨CQ,dk.1⟩,⟨(.int .i64),dk.2⟩])):=by
 refine PB Tryz.func88 (fun Bw w0=>?_);unfold mV at h;refine G (af (af (bz h (fun v1=>aA [(0,.p b5 (.slice (.tree .u8 .u32)) d1),(1,.i64 Z),(4,.adr 0 0 2 0),(40,.bo v1)] [(0,.box [.nils,.nils])] 1) (fun v1 h=>?_) (fun v1 h=>?_))))
 ·rcases aM h with⟨B5,h⟩ | ⟨B5,h⟩
  ·exact bC ⟨[(2,true),(5,true)],[]⟩ [(3,5,oc B5)] (eN h (gg [] [0]))
  rcases aM h with⟨B6,h⟩ | ⟨B6,h⟩
  ·exact bC ⟨[(2,false),(5,false),(6,true),(10,true)],[]⟩ [(3,4,an B5),(5,5,oc B5),(7,10,oc B6)] (eN h (gg [] [0]))
  exact bC ⟨[(2,false),(5,false),(6,false),(10,false)],[]⟩ [(3,4,an B5),(5,5,oc B5),(7,9,an B6),(10,10,oc B6)] (eN h (gg [] [0]))
 refine ab (aC h (fun B7 h=>?_) (fun B7 h=>?_))
 ·refine G (aw (ah ?_));obtain rfl:=sI h;exact RI [CQ,(.int .i64)]
 refine ae (ab (G (G (af (G (ak (cM h (fun(v7,v8,v9,v10,v11)=>aA [(1,.i64 Z),(4,.adr 0 0 2 0),(6,.adr 1 0 3 0),(7,.sl 4),(44,.p b5 (.slice (.tree .u8 .u32)) d1),(45,.i64 (d1.length:Int)),(46,.i64 v11)] (MB v9 v7 v8 v10) 5) 0 (fun(z,A,B,x)=>aA [(1,.i64 Z),(4,.adr 0 0 2 0),(6,.adr 1 0 3 0),(7,.sl 4)] (MB B z A x) 5) (gg [.nilC 9 0 57 131 (.int .u32),.nilC 9 1 58 251 mv,.nilS 7 59 253 Bd] [0,9,57,58,59]) (fun y o h=>?_) (fun f6 h=>?_))))))))
 ·obtain⟨v7,v8,v9,v10,v11⟩:=y;unfold rL at h;refine G (af (aC h (fun f7 h=>?_) (fun f7 h=>?_)))
  ·refine ae (ab (af (ak (GC 0 h (fun h=>?_)))));obtain⟨⟨g8,g9,gb,gd⟩,q6,h⟩:=aj h;obtain⟨f8,h⟩:=aD h;have V:=(kx 1000 b5 q6);refine bC ⟨[],[(3,(oO V [1,2,3]))]⟩ [(3,3,oc V),(5,5,oc f8)] (ay (ab (Ge ?_)));exact eB h (gg [] [0,1,69,70,85])
  refine av (aP ?_);exact eX h (gg [] [0,1,2,3,4])
 obtain⟨z,A,B,x⟩:=f6;refine az (ab (af (G (aC h (fun f9 h=>?_) (fun f9 h=>?_)))))
 ·refine G (aw (ah ?_));obtain rfl:=sI h;exact RI [CQ,(.int .i64)]
 refine ae (ab (G (af (G (ak (cM h (fun(dm,ds,dt,du,e1)=>aA [(1,.i64 Z),(4,.adr 0 0 2 0),(6,.adr 1 0 3 0),(7,.sl 4),(10,.adr 5 0 4 0),(62,.sl 4),(63,.i64 (x.length:Int)),(64,.i64 e1)] (Me B z A x dm ds dt du) 6) 2 (fun(L,M,N,O)=>aA [(1,.i64 Z),(4,.adr 0 0 2 0),(6,.adr 1 0 3 0),(7,.sl 4),(10,.adr 5 0 4 0)] (Me B z A x L M N O) 6) (gg [] [0,1,2,3,4,37]) (fun y o h=>?_) (fun fa h=>?_)))))))
 ·obtain⟨dm,ds,dt,du,e1⟩:=y;unfold su at h;refine G (af (aC h (fun fd h=>?_) (fun fd h=>?_)))
  ·refine ae (ab (af (ak ?_)));obtain⟨fi,fo,h⟩:=g2 h;refine GN a0 [(0,0,oc fi),(1,1,oc fo)] ?_;obtain⟨gi,fr,h⟩:=aj h;refine MR 3 (cS fr) (ay (ab (Ge ?_)));exact eB h (gg [] [0,1,2,3,4,5])
  refine av (aP ?_);exact eX h (gg [] [0,1,2,3,4,5])
 obtain⟨L,M,N,O⟩:=fa;refine az (ab (G (G (GN a0 [(0,0,oc zF),(2,2,oc zF)] (af (G (ak (kg h (fun(u,v,q,X,j)=>aA [(1,.i64 Z),(4,.adr 0 0 2 0),(6,.adr 1 0 3 0),(7,.sl 4),(10,.adr 5 0 4 0),(13,.adr 6 0 2 0),(14,.sl 9),(15,.mp 10),(16,.i64 j)] (M2 B z A x L M N O u v q X) 11) (dy (fj Tryz.f88.ntmps 4 (fun(b6,b7)=>aA [(4,.adr 0 0 2 0),(13,.adr 1 0 2 0)] (Mw b6 b7) 4)) (gr tb Tryz.f88.results.toList (fun(b8,b9)=>[⟨CQ,b8⟩,⟨(.int .i64),b9⟩]))) (gg [.nilC 6 0 86 97 (.slice (.int .i64)),.nilC 6 1 87 131 (.int .u32)] [0,1,2,3,4,5,6,86,87,22,38]) (fun y o h=>?_) (fun e2 h e σ' hq=>?_)))))))))
 ·obtain⟨u,v,q,X,j⟩:=y;unfold rK at h;refine af (G (aC h (fun e3 h=>?_) (fun e3 h=>?_)))
  ·refine ae (ab (af (ak ?_)));obtain⟨e4,e5,h⟩:=g2 h;refine GN a0 [(2,2,oc e4),(3,3,oc e5)] (G (G (af (G (ak ?_)))));refine cM h (fun(be,bi,bs,bv,a8)=>aA [(1,.i64 Z),(4,.adr 0 0 2 0),(6,.adr 1 0 3 0),(7,.sl 4),(10,.adr 5 0 4 0),(13,.adr 6 0 2 0),(14,.sl 9),(15,.mp 10),(16,.i64 j),(17,.adr 11 0 4 0),(18,.u32 0),(19,.adr 12 0 4 0),(93,.i64 (A.length:Int)),(94,.i64 a8)] (F1 B z A x L M N O u v q X ((q.getD j.toNat (0,0,0,0)).1) ((q.getD j.toNat (0,0,0,0)).2.1) ((q.getD j.toNat (0,0,0,0)).2.2.1) ((q.getD j.toNat (0,0,0,0)).2.2.2) be bi bs bv) 13) 6 (fun(C,D,E,I)=>aA [(1,.i64 Z),(4,.adr 0 0 2 0),(6,.adr 1 0 3 0),(7,.sl 4),(10,.adr 5 0 4 0),(13,.adr 6 0 2 0),(14,.sl 9),(15,.mp 10),(16,.i64 j),(17,.adr 11 0 4 0),(18,.u32 0),(19,.adr 12 0 4 0)] (F1 B z A x L M N O u v q X ((q.getD j.toNat (0,0,0,0)).1) ((q.getD j.toNat (0,0,0,0)).2.1) ((q.getD j.toNat (0,0,0,0)).2.2.1) ((q.getD j.toNat (0,0,0,0)).2.2.2) C D E I) 13) (gg [] [0,1,2,3,4,5,6,7,8,9,10,75,107]) (fun y o h=>?_) (fun e6 h=>?_)
   ·obtain⟨be,bi,bs,bv,a8⟩:=y;unfold qX at h;refine G (af (aC h (fun e7 h=>?_) (fun e7 h=>?_)))
    ·refine ae (ab (af (ak (G ?_))));obtain⟨fs,e8,h⟩:=aj h;refine GP 2 (iu e8) (bz h (fun(bx,c1,c2,c3)=>aA [(1,.i64 Z),(4,.adr 0 0 2 0),(6,.adr 1 0 3 0),(7,.sl 4),(10,.adr 5 0 4 0),(13,.adr 6 0 2 0),(14,.sl 9),(15,.mp 10),(16,.i64 j),(17,.adr 11 0 4 0),(18,.u32 0),(19,.adr 12 0 4 0),(93,.i64 (A.length:Int)),(94,.i64 a8)] (F1 B z A x L M N O u v q X ((q.getD j.toNat (0,0,0,0)).1) ((q.getD j.toNat (0,0,0,0)).2.1) ((q.getD j.toNat (0,0,0,0)).2.2.1) ((q.getD j.toNat (0,0,0,0)).2.2.2) bx c1 c2 c3) 13) (fun c4 h=>?_) (fun c4 h=>?_))
     ·refine aC h (fun e9 h=>?_) (fun e9 h=>?_)
      ·obtain⟨ea,eb,h⟩:=g2 h;obtain⟨ft,ec,h⟩:=aj h;have V:=(cS ec);exact nf ⟨[],[(8,(oP V))]⟩ [(6,6,oc ea),(7,7,oc eb),(8,8,oc V)] (eN h (gg [] [0,1,2,3,4,5,6,7,8,9,10,11,12]))
      exact ae (eN h (gg [] [0,1,2,3,4,5,6,7,8,9,10,11,12]))
     obtain⟨bx,c1,c2,c3⟩:=c4;refine ay (ab (Ge ?_));exact eB h (gg [] [0,1,2,3,4,5,6,7,8,9,10,11,12])
    refine av (aP ?_);exact eX h (gg [] [0,1,2,3,4,5,6,7,8,9,10,11,12])
   obtain⟨C,D,E,I⟩:=e6;refine az (ab (af (G (ak ?_))));refine cM h (fun(a9,a5)=>aA [(1,.i64 Z),(4,.adr 0 0 2 0),(6,.adr 1 0 3 0),(7,.sl 4),(10,.adr 5 0 4 0),(13,.adr 6 0 2 0),(14,.sl 9),(15,.mp 10),(16,.i64 j),(17,.adr 11 0 4 0),(18,.u32 a9),(19,.adr 12 0 4 0),(110,.sl 4),(111,.i64 (x.length:Int)),(112,.i64 a5)] (F1 B z A x L M N O u v q X ((q.getD j.toNat (0,0,0,0)).1) ((q.getD j.toNat (0,0,0,0)).2.1) ((q.getD j.toNat (0,0,0,0)).2.2.1) ((q.getD j.toNat (0,0,0,0)).2.2.2) C D E I) 13) 8 (fun Y=>aA [(1,.i64 Z),(4,.adr 0 0 2 0),(6,.adr 1 0 3 0),(7,.sl 4),(10,.adr 5 0 4 0),(13,.adr 6 0 2 0),(14,.sl 9),(15,.mp 10),(16,.i64 j),(18,.u32 Y),(19,.adr 11 0 4 0)] (NB B z A x L M N O u v q X C D E I) 12) (gg [] [0,1,2,3,4,5,6,7,8,9,10,11,12]) (fun y o h=>?_) (fun Y h=>?_)
   ·obtain⟨a9,a5⟩:=y;unfold qW at h;refine G (af (aC h (fun ed h=>?_) (fun ed h=>?_)))
    ·refine ae (ab (af (ak ?_)));obtain⟨ef,eh,h⟩:=g2 h;refine GN a0 [(1,1,oc ef),(2,2,oc eh)] (af (bz h (fun aa=>aA [(1,.i64 Z),(4,.adr 0 0 2 0),(6,.adr 1 0 3 0),(7,.sl 4),(10,.adr 5 0 4 0),(13,.adr 6 0 2 0),(14,.sl 9),(15,.mp 10),(16,.i64 j),(17,.adr 11 0 4 0),(18,.u32 a9),(19,.adr 12 0 4 0),(21,.i64 a5),(110,.sl 4),(111,.i64 (x.length:Int)),(112,.i64 a5),(124,.bo aa)] (F1 B z A x L M N O u v q X ((q.getD j.toNat (0,0,0,0)).1) ((q.getD j.toNat (0,0,0,0)).2.1) ((q.getD j.toNat (0,0,0,0)).2.2.1) ((q.getD j.toNat (0,0,0,0)).2.2.2) C D E I) 13) (fun aa h=>?_) (fun aa h=>?_)))
     ·rcases aM h with⟨a6,h⟩ | ⟨a6,h⟩
      ·exact bC ⟨[(2,true),(7,true)],[]⟩ [(3,7,oc a6)] (eN h (gg [] [0,1,2,3,4,5,6,7,8,9,10,11,12]))
      obtain⟨fv,ei,h⟩:=aj h;have V:=(xZ ei);exact bC ⟨[(2,false),(7,false)],[(6,(oP V))]⟩ [(3,5,an a6),(6,6,oc (And.intro a6 V)),(7,7,oc a6)] (eN h (gg [] [0,1,2,3,4,5,6,7,8,9,10,11,12]))
     refine ab (bz h (fun ac=>aA [(1,.i64 Z),(4,.adr 0 0 2 0),(6,.adr 1 0 3 0),(7,.sl 4),(10,.adr 5 0 4 0),(13,.adr 6 0 2 0),(14,.sl 9),(15,.mp 10),(16,.i64 j),(17,.adr 11 0 4 0),(18,.u32 ac),(19,.adr 12 0 4 0),(110,.sl 4),(111,.i64 (x.length:Int)),(112,.i64 a5)] (F1 B z A x L M N O u v q X ((q.getD j.toNat (0,0,0,0)).1) ((q.getD j.toNat (0,0,0,0)).2.1) ((q.getD j.toNat (0,0,0,0)).2.2.1) ((q.getD j.toNat (0,0,0,0)).2.2.2) C D E I) 13) (fun ac h=>?_) (fun ac h=>?_))
     ·refine aC h (fun ej h=>?_) (fun ej h=>?_)
      ·refine xq 2 h (fun h=>?_);exact eN h (gg [] [0,1,2,3,4,5,6,7,8,9,10,11,12])
      exact ae (eN h (gg [] [0,1,2,3,4,5,6,7,8,9,10,11,12]))
     refine ay (ab (Ge ?_));exact eB h (gg [] [0,1,2,3,4,5,6,7,8,9,10,11,12])
    refine av (aP ?_);exact eX h (gg [] [0,1,2,3,4,5,6,7,8,9,10,12])
   refine az (ab (GC 1 h (fun h=>af (G (ak ?_)))));refine kg h (fun(a2,a3,a1,J)=>aA [(1,.i64 Z),(4,.adr 0 0 2 0),(6,.adr 1 0 3 0),(7,.sl 4),(10,.adr 5 0 4 0),(13,.adr 6 0 2 0),(14,.sl 9),(15,.mp 10),(16,.i64 j),(18,.u32 Y),(19,.adr 11 0 4 0),(23,.sl 12),(132,.i64 Z),(133,.i64 J)] (Mr B z A x L M N O u v a2 a3 C D E I a1) 13) (dy (fj Tryz.f88.ntmps 10 (fun(c5,c6,c7)=>aA [(1,.i64 Z),(4,.adr 0 0 2 0),(6,.adr 1 0 3 0),(7,.sl 4),(10,.adr 5 0 4 0),(13,.adr 6 0 2 0),(14,.sl 9),(15,.mp 10),(16,.i64 j),(18,.u32 Y),(23,.sl 11)] (MZ B z A x L M N O u v c5 c6 c7) 12)) (gr tb Tryz.f88.results.toList (fun(c8,c9)=>[⟨CQ,c8⟩,⟨(.int .i64),c9⟩]))) (gg [] [0,1,2,3,4,5,6,7,8,9,10,11,20]) (fun y o h=>?_) (fun ek h e σ' hq=>?_)
   ·obtain⟨a2,a3,a1,J⟩:=y;unfold sh at h;refine G (af (aC h (fun el h=>?_) (fun el h=>?_)))
    ·refine ae (ab (af (ak (G (G (af (G (ak ?_))))))));refine cM h (fun(ad,ax,b1,b2,a7)=>aA [(1,.i64 Z),(4,.adr 0 0 2 0),(6,.adr 1 0 3 0),(7,.sl 4),(10,.adr 5 0 4 0),(13,.adr 6 0 2 0),(14,.sl 9),(15,.mp 10),(16,.i64 j),(18,.u32 Y),(19,.adr 11 0 4 0),(23,.sl 12),(24,.i64 J),(25,.adr 13 0 4 0),(132,.i64 Z),(133,.i64 J),(139,.sl 2),(140,.i64 (z.length:Int)),(141,.i64 a7)] (JQ B z A x L M N O u v a2 a3 C D E I a1 ad ax b1 b2) 14) 12 (fun(cc,ch,cp,cs)=>aA [(1,.i64 Z),(4,.adr 0 0 2 0),(6,.adr 1 0 3 0),(7,.sl 4),(10,.adr 5 0 4 0),(13,.adr 6 0 2 0),(14,.sl 9),(15,.mp 10),(16,.i64 j),(18,.u32 Y),(19,.adr 11 0 4 0),(23,.sl 12),(24,.i64 J),(25,.adr 13 0 4 0),(132,.i64 Z),(133,.i64 J)] (JQ B z A x L M N O u v a2 a3 C D E I a1 cc ch cp cs) 14) (gg [] [0,1,2,3,4,5,6,7,8,9,10,11,12,37]) (fun y o h=>?_) (fun eo h=>?_)
     ·obtain⟨ad,ax,b1,b2,a7⟩:=y;unfold rv at h;refine G (af (aC h (fun ep h=>?_) (fun ep h=>?_)))
      ·refine ae (ab (af (ak ?_)));obtain⟨er,es,h⟩:=g2 h;refine GN a0 [(1,1,oc er),(2,2,oc es)] (af (bz h (fun b3=>aA [(1,.i64 Z),(4,.adr 0 0 2 0),(6,.adr 1 0 3 0),(7,.sl 4),(10,.adr 5 0 4 0),(13,.adr 6 0 2 0),(14,.sl 9),(15,.mp 10),(16,.i64 j),(18,.u32 Y),(19,.adr 11 0 4 0),(23,.sl 12),(24,.i64 J),(25,.adr 13 0 4 0),(26,.i64 a7),(132,.i64 Z),(133,.i64 J),(139,.sl 2),(140,.i64 (z.length:Int)),(141,.i64 a7),(155,.bo b3)] (JQ B z A x L M N O u v a2 a3 C D E I a1 ad ax b1 b2) 14) (fun b3 h=>?_) (fun b3 h=>?_)))
       ·obtain⟨fw,cx,h⟩:=aj h;rcases aM h with⟨a4,h⟩ | ⟨a4,h⟩
        ·obtain⟨et,h⟩:=aD h;have V:=(iu cx);exact bC ⟨[(3,true),(9,true)],[(2,(oP V))]⟩ [(2,2,oc V),(4,5,an a4),(6,6,oc (And.intro a4 et)),(7,8,an a4),(9,9,oc a4)] (eN h (gg [] [0,1,2,3,4,5,6,7,8,9,10,11,12,13]))
        have V:=(iu cx);exact bC ⟨[(3,false),(9,false)],[(2,(oP V))]⟩ [(2,2,oc V),(4,9,oc a4)] (eN h (gg [] [0,1,2,3,4,5,6,7,8,9,10,11,12,13]))
       refine ab (bz h (fun(d2,d3,d4,d5)=>aA [(1,.i64 Z),(4,.adr 0 0 2 0),(6,.adr 1 0 3 0),(7,.sl 4),(10,.adr 5 0 4 0),(13,.adr 6 0 2 0),(14,.sl 9),(15,.mp 10),(16,.i64 j),(18,.u32 Y),(19,.adr 11 0 4 0),(23,.sl 12),(24,.i64 J),(25,.adr 13 0 4 0),(132,.i64 Z),(133,.i64 J),(139,.sl 2),(140,.i64 (z.length:Int)),(141,.i64 a7)] (JQ B z A x L M N O u v a2 a3 C D E I a1 d2 d3 d4 d5) 14) (fun d6 h=>?_) (fun d6 h=>?_))
       ·refine aC h (fun eu h=>?_) (fun eu h=>?_)
        ·obtain⟨⟨g1,g5,g6,g7⟩,ew,h⟩:=aj h;exact mJ 1 [13] (qp ew) (eN h (gg [] [0,1,2,3,4,5,6,7,8,9,10,11,12,13]))
        exact ae (eN h (gg [] [0,1,2,3,4,5,6,7,8,9,10,11,12,13]))
       obtain⟨d2,d3,d4,d5⟩:=d6;refine ay (ab (Ge ?_));exact eB h (gg [] [0,1,2,3,4,5,6,7,8,9,10,11,12,13])
      refine av (aP ?_);exact eX h (gg [] [0,1,2,3,4,5,6,7,8,9,10,11,12,13])
     obtain⟨cc,ch,cp,cs⟩:=eo;refine az (ab (GN a0 [(2,2,oc zF)] (af (G (DJ h (dy (n9 Tryz.f88.ntmps (fun(d7,d8,d9)=>aA [(1,.i64 Z),(4,.adr 0 0 2 0),(6,.adr 1 0 3 0),(7,.sl 4),(10,.adr 5 0 4 0),(13,.adr 6 0 2 0),(14,.sl 9),(15,.mp 10),(16,.i64 j),(18,.u32 Y),(19,.adr 11 0 4 0),(23,.sl 12),(24,.i64 J),(28,.i64 d9),(132,.i64 Z),(133,.i64 J)] (Mr B z A x L M N O u v d7 d8 C D E I a1) 13)) (gr tb Tryz.f88.results.toList (fun(dd,de)=>[⟨CQ,dd⟩,⟨(.int .i64),de⟩]))) (fun di h=>?_) (fun di h e σ' hq=>?_))))))
     ·refine aC h (fun ey h=>?_) (fun ey h=>?_)
      ·refine af (G (G (aC h (fun f1 h=>?_) (fun f1 h=>?_))))
       ·refine G (aw ?_);obtain rfl:=sI h;refine ah (aL ?_);exact bH (RI [CQ,(.int .i64)])
       refine ae (ab (GN a0 [(3,3,oc zF)] (xq 3 h (fun h=>?_))));obtain rfl:=sI h;exact bk (cV (gg [] [0,1,2,3,4,5,6,7,8,190,10,11,12]))
      refine ae ?_;obtain rfl:=sI h;exact bk (cV (gg [] [0,1,2,3,4,5,6,7,8,9,10,11,12]))
     rcases di with⟨d7,d8,d9⟩ | ⟨dd,de⟩
     ·obtain⟨rfl,b4⟩:=hq;refine cF ?_ b4;refine ab ?_;obtain⟨f2,f3,h⟩:=g2 h;refine bC a0 [(3,3,oc f2),(4,4,oc f3)] (ay (ab (Ge ?_)));exact eB h (gg [] [0,1,2,3,4,5,6,7,8,9,10,11,12])
     obtain⟨rfl,hr⟩:=hq;obtain rfl:=sI h;refine ah (au (ah (bK (aL ?_))));exact bH hr
    refine av (aP ?_);obtain rfl:=sI h;refine dL (bk ?_);exact bS (gg [] [0,1,2,3,4,5,6,7,8,9,10,12])
   rcases ek with⟨c5,c6,c7⟩ | ⟨c8,c9⟩
   ·obtain⟨rfl,b4⟩:=hq;refine cF ?_ b4;refine az (ab ?_);obtain⟨f4,f5,h⟩:=g2 h;refine nf a0 [(4,4,oc f4),(9,9,oc f5)] (ay (ab (Ge ?_)));exact eB h (gg [] [0,1,2,3,4,5,6,44,84,9,10])
   obtain⟨rfl,hr⟩:=hq;obtain rfl:=sI h;refine au (ah (au (ah (bK (aL ?_)))));exact bH hr
  refine av (aP ?_);obtain rfl:=sI h;refine dL (bk ?_);exact bS (gg [] [0,6,7,8])
 rcases e2 with⟨b6,b7⟩ | ⟨b8,b9⟩
 ·obtain⟨rfl,b4⟩:=hq;refine cF ?_ b4;refine az (ab (G (lS [.frzC 0 0,.frzC 0 1] (by kernel_rfl) (aw ?_))));obtain rfl:=sI h;exact RI [CQ,(.int .i64)]
 obtain⟨rfl,hr⟩:=hq;refine au (ah ?_);obtain rfl:=sI h;exact hr
def oM(q:QZ)(p:Int):(Int)→Option ((Int)⊕((Unit)⊕(Bool))):=fun j =>
 (if(decide (j<((q.getD p.toNat []).length:Int)))=true then(if 0≤j∧j<((q.getD p.toNat []).length:Int)then(((if(decide (((q.getD p.toNat []).getD j.toNat 0)<0))=true then some (true)
 else some ((decide (((q.getD p.toNat []).getD j.toNat 0)≥(q.length:Int)))))).bind fun u=>(if u=true then some (Sum.inr (Sum.inr false))
 else some (Sum.inl (i64.wrap (j+1)))))else none)
 else some (Sum.inr (Sum.inl ())))
def pt(p:QZ):(Int)→Option ((Int)⊕((Unit)⊕(Bool))):=fun j =>
 (if(decide (j<(p.length:Int)))=true then(if 0≤j∧j<(p.length:Int)then(if 0≤(0:Int)∧0<(p.length:Int)then(if(((p.getD j.toNat []).length:Int) != ((p.getD ((0:Int).toNat) []).length:Int))=true then some (Sum.inr (Sum.inr false))
 else((iter (oM p j) (0:Int)).bind fun(q:((Unit)⊕(Bool)))=>match q with
 | .inl _=>some (Sum.inl (i64.wrap (j+1)))
 | .inr (u)=>some (Sum.inr (Sum.inr u))))else none)else none)
 else some (Sum.inr (Sum.inl ())))
def l9(j:QZ)(p:QK):Option (Bool) :=
 (((if((j.length:Int) == 0)=true then some (true)
 else some (((j.length:Int) != (p.length:Int))))).bind fun v1=>(if v1=true then some false
 else((iter (pt j) (0:Int)).bind fun(q:((Unit)⊕(Bool)))=>match q with
 | .inl _=>some true
 | .inr (u)=>some u)))
theorem xi(j v:Bool){q:QZ}{z:QK}{D:Bool}(h:l9 q z=some D):
  Pure Tryz.prog 110 [.agg [.p j (.slice (.slice (.int .i64))) q,.p v (.slice (.int .u32)) z]] (aK (bd false [⟨.bool,D⟩])):=by
 refine PB Tryz.func110 (fun Bw w0=>?_);unfold l9 at h;refine G (af (af (bz h (fun v1=>aA [(1,.adr 0 0 2 0),(19,.bo v1)] (Hc j q v z) 1) (fun v1 h=>?_) (fun v1 h=>?_))))
 ·rcases aM h with⟨I,h⟩ | ⟨I,h⟩
  ·exact bC ⟨[(4,true),(12,true)],[]⟩ [(5,12,oc I)] (eN h (gg [] [0]))
  exact bC ⟨[(4,false),(12,false)],[]⟩ [(5,11,an I),(12,12,oc I)] (eN h (gg [] [0]))
 refine ab (aC h (fun Y h=>?_) (fun Y h=>?_))
 ·refine G (aw (ah ?_));obtain rfl:=sI h;exact RI [.bool]
 refine ae (ab (af (G (ak (kg h (fun u=>aA [(1,.adr 0 0 2 0),(21,.p j (.slice (.slice (.int .i64))) q),(22,.i64 (q.length:Int)),(23,.i64 u)] (Hc j q v z) 1) (dy (fj Tryz.f110.ntmps 0 (fun _=>aA [] [] 0)) (gr tb Tryz.f110.results.toList (fun V=>[⟨.bool,V⟩]))) (gg [] [0]) (fun u o h=>?_) (fun Z h e σ' E=>?_))))))
 ·unfold pt at h;refine G (af (aC h (fun J h=>?_) (fun J h=>?_)))
  ·refine ae (ab (af (ak (GC 0 h (fun h=>af (GC 4 h (fun h=>aC h (fun L h=>?_) (fun L h=>?_))))))))
   ·refine G (aw ?_);obtain rfl:=sI h;refine ah (au (ah (bK (aL ?_))));exact bH (RI [.bool])
   refine ae (ab (G (ak (kg h (fun A=>aA [(1,.adr 0 0 2 0),(21,.p j (.slice (.slice (.int .i64))) q),(22,.i64 (q.length:Int)),(23,.i64 u),(35,.p j (.slice (.int .i64)) (q.getD u.toNat [])),(36,.i64 ((q.getD u.toNat []).length:Int)),(37,.i64 A)] (Hc j q v z) 1) (dy (fj Tryz.f110.ntmps 2 (fun _=>aA [(1,.adr 0 0 2 0),(21,.p j (.slice (.slice (.int .i64))) q),(22,.i64 (q.length:Int)),(23,.i64 u)] (Hc j q v z) 1)) (gr tb Tryz.f110.results.toList (fun X=>[⟨.bool,X⟩]))) (gg [] [0]) (fun A o h=>?_) (fun r7 h e σ' E=>?_)))))
   ·unfold oM at h;refine G (af (aC h (fun M h=>?_) (fun M h=>?_)))
    ·refine ae (ab (af (ak (GC 0 h (fun h=>af (bz h (fun B=>aA [(1,.adr 0 0 2 0),(21,.p j (.slice (.slice (.int .i64))) q),(22,.i64 (q.length:Int)),(23,.i64 u),(35,.p j (.slice (.int .i64)) (q.getD u.toNat [])),(36,.i64 ((q.getD u.toNat []).length:Int)),(37,.i64 A),(49,.bo B)] (Hc j q v z) 1) (fun B h=>?_) (fun B h=>?_)))))))
     ·rcases aM h with⟨x,h⟩ | ⟨x,h⟩
      ·exact bC ⟨[(2,true),(8,true)],[]⟩ [(3,8,oc x)] (eN h (gg [] [0]))
      exact bC ⟨[(2,false),(8,false)],[]⟩ [(3,7,an x),(8,8,oc x)] (eN h (gg [] [0]))
     refine ab (aC h (fun N h=>?_) (fun N h=>?_))
     ·refine G (aw ?_);obtain rfl:=sI h;refine au (ah (bK (aL ?_)));exact bH (RI [.bool])
     refine ae (ay (ab (Ge ?_)));exact eB h (gg [] [0])
    refine av (aP ?_);obtain rfl:=sI h;refine dL (bk ?_);exact bS (gg [] [0])
   rcases r7 with _ | X
   ·obtain⟨rfl,C⟩:=E;refine cF ?_ C;refine az (ay (ab (Ge ?_)));exact eB h (gg [] [0])
   obtain⟨rfl,O⟩:=E;obtain rfl:=sI h;refine au (au (ah (bK (aL ?_))));exact bH O
  refine av (aP ?_);obtain rfl:=sI h;refine dL (bk ?_);exact bS (gg [] [])
 rcases Z with _ | V
 ·obtain⟨rfl,C⟩:=E;refine cF ?_ C;refine az (ab (G (aw ?_)));obtain rfl:=sI h;exact RI [.bool]
 obtain⟨rfl,O⟩:=E;refine au (ah ?_);obtain rfl:=sI h;exact O
def iw(p:Int)(u:QZ)(q j:QK):Option QK :=
 (if 0≤p∧p<(q.length:Int)then(if(j.length+([(i64.wrap (q.getD p.toNat 0))]:QK).length)*8≤140737488355328∧j.length+([(i64.wrap (q.getD p.toNat 0))]:QK).length≤9223372036854775807 then some (j++([(i64.wrap (q.getD p.toNat 0))]:QK))else none)else none)
theorem qn(u v:Bool){x:Int}{A:QZ}{z j q:QK}(h:iw x A z j=some q):
  jD Tryz.prog 112 [.i64 x,.sl 0,.fad true [.p u (.slice (.slice (.int .i64))) A,.p v (.slice (.int .u32)) z] 0] [(0,.arr 3 (.int .i64) j)] (.sl 1) [(1,.arr 3 (.int .i64) q)]:=by
 refine OB Tryz.func112 (fun Bw w0=>?_);unfold iw at h;refine G ?_;obtain⟨B,C,h⟩:=g2 h;refine GN a0 [(4,4,oc B),(8,8,oc C)] (aw ?_);obtain rfl:=sI h;exact RO [none] [] [0,73] [(5,.sl 1)] [(1,.arr 3 (.int .i64) (j++([(i64.wrap (z.getD x.toNat 0))]:QK)))] 2 1
def jc(p:QK):uZ→Option (uZ⊕QK):=fun(q,j) =>
 (if(decide (j<(p.length:Int)))=true then(if 0≤j∧j<(p.length:Int)then(if j.toNat<p.length then(if 0≤(8:Int)then(if 0≤(16:Int)then(if 0≤(24:Int)then(if(q.length+([(u8.wrap (p.getD j.toNat 0)),(u8.wrap (Int.fdiv (p.getD j.toNat 0) (2 ^ (min (8:Int).toNat i64.bits)))),(u8.wrap (Int.fdiv (p.getD j.toNat 0) (2 ^ (min (16:Int).toNat i64.bits)))),(u8.wrap (Int.fdiv (p.getD j.toNat 0) (2 ^ (min (24:Int).toNat i64.bits))))]:QK).length)*1≤140737488355328∧q.length+([(u8.wrap (p.getD j.toNat 0)),(u8.wrap (Int.fdiv (p.getD j.toNat 0) (2 ^ (min (8:Int).toNat i64.bits)))),(u8.wrap (Int.fdiv (p.getD j.toNat 0) (2 ^ (min (16:Int).toNat i64.bits)))),(u8.wrap (Int.fdiv (p.getD j.toNat 0) (2 ^ (min (24:Int).toNat i64.bits))))]:QK).length≤9223372036854775807 then some (Sum.inl ((q++([(u8.wrap (p.getD j.toNat 0)),(u8.wrap (Int.fdiv (p.getD j.toNat 0) (2 ^ (min (8:Int).toNat i64.bits)))),(u8.wrap (Int.fdiv (p.getD j.toNat 0) (2 ^ (min (16:Int).toNat i64.bits)))),(u8.wrap (Int.fdiv (p.getD j.toNat 0) (2 ^ (min (24:Int).toNat i64.bits))))]:QK)),(i64.wrap (j+1))))else none)else none)else none)else none)else none)else none)
 else some (Sum.inr q))
def o7(z:Int)(A:QZ)(B:QK):(XQ×QK×QK×Int)→Option ((XQ×QK×QK×Int)⊕QK):=fun(p,v20,u,j) =>
 (if(decide (j<z))=true then(if 0≤(0:Int)∧0≤(u.length:Int)then((iw j A B (u.take (0:Int).toNat)).bind fun x =>
 ((iter (jc x) (([]:QK),0)).bind fun q=>(((if(!((bh .str p (bytesOf q)).isSome))=true then some (((cN .str p (bytesOf q) (p.length:Int)),(p.length:Int)))
 else some ((p,((bh .str p (bytesOf q)).getD 0))))).bind fun(v,v30)=>(if 0≤j∧j<(v20.length:Int)then(if j.toNat<v20.length then some (Sum.inl (v,(v20.set j.toNat v30),x,(i64.wrap (j+1))))else none)else none))))else none)
 else some (Sum.inr v20))
def l8(j:Int)(q:QZ)(u:QK):Option QK :=
 (if 0≤j∧j≤j∧8*j≤281474976710656∧j≤9223372036854775807 then((iter (o7 j q u) (([]:XQ),(List.replicate j.toNat (0:Int)),([]:QK),0)).bind fun p=>some p)else none)
theorem wj(q u:Bool){x:Int}{z:QZ}{A B:QK}(h:l8 x z A=some B):
  Pure Tryz.prog 111 [.i64 x,.fn 112 [.fad true [.p q (.slice (.slice (.int .i64))) z,.p u (.slice (.int .u32)) A] 0]] (aK (bd false [⟨(.slice (.int .i64)),B⟩])):=by
 refine PB Tryz.func111 (fun Bw w0=>?_);unfold l8 at h;refine G (G (GC 1 h (fun h=>G (af (G (ak (cM h (fun(v,v20,C,j)=>aA [(1,.fn 112 [.fad true [.p q (.slice (.slice (.int .i64))) z,.p u (.slice (.int .u32)) A] 0]),(5,.mp 0),(6,.sl 1),(7,.sl 2),(17,.i64 x),(18,.i64 j)] (I8 v v20 C) 3) 0 (fun D=>aA [(6,.sl 0)] [(0,.arr 3 (.int .i64) D)] 1) (gg [.nilS 7 72 3 (.int .i64)] [8,32,72]) (fun y o h=>?_) (fun D h=>?_))))))))
 ·obtain⟨v,v20,C,j⟩:=y;unfold o7 at h;refine G (af (aC h (fun a3 h=>?_) (fun a3 h=>?_)))
  ·refine ae (ab (af (ak (G ?_))));obtain⟨a4,h⟩:=aD h;obtain⟨r8,q6,h⟩:=aj h;have E:=(qn q u q6);refine GN ⟨[],[(4,(oO E [51]))]⟩ [(3,3,oc a4),(4,4,oc E)] (G (af (G (ak (cM h (fun(I,J)=>aA [(1,.fn 112 [.fad true [.p q (.slice (.slice (.int .i64))) z,.p u (.slice (.int .u32)) A] 0]),(5,.mp 0),(6,.sl 1),(7,.sl 2),(8,.i64 j),(9,.sl 3),(17,.i64 x),(18,.i64 j),(26,.sl 2),(27,.i64 (r8.length:Int)),(28,.i64 J)] (JN v v20 r8 I) 4) 2 (fun L=>aA [(1,.fn 112 [.fad true [.p q (.slice (.slice (.int .i64))) z,.p u (.slice (.int .u32)) A] 0]),(5,.mp 0),(6,.sl 1),(7,.sl 2),(8,.i64 j),(9,.sl 3),(17,.i64 x),(18,.i64 j)] (JN v v20 r8 L) 4) (gg [.nilS 9 107 5 (.int .u8)] [0,1,59,107]) (fun y o h=>?_) (fun L h=>?_))))))
   ·obtain⟨I,J⟩:=y;unfold jc at h;refine G (af (aC h (fun a5 h=>?_) (fun a5 h=>?_)))
    ·refine ae (ab (af (ak ?_)));obtain⟨M,N,h⟩:=g2 h;refine GN a0 [(0,0,oc M),(1,1,oc N)] ?_;obtain⟨O,V,X,Y,h⟩:=g4 h;refine bC a0 [(4,4,oc O),(7,7,oc V),(10,10,oc X),(13,13,oc Y)] (ay (ab (Ge ?_)));exact eB h (gg [] [0,1,2,140])
    refine av (aP ?_);exact eX h (gg [] [0,1,2,3])
   refine az (ab (G (af (G (bz h (fun(Z,v30)=>aA [(1,.fn 112 [.fad true [.p q (.slice (.slice (.int .i64))) z,.p u (.slice (.int .u32)) A] 0]),(5,.mp 0),(6,.sl 1),(7,.sl 2),(8,.i64 j),(12,.i64 v30),(17,.i64 x),(18,.i64 j)] (I8 Z v20 r8) 3) (fun r9 h=>?_) (fun r9 h=>?_))))))
   ·refine aC h (fun a6 h=>?_) (fun a6 h=>?_)
    ·refine G (Ge ?_);exact eN h (gg [] [0,1,2])
    exact ae (eN h (gg [] [0,1,2]))
   obtain⟨Z,v30⟩:=r9;refine ab ?_;obtain⟨a1,a2,h⟩:=g2 h;refine bC a0 [(3,3,oc a1),(4,4,oc a2)] (ay (ab (Ge ?_)));exact eB h (gg [] [0,1,2])
  refine av (aP ?_);exact eX h (gg [] [1])
 refine az (ab (G (aw ?_)));obtain rfl:=sI h;exact RI [(.slice (.int .i64))]
def fT(p:Int)(u:QK)(q:QZ):uZ→Option (uZ⊕QK):=fun(j,v4) =>
 (if(decide (v4<((q.getD p.toNat []).length:Int)))=true then(if 0≤v4∧v4<((q.getD p.toNat []).length:Int)then(if 0≤((q.getD p.toNat []).getD v4.toNat 0)∧((q.getD p.toNat []).getD v4.toNat 0)<(u.length:Int)then(if(j.length+([(u.getD (((q.getD p.toNat []).getD v4.toNat 0).toNat) 0)]:QK).length)*8≤140737488355328∧j.length+([(u.getD (((q.getD p.toNat []).getD v4.toNat 0).toNat) 0)]:QK).length≤9223372036854775807 then some (Sum.inl ((j++([(u.getD (((q.getD p.toNat []).getD v4.toNat 0).toNat) 0)]:QK)),(i64.wrap (v4+1))))else none)else none)else none)
 else some (Sum.inr j))
def ir(p:Int)(q:QK)(v:QZ)(x j:QK):Option QK :=
 (if 0≤p∧p<(q.length:Int)then(if(j.length+([(q.getD p.toNat 0)]:QK).length)*8≤140737488355328∧j.length+([(q.getD p.toNat 0)]:QK).length≤9223372036854775807 then(if 0≤p∧p<(v.length:Int)then((iter (fT p q v) ((j++([(q.getD p.toNat 0)]:QK)),0)).bind fun u=>some u)else none)else none)else none)
theorem qi(v x C:Bool){A:Int}{D:QK}{B:QZ}{M q z:QK}(h:ir A D B M q=some z):
  jD Tryz.prog 113 [.i64 A,.sl 0,.fad true [.p v (.slice (.int .i64)) D] 0,.fad true [.p x (.slice (.slice (.int .i64))) B,.p C (.slice (.int .u32)) M] 0] [(0,.arr 3 (.int .i64) q)] (.sl 1) [(1,.arr 3 (.int .i64) z)]:=by
 refine OB Tryz.func113 (fun Bw w0=>?_);unfold ir at h;refine G ?_;obtain⟨E,I,h⟩:=g2 h;refine GN a0 [(3,3,oc E),(6,6,oc I)] (af (GC 3 h (fun h=>ak (cM h (fun(u,v4)=>aA [(1,.sl 1),(2,.fad true [.p v (.slice (.int .i64)) D] 0),(20,.p x (.slice (.int .i64)) (B.getD A.toNat [])),(21,.i64 ((B.getD A.toNat []).length:Int)),(22,.i64 v4)] [(1,.arr 3 (.int .i64) u)] 2 1) 0 (fun j=>aA [(1,.sl 1)] [(1,.arr 3 (.int .i64) j)] 2 1) (gg [] [0,57]) (fun y o h=>?_) (fun j h=>?_)))))
 ·obtain⟨u,v4⟩:=y;unfold fT at h;refine G (af (aC h (fun N h=>?_) (fun N h=>?_)))
  ·refine ae (ab (af (ak (GC 0 h (fun h=>?_)))));obtain⟨J,L,h⟩:=g2 h;refine bC a0 [(3,3,oc J),(6,6,oc L)] (ay (ab (Ge ?_)));exact eB h (gg [] [0,82])
  refine av (aP ?_);exact eX h (gg [] [0,1])
 refine az (ab (G (aw ?_)));obtain rfl:=sI h;exact RO [none] [] [0,1] [(6,.sl 1)] [(1,.arr 3 (.int .i64) j)] 2 1
def ma(p:QK):uZ→Option (uZ⊕QK):=fun(q,j) =>
 (if(decide (j<(p.length:Int)))=true then(if 0≤j∧j<(p.length:Int)then(if j.toNat<p.length then(if 0≤(8:Int)then(if 0≤(16:Int)then(if 0≤(24:Int)then(if(q.length+([(u8.wrap (p.getD j.toNat 0)),(u8.wrap (Int.fdiv (p.getD j.toNat 0) (2 ^ (min (8:Int).toNat i64.bits)))),(u8.wrap (Int.fdiv (p.getD j.toNat 0) (2 ^ (min (16:Int).toNat i64.bits)))),(u8.wrap (Int.fdiv (p.getD j.toNat 0) (2 ^ (min (24:Int).toNat i64.bits))))]:QK).length)*1≤140737488355328∧q.length+([(u8.wrap (p.getD j.toNat 0)),(u8.wrap (Int.fdiv (p.getD j.toNat 0) (2 ^ (min (8:Int).toNat i64.bits)))),(u8.wrap (Int.fdiv (p.getD j.toNat 0) (2 ^ (min (16:Int).toNat i64.bits)))),(u8.wrap (Int.fdiv (p.getD j.toNat 0) (2 ^ (min (24:Int).toNat i64.bits))))]:QK).length≤9223372036854775807 then some (Sum.inl ((q++([(u8.wrap (p.getD j.toNat 0)),(u8.wrap (Int.fdiv (p.getD j.toNat 0) (2 ^ (min (8:Int).toNat i64.bits)))),(u8.wrap (Int.fdiv (p.getD j.toNat 0) (2 ^ (min (16:Int).toNat i64.bits)))),(u8.wrap (Int.fdiv (p.getD j.toNat 0) (2 ^ (min (24:Int).toNat i64.bits))))]:QK)),(i64.wrap (j+1))))else none)else none)else none)else none)else none)else none)
 else some (Sum.inr q))
def ml(z:Int)(A:QK)(B:QZ)(C:QK):(XQ×QK×QK×Int)→Option ((XQ×QK×QK×Int)⊕QK):=fun(p,v20,u,j) =>
 (if(decide (j<z))=true then(if 0≤(0:Int)∧0≤(u.length:Int)then((ir j A B C (u.take (0:Int).toNat)).bind fun x =>
 ((iter (ma x) (([]:QK),0)).bind fun q=>(((if(!((bh .str p (bytesOf q)).isSome))=true then some (((cN .str p (bytesOf q) (p.length:Int)),(p.length:Int)))
 else some ((p,((bh .str p (bytesOf q)).getD 0))))).bind fun(v,v30)=>(if 0≤j∧j<(v20.length:Int)then(if j.toNat<v20.length then some (Sum.inl (v,(v20.set j.toNat v30),x,(i64.wrap (j+1))))else none)else none))))else none)
 else some (Sum.inr v20))
def iT(j:Int)(q:QK)(u:QZ)(v:QK):Option QK :=
 (if 0≤j∧j≤j∧8*j≤281474976710656∧j≤9223372036854775807 then((iter (ml j q u v) (([]:XQ),(List.replicate j.toNat (0:Int)),([]:QK),0)).bind fun p=>some p)else none)
theorem rn(q u v:Bool){z:Int}{A:QK}{B:QZ}{C D:QK}(h:iT z A B C=some D):
  Pure Tryz.prog 111 [.i64 z,.fn 113 [.fad true [.p q (.slice (.int .i64)) A] 0,.fad true [.p u (.slice (.slice (.int .i64))) B,.p v (.slice (.int .u32)) C] 0]] (aK (bd false [⟨(.slice (.int .i64)),D⟩])):=by
 refine PB Tryz.func111 (fun Bw w0=>?_);unfold iT at h;refine G (G (GC 1 h (fun h=>G (af (G (ak (cM h (fun(x,v20,E,j)=>aA [(1,.fn 113 [.fad true [.p q (.slice (.int .i64)) A] 0,.fad true [.p u (.slice (.slice (.int .i64))) B,.p v (.slice (.int .u32)) C] 0]),(5,.mp 0),(6,.sl 1),(7,.sl 2),(17,.i64 z),(18,.i64 j)] (I8 x v20 E) 3) 0 (fun I=>aA [(6,.sl 0)] [(0,.arr 3 (.int .i64) I)] 1) (gg [.nilS 7 72 3 (.int .i64)] [8,32,72]) (fun y o h=>?_) (fun I h=>?_))))))))
 ·obtain⟨x,v20,E,j⟩:=y;unfold ml at h;refine G (af (aC h (fun a5 h=>?_) (fun a5 h=>?_)))
  ·refine ae (ab (af (ak (G ?_))));obtain⟨a6,h⟩:=aD h;obtain⟨r8,q6,h⟩:=aj h;have J:=(qi q u v q6);refine GN ⟨[],[(4,(oO J [51]))]⟩ [(3,3,oc a6),(4,4,oc J)] (G (af (G (ak (cM h (fun(L,M)=>aA [(1,.fn 113 [.fad true [.p q (.slice (.int .i64)) A] 0,.fad true [.p u (.slice (.slice (.int .i64))) B,.p v (.slice (.int .u32)) C] 0]),(5,.mp 0),(6,.sl 1),(7,.sl 2),(8,.i64 j),(9,.sl 3),(17,.i64 z),(18,.i64 j),(26,.sl 2),(27,.i64 (r8.length:Int)),(28,.i64 M)] (JN x v20 r8 L) 4) 2 (fun N=>aA [(1,.fn 113 [.fad true [.p q (.slice (.int .i64)) A] 0,.fad true [.p u (.slice (.slice (.int .i64))) B,.p v (.slice (.int .u32)) C] 0]),(5,.mp 0),(6,.sl 1),(7,.sl 2),(8,.i64 j),(9,.sl 3),(17,.i64 z),(18,.i64 j)] (JN x v20 r8 N) 4) (gg [.nilS 9 107 5 (.int .u8)] [0,1,59,107]) (fun y o h=>?_) (fun N h=>?_))))))
   ·obtain⟨L,M⟩:=y;unfold ma at h;refine G (af (aC h (fun a7 h=>?_) (fun a7 h=>?_)))
    ·refine ae (ab (af (ak ?_)));obtain⟨O,V,h⟩:=g2 h;refine GN a0 [(0,0,oc O),(1,1,oc V)] ?_;obtain⟨X,Y,Z,a1,h⟩:=g4 h;refine bC a0 [(4,4,oc X),(7,7,oc Y),(10,10,oc Z),(13,13,oc a1)] (ay (ab (Ge ?_)));exact eB h (gg [] [0,1,2,140])
    refine av (aP ?_);exact eX h (gg [] [0,1,2,3])
   refine az (ab (G (af (G (bz h (fun(a2,v30)=>aA [(1,.fn 113 [.fad true [.p q (.slice (.int .i64)) A] 0,.fad true [.p u (.slice (.slice (.int .i64))) B,.p v (.slice (.int .u32)) C] 0]),(5,.mp 0),(6,.sl 1),(7,.sl 2),(8,.i64 j),(12,.i64 v30),(17,.i64 z),(18,.i64 j)] (I8 a2 v20 r8) 3) (fun r9 h=>?_) (fun r9 h=>?_))))))
   ·refine aC h (fun a8 h=>?_) (fun a8 h=>?_)
    ·refine G (Ge ?_);exact eN h (gg [] [0,1,2])
    exact ae (eN h (gg [] [0,1,2]))
   obtain⟨a2,v30⟩:=r9;refine ab ?_;obtain⟨a3,a4,h⟩:=g2 h;refine bC a0 [(3,3,oc a3),(4,4,oc a4)] (ay (ab (Ge ?_)));exact eB h (gg [] [0,1,2])
  refine av (aP ?_);exact eX h (gg [] [1])
 refine az (ab (G (aw ?_)));obtain rfl:=sI h;exact RI [(.slice (.int .i64))]
def pZ(p:QK):(Int×Int)→Option ((Int×Int)⊕(Int)):=fun(q,j) =>
 (if(decide (j<(p.length:Int)))=true then(if 0≤j∧j<(p.length:Int)then some (Sum.inl ((max q (p.getD j.toNat 0)),(i64.wrap (j+1))))else none)
 else some (Sum.inr q))
def jz(j:QK):Option (Int) :=
 ((iter (pZ j) (0,0)).bind fun p=>some p)
theorem mB(j:Bool){u:QK}{q:Int}(h:jz u=some q):
  Pure Tryz.prog 114 [.p j (.slice (.int .i64)) u] (aK (bd false [⟨(.int .i64),q⟩])):=by
 refine PB Tryz.func114 (fun Bw w0=>?_);unfold jz at h;refine G (G (af (G (ak (cM h (fun(v,x)=>aA [(3,.i64 v),(6,.p j (.slice (.int .i64)) u),(7,.i64 (u.length:Int)),(8,.i64 x)] [] 0) 0 (fun z=>aA [(3,.i64 z)] [] 0) (gg [] []) (fun y o h=>?_) (fun z h=>?_))))))
 ·obtain⟨v,x⟩:=y;unfold pZ at h;refine G (af (aC h (fun A h=>?_) (fun A h=>?_)))
  ·refine ae (ab (af (ak (GC 0 h (fun h=>Ge (ay (ab (Ge ?_))))))));exact eB h (gg [] [])
  refine av (aP ?_);exact eX h (gg [] [])
 refine az (ab (G (aw ?_)));obtain rfl:=sI h;exact RI [(.int .i64)]
def kr(p:Int):uZ→Option (uZ⊕QK):=fun(j,v4) =>
 (if(decide (v4<((List.replicate (i64.wrap (p+1)).toNat (0:Int)).length:Int)))=true then(if 0≤v4∧v4<(j.length:Int)then(if v4.toNat<j.length then some (Sum.inl ((j.set v4.toNat (-1:Int)),(i64.wrap (v4+1))))else none)else none)
 else some (Sum.inr j))
def kq(u:QZ)(v p:QK)(q:Int):(QK×QK×QK×Int)→Option ((QK×QK×QK×Int)⊕(QK×QK×QK)):=fun(x,z,B,j) =>
 (if(decide (j<((u.getD ((p.getD q.toNat 0).toNat) []).length:Int)))=true then(if 0≤j∧j<((u.getD ((p.getD q.toNat 0).toNat) []).length:Int)then(if 0≤((u.getD ((p.getD q.toNat 0).toNat) []).getD j.toNat 0)∧((u.getD ((p.getD q.toNat 0).toNat) []).getD j.toNat 0)<(v.length:Int)then(if 0≤(v.getD (((u.getD ((p.getD q.toNat 0).toNat) []).getD j.toNat 0).toNat) 0)∧(v.getD (((u.getD ((p.getD q.toNat 0).toNat) []).getD j.toNat 0).toNat) 0)<(x.length:Int)then(if(v.getD (((u.getD ((p.getD q.toNat 0).toNat) []).getD j.toNat 0).toNat) 0).toNat<x.length then(((if(decide ((x.getD ((v.getD (((u.getD ((p.getD q.toNat 0).toNat) []).getD j.toNat 0).toNat) 0).toNat) 0)<0))=true then(if 0≤((u.getD ((p.getD q.toNat 0).toNat) []).getD j.toNat 0)∧((u.getD ((p.getD q.toNat 0).toNat) []).getD j.toNat 0)<(v.length:Int)then(if 0≤(v.getD (((u.getD ((p.getD q.toNat 0).toNat) []).getD j.toNat 0).toNat) 0)∧(v.getD (((u.getD ((p.getD q.toNat 0).toNat) []).getD j.toNat 0).toNat) 0)<(x.length:Int)then(if(v.getD (((u.getD ((p.getD q.toNat 0).toNat) []).getD j.toNat 0).toNat) 0).toNat<x.length then(if(z.length+([((u.getD ((p.getD q.toNat 0).toNat) []).getD j.toNat 0)]:QK).length)*8≤140737488355328∧z.length+([((u.getD ((p.getD q.toNat 0).toNat) []).getD j.toNat 0)]:QK).length≤9223372036854775807 then some (((x.set ((v.getD (((u.getD ((p.getD q.toNat 0).toNat) []).getD j.toNat 0).toNat) 0).toNat) (z.length:Int)),(z++([((u.getD ((p.getD q.toNat 0).toNat) []).getD j.toNat 0)]:QK))))else none)else none)else none)else none)
 else some ((x,z)))).bind fun(A,C)=>(if 0≤((u.getD ((p.getD q.toNat 0).toNat) []).getD j.toNat 0)∧((u.getD ((p.getD q.toNat 0).toNat) []).getD j.toNat 0)<(v.length:Int)then(if 0≤(v.getD (((u.getD ((p.getD q.toNat 0).toNat) []).getD j.toNat 0).toNat) 0)∧(v.getD (((u.getD ((p.getD q.toNat 0).toNat) []).getD j.toNat 0).toNat) 0)<(A.length:Int)then(if(v.getD (((u.getD ((p.getD q.toNat 0).toNat) []).getD j.toNat 0).toNat) 0).toNat<A.length then(if(B.length+([(A.getD ((v.getD (((u.getD ((p.getD q.toNat 0).toNat) []).getD j.toNat 0).toNat) 0).toNat) 0)]:QK).length)*8≤140737488355328∧B.length+([(A.getD ((v.getD (((u.getD ((p.getD q.toNat 0).toNat) []).getD j.toNat 0).toNat) 0).toNat) 0)]:QK).length≤9223372036854775807 then some (Sum.inl (A,C,(B++([(A.getD ((v.getD (((u.getD ((p.getD q.toNat 0).toNat) []).getD j.toNat 0).toNat) 0).toNat) 0)]:QK)),(i64.wrap (j+1))))else none)else none)else none)else none))else none)else none)else none)else none)
 else some (Sum.inr (x,z,B)))
def kj(C:QZ)(z D:QK):(QZ×QK×QK×QK×Int)→Option ((QZ×QK×QK×QK×Int)⊕EC):=fun(u,v,A,q,j) =>
 (if(decide (j<(q.length:Int)))=true then(if 0≤j∧j<(q.length:Int)then(if j.toNat<q.length then(if 0≤(q.getD j.toNat 0)∧(q.getD j.toNat 0)<(C.length:Int)then((iter (kq C D q j) (A,q,([]:QK),0)).bind fun(B,p,x)=>(if(u.length+([x]:QZ).length)*24≤140737488355328∧u.length+([x]:QZ).length≤9223372036854775807 then(if 0≤j∧j<(p.length:Int)then(if j.toNat<p.length then(if 0≤(p.getD j.toNat 0)∧(p.getD j.toNat 0)<(z.length:Int)then(if(v.length+([(z.getD ((p.getD j.toNat 0).toNat) 0)]:QK).length)*4≤140737488355328∧v.length+([(z.getD ((p.getD j.toNat 0).toNat) 0)]:QK).length≤9223372036854775807 then some (Sum.inl ((u++([x]:QZ)),(v++([(z.getD ((p.getD j.toNat 0).toNat) 0)]:QK)),B,p,(i64.wrap (j+1))))else none)else none)else none)else none)else none))else none)else none)else none)
 else some (Sum.inr (u,v)))
def kP(x:QZ)(z j:QK):Option EC :=
 ((jz j).bind fun p =>
 (if 0≤(i64.wrap (p+1))∧(i64.wrap (p+1))≤(i64.wrap (p+1))∧8*(i64.wrap (p+1))≤281474976710656∧(i64.wrap (p+1))≤9223372036854775807 then((iter (kr p) ((List.replicate (i64.wrap (p+1)).toNat (0:Int)),0)).bind fun q=>(if 0≤(0:Int)∧0<(j.length:Int)then(if 0≤(j.getD ((0:Int).toNat) 0)∧(j.getD ((0:Int).toNat) 0)<(q.length:Int)then(if(j.getD ((0:Int).toNat) 0).toNat<q.length then((iter (kj x z j) (([]:QZ),([]:QK),(q.set ((j.getD ((0:Int).toNat) 0).toNat) 0),([0]:QK),0)).bind fun(u,v)=>some (u,v))else none)else none)else none))else none))
theorem uN(q v u:Bool){z:QZ}{D E:QK}{J:QZ×QK}(h:kP z D E=some J):
  Pure Tryz.prog 115 [.agg [.p q (.slice (.slice (.int .i64))) z,.p v (.slice (.int .u32)) D],.p u (.slice (.int .i64)) E] (aK (bd false [⟨CQ,J⟩])):=by
 refine PB Tryz.func115 (fun Bw w0=>?_);unfold kP at h;refine G (G ?_);obtain⟨r2,q2,h⟩:=aj h;obtain⟨c2,h⟩:=aD h;have L:=(mB u q2);refine GN ⟨[],[(1,(oP L))]⟩ [(1,1,oc L),(3,3,oc c2)] (af (G (ak (cM h (fun(v3,v4)=>aA [(1,.p u (.slice (.int .i64)) E),(2,.adr 0 0 2 0),(4,.adr 1 0 2 0),(5,.adr 2 0 2 0),(6,.sl 3),(18,.i64 ((List.replicate (i64.wrap (r2+1)).toNat (0:Int)).length:Int)),(19,.i64 v4)] (MA q z v D v3) 4) 0 (fun v5=>aA [(1,.p u (.slice (.int .i64)) E),(2,.adr 0 0 2 0),(4,.adr 1 0 2 0),(5,.adr 2 0 2 0),(6,.sl 3)] (MA q z v D v5) 4) (gg [] [0,8,16,48]) (fun y o h=>?_) (fun v5 h=>?_)))))
 ·obtain⟨v3,v4⟩:=y;unfold kr at h;refine G (af (aC h (fun B3 h=>?_) (fun B3 h=>?_)))
  ·refine ae (ab (af (ak (G ?_))));obtain⟨be,bi,h⟩:=g2 h;refine bC a0 [(2,2,oc be),(3,3,oc bi)] (ay (ab (Ge ?_)));exact eB h (gg [] [0,1,2,3])
  refine av (aP ?_);exact eX h (gg [] [0,1,2,3])
 refine az (ab (G ?_));obtain⟨bs,bv,bx,h⟩:=g3 h;refine GN a0 [(2,2,oc bs),(4,4,oc bv),(5,5,oc bx)] (af (G (ak (cM h (fun(A,B,M,x,j)=>aA [(1,.p u (.slice (.int .i64)) E),(2,.adr 0 0 2 0),(4,.adr 1 0 2 0),(5,.adr 2 0 2 0),(6,.sl 5),(8,.sl 6),(9,.i64 j)] (NA q z v D A B M x) 7) 2 (fun(N,O)=>aA [(4,.adr 0 0 2 0),(5,.adr 1 0 2 0)] (Mw N O) 4) (gg [.nilC 2 0 76 97 (.slice (.int .i64)),.nilC 2 1 77 131 (.int .u32)] [0,1,2,76,77,3,4]) (fun y o h=>?_) (fun c1 h=>?_)))))
 ·obtain⟨A,B,M,x,j⟩:=y;unfold kj at h;refine af (G (aC h (fun c3 h=>?_) (fun c3 h=>?_)))
  ·refine ae (ab (af (ak (G (af ?_)))));obtain⟨V,X,Y,h⟩:=g3 h;refine GD a0 [(4,4,oc V),(5,5,oc X),(6,6,oc Y)] (ak (cM h (fun(Z,a1,I,C)=>aA [(1,.p u (.slice (.int .i64)) E),(2,.adr 0 0 2 0),(4,.adr 1 0 2 0),(5,.adr 2 0 2 0),(6,.sl 5),(8,.sl 6),(9,.i64 j),(10,.sl 7),(45,.p q (.slice (.int .i64)) (z.getD ((x.getD j.toNat 0).toNat) [])),(46,.i64 ((z.getD ((x.getD j.toNat 0).toNat) []).length:Int)),(47,.i64 C)] (Kv q z v D A B Z a1 I) 8) 4 (fun(a2,a3,a4)=>aA [(1,.p u (.slice (.int .i64)) E),(2,.adr 0 0 2 0),(4,.adr 1 0 2 0),(5,.adr 2 0 2 0),(6,.sl 5),(8,.sl 6),(9,.i64 j),(10,.sl 7)] (Kv q z v D A B a2 a3 a4) 8) (gg [.nilS 10 127 3 (.int .i64)] [0,1,2,3,4,5,6,127]) (fun y o h=>?_) (fun c4 h=>?_)))
   ·obtain⟨Z,a1,I,C⟩:=y;unfold kq at h;refine G (af (aC h (fun c5 h=>?_) (fun c5 h=>?_)))
    ·refine ae (ab (af (ak (GC 0 h (fun h=>af ?_)))));obtain⟨a5,a6,a7,h⟩:=g3 h;refine GN a0 [(3,3,oc a5),(5,5,oc a6),(6,6,oc a7)] (bz h (fun(a8,a9)=>aA [(1,.p u (.slice (.int .i64)) E),(2,.adr 0 0 2 0),(4,.adr 1 0 2 0),(5,.adr 2 0 2 0),(6,.sl 5),(8,.sl 6),(9,.i64 j),(10,.sl 7),(12,.i64 ((z.getD ((x.getD j.toNat 0).toNat) []).getD C.toNat 0)),(45,.p q (.slice (.int .i64)) (z.getD ((x.getD j.toNat 0).toNat) [])),(46,.i64 ((z.getD ((x.getD j.toNat 0).toNat) []).length:Int)),(47,.i64 C)] (Kv q z v D A B a8 a9 I) 8) (fun aa h=>?_) (fun aa h=>?_))
     ·refine aC h (fun c6 h=>?_) (fun c6 h=>?_)
      ·obtain⟨ac,ad,ax,h⟩:=g3 h;refine GN a0 [(3,3,oc ac),(7,7,oc ad),(8,8,oc ax)] (xq 3 h (fun h=>?_));exact eN h (gg [] [0,1,2,3,4,5,200,7])
      exact ae (eN h (gg [] [0,1,2,3,4,5,6,7]))
     obtain⟨a8,a9⟩:=aa;refine ab ?_;obtain⟨b1,b2,b3,b4,h⟩:=g4 h;refine bC a0 [(4,4,oc b1),(6,6,oc b2),(7,7,oc b3),(9,9,oc b4)] (ay (ab (Ge ?_)));exact eB h (gg [] [0,1,2,3,4,5,6,80])
    refine av (aP ?_);exact eX h (gg [] [0,1,2,3,4,5,6,7])
   obtain⟨a2,a3,a4⟩:=c4;refine az (ab ?_);obtain⟨b5,b6,b7,b8,h⟩:=g4 h;obtain⟨b9,h⟩:=aD h;refine nf a0 [(4,4,oc b5),(11,11,oc b6),(12,12,oc b7),(13,13,oc b8),(16,16,oc b9)] (ay (ab (Ge ?_)));exact eB h (gg [] [0,1,2,40,136,5,6])
  refine av (aP ?_);exact eX h (gg [] [1,2,3,4])
 obtain⟨N,O⟩:=c1;refine az (ab (G (lS [.frzC 0 0,.frzC 0 1] (by kernel_rfl) (aw ?_))));obtain rfl:=sI h;exact RI [CQ]
def mz(v:QZ)(x:QK):QK→Option (QK⊕QK):=fun j =>
 ((iT (j.length:Int) j v x).bind fun p =>
 ((jz p).bind fun q =>
 ((jz j).bind fun u =>
 (if(q == u)=true then some (Sum.inr j)
 else some (Sum.inl p)))))
def lR(u:QZ)(p:QK):Option (EC×Int) :=
 ((l9 u p).bind fun v =>
 (if(!v)=true then some ((([]:QZ),([]:QK)),2)
 else((l8 (p.length:Int) u p).bind fun x =>
 ((iter (mz u p) x).bind fun j=>((kP u p j).bind fun q =>
 some ((q.1,q.2),0))))))
theorem qe(j q:Bool){B:QZ}{C:QK}{x:EC×Int}(h:lR B C=some x):
  Pure Tryz.prog 89 [.agg [.p j (.slice (.slice (.int .i64))) B,.p q (.slice (.int .u32)) C]] (aK (bd false [⟨CQ,x.1⟩,⟨(.int .i64),x.2⟩])):=by
 refine PB Tryz.func89 (fun Bw w0=>?_);unfold lR at h;refine G (af ?_);obtain⟨r2,L,h⟩:=aj h;refine GP 1 (xi j q L) (aC h (fun M h=>?_) (fun M h=>?_))
 ·refine G (aw (ah ?_));obtain rfl:=sI h;exact RI [CQ,(.int .i64)]
 refine ae (ab ?_);obtain⟨r4,N,h⟩:=aj h;refine GP 4 (wj j q N) (af (ak (cM h (fun u=>aA [(1,.adr 0 0 2 0),(2,.adr 1 0 2 0),(4,.adr 2 0 1 0)] (MJ j B q C u) 3) 0 (fun v=>aA [(1,.adr 0 0 2 0),(2,.adr 1 0 2 0),(4,.adr 2 0 1 0)] (MJ j B q C v) 3) (gg [] [0,8,88]) (fun u o h=>?_) (fun v h=>?_))))
 ·unfold mz at h;refine ak ?_;obtain⟨O,D,h⟩:=aj h;refine GP 3 (rn false j q D) (af ?_);obtain⟨V,E,h⟩:=aj h;obtain⟨X,I,h⟩:=aj h;have z:=(mB false E);have A:=(mB false I);refine GD ⟨[],[(1,(oP z)),(3,(oP A))]⟩ [(1,1,oc z),(3,3,oc A)] (aC h (fun Y h=>?_) (fun Y h=>?_))
  ·refine av (aP (jG rfl ?_));exact eX h (gg [] [0,1,2])
  refine ae (ab (Ge (ay ?_)));exact eB h (gg [] [0,1,2])
 refine az (ab ?_);obtain⟨Z,J,h⟩:=aj h;refine GP 2 (uN j q false J) (aw ?_);obtain rfl:=sI h;exact RI [CQ,(.int .i64)]
def ua(j:XJ):(XX×XX×Int)→Option ((XX×XX×Int)⊕(XX×XX)):=fun(v4,q,v6) =>
 (if(decide (v6<(j.length:Int)))=true then(if 0≤v6∧v6<(j.length:Int)then(if(v4.length+([(Tree.node (((j.getD v6.toNat (0,(Tree.node 0 0 []),(Tree.node 0 0 []))).2.1).op) (((j.getD v6.toNat (0,(Tree.node 0 0 []),(Tree.node 0 0 []))).2.1).set) (((j.getD v6.toNat (0,(Tree.node 0 0 []),(Tree.node 0 0 []))).2.1).kids))]:XX).length)*32≤140737488355328∧v4.length+([(Tree.node (((j.getD v6.toNat (0,(Tree.node 0 0 []),(Tree.node 0 0 []))).2.1).op) (((j.getD v6.toNat (0,(Tree.node 0 0 []),(Tree.node 0 0 []))).2.1).set) (((j.getD v6.toNat (0,(Tree.node 0 0 []),(Tree.node 0 0 []))).2.1).kids))]:XX).length≤9223372036854775807 then((kX 1000 (((j.getD v6.toNat (0,(Tree.node 0 0 []),(Tree.node 0 0 []))).2.2).op) (((j.getD v6.toNat (0,(Tree.node 0 0 []),(Tree.node 0 0 []))).2.2).set) (((j.getD v6.toNat (0,(Tree.node 0 0 []),(Tree.node 0 0 []))).2.2).kids)).bind fun p =>
 (if(q.length+([(Tree.node p.op p.set p.kids)]:XX).length)*32≤140737488355328∧q.length+([(Tree.node p.op p.set p.kids)]:XX).length≤9223372036854775807 then some (Sum.inl ((v4++([(Tree.node (((j.getD v6.toNat (0,(Tree.node 0 0 []),(Tree.node 0 0 []))).2.1).op) (((j.getD v6.toNat (0,(Tree.node 0 0 []),(Tree.node 0 0 []))).2.1).set) (((j.getD v6.toNat (0,(Tree.node 0 0 []),(Tree.node 0 0 []))).2.1).kids))]:XX)),(q++([(Tree.node p.op p.set p.kids)]:XX)),(i64.wrap (v6+1))))else none))else none)else none)
 else some (Sum.inr (v4,q)))
def rz(z:QQ)(B C:Int)(D:QK)(A:XJ):Option ((Option Z5)×Int) :=
 (if((z.length:Int) == 0)=true then some ((none:Option Z5),22)
 else((iter (ua A) (([]:XX),([]:XX),0)).bind fun(E,I)=>((mV E (z.length:Int)).bind fun(j,p) =>
 (if(p != 0)=true then some ((none:Option Z5),p)
 else((mV I (z.length:Int)).bind fun(q,u) =>
 (if(u != 0)=true then some ((none:Option Z5),u)
 else((lR j.1 j.2).bind fun(v,J) =>
 ((lR q.1 q.2).bind fun(x,L) =>
 some ((some ((z,B,C,D,A),(v.1,v.2),x.1,x.2):Option Z5),0)))))))))
theorem AH{v:QQ}{x z:Int}{A:QK}{q:XJ}{j:(Option Z5)×Int}(h:rz v x z A q=some j):
  Pure Tryz.prog 60 [.agg [.p false (.slice .str) v,.u32 x,.u32 z,.p false (.slice (.int .i64)) A,.p false (.slice (.prod (.int .u8) Y8)) q]] (aK (bd false [⟨(.ptr mQ),j.1⟩,⟨(.int .i64),j.2⟩])):=by
 refine PB Tryz.func60 (fun Bw w0=>?_);unfold rz at h;refine G (af (G (aC h (fun N h=>?_) (fun N h=>?_))))
 ·refine G (aw (ah ?_));obtain rfl:=sI h;exact RI [(.ptr mQ),(.int .i64)]
 refine ae (ab (G (af (G (ak (cM h (fun(v4,J,v6)=>aA [(1,.adr 0 0 5 0),(4,.sl 1),(5,.sl 2),(17,.p false (.slice (.prod (.int .u8) Y8)) q),(18,.i64 (q.length:Int)),(19,.i64 v6)] (Ma v x z A q v4 J) 3) 0 (fun(L,M)=>aA [(1,.adr 0 0 5 0),(4,.sl 1),(5,.sl 2)] (Ma v x z A q L M) 3) (gg [.nilS 4 104 146 (.tree .u8 .u32),.nilS 5 105 146 (.tree .u8 .u32)] [0,104,105]) (fun y o h=>?_) (fun O h=>?_)))))))
 ·obtain⟨v4,J,v6⟩:=y;unfold ua at h;refine G (af (aC h (fun V h=>?_) (fun V h=>?_)))
  ·refine ae (ab (af (ak (GC 0 h (fun h=>?_)))));obtain⟨B,h⟩:=aD h;obtain⟨r6,X,h⟩:=aj h;obtain⟨C,h⟩:=aD h;have u:=(rE 1000 false X);refine nf ⟨[],[(8,(oP u))]⟩ [(4,4,oc B),(8,8,oc u),(10,10,oc C)] (ay (ab (Ge ?_)));exact eB h (gg [] [0,75,123])
  refine av (aP ?_);exact eX h (gg [] [0,1,2])
 obtain⟨L,M⟩:=O;refine az (ab ?_);obtain⟨⟨Y,Z⟩,q8,h⟩:=aj h;refine GP 4 (sF true q8) (af (G (aC h (fun B5 h=>?_) (fun B5 h=>?_))))
 ·refine G (aw (ah ?_));obtain rfl:=sI h;exact RI [(.ptr mQ),(.int .i64)]
 refine ae (ab ?_);obtain⟨⟨a1,a2⟩,D,h⟩:=aj h;refine GP 4 (sF true D) (af (G (aC h (fun B6 h=>?_) (fun B6 h=>?_))))
 ·refine G (aw (ah ?_));obtain rfl:=sI h;exact RI [(.ptr mQ),(.int .i64)]
 refine ae (ab (G ?_));obtain⟨⟨a3,a4⟩,E,h⟩:=aj h;refine GP 2 (qe false false E) ?_;obtain⟨⟨a5,a6⟩,I,h⟩:=aj h;refine GP 2 (qe false false I) (G (aw ?_));obtain rfl:=sI h;exact RI [(.ptr mQ),(.int .i64)]
def iX(j:QX):Option ((Option Z5)×Int×Int) :=
 ((jZ j).bind fun(p,q) =>
 (if(q.1 != 0)=true then some ((none:Option Z5),q.1,q.2)
 else((rz p.1 p.2.1 p.2.2.1 p.2.2.2.1 p.2.2.2.2).bind fun(u,v) =>
 some (u,v,0))))
theorem ui{j:QX}{p:(Option Z5)×Int×Int}(h:iX j=some p):
  Pure Tryz.prog 36 [.st j] (aK (bd false [⟨(.ptr mQ),p.1⟩,⟨Y2,p.2⟩])):=by
 refine PB Tryz.func36 (fun Bw w0=>?_);unfold iX at h;refine G ?_;obtain⟨⟨x,z⟩,q,h⟩:=aj h;refine GP 1 (xp q) (af (G (aC h (fun u h=>?_) (fun u h=>?_))))
 ·refine GD a0 [] (aw (ah ?_));obtain rfl:=sI h;exact RI [(.ptr mQ),Y2]
 refine ae (ab ?_);obtain⟨⟨A,B⟩,v,h⟩:=aj h;refine GP 1 (AH v) (G (aw ?_));obtain rfl:=sI h;exact RI [(.ptr mQ),Y2]
def cr(j:Option Z5):Option (Int) :=
 (if j.isNone=true then some 0
 else(if j.isSome=true then some (((j.getD (Ty.zero mQ)).1.1).length:Int)else none))
theorem ji(q:Bool){u:Option Z5}{j:Int}(h:cr u=some j):
  Pure Tryz.prog 37 [.p q (.ptr mQ) u] (aK (bd false [⟨(.int .i64),j⟩])):=by
 refine PB Tryz.func37 (fun Bw w0=>?_);unfold cr at h;refine G (af (GN a0 [(1,1,⟨∃e,Tryz.prog.underlying 91=some (.pointer e),⟨_,rfl⟩⟩)] (aC h (fun v h=>?_) (fun v h=>?_))))
 ·refine G (aw (ah ?_));obtain rfl:=sI h;exact RI [(.int .i64)]
 refine ae (ab (GC 1 h (fun h=>aw ?_)));obtain rfl:=sI h;exact RI [(.int .i64)]
def dU(j:XK)(p:Int):(Int×Int)→Option ((Int×Int)⊕((Unit)⊕(Bool))):=fun(q,v4) =>
 (if(decide (v4<(j.length:Int)))=true then(if 0≤v4∧v4<(j.length:Int)then(((if(decide (((j.getD v4.toNat (0,0,0)).1)≤q))=true then some (true)
 else(if(decide (((j.getD v4.toNat (0,0,0)).2.1)<((j.getD v4.toNat (0,0,0)).1)))=true then some (true)
 else(if(decide (((j.getD v4.toNat (0,0,0)).2.1) > 1114111))=true then some (true)
 else(if(decide (((j.getD v4.toNat (0,0,0)).2.2)<0))=true then some (true)
 else(if(decide (((j.getD v4.toNat (0,0,0)).2.2)≥p))=true then some (true)
 else some ((decide (((j.getD v4.toNat (0,0,0)).2.2) > 255))))))))).bind fun u=>(if u=true then some (Sum.inr (Sum.inr false))
 else some (Sum.inl ((j.getD v4.toNat (0,0,0)).2.1,(i64.wrap (v4+1))))))else none)
 else some (Sum.inr (Sum.inl ())))
def lG(p:XK)(j:Int):Option (Bool) :=
 (if(decide ((p.length:Int) > 256))=true then some false
 else((iter (dU p j) ((-1:Int),0)).bind fun(q:((Unit)⊕(Bool)))=>match q with
 | .inl _=>some true
 | .inr (u)=>some u))
theorem xW(C:Bool){A:XK}{u:Int}{D:Bool}(h:lG A u=some D):
  Pure Tryz.prog 61 [.p C (.slice (.prod (.int .i32) Y1)) A,.i64 u] (aK (bd false [⟨.bool,D⟩])):=by
 refine PB Tryz.func61 (fun Bw w0=>?_);unfold lG at h;refine G (af (G (aC h (fun O h=>?_) (fun O h=>?_))))
 ·refine G (aw (ah ?_));obtain rfl:=sI h;exact RI [.bool]
 refine ae (ab (G (af (G (ak (kg h (fun(z,v4)=>aA [(1,.i64 u),(5,.i32 z),(11,.p C (.slice (.prod (.int .i32) Y1)) A),(12,.i64 (A.length:Int)),(13,.i64 v4)] [] 0) (dy (fj Tryz.f61.ntmps 0 (fun _=>aA [] [] 0)) (gr tb Tryz.f61.results.toList (fun M=>[⟨.bool,M⟩]))) (gg [] []) (fun y o h=>?_) (fun V h e σ' N=>?_)))))))
 ·obtain⟨z,v4⟩:=y;unfold dU at h;refine G (af (aC h (fun E h=>?_) (fun E h=>?_)))
  ·refine ae (ab (af (ak (GC 0 h (fun h=>af (af (bz h (fun I=>aA [(1,.i64 u),(7,.adr 0 0 3 0),(11,.p C (.slice (.prod (.int .i32) Y1)) A),(12,.i64 (A.length:Int)),(13,.i64 v4),(48,.bo I)] [(0,.box [.i32 ((A.getD v4.toNat (0,0,0)).1),.i32 ((A.getD v4.toNat (0,0,0)).2.1),.i64 ((A.getD v4.toNat (0,0,0)).2.2)])] 1) (fun I h=>?_) (fun I h=>?_))))))))
   ·rcases aM h with⟨j,h⟩ | ⟨j,h⟩
    ·exact bC ⟨[(4,true),(10,true)],[]⟩ [(5,10,oc j)] (eN h (gg [] [24]))
    rcases aM h with⟨q,h⟩ | ⟨q,h⟩
    ·exact bC ⟨[(4,false),(10,false),(11,true),(15,true)],[]⟩ [(5,9,an j),(10,10,oc j),(12,15,oc q)] (eN h (gg [] [24]))
    rcases aM h with⟨v,h⟩ | ⟨v,h⟩
    ·exact bC ⟨[(4,false),(10,false),(11,false),(15,false),(16,true),(20,true)],[]⟩ [(5,9,an j),(10,10,oc j),(12,14,an q),(15,15,oc q),(17,20,oc v)] (eN h (gg [] [24]))
    rcases aM h with⟨x,h⟩ | ⟨x,h⟩
    ·exact bC ⟨[(4,false),(10,false),(11,false),(15,false),(16,false),(20,false),(21,true),(26,true)],[]⟩ [(5,9,an j),(10,10,oc j),(12,14,an q),(15,15,oc q),(17,19,an v),(20,20,oc v),(22,26,oc x)] (eN h (gg [] [24]))
    rcases aM h with⟨B,h⟩ | ⟨B,h⟩
    ·exact bC ⟨[(4,false),(10,false),(11,false),(15,false),(16,false),(20,false),(21,false),(26,false),(27,true),(31,true)],[]⟩ [(5,9,an j),(10,10,oc j),(12,14,an q),(15,15,oc q),(17,19,an v),(20,20,oc v),(22,25,an x),(26,26,oc x),(28,31,oc B)] (eN h (gg [] [24]))
    exact bC ⟨[(4,false),(10,false),(11,false),(15,false),(16,false),(20,false),(21,false),(26,false),(27,false),(31,false)],[]⟩ [(5,9,an j),(10,10,oc j),(12,14,an q),(15,15,oc q),(17,19,an v),(20,20,oc v),(22,25,an x),(26,26,oc x),(28,30,an B),(31,31,oc B)] (eN h (gg [] [24]))
   refine ab (aC h (fun J h=>?_) (fun J h=>?_))
   ·refine G (aw ?_);obtain rfl:=sI h;refine ah (au (ah (bK (aL ?_))));exact bH (RI [.bool])
   refine ae (ab (Ge (ay (ab (Ge ?_)))));exact eB h (gg [] [])
  refine av (aP ?_);obtain rfl:=sI h;refine dL (bk ?_);exact bS (gg [] [])
 rcases V with _ | M
 ·obtain⟨rfl,L⟩:=N;refine cF ?_ L;refine az (ab (G (aw ?_)));obtain rfl:=sI h;exact RI [.bool]
 obtain⟨rfl,X⟩:=N;refine au (ah ?_);obtain rfl:=sI h;exact X
def gK(p:XK)(q:Int):(Int)→Option ((Int)⊕(Int)):=fun j =>
 (((if(decide (j<(p.length:Int)))=true then(if 0≤j∧j<(p.length:Int)then some ((decide (((p.getD j.toNat (0,0,0)).2.1)<(i32.wrap ((i32.wrap q)*2 ^ (min (8:Int).toNat i32.bits))))))else none)
 else some (false))).bind fun u=>(if u=true then some (Sum.inl (i64.wrap (j+1)))
 else some (Sum.inr j)))
def iZ(u:XK)(v p:Int):((fh 256)×Int)→Option (((fh 256)×Int)⊕(fh 256)):=fun(q,j) =>
 (if 0≤p∧p<(u.length:Int)then(if(decide (j≤(min ((u.getD p.toNat (0,0,0)).2.1) (i32.wrap ((i32.wrap ((i32.wrap v)*2 ^ (min (8:Int).toNat i32.bits)))+255)))))=true then(if 0≤p∧p<(u.length:Int)then(if 0≤(bitsOf .and .i32 j 255)∧(bitsOf .and .i32 j 255)<((256:Nat):Int)then some (Sum.inl ((rW q ((bitsOf .and .i32 j 255).toNat) (u8.wrap ((u.getD p.toNat (0,0,0)).2.2))),(i32.wrap (j+1))))else none)else none)
 else some (Sum.inr q))else none)
def gL(q:XK)(p:Int):((fh 256)×Int)→Option (((fh 256)×Int)⊕(fh 256)):=fun(u,j) =>
 (((if(decide (j<(q.length:Int)))=true then(if 0≤j∧j<(q.length:Int)then some ((decide (((q.getD j.toNat (0,0,0)).1)≤(i32.wrap ((i32.wrap ((i32.wrap p)*2 ^ (min (8:Int).toNat i32.bits)))+255)))))else none)
 else some (false))).bind fun v=>(if v=true then(if 0≤j∧j<(q.length:Int)then((iter (iZ q p j) (u,(max ((q.getD j.toNat (0,0,0)).1) (i32.wrap ((i32.wrap p)*2 ^ (min (8:Int).toNat i32.bits)))))).bind fun x=>some (Sum.inl (x,(i64.wrap (j+1)))))else none)
 else some (Sum.inr u)))
def fJ(D:XK):((fh 4352)×(List (fh 256))×(List ((fh 256)×Int))×Int×Int)→Option (((fh 4352)×(List (fh 256))×(List ((fh 256)×Int))×Int×Int)⊕zr):=fun(v,j,u,C,p) =>
 (if(decide (p<4352))=true then(if 0≤(8:Int)then(if 0≤(8:Int)then((iter (gK D p) C).bind fun x=>((iter (gL D p) ((dx 256),x)).bind fun q=>(if(IJ q (dx 256))=true then some (Sum.inl (v,j,u,x,(i64.wrap (p+1))))
 else(((if(!((bh (.arr .u8 256) u q).isSome))=true then(if(j.length+([q]:List (fh 256)).length)*256≤140737488355328∧j.length+([q]:List (fh 256)).length≤9223372036854775807 then some (((j++([q]:List (fh 256))),(cN (.arr .u8 256) u q (j.length:Int)),(j.length:Int)))else none)
 else some ((j,u,((bh (.arr .u8 256) u q).getD 0))))).bind fun(z,A,B)=>(if 0≤p∧p<((4352:Nat):Int)then some (Sum.inl ((rW v p.toNat B),z,A,x,(i64.wrap (p+1))))else none)))))else none)else none)
 else some (Sum.inr (v,j)))
def fW(q:XK)(u:Int):Option ((Option zr)×Int) :=
 ((lG q u).bind fun v =>
 (if(!v)=true then some ((none:Option zr),10)
 else(if 0≤(1:Int)∧(1:Int)≤1∧256*(1:Int)≤281474976710656∧(1:Int)≤9223372036854775807 then((iter (fJ q) ((dx 4352),(List.replicate (1:Int).toNat (dx 256)),([]:List ((fh 256)×Int)),0,0)).bind fun(j,p)=>some ((some (j,p):Option zr),0))else none)))
theorem nJ(q:Bool){C:XK}{i1:Int}{V:(Option zr)×Int}(h:fW C i1=some V):
  Pure Tryz.prog 38 [.p q (.slice (.prod (.int .i32) Y1)) C,.i64 i1] (aK (bd false [⟨(.ptr vU),V.1⟩,⟨(.int .i64),V.2⟩])):=by
 refine PB Tryz.func38 (fun Bw w0=>?_);unfold fW at h;refine G (af ?_);obtain⟨r2,q2,h⟩:=aj h;refine GP 2 (xW q q2) (aC h (fun B1 h=>?_) (fun B1 h=>?_))
 ·refine G (aw (ah ?_));obtain rfl:=sI h;exact RI [(.ptr vU),(.int .i64)]
 refine ae (ab (GC 0 h (fun h=>GN a0 [(0,0,oc DY)] (G (af (G (ak (cM h (fun(u,v,x,a1,j)=>aA [(0,.p q (.slice (.prod (.int .i32) Y1)) C),(6,.adr 0 0 4353 0),(7,.mp 2),(8,.i64 a1),(25,.i64 j)] (L3 u v x) 3) 0 (fun(a2,a3)=>aA [(6,.adr 0 0 4353 0)] (M9 a2 a3) 2) (gg [] [64,48,80]) (fun y o h=>?_) (fun r6 h=>?_)))))))))
 ·obtain⟨u,v,x,a1,j⟩:=y;unfold fJ at h;refine G (af (aC h (fun b3 h=>?_) (fun b3 h=>?_)))
  ·refine ae (ab (af (ak (G ?_))));obtain⟨a4,a5,h⟩:=g2 h;refine GN a0 [(2,2,oc a4),(5,5,oc a5)] (G (af (ak ?_)));refine cM h (fun X=>aA [(0,.p q (.slice (.prod (.int .i32) Y1)) C),(6,.adr 0 0 4353 0),(7,.mp 2),(8,.i64 X),(9,.i64 j),(10,.i32 (i32.wrap ((i32.wrap j)*2 ^ (min (8:Int).toNat i32.bits)))),(11,.i32 (i32.wrap ((i32.wrap ((i32.wrap j)*2 ^ (min (8:Int).toNat i32.bits)))+255))),(12,.adr 3 0 256 0),(25,.i64 j)] (Au u v x (dx 256)) 4) 2 (fun A=>aA [(0,.p q (.slice (.prod (.int .i32) Y1)) C),(6,.adr 0 0 4353 0),(7,.mp 2),(8,.i64 A),(9,.i64 j),(10,.i32 (i32.wrap ((i32.wrap j)*2 ^ (min (8:Int).toNat i32.bits)))),(11,.i32 (i32.wrap ((i32.wrap ((i32.wrap j)*2 ^ (min (8:Int).toNat i32.bits)))+255))),(12,.adr 3 0 256 0),(25,.i64 j)] (Au u v x (dx 256)) 4) (gg [] [0,1,2,99]) (fun X o h=>?_) (fun A h=>?_)
   ·unfold gK at h;refine af (af (bz h (fun Y=>aA [(0,.p q (.slice (.prod (.int .i32) Y1)) C),(6,.adr 0 0 4353 0),(7,.mp 2),(8,.i64 X),(9,.i64 j),(10,.i32 (i32.wrap ((i32.wrap j)*2 ^ (min (8:Int).toNat i32.bits)))),(11,.i32 (i32.wrap ((i32.wrap ((i32.wrap j)*2 ^ (min (8:Int).toNat i32.bits)))+255))),(12,.adr 3 0 256 0),(25,.i64 j),(47,.bo Y)] (Au u v x (dx 256)) 4) (fun Y h=>?_) (fun Y h=>?_)))
    ·rcases aM h with⟨B,h⟩ | ⟨B,h⟩
     ·obtain⟨a6,h⟩:=aD h;exact bC ⟨[(4,true),(12,true)],[]⟩ [(5,6,an B),(7,7,oc (And.intro B a6)),(8,11,an B),(12,12,oc B)] (eN h (gg [] [0,1,2,3]))
     exact bC ⟨[(4,false),(12,false)],[]⟩ [(5,12,oc B)] (eN h (gg [] [0,1,2,3]))
    refine ab (aC h (fun b4 h=>?_) (fun b4 h=>?_))
    ·refine ae (ab (ak (Ge (ay ?_))));exact eB h (gg [] [0,1,2,3])
    refine av (aP ?_);exact eX h (gg [] [0,1,2,3])
   refine az (ab (af (G (ak (cM h (fun(Z,D)=>aA [(0,.p q (.slice (.prod (.int .i32) Y1)) C),(6,.adr 0 0 4353 0),(7,.mp 2),(8,.i64 A),(9,.i64 j),(10,.i32 (i32.wrap ((i32.wrap j)*2 ^ (min (8:Int).toNat i32.bits)))),(11,.i32 (i32.wrap ((i32.wrap ((i32.wrap j)*2 ^ (min (8:Int).toNat i32.bits)))+255))),(12,.adr 3 0 256 0),(13,.i64 D),(25,.i64 j)] (Au u v x Z) 4) 4 (fun a7=>aA [(0,.p q (.slice (.prod (.int .i32) Y1)) C),(6,.adr 0 0 4353 0),(7,.mp 2),(8,.i64 A),(9,.i64 j),(12,.adr 3 0 256 0),(25,.i64 j)] (Au u v x a7) 4) (gg [] [0,1,2,3]) (fun y o h=>?_) (fun a7 h=>?_))))))
   ·obtain⟨Z,D⟩:=y;unfold gL at h;refine af (af (bz h (fun E=>aA [(0,.p q (.slice (.prod (.int .i32) Y1)) C),(6,.adr 0 0 4353 0),(7,.mp 2),(8,.i64 A),(9,.i64 j),(10,.i32 (i32.wrap ((i32.wrap j)*2 ^ (min (8:Int).toNat i32.bits)))),(11,.i32 (i32.wrap ((i32.wrap ((i32.wrap j)*2 ^ (min (8:Int).toNat i32.bits)))+255))),(12,.adr 3 0 256 0),(13,.i64 D),(25,.i64 j),(63,.bo E)] (Au u v x Z) 4) (fun E h=>?_) (fun E h=>?_)))
    ·rcases aM h with⟨z,h⟩ | ⟨z,h⟩
     ·obtain⟨a8,h⟩:=aD h;exact bC ⟨[(4,true),(12,true)],[]⟩ [(5,6,an z),(7,7,oc (And.intro z a8)),(8,11,an z),(12,12,oc z)] (eN h (gg [] [0,1,2,3]))
     exact bC ⟨[(4,false),(12,false)],[]⟩ [(5,12,oc z)] (eN h (gg [] [0,1,2,3]))
    refine ab (aC h (fun a9 h=>?_) (fun a9 h=>?_))
    ·refine ae (ab (af (ak (GC 2 h (fun h=>ak ?_)))));refine cM h (fun(I,J)=>aA [(0,.p q (.slice (.prod (.int .i32) Y1)) C),(6,.adr 0 0 4353 0),(7,.mp 2),(8,.i64 A),(9,.i64 j),(10,.i32 (i32.wrap ((i32.wrap j)*2 ^ (min (8:Int).toNat i32.bits)))),(11,.i32 (i32.wrap ((i32.wrap ((i32.wrap j)*2 ^ (min (8:Int).toNat i32.bits)))+255))),(12,.adr 3 0 256 0),(13,.i64 D),(14,.i32 J),(25,.i64 j)] (Au u v x I) 4) 6 (fun L=>aA [(0,.p q (.slice (.prod (.int .i32) Y1)) C),(6,.adr 0 0 4353 0),(7,.mp 2),(8,.i64 A),(9,.i64 j),(10,.i32 (i32.wrap ((i32.wrap j)*2 ^ (min (8:Int).toNat i32.bits)))),(11,.i32 (i32.wrap ((i32.wrap ((i32.wrap j)*2 ^ (min (8:Int).toNat i32.bits)))+255))),(12,.adr 3 0 256 0),(13,.i64 D),(25,.i64 j)] (Au u v x L) 4) (gg [] [0,1,2,3]) (fun y o h=>?_) (fun L h=>?_)
     ·obtain⟨I,J⟩:=y;unfold iZ at h;refine af (GC 3 h (fun h=>aC h (fun aa h=>?_) (fun aa h=>?_)))
      ·refine ae (ab (af (ak ?_)));obtain⟨ac,ad,h⟩:=g2 h;refine bC a0 [(4,4,oc ac),(8,8,oc ad)] (ay (ab (Ge ?_)));exact eB h (gg [] [0,1,2,3])
      refine av (aP ?_);exact eX h (gg [] [0,1,2,3])
     refine az (ay (ab (Ge ?_)));exact eB h (gg [] [0,1,2,3])
    refine av (aP ?_);exact eX h (gg [] [0,1,2,3])
   refine az (ab (af (GN a0 [(2,2,⟨Tryz.prog.eqGuardType Tryz.prog.depth 169=false,(by kernel_rfl)⟩)] (aC h (fun ax h=>?_) (fun ax h=>?_)))))
   ·refine av (aP (az (ab (Ge ?_))));exact eB h (gg [] [0,1,2])
   refine ae (ab (GN a0 [(2,2,oc DY)] (af (G (bz h (fun(M,N,O)=>aA [(0,.p q (.slice (.prod (.int .i32) Y1)) C),(6,.adr 0 0 4353 0),(7,.mp 2),(8,.i64 A),(9,.i64 j),(15,.i64 O),(25,.i64 j)] (L3 u M N) 3) (fun r5 h=>?_) (fun r5 h=>?_))))))
   ·refine aC h (fun b1 h=>?_) (fun b1 h=>?_)
    ·refine G ?_;obtain⟨b2,h⟩:=aD h;refine GD a0 [(7,7,oc b2)] (bC a0 [(3,3,oc DY)] ?_);exact eN h (gg [] [0,212,2])
    exact ae (eN h (gg [] [0,1,2]))
   obtain⟨M,N,O⟩:=r5;refine ab (xq 5 h (fun h=>ay (ab (Ge ?_))));exact eB h (gg [] [0,1,2])
  refine av (aP ?_);exact eX h (gg [] [0,1])
 obtain⟨a2,a3⟩:=r6;refine az (ab (G (lS [.frzL 0 0] (by kernel_rfl) (aw ?_))));obtain rfl:=sI h;exact RI [(.ptr vU),(.int .i64)]
def pX(j:XK):(Int×Int)→Option ((Int×Int)⊕((Unit)⊕(Bool))):=fun(p,v4) =>
 (if(decide (v4<(j.length:Int)))=true then(if 0≤v4∧v4<(j.length:Int)then(((if(decide (((j.getD v4.toNat (0,0,0)).1)≤p))=true then some (true)
 else(if(decide (((j.getD v4.toNat (0,0,0)).2.1)<((j.getD v4.toNat (0,0,0)).1)))=true then some (true)
 else(if(decide (((j.getD v4.toNat (0,0,0)).2.1) > 1114111))=true then some (true)
 else(if(decide (((j.getD v4.toNat (0,0,0)).2.2)<0))=true then some (true)
 else some ((decide (((j.getD v4.toNat (0,0,0)).2.2) > (i64.wrap (1114111 - (i64.wrap (i32.wrap (((j.getD v4.toNat (0,0,0)).2.1) - ((j.getD v4.toNat (0,0,0)).1)))))))))))))).bind fun q=>(if q=true then some (Sum.inr (Sum.inr false))
 else some (Sum.inl ((j.getD v4.toNat (0,0,0)).2.1,(i64.wrap (v4+1))))))else none)
 else some (Sum.inr (Sum.inl ())))
def nL(j:XK):Option (Bool) :=
 (if(decide ((j.length:Int) > 256))=true then some false
 else((iter (pX j) ((-1:Int),0)).bind fun(p:((Unit)⊕(Bool)))=>match p with
 | .inl _=>some true
 | .inr (q)=>some q))
theorem xE(A:Bool){x:XK}{B:Bool}(h:nL x=some B):
  Pure Tryz.prog 62 [.p A (.slice (.prod (.int .i32) Y1)) x] (aK (bd false [⟨.bool,B⟩])):=by
 refine PB Tryz.func62 (fun Bw w0=>?_);unfold nL at h;refine G (af (G (aC h (fun M h=>?_) (fun M h=>?_))))
 ·refine G (aw (ah ?_));obtain rfl:=sI h;exact RI [.bool]
 refine ae (ab (G (af (G (ak (kg h (fun(v,v4)=>aA [(3,.i32 v),(9,.p A (.slice (.prod (.int .i32) Y1)) x),(10,.i64 (x.length:Int)),(11,.i64 v4)] [] 0) (dy (fj Tryz.f62.ntmps 0 (fun _=>aA [] [] 0)) (gr tb Tryz.f62.results.toList (fun J=>[⟨.bool,J⟩]))) (gg [] []) (fun y o h=>?_) (fun N h e σ' L=>?_)))))))
 ·obtain⟨v,v4⟩:=y;unfold pX at h;refine G (af (aC h (fun C h=>?_) (fun C h=>?_)))
  ·refine ae (ab (af (ak (GC 0 h (fun h=>af (af (bz h (fun D=>aA [(5,.adr 0 0 3 0),(9,.p A (.slice (.prod (.int .i32) Y1)) x),(10,.i64 (x.length:Int)),(11,.i64 v4),(47,.bo D)] [(0,.box [.i32 ((x.getD v4.toNat (0,0,0)).1),.i32 ((x.getD v4.toNat (0,0,0)).2.1),.i64 ((x.getD v4.toNat (0,0,0)).2.2)])] 1) (fun D h=>?_) (fun D h=>?_))))))))
   ·rcases aM h with⟨j,h⟩ | ⟨j,h⟩
    ·exact bC ⟨[(4,true),(10,true)],[]⟩ [(5,10,oc j)] (eN h (gg [] [24]))
    rcases aM h with⟨q,h⟩ | ⟨q,h⟩
    ·exact bC ⟨[(4,false),(10,false),(11,true),(15,true)],[]⟩ [(5,9,an j),(10,10,oc j),(12,15,oc q)] (eN h (gg [] [24]))
    rcases aM h with⟨u,h⟩ | ⟨u,h⟩
    ·exact bC ⟨[(4,false),(10,false),(11,false),(15,false),(16,true),(20,true)],[]⟩ [(5,9,an j),(10,10,oc j),(12,14,an q),(15,15,oc q),(17,20,oc u)] (eN h (gg [] [24]))
    rcases aM h with⟨z,h⟩ | ⟨z,h⟩
    ·exact bC ⟨[(4,false),(10,false),(11,false),(15,false),(16,false),(20,false),(21,true),(32,true)],[]⟩ [(5,9,an j),(10,10,oc j),(12,14,an q),(15,15,oc q),(17,19,an u),(20,20,oc u),(22,32,oc z)] (eN h (gg [] [24]))
    exact bC ⟨[(4,false),(10,false),(11,false),(15,false),(16,false),(20,false),(21,false),(32,false)],[]⟩ [(5,9,an j),(10,10,oc j),(12,14,an q),(15,15,oc q),(17,19,an u),(20,20,oc u),(22,31,an z),(32,32,oc z)] (eN h (gg [] [24]))
   refine ab (aC h (fun E h=>?_) (fun E h=>?_))
   ·refine G (aw ?_);obtain rfl:=sI h;refine ah (au (ah (bK (aL ?_))));exact bH (RI [.bool])
   refine ae (ab (Ge (ay (ab (Ge ?_)))));exact eB h (gg [] [])
  refine av (aP ?_);obtain rfl:=sI h;refine dL (bk ?_);exact bS (gg [] [])
 rcases N with _ | J
 ·obtain⟨rfl,I⟩:=L;refine cF ?_ I;refine az (ab (G (aw ?_)));obtain rfl:=sI h;exact RI [.bool]
 obtain⟨rfl,O⟩:=L;refine au (ah ?_);obtain rfl:=sI h;exact O
def mX(j:Int):Option Z7 :=
 (if(decide (j<128))=true then some (1,0,0)
 else(((if(decide (j<194))=true then some (true)
 else some ((decide (j > 244))))).bind fun v1=>(if v1=true then some (0,0,0)
 else(if(decide (j<224))=true then some (2,128,191)
 else(if(j == 224)=true then some (3,160,191)
 else(if(j == 237)=true then some (3,128,159)
 else(if(decide (j<240))=true then some (3,128,191)
 else(if(j == 240)=true then some (4,144,191)
 else(if(j == 244)=true then some (4,128,143)
 else some (4,128,191))))))))))
theorem za{q:Int}{j:Int×Int×Int}(h:mX q=some j):
  Pure Tryz.prog 72 [.u8 q] (aK (bd false [⟨(.int .i64),j.1⟩,⟨(.int .u8),j.2.1⟩,⟨(.int .u8),j.2.2⟩])):=by
 refine PB Tryz.func72 (fun Bw w0=>?_);unfold mX at h;refine G (af (ak (G (aC h (fun x h=>?_) (fun x h=>?_)))))
 ·refine G (aw (au (ah ?_)));obtain rfl:=sI h;exact RI [(.int .i64),(.int .u8),(.int .u8)]
 refine af (bz h (fun v1=>aA [(0,.u8 q),(8,.bo v1)] [] 0) (fun v1 h=>?_) (fun v1 h=>?_))
 ·rcases aM h with⟨p,h⟩ | ⟨p,h⟩
  ·exact bC ⟨[(2,true),(5,true)],[]⟩ [(3,5,oc p)] (eN h (gg [] []))
  exact bC ⟨[(2,false),(5,false)],[]⟩ [(3,4,an p),(5,5,oc p)] (eN h (gg [] []))
 refine ab (aC h (fun z h=>?_) (fun z h=>?_))
 ·refine G (aw (au (ah ?_)));obtain rfl:=sI h;exact RI [(.int .i64),(.int .u8),(.int .u8)]
 refine G (aC h (fun A h=>?_) (fun A h=>?_))
 ·refine G (aw (au (ah ?_)));obtain rfl:=sI h;exact RI [(.int .i64),(.int .u8),(.int .u8)]
 refine G (aC h (fun B h=>?_) (fun B h=>?_))
 ·refine G (aw (au (ah ?_)));obtain rfl:=sI h;exact RI [(.int .i64),(.int .u8),(.int .u8)]
 refine G (aC h (fun C h=>?_) (fun C h=>?_))
 ·refine G (aw (au (ah ?_)));obtain rfl:=sI h;exact RI [(.int .i64),(.int .u8),(.int .u8)]
 refine G (aC h (fun D h=>?_) (fun D h=>?_))
 ·refine G (aw (au (ah ?_)));obtain rfl:=sI h;exact RI [(.int .i64),(.int .u8),(.int .u8)]
 refine G (aC h (fun u h=>?_) (fun u h=>?_))
 ·refine G (aw (au (ah ?_)));obtain rfl:=sI h;exact RI [(.int .i64),(.int .u8),(.int .u8)]
 refine G (aC h (fun v h=>?_) (fun v h=>?_))
 ·refine G (aw (au (ah ?_)));obtain rfl:=sI h;exact RI [(.int .i64),(.int .u8),(.int .u8)]
 refine ae (ay (ab (G (aw ?_))));obtain rfl:=sI h;exact RI [(.int .i64),(.int .u8),(.int .u8)]
def iG(q:QK)(p A:Int):(Int×Int×Int×Int×Int)→Option ((Int×Int×Int×Int×Int)⊕((Int×Int)⊕Z7)):=fun(v10,v11,u,v,j) =>
 (if(decide (j<A))=true then(((if(decide ((i64.wrap (p+j))≥(q.length:Int)))=true then some (true)
 else(if 0≤(i64.wrap (p+j))∧(i64.wrap (p+j))<(q.length:Int)then(if(decide ((q.getD ((i64.wrap (p+j)).toNat) 0)<v10))=true then some (true)
 else(if 0≤(i64.wrap (p+j))∧(i64.wrap (p+j))<(q.length:Int)then some ((decide ((q.getD ((i64.wrap (p+j)).toNat) 0) > v11)))else none))else none))).bind fun z=>(if z=true then some (Sum.inr (Sum.inr (65533,p,u)))
 else(if 0≤(6:Int)then(if 0≤(i64.wrap (p+j))∧(i64.wrap (p+j))<(q.length:Int)then some (Sum.inl (128,191,(i64.wrap (j+1)),(bitsOf .or .i32 (i32.wrap (v*2 ^ (min (6:Int).toNat i32.bits))) (i32.wrap (bitsOf .and .u8 (q.getD ((i64.wrap (p+j)).toNat) 0) (63:Int)))),(i64.wrap (j+1))))else none)else none)))
 else some (Sum.inr (Sum.inl (u,v))))
def pd(p:QK)(j:Int):Option Z7 :=
 (((if(decide (j<0))=true then some (true)
 else some ((decide (j≥(p.length:Int)))))).bind fun v1=>(if v1=true then some (0,0,0)
 else(if 0≤j∧j<(p.length:Int)then((mX (p.getD j.toNat 0)).bind fun(q,x,z) =>
 (if(decide (q<2))=true then(((if(q == 1)=true then(if 0≤j∧j<(p.length:Int)then some ((i32.wrap (p.getD j.toNat 0)))else none)
 else some (65533))).bind fun A=>some (A,j,1))
 else(if 0≤j∧j<(p.length:Int)then(if 0≤q then((iter (iG p j q) (x,z,1,(bitsOf .and .i32 (i32.wrap (p.getD j.toNat 0)) (Int.fdiv 127 (2 ^ (min q.toNat i32.bits)))),1)).bind fun(B:((Int×Int)⊕Z7))=>match B with
 | .inl (u,v)=>some (v,j,u)
 | .inr (C)=>some C)else none)else none)))else none)))
theorem Aw(u:Bool){C:QK}{v:Int}{D:Int×Int×Int}(h:pd C v=some D):
  Pure Tryz.prog 47 [.p u (.slice (.int .u8)) C,.i64 v] (aK (bd false [⟨(.prod (.int .i32) Y2),D⟩])):=by
 refine PB Tryz.func47 (fun Bw w0=>?_);unfold pd at h;refine G (af (af (bz h (fun v1=>aA [(0,.p u (.slice (.int .u8)) C),(1,.i64 v),(4,.adr 0 0 3 0),(18,.bo v1)] [(0,.box [.i32 0,.i64 0,.i64 0])] 1) (fun v1 h=>?_) (fun v1 h=>?_))))
 ·rcases aM h with⟨M,h⟩ | ⟨M,h⟩
  ·exact bC ⟨[(2,true),(7,true)],[]⟩ [(3,7,oc M)] (eN h (gg [] [0]))
  exact bC ⟨[(2,false),(7,false)],[]⟩ [(3,6,an M),(7,7,oc M)] (eN h (gg [] [0]))
 refine ab (aC h (fun B4 h=>?_) (fun B4 h=>?_))
 ·refine G (aw (ah ?_));obtain rfl:=sI h;exact RI [(.prod (.int .i32) Y2)]
 refine ae (ab ?_);obtain⟨c2,h⟩:=aD h;obtain⟨⟨r4,r5,r6⟩,q2,h⟩:=aj h;have E:=(za q2);refine GN ⟨[],[(4,(oP E))]⟩ [(2,2,oc c2),(4,4,oc E)] (G (af (G (aC h (fun B5 h=>?_) (fun B5 h=>?_)))))
 ·refine af (G (bz h (fun N=>aA [(4,.adr 0 0 3 0),(8,.adr 1 0 3 0)] (JU 0 (0:Int) (0:Int) N v 1) 2) (fun N h=>?_) (fun N h=>?_)))
  ·refine aC h (fun B7 h=>?_) (fun B7 h=>?_)
   ·refine xq 2 h (fun h=>?_);exact eN h (gg [] [0,113])
   exact ae (eN h (gg [] [0,113]))
  refine ab (G (aw (ah ?_)));obtain rfl:=sI h;exact RI [(.prod (.int .i32) Y2)]
 refine ae (ab ?_);obtain⟨c9,O,h⟩:=g2 h;refine GD a0 [(2,2,oc c9),(6,6,oc O)] (af (G (ak (kg h (fun(v10,v11,x,z,A)=>aA [(0,.p u (.slice (.int .u8)) C),(1,.i64 v),(4,.adr 0 0 3 0),(5,.i64 r4),(6,.u8 v10),(7,.u8 v11),(8,.adr 1 0 3 0),(9,.i32 z),(10,.i64 A)] (JU 0 (0:Int) (0:Int) (65533:Int) v x) 2) (dy (fj Tryz.f47.ntmps 0 (fun(I,J)=>aA [(4,.adr 0 0 3 0),(8,.adr 1 0 3 0),(9,.i32 J)] (JU 0 (0:Int) (0:Int) (65533:Int) v I) 2)) (gr tb Tryz.f47.results.toList (fun r7=>[⟨(.prod (.int .i32) Y2),r7⟩]))) (gg [] [0,113]) (fun y o h=>?_) (fun r8 h e σ' hq=>?_)))))
 ·obtain⟨v10,v11,x,z,A⟩:=y;unfold iG at h;refine af (G (aC h (fun V h=>?_) (fun V h=>?_)))
  ·refine ae (ab (af (ak (af (af (bz h (fun B=>aA [(0,.p u (.slice (.int .u8)) C),(1,.i64 v),(4,.adr 0 0 3 0),(5,.i64 r4),(8,.adr 1 0 3 0),(9,.i32 z),(10,.i64 A),(80,.bo B)] (JU 0 (0:Int) (0:Int) (65533:Int) v x) 2) (fun B h=>?_) (fun B h=>?_)))))))
   ·rcases aM h with⟨j,h⟩ | ⟨j,h⟩
    ·exact bC ⟨[(6,true),(15,true)],[]⟩ [(7,15,oc j)] (eN h (gg [] [0,1]))
    obtain⟨L,h⟩:=aD h;rcases aM h with⟨q,h⟩ | ⟨q,h⟩
    ·exact bC ⟨[(6,false),(15,false),(16,true),(25,true)],[]⟩ [(7,10,an j),(11,11,oc (And.intro j L)),(12,14,an j),(15,15,oc j),(17,25,oc q)] (eN h (gg [] [0,1]))
    obtain⟨X,h⟩:=aD h;exact bC ⟨[(6,false),(15,false),(16,false),(25,false)],[]⟩ [(7,10,an j),(11,11,oc (And.intro j L)),(12,14,an j),(15,15,oc j),(17,20,an q),(21,21,oc (And.intro q X)),(22,24,an q),(25,25,oc q)] (eN h (gg [] [0,1]))
   refine ab (aC h (fun Y h=>?_) (fun Y h=>?_))
   ·refine G (aw ?_);obtain rfl:=sI h;refine ah (au (ah (bK (aL ?_))));exact bH (RI [(.prod (.int .i32) Y2)])
   refine ae (ab ?_);obtain⟨Z,a1,h⟩:=g2 h;refine GN a0 [(1,1,oc Z),(6,6,oc a1)] (G (Ge (ay (ab (Ge ?_)))));exact eB h (gg [] [0,1])
  refine av (aP ?_);obtain rfl:=sI h;refine dL (bk ?_);exact bS (gg [] [0,1])
 rcases r8 with⟨I,J⟩ | r7
 ·obtain⟨rfl,a2⟩:=hq;refine cF ?_ a2;refine az (ab (G (G (aw ?_))));obtain rfl:=sI h;exact RI [(.prod (.int .i32) Y2)]
 obtain⟨rfl,hr⟩:=hq;refine au (ah ?_);obtain rfl:=sI h;exact hr
def jX(u:QK):(XK×Int)→Option ((XK×Int)⊕XK):=fun(j,q) =>
 (if(decide (q<(u.length:Int)))=true then((pd u q).bind fun p =>
 (if(j.length+([(p.1,p.2.1,p.2.2)]:XK).length)*24≤140737488355328∧j.length+([(p.1,p.2.1,p.2.2)]:XK).length≤9223372036854775807 then some (Sum.inl ((j++([(p.1,p.2.1,p.2.2)]:XK)),(i64.wrap (q+p.2.2))))else none))
 else some (Sum.inr j))
def mR(p:QK):Option XK :=
 ((iter (jX p) (([]:XK),0)).bind fun j=>some j)
theorem tY(u:Bool){z:QK}{v:XK}(h:mR z=some v):
  Pure Tryz.prog 28 [.p u (.slice (.int .u8)) z] (aK (bd false [⟨(.slice (.prod (.int .i32) Y2)),v⟩])):=by
 refine PB Tryz.func28 (fun Bw w0=>?_);unfold mR at h;refine G (G (af (G (ak (cM h (fun(j,x)=>aA [(0,.p u (.slice (.int .u8)) z),(3,.sl 0),(4,.i64 x)] [(0,.arr 127 (.prod (.int .i32) Y2) j)] 1) 0 (fun q=>aA [(3,.sl 0)] [(0,.arr 127 (.prod (.int .i32) Y2) q)] 1) (gg [.nilS 3 24 127 (.prod (.int .i32) Y2)] [24]) (fun y o h=>?_) (fun q h=>?_))))))
 ·obtain⟨j,x⟩:=y;unfold jX at h;refine af (G (aC h (fun A h=>?_) (fun A h=>?_)))
  ·refine ae (ab (ak ?_));obtain⟨C,B,h⟩:=aj h;refine GP 2 (Aw u B) (GC 3 h (fun h=>Ge (ay ?_)));exact eB h (gg [] [97])
  refine av (aP ?_);exact eX h (gg [] [0])
 refine az (ab (G (aw ?_)));obtain rfl:=sI h;exact RI [(.slice (.prod (.int .i32) Y2))]
def jF(j:Int):Option (Bool) :=
 (((if(j == 32)=true then some (true)
 else(if(j == 9)=true then some (true)
 else(if(j == 10)=true then some (true)
 else some ((j == 13)))))).bind fun v1=>some v1)
theorem p8{v:Int}{q:Bool}(h:jF v=some q):
  Pure Tryz.prog 90 [.i32 v] (aK (bd false [⟨.bool,q⟩])):=by
 refine PB Tryz.func90 (fun Bw w0=>?_);unfold jF at h;refine G (af (bz h (fun v1=>aA [(2,.bo v1)] [] 0) (fun v1 h=>?_) (fun v1 h=>?_)))
 ·rcases aM h with⟨j,h⟩ | ⟨j,h⟩
  ·exact bC ⟨[(2,true),(5,true)],[]⟩ [(3,5,oc j)] (eN h (gg [] []))
  rcases aM h with⟨p,h⟩ | ⟨p,h⟩
  ·exact bC ⟨[(2,false),(5,false),(6,true),(9,true)],[]⟩ [(3,4,an j),(5,5,oc j),(7,9,oc p)] (eN h (gg [] []))
  rcases aM h with⟨u,h⟩ | ⟨u,h⟩
  ·exact bC ⟨[(2,false),(5,false),(6,false),(9,false),(10,true),(13,true)],[]⟩ [(3,4,an j),(5,5,oc j),(7,8,an p),(9,9,oc p),(11,13,oc u)] (eN h (gg [] []))
  exact bC ⟨[(2,false),(5,false),(6,false),(9,false),(10,false),(13,false)],[]⟩ [(3,4,an j),(5,5,oc j),(7,8,an p),(9,9,oc p),(11,12,an u),(13,13,oc u)] (eN h (gg [] []))
 refine ab (aw ?_);obtain rfl:=sI h;exact RI [.bool]
def kf(j p q:Int):Option (Bool) :=
 some (j == 45)
theorem qI{p q u:Int}{j:Bool}(h:kf p q u=some j):
  Pure Tryz.prog 117 [.agg [.i32 p,.i64 q,.i64 u]] (aK (bd false [⟨.bool,j⟩])):=by
 refine PB Tryz.func117 (fun Bw w0=>?_);unfold kf at h;refine G (G (aw ?_));obtain rfl:=sI h;exact RI [.bool]
def na(p:XK):(Int)→Option ((Int)⊕((Unit)⊕(Int))):=fun j =>
 (if(decide (j<(p.length:Int)))=true then(if 0≤j∧j<(p.length:Int)then((kf ((p.getD j.toNat (0,0,0)).1) ((p.getD j.toNat (0,0,0)).2.1) ((p.getD j.toNat (0,0,0)).2.2)).bind fun q =>
 (if q=true then some (Sum.inr (Sum.inr j))
 else some (Sum.inl (i64.wrap (j+1)))))else none)
 else some (Sum.inr (Sum.inl ())))
def mH(j:XK):Option (Int) :=
 ((iter (na j) (0:Int)).bind fun(p:((Unit)⊕(Int)))=>match p with
 | .inl _=>some (-1:Int)
 | .inr (q)=>some q)
theorem tw(j:Bool){v:XK}{q:Int}(h:mH v=some q):
  Pure Tryz.prog 129 [.p j (.slice (.prod (.int .i32) Y2)) v,.fn 117 []] (aK (bd false [⟨(.int .i64),q⟩])):=by
 refine PB Tryz.func129 (fun Bw w0=>?_);unfold mH at h;refine G (af (G (ak (kg h (fun z=>aA [(0,.p j (.slice (.prod (.int .i32) Y2)) v),(1,.fn 117 []),(7,.i64 (v.length:Int)),(8,.i64 z)] [] 0) (dy (fj Tryz.f129.ntmps 0 (fun _=>aA [] [] 0)) (gr tb Tryz.f129.results.toList (fun A=>[⟨(.int .i64),A⟩]))) (gg [] []) (fun z o h=>?_) (fun C h e σ' B=>?_)))))
 ·unfold na at h;refine G (af (aC h (fun D h=>?_) (fun D h=>?_)))
  ·refine ae (ab (af (ak (G ?_))));obtain⟨E,h⟩:=aD h;obtain⟨M,I,h⟩:=aj h;have u:=(qI I);refine GN ⟨[],[(5,(oP u))]⟩ [(3,3,oc E),(5,5,oc u)] (aC h (fun J h=>?_) (fun J h=>?_))
   ·refine G (aw ?_);obtain rfl:=sI h;refine au (ah (bK (aL ?_)));exact bH (RI [(.int .i64)])
   refine ae (ay (ab (Ge ?_)));exact eB h (gg [] [])
  refine av (aP ?_);obtain rfl:=sI h;refine dL (bk ?_);exact bS (gg [] [])
 rcases C with _ | A
 ·obtain⟨rfl,x⟩:=B;refine cF ?_ x;refine az (ab (G (aw ?_)));obtain rfl:=sI h;exact RI [(.int .i64)]
 obtain⟨rfl,L⟩:=B;refine au (ah ?_);obtain rfl:=sI h;exact L
def qB(j:XK):Option (Bool) :=
 ((mH j).bind fun p =>
 some (decide (p≥0)))
theorem xJ(j:Bool){u:XK}{q:Bool}(h:qB u=some q):
  Pure Tryz.prog 116 [.p j (.slice (.prod (.int .i32) Y2)) u,.fn 117 []] (aK (bd false [⟨.bool,q⟩])):=by
 refine PB Tryz.func116 (fun Bw w0=>?_);unfold qB at h;refine G ?_;obtain⟨x,v,h⟩:=aj h;refine GP 2 (tw j v) (aw ?_);obtain rfl:=sI h;exact RI [.bool]
def gZ(j:XK):Option (Bool) :=
 ((qB j).bind fun p =>
 some p)
theorem mL(j:Bool){u:XK}{q:Bool}(h:gZ u=some q):
  Pure Tryz.prog 92 [.p j (.slice (.prod (.int .i32) Y2)) u] (aK (bd false [⟨.bool,q⟩])):=by
 refine PB Tryz.func92 (fun Bw w0=>?_);unfold gZ at h;refine G ?_;obtain⟨x,v,h⟩:=aj h;refine GP 1 (xJ j v) (aw ?_);obtain rfl:=sI h;exact RI [.bool]
def ug(u:XK)(x:Bool):(QK×QK×Bool×Int×Int)→Option ((QK×QK×Bool×Int×Int)⊕((QK×QK×Int)⊕(Z8×Bool))):=fun(j,q,z,v,p) =>
 (if(decide (p<(u.length:Int)))=true then(if 0≤p∧p<(u.length:Int)then(if(((u.getD p.toNat (0,0,0)).1) == 65533)=true then some (Sum.inr (Sum.inr ((j,q),false)))
 else(((if(((u.getD p.toNat (0,0,0)).1) == 45)=true then some (true)
 else(if(decide (((u.getD p.toNat (0,0,0)).1)≥48))=true then some ((decide (((u.getD p.toNat (0,0,0)).1)≤57)))
 else some (false)))).bind fun A=>(((if A=true then(((if z=true then some (true)
 else(if(!(x == (((u.getD p.toNat (0,0,0)).1) == 45)))=true then some (true)
 else(if x=true then(if((j.length:Int) == 0)=true then some (true)
 else some ((p == (i64.wrap ((u.length:Int) - 1)))))
 else some (false))))).bind fun B=>(if B=true then some ((Sum.inr ((j,q),false)))
 else(if 0≤(j.length:Int)∧(j.length:Int)<(q.length:Int)then(if(j.length:Int).toNat<q.length then(if(!x)=true then(if 0≤(j.length:Int)∧(j.length:Int)<((q.set ((j.length:Int).toNat) 1).length:Int)then(if(j.length:Int).toNat<(q.set ((j.length:Int).toNat) 1).length then some ((Sum.inl (j,((q.set ((j.length:Int).toNat) 1).set ((j.length:Int).toNat) (u8.wrap (i32.wrap (((u.getD p.toNat (0,0,0)).1) - 48)))),true,v)))else none)else none)
 else some ((Sum.inl (j,(q.set ((j.length:Int).toNat) 1),true,v))))else none)else none)))
 else(if(((u.getD p.toNat (0,0,0)).1) == 46)=true then(((if x=true then some (true)
 else(if(!(p == 0))=true then some ((!(p == (i64.wrap ((u.length:Int) - 1)))))
 else some (false)))).bind fun C=>(if C=true then some ((Sum.inr ((j,q),false)))
 else(if(j.length+([46]:QK).length)*4≤140737488355328∧j.length+([46]:QK).length≤9223372036854775807 then(if(q.length+([0]:QK).length)*1≤140737488355328∧q.length+([0]:QK).length≤9223372036854775807 then some ((Sum.inl ((j++([46]:QK)),(q++([0]:QK)),false,v)))else none)else none)))
 else(if(j.length+([(u.getD p.toNat (0,0,0)).1]:QK).length)*4≤140737488355328∧j.length+([(u.getD p.toNat (0,0,0)).1]:QK).length≤9223372036854775807 then(if(q.length+([0]:QK).length)*1≤140737488355328∧q.length+([0]:QK).length≤9223372036854775807 then some ((Sum.inl ((j++([(u.getD p.toNat (0,0,0)).1]:QK)),(q++([0]:QK)),false,(i64.wrap (v+1)))))else none)else none)))).bind fun(D:((QK×QK×Bool×Int)⊕(Z8×Bool)))=>match D with
 | .inl (E,I,J,L)=>some (Sum.inl (E,I,J,L,(i64.wrap (p+1))))
 | .inr ((M,N))=>some (Sum.inr (Sum.inr (M,N))))))else none)
 else some (Sum.inr (Sum.inl (j,q,v))))
def sw(x:XK):Option (Z8×Bool) :=
 ((gZ x).bind fun z =>
 ((iter (ug x z) (([]:QK),([0]:QK),false,0,0)).bind fun(p:((QK×QK×Int)⊕(Z8×Bool)))=>match p with
 | .inl (j,v30,q)=>(((if(decide (q > 0))=true then some ((decide ((j.length:Int)≤24)))
 else some (false))).bind fun u=>some ((j,v30),u))
 | .inr ((A,v))=>some (A,v)))
theorem Bx(A:Bool){B:XK}{N:Z8×Bool}(h:sw B=some N):
  Pure Tryz.prog 91 [.p A (.slice (.prod (.int .i32) Y2)) B] (aK (bd false [⟨qM,N.1⟩,⟨.bool,N.2⟩])):=by
 refine PB Tryz.func91 (fun Bw w0=>?_);unfold sw at h;refine G ?_;obtain⟨r2,q2,h⟩:=aj h;refine GP 1 (mL A q2) (G (G (G (af (G (ak (kg h (fun(I,L,O,M,z)=>aA [(0,.p A (.slice (.prod (.int .i32) Y2)) B),(2,.adr 0 0 2 0),(4,.bo r2),(5,.adr 1 0 2 0),(6,.bo O),(7,.i64 M),(17,.p A (.slice (.prod (.int .i32) Y2)) B),(18,.i64 (B.length:Int)),(19,.i64 z)] (I6 I L) 4) (dy (fj Tryz.f91.ntmps 0 (fun(V,v30,a3)=>aA [(2,.adr 0 0 2 0),(5,.adr 1 0 2 0),(7,.i64 a3)] (I6 V v30) 4)) (gr tb Tryz.f91.results.toList (fun(r9,a4)=>[⟨qM,r9⟩,⟨.bool,a4⟩]))) (gg [.nilC 56 0 112 21 (.int .i32)] [0,56,112,40]) (fun y o h=>?_) (fun b8 h e σ' hq=>?_))))))))
 ·obtain⟨I,L,O,M,z⟩:=y;unfold ug at h;refine G (af (aC h (fun a5 h=>?_) (fun a5 h=>?_)))
  ·refine ae (ab (af (ak (GC 1 h (fun h=>G (ak (G (aC h (fun a6 h=>?_) (fun a6 h=>?_)))))))))
   ·refine G (lS [.frzC 0 0,.frzC 0 1] (by kernel_rfl) (aw ?_));obtain rfl:=sI h;refine au (au (ah (bK (aL ?_))));exact bH (RI [qM,.bool])
   refine af (bz h (fun X=>aA [(0,.p A (.slice (.prod (.int .i32) Y2)) B),(2,.adr 0 0 2 0),(4,.bo r2),(5,.adr 1 0 2 0),(6,.bo O),(7,.i64 M),(8,.i64 z),(9,.adr 4 0 3 0),(10,.i64 (I.length:Int)),(17,.p A (.slice (.prod (.int .i32) Y2)) B),(18,.i64 (B.length:Int)),(19,.i64 z),(46,.bo X)] (MD I L ((B.getD z.toNat (0,0,0)).1) ((B.getD z.toNat (0,0,0)).2.1) ((B.getD z.toNat (0,0,0)).2.2)) 5) (fun X h=>?_) (fun X h=>?_))
   ·rcases aM h with⟨v,h⟩ | ⟨v,h⟩
    ·exact bC ⟨[(3,true),(12,true)],[]⟩ [(4,7,oc v),(11,12,oc v)] (eN h (gg [] [0,1,2,3,36]))
    rcases aM h with⟨C,h⟩ | ⟨C,h⟩
    ·exact bC ⟨[(3,false),(7,true),(11,true),(12,false)],[]⟩ [(4,7,an v),(8,10,an C),(11,11,oc (And.intro v C)),(12,12,oc v)] (eN h (gg [] [0,1,2,3,36]))
    exact bC ⟨[(3,false),(7,false),(11,false),(12,false)],[]⟩ [(4,7,an v),(8,10,oc C),(11,11,oc (And.intro v C)),(12,12,oc v)] (eN h (gg [] [0,1,2,3,36]))
   refine ab (DJ h (dy (n9 Tryz.f91.ntmps (fun(a7,a8,a9,aa)=>aA [(0,.p A (.slice (.prod (.int .i32) Y2)) B),(2,.adr 0 0 2 0),(4,.bo r2),(5,.adr 1 0 2 0),(6,.bo a9),(7,.i64 aa),(17,.p A (.slice (.prod (.int .i32) Y2)) B),(18,.i64 (B.length:Int)),(19,.i64 z)] (I6 a7 a8) 4)) (gr tb Tryz.f91.results.toList (fun(ac,ad)=>[⟨qM,ac⟩,⟨.bool,ad⟩]))) (fun ax h=>?_) (fun ax h e σ' hq=>?_))
   ·refine aC h (fun b1 h=>?_) (fun b1 h=>?_)
    ·refine af (af (bz h (fun Y=>aA [(0,.p A (.slice (.prod (.int .i32) Y2)) B),(2,.adr 0 0 2 0),(4,.bo r2),(5,.adr 1 0 2 0),(7,.i64 M),(9,.adr 4 0 3 0),(10,.i64 (I.length:Int)),(17,.p A (.slice (.prod (.int .i32) Y2)) B),(18,.i64 (B.length:Int)),(19,.i64 z),(81,.bo Y)] (MD I L ((B.getD z.toNat (0,0,0)).1) ((B.getD z.toNat (0,0,0)).2.1) ((B.getD z.toNat (0,0,0)).2.2)) 5) (fun Y h=>?_) (fun Y h=>?_)))
     ·rcases aM h with⟨q,h⟩ | ⟨q,h⟩
      ·exact bC ⟨[(1,true),(7,true)],[]⟩ [(2,7,oc q)] (eN h (gg [] [0,1,2,3,4]))
      rcases aM h with⟨j,h⟩ | ⟨j,h⟩
      ·exact bC ⟨[(1,false),(7,false),(8,true),(21,true)],[]⟩ [(2,6,an q),(7,7,oc q),(9,10,oc j),(20,21,oc j)] (eN h (gg [] [0,1,2,3,4]))
      rcases aM h with⟨u,h⟩ | ⟨u,h⟩
      ·rcases aM h with⟨D,h⟩ | ⟨D,h⟩
       ·exact bC ⟨[(1,false),(7,false),(8,false),(10,true),(13,true),(19,true),(20,true),(21,false)],[]⟩ [(2,6,an q),(7,7,oc q),(9,10,an j),(11,13,an u),(14,18,oc D),(19,19,oc (And.intro u D)),(20,20,oc (And.intro j u)),(21,21,oc j)] (eN h (gg [] [0,1,2,3,4]))
       exact bC ⟨[(1,false),(7,false),(8,false),(10,true),(13,false),(19,false),(20,true),(21,false)],[]⟩ [(2,6,an q),(7,7,oc q),(9,10,an j),(11,13,an u),(14,18,an D),(19,19,oc (And.intro u D)),(20,20,oc (And.intro j u)),(21,21,oc j)] (eN h (gg [] [0,1,2,3,4]))
      exact bC ⟨[(1,false),(7,false),(8,false),(10,false),(20,false),(21,false)],[]⟩ [(2,6,an q),(7,7,oc q),(9,10,an j),(11,13,oc u),(19,19,oc u),(20,20,oc (And.intro j u)),(21,21,oc j)] (eN h (gg [] [0,1,2,3,4]))
     refine ab (aC h (fun b2 h=>?_) (fun b2 h=>?_))
     ·refine G (lS [.frzC 0 0,.frzC 0 1] (by kernel_rfl) (aw ?_));obtain rfl:=sI h;refine ah (aL ?_);exact bH (RI [qM,.bool])
     refine ae (ab (G ?_));obtain⟨b9,be,h⟩:=g2 h;refine GN a0 [(3,3,oc b9),(4,4,oc be)] (G (aC h (fun b3 h=>?_) (fun b3 h=>?_)))
     ·obtain⟨bi,bs,h⟩:=g2 h;refine bC a0 [(7,7,oc bi),(8,8,oc bs)] ?_;obtain rfl:=sI h;exact bk (cV (gg [] [0,1,2,3]))
     refine ae ?_;obtain rfl:=sI h;exact bk (cV (gg [] [0,1,2,3]))
    refine G (aC h (fun b4 h=>?_) (fun b4 h=>?_))
    ·refine G (af (af (bz h (fun Z=>aA [(0,.p A (.slice (.prod (.int .i32) Y2)) B),(2,.adr 0 0 2 0),(4,.bo r2),(5,.adr 1 0 2 0),(7,.i64 M),(17,.p A (.slice (.prod (.int .i32) Y2)) B),(18,.i64 (B.length:Int)),(19,.i64 z),(116,.bo Z)] (I6 I L) 4) (fun Z h=>?_) (fun Z h=>?_))))
     ·rcases aM h with⟨x,h⟩ | ⟨x,h⟩
      ·exact bC ⟨[(1,true),(8,true)],[]⟩ [(2,4,oc x),(7,8,oc x)] (eN h (gg [] [0,1,2,3]))
      rcases aM h with⟨E,h⟩ | ⟨E,h⟩
      ·exact bC ⟨[(1,false),(4,true),(7,true),(8,false)],[]⟩ [(2,4,an x),(5,6,an E),(7,7,oc (And.intro x E)),(8,8,oc x)] (eN h (gg [] [0,1,2,3]))
      exact bC ⟨[(1,false),(4,false),(7,false),(8,false)],[]⟩ [(2,4,an x),(5,6,oc E),(7,7,oc (And.intro x E)),(8,8,oc x)] (eN h (gg [] [0,1,2,3]))
     refine ab (aC h (fun b5 h=>?_) (fun b5 h=>?_))
     ·refine G (lS [.frzC 0 0,.frzC 0 1] (by kernel_rfl) (aw ?_));obtain rfl:=sI h;refine ah (aL ?_);exact bH (RI [qM,.bool])
     refine ae (ab ?_);obtain⟨bv,bx,h⟩:=g2 h;refine nf a0 [(3,3,oc bv),(7,7,oc bx)] ?_;obtain rfl:=sI h;exact bk (cV (gg [] [0,1,28,60]))
    refine G ?_;obtain⟨b6,b7,h⟩:=g2 h;refine nf a0 [(5,5,oc b6),(9,9,oc b7)] ?_;obtain rfl:=sI h;exact bk (cV (gg [] [0,1,101,133]))
   rcases ax with⟨a7,a8,a9,aa⟩ | ⟨ac,ad⟩
   ·obtain⟨rfl,a1⟩:=hq;refine cF ?_ a1;refine ay (ay (ab (Ge ?_)));exact eB h (gg [] [0,1,2,3])
   obtain⟨rfl,hr⟩:=hq;obtain rfl:=sI h;refine au (au (ah (bK (aL ?_))));exact bH hr
  refine av (aP ?_);obtain rfl:=sI h;refine dL (bk ?_);exact bS (gg [] [0,1,2,3])
 rcases b8 with⟨V,v30,a3⟩ | ⟨r9,a4⟩
 ·obtain⟨rfl,a1⟩:=hq;refine cF ?_ a1;refine az (ab (af (bz h (fun a2=>aA [(2,.adr 0 0 2 0),(3,.bo a2)] (Ni V v30) 3) (fun a2 h=>?_) (fun a2 h=>?_))))
  ·rcases aM h with⟨J,h⟩ | ⟨J,h⟩
   ·exact nf ⟨[(3,true),(8,true)],[]⟩ [(4,7,an J),(8,8,oc J)] (eN h (gg [] [0,2,3]))
   exact nf ⟨[(3,false),(8,false)],[]⟩ [(4,8,oc J)] (eN h (gg [] [0,2,3]))
  refine ab (lS [.frzC 0 0,.frzC 0 1] (by kernel_rfl) (aw ?_));obtain rfl:=sI h;exact RI [qM,.bool]
 obtain⟨rfl,hr⟩:=hq;refine au (ah ?_);obtain rfl:=sI h;exact hr
def gv(p q:QK):(Int)→Option ((Int)⊕((Unit)⊕(Bool))):=fun j =>
 (if(decide (j<(p.length:Int)))=true then(if 0≤j∧j<(p.length:Int)then(if 0≤j∧j<(q.length:Int)then(if((p.getD j.toNat 0) != (q.getD j.toNat 0))=true then some (Sum.inr (Sum.inr false))
 else some (Sum.inl (i64.wrap (j+1))))else none)else none)
 else some (Sum.inr (Sum.inl ())))
def cy(j p:QK):Option (Bool) :=
 (if((j.length:Int) != (p.length:Int))=true then some false
 else((iter (gv j p) (0:Int)).bind fun(q:((Unit)⊕(Bool)))=>match q with
 | .inl _=>some true
 | .inr (u)=>some u))
theorem gn(j q:Bool){v x:QK}{u:Bool}(h:cy v x=some u):
  Pure Tryz.prog 79 [.p j (.slice (.int .i32)) v,.p q (.slice (.int .i32)) x] (aK (bd false [⟨.bool,u⟩])):=by
 refine PB Tryz.func79 (fun Bw w0=>?_);unfold cy at h;refine G (af (G (aC h (fun I h=>?_) (fun I h=>?_))))
 ·refine G (aw (ah ?_));obtain rfl:=sI h;exact RI [.bool]
 refine ae (ab (af (G (ak (kg h (fun C=>aA [(0,.p j (.slice (.int .i32)) v),(1,.p q (.slice (.int .i32)) x),(12,.i64 (v.length:Int)),(13,.i64 C)] [] 0) (dy (fj Tryz.f79.ntmps 0 (fun _=>aA [] [] 0)) (gr tb Tryz.f79.results.toList (fun D=>[⟨.bool,D⟩]))) (gg [] []) (fun C o h=>?_) (fun J h e σ' E=>?_))))))
 ·unfold gv at h;refine G (af (aC h (fun L h=>?_) (fun L h=>?_)))
  ·refine ae (ab (af (ak (G ?_))));obtain⟨z,A,h⟩:=g2 h;refine GD a0 [(2,2,oc z),(6,6,oc A)] (aC h (fun M h=>?_) (fun M h=>?_))
   ·refine G (aw ?_);obtain rfl:=sI h;refine au (ah (bK (aL ?_)));exact bH (RI [.bool])
   refine ae (ay (ab (Ge ?_)));exact eB h (gg [] [])
  refine av (aP ?_);obtain rfl:=sI h;refine dL (bk ?_);exact bS (gg [] [])
 rcases J with _ | D
 ·obtain⟨rfl,B⟩:=E;refine cF ?_ B;refine az (ab (G (aw ?_)));obtain rfl:=sI h;exact RI [.bool]
 obtain⟨rfl,N⟩:=E;refine au (ah ?_);obtain rfl:=sI h;exact N
def nW(j u p v:QK):Option (Bool) :=
 ((cy j p).bind fun q =>
 some q)
theorem uS(j v q x:Bool){z A B C:QK}{u:Bool}(h:nW z A B C=some u):
  Pure Tryz.prog 94 [.agg [.p j (.slice (.int .i32)) z,.p v (.slice (.int .u8)) A],.fad true [.p q (.slice (.int .i32)) B,.p x (.slice (.int .u8)) C] 0] (aK (bd false [⟨.bool,u⟩])):=by
 refine PB Tryz.func94 (fun Bw w0=>?_);unfold nW at h;refine G ?_;obtain⟨E,D,h⟩:=aj h;refine GP 4 (gn j q D) (aw ?_);obtain rfl:=sI h;exact RI [.bool]
def mi(p:List Z8)(q u:QK):(Int)→Option ((Int)⊕((Unit)⊕(Int))):=fun j =>
 (if(decide (j<(p.length:Int)))=true then(if 0≤j∧j<(p.length:Int)then((nW ((p.getD j.toNat ([],([]:QK))).1) ((p.getD j.toNat ([],([]:QK))).2) q u).bind fun v =>
 (if v=true then some (Sum.inr (Sum.inr j))
 else some (Sum.inl (i64.wrap (j+1)))))else none)
 else some (Sum.inr (Sum.inl ())))
def lD(j:List Z8)(p q:QK):Option (Int) :=
 ((iter (mi j p q) (0:Int)).bind fun(u:((Unit)⊕(Int)))=>match u with
 | .inl _=>some (-1:Int)
 | .inr (v)=>some v)
theorem sE(j q u:Bool){z:List Z8}{A B:QK}{v:Int}(h:lD z A B=some v):
  Pure Tryz.prog 77 [.p j (.slice qM) z,.fn 94 [.fad true [.p q (.slice (.int .i32)) A,.p u (.slice (.int .u8)) B] 0]] (aK (bd false [⟨(.int .i64),v⟩])):=by
 refine PB Tryz.func77 (fun Bw w0=>?_);unfold lD at h;refine G (af (G (ak (kg h (fun D=>aA [(0,.p j (.slice qM) z),(1,.fn 94 [.fad true [.p q (.slice (.int .i32)) A,.p u (.slice (.int .u8)) B] 0]),(7,.i64 (z.length:Int)),(8,.i64 D)] [] 0) (dy (fj Tryz.f77.ntmps 0 (fun _=>aA [] [] 0)) (gr tb Tryz.f77.results.toList (fun E=>[⟨(.int .i64),E⟩]))) (gg [] []) (fun D o h=>?_) (fun J h e σ' I=>?_)))))
 ·unfold mi at h;refine G (af (aC h (fun L h=>?_) (fun L h=>?_)))
  ·refine ae (ab (af (ak (G ?_))));obtain⟨M,h⟩:=aD h;obtain⟨X,N,h⟩:=aj h;have x:=(uS j j q u N);refine GN ⟨[],[(5,(oP x))]⟩ [(3,3,oc M),(5,5,oc x)] (aC h (fun O h=>?_) (fun O h=>?_))
   ·refine G (aw ?_);obtain rfl:=sI h;refine au (ah (bK (aL ?_)));exact bH (RI [(.int .i64)])
   refine ae (ay (ab (Ge ?_)));exact eB h (gg [] [])
  refine av (aP ?_);obtain rfl:=sI h;refine dL (bk ?_);exact bS (gg [] [])
 rcases J with _ | E
 ·obtain⟨rfl,C⟩:=I;refine cF ?_ C;refine az (ab (G (aw ?_)));obtain rfl:=sI h;exact RI [(.int .i64)]
 obtain⟨rfl,V⟩:=I;refine au (ah ?_);obtain rfl:=sI h;exact V
def mb(j:List Z8)(p q:QK):Option (Bool) :=
 ((lD j p q).bind fun u =>
 some (decide (u≥0)))
theorem wb(j q u:Bool){x:List Z8}{z A:QK}{v:Bool}(h:mb x z A=some v):
  Pure Tryz.prog 93 [.p j (.slice qM) x,.fn 94 [.fad true [.p q (.slice (.int .i32)) z,.p u (.slice (.int .u8)) A] 0]] (aK (bd false [⟨.bool,v⟩])):=by
 refine PB Tryz.func93 (fun Bw w0=>?_);unfold mb at h;refine G ?_;obtain⟨C,B,h⟩:=aj h;refine GP 2 (sE j q u B) (aw ?_);obtain rfl:=sI h;exact RI [.bool]
end
end Go.Proofs.YtobbjfkfmdiklaaGreatDoor.T
