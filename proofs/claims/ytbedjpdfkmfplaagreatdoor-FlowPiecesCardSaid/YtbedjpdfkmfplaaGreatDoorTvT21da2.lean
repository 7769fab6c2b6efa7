import Derived.Test.YtbedjpdfkmfplaaGreatDoorTvT21d0
import Derived.Test.YtbedjpdfkmfplaaGreatDoorTvT21da1
namespace Go.Proofs.YtbedjpdfkmfplaaGreatDoor.T
open Go Go.Tv Go.Proofs
open Go.IntKind (i32 i64 u32 u8)
noncomputable section
set_option maxRecDepth 100000
set_option maxHeartbeats 4000000
def sn(f:XZ):(QK×Qj×Bool×(List ug)×Int)→Option ((QK×Qj×Bool×(List ug)×Int)⊕(QK×Qj×Bool×List ug)):=fun(v,z,A,v10,v11) =>
 (if(decide (v11<(f.length:Int)))=true then(if 0≤v11∧v11<(f.length:Int)then((eE 1000 ((f.getD v11.toNat (Tree.node 0 0 [])).op) ((f.getD v11.toNat (Tree.node 0 0 [])).set) ((f.getD v11.toNat (Tree.node 0 0 [])).kids) A v z).bind fun(e,j,q,u) =>
 (if(v10.length+([(e.1,(e.2.1.1,e.2.1.2.1,e.2.1.2.2.1,e.2.1.2.2.2),e.2.2.1,e.2.2.2.1,e.2.2.2.2.1,e.2.2.2.2.2)]:List ug).length)*72≤140737488355328∧v10.length+([(e.1,(e.2.1.1,e.2.1.2.1,e.2.1.2.2.1,e.2.1.2.2.2),e.2.2.1,e.2.2.2.1,e.2.2.2.2.1,e.2.2.2.2.2)]:List ug).length≤9223372036854775807 then some (Sum.inl (j,q,u,(v10++([(e.1,(e.2.1.1,e.2.1.2.1,e.2.1.2.2.1,e.2.1.2.2.2),e.2.2.1,e.2.2.2.1,e.2.2.2.2.1,e.2.2.2.2.2)]:List ug)),(i64.wrap (v11+1))))else none))else none)
 else some (Sum.inr (v,z,A,v10)))
def rZ(f:List ug):(Int×Int×Int×Int×Int)→Option ((Int×Int×Int×Int×Int)⊕Z2):=fun(q,u,v,z,e) =>
 (if(decide (e<(f.length:Int)))=true then(if 0≤e∧e<(f.length:Int)then(if e.toNat<f.length then((dn q u v z ((f.getD e.toNat (false,(0,0,0,0),0,0,0,0)).2.1.1) ((f.getD e.toNat (false,(0,0,0,0),0,0,0,0)).2.1.2.1) ((f.getD e.toNat (false,(0,0,0,0),0,0,0,0)).2.1.2.2.1) ((f.getD e.toNat (false,(0,0,0,0),0,0,0,0)).2.1.2.2.2)).bind fun j =>
 some (Sum.inl (j.1,j.2.1,j.2.2.1,j.2.2.2,(i64.wrap (e+1)))))else none)else none)
 else some (Sum.inr (q,u,v,z)))
def sU(f j:Qj)(q:Int):(Int×Int×Int×Int×Int)→Option ((Int×Int×Int×Int×Int)⊕Z2):=fun(v,z,A,B,e) =>
 (if(decide (e<(f.length:Int)))=true then((hN ((j.getD q.toNat (0,0,0,0)).1) ((j.getD q.toNat (0,0,0,0)).2.1) ((j.getD q.toNat (0,0,0,0)).2.2.1) ((j.getD q.toNat (0,0,0,0)).2.2.2) e).bind fun C =>
 (((if C=true then(if 0≤e∧e<(f.length:Int)then(if e.toNat<f.length then((dn v z A B ((f.getD e.toNat (0,0,0,0)).1) ((f.getD e.toNat (0,0,0,0)).2.1) ((f.getD e.toNat (0,0,0,0)).2.2.1) ((f.getD e.toNat (0,0,0,0)).2.2.2)).bind fun u =>
 some ((u.1,u.2.1,u.2.2.1,u.2.2.2)))else none)else none)
 else some ((v,z,A,B)))).bind fun(D,E,I,J)=>some (Sum.inl (D,E,I,J,(i64.wrap (e+1))))))
 else some (Sum.inr (v,z,A,B)))
def sb(f:List ug)(j:Qj)(q:Int):(Int×Int)→Option ((Int×Int)⊕(Int)):=fun(u,e) =>
 (if(decide (e<(f.length:Int)))=true then(if 0≤e∧e<(f.length:Int)then(if e.toNat<f.length then(((if((f.getD e.toNat (false,(0,0,0,0),0,0,0,0)).1)=true then some (true)
 else((nX ((j.getD q.toNat (0,0,0,0)).1) ((j.getD q.toNat (0,0,0,0)).2.1) ((j.getD q.toNat (0,0,0,0)).2.2.1) ((j.getD q.toNat (0,0,0,0)).2.2.2) ((f.getD e.toNat (false,(0,0,0,0),0,0,0,0)).2.2.1) ((f.getD e.toNat (false,(0,0,0,0),0,0,0,0)).2.2.2.1) ((f.getD e.toNat (false,(0,0,0,0),0,0,0,0)).2.2.2.2.1) ((f.getD e.toNat (false,(0,0,0,0),0,0,0,0)).2.2.2.2.2)).bind fun v =>
 some (v)))).bind fun z=>(((if z=true then(if 0≤e then some ((bitsOf .or .u32 u (u32.wrap (1*2 ^ (min e.toNat u32.bits)))))else none)
 else some (u))).bind fun A=>some (Sum.inl (A,(i64.wrap (e+1))))))else none)else none)
 else some (Sum.inr u))
def sv(v:QK)(A B C D z:Int):(Int×Int×Int×Int×Int)→Option ((Int×Int×Int×Int×Int)⊕Z2):=fun(f,j,q,u,e) =>
 (if(decide (e<(v.length:Int)))=true then(if 0≤e∧e<(v.length:Int)then(if e.toNat<v.length then((((hN A B C D e).bind fun E =>
 (if E=true then(if 0≤z then some (((bitsOf .and .u32 (Int.fdiv (v.getD e.toNat 0) (2 ^ (min z.toNat u32.bits))) (1:Int)) == 1))else none)
 else some (false)))).bind fun I=>(((if I=true then((iI e f j q u).bind fun(J,L,M,N) =>
 some ((J,L,M,N)))
 else some ((f,j,q,u)))).bind fun(O,V,X,Y)=>some (Sum.inl (O,V,X,Y,(i64.wrap (e+1))))))else none)else none)
 else some (Sum.inr (f,j,q,u)))
def sM(X:Int)(V:QK)(B C D E:Int):(Qj×(List (Z2×Int))×QK×Int)→Option ((Qj×(List (Z2×Int))×QK×Int)⊕((Qj×(List (Z2×Int))×QK)⊕(FO×Int))):=fun(e,z,A,f) =>
 (if(decide (f<X))=true then((iter (sv V B C D E f) (0,0,0,0,0)).bind fun(j,q,u,v)=>(((if(!((aT mI z (j,q,u,v)).isSome))=true then(if(decide ((e.length:Int)≥300))=true then some ((Sum.inr ((([]:QZ),([]:QK)),27)))
 else(if(e.length+([(j,q,u,v)]:Qj).length)*32≤140737488355328∧e.length+([(j,q,u,v)]:Qj).length≤9223372036854775807 then some ((Sum.inl ((e++([(j,q,u,v)]:Qj)),(cq mI z (j,q,u,v) (e.length:Int)),(e.length:Int))))else none))
 else some ((Sum.inl (e,z,((aT mI z (j,q,u,v)).getD 0)))))).bind fun(I:((Qj×(List (Z2×Int))×Int)⊕(FO×Int)))=>match I with
 | .inl (J,L,M)=>(if 0≤f∧f<(A.length:Int)then(if f.toNat<A.length then some (Sum.inl (J,L,(A.set f.toNat M),(i64.wrap (f+1))))else none)else none)
 | .inr ((N,O))=>some (Sum.inr (Sum.inr (N,O)))))
 else some (Sum.inr (Sum.inl (e,z,A))))
def tp(z:Int)(O:QK)(V:Qj)(X:List ug)(Y Z a1 a2:Int):(QZ×QK×Qj×(List (Z2×Int))×Int)→Option ((QZ×QK×Qj×(List (Z2×Int))×Int)⊕(FO⊕(FO×Int))):=fun(j,q,f,A,e) =>
 (if(decide (e<(f.length:Int)))=true then(if 0≤e∧e<(f.length:Int)then(if e.toNat<f.length then((iter (sU V f e) (Y,Z,a1,a2,0)).bind fun(B,C,D,E)=>((iter (sb X f e) (0,0)).bind fun u=>(if 0≤z∧z≤z∧8*z≤281474976710656∧z≤9223372036854775807 then((iter (sM z O B C D E) (f,A,(List.replicate z.toNat (0:Int)),0)).bind fun(I:((Qj×(List (Z2×Int))×QK)⊕(FO×Int)))=>match I with
 | .inl (J,L,v)=>(if(j.length+([v]:QZ).length)*24≤140737488355328∧j.length+([v]:QZ).length≤9223372036854775807 then(if(q.length+([u]:QK).length)*4≤140737488355328∧q.length+([u]:QK).length≤9223372036854775807 then some (Sum.inl ((j++([v]:QZ)),(q++([u]:QK)),J,L,(i64.wrap (e+1))))else none)else none)
 | .inr ((M,N))=>some (Sum.inr (Sum.inr (M,N))))else none)))else none)else none)
 else some (Sum.inr (Sum.inl (j,q))))
def nt(L:XZ)(z:Int):Option (FO×Int) :=
 (((if(decide (z<1))=true then some (true)
 else(if(decide (z > 24))=true then some (true)
 else some ((decide ((L.length:Int) > 24)))))).bind fun v1=>(if v1=true then some ((([]:QZ),([]:QK)),2)
 else((iter (sn L) (([]:QK),([]:Qj),false,([]:List ug),0)).bind fun(A,B,C,e)=>(if C=true then some ((([]:QZ),([]:QK)),26)
 else((iter (rZ e) (0,0,0,0,0)).bind fun(D,E,I,J)=>((iter (tp z A B e D E I J) (([]:QZ),([]:QK),([(0,0,0,0)]:Qj),(cq mI ([]:List (Z2×Int)) (0,0,0,0) (0:Int)),0)).bind fun(f:(FO⊕(FO×Int)))=>match f with
 | .inl (j,q)=>some ((j,q),0)
 | .inr ((u,v))=>some (u,v)))))))
theorem tX(b5:Bool){d1:XZ}{Z:Int}{dk:FO×Int}(h:nt d1 Z=some dk):
  Pure Tryz.prog 84 [.p b5 (.slice (.tree .u8 .u32)) d1,.i64 Z] (aM (bg false [⟨DW,dk.1⟩,⟨(.int .i64),dk.2⟩])):=by
 refine PB Tryz.func84 (fun Bw w0=>?_);unfold nt at h;refine G (af (af (bm h (fun v1=>aA [(0,.p b5 (.slice (.tree .u8 .u32)) d1),(1,.i64 Z),(4,.adr 0 0 2 0),(40,.bo v1)] [(0,.box [.nils,.nils])] 1) (fun v1 h=>?_) (fun v1 h=>?_))))
 ·rcases aI h with⟨B5,h⟩ | ⟨B5,h⟩
  ·exact bq ⟨[(2,true),(5,true)],[]⟩ [(3,5,oc B5)] (eN h (gg [] [0]))
  rcases aI h with⟨B6,h⟩ | ⟨B6,h⟩
  ·exact bq ⟨[(2,false),(5,false),(6,true),(10,true)],[]⟩ [(3,4,an B5),(5,5,oc B5),(7,10,oc B6)] (eN h (gg [] [0]))
  exact bq ⟨[(2,false),(5,false),(6,false),(10,false)],[]⟩ [(3,4,an B5),(5,5,oc B5),(7,9,an B6),(10,10,oc B6)] (eN h (gg [] [0]))
 refine ab (aC h (fun B7 h=>?_) (fun B7 h=>?_))
 ·refine G (au (ah ?_));obtain rfl:=sI h;exact RI [DW,(.int .i64)]
 refine ae (ab (G (G (af (G (ak (cM h (fun(v7,v8,v9,v10,v11)=>aA [(1,.i64 Z),(4,.adr 0 0 2 0),(6,.adr 1 0 3 0),(7,.sl 4),(44,.p b5 (.slice (.tree .u8 .u32)) d1),(45,.i64 (d1.length:Int)),(46,.i64 v11)] (No v9 v7 v8 v10) 5) 0 (fun(z,A,B,v)=>aA [(1,.i64 Z),(4,.adr 0 0 2 0),(6,.adr 1 0 3 0),(7,.sl 4)] (No B z A v) 5) (gg [.nilC 9 0 57 133 (.int .u32),.nilC 9 1 58 271 mI,.nilS 7 59 273 Cs] [0,9,57,58,59]) (fun y o h=>?_) (fun f8 h=>?_))))))))
 ·obtain⟨v7,v8,v9,v10,v11⟩:=y;unfold sn at h;refine G (af (aC h (fun f9 h=>?_) (fun f9 h=>?_)))
  ·refine ae (ab (af (ak (GC 0 h (fun h=>?_)))));obtain⟨⟨gb,gd,gi,gj⟩,q6,h⟩:=aj h;obtain⟨fa,h⟩:=aE h;have V:=(kS 1000 b5 q6);refine bq ⟨[],[(3,(oO V [1,2,3]))]⟩ [(3,3,oc V),(5,5,oc fa)] (ay (ab (Ge ?_)));exact eB h (gg [] [0,1,69,70,85])
  refine aw (aR ?_);exact eX h (gg [] [0,1,2,3,4])
 obtain⟨z,A,B,v⟩:=f8;refine az (ab (af (G (aC h (fun fd h=>?_) (fun fd h=>?_)))))
 ·refine G (au (ah ?_));obtain rfl:=sI h;exact RI [DW,(.int .i64)]
 refine ae (ab (G (af (G (ak (cM h (fun(dm,ds,dt,du,e1)=>aA [(1,.i64 Z),(4,.adr 0 0 2 0),(6,.adr 1 0 3 0),(7,.sl 4),(10,.adr 5 0 4 0),(62,.sl 4),(63,.i64 (v.length:Int)),(64,.i64 e1)] (Nj B z A v dm ds dt du) 6) 2 (fun(L,M,N,O)=>aA [(1,.i64 Z),(4,.adr 0 0 2 0),(6,.adr 1 0 3 0),(7,.sl 4),(10,.adr 5 0 4 0)] (Nj B z A v L M N O) 6) (gg [] [0,1,2,3,4,37]) (fun y o h=>?_) (fun fi h=>?_)))))))
 ·obtain⟨dm,ds,dt,du,e1⟩:=y;unfold rZ at h;refine G (af (aC h (fun fo h=>?_) (fun fo h=>?_)))
  ·refine ae (ab (af (ak ?_)));obtain⟨fr,fs,h⟩:=g2 h;refine GN a0 [(0,0,oc fr),(1,1,oc fs)] ?_;obtain⟨gp,ft,h⟩:=aj h;refine NR 3 (db ft) (ay (ab (Ge ?_)));exact eB h (gg [] [0,1,2,3,4,5])
  refine aw (aR ?_);exact eX h (gg [] [0,1,2,3,4,5])
 obtain⟨L,M,N,O⟩:=fi;refine az (ab (G (G (GN a0 [(0,0,oc Bm),(2,2,oc Bm)] (af (G (ak (kX h (fun(q,u,j,X,f)=>aA [(1,.i64 Z),(4,.adr 0 0 2 0),(6,.adr 1 0 3 0),(7,.sl 4),(10,.adr 5 0 4 0),(13,.adr 6 0 2 0),(14,.sl 9),(15,.mp 10),(16,.i64 f)] (OA B z A v L M N O q u j X) 11) (dL (fK Tryz.f84.ntmps 4 (fun(b6,b7)=>aA [(4,.adr 0 0 2 0),(13,.adr 1 0 2 0)] (NH b6 b7) 4)) (gM tb Tryz.f84.results.toList (fun(b8,b9)=>[⟨DW,b8⟩,⟨(.int .i64),b9⟩]))) (gg [.nilC 6 0 86 134 (.slice (.int .i64)),.nilC 6 1 87 133 (.int .u32)] [0,1,2,3,4,5,6,86,87,22,38]) (fun y o h=>?_) (fun e2 h e σ' hq=>?_)))))))))
 ·obtain⟨q,u,j,X,f⟩:=y;unfold tp at h;refine af (G (aC h (fun e3 h=>?_) (fun e3 h=>?_)))
  ·refine ae (ab (af (ak ?_)));obtain⟨e4,e5,h⟩:=g2 h;refine GN a0 [(2,2,oc e4),(3,3,oc e5)] (G (G (af (G (ak ?_)))));refine cM h (fun(be,bi,bs,bv,a8)=>aA [(1,.i64 Z),(4,.adr 0 0 2 0),(6,.adr 1 0 3 0),(7,.sl 4),(10,.adr 5 0 4 0),(13,.adr 6 0 2 0),(14,.sl 9),(15,.mp 10),(16,.i64 f),(17,.adr 11 0 4 0),(18,.u32 0),(19,.adr 12 0 4 0),(93,.i64 (A.length:Int)),(94,.i64 a8)] (GV B z A v L M N O q u j X ((j.getD f.toNat (0,0,0,0)).1) ((j.getD f.toNat (0,0,0,0)).2.1) ((j.getD f.toNat (0,0,0,0)).2.2.1) ((j.getD f.toNat (0,0,0,0)).2.2.2) be bi bs bv) 13) 6 (fun(C,D,E,I)=>aA [(1,.i64 Z),(4,.adr 0 0 2 0),(6,.adr 1 0 3 0),(7,.sl 4),(10,.adr 5 0 4 0),(13,.adr 6 0 2 0),(14,.sl 9),(15,.mp 10),(16,.i64 f),(17,.adr 11 0 4 0),(18,.u32 0),(19,.adr 12 0 4 0)] (GV B z A v L M N O q u j X ((j.getD f.toNat (0,0,0,0)).1) ((j.getD f.toNat (0,0,0,0)).2.1) ((j.getD f.toNat (0,0,0,0)).2.2.1) ((j.getD f.toNat (0,0,0,0)).2.2.2) C D E I) 13) (gg [] [0,1,2,3,4,5,6,7,8,9,10,75,107]) (fun y o h=>?_) (fun e6 h=>?_)
   ·obtain⟨be,bi,bs,bv,a8⟩:=y;unfold sU at h;refine G (af (aC h (fun e7 h=>?_) (fun e7 h=>?_)))
    ·refine ae (ab (af (ak (G ?_))));obtain⟨fv,e8,h⟩:=aj h;refine GP 2 (iK e8) (bm h (fun(bx,c1,c2,c3)=>aA [(1,.i64 Z),(4,.adr 0 0 2 0),(6,.adr 1 0 3 0),(7,.sl 4),(10,.adr 5 0 4 0),(13,.adr 6 0 2 0),(14,.sl 9),(15,.mp 10),(16,.i64 f),(17,.adr 11 0 4 0),(18,.u32 0),(19,.adr 12 0 4 0),(93,.i64 (A.length:Int)),(94,.i64 a8)] (GV B z A v L M N O q u j X ((j.getD f.toNat (0,0,0,0)).1) ((j.getD f.toNat (0,0,0,0)).2.1) ((j.getD f.toNat (0,0,0,0)).2.2.1) ((j.getD f.toNat (0,0,0,0)).2.2.2) bx c1 c2 c3) 13) (fun c4 h=>?_) (fun c4 h=>?_))
     ·refine aC h (fun e9 h=>?_) (fun e9 h=>?_)
      ·obtain⟨ea,eb,h⟩:=g2 h;obtain⟨fw,ec,h⟩:=aj h;have V:=(db ec);exact mu ⟨[],[(8,(oP V))]⟩ [(6,6,oc ea),(7,7,oc eb),(8,8,oc V)] (eN h (gg [] [0,1,2,3,4,5,6,7,8,9,10,11,12]))
      exact ae (eN h (gg [] [0,1,2,3,4,5,6,7,8,9,10,11,12]))
     obtain⟨bx,c1,c2,c3⟩:=c4;refine ay (ab (Ge ?_));exact eB h (gg [] [0,1,2,3,4,5,6,7,8,9,10,11,12])
    refine aw (aR ?_);exact eX h (gg [] [0,1,2,3,4,5,6,7,8,9,10,11,12])
   obtain⟨C,D,E,I⟩:=e6;refine az (ab (af (G (ak ?_))));refine cM h (fun(a9,a5)=>aA [(1,.i64 Z),(4,.adr 0 0 2 0),(6,.adr 1 0 3 0),(7,.sl 4),(10,.adr 5 0 4 0),(13,.adr 6 0 2 0),(14,.sl 9),(15,.mp 10),(16,.i64 f),(17,.adr 11 0 4 0),(18,.u32 a9),(19,.adr 12 0 4 0),(110,.sl 4),(111,.i64 (v.length:Int)),(112,.i64 a5)] (GV B z A v L M N O q u j X ((j.getD f.toNat (0,0,0,0)).1) ((j.getD f.toNat (0,0,0,0)).2.1) ((j.getD f.toNat (0,0,0,0)).2.2.1) ((j.getD f.toNat (0,0,0,0)).2.2.2) C D E I) 13) 8 (fun Y=>aA [(1,.i64 Z),(4,.adr 0 0 2 0),(6,.adr 1 0 3 0),(7,.sl 4),(10,.adr 5 0 4 0),(13,.adr 6 0 2 0),(14,.sl 9),(15,.mp 10),(16,.i64 f),(18,.u32 Y),(19,.adr 11 0 4 0)] (Od B z A v L M N O q u j X C D E I) 12) (gg [] [0,1,2,3,4,5,6,7,8,9,10,11,12]) (fun y o h=>?_) (fun Y h=>?_)
   ·obtain⟨a9,a5⟩:=y;unfold sb at h;refine G (af (aC h (fun ed h=>?_) (fun ed h=>?_)))
    ·refine ae (ab (af (ak ?_)));obtain⟨ef,eh,h⟩:=g2 h;refine GN a0 [(1,1,oc ef),(2,2,oc eh)] (af (bm h (fun aa=>aA [(1,.i64 Z),(4,.adr 0 0 2 0),(6,.adr 1 0 3 0),(7,.sl 4),(10,.adr 5 0 4 0),(13,.adr 6 0 2 0),(14,.sl 9),(15,.mp 10),(16,.i64 f),(17,.adr 11 0 4 0),(18,.u32 a9),(19,.adr 12 0 4 0),(21,.i64 a5),(110,.sl 4),(111,.i64 (v.length:Int)),(112,.i64 a5),(124,.bo aa)] (GV B z A v L M N O q u j X ((j.getD f.toNat (0,0,0,0)).1) ((j.getD f.toNat (0,0,0,0)).2.1) ((j.getD f.toNat (0,0,0,0)).2.2.1) ((j.getD f.toNat (0,0,0,0)).2.2.2) C D E I) 13) (fun aa h=>?_) (fun aa h=>?_)))
     ·rcases aI h with⟨a6,h⟩ | ⟨a6,h⟩
      ·exact bq ⟨[(2,true),(7,true)],[]⟩ [(3,7,oc a6)] (eN h (gg [] [0,1,2,3,4,5,6,7,8,9,10,11,12]))
      obtain⟨g1,ei,h⟩:=aj h;have V:=(yY ei);exact bq ⟨[(2,false),(7,false)],[(6,(oP V))]⟩ [(3,5,an a6),(6,6,oc (And.intro a6 V)),(7,7,oc a6)] (eN h (gg [] [0,1,2,3,4,5,6,7,8,9,10,11,12]))
     refine ab (bm h (fun ac=>aA [(1,.i64 Z),(4,.adr 0 0 2 0),(6,.adr 1 0 3 0),(7,.sl 4),(10,.adr 5 0 4 0),(13,.adr 6 0 2 0),(14,.sl 9),(15,.mp 10),(16,.i64 f),(17,.adr 11 0 4 0),(18,.u32 ac),(19,.adr 12 0 4 0),(110,.sl 4),(111,.i64 (v.length:Int)),(112,.i64 a5)] (GV B z A v L M N O q u j X ((j.getD f.toNat (0,0,0,0)).1) ((j.getD f.toNat (0,0,0,0)).2.1) ((j.getD f.toNat (0,0,0,0)).2.2.1) ((j.getD f.toNat (0,0,0,0)).2.2.2) C D E I) 13) (fun ac h=>?_) (fun ac h=>?_))
     ·refine aC h (fun ej h=>?_) (fun ej h=>?_)
      ·refine yK 2 h (fun h=>?_);exact eN h (gg [] [0,1,2,3,4,5,6,7,8,9,10,11,12])
      exact ae (eN h (gg [] [0,1,2,3,4,5,6,7,8,9,10,11,12]))
     refine ay (ab (Ge ?_));exact eB h (gg [] [0,1,2,3,4,5,6,7,8,9,10,11,12])
    refine aw (aR ?_);exact eX h (gg [] [0,1,2,3,4,5,6,7,8,9,10,12])
   refine az (ab (GC 1 h (fun h=>af (G (ak ?_)))));refine kX h (fun(a2,a3,a1,J)=>aA [(1,.i64 Z),(4,.adr 0 0 2 0),(6,.adr 1 0 3 0),(7,.sl 4),(10,.adr 5 0 4 0),(13,.adr 6 0 2 0),(14,.sl 9),(15,.mp 10),(16,.i64 f),(18,.u32 Y),(19,.adr 11 0 4 0),(23,.sl 12),(132,.i64 Z),(133,.i64 J)] (MX B z A v L M N O q u a2 a3 C D E I a1) 13) (dL (fK Tryz.f84.ntmps 10 (fun(c5,c6,c7)=>aA [(1,.i64 Z),(4,.adr 0 0 2 0),(6,.adr 1 0 3 0),(7,.sl 4),(10,.adr 5 0 4 0),(13,.adr 6 0 2 0),(14,.sl 9),(15,.mp 10),(16,.i64 f),(18,.u32 Y),(23,.sl 11)] (N5 B z A v L M N O q u c5 c6 c7) 12)) (gM tb Tryz.f84.results.toList (fun(c8,c9)=>[⟨DW,c8⟩,⟨(.int .i64),c9⟩]))) (gg [] [0,1,2,3,4,5,6,7,8,9,10,11,20]) (fun y o h=>?_) (fun ek h e σ' hq=>?_)
   ·obtain⟨a2,a3,a1,J⟩:=y;unfold sM at h;refine G (af (aC h (fun el h=>?_) (fun el h=>?_)))
    ·refine ae (ab (af (ak (G (G (af (G (ak ?_))))))));refine cM h (fun(ad,ax,b1,b2,a7)=>aA [(1,.i64 Z),(4,.adr 0 0 2 0),(6,.adr 1 0 3 0),(7,.sl 4),(10,.adr 5 0 4 0),(13,.adr 6 0 2 0),(14,.sl 9),(15,.mp 10),(16,.i64 f),(18,.u32 Y),(19,.adr 11 0 4 0),(23,.sl 12),(24,.i64 J),(25,.adr 13 0 4 0),(132,.i64 Z),(133,.i64 J),(139,.sl 2),(140,.i64 (z.length:Int)),(141,.i64 a7)] (JT B z A v L M N O q u a2 a3 C D E I a1 ad ax b1 b2) 14) 12 (fun(cc,ch,cp,cs)=>aA [(1,.i64 Z),(4,.adr 0 0 2 0),(6,.adr 1 0 3 0),(7,.sl 4),(10,.adr 5 0 4 0),(13,.adr 6 0 2 0),(14,.sl 9),(15,.mp 10),(16,.i64 f),(18,.u32 Y),(19,.adr 11 0 4 0),(23,.sl 12),(24,.i64 J),(25,.adr 13 0 4 0),(132,.i64 Z),(133,.i64 J)] (JT B z A v L M N O q u a2 a3 C D E I a1 cc ch cp cs) 14) (gg [] [0,1,2,3,4,5,6,7,8,9,10,11,12,37]) (fun y o h=>?_) (fun er h=>?_)
     ·obtain⟨ad,ax,b1,b2,a7⟩:=y;unfold sv at h;refine G (af (aC h (fun es h=>?_) (fun es h=>?_)))
      ·refine ae (ab (af (ak ?_)));obtain⟨et,eu,h⟩:=g2 h;refine GN a0 [(1,1,oc et),(2,2,oc eu)] (af (bm h (fun b3=>aA [(1,.i64 Z),(4,.adr 0 0 2 0),(6,.adr 1 0 3 0),(7,.sl 4),(10,.adr 5 0 4 0),(13,.adr 6 0 2 0),(14,.sl 9),(15,.mp 10),(16,.i64 f),(18,.u32 Y),(19,.adr 11 0 4 0),(23,.sl 12),(24,.i64 J),(25,.adr 13 0 4 0),(26,.i64 a7),(132,.i64 Z),(133,.i64 J),(139,.sl 2),(140,.i64 (z.length:Int)),(141,.i64 a7),(155,.bo b3)] (JT B z A v L M N O q u a2 a3 C D E I a1 ad ax b1 b2) 14) (fun b3 h=>?_) (fun b3 h=>?_)))
       ·obtain⟨g5,cx,h⟩:=aj h;rcases aI h with⟨a4,h⟩ | ⟨a4,h⟩
        ·obtain⟨ew,h⟩:=aE h;have V:=(iK cx);exact bq ⟨[(3,true),(9,true)],[(2,(oP V))]⟩ [(2,2,oc V),(4,5,an a4),(6,6,oc (And.intro a4 ew)),(7,8,an a4),(9,9,oc a4)] (eN h (gg [] [0,1,2,3,4,5,6,7,8,9,10,11,12,13]))
        have V:=(iK cx);exact bq ⟨[(3,false),(9,false)],[(2,(oP V))]⟩ [(2,2,oc V),(4,9,oc a4)] (eN h (gg [] [0,1,2,3,4,5,6,7,8,9,10,11,12,13]))
       refine ab (bm h (fun(d2,d3,d4,d5)=>aA [(1,.i64 Z),(4,.adr 0 0 2 0),(6,.adr 1 0 3 0),(7,.sl 4),(10,.adr 5 0 4 0),(13,.adr 6 0 2 0),(14,.sl 9),(15,.mp 10),(16,.i64 f),(18,.u32 Y),(19,.adr 11 0 4 0),(23,.sl 12),(24,.i64 J),(25,.adr 13 0 4 0),(132,.i64 Z),(133,.i64 J),(139,.sl 2),(140,.i64 (z.length:Int)),(141,.i64 a7)] (JT B z A v L M N O q u a2 a3 C D E I a1 d2 d3 d4 d5) 14) (fun d6 h=>?_) (fun d6 h=>?_))
       ·refine aC h (fun ey h=>?_) (fun ey h=>?_)
        ·obtain⟨⟨g6,g7,g8,g9⟩,f1,h⟩:=aj h;exact lH 1 [13] (rq f1) (eN h (gg [] [0,1,2,3,4,5,6,7,8,9,10,11,12,13]))
        exact ae (eN h (gg [] [0,1,2,3,4,5,6,7,8,9,10,11,12,13]))
       obtain⟨d2,d3,d4,d5⟩:=d6;refine ay (ab (Ge ?_));exact eB h (gg [] [0,1,2,3,4,5,6,7,8,9,10,11,12,13])
      refine aw (aR ?_);exact eX h (gg [] [0,1,2,3,4,5,6,7,8,9,10,11,12,13])
     obtain⟨cc,ch,cp,cs⟩:=er;refine az (ab (GN a0 [(2,2,oc Bm)] (af (G (EC h (dL (o6 Tryz.f84.ntmps (fun(d7,d8,d9)=>aA [(1,.i64 Z),(4,.adr 0 0 2 0),(6,.adr 1 0 3 0),(7,.sl 4),(10,.adr 5 0 4 0),(13,.adr 6 0 2 0),(14,.sl 9),(15,.mp 10),(16,.i64 f),(18,.u32 Y),(19,.adr 11 0 4 0),(23,.sl 12),(24,.i64 J),(28,.i64 d9),(132,.i64 Z),(133,.i64 J)] (MX B z A v L M N O q u d7 d8 C D E I a1) 13)) (gM tb Tryz.f84.results.toList (fun(dd,de)=>[⟨DW,dd⟩,⟨(.int .i64),de⟩]))) (fun di h=>?_) (fun di h e σ' hq=>?_))))))
     ·refine aC h (fun f2 h=>?_) (fun f2 h=>?_)
      ·refine af (G (G (aC h (fun f3 h=>?_) (fun f3 h=>?_))))
       ·refine G (au ?_);obtain rfl:=sI h;refine ah (aN ?_);exact bK (RI [DW,(.int .i64)])
       refine ae (ab (GN a0 [(3,3,oc Bm)] (yK 3 h (fun h=>?_))));obtain rfl:=sI h;exact bn (cW (gg [] [0,1,2,3,4,5,6,7,8,190,10,11,12]))
      refine ae ?_;obtain rfl:=sI h;exact bn (cW (gg [] [0,1,2,3,4,5,6,7,8,9,10,11,12]))
     rcases di with⟨d7,d8,d9⟩ | ⟨dd,de⟩
     ·obtain⟨rfl,b4⟩:=hq;refine cU ?_ b4;refine ab ?_;obtain⟨f4,f5,h⟩:=g2 h;refine bq a0 [(3,3,oc f4),(4,4,oc f5)] (ay (ab (Ge ?_)));exact eB h (gg [] [0,1,2,3,4,5,6,7,8,9,10,11,12])
     obtain⟨rfl,hr⟩:=hq;obtain rfl:=sI h;refine ah (aB (ah (bL (aN ?_))));exact bK hr
    refine aw (aR ?_);obtain rfl:=sI h;refine eo (bn ?_);exact bT (gg [] [0,1,2,3,4,5,6,7,8,9,10,12])
   rcases ek with⟨c5,c6,c7⟩ | ⟨c8,c9⟩
   ·obtain⟨rfl,b4⟩:=hq;refine cU ?_ b4;refine az (ab ?_);obtain⟨f6,f7,h⟩:=g2 h;refine mu a0 [(4,4,oc f6),(9,9,oc f7)] (ay (ab (Ge ?_)));exact eB h (gg [] [0,1,2,3,4,5,6,44,84,9,10])
   obtain⟨rfl,hr⟩:=hq;obtain rfl:=sI h;refine aB (ah (aB (ah (bL (aN ?_)))));exact bK hr
  refine aw (aR ?_);obtain rfl:=sI h;refine eo (bn ?_);exact bT (gg [] [0,6,7,8])
 rcases e2 with⟨b6,b7⟩ | ⟨b8,b9⟩
 ·obtain⟨rfl,b4⟩:=hq;refine cU ?_ b4;refine az (ab (G (kM [.frzC 0 0,.frzC 0 1] (by kernel_rfl) (au ?_))));obtain rfl:=sI h;exact RI [DW,(.int .i64)]
 obtain⟨rfl,hr⟩:=hq;refine aB (ah ?_);obtain rfl:=sI h;exact hr
def pI(j:QZ)(f:Int):(Int)→Option ((Int)⊕((Unit)⊕(Bool))):=fun e =>
 (if(decide (e<((j.getD f.toNat []).length:Int)))=true then(if 0≤e∧e<((j.getD f.toNat []).length:Int)then(((if(decide (((j.getD f.toNat []).getD e.toNat 0)<0))=true then some (true)
 else some ((decide (((j.getD f.toNat []).getD e.toNat 0)≥(j.length:Int)))))).bind fun q=>(if q=true then some (Sum.inr (Sum.inr false))
 else some (Sum.inl (i64.wrap (e+1)))))else none)
 else some (Sum.inr (Sum.inl ())))
def qg(f:QZ):(Int)→Option ((Int)⊕((Unit)⊕(Bool))):=fun e =>
 (if(decide (e<(f.length:Int)))=true then(if 0≤e∧e<(f.length:Int)then(if 0≤(0:Int)∧0<(f.length:Int)then(if(((f.getD e.toNat []).length:Int) != ((f.getD ((0:Int).toNat) []).length:Int))=true then some (Sum.inr (Sum.inr false))
 else((iter (pI f e) (0:Int)).bind fun(j:((Unit)⊕(Bool)))=>match j with
 | .inl _=>some (Sum.inl (i64.wrap (e+1)))
 | .inr (q)=>some (Sum.inr (Sum.inr q))))else none)else none)
 else some (Sum.inr (Sum.inl ())))
def mB(e:QZ)(f:QK):Option (Bool) :=
 (((if((e.length:Int) == 0)=true then some (true)
 else some (((e.length:Int) != (f.length:Int))))).bind fun v1=>(if v1=true then some false
 else((iter (qg e) (0:Int)).bind fun(j:((Unit)⊕(Bool)))=>match j with
 | .inl _=>some true
 | .inr (q)=>some q)))
theorem xO(f u:Bool){j:QZ}{z:QK}{D:Bool}(h:mB j z=some D):
  Pure Tryz.prog 122 [.agg [.p f (.slice (.slice (.int .i64))) j,.p u (.slice (.int .u32)) z]] (aM (bg false [⟨.bool,D⟩])):=by
 refine PB Tryz.func122 (fun Bw w0=>?_);unfold mB at h;refine G (af (af (bm h (fun v1=>aA [(1,.adr 0 0 2 0),(19,.bo v1)] (IZ f j u z) 1) (fun v1 h=>?_) (fun v1 h=>?_))))
 ·rcases aI h with⟨I,h⟩ | ⟨I,h⟩
  ·exact bq ⟨[(4,true),(12,true)],[]⟩ [(5,12,oc I)] (eN h (gg [] [0]))
  exact bq ⟨[(4,false),(12,false)],[]⟩ [(5,11,an I),(12,12,oc I)] (eN h (gg [] [0]))
 refine ab (aC h (fun Y h=>?_) (fun Y h=>?_))
 ·refine G (au (ah ?_));obtain rfl:=sI h;exact RI [.bool]
 refine ae (ab (af (G (ak (kX h (fun q=>aA [(1,.adr 0 0 2 0),(21,.p f (.slice (.slice (.int .i64))) j),(22,.i64 (j.length:Int)),(23,.i64 q)] (IZ f j u z) 1) (dL (fK Tryz.f122.ntmps 0 (fun _=>aA [] [] 0)) (gM tb Tryz.f122.results.toList (fun V=>[⟨.bool,V⟩]))) (gg [] [0]) (fun q o h=>?_) (fun Z h e σ' E=>?_))))))
 ·unfold qg at h;refine G (af (aC h (fun J h=>?_) (fun J h=>?_)))
  ·refine ae (ab (af (ak (GC 0 h (fun h=>af (GC 4 h (fun h=>aC h (fun L h=>?_) (fun L h=>?_))))))))
   ·refine G (au ?_);obtain rfl:=sI h;refine ah (aB (ah (bL (aN ?_))));exact bK (RI [.bool])
   refine ae (ab (G (ak (kX h (fun A=>aA [(1,.adr 0 0 2 0),(21,.p f (.slice (.slice (.int .i64))) j),(22,.i64 (j.length:Int)),(23,.i64 q),(35,.p f (.slice (.int .i64)) (j.getD q.toNat [])),(36,.i64 ((j.getD q.toNat []).length:Int)),(37,.i64 A)] (IZ f j u z) 1) (dL (fK Tryz.f122.ntmps 2 (fun _=>aA [(1,.adr 0 0 2 0),(21,.p f (.slice (.slice (.int .i64))) j),(22,.i64 (j.length:Int)),(23,.i64 q)] (IZ f j u z) 1)) (gM tb Tryz.f122.results.toList (fun X=>[⟨.bool,X⟩]))) (gg [] [0]) (fun A o h=>?_) (fun r7 h e σ' E=>?_)))))
   ·unfold pI at h;refine G (af (aC h (fun M h=>?_) (fun M h=>?_)))
    ·refine ae (ab (af (ak (GC 0 h (fun h=>af (bm h (fun B=>aA [(1,.adr 0 0 2 0),(21,.p f (.slice (.slice (.int .i64))) j),(22,.i64 (j.length:Int)),(23,.i64 q),(35,.p f (.slice (.int .i64)) (j.getD q.toNat [])),(36,.i64 ((j.getD q.toNat []).length:Int)),(37,.i64 A),(49,.bo B)] (IZ f j u z) 1) (fun B h=>?_) (fun B h=>?_)))))))
     ·rcases aI h with⟨v,h⟩ | ⟨v,h⟩
      ·exact bq ⟨[(2,true),(8,true)],[]⟩ [(3,8,oc v)] (eN h (gg [] [0]))
      exact bq ⟨[(2,false),(8,false)],[]⟩ [(3,7,an v),(8,8,oc v)] (eN h (gg [] [0]))
     refine ab (aC h (fun N h=>?_) (fun N h=>?_))
     ·refine G (au ?_);obtain rfl:=sI h;refine aB (ah (bL (aN ?_)));exact bK (RI [.bool])
     refine ae (ay (ab (Ge ?_)));exact eB h (gg [] [0])
    refine aw (aR ?_);obtain rfl:=sI h;refine eo (bn ?_);exact bT (gg [] [0])
   rcases r7 with _ | X
   ·obtain⟨rfl,C⟩:=E;refine cU ?_ C;refine az (ay (ab (Ge ?_)));exact eB h (gg [] [0])
   obtain⟨rfl,O⟩:=E;obtain rfl:=sI h;refine aB (aB (ah (bL (aN ?_))));exact bK O
  refine aw (aR ?_);obtain rfl:=sI h;refine eo (bn ?_);exact bT (gg [] [])
 rcases Z with _ | V
 ·obtain⟨rfl,C⟩:=E;refine cU ?_ C;refine az (ab (G (au ?_)));obtain rfl:=sI h;exact RI [.bool]
 obtain⟨rfl,O⟩:=E;refine aB (ah ?_);obtain rfl:=sI h;exact O
def iM(j:Int)(u:QZ)(q e:QK):Option QK :=
 (if 0≤j∧j<(q.length:Int)then(if(e.length+([(i64.wrap (q.getD j.toNat 0))]:QK).length)*8≤140737488355328∧e.length+([(i64.wrap (q.getD j.toNat 0))]:QK).length≤9223372036854775807 then some (e++([(i64.wrap (q.getD j.toNat 0))]:QK))else none)else none)
theorem rA(j q:Bool){u:Int}{z:QZ}{v e f:QK}(h:iM u z v e=some f):
  gN Tryz.prog 124 [.i64 u,.sl 0,.fad true [.p j (.slice (.slice (.int .i64))) z,.p q (.slice (.int .u32)) v] 0] [(0,.arr 3 (.int .i64) e)] (.sl 1) [(1,.arr 3 (.int .i64) f)]:=by
 refine OB Tryz.func124 (fun Bw w0=>?_);unfold iM at h;refine G ?_;obtain⟨A,B,h⟩:=g2 h;refine GN a0 [(4,4,oc A),(8,8,oc B)] (au ?_);obtain rfl:=sI h;exact RO [none] [] [0,73] [(5,.sl 1)] [(1,.arr 3 (.int .i64) (e++([(i64.wrap (v.getD u.toNat 0))]:QK)))] 2 1
def jz(f:QK):ua→Option (ua⊕QK):=fun(j,e) =>
 (if(decide (e<(f.length:Int)))=true then(if 0≤e∧e<(f.length:Int)then(if e.toNat<f.length then(if 0≤(8:Int)then(if 0≤(16:Int)then(if 0≤(24:Int)then(if(j.length+([(u8.wrap (f.getD e.toNat 0)),(u8.wrap (Int.fdiv (f.getD e.toNat 0) (2 ^ (min (8:Int).toNat i64.bits)))),(u8.wrap (Int.fdiv (f.getD e.toNat 0) (2 ^ (min (16:Int).toNat i64.bits)))),(u8.wrap (Int.fdiv (f.getD e.toNat 0) (2 ^ (min (24:Int).toNat i64.bits))))]:QK).length)*1≤140737488355328∧j.length+([(u8.wrap (f.getD e.toNat 0)),(u8.wrap (Int.fdiv (f.getD e.toNat 0) (2 ^ (min (8:Int).toNat i64.bits)))),(u8.wrap (Int.fdiv (f.getD e.toNat 0) (2 ^ (min (16:Int).toNat i64.bits)))),(u8.wrap (Int.fdiv (f.getD e.toNat 0) (2 ^ (min (24:Int).toNat i64.bits))))]:QK).length≤9223372036854775807 then some (Sum.inl ((j++([(u8.wrap (f.getD e.toNat 0)),(u8.wrap (Int.fdiv (f.getD e.toNat 0) (2 ^ (min (8:Int).toNat i64.bits)))),(u8.wrap (Int.fdiv (f.getD e.toNat 0) (2 ^ (min (16:Int).toNat i64.bits)))),(u8.wrap (Int.fdiv (f.getD e.toNat 0) (2 ^ (min (24:Int).toNat i64.bits))))]:QK)),(i64.wrap (e+1))))else none)else none)else none)else none)else none)else none)
 else some (Sum.inr j))
def pU(z:Int)(A:QZ)(B:QK):(XX×QK×QK×Int)→Option ((XX×QK×QK×Int)⊕QK):=fun(f,v20,q,e) =>
 (if(decide (e<z))=true then(if 0≤(0:Int)∧0≤(q.length:Int)then((iM e A B (q.take (0:Int).toNat)).bind fun v =>
 ((iter (jz v) (([]:QK),0)).bind fun j=>(((if(!((aT .str f (bytesOf j)).isSome))=true then some (((cq .str f (bytesOf j) (f.length:Int)),(f.length:Int)))
 else some ((f,((aT .str f (bytesOf j)).getD 0))))).bind fun(u,v30)=>(if 0≤e∧e<(v20.length:Int)then(if e.toNat<v20.length then some (Sum.inl (u,(v20.set e.toNat v30),v,(i64.wrap (e+1))))else none)else none))))else none)
 else some (Sum.inr v20))
def mR(e:Int)(q:QZ)(u:QK):Option QK :=
 (if 0≤e∧e≤e∧8*e≤281474976710656∧e≤9223372036854775807 then((iter (pU e q u) (([]:XX),(List.replicate e.toNat (0:Int)),([]:QK),0)).bind fun j=>some j)else none)
theorem xq(f j:Bool){u:Int}{v:QZ}{z A:QK}(h:mR u v z=some A):
  Pure Tryz.prog 123 [.i64 u,.fn 124 [.fad true [.p f (.slice (.slice (.int .i64))) v,.p j (.slice (.int .u32)) z] 0]] (aM (bg false [⟨(.slice (.int .i64)),A⟩])):=by
 refine PB Tryz.func123 (fun Bw w0=>?_);unfold mR at h;refine G (G (GC 1 h (fun h=>G (af (G (ak (cM h (fun(q,v20,B,e)=>aA [(1,.fn 124 [.fad true [.p f (.slice (.slice (.int .i64))) v,.p j (.slice (.int .u32)) z] 0]),(5,.mp 0),(6,.sl 1),(7,.sl 2),(17,.i64 u),(18,.i64 e)] (J6 q v20 B) 3) 0 (fun C=>aA [(6,.sl 0)] [(0,.arr 3 (.int .i64) C)] 1) (gg [.nilS 7 72 3 (.int .i64)] [8,32,72]) (fun y o h=>?_) (fun C h=>?_))))))))
 ·obtain⟨q,v20,B,e⟩:=y;unfold pU at h;refine G (af (aC h (fun a2 h=>?_) (fun a2 h=>?_)))
  ·refine ae (ab (af (ak (G ?_))));obtain⟨a3,h⟩:=aE h;obtain⟨r8,q6,h⟩:=aj h;have D:=(rA f j q6);refine GN ⟨[],[(4,(oO D [51]))]⟩ [(3,3,oc a3),(4,4,oc D)] (G (af (G (ak (cM h (fun(E,I)=>aA [(1,.fn 124 [.fad true [.p f (.slice (.slice (.int .i64))) v,.p j (.slice (.int .u32)) z] 0]),(5,.mp 0),(6,.sl 1),(7,.sl 2),(8,.i64 e),(9,.sl 3),(17,.i64 u),(18,.i64 e),(26,.sl 2),(27,.i64 (r8.length:Int)),(28,.i64 I)] (JR q v20 r8 E) 4) 2 (fun J=>aA [(1,.fn 124 [.fad true [.p f (.slice (.slice (.int .i64))) v,.p j (.slice (.int .u32)) z] 0]),(5,.mp 0),(6,.sl 1),(7,.sl 2),(8,.i64 e),(9,.sl 3),(17,.i64 u),(18,.i64 e)] (JR q v20 r8 J) 4) (gg [.nilS 9 107 5 (.int .u8)] [0,1,59,107]) (fun y o h=>?_) (fun J h=>?_))))))
   ·obtain⟨E,I⟩:=y;unfold jz at h;refine G (af (aC h (fun a4 h=>?_) (fun a4 h=>?_)))
    ·refine ae (ab (af (ak ?_)));obtain⟨L,M,h⟩:=g2 h;refine GN a0 [(0,0,oc L),(1,1,oc M)] ?_;obtain⟨N,O,V,X,h⟩:=g4 h;refine bq a0 [(4,4,oc N),(7,7,oc O),(10,10,oc V),(13,13,oc X)] (ay (ab (Ge ?_)));exact eB h (gg [] [0,1,2,140])
    refine aw (aR ?_);exact eX h (gg [] [0,1,2,3])
   refine az (ab (G (af (G (bm h (fun(Y,v30)=>aA [(1,.fn 124 [.fad true [.p f (.slice (.slice (.int .i64))) v,.p j (.slice (.int .u32)) z] 0]),(5,.mp 0),(6,.sl 1),(7,.sl 2),(8,.i64 e),(12,.i64 v30),(17,.i64 u),(18,.i64 e)] (J6 Y v20 r8) 3) (fun r9 h=>?_) (fun r9 h=>?_))))))
   ·refine aC h (fun a5 h=>?_) (fun a5 h=>?_)
    ·refine G (Ge ?_);exact eN h (gg [] [0,1,2])
    exact ae (eN h (gg [] [0,1,2]))
   obtain⟨Y,v30⟩:=r9;refine ab ?_;obtain⟨Z,a1,h⟩:=g2 h;refine bq a0 [(3,3,oc Z),(4,4,oc a1)] (ay (ab (Ge ?_)));exact eB h (gg [] [0,1,2])
  refine aw (aR ?_);exact eX h (gg [] [1])
 refine az (ab (G (au ?_)));obtain rfl:=sI h;exact RI [(.slice (.int .i64))]
def gr(j:Int)(u:QK)(q:QZ):ua→Option (ua⊕QK):=fun(e,v4) =>
 (if(decide (v4<((q.getD j.toNat []).length:Int)))=true then(if 0≤v4∧v4<((q.getD j.toNat []).length:Int)then(if 0≤((q.getD j.toNat []).getD v4.toNat 0)∧((q.getD j.toNat []).getD v4.toNat 0)<(u.length:Int)then(if(e.length+([(u.getD (((q.getD j.toNat []).getD v4.toNat 0).toNat) 0)]:QK).length)*8≤140737488355328∧e.length+([(u.getD (((q.getD j.toNat []).getD v4.toNat 0).toNat) 0)]:QK).length≤9223372036854775807 then some (Sum.inl ((e++([(u.getD (((q.getD j.toNat []).getD v4.toNat 0).toNat) 0)]:QK)),(i64.wrap (v4+1))))else none)else none)else none)
 else some (Sum.inr e))
def iL(j:Int)(q:QK)(v:QZ)(z e:QK):Option QK :=
 (if 0≤j∧j<(q.length:Int)then(if(e.length+([(q.getD j.toNat 0)]:QK).length)*8≤140737488355328∧e.length+([(q.getD j.toNat 0)]:QK).length≤9223372036854775807 then(if 0≤j∧j<(v.length:Int)then((iter (gr j q v) ((e++([(q.getD j.toNat 0)]:QK)),0)).bind fun u=>some u)else none)else none)else none)
theorem rB(q u B:Bool){z:Int}{C:QK}{A:QZ}{L f v:QK}(h:iL z C A L f=some v):
  gN Tryz.prog 125 [.i64 z,.sl 0,.fad true [.p q (.slice (.int .i64)) C] 0,.fad true [.p u (.slice (.slice (.int .i64))) A,.p B (.slice (.int .u32)) L] 0] [(0,.arr 3 (.int .i64) f)] (.sl 1) [(1,.arr 3 (.int .i64) v)]:=by
 refine OB Tryz.func125 (fun Bw w0=>?_);unfold iL at h;refine G ?_;obtain⟨D,E,h⟩:=g2 h;refine GN a0 [(3,3,oc D),(6,6,oc E)] (af (GC 3 h (fun h=>ak (cM h (fun(j,v4)=>aA [(1,.sl 1),(2,.fad true [.p q (.slice (.int .i64)) C] 0),(20,.p u (.slice (.int .i64)) (A.getD z.toNat [])),(21,.i64 ((A.getD z.toNat []).length:Int)),(22,.i64 v4)] [(1,.arr 3 (.int .i64) j)] 2 1) 0 (fun e=>aA [(1,.sl 1)] [(1,.arr 3 (.int .i64) e)] 2 1) (gg [] [0,57]) (fun y o h=>?_) (fun e h=>?_)))))
 ·obtain⟨j,v4⟩:=y;unfold gr at h;refine G (af (aC h (fun M h=>?_) (fun M h=>?_)))
  ·refine ae (ab (af (ak (GC 0 h (fun h=>?_)))));obtain⟨I,J,h⟩:=g2 h;refine bq a0 [(3,3,oc I),(6,6,oc J)] (ay (ab (Ge ?_)));exact eB h (gg [] [0,82])
  refine aw (aR ?_);exact eX h (gg [] [0,1])
 refine az (ab (G (au ?_)));obtain rfl:=sI h;exact RO [none] [] [0,1] [(6,.sl 1)] [(1,.arr 3 (.int .i64) e)] 2 1
def mH(f:QK):ua→Option (ua⊕QK):=fun(j,e) =>
 (if(decide (e<(f.length:Int)))=true then(if 0≤e∧e<(f.length:Int)then(if e.toNat<f.length then(if 0≤(8:Int)then(if 0≤(16:Int)then(if 0≤(24:Int)then(if(j.length+([(u8.wrap (f.getD e.toNat 0)),(u8.wrap (Int.fdiv (f.getD e.toNat 0) (2 ^ (min (8:Int).toNat i64.bits)))),(u8.wrap (Int.fdiv (f.getD e.toNat 0) (2 ^ (min (16:Int).toNat i64.bits)))),(u8.wrap (Int.fdiv (f.getD e.toNat 0) (2 ^ (min (24:Int).toNat i64.bits))))]:QK).length)*1≤140737488355328∧j.length+([(u8.wrap (f.getD e.toNat 0)),(u8.wrap (Int.fdiv (f.getD e.toNat 0) (2 ^ (min (8:Int).toNat i64.bits)))),(u8.wrap (Int.fdiv (f.getD e.toNat 0) (2 ^ (min (16:Int).toNat i64.bits)))),(u8.wrap (Int.fdiv (f.getD e.toNat 0) (2 ^ (min (24:Int).toNat i64.bits))))]:QK).length≤9223372036854775807 then some (Sum.inl ((j++([(u8.wrap (f.getD e.toNat 0)),(u8.wrap (Int.fdiv (f.getD e.toNat 0) (2 ^ (min (8:Int).toNat i64.bits)))),(u8.wrap (Int.fdiv (f.getD e.toNat 0) (2 ^ (min (16:Int).toNat i64.bits)))),(u8.wrap (Int.fdiv (f.getD e.toNat 0) (2 ^ (min (24:Int).toNat i64.bits))))]:QK)),(i64.wrap (e+1))))else none)else none)else none)else none)else none)else none)
 else some (Sum.inr j))
def mL(z:Int)(A:QK)(B:QZ)(C:QK):(XX×QK×QK×Int)→Option ((XX×QK×QK×Int)⊕QK):=fun(f,v20,q,e) =>
 (if(decide (e<z))=true then(if 0≤(0:Int)∧0≤(q.length:Int)then((iL e A B C (q.take (0:Int).toNat)).bind fun v =>
 ((iter (mH v) (([]:QK),0)).bind fun j=>(((if(!((aT .str f (bytesOf j)).isSome))=true then some (((cq .str f (bytesOf j) (f.length:Int)),(f.length:Int)))
 else some ((f,((aT .str f (bytesOf j)).getD 0))))).bind fun(u,v30)=>(if 0≤e∧e<(v20.length:Int)then(if e.toNat<v20.length then some (Sum.inl (u,(v20.set e.toNat v30),v,(i64.wrap (e+1))))else none)else none))))else none)
 else some (Sum.inr v20))
def jw(e:Int)(q:QK)(u:QZ)(v:QK):Option QK :=
 (if 0≤e∧e≤e∧8*e≤281474976710656∧e≤9223372036854775807 then((iter (mL e q u v) (([]:XX),(List.replicate e.toNat (0:Int)),([]:QK),0)).bind fun j=>some j)else none)
theorem tM(f j q:Bool){v:Int}{z:QK}{A:QZ}{B C:QK}(h:jw v z A B=some C):
  Pure Tryz.prog 123 [.i64 v,.fn 125 [.fad true [.p f (.slice (.int .i64)) z] 0,.fad true [.p j (.slice (.slice (.int .i64))) A,.p q (.slice (.int .u32)) B] 0]] (aM (bg false [⟨(.slice (.int .i64)),C⟩])):=by
 refine PB Tryz.func123 (fun Bw w0=>?_);unfold jw at h;refine G (G (GC 1 h (fun h=>G (af (G (ak (cM h (fun(u,v20,D,e)=>aA [(1,.fn 125 [.fad true [.p f (.slice (.int .i64)) z] 0,.fad true [.p j (.slice (.slice (.int .i64))) A,.p q (.slice (.int .u32)) B] 0]),(5,.mp 0),(6,.sl 1),(7,.sl 2),(17,.i64 v),(18,.i64 e)] (J6 u v20 D) 3) 0 (fun E=>aA [(6,.sl 0)] [(0,.arr 3 (.int .i64) E)] 1) (gg [.nilS 7 72 3 (.int .i64)] [8,32,72]) (fun y o h=>?_) (fun E h=>?_))))))))
 ·obtain⟨u,v20,D,e⟩:=y;unfold mL at h;refine G (af (aC h (fun a4 h=>?_) (fun a4 h=>?_)))
  ·refine ae (ab (af (ak (G ?_))));obtain⟨a5,h⟩:=aE h;obtain⟨r8,q6,h⟩:=aj h;have I:=(rB f j q q6);refine GN ⟨[],[(4,(oO I [51]))]⟩ [(3,3,oc a5),(4,4,oc I)] (G (af (G (ak (cM h (fun(J,L)=>aA [(1,.fn 125 [.fad true [.p f (.slice (.int .i64)) z] 0,.fad true [.p j (.slice (.slice (.int .i64))) A,.p q (.slice (.int .u32)) B] 0]),(5,.mp 0),(6,.sl 1),(7,.sl 2),(8,.i64 e),(9,.sl 3),(17,.i64 v),(18,.i64 e),(26,.sl 2),(27,.i64 (r8.length:Int)),(28,.i64 L)] (JR u v20 r8 J) 4) 2 (fun M=>aA [(1,.fn 125 [.fad true [.p f (.slice (.int .i64)) z] 0,.fad true [.p j (.slice (.slice (.int .i64))) A,.p q (.slice (.int .u32)) B] 0]),(5,.mp 0),(6,.sl 1),(7,.sl 2),(8,.i64 e),(9,.sl 3),(17,.i64 v),(18,.i64 e)] (JR u v20 r8 M) 4) (gg [.nilS 9 107 5 (.int .u8)] [0,1,59,107]) (fun y o h=>?_) (fun M h=>?_))))))
   ·obtain⟨J,L⟩:=y;unfold mH at h;refine G (af (aC h (fun a6 h=>?_) (fun a6 h=>?_)))
    ·refine ae (ab (af (ak ?_)));obtain⟨N,O,h⟩:=g2 h;refine GN a0 [(0,0,oc N),(1,1,oc O)] ?_;obtain⟨V,X,Y,Z,h⟩:=g4 h;refine bq a0 [(4,4,oc V),(7,7,oc X),(10,10,oc Y),(13,13,oc Z)] (ay (ab (Ge ?_)));exact eB h (gg [] [0,1,2,140])
    refine aw (aR ?_);exact eX h (gg [] [0,1,2,3])
   refine az (ab (G (af (G (bm h (fun(a1,v30)=>aA [(1,.fn 125 [.fad true [.p f (.slice (.int .i64)) z] 0,.fad true [.p j (.slice (.slice (.int .i64))) A,.p q (.slice (.int .u32)) B] 0]),(5,.mp 0),(6,.sl 1),(7,.sl 2),(8,.i64 e),(12,.i64 v30),(17,.i64 v),(18,.i64 e)] (J6 a1 v20 r8) 3) (fun r9 h=>?_) (fun r9 h=>?_))))))
   ·refine aC h (fun a7 h=>?_) (fun a7 h=>?_)
    ·refine G (Ge ?_);exact eN h (gg [] [0,1,2])
    exact ae (eN h (gg [] [0,1,2]))
   obtain⟨a1,v30⟩:=r9;refine ab ?_;obtain⟨a2,a3,h⟩:=g2 h;refine bq a0 [(3,3,oc a2),(4,4,oc a3)] (ay (ab (Ge ?_)));exact eB h (gg [] [0,1,2])
  refine aw (aR ?_);exact eX h (gg [] [1])
 refine az (ab (G (au ?_)));obtain rfl:=sI h;exact RI [(.slice (.int .i64))]
def re(f:QK):(Int×Int)→Option ((Int×Int)⊕(Int)):=fun(j,e) =>
 (if(decide (e<(f.length:Int)))=true then(if 0≤e∧e<(f.length:Int)then some (Sum.inl ((max j (f.getD e.toNat 0)),(i64.wrap (e+1))))else none)
 else some (Sum.inr j))
def jQ(e:QK):Option (Int) :=
 ((iter (re e) (0,0)).bind fun f=>some f)
theorem m6(e:Bool){j:QK}{f:Int}(h:jQ j=some f):
  Pure Tryz.prog 126 [.p e (.slice (.int .i64)) j] (aM (bg false [⟨(.int .i64),f⟩])):=by
 refine PB Tryz.func126 (fun Bw w0=>?_);unfold jQ at h;refine G (G (af (G (ak (cM h (fun(q,u)=>aA [(3,.i64 q),(6,.p e (.slice (.int .i64)) j),(7,.i64 (j.length:Int)),(8,.i64 u)] [] 0) 0 (fun v=>aA [(3,.i64 v)] [] 0) (gg [] []) (fun y o h=>?_) (fun v h=>?_))))))
 ·obtain⟨q,u⟩:=y;unfold re at h;refine G (af (aC h (fun z h=>?_) (fun z h=>?_)))
  ·refine ae (ab (af (ak (GC 0 h (fun h=>Ge (ay (ab (Ge ?_))))))));exact eB h (gg [] [])
  refine aw (aR ?_);exact eX h (gg [] [])
 refine az (ab (G (au ?_)));obtain rfl:=sI h;exact RI [(.int .i64)]
def kN(f:Int):ua→Option (ua⊕QK):=fun(e,v4) =>
 (if(decide (v4<((List.replicate (i64.wrap (f+1)).toNat (0:Int)).length:Int)))=true then(if 0≤v4∧v4<(e.length:Int)then(if v4.toNat<e.length then some (Sum.inl ((e.set v4.toNat (-1:Int)),(i64.wrap (v4+1))))else none)else none)
 else some (Sum.inr e))
def kF(q:QZ)(u f:QK)(j:Int):(QK×QK×QK×Int)→Option ((QK×QK×QK×Int)⊕(QK×QK×QK)):=fun(v,z,B,e) =>
 (if(decide (e<((q.getD ((f.getD j.toNat 0).toNat) []).length:Int)))=true then(if 0≤e∧e<((q.getD ((f.getD j.toNat 0).toNat) []).length:Int)then(if 0≤((q.getD ((f.getD j.toNat 0).toNat) []).getD e.toNat 0)∧((q.getD ((f.getD j.toNat 0).toNat) []).getD e.toNat 0)<(u.length:Int)then(if 0≤(u.getD (((q.getD ((f.getD j.toNat 0).toNat) []).getD e.toNat 0).toNat) 0)∧(u.getD (((q.getD ((f.getD j.toNat 0).toNat) []).getD e.toNat 0).toNat) 0)<(v.length:Int)then(if(u.getD (((q.getD ((f.getD j.toNat 0).toNat) []).getD e.toNat 0).toNat) 0).toNat<v.length then(((if(decide ((v.getD ((u.getD (((q.getD ((f.getD j.toNat 0).toNat) []).getD e.toNat 0).toNat) 0).toNat) 0)<0))=true then(if 0≤((q.getD ((f.getD j.toNat 0).toNat) []).getD e.toNat 0)∧((q.getD ((f.getD j.toNat 0).toNat) []).getD e.toNat 0)<(u.length:Int)then(if 0≤(u.getD (((q.getD ((f.getD j.toNat 0).toNat) []).getD e.toNat 0).toNat) 0)∧(u.getD (((q.getD ((f.getD j.toNat 0).toNat) []).getD e.toNat 0).toNat) 0)<(v.length:Int)then(if(u.getD (((q.getD ((f.getD j.toNat 0).toNat) []).getD e.toNat 0).toNat) 0).toNat<v.length then(if(z.length+([((q.getD ((f.getD j.toNat 0).toNat) []).getD e.toNat 0)]:QK).length)*8≤140737488355328∧z.length+([((q.getD ((f.getD j.toNat 0).toNat) []).getD e.toNat 0)]:QK).length≤9223372036854775807 then some (((v.set ((u.getD (((q.getD ((f.getD j.toNat 0).toNat) []).getD e.toNat 0).toNat) 0).toNat) (z.length:Int)),(z++([((q.getD ((f.getD j.toNat 0).toNat) []).getD e.toNat 0)]:QK))))else none)else none)else none)else none)
 else some ((v,z)))).bind fun(A,C)=>(if 0≤((q.getD ((f.getD j.toNat 0).toNat) []).getD e.toNat 0)∧((q.getD ((f.getD j.toNat 0).toNat) []).getD e.toNat 0)<(u.length:Int)then(if 0≤(u.getD (((q.getD ((f.getD j.toNat 0).toNat) []).getD e.toNat 0).toNat) 0)∧(u.getD (((q.getD ((f.getD j.toNat 0).toNat) []).getD e.toNat 0).toNat) 0)<(A.length:Int)then(if(u.getD (((q.getD ((f.getD j.toNat 0).toNat) []).getD e.toNat 0).toNat) 0).toNat<A.length then(if(B.length+([(A.getD ((u.getD (((q.getD ((f.getD j.toNat 0).toNat) []).getD e.toNat 0).toNat) 0).toNat) 0)]:QK).length)*8≤140737488355328∧B.length+([(A.getD ((u.getD (((q.getD ((f.getD j.toNat 0).toNat) []).getD e.toNat 0).toNat) 0).toNat) 0)]:QK).length≤9223372036854775807 then some (Sum.inl (A,C,(B++([(A.getD ((u.getD (((q.getD ((f.getD j.toNat 0).toNat) []).getD e.toNat 0).toNat) 0).toNat) 0)]:QK)),(i64.wrap (e+1))))else none)else none)else none)else none))else none)else none)else none)else none)
 else some (Sum.inr (v,z,B)))
def kD(C:QZ)(z D:QK):(QZ×QK×QK×QK×Int)→Option ((QZ×QK×QK×QK×Int)⊕FO):=fun(q,u,A,j,e) =>
 (if(decide (e<(j.length:Int)))=true then(if 0≤e∧e<(j.length:Int)then(if e.toNat<j.length then(if 0≤(j.getD e.toNat 0)∧(j.getD e.toNat 0)<(C.length:Int)then((iter (kF C D j e) (A,j,([]:QK),0)).bind fun(B,f,v)=>(if(q.length+([v]:QZ).length)*24≤140737488355328∧q.length+([v]:QZ).length≤9223372036854775807 then(if 0≤e∧e<(f.length:Int)then(if e.toNat<f.length then(if 0≤(f.getD e.toNat 0)∧(f.getD e.toNat 0)<(z.length:Int)then(if(u.length+([(z.getD ((f.getD e.toNat 0).toNat) 0)]:QK).length)*4≤140737488355328∧u.length+([(z.getD ((f.getD e.toNat 0).toNat) 0)]:QK).length≤9223372036854775807 then some (Sum.inl ((q++([v]:QZ)),(u++([(z.getD ((f.getD e.toNat 0).toNat) 0)]:QK)),B,f,(i64.wrap (e+1))))else none)else none)else none)else none)else none))else none)else none)else none)
 else some (Sum.inr (q,u)))
def lj(v:QZ)(z e:QK):Option FO :=
 ((jQ e).bind fun f =>
 (if 0≤(i64.wrap (f+1))∧(i64.wrap (f+1))≤(i64.wrap (f+1))∧8*(i64.wrap (f+1))≤281474976710656∧(i64.wrap (f+1))≤9223372036854775807 then((iter (kN f) ((List.replicate (i64.wrap (f+1)).toNat (0:Int)),0)).bind fun j=>(if 0≤(0:Int)∧0<(e.length:Int)then(if 0≤(e.getD ((0:Int).toNat) 0)∧(e.getD ((0:Int).toNat) 0)<(j.length:Int)then(if(e.getD ((0:Int).toNat) 0).toNat<j.length then((iter (kD v z e) (([]:QZ),([]:QK),(j.set ((e.getD ((0:Int).toNat) 0).toNat) 0),([0]:QK),0)).bind fun(q,u)=>some (q,u))else none)else none)else none))else none))
theorem vM(f q j:Bool){v:QZ}{C D:QK}{I:QZ×QK}(h:lj v C D=some I):
  Pure Tryz.prog 127 [.agg [.p f (.slice (.slice (.int .i64))) v,.p q (.slice (.int .u32)) C],.p j (.slice (.int .i64)) D] (aM (bg false [⟨DW,I⟩])):=by
 refine PB Tryz.func127 (fun Bw w0=>?_);unfold lj at h;refine G (G ?_);obtain⟨r2,q2,h⟩:=aj h;obtain⟨c2,h⟩:=aE h;have J:=(m6 j q2);refine GN ⟨[],[(1,(oP J))]⟩ [(1,1,oc J),(3,3,oc c2)] (af (G (ak (cM h (fun(v3,v4)=>aA [(1,.p j (.slice (.int .i64)) D),(2,.adr 0 0 2 0),(4,.adr 1 0 2 0),(5,.adr 2 0 2 0),(6,.sl 3),(18,.i64 ((List.replicate (i64.wrap (r2+1)).toNat (0:Int)).length:Int)),(19,.i64 v4)] (Nq f v q C v3) 4) 0 (fun v5=>aA [(1,.p j (.slice (.int .i64)) D),(2,.adr 0 0 2 0),(4,.adr 1 0 2 0),(5,.adr 2 0 2 0),(6,.sl 3)] (Nq f v q C v5) 4) (gg [] [0,8,16,48]) (fun y o h=>?_) (fun v5 h=>?_)))))
 ·obtain⟨v3,v4⟩:=y;unfold kN at h;refine G (af (aC h (fun B3 h=>?_) (fun B3 h=>?_)))
  ·refine ae (ab (af (ak (G ?_))));obtain⟨b9,be,h⟩:=g2 h;refine bq a0 [(2,2,oc b9),(3,3,oc be)] (ay (ab (Ge ?_)));exact eB h (gg [] [0,1,2,3])
  refine aw (aR ?_);exact eX h (gg [] [0,1,2,3])
 refine az (ab (G ?_));obtain⟨bi,bs,bv,h⟩:=g3 h;refine GN a0 [(2,2,oc bi),(4,4,oc bs),(5,5,oc bv)] (af (G (ak (cM h (fun(z,A,L,u,e)=>aA [(1,.p j (.slice (.int .i64)) D),(2,.adr 0 0 2 0),(4,.adr 1 0 2 0),(5,.adr 2 0 2 0),(6,.sl 5),(8,.sl 6),(9,.i64 e)] (NY f v q C z A L u) 7) 2 (fun(M,N)=>aA [(4,.adr 0 0 2 0),(5,.adr 1 0 2 0)] (NH M N) 4) (gg [.nilC 2 0 76 134 (.slice (.int .i64)),.nilC 2 1 77 133 (.int .u32)] [0,1,2,76,77,3,4]) (fun y o h=>?_) (fun bx h=>?_)))))
 ·obtain⟨z,A,L,u,e⟩:=y;unfold kD at h;refine af (G (aC h (fun c1 h=>?_) (fun c1 h=>?_)))
  ·refine ae (ab (af (ak (G (af ?_)))));obtain⟨O,V,X,h⟩:=g3 h;refine GD a0 [(4,4,oc O),(5,5,oc V),(6,6,oc X)] (ak (cM h (fun(Y,Z,E,B)=>aA [(1,.p j (.slice (.int .i64)) D),(2,.adr 0 0 2 0),(4,.adr 1 0 2 0),(5,.adr 2 0 2 0),(6,.sl 5),(8,.sl 6),(9,.i64 e),(10,.sl 7),(45,.p f (.slice (.int .i64)) (v.getD ((u.getD e.toNat 0).toNat) [])),(46,.i64 ((v.getD ((u.getD e.toNat 0).toNat) []).length:Int)),(47,.i64 B)] (Lo f v q C z A Y Z E) 8) 4 (fun(a1,a2,a3)=>aA [(1,.p j (.slice (.int .i64)) D),(2,.adr 0 0 2 0),(4,.adr 1 0 2 0),(5,.adr 2 0 2 0),(6,.sl 5),(8,.sl 6),(9,.i64 e),(10,.sl 7)] (Lo f v q C z A a1 a2 a3) 8) (gg [.nilS 10 127 3 (.int .i64)] [0,1,2,3,4,5,6,127]) (fun y o h=>?_) (fun c3 h=>?_)))
   ·obtain⟨Y,Z,E,B⟩:=y;unfold kF at h;refine G (af (aC h (fun c4 h=>?_) (fun c4 h=>?_)))
    ·refine ae (ab (af (ak (GC 0 h (fun h=>af ?_)))));obtain⟨a4,a5,a6,h⟩:=g3 h;refine GN a0 [(3,3,oc a4),(5,5,oc a5),(6,6,oc a6)] (bm h (fun(a7,a8)=>aA [(1,.p j (.slice (.int .i64)) D),(2,.adr 0 0 2 0),(4,.adr 1 0 2 0),(5,.adr 2 0 2 0),(6,.sl 5),(8,.sl 6),(9,.i64 e),(10,.sl 7),(12,.i64 ((v.getD ((u.getD e.toNat 0).toNat) []).getD B.toNat 0)),(45,.p f (.slice (.int .i64)) (v.getD ((u.getD e.toNat 0).toNat) [])),(46,.i64 ((v.getD ((u.getD e.toNat 0).toNat) []).length:Int)),(47,.i64 B)] (Lo f v q C z A a7 a8 E) 8) (fun a9 h=>?_) (fun a9 h=>?_))
     ·refine aC h (fun c5 h=>?_) (fun c5 h=>?_)
      ·obtain⟨aa,ac,ad,h⟩:=g3 h;refine GN a0 [(3,3,oc aa),(7,7,oc ac),(8,8,oc ad)] (yK 3 h (fun h=>?_));exact eN h (gg [] [0,1,2,3,4,5,200,7])
      exact ae (eN h (gg [] [0,1,2,3,4,5,6,7]))
     obtain⟨a7,a8⟩:=a9;refine ab ?_;obtain⟨ax,b1,b2,b3,h⟩:=g4 h;refine bq a0 [(4,4,oc ax),(6,6,oc b1),(7,7,oc b2),(9,9,oc b3)] (ay (ab (Ge ?_)));exact eB h (gg [] [0,1,2,3,4,5,6,80])
    refine aw (aR ?_);exact eX h (gg [] [0,1,2,3,4,5,6,7])
   obtain⟨a1,a2,a3⟩:=c3;refine az (ab ?_);obtain⟨b4,b5,b6,b7,h⟩:=g4 h;obtain⟨b8,h⟩:=aE h;refine mu a0 [(4,4,oc b4),(11,11,oc b5),(12,12,oc b6),(13,13,oc b7),(16,16,oc b8)] (ay (ab (Ge ?_)));exact eB h (gg [] [0,1,2,40,136,5,6])
  refine aw (aR ?_);exact eX h (gg [] [1,2,3,4])
 obtain⟨M,N⟩:=bx;refine az (ab (G (kM [.frzC 0 0,.frzC 0 1] (by kernel_rfl) (au ?_))));obtain rfl:=sI h;exact RI [DW]
def mU(u:QZ)(v:QK):QK→Option (QK⊕QK):=fun e =>
 ((jw (e.length:Int) e u v).bind fun f =>
 ((jQ f).bind fun j =>
 ((jQ e).bind fun q =>
 (if(j == q)=true then some (Sum.inr e)
 else some (Sum.inl f)))))
def lO(q:QZ)(f:QK):Option (FO×Int) :=
 ((mB q f).bind fun u =>
 (if(!u)=true then some ((([]:QZ),([]:QK)),2)
 else((mR (f.length:Int) q f).bind fun v =>
 ((iter (mU q f) v).bind fun e=>((lj q f e).bind fun j =>
 some ((j.1,j.2),0))))))
theorem qS(e f:Bool){A:QZ}{B:QK}{u:FO×Int}(h:lO A B=some u):
  Pure Tryz.prog 85 [.agg [.p e (.slice (.slice (.int .i64))) A,.p f (.slice (.int .u32)) B]] (aM (bg false [⟨DW,u.1⟩,⟨(.int .i64),u.2⟩])):=by
 refine PB Tryz.func85 (fun Bw w0=>?_);unfold lO at h;refine G (af ?_);obtain⟨Z,J,h⟩:=aj h;refine GP 1 (xO e f J) (aC h (fun L h=>?_) (fun L h=>?_))
 ·refine G (au (ah ?_));obtain rfl:=sI h;exact RI [DW,(.int .i64)]
 refine ae (ab ?_);obtain⟨r4,M,h⟩:=aj h;refine GP 4 (xq e f M) (af (ak (cM h (fun j=>aA [(1,.adr 0 0 2 0),(2,.adr 1 0 2 0),(4,.adr 2 0 1 0)] (ML e A f B j) 3) 0 (fun q=>aA [(1,.adr 0 0 2 0),(2,.adr 1 0 2 0),(4,.adr 2 0 1 0)] (ML e A f B q) 3) (gg [] [0,8,88]) (fun j o h=>?_) (fun q h=>?_))))
 ·unfold mU at h;refine ak ?_;obtain⟨N,C,h⟩:=aj h;refine GP 3 (tM false e f C) (af ?_);obtain⟨O,D,h⟩:=aj h;obtain⟨V,E,h⟩:=aj h;have v:=(m6 false D);have z:=(m6 false E);refine GD ⟨[],[(1,(oP v)),(3,(oP z))]⟩ [(1,1,oc v),(3,3,oc z)] (aC h (fun X h=>?_) (fun X h=>?_))
  ·refine aw (aR (jT rfl ?_));exact eX h (gg [] [0,1,2])
  refine ae (ab (Ge (ay ?_)));exact eB h (gg [] [0,1,2])
 refine az (ab ?_);obtain⟨Y,I,h⟩:=aj h;refine GP 2 (vM e f false I) (au ?_);obtain rfl:=sI h;exact RI [DW,(.int .i64)]
def vb(e:XJ):(XZ×XZ×Int)→Option ((XZ×XZ×Int)⊕(XZ×XZ)):=fun(v4,j,v6) =>
 (if(decide (v6<(e.length:Int)))=true then(if 0≤v6∧v6<(e.length:Int)then(if(v4.length+([(Tree.node (((e.getD v6.toNat (0,(Tree.node 0 0 []),(Tree.node 0 0 []))).2.1).op) (((e.getD v6.toNat (0,(Tree.node 0 0 []),(Tree.node 0 0 []))).2.1).set) (((e.getD v6.toNat (0,(Tree.node 0 0 []),(Tree.node 0 0 []))).2.1).kids))]:XZ).length)*32≤140737488355328∧v4.length+([(Tree.node (((e.getD v6.toNat (0,(Tree.node 0 0 []),(Tree.node 0 0 []))).2.1).op) (((e.getD v6.toNat (0,(Tree.node 0 0 []),(Tree.node 0 0 []))).2.1).set) (((e.getD v6.toNat (0,(Tree.node 0 0 []),(Tree.node 0 0 []))).2.1).kids))]:XZ).length≤9223372036854775807 then((lD 1000 (((e.getD v6.toNat (0,(Tree.node 0 0 []),(Tree.node 0 0 []))).2.2).op) (((e.getD v6.toNat (0,(Tree.node 0 0 []),(Tree.node 0 0 []))).2.2).set) (((e.getD v6.toNat (0,(Tree.node 0 0 []),(Tree.node 0 0 []))).2.2).kids)).bind fun f =>
 (if(j.length+([(Tree.node f.op f.set f.kids)]:XZ).length)*32≤140737488355328∧j.length+([(Tree.node f.op f.set f.kids)]:XZ).length≤9223372036854775807 then some (Sum.inl ((v4++([(Tree.node (((e.getD v6.toNat (0,(Tree.node 0 0 []),(Tree.node 0 0 []))).2.1).op) (((e.getD v6.toNat (0,(Tree.node 0 0 []),(Tree.node 0 0 []))).2.1).set) (((e.getD v6.toNat (0,(Tree.node 0 0 []),(Tree.node 0 0 []))).2.1).kids))]:XZ)),(j++([(Tree.node f.op f.set f.kids)]:XZ)),(i64.wrap (v6+1))))else none))else none)else none)
 else some (Sum.inr (v4,j)))
def tL(z:QQ)(B C:Int)(D:QK)(A:XJ):Option ((Option Z5)×Int) :=
 (if((z.length:Int) == 0)=true then some ((none:Option Z5),22)
 else((iter (vb A) (([]:XZ),([]:XZ),0)).bind fun(E,I)=>((nt E (z.length:Int)).bind fun(e,f) =>
 (if(f != 0)=true then some ((none:Option Z5),f)
 else((nt I (z.length:Int)).bind fun(j,q) =>
 (if(q != 0)=true then some ((none:Option Z5),q)
 else((lO e.1 e.2).bind fun(u,J) =>
 ((lO j.1 j.2).bind fun(v,L) =>
 some ((some ((z,B,C,D,A),(u.1,u.2),v.1,v.2):Option Z5),0)))))))))
theorem CX{q:QQ}{u v:Int}{z:QK}{f:XJ}{e:(Option Z5)×Int}(h:tL q u v z f=some e):
  Pure Tryz.prog 52 [.agg [.p false (.slice .str) q,.u32 u,.u32 v,.p false (.slice (.int .i64)) z,.p false (.slice (.prod (.int .u8) Y8)) f]] (aM (bg false [⟨(.ptr nw),e.1⟩,⟨(.int .i64),e.2⟩])):=by
 refine PB Tryz.func52 (fun Bw w0=>?_);unfold tL at h;refine G (af (G (aC h (fun M h=>?_) (fun M h=>?_))))
 ·refine G (au (ah ?_));obtain rfl:=sI h;exact RI [(.ptr nw),(.int .i64)]
 refine ae (ab (G (af (G (ak (cM h (fun(v4,I,v6)=>aA [(1,.adr 0 0 5 0),(4,.sl 1),(5,.sl 2),(17,.p false (.slice (.prod (.int .u8) Y8)) f),(18,.i64 (f.length:Int)),(19,.i64 v6)] (Ny q u v z f v4 I) 3) 0 (fun(J,L)=>aA [(1,.adr 0 0 5 0),(4,.sl 1),(5,.sl 2)] (Ny q u v z f J L) 3) (gg [.nilS 4 104 210 (.tree .u8 .u32),.nilS 5 105 210 (.tree .u8 .u32)] [0,104,105]) (fun y o h=>?_) (fun N h=>?_)))))))
 ·obtain⟨v4,I,v6⟩:=y;unfold vb at h;refine G (af (aC h (fun O h=>?_) (fun O h=>?_)))
  ·refine ae (ab (af (ak (GC 0 h (fun h=>?_)))));obtain⟨A,h⟩:=aE h;obtain⟨r6,V,h⟩:=aj h;obtain⟨B,h⟩:=aE h;have j:=(tx 1000 false V);refine mu ⟨[],[(8,(oP j))]⟩ [(4,4,oc A),(8,8,oc j),(10,10,oc B)] (ay (ab (Ge ?_)));exact eB h (gg [] [0,75,123])
  refine aw (aR ?_);exact eX h (gg [] [0,1,2])
 obtain⟨J,L⟩:=N;refine az (ab ?_);obtain⟨⟨X,Y⟩,Z,h⟩:=aj h;refine GP 4 (tX true Z) (af (G (aC h (fun B5 h=>?_) (fun B5 h=>?_))))
 ·refine G (au (ah ?_));obtain rfl:=sI h;exact RI [(.ptr nw),(.int .i64)]
 refine ae (ab ?_);obtain⟨⟨a1,a2⟩,C,h⟩:=aj h;refine GP 4 (tX true C) (af (G (aC h (fun B6 h=>?_) (fun B6 h=>?_))))
 ·refine G (au (ah ?_));obtain rfl:=sI h;exact RI [(.ptr nw),(.int .i64)]
 refine ae (ab (G ?_));obtain⟨⟨a3,a4⟩,D,h⟩:=aj h;refine GP 2 (qS false false D) ?_;obtain⟨⟨a5,a6⟩,E,h⟩:=aj h;refine GP 2 (qS false false E) (G (au ?_));obtain rfl:=sI h;exact RI [(.ptr nw),(.int .i64)]
def jk(e:QX):Option ((Option Z5)×Int×Int) :=
 ((km e).bind fun(f,j) =>
 (if(j.1 != 0)=true then some ((none:Option Z5),j.1,j.2)
 else((tL f.1 f.2.1 f.2.2.1 f.2.2.2.1 f.2.2.2.2).bind fun(q,u) =>
 some (q,u,0))))
theorem vg{e:QX}{f:(Option Z5)×Int×Int}(h:jk e=some f):
  Pure Tryz.prog 29 [.st e] (aM (bg false [⟨(.ptr nw),f.1⟩,⟨Y2,f.2⟩])):=by
 refine PB Tryz.func29 (fun Bw w0=>?_);unfold jk at h;refine G ?_;obtain⟨⟨v,z⟩,j,h⟩:=aj h;refine GP 1 (xR j) (af (G (aC h (fun q h=>?_) (fun q h=>?_))))
 ·refine GD a0 [] (au (ah ?_));obtain rfl:=sI h;exact RI [(.ptr nw),Y2]
 refine ae (ab ?_);obtain⟨⟨A,B⟩,u,h⟩:=aj h;refine GP 1 (CX u) (G (au ?_));obtain rfl:=sI h;exact RI [(.ptr nw),Y2]
def cr(e:Option Z5):Option (Int) :=
 (if e.isNone=true then some 0
 else(if e.isSome=true then some (((e.getD (Ty.zero nw)).1.1).length:Int)else none))
theorem js(j:Bool){q:Option Z5}{f:Int}(h:cr q=some f):
  Pure Tryz.prog 30 [.p j (.ptr nw) q] (aM (bg false [⟨(.int .i64),f⟩])):=by
 refine PB Tryz.func30 (fun Bw w0=>?_);unfold cr at h;refine G (af (GN a0 [(1,1,⟨∃e,Tryz.prog.underlying 89=some (.pointer e),⟨_,rfl⟩⟩)] (aC h (fun u h=>?_) (fun u h=>?_))))
 ·refine G (au (ah ?_));obtain rfl:=sI h;exact RI [(.int .i64)]
 refine ae (ab (GC 1 h (fun h=>au ?_)));obtain rfl:=sI h;exact RI [(.int .i64)]
def ez(e:XK)(f:Int):(Int×Int)→Option ((Int×Int)⊕((Unit)⊕(Bool))):=fun(j,v4) =>
 (if(decide (v4<(e.length:Int)))=true then(if 0≤v4∧v4<(e.length:Int)then(((if(decide (((e.getD v4.toNat (0,0,0)).1)≤j))=true then some (true)
 else(if(decide (((e.getD v4.toNat (0,0,0)).2.1)<((e.getD v4.toNat (0,0,0)).1)))=true then some (true)
 else(if(decide (((e.getD v4.toNat (0,0,0)).2.1) > 1114111))=true then some (true)
 else(if(decide (((e.getD v4.toNat (0,0,0)).2.2)<0))=true then some (true)
 else(if(decide (((e.getD v4.toNat (0,0,0)).2.2)≥f))=true then some (true)
 else some ((decide (((e.getD v4.toNat (0,0,0)).2.2) > 255))))))))).bind fun q=>(if q=true then some (Sum.inr (Sum.inr false))
 else some (Sum.inl ((e.getD v4.toNat (0,0,0)).2.1,(i64.wrap (v4+1))))))else none)
 else some (Sum.inr (Sum.inl ())))
def mh(f:XK)(e:Int):Option (Bool) :=
 (if(decide ((f.length:Int) > 256))=true then some false
 else((iter (ez f e) ((-1:Int),0)).bind fun(j:((Unit)⊕(Bool)))=>match j with
 | .inl _=>some true
 | .inr (q)=>some q))
theorem za(C:Bool){A:XK}{q:Int}{D:Bool}(h:mh A q=some D):
  Pure Tryz.prog 53 [.p C (.slice (.prod (.int .i32) Y1)) A,.i64 q] (aM (bg false [⟨.bool,D⟩])):=by
 refine PB Tryz.func53 (fun Bw w0=>?_);unfold mh at h;refine G (af (G (aC h (fun O h=>?_) (fun O h=>?_))))
 ·refine G (au (ah ?_));obtain rfl:=sI h;exact RI [.bool]
 refine ae (ab (G (af (G (ak (kX h (fun(z,v4)=>aA [(1,.i64 q),(5,.i32 z),(11,.p C (.slice (.prod (.int .i32) Y1)) A),(12,.i64 (A.length:Int)),(13,.i64 v4)] [] 0) (dL (fK Tryz.f53.ntmps 0 (fun _=>aA [] [] 0)) (gM tb Tryz.f53.results.toList (fun M=>[⟨.bool,M⟩]))) (gg [] []) (fun y o h=>?_) (fun V h e σ' N=>?_)))))))
 ·obtain⟨z,v4⟩:=y;unfold ez at h;refine G (af (aC h (fun E h=>?_) (fun E h=>?_)))
  ·refine ae (ab (af (ak (GC 0 h (fun h=>af (af (bm h (fun I=>aA [(1,.i64 q),(7,.adr 0 0 3 0),(11,.p C (.slice (.prod (.int .i32) Y1)) A),(12,.i64 (A.length:Int)),(13,.i64 v4),(48,.bo I)] [(0,.box [.i32 ((A.getD v4.toNat (0,0,0)).1),.i32 ((A.getD v4.toNat (0,0,0)).2.1),.i64 ((A.getD v4.toNat (0,0,0)).2.2)])] 1) (fun I h=>?_) (fun I h=>?_))))))))
   ·rcases aI h with⟨f,h⟩ | ⟨f,h⟩
    ·exact bq ⟨[(4,true),(10,true)],[]⟩ [(5,10,oc f)] (eN h (gg [] [24]))
    rcases aI h with⟨j,h⟩ | ⟨j,h⟩
    ·exact bq ⟨[(4,false),(10,false),(11,true),(15,true)],[]⟩ [(5,9,an f),(10,10,oc f),(12,15,oc j)] (eN h (gg [] [24]))
    rcases aI h with⟨u,h⟩ | ⟨u,h⟩
    ·exact bq ⟨[(4,false),(10,false),(11,false),(15,false),(16,true),(20,true)],[]⟩ [(5,9,an f),(10,10,oc f),(12,14,an j),(15,15,oc j),(17,20,oc u)] (eN h (gg [] [24]))
    rcases aI h with⟨v,h⟩ | ⟨v,h⟩
    ·exact bq ⟨[(4,false),(10,false),(11,false),(15,false),(16,false),(20,false),(21,true),(26,true)],[]⟩ [(5,9,an f),(10,10,oc f),(12,14,an j),(15,15,oc j),(17,19,an u),(20,20,oc u),(22,26,oc v)] (eN h (gg [] [24]))
    rcases aI h with⟨B,h⟩ | ⟨B,h⟩
    ·exact bq ⟨[(4,false),(10,false),(11,false),(15,false),(16,false),(20,false),(21,false),(26,false),(27,true),(31,true)],[]⟩ [(5,9,an f),(10,10,oc f),(12,14,an j),(15,15,oc j),(17,19,an u),(20,20,oc u),(22,25,an v),(26,26,oc v),(28,31,oc B)] (eN h (gg [] [24]))
    exact bq ⟨[(4,false),(10,false),(11,false),(15,false),(16,false),(20,false),(21,false),(26,false),(27,false),(31,false)],[]⟩ [(5,9,an f),(10,10,oc f),(12,14,an j),(15,15,oc j),(17,19,an u),(20,20,oc u),(22,25,an v),(26,26,oc v),(28,30,an B),(31,31,oc B)] (eN h (gg [] [24]))
   refine ab (aC h (fun J h=>?_) (fun J h=>?_))
   ·refine G (au ?_);obtain rfl:=sI h;refine ah (aB (ah (bL (aN ?_))));exact bK (RI [.bool])
   refine ae (ab (Ge (ay (ab (Ge ?_)))));exact eB h (gg [] [])
  refine aw (aR ?_);obtain rfl:=sI h;refine eo (bn ?_);exact bT (gg [] [])
 rcases V with _ | M
 ·obtain⟨rfl,L⟩:=N;refine cU ?_ L;refine az (ab (G (au ?_)));obtain rfl:=sI h;exact RI [.bool]
 obtain⟨rfl,X⟩:=N;refine aB (ah ?_);obtain rfl:=sI h;exact X
def hU(f:XK)(j:Int):(Int)→Option ((Int)⊕(Int)):=fun e =>
 (((if(decide (e<(f.length:Int)))=true then(if 0≤e∧e<(f.length:Int)then some ((decide (((f.getD e.toNat (0,0,0)).2.1)<(i32.wrap ((i32.wrap j)*2 ^ (min (8:Int).toNat i32.bits))))))else none)
 else some (false))).bind fun q=>(if q=true then some (Sum.inl (i64.wrap (e+1)))
 else some (Sum.inr e)))
def jj(q:XK)(u f:Int):((fG 256)×Int)→Option (((fG 256)×Int)⊕(fG 256)):=fun(j,e) =>
 (if 0≤f∧f<(q.length:Int)then(if(decide (e≤(min ((q.getD f.toNat (0,0,0)).2.1) (i32.wrap ((i32.wrap ((i32.wrap u)*2 ^ (min (8:Int).toNat i32.bits)))+255)))))=true then(if 0≤f∧f<(q.length:Int)then(if 0≤(bitsOf .and .i32 e 255)∧(bitsOf .and .i32 e 255)<((256:Nat):Int)then some (Sum.inl ((uh j ((bitsOf .and .i32 e 255).toNat) (u8.wrap ((q.getD f.toNat (0,0,0)).2.2))),(i32.wrap (e+1))))else none)else none)
 else some (Sum.inr j))else none)
def hX(j:XK)(f:Int):((fG 256)×Int)→Option (((fG 256)×Int)⊕(fG 256)):=fun(q,e) =>
 (((if(decide (e<(j.length:Int)))=true then(if 0≤e∧e<(j.length:Int)then some ((decide (((j.getD e.toNat (0,0,0)).1)≤(i32.wrap ((i32.wrap ((i32.wrap f)*2 ^ (min (8:Int).toNat i32.bits)))+255)))))else none)
 else some (false))).bind fun u=>(if u=true then(if 0≤e∧e<(j.length:Int)then((iter (jj j f e) (q,(max ((j.getD e.toNat (0,0,0)).1) (i32.wrap ((i32.wrap f)*2 ^ (min (8:Int).toNat i32.bits)))))).bind fun v=>some (Sum.inl (v,(i64.wrap (e+1)))))else none)
 else some (Sum.inr q)))
def gn(D:XK):((fG 4352)×(List (fG 256))×(List ((fG 256)×Int))×Int×Int)→Option (((fG 4352)×(List (fG 256))×(List ((fG 256)×Int))×Int×Int)⊕Ay):=fun(u,e,q,C,f) =>
 (if(decide (f<4352))=true then(if 0≤(8:Int)then(if 0≤(8:Int)then((iter (hU D f) C).bind fun v=>((iter (hX D f) ((dC 256),v)).bind fun j=>(if(JN j (dC 256))=true then some (Sum.inl (u,e,q,v,(i64.wrap (f+1))))
 else(((if(!((aT (.arr .u8 256) q j).isSome))=true then(if(e.length+([j]:List (fG 256)).length)*256≤140737488355328∧e.length+([j]:List (fG 256)).length≤9223372036854775807 then some (((e++([j]:List (fG 256))),(cq (.arr .u8 256) q j (e.length:Int)),(e.length:Int)))else none)
 else some ((e,q,((aT (.arr .u8 256) q j).getD 0))))).bind fun(z,A,B)=>(if 0≤f∧f<((4352:Nat):Int)then some (Sum.inl ((uh u f.toNat B),z,A,v,(i64.wrap (f+1))))else none)))))else none)else none)
 else some (Sum.inr (u,e)))
def gw(j:XK)(q:Int):Option ((Option Ay)×Int) :=
 ((mh j q).bind fun u =>
 (if(!u)=true then some ((none:Option Ay),10)
 else(if 0≤(1:Int)∧(1:Int)≤1∧256*(1:Int)≤281474976710656∧(1:Int)≤9223372036854775807 then((iter (gn j) ((dC 4352),(List.replicate (1:Int).toNat (dC 256)),([]:List ((fG 256)×Int)),0,0)).bind fun(e,f)=>some ((some (e,f):Option Ay),0))else none)))
theorem oS(f:Bool){B:XK}{i1:Int}{O:(Option Ay)×Int}(h:gw B i1=some O):
  Pure Tryz.prog 31 [.p f (.slice (.prod (.int .i32) Y1)) B,.i64 i1] (aM (bg false [⟨(.ptr xG),O.1⟩,⟨(.int .i64),O.2⟩])):=by
 refine PB Tryz.func31 (fun Bw w0=>?_);unfold gw at h;refine G (af ?_);obtain⟨r2,q2,h⟩:=aj h;refine GP 2 (za f q2) (aC h (fun B1 h=>?_) (fun B1 h=>?_))
 ·refine G (au (ah ?_));obtain rfl:=sI h;exact RI [(.ptr xG),(.int .i64)]
 refine ae (ab (GC 0 h (fun h=>GN a0 [(0,0,oc Eg)] (G (af (G (ak (cM h (fun(j,q,u,Z,e)=>aA [(0,.p f (.slice (.prod (.int .i32) Y1)) B),(6,.adr 0 0 4353 0),(7,.mp 2),(8,.i64 Z),(25,.i64 e)] (MH j q u) 3) 0 (fun(a1,a2)=>aA [(6,.adr 0 0 4353 0)] (Ou a1 a2) 2) (gg [] [64,48,80]) (fun y o h=>?_) (fun r6 h=>?_)))))))))
 ·obtain⟨j,q,u,Z,e⟩:=y;unfold gn at h;refine G (af (aC h (fun b2 h=>?_) (fun b2 h=>?_)))
  ·refine ae (ab (af (ak (G ?_))));obtain⟨a3,a4,h⟩:=g2 h;refine GN a0 [(2,2,oc a3),(5,5,oc a4)] (G (af (ak ?_)));refine cM h (fun V=>aA [(0,.p f (.slice (.prod (.int .i32) Y1)) B),(6,.adr 0 0 4353 0),(7,.mp 2),(8,.i64 V),(9,.i64 e),(10,.i32 (i32.wrap ((i32.wrap e)*2 ^ (min (8:Int).toNat i32.bits)))),(11,.i32 (i32.wrap ((i32.wrap ((i32.wrap e)*2 ^ (min (8:Int).toNat i32.bits)))+255))),(12,.adr 3 0 256 0),(25,.i64 e)] (CG j q u (dC 256)) 4) 2 (fun z=>aA [(0,.p f (.slice (.prod (.int .i32) Y1)) B),(6,.adr 0 0 4353 0),(7,.mp 2),(8,.i64 z),(9,.i64 e),(10,.i32 (i32.wrap ((i32.wrap e)*2 ^ (min (8:Int).toNat i32.bits)))),(11,.i32 (i32.wrap ((i32.wrap ((i32.wrap e)*2 ^ (min (8:Int).toNat i32.bits)))+255))),(12,.adr 3 0 256 0),(25,.i64 e)] (CG j q u (dC 256)) 4) (gg [] [0,1,2,99]) (fun V o h=>?_) (fun z h=>?_)
   ·unfold hU at h;refine af (af (bm h (fun X=>aA [(0,.p f (.slice (.prod (.int .i32) Y1)) B),(6,.adr 0 0 4353 0),(7,.mp 2),(8,.i64 V),(9,.i64 e),(10,.i32 (i32.wrap ((i32.wrap e)*2 ^ (min (8:Int).toNat i32.bits)))),(11,.i32 (i32.wrap ((i32.wrap ((i32.wrap e)*2 ^ (min (8:Int).toNat i32.bits)))+255))),(12,.adr 3 0 256 0),(25,.i64 e),(47,.bo X)] (CG j q u (dC 256)) 4) (fun X h=>?_) (fun X h=>?_)))
    ·rcases aI h with⟨A,h⟩ | ⟨A,h⟩
     ·obtain⟨a5,h⟩:=aE h;exact bq ⟨[(4,true),(12,true)],[]⟩ [(5,6,an A),(7,7,oc (And.intro A a5)),(8,11,an A),(12,12,oc A)] (eN h (gg [] [0,1,2,3]))
     exact bq ⟨[(4,false),(12,false)],[]⟩ [(5,12,oc A)] (eN h (gg [] [0,1,2,3]))
    refine ab (aC h (fun b3 h=>?_) (fun b3 h=>?_))
    ·refine ae (ab (ak (Ge (ay ?_))));exact eB h (gg [] [0,1,2,3])
    refine aw (aR ?_);exact eX h (gg [] [0,1,2,3])
   refine az (ab (af (G (ak (cM h (fun(Y,C)=>aA [(0,.p f (.slice (.prod (.int .i32) Y1)) B),(6,.adr 0 0 4353 0),(7,.mp 2),(8,.i64 z),(9,.i64 e),(10,.i32 (i32.wrap ((i32.wrap e)*2 ^ (min (8:Int).toNat i32.bits)))),(11,.i32 (i32.wrap ((i32.wrap ((i32.wrap e)*2 ^ (min (8:Int).toNat i32.bits)))+255))),(12,.adr 3 0 256 0),(13,.i64 C),(25,.i64 e)] (CG j q u Y) 4) 4 (fun a6=>aA [(0,.p f (.slice (.prod (.int .i32) Y1)) B),(6,.adr 0 0 4353 0),(7,.mp 2),(8,.i64 z),(9,.i64 e),(12,.adr 3 0 256 0),(25,.i64 e)] (CG j q u a6) 4) (gg [] [0,1,2,3]) (fun y o h=>?_) (fun a6 h=>?_))))))
   ·obtain⟨Y,C⟩:=y;unfold hX at h;refine af (af (bm h (fun D=>aA [(0,.p f (.slice (.prod (.int .i32) Y1)) B),(6,.adr 0 0 4353 0),(7,.mp 2),(8,.i64 z),(9,.i64 e),(10,.i32 (i32.wrap ((i32.wrap e)*2 ^ (min (8:Int).toNat i32.bits)))),(11,.i32 (i32.wrap ((i32.wrap ((i32.wrap e)*2 ^ (min (8:Int).toNat i32.bits)))+255))),(12,.adr 3 0 256 0),(13,.i64 C),(25,.i64 e),(63,.bo D)] (CG j q u Y) 4) (fun D h=>?_) (fun D h=>?_)))
    ·rcases aI h with⟨v,h⟩ | ⟨v,h⟩
     ·obtain⟨a7,h⟩:=aE h;exact bq ⟨[(4,true),(12,true)],[]⟩ [(5,6,an v),(7,7,oc (And.intro v a7)),(8,11,an v),(12,12,oc v)] (eN h (gg [] [0,1,2,3]))
     exact bq ⟨[(4,false),(12,false)],[]⟩ [(5,12,oc v)] (eN h (gg [] [0,1,2,3]))
    refine ab (aC h (fun a8 h=>?_) (fun a8 h=>?_))
    ·refine ae (ab (af (ak (GC 2 h (fun h=>ak ?_)))));refine cM h (fun(E,I)=>aA [(0,.p f (.slice (.prod (.int .i32) Y1)) B),(6,.adr 0 0 4353 0),(7,.mp 2),(8,.i64 z),(9,.i64 e),(10,.i32 (i32.wrap ((i32.wrap e)*2 ^ (min (8:Int).toNat i32.bits)))),(11,.i32 (i32.wrap ((i32.wrap ((i32.wrap e)*2 ^ (min (8:Int).toNat i32.bits)))+255))),(12,.adr 3 0 256 0),(13,.i64 C),(14,.i32 I),(25,.i64 e)] (CG j q u E) 4) 6 (fun J=>aA [(0,.p f (.slice (.prod (.int .i32) Y1)) B),(6,.adr 0 0 4353 0),(7,.mp 2),(8,.i64 z),(9,.i64 e),(10,.i32 (i32.wrap ((i32.wrap e)*2 ^ (min (8:Int).toNat i32.bits)))),(11,.i32 (i32.wrap ((i32.wrap ((i32.wrap e)*2 ^ (min (8:Int).toNat i32.bits)))+255))),(12,.adr 3 0 256 0),(13,.i64 C),(25,.i64 e)] (CG j q u J) 4) (gg [] [0,1,2,3]) (fun y o h=>?_) (fun J h=>?_)
     ·obtain⟨E,I⟩:=y;unfold jj at h;refine af (GC 3 h (fun h=>aC h (fun a9 h=>?_) (fun a9 h=>?_)))
      ·refine ae (ab (af (ak ?_)));obtain⟨aa,ac,h⟩:=g2 h;refine bq a0 [(4,4,oc aa),(8,8,oc ac)] (ay (ab (Ge ?_)));exact eB h (gg [] [0,1,2,3])
      refine aw (aR ?_);exact eX h (gg [] [0,1,2,3])
     refine az (ay (ab (Ge ?_)));exact eB h (gg [] [0,1,2,3])
    refine aw (aR ?_);exact eX h (gg [] [0,1,2,3])
   refine az (ab (af (GN a0 [(2,2,⟨Tryz.prog.eqGuardType Tryz.prog.depth 155=false,(by kernel_rfl)⟩)] (aC h (fun ad h=>?_) (fun ad h=>?_)))))
   ·refine aw (aR (az (ab (Ge ?_))));exact eB h (gg [] [0,1,2])
   refine ae (ab (GN a0 [(2,2,oc Eg)] (af (G (bm h (fun(L,M,N)=>aA [(0,.p f (.slice (.prod (.int .i32) Y1)) B),(6,.adr 0 0 4353 0),(7,.mp 2),(8,.i64 z),(9,.i64 e),(15,.i64 N),(25,.i64 e)] (MH j L M) 3) (fun r5 h=>?_) (fun r5 h=>?_))))))
   ·refine aC h (fun ax h=>?_) (fun ax h=>?_)
    ·refine G ?_;obtain⟨b1,h⟩:=aE h;refine GD a0 [(7,7,oc b1)] (bq a0 [(3,3,oc Eg)] ?_);exact eN h (gg [] [0,212,2])
    exact ae (eN h (gg [] [0,1,2]))
   obtain⟨L,M,N⟩:=r5;refine ab (yK 5 h (fun h=>ay (ab (Ge ?_))));exact eB h (gg [] [0,1,2])
  refine aw (aR ?_);exact eX h (gg [] [0,1])
 obtain⟨a1,a2⟩:=r6;refine az (ab (G (kM [.frzL 0 0] (by kernel_rfl) (au ?_))));obtain rfl:=sI h;exact RI [(.ptr xG),(.int .i64)]
def qP(e:XK):(Int×Int)→Option ((Int×Int)⊕((Unit)⊕(Bool))):=fun(f,v4) =>
 (if(decide (v4<(e.length:Int)))=true then(if 0≤v4∧v4<(e.length:Int)then(((if(decide (((e.getD v4.toNat (0,0,0)).1)≤f))=true then some (true)
 else(if(decide (((e.getD v4.toNat (0,0,0)).2.1)<((e.getD v4.toNat (0,0,0)).1)))=true then some (true)
 else(if(decide (((e.getD v4.toNat (0,0,0)).2.1) > 1114111))=true then some (true)
 else(if(decide (((e.getD v4.toNat (0,0,0)).2.2)<0))=true then some (true)
 else some ((decide (((e.getD v4.toNat (0,0,0)).2.2) > (i64.wrap (1114111 - (i64.wrap (i32.wrap (((e.getD v4.toNat (0,0,0)).2.1) - ((e.getD v4.toNat (0,0,0)).1)))))))))))))).bind fun j=>(if j=true then some (Sum.inr (Sum.inr false))
 else some (Sum.inl ((e.getD v4.toNat (0,0,0)).2.1,(i64.wrap (v4+1))))))else none)
 else some (Sum.inr (Sum.inl ())))
def oy(e:XK):Option (Bool) :=
 (if(decide ((e.length:Int) > 256))=true then some false
 else((iter (qP e) ((-1:Int),0)).bind fun(f:((Unit)⊕(Bool)))=>match f with
 | .inl _=>some true
 | .inr (j)=>some j))
theorem yQ(A:Bool){v:XK}{B:Bool}(h:oy v=some B):
  Pure Tryz.prog 54 [.p A (.slice (.prod (.int .i32) Y1)) v] (aM (bg false [⟨.bool,B⟩])):=by
 refine PB Tryz.func54 (fun Bw w0=>?_);unfold oy at h;refine G (af (G (aC h (fun M h=>?_) (fun M h=>?_))))
 ·refine G (au (ah ?_));obtain rfl:=sI h;exact RI [.bool]
 refine ae (ab (G (af (G (ak (kX h (fun(u,v4)=>aA [(3,.i32 u),(9,.p A (.slice (.prod (.int .i32) Y1)) v),(10,.i64 (v.length:Int)),(11,.i64 v4)] [] 0) (dL (fK Tryz.f54.ntmps 0 (fun _=>aA [] [] 0)) (gM tb Tryz.f54.results.toList (fun J=>[⟨.bool,J⟩]))) (gg [] []) (fun y o h=>?_) (fun N h e σ' L=>?_)))))))
 ·obtain⟨u,v4⟩:=y;unfold qP at h;refine G (af (aC h (fun C h=>?_) (fun C h=>?_)))
  ·refine ae (ab (af (ak (GC 0 h (fun h=>af (af (bm h (fun D=>aA [(5,.adr 0 0 3 0),(9,.p A (.slice (.prod (.int .i32) Y1)) v),(10,.i64 (v.length:Int)),(11,.i64 v4),(47,.bo D)] [(0,.box [.i32 ((v.getD v4.toNat (0,0,0)).1),.i32 ((v.getD v4.toNat (0,0,0)).2.1),.i64 ((v.getD v4.toNat (0,0,0)).2.2)])] 1) (fun D h=>?_) (fun D h=>?_))))))))
   ·rcases aI h with⟨f,h⟩ | ⟨f,h⟩
    ·exact bq ⟨[(4,true),(10,true)],[]⟩ [(5,10,oc f)] (eN h (gg [] [24]))
    rcases aI h with⟨j,h⟩ | ⟨j,h⟩
    ·exact bq ⟨[(4,false),(10,false),(11,true),(15,true)],[]⟩ [(5,9,an f),(10,10,oc f),(12,15,oc j)] (eN h (gg [] [24]))
    rcases aI h with⟨q,h⟩ | ⟨q,h⟩
    ·exact bq ⟨[(4,false),(10,false),(11,false),(15,false),(16,true),(20,true)],[]⟩ [(5,9,an f),(10,10,oc f),(12,14,an j),(15,15,oc j),(17,20,oc q)] (eN h (gg [] [24]))
    rcases aI h with⟨z,h⟩ | ⟨z,h⟩
    ·exact bq ⟨[(4,false),(10,false),(11,false),(15,false),(16,false),(20,false),(21,true),(32,true)],[]⟩ [(5,9,an f),(10,10,oc f),(12,14,an j),(15,15,oc j),(17,19,an q),(20,20,oc q),(22,32,oc z)] (eN h (gg [] [24]))
    exact bq ⟨[(4,false),(10,false),(11,false),(15,false),(16,false),(20,false),(21,false),(32,false)],[]⟩ [(5,9,an f),(10,10,oc f),(12,14,an j),(15,15,oc j),(17,19,an q),(20,20,oc q),(22,31,an z),(32,32,oc z)] (eN h (gg [] [24]))
   refine ab (aC h (fun E h=>?_) (fun E h=>?_))
   ·refine G (au ?_);obtain rfl:=sI h;refine ah (aB (ah (bL (aN ?_))));exact bK (RI [.bool])
   refine ae (ab (Ge (ay (ab (Ge ?_)))));exact eB h (gg [] [])
  refine aw (aR ?_);obtain rfl:=sI h;refine eo (bn ?_);exact bT (gg [] [])
 rcases N with _ | J
 ·obtain⟨rfl,I⟩:=L;refine cU ?_ I;refine az (ab (G (au ?_)));obtain rfl:=sI h;exact RI [.bool]
 obtain⟨rfl,O⟩:=L;refine aB (ah ?_);obtain rfl:=sI h;exact O
def nM(e:Int):Option Z8 :=
 (if(decide (e<128))=true then some (1,0,0)
 else(((if(decide (e<194))=true then some (true)
 else some ((decide (e > 244))))).bind fun v1=>(if v1=true then some (0,0,0)
 else(if(decide (e<224))=true then some (2,128,191)
 else(if(e == 224)=true then some (3,160,191)
 else(if(e == 237)=true then some (3,128,159)
 else(if(decide (e<240))=true then some (3,128,191)
 else(if(e == 240)=true then some (4,144,191)
 else(if(e == 244)=true then some (4,128,143)
 else some (4,128,191))))))))))
theorem Au{j:Int}{e:Int×Int×Int}(h:nM j=some e):
  Pure Tryz.prog 135 [.u8 j] (aM (bg false [⟨(.int .i64),e.1⟩,⟨(.int .u8),e.2.1⟩,⟨(.int .u8),e.2.2⟩])):=by
 refine PB Tryz.func135 (fun Bw w0=>?_);unfold nM at h;refine G (af (ak (G (aC h (fun v h=>?_) (fun v h=>?_)))))
 ·refine G (au (aB (ah ?_)));obtain rfl:=sI h;exact RI [(.int .i64),(.int .u8),(.int .u8)]
 refine af (bm h (fun v1=>aA [(0,.u8 j),(8,.bo v1)] [] 0) (fun v1 h=>?_) (fun v1 h=>?_))
 ·rcases aI h with⟨f,h⟩ | ⟨f,h⟩
  ·exact bq ⟨[(2,true),(5,true)],[]⟩ [(3,5,oc f)] (eN h (gg [] []))
  exact bq ⟨[(2,false),(5,false)],[]⟩ [(3,4,an f),(5,5,oc f)] (eN h (gg [] []))
 refine ab (aC h (fun z h=>?_) (fun z h=>?_))
 ·refine G (au (aB (ah ?_)));obtain rfl:=sI h;exact RI [(.int .i64),(.int .u8),(.int .u8)]
 refine G (aC h (fun A h=>?_) (fun A h=>?_))
 ·refine G (au (aB (ah ?_)));obtain rfl:=sI h;exact RI [(.int .i64),(.int .u8),(.int .u8)]
 refine G (aC h (fun B h=>?_) (fun B h=>?_))
 ·refine G (au (aB (ah ?_)));obtain rfl:=sI h;exact RI [(.int .i64),(.int .u8),(.int .u8)]
 refine G (aC h (fun C h=>?_) (fun C h=>?_))
 ·refine G (au (aB (ah ?_)));obtain rfl:=sI h;exact RI [(.int .i64),(.int .u8),(.int .u8)]
 refine G (aC h (fun D h=>?_) (fun D h=>?_))
 ·refine G (au (aB (ah ?_)));obtain rfl:=sI h;exact RI [(.int .i64),(.int .u8),(.int .u8)]
 refine G (aC h (fun q h=>?_) (fun q h=>?_))
 ·refine G (au (aB (ah ?_)));obtain rfl:=sI h;exact RI [(.int .i64),(.int .u8),(.int .u8)]
 refine G (aC h (fun u h=>?_) (fun u h=>?_))
 ·refine G (au (aB (ah ?_)));obtain rfl:=sI h;exact RI [(.int .i64),(.int .u8),(.int .u8)]
 refine ae (ay (ab (G (au ?_))));obtain rfl:=sI h;exact RI [(.int .i64),(.int .u8),(.int .u8)]
def jc(j:QK)(f z:Int):(Int×Int×Int×Int×Int)→Option ((Int×Int×Int×Int×Int)⊕((Int×Int)⊕Z8)):=fun(v10,v11,q,u,e) =>
 (if(decide (e<z))=true then(((if(decide ((i64.wrap (f+e))≥(j.length:Int)))=true then some (true)
 else(if 0≤(i64.wrap (f+e))∧(i64.wrap (f+e))<(j.length:Int)then(if(decide ((j.getD ((i64.wrap (f+e)).toNat) 0)<v10))=true then some (true)
 else(if 0≤(i64.wrap (f+e))∧(i64.wrap (f+e))<(j.length:Int)then some ((decide ((j.getD ((i64.wrap (f+e)).toNat) 0) > v11)))else none))else none))).bind fun v=>(if v=true then some (Sum.inr (Sum.inr (65533,f,q)))
 else(if 0≤(6:Int)then(if 0≤(i64.wrap (f+e))∧(i64.wrap (f+e))<(j.length:Int)then some (Sum.inl (128,191,(i64.wrap (e+1)),(bitsOf .or .i32 (i32.wrap (u*2 ^ (min (6:Int).toNat i32.bits))) (i32.wrap (bitsOf .and .u8 (j.getD ((i64.wrap (f+e)).toNat) 0) (63:Int)))),(i64.wrap (e+1))))else none)else none)))
 else some (Sum.inr (Sum.inl (q,u))))
def pv(f:QK)(e:Int):Option Z8 :=
 (((if(decide (e<0))=true then some (true)
 else some ((decide (e≥(f.length:Int)))))).bind fun v1=>(if v1=true then some (0,0,0)
 else(if 0≤e∧e<(f.length:Int)then((nM (f.getD e.toNat 0)).bind fun(j,v,z) =>
 (if(decide (j<2))=true then(((if(j == 1)=true then(if 0≤e∧e<(f.length:Int)then some ((i32.wrap (f.getD e.toNat 0)))else none)
 else some (65533))).bind fun A=>some (A,e,1))
 else(if 0≤e∧e<(f.length:Int)then(if 0≤j then((iter (jc f e j) (v,z,1,(bitsOf .and .i32 (i32.wrap (f.getD e.toNat 0)) (Int.fdiv 127 (2 ^ (min j.toNat i32.bits)))),1)).bind fun(B:((Int×Int)⊕Z8))=>match B with
 | .inl (q,u)=>some (u,e,q)
 | .inr (C)=>some C)else none)else none)))else none)))
theorem BG(q:Bool){C:QK}{u:Int}{D:Int×Int×Int}(h:pv C u=some D):
  Pure Tryz.prog 97 [.p q (.slice (.int .u8)) C,.i64 u] (aM (bg false [⟨(.prod (.int .i32) Y2),D⟩])):=by
 refine PB Tryz.func97 (fun Bw w0=>?_);unfold pv at h;refine G (af (af (bm h (fun v1=>aA [(0,.p q (.slice (.int .u8)) C),(1,.i64 u),(4,.adr 0 0 3 0),(18,.bo v1)] [(0,.box [.i32 0,.i64 0,.i64 0])] 1) (fun v1 h=>?_) (fun v1 h=>?_))))
 ·rcases aI h with⟨M,h⟩ | ⟨M,h⟩
  ·exact bq ⟨[(2,true),(7,true)],[]⟩ [(3,7,oc M)] (eN h (gg [] [0]))
  exact bq ⟨[(2,false),(7,false)],[]⟩ [(3,6,an M),(7,7,oc M)] (eN h (gg [] [0]))
 refine ab (aC h (fun B4 h=>?_) (fun B4 h=>?_))
 ·refine G (au (ah ?_));obtain rfl:=sI h;exact RI [(.prod (.int .i32) Y2)]
 refine ae (ab ?_);obtain⟨c2,h⟩:=aE h;obtain⟨⟨r4,r5,r6⟩,q2,h⟩:=aj h;have E:=(Au q2);refine GN ⟨[],[(4,(oP E))]⟩ [(2,2,oc c2),(4,4,oc E)] (G (af (G (aC h (fun B5 h=>?_) (fun B5 h=>?_)))))
 ·refine af (G (bm h (fun N=>aA [(4,.adr 0 0 3 0),(8,.adr 1 0 3 0)] (Kg 0 (0:Int) (0:Int) N u 1) 2) (fun N h=>?_) (fun N h=>?_)))
  ·refine aC h (fun B7 h=>?_) (fun B7 h=>?_)
   ·refine yK 2 h (fun h=>?_);exact eN h (gg [] [0,113])
   exact ae (eN h (gg [] [0,113]))
  refine ab (G (au (ah ?_)));obtain rfl:=sI h;exact RI [(.prod (.int .i32) Y2)]
 refine ae (ab ?_);obtain⟨c9,O,h⟩:=g2 h;refine GD a0 [(2,2,oc c9),(6,6,oc O)] (af (G (ak (kX h (fun(v10,v11,v,z,A)=>aA [(0,.p q (.slice (.int .u8)) C),(1,.i64 u),(4,.adr 0 0 3 0),(5,.i64 r4),(6,.u8 v10),(7,.u8 v11),(8,.adr 1 0 3 0),(9,.i32 z),(10,.i64 A)] (Kg 0 (0:Int) (0:Int) (65533:Int) u v) 2) (dL (fK Tryz.f97.ntmps 0 (fun(I,J)=>aA [(4,.adr 0 0 3 0),(8,.adr 1 0 3 0),(9,.i32 J)] (Kg 0 (0:Int) (0:Int) (65533:Int) u I) 2)) (gM tb Tryz.f97.results.toList (fun r7=>[⟨(.prod (.int .i32) Y2),r7⟩]))) (gg [] [0,113]) (fun y o h=>?_) (fun r8 h e σ' hq=>?_)))))
 ·obtain⟨v10,v11,v,z,A⟩:=y;unfold jc at h;refine af (G (aC h (fun V h=>?_) (fun V h=>?_)))
  ·refine ae (ab (af (ak (af (af (bm h (fun B=>aA [(0,.p q (.slice (.int .u8)) C),(1,.i64 u),(4,.adr 0 0 3 0),(5,.i64 r4),(8,.adr 1 0 3 0),(9,.i32 z),(10,.i64 A),(80,.bo B)] (Kg 0 (0:Int) (0:Int) (65533:Int) u v) 2) (fun B h=>?_) (fun B h=>?_)))))))
   ·rcases aI h with⟨f,h⟩ | ⟨f,h⟩
    ·exact bq ⟨[(6,true),(15,true)],[]⟩ [(7,15,oc f)] (eN h (gg [] [0,1]))
    obtain⟨L,h⟩:=aE h;rcases aI h with⟨j,h⟩ | ⟨j,h⟩
    ·exact bq ⟨[(6,false),(15,false),(16,true),(25,true)],[]⟩ [(7,10,an f),(11,11,oc (And.intro f L)),(12,14,an f),(15,15,oc f),(17,25,oc j)] (eN h (gg [] [0,1]))
    obtain⟨X,h⟩:=aE h;exact bq ⟨[(6,false),(15,false),(16,false),(25,false)],[]⟩ [(7,10,an f),(11,11,oc (And.intro f L)),(12,14,an f),(15,15,oc f),(17,20,an j),(21,21,oc (And.intro j X)),(22,24,an j),(25,25,oc j)] (eN h (gg [] [0,1]))
   refine ab (aC h (fun Y h=>?_) (fun Y h=>?_))
   ·refine G (au ?_);obtain rfl:=sI h;refine ah (aB (ah (bL (aN ?_))));exact bK (RI [(.prod (.int .i32) Y2)])
   refine ae (ab ?_);obtain⟨Z,a1,h⟩:=g2 h;refine GN a0 [(1,1,oc Z),(6,6,oc a1)] (G (Ge (ay (ab (Ge ?_)))));exact eB h (gg [] [0,1])
  refine aw (aR ?_);obtain rfl:=sI h;refine eo (bn ?_);exact bT (gg [] [0,1])
 rcases r8 with⟨I,J⟩ | r7
 ·obtain⟨rfl,a2⟩:=hq;refine cU ?_ a2;refine az (ab (G (G (au ?_))));obtain rfl:=sI h;exact RI [(.prod (.int .i32) Y2)]
 obtain⟨rfl,hr⟩:=hq;refine aB (ah ?_);obtain rfl:=sI h;exact hr
def kj(q:QK):(XK×Int)→Option ((XK×Int)⊕XK):=fun(e,j) =>
 (if(decide (j<(q.length:Int)))=true then((pv q j).bind fun f =>
 (if(e.length+([(f.1,f.2.1,f.2.2)]:XK).length)*24≤140737488355328∧e.length+([(f.1,f.2.1,f.2.2)]:XK).length≤9223372036854775807 then some (Sum.inl ((e++([(f.1,f.2.1,f.2.2)]:XK)),(i64.wrap (j+f.2.2))))else none))
 else some (Sum.inr e))
def nb(f:QK):Option XK :=
 ((iter (kj f) (([]:XK),0)).bind fun e=>some e)
theorem u4(j:Bool){v:QK}{q:XK}(h:nb v=some q):
  Pure Tryz.prog 66 [.p j (.slice (.int .u8)) v] (aM (bg false [⟨(.slice (.prod (.int .i32) Y2)),q⟩])):=by
 refine PB Tryz.func66 (fun Bw w0=>?_);unfold nb at h;refine G (G (af (G (ak (cM h (fun(e,u)=>aA [(0,.p j (.slice (.int .u8)) v),(3,.sl 0),(4,.i64 u)] [(0,.arr 219 (.prod (.int .i32) Y2) e)] 1) 0 (fun f=>aA [(3,.sl 0)] [(0,.arr 219 (.prod (.int .i32) Y2) f)] 1) (gg [.nilS 3 24 219 (.prod (.int .i32) Y2)] [24]) (fun y o h=>?_) (fun f h=>?_))))))
 ·obtain⟨e,u⟩:=y;unfold kj at h;refine af (G (aC h (fun z h=>?_) (fun z h=>?_)))
  ·refine ae (ab (ak ?_));obtain⟨B,A,h⟩:=aj h;refine GP 2 (BG j A) (GC 3 h (fun h=>Ge (ay ?_)));exact eB h (gg [] [97])
  refine aw (aR ?_);exact eX h (gg [] [0])
 refine az (ab (G (au ?_)));obtain rfl:=sI h;exact RI [(.slice (.prod (.int .i32) Y2))]
def jS(e:Int):Option (Bool) :=
 (((if(e == 32)=true then some (true)
 else(if(e == 9)=true then some (true)
 else(if(e == 10)=true then some (true)
 else some ((e == 13)))))).bind fun v1=>some v1)
theorem ri{u:Int}{j:Bool}(h:jS u=some j):
  Pure Tryz.prog 86 [.i32 u] (aM (bg false [⟨.bool,j⟩])):=by
 refine PB Tryz.func86 (fun Bw w0=>?_);unfold jS at h;refine G (af (bm h (fun v1=>aA [(2,.bo v1)] [] 0) (fun v1 h=>?_) (fun v1 h=>?_)))
 ·rcases aI h with⟨e,h⟩ | ⟨e,h⟩
  ·exact bq ⟨[(2,true),(5,true)],[]⟩ [(3,5,oc e)] (eN h (gg [] []))
  rcases aI h with⟨f,h⟩ | ⟨f,h⟩
  ·exact bq ⟨[(2,false),(5,false),(6,true),(9,true)],[]⟩ [(3,4,an e),(5,5,oc e),(7,9,oc f)] (eN h (gg [] []))
  rcases aI h with⟨q,h⟩ | ⟨q,h⟩
  ·exact bq ⟨[(2,false),(5,false),(6,false),(9,false),(10,true),(13,true)],[]⟩ [(3,4,an e),(5,5,oc e),(7,8,an f),(9,9,oc f),(11,13,oc q)] (eN h (gg [] []))
  exact bq ⟨[(2,false),(5,false),(6,false),(9,false),(10,false),(13,false)],[]⟩ [(3,4,an e),(5,5,oc e),(7,8,an f),(9,9,oc f),(11,12,an q),(13,13,oc q)] (eN h (gg [] []))
 refine ab (au ?_);obtain rfl:=sI h;exact RI [.bool]
def kK(e f j:Int):Option (Bool) :=
 some (e == 45)
theorem rH{f j q:Int}{e:Bool}(h:kK f j q=some e):
  Pure Tryz.prog 129 [.agg [.i32 f,.i64 j,.i64 q]] (aM (bg false [⟨.bool,e⟩])):=by
 refine PB Tryz.func129 (fun Bw w0=>?_);unfold kK at h;refine G (G (au ?_));obtain rfl:=sI h;exact RI [.bool]
def ni(f:XK):(Int)→Option ((Int)⊕((Unit)⊕(Int))):=fun e =>
 (if(decide (e<(f.length:Int)))=true then(if 0≤e∧e<(f.length:Int)then((kK ((f.getD e.toNat (0,0,0)).1) ((f.getD e.toNat (0,0,0)).2.1) ((f.getD e.toNat (0,0,0)).2.2)).bind fun j =>
 (if j=true then some (Sum.inr (Sum.inr e))
 else some (Sum.inl (i64.wrap (e+1)))))else none)
 else some (Sum.inr (Sum.inl ())))
def mV(e:XK):Option (Int) :=
 ((iter (ni e) (0:Int)).bind fun(f:((Unit)⊕(Int)))=>match f with
 | .inl _=>some (-1:Int)
 | .inr (j)=>some j)
theorem uE(f:Bool){u:XK}{j:Int}(h:mV u=some j):
  Pure Tryz.prog 150 [.p f (.slice (.prod (.int .i32) Y2)) u,.fn 129 []] (aM (bg false [⟨(.int .i64),j⟩])):=by
 refine PB Tryz.func150 (fun Bw w0=>?_);unfold mV at h;refine G (af (G (ak (kX h (fun z=>aA [(0,.p f (.slice (.prod (.int .i32) Y2)) u),(1,.fn 129 []),(7,.i64 (u.length:Int)),(8,.i64 z)] [] 0) (dL (fK Tryz.f150.ntmps 0 (fun _=>aA [] [] 0)) (gM tb Tryz.f150.results.toList (fun A=>[⟨(.int .i64),A⟩]))) (gg [] []) (fun z o h=>?_) (fun C h e σ' B=>?_)))))
 ·unfold ni at h;refine G (af (aC h (fun D h=>?_) (fun D h=>?_)))
  ·refine ae (ab (af (ak (G ?_))));obtain⟨E,h⟩:=aE h;obtain⟨M,I,h⟩:=aj h;have q:=(rH I);refine GN ⟨[],[(5,(oP q))]⟩ [(3,3,oc E),(5,5,oc q)] (aC h (fun J h=>?_) (fun J h=>?_))
   ·refine G (au ?_);obtain rfl:=sI h;refine aB (ah (bL (aN ?_)));exact bK (RI [(.int .i64)])
   refine ae (ay (ab (Ge ?_)));exact eB h (gg [] [])
  refine aw (aR ?_);obtain rfl:=sI h;refine eo (bn ?_);exact bT (gg [] [])
 rcases C with _ | A
 ·obtain⟨rfl,v⟩:=B;refine cU ?_ v;refine az (ab (G (au ?_)));obtain rfl:=sI h;exact RI [(.int .i64)]
 obtain⟨rfl,L⟩:=B;refine aB (ah ?_);obtain rfl:=sI h;exact L
def rT(e:XK):Option (Bool) :=
 ((mV e).bind fun f =>
 some (decide (f≥0)))
theorem zl(e:Bool){j:XK}{f:Bool}(h:rT j=some f):
  Pure Tryz.prog 128 [.p e (.slice (.prod (.int .i32) Y2)) j,.fn 129 []] (aM (bg false [⟨.bool,f⟩])):=by
 refine PB Tryz.func128 (fun Bw w0=>?_);unfold rT at h;refine G ?_;obtain⟨u,q,h⟩:=aj h;refine GP 2 (uE e q) (au ?_);obtain rfl:=sI h;exact RI [.bool]
def iG(e:XK):Option (Bool) :=
 ((rT e).bind fun f =>
 some f)
theorem nA(e:Bool){j:XK}{f:Bool}(h:iG j=some f):
  Pure Tryz.prog 88 [.p e (.slice (.prod (.int .i32) Y2)) j] (aM (bg false [⟨.bool,f⟩])):=by
 refine PB Tryz.func88 (fun Bw w0=>?_);unfold iG at h;refine G ?_;obtain⟨u,q,h⟩:=aj h;refine GP 1 (zl e q) (au ?_);obtain rfl:=sI h;exact RI [.bool]
def vo(q:XK)(v:Bool):(QK×QK×Bool×Int×Int)→Option ((QK×QK×Bool×Int×Int)⊕((QK×QK×Int)⊕(Z9×Bool))):=fun(e,j,z,u,f) =>
 (if(decide (f<(q.length:Int)))=true then(if 0≤f∧f<(q.length:Int)then(if(((q.getD f.toNat (0,0,0)).1) == 65533)=true then some (Sum.inr (Sum.inr ((e,j),false)))
 else(((if(((q.getD f.toNat (0,0,0)).1) == 45)=true then some (true)
 else(if(decide (((q.getD f.toNat (0,0,0)).1)≥48))=true then some ((decide (((q.getD f.toNat (0,0,0)).1)≤57)))
 else some (false)))).bind fun A=>(((if A=true then(((if z=true then some (true)
 else(if(!(v == (((q.getD f.toNat (0,0,0)).1) == 45)))=true then some (true)
 else(if v=true then(if((e.length:Int) == 0)=true then some (true)
 else some ((f == (i64.wrap ((q.length:Int) - 1)))))
 else some (false))))).bind fun B=>(if B=true then some ((Sum.inr ((e,j),false)))
 else(if 0≤(e.length:Int)∧(e.length:Int)<(j.length:Int)then(if(e.length:Int).toNat<j.length then(if(!v)=true then(if 0≤(e.length:Int)∧(e.length:Int)<((j.set ((e.length:Int).toNat) 1).length:Int)then(if(e.length:Int).toNat<(j.set ((e.length:Int).toNat) 1).length then some ((Sum.inl (e,((j.set ((e.length:Int).toNat) 1).set ((e.length:Int).toNat) (u8.wrap (i32.wrap (((q.getD f.toNat (0,0,0)).1) - 48)))),true,u)))else none)else none)
 else some ((Sum.inl (e,(j.set ((e.length:Int).toNat) 1),true,u))))else none)else none)))
 else(if(((q.getD f.toNat (0,0,0)).1) == 46)=true then(((if v=true then some (true)
 else(if(!(f == 0))=true then some ((!(f == (i64.wrap ((q.length:Int) - 1)))))
 else some (false)))).bind fun C=>(if C=true then some ((Sum.inr ((e,j),false)))
 else(if(e.length+([46]:QK).length)*4≤140737488355328∧e.length+([46]:QK).length≤9223372036854775807 then(if(j.length+([0]:QK).length)*1≤140737488355328∧j.length+([0]:QK).length≤9223372036854775807 then some ((Sum.inl ((e++([46]:QK)),(j++([0]:QK)),false,u)))else none)else none)))
 else(if(e.length+([(q.getD f.toNat (0,0,0)).1]:QK).length)*4≤140737488355328∧e.length+([(q.getD f.toNat (0,0,0)).1]:QK).length≤9223372036854775807 then(if(j.length+([0]:QK).length)*1≤140737488355328∧j.length+([0]:QK).length≤9223372036854775807 then some ((Sum.inl ((e++([(q.getD f.toNat (0,0,0)).1]:QK)),(j++([0]:QK)),false,(i64.wrap (u+1)))))else none)else none)))).bind fun(D:((QK×QK×Bool×Int)⊕(Z9×Bool)))=>match D with
 | .inl (E,I,J,L)=>some (Sum.inl (E,I,J,L,(i64.wrap (f+1))))
 | .inr ((M,N))=>some (Sum.inr (Sum.inr (M,N))))))else none)
 else some (Sum.inr (Sum.inl (e,j,u))))
def sA(v:XK):Option (Z9×Bool) :=
 ((iG v).bind fun z =>
 ((iter (vo v z) (([]:QK),([0]:QK),false,0,0)).bind fun(f:((QK×QK×Int)⊕(Z9×Bool)))=>match f with
 | .inl (e,v30,j)=>(((if(decide (j > 0))=true then some ((decide ((e.length:Int)≤24)))
 else some (false))).bind fun q=>some ((e,v30),q))
 | .inr ((A,u))=>some (A,u)))
theorem C6(A:Bool){B:XK}{N:Z9×Bool}(h:sA B=some N):
  Pure Tryz.prog 87 [.p A (.slice (.prod (.int .i32) Y2)) B] (aM (bg false [⟨rV,N.1⟩,⟨.bool,N.2⟩])):=by
 refine PB Tryz.func87 (fun Bw w0=>?_);unfold sA at h;refine G ?_;obtain⟨r2,q2,h⟩:=aj h;refine GP 1 (nA A q2) (G (G (G (af (G (ak (kX h (fun(I,L,O,M,z)=>aA [(0,.p A (.slice (.prod (.int .i32) Y2)) B),(2,.adr 0 0 2 0),(4,.bo r2),(5,.adr 1 0 2 0),(6,.bo O),(7,.i64 M),(17,.p A (.slice (.prod (.int .i32) Y2)) B),(18,.i64 (B.length:Int)),(19,.i64 z)] (Kf I L) 4) (dL (fK Tryz.f87.ntmps 0 (fun(V,v30,a3)=>aA [(2,.adr 0 0 2 0),(5,.adr 1 0 2 0),(7,.i64 a3)] (Kf V v30) 4)) (gM tb Tryz.f87.results.toList (fun(r9,a4)=>[⟨rV,r9⟩,⟨.bool,a4⟩]))) (gg [.nilC 56 0 112 21 (.int .i32)] [0,56,112,40]) (fun y o h=>?_) (fun b8 h e σ' hq=>?_))))))))
 ·obtain⟨I,L,O,M,z⟩:=y;unfold vo at h;refine G (af (aC h (fun a5 h=>?_) (fun a5 h=>?_)))
  ·refine ae (ab (af (ak (GC 1 h (fun h=>G (ak (G (aC h (fun a6 h=>?_) (fun a6 h=>?_)))))))))
   ·refine G (kM [.frzC 0 0,.frzC 0 1] (by kernel_rfl) (au ?_));obtain rfl:=sI h;refine aB (aB (ah (bL (aN ?_))));exact bK (RI [rV,.bool])
   refine af (bm h (fun X=>aA [(0,.p A (.slice (.prod (.int .i32) Y2)) B),(2,.adr 0 0 2 0),(4,.bo r2),(5,.adr 1 0 2 0),(6,.bo O),(7,.i64 M),(8,.i64 z),(9,.adr 4 0 3 0),(10,.i64 (I.length:Int)),(17,.p A (.slice (.prod (.int .i32) Y2)) B),(18,.i64 (B.length:Int)),(19,.i64 z),(46,.bo X)] (Na I L ((B.getD z.toNat (0,0,0)).1) ((B.getD z.toNat (0,0,0)).2.1) ((B.getD z.toNat (0,0,0)).2.2)) 5) (fun X h=>?_) (fun X h=>?_))
   ·rcases aI h with⟨u,h⟩ | ⟨u,h⟩
    ·exact bq ⟨[(3,true),(12,true)],[]⟩ [(4,7,oc u),(11,12,oc u)] (eN h (gg [] [0,1,2,3,36]))
    rcases aI h with⟨C,h⟩ | ⟨C,h⟩
    ·exact bq ⟨[(3,false),(7,true),(11,true),(12,false)],[]⟩ [(4,7,an u),(8,10,an C),(11,11,oc (And.intro u C)),(12,12,oc u)] (eN h (gg [] [0,1,2,3,36]))
    exact bq ⟨[(3,false),(7,false),(11,false),(12,false)],[]⟩ [(4,7,an u),(8,10,oc C),(11,11,oc (And.intro u C)),(12,12,oc u)] (eN h (gg [] [0,1,2,3,36]))
   refine ab (EC h (dL (o6 Tryz.f87.ntmps (fun(a7,a8,a9,aa)=>aA [(0,.p A (.slice (.prod (.int .i32) Y2)) B),(2,.adr 0 0 2 0),(4,.bo r2),(5,.adr 1 0 2 0),(6,.bo a9),(7,.i64 aa),(17,.p A (.slice (.prod (.int .i32) Y2)) B),(18,.i64 (B.length:Int)),(19,.i64 z)] (Kf a7 a8) 4)) (gM tb Tryz.f87.results.toList (fun(ac,ad)=>[⟨rV,ac⟩,⟨.bool,ad⟩]))) (fun ax h=>?_) (fun ax h e σ' hq=>?_))
   ·refine aC h (fun b1 h=>?_) (fun b1 h=>?_)
    ·refine af (af (bm h (fun Y=>aA [(0,.p A (.slice (.prod (.int .i32) Y2)) B),(2,.adr 0 0 2 0),(4,.bo r2),(5,.adr 1 0 2 0),(7,.i64 M),(9,.adr 4 0 3 0),(10,.i64 (I.length:Int)),(17,.p A (.slice (.prod (.int .i32) Y2)) B),(18,.i64 (B.length:Int)),(19,.i64 z),(81,.bo Y)] (Na I L ((B.getD z.toNat (0,0,0)).1) ((B.getD z.toNat (0,0,0)).2.1) ((B.getD z.toNat (0,0,0)).2.2)) 5) (fun Y h=>?_) (fun Y h=>?_)))
     ·rcases aI h with⟨j,h⟩ | ⟨j,h⟩
      ·exact bq ⟨[(1,true),(7,true)],[]⟩ [(2,7,oc j)] (eN h (gg [] [0,1,2,3,4]))
      rcases aI h with⟨f,h⟩ | ⟨f,h⟩
      ·exact bq ⟨[(1,false),(7,false),(8,true),(21,true)],[]⟩ [(2,6,an j),(7,7,oc j),(9,10,oc f),(20,21,oc f)] (eN h (gg [] [0,1,2,3,4]))
      rcases aI h with⟨q,h⟩ | ⟨q,h⟩
      ·rcases aI h with⟨D,h⟩ | ⟨D,h⟩
       ·exact bq ⟨[(1,false),(7,false),(8,false),(10,true),(13,true),(19,true),(20,true),(21,false)],[]⟩ [(2,6,an j),(7,7,oc j),(9,10,an f),(11,13,an q),(14,18,oc D),(19,19,oc (And.intro q D)),(20,20,oc (And.intro f q)),(21,21,oc f)] (eN h (gg [] [0,1,2,3,4]))
       exact bq ⟨[(1,false),(7,false),(8,false),(10,true),(13,false),(19,false),(20,true),(21,false)],[]⟩ [(2,6,an j),(7,7,oc j),(9,10,an f),(11,13,an q),(14,18,an D),(19,19,oc (And.intro q D)),(20,20,oc (And.intro f q)),(21,21,oc f)] (eN h (gg [] [0,1,2,3,4]))
      exact bq ⟨[(1,false),(7,false),(8,false),(10,false),(20,false),(21,false)],[]⟩ [(2,6,an j),(7,7,oc j),(9,10,an f),(11,13,oc q),(19,19,oc q),(20,20,oc (And.intro f q)),(21,21,oc f)] (eN h (gg [] [0,1,2,3,4]))
     refine ab (aC h (fun b2 h=>?_) (fun b2 h=>?_))
     ·refine G (kM [.frzC 0 0,.frzC 0 1] (by kernel_rfl) (au ?_));obtain rfl:=sI h;refine ah (aN ?_);exact bK (RI [rV,.bool])
     refine ae (ab (G ?_));obtain⟨b9,be,h⟩:=g2 h;refine GN a0 [(3,3,oc b9),(4,4,oc be)] (G (aC h (fun b3 h=>?_) (fun b3 h=>?_)))
     ·obtain⟨bi,bs,h⟩:=g2 h;refine bq a0 [(7,7,oc bi),(8,8,oc bs)] ?_;obtain rfl:=sI h;exact bn (cW (gg [] [0,1,2,3]))
     refine ae ?_;obtain rfl:=sI h;exact bn (cW (gg [] [0,1,2,3]))
    refine G (aC h (fun b4 h=>?_) (fun b4 h=>?_))
    ·refine G (af (af (bm h (fun Z=>aA [(0,.p A (.slice (.prod (.int .i32) Y2)) B),(2,.adr 0 0 2 0),(4,.bo r2),(5,.adr 1 0 2 0),(7,.i64 M),(17,.p A (.slice (.prod (.int .i32) Y2)) B),(18,.i64 (B.length:Int)),(19,.i64 z),(116,.bo Z)] (Kf I L) 4) (fun Z h=>?_) (fun Z h=>?_))))
     ·rcases aI h with⟨v,h⟩ | ⟨v,h⟩
      ·exact bq ⟨[(1,true),(8,true)],[]⟩ [(2,4,oc v),(7,8,oc v)] (eN h (gg [] [0,1,2,3]))
      rcases aI h with⟨E,h⟩ | ⟨E,h⟩
      ·exact bq ⟨[(1,false),(4,true),(7,true),(8,false)],[]⟩ [(2,4,an v),(5,6,an E),(7,7,oc (And.intro v E)),(8,8,oc v)] (eN h (gg [] [0,1,2,3]))
      exact bq ⟨[(1,false),(4,false),(7,false),(8,false)],[]⟩ [(2,4,an v),(5,6,oc E),(7,7,oc (And.intro v E)),(8,8,oc v)] (eN h (gg [] [0,1,2,3]))
     refine ab (aC h (fun b5 h=>?_) (fun b5 h=>?_))
     ·refine G (kM [.frzC 0 0,.frzC 0 1] (by kernel_rfl) (au ?_));obtain rfl:=sI h;refine ah (aN ?_);exact bK (RI [rV,.bool])
     refine ae (ab ?_);obtain⟨bv,bx,h⟩:=g2 h;refine mu a0 [(3,3,oc bv),(7,7,oc bx)] ?_;obtain rfl:=sI h;exact bn (cW (gg [] [0,1,28,60]))
    refine G ?_;obtain⟨b6,b7,h⟩:=g2 h;refine mu a0 [(5,5,oc b6),(9,9,oc b7)] ?_;obtain rfl:=sI h;exact bn (cW (gg [] [0,1,101,133]))
   rcases ax with⟨a7,a8,a9,aa⟩ | ⟨ac,ad⟩
   ·obtain⟨rfl,a1⟩:=hq;refine cU ?_ a1;refine ay (ay (ab (Ge ?_)));exact eB h (gg [] [0,1,2,3])
   obtain⟨rfl,hr⟩:=hq;obtain rfl:=sI h;refine aB (aB (ah (bL (aN ?_))));exact bK hr
  refine aw (aR ?_);obtain rfl:=sI h;refine eo (bn ?_);exact bT (gg [] [0,1,2,3])
 rcases b8 with⟨V,v30,a3⟩ | ⟨r9,a4⟩
 ·obtain⟨rfl,a1⟩:=hq;refine cU ?_ a1;refine az (ab (af (bm h (fun a2=>aA [(2,.adr 0 0 2 0),(3,.bo a2)] (NX V v30) 3) (fun a2 h=>?_) (fun a2 h=>?_))))
  ·rcases aI h with⟨J,h⟩ | ⟨J,h⟩
   ·exact mu ⟨[(3,true),(8,true)],[]⟩ [(4,7,an J),(8,8,oc J)] (eN h (gg [] [0,2,3]))
   exact mu ⟨[(3,false),(8,false)],[]⟩ [(4,8,oc J)] (eN h (gg [] [0,2,3]))
  refine ab (kM [.frzC 0 0,.frzC 0 1] (by kernel_rfl) (au ?_));obtain rfl:=sI h;exact RI [rV,.bool]
 obtain⟨rfl,hr⟩:=hq;refine aB (ah ?_);obtain rfl:=sI h;exact hr
def gK(f j:QK):(Int)→Option ((Int)⊕((Unit)⊕(Bool))):=fun e =>
 (if(decide (e<(f.length:Int)))=true then(if 0≤e∧e<(f.length:Int)then(if 0≤e∧e<(j.length:Int)then(if((f.getD e.toNat 0) != (j.getD e.toNat 0))=true then some (Sum.inr (Sum.inr false))
 else some (Sum.inl (i64.wrap (e+1))))else none)else none)
 else some (Sum.inr (Sum.inl ())))
def cC(e f:QK):Option (Bool) :=
 (if((e.length:Int) != (f.length:Int))=true then some false
 else((iter (gK e f) (0:Int)).bind fun(j:((Unit)⊕(Bool)))=>match j with
 | .inl _=>some true
 | .inr (q)=>some q))
theorem gI(f j:Bool){u v:QK}{q:Bool}(h:cC u v=some q):
  Pure Tryz.prog 91 [.p f (.slice (.int .i32)) u,.p j (.slice (.int .i32)) v] (aM (bg false [⟨.bool,q⟩])):=by
 refine PB Tryz.func91 (fun Bw w0=>?_);unfold cC at h;refine G (af (G (aC h (fun I h=>?_) (fun I h=>?_))))
 ·refine G (au (ah ?_));obtain rfl:=sI h;exact RI [.bool]
 refine ae (ab (af (G (ak (kX h (fun C=>aA [(0,.p f (.slice (.int .i32)) u),(1,.p j (.slice (.int .i32)) v),(12,.i64 (u.length:Int)),(13,.i64 C)] [] 0) (dL (fK Tryz.f91.ntmps 0 (fun _=>aA [] [] 0)) (gM tb Tryz.f91.results.toList (fun D=>[⟨.bool,D⟩]))) (gg [] []) (fun C o h=>?_) (fun J h e σ' E=>?_))))))
 ·unfold gK at h;refine G (af (aC h (fun L h=>?_) (fun L h=>?_)))
  ·refine ae (ab (af (ak (G ?_))));obtain⟨z,A,h⟩:=g2 h;refine GD a0 [(2,2,oc z),(6,6,oc A)] (aC h (fun M h=>?_) (fun M h=>?_))
   ·refine G (au ?_);obtain rfl:=sI h;refine aB (ah (bL (aN ?_)));exact bK (RI [.bool])
   refine ae (ay (ab (Ge ?_)));exact eB h (gg [] [])
  refine aw (aR ?_);obtain rfl:=sI h;refine eo (bn ?_);exact bT (gg [] [])
 rcases J with _ | D
 ·obtain⟨rfl,B⟩:=E;refine cU ?_ B;refine az (ab (G (au ?_)));obtain rfl:=sI h;exact RI [.bool]
 obtain⟨rfl,N⟩:=E;refine aB (ah ?_);obtain rfl:=sI h;exact N
def ot(e q f u:QK):Option (Bool) :=
 ((cC e f).bind fun j =>
 some j)
theorem vT(e q f u:Bool){v z A B:QK}{j:Bool}(h:ot v z A B=some j):
  Pure Tryz.prog 90 [.agg [.p e (.slice (.int .i32)) v,.p q (.slice (.int .u8)) z],.fad true [.p f (.slice (.int .i32)) A,.p u (.slice (.int .u8)) B] 0] (aM (bg false [⟨.bool,j⟩])):=by
 refine PB Tryz.func90 (fun Bw w0=>?_);unfold ot at h;refine G ?_;obtain⟨D,C,h⟩:=aj h;refine GP 4 (gI e f C) (au ?_);obtain rfl:=sI h;exact RI [.bool]
def mA(f:List Z9)(j q:QK):(Int)→Option ((Int)⊕((Unit)⊕(Int))):=fun e =>
 (if(decide (e<(f.length:Int)))=true then(if 0≤e∧e<(f.length:Int)then((ot ((f.getD e.toNat ([],([]:QK))).1) ((f.getD e.toNat ([],([]:QK))).2) j q).bind fun u =>
 (if u=true then some (Sum.inr (Sum.inr e))
 else some (Sum.inl (i64.wrap (e+1)))))else none)
 else some (Sum.inr (Sum.inl ())))
def lM(e:List Z9)(f j:QK):Option (Int) :=
 ((iter (mA e f j) (0:Int)).bind fun(q:((Unit)⊕(Int)))=>match q with
 | .inl _=>some (-1:Int)
 | .inr (u)=>some u)
theorem sS(f j q:Bool){z:List Z9}{A B:QK}{u:Int}(h:lM z A B=some u):
  Pure Tryz.prog 130 [.p f (.slice rV) z,.fn 90 [.fad true [.p j (.slice (.int .i32)) A,.p q (.slice (.int .u8)) B] 0]] (aM (bg false [⟨(.int .i64),u⟩])):=by
 refine PB Tryz.func130 (fun Bw w0=>?_);unfold lM at h;refine G (af (G (ak (kX h (fun D=>aA [(0,.p f (.slice rV) z),(1,.fn 90 [.fad true [.p j (.slice (.int .i32)) A,.p q (.slice (.int .u8)) B] 0]),(7,.i64 (z.length:Int)),(8,.i64 D)] [] 0) (dL (fK Tryz.f130.ntmps 0 (fun _=>aA [] [] 0)) (gM tb Tryz.f130.results.toList (fun E=>[⟨(.int .i64),E⟩]))) (gg [] []) (fun D o h=>?_) (fun J h e σ' I=>?_)))))
 ·unfold mA at h;refine G (af (aC h (fun L h=>?_) (fun L h=>?_)))
  ·refine ae (ab (af (ak (G ?_))));obtain⟨M,h⟩:=aE h;obtain⟨X,N,h⟩:=aj h;have v:=(vT f f j q N);refine GN ⟨[],[(5,(oP v))]⟩ [(3,3,oc M),(5,5,oc v)] (aC h (fun O h=>?_) (fun O h=>?_))
   ·refine G (au ?_);obtain rfl:=sI h;refine aB (ah (bL (aN ?_)));exact bK (RI [(.int .i64)])
   refine ae (ay (ab (Ge ?_)));exact eB h (gg [] [])
  refine aw (aR ?_);obtain rfl:=sI h;refine eo (bn ?_);exact bT (gg [] [])
 rcases J with _ | E
 ·obtain⟨rfl,C⟩:=I;refine cU ?_ C;refine az (ab (G (au ?_)));obtain rfl:=sI h;exact RI [(.int .i64)]
 obtain⟨rfl,V⟩:=I;refine aB (ah ?_);obtain rfl:=sI h;exact V
def mK(e:List Z9)(f j:QK):Option (Bool) :=
 ((lM e f j).bind fun q =>
 some (decide (q≥0)))
theorem xy(e f j:Bool){u:List Z9}{v z:QK}{q:Bool}(h:mK u v z=some q):
  Pure Tryz.prog 89 [.p e (.slice rV) u,.fn 90 [.fad true [.p f (.slice (.int .i32)) v,.p j (.slice (.int .u8)) z] 0]] (aM (bg false [⟨.bool,q⟩])):=by
 refine PB Tryz.func89 (fun Bw w0=>?_);unfold mK at h;refine G ?_;obtain⟨B,A,h⟩:=aj h;refine GP 2 (sS e f j A) (au ?_);obtain rfl:=sI h;exact RI [.bool]
end
end Go.Proofs.YtbedjpdfkmfplaaGreatDoor.T
