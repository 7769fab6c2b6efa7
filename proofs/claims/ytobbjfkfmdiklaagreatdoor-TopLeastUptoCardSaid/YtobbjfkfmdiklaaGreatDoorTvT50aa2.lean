import Derived.Test.YtobbjfkfmdiklaaGreatDoorTvT50a0
import Derived.Test.YtobbjfkfmdiklaaGreatDoorTvT50aa1
namespace Go.Proofs.YtobbjfkfmdiklaaGreatDoor.T
open Go Go.Tv Go.Proofs
open Go.IntKind (i32 i64 u32 u8)
noncomputable section
set_option maxRecDepth 100000
set_option maxHeartbeats 4000000
def sw(j:XZ):(QK×Qj×Bool×(List Z9)×Int)→Option ((QK×Qj×Bool×(List Z9)×Int)⊕(QK×Qj×Bool×List Z9)):=fun(v,x,z,v10,v11) =>
 (if(decide (v11<(j.length:Int)))=true then(if 0≤v11∧v11<(j.length:Int)then((dS 1000 ((j.getD v11.toNat (Tree.node 0 0 [])).op) ((j.getD v11.toNat (Tree.node 0 0 [])).set) ((j.getD v11.toNat (Tree.node 0 0 [])).kids) z v x).bind fun(f,p,q,u) =>
 (if(v10.length+([(f.1,(f.2.1.1,f.2.1.2.1,f.2.1.2.2.1,f.2.1.2.2.2),f.2.2.1,f.2.2.2.1,f.2.2.2.2.1,f.2.2.2.2.2)]:List Z9).length)*72≤140737488355328∧v10.length+([(f.1,(f.2.1.1,f.2.1.2.1,f.2.1.2.2.1,f.2.1.2.2.2),f.2.2.1,f.2.2.2.1,f.2.2.2.2.1,f.2.2.2.2.2)]:List Z9).length≤9223372036854775807 then some (Sum.inl (p,q,u,(v10++([(f.1,(f.2.1.1,f.2.1.2.1,f.2.1.2.2.1,f.2.1.2.2.2),f.2.2.1,f.2.2.2.1,f.2.2.2.2.1,f.2.2.2.2.2)]:List Z9)),(i64.wrap (v11+1))))else none))else none)
 else some (Sum.inr (v,x,z,v10)))
def rC(j:List Z9):(Int×Int×Int×Int×Int)→Option ((Int×Int×Int×Int×Int)⊕Z2):=fun(q,u,v,x,f) =>
 (if(decide (f<(j.length:Int)))=true then(if 0≤f∧f<(j.length:Int)then(if f.toNat<j.length then((cU q u v x ((j.getD f.toNat (false,(0,0,0,0),0,0,0,0)).2.1.1) ((j.getD f.toNat (false,(0,0,0,0),0,0,0,0)).2.1.2.1) ((j.getD f.toNat (false,(0,0,0,0),0,0,0,0)).2.1.2.2.1) ((j.getD f.toNat (false,(0,0,0,0),0,0,0,0)).2.1.2.2.2)).bind fun p =>
 some (Sum.inl (p.1,p.2.1,p.2.2.1,p.2.2.2,(i64.wrap (f+1)))))else none)else none)
 else some (Sum.inr (q,u,v,x)))
def sC(j p:Qj)(q:Int):(Int×Int×Int×Int×Int)→Option ((Int×Int×Int×Int×Int)⊕Z2):=fun(v,x,z,A,f) =>
 (if(decide (f<(j.length:Int)))=true then((gO ((p.getD q.toNat (0,0,0,0)).1) ((p.getD q.toNat (0,0,0,0)).2.1) ((p.getD q.toNat (0,0,0,0)).2.2.1) ((p.getD q.toNat (0,0,0,0)).2.2.2) f).bind fun B =>
 (((if B=true then(if 0≤f∧f<(j.length:Int)then(if f.toNat<j.length then((cU v x z A ((j.getD f.toNat (0,0,0,0)).1) ((j.getD f.toNat (0,0,0,0)).2.1) ((j.getD f.toNat (0,0,0,0)).2.2.1) ((j.getD f.toNat (0,0,0,0)).2.2.2)).bind fun u =>
 some ((u.1,u.2.1,u.2.2.1,u.2.2.2)))else none)else none)
 else some ((v,x,z,A)))).bind fun(C,D,E,I)=>some (Sum.inl (C,D,E,I,(i64.wrap (f+1))))))
 else some (Sum.inr (v,x,z,A)))
def rX(j:List Z9)(p:Qj)(q:Int):(Int×Int)→Option ((Int×Int)⊕(Int)):=fun(u,f) =>
 (if(decide (f<(j.length:Int)))=true then(if 0≤f∧f<(j.length:Int)then(if f.toNat<j.length then(((if((j.getD f.toNat (false,(0,0,0,0),0,0,0,0)).1)=true then some (true)
 else((nR ((p.getD q.toNat (0,0,0,0)).1) ((p.getD q.toNat (0,0,0,0)).2.1) ((p.getD q.toNat (0,0,0,0)).2.2.1) ((p.getD q.toNat (0,0,0,0)).2.2.2) ((j.getD f.toNat (false,(0,0,0,0),0,0,0,0)).2.2.1) ((j.getD f.toNat (false,(0,0,0,0),0,0,0,0)).2.2.2.1) ((j.getD f.toNat (false,(0,0,0,0),0,0,0,0)).2.2.2.2.1) ((j.getD f.toNat (false,(0,0,0,0),0,0,0,0)).2.2.2.2.2)).bind fun v =>
 some (v)))).bind fun x=>(((if x=true then(if 0≤f then some ((bitsOf .or .u32 u (u32.wrap (1*2 ^ (min f.toNat u32.bits)))))else none)
 else some (u))).bind fun z=>some (Sum.inl (z,(i64.wrap (f+1))))))else none)else none)
 else some (Sum.inr u))
def rI(v:QK)(z A B C x:Int):(Int×Int×Int×Int×Int)→Option ((Int×Int×Int×Int×Int)⊕Z2):=fun(j,p,q,u,f) =>
 (if(decide (f<(v.length:Int)))=true then(if 0≤f∧f<(v.length:Int)then(if f.toNat<v.length then((((gO z A B C f).bind fun D =>
 (if D=true then(if 0≤x then some (((bitsOf .and .u32 (Int.fdiv (v.getD f.toNat 0) (2 ^ (min x.toNat u32.bits))) (1:Int)) == 1))else none)
 else some (false)))).bind fun E=>(((if E=true then((ir f j p q u).bind fun(I,J,L,M) =>
 some ((I,J,L,M)))
 else some ((j,p,q,u)))).bind fun(N,O,V,X)=>some (Sum.inl (N,O,V,X,(i64.wrap (f+1))))))else none)else none)
 else some (Sum.inr (j,p,q,u)))
def rv(V:Int)(O:QK)(A B C D:Int):(Qj×(List (Z2×Int))×QK×Int)→Option ((Qj×(List (Z2×Int))×QK×Int)⊕((Qj×(List (Z2×Int))×QK)⊕(Ee×Int))):=fun(f,x,z,j) =>
 (if(decide (j<V))=true then((iter (rI O A B C D j) (0,0,0,0,0)).bind fun(p,q,u,v)=>(((if(!((bg ma x (p,q,u,v)).isSome))=true then(if(decide ((f.length:Int)≥300))=true then some ((Sum.inr ((([]:QZ),([]:QK)),27)))
 else(if(f.length+([(p,q,u,v)]:Qj).length)*32≤140737488355328∧f.length+([(p,q,u,v)]:Qj).length≤9223372036854775807 then some ((Sum.inl ((f++([(p,q,u,v)]:Qj)),(cF ma x (p,q,u,v) (f.length:Int)),(f.length:Int))))else none))
 else some ((Sum.inl (f,x,((bg ma x (p,q,u,v)).getD 0)))))).bind fun(E:((Qj×(List (Z2×Int))×Int)⊕(Ee×Int)))=>match E with
 | .inl (I,J,L)=>(if 0≤j∧j<(z.length:Int)then(if j.toNat<z.length then some (Sum.inl (I,J,(z.set j.toNat L),(i64.wrap (j+1))))else none)else none)
 | .inr ((M,N))=>some (Sum.inr (Sum.inr (M,N)))))
 else some (Sum.inr (Sum.inl (f,x,z))))
def rq(x:Int)(N:QK)(O:Qj)(V:List Z9)(X Y Z a1:Int):(QZ×QK×Qj×(List (Z2×Int))×Int)→Option ((QZ×QK×Qj×(List (Z2×Int))×Int)⊕(Ee⊕(Ee×Int))):=fun(p,q,j,z,f) =>
 (if(decide (f<(j.length:Int)))=true then(if 0≤f∧f<(j.length:Int)then(if f.toNat<j.length then((iter (sC O j f) (X,Y,Z,a1,0)).bind fun(A,B,C,D)=>((iter (rX V j f) (0,0)).bind fun u=>(if 0≤x∧x≤x∧8*x≤281474976710656∧x≤9223372036854775807 then((iter (rv x N A B C D) (j,z,(List.replicate x.toNat (0:Int)),0)).bind fun(E:((Qj×(List (Z2×Int))×QK)⊕(Ee×Int)))=>match E with
 | .inl (I,J,v)=>(if(p.length+([v]:QZ).length)*24≤140737488355328∧p.length+([v]:QZ).length≤9223372036854775807 then(if(q.length+([u]:QK).length)*4≤140737488355328∧q.length+([u]:QK).length≤9223372036854775807 then some (Sum.inl ((p++([v]:QZ)),(q++([u]:QK)),I,J,(i64.wrap (f+1))))else none)else none)
 | .inr ((L,M))=>some (Sum.inr (Sum.inr (L,M))))else none)))else none)else none)
 else some (Sum.inr (Sum.inl (p,q))))
def ng(J:XZ)(x:Int):Option (Ee×Int) :=
 (((if(decide (x<1))=true then some (true)
 else(if(decide (x > 24))=true then some (true)
 else some ((decide ((J.length:Int) > 24)))))).bind fun v1=>(if v1=true then some ((([]:QZ),([]:QK)),2)
 else((iter (sw J) (([]:QK),([]:Qj),false,([]:List Z9),0)).bind fun(z,A,B,f)=>(if B=true then some ((([]:QZ),([]:QK)),26)
 else((iter (rC f) (0,0,0,0,0)).bind fun(C,D,E,I)=>((iter (rq x z A f C D E I) (([]:QZ),([]:QK),([(0,0,0,0)]:Qj),(cF ma ([]:List (Z2×Int)) (0,0,0,0) (0:Int)),0)).bind fun(j:(Ee⊕(Ee×Int)))=>match j with
 | .inl (p,q)=>some ((p,q),0)
 | .inr ((u,v))=>some (u,v)))))))
theorem rM(b4:Bool){d1:XZ}{Y:Int}{di:Ee×Int}(h:ng d1 Y=some di):
  Pure Tryz.prog 88 [.p b4 (.slice (.tree .u8 .u32)) d1,.i64 Y] (aL (bd false [⟨CC,di.1⟩,⟨(.int .i64),di.2⟩])):=by
 refine PB Tryz.func88 (fun Bw w0=>?_);unfold ng at h;refine G (ag (ag (br h (fun v1=>az [(0,.p b4 (.slice (.tree .u8 .u32)) d1),(1,.i64 Y),(4,.adr 0 0 2 0),(40,.bo v1)] [(0,.box [.nils,.nils])] 1) (fun v1 h=>?_) (fun v1 h=>?_))))
 ·rcases aN h with⟨B5,h⟩ | ⟨B5,h⟩
  ·exact bC ⟨[(2,true),(5,true)],[]⟩ [(3,5,oc B5)] (eN h (gg [] [0]))
  rcases aN h with⟨B6,h⟩ | ⟨B6,h⟩
  ·exact bC ⟨[(2,false),(5,false),(6,true),(10,true)],[]⟩ [(3,4,an B5),(5,5,oc B5),(7,10,oc B6)] (eN h (gg [] [0]))
  exact bC ⟨[(2,false),(5,false),(6,false),(10,false)],[]⟩ [(3,4,an B5),(5,5,oc B5),(7,9,an B6),(10,10,oc B6)] (eN h (gg [] [0]))
 refine ab (aC h (fun B7 h=>?_) (fun B7 h=>?_))
 ·refine G (av (aj ?_));obtain rfl:=sI h;exact RI [CC,(.int .i64)]
 refine ae (ab (G (G (ag (G (ak (cz h (fun(v7,v8,v9,v10,v11)=>az [(1,.i64 Y),(4,.adr 0 0 2 0),(6,.adr 1 0 3 0),(7,.sl 4),(44,.p b4 (.slice (.tree .u8 .u32)) d1),(45,.i64 (d1.length:Int)),(46,.i64 v11)] (LQ v9 v7 v8 v10) 5) 0 (fun(x,z,A,v)=>az [(1,.i64 Y),(4,.adr 0 0 2 0),(6,.adr 1 0 3 0),(7,.sl 4)] (LQ A x z v) 5) (gg [.nilC 9 0 57 131 (.int .u32),.nilC 9 1 58 251 ma,.nilS 7 59 253 Cx] [0,9,57,58,59]) (fun y o h=>?_) (fun f5 h=>?_))))))))
 ·obtain⟨v7,v8,v9,v10,v11⟩:=y;unfold sw at h;refine G (ag (aC h (fun f6 h=>?_) (fun f6 h=>?_)))
  ·refine ae (ab (ag (ak (GC 0 h (fun h=>?_)))));obtain⟨⟨g7,g8,g9,gb⟩,q6,h⟩:=ai h;obtain⟨f7,h⟩:=aD h;have O:=(kB 1000 b4 q6);refine bC ⟨[],[(3,(oO O [1,2,3]))]⟩ [(3,3,oc O),(5,5,oc f7)] (ay (ab (Ge ?_)));exact eB h (gg [] [0,1,69,70,85])
  refine au (aQ ?_);exact eX h (gg [] [0,1,2,3,4])
 obtain⟨x,z,A,v⟩:=f5;refine aw (ab (ag (G (aC h (fun f8 h=>?_) (fun f8 h=>?_)))))
 ·refine G (av (aj ?_));obtain rfl:=sI h;exact RI [CC,(.int .i64)]
 refine ae (ab (G (ag (G (ak (cz h (fun(dk,dm,ds,dt,du)=>az [(1,.i64 Y),(4,.adr 0 0 2 0),(6,.adr 1 0 3 0),(7,.sl 4),(10,.adr 5 0 4 0),(62,.sl 4),(63,.i64 (v.length:Int)),(64,.i64 du)] (Ma A x z v dk dm ds dt) 6) 2 (fun(J,L,M,N)=>az [(1,.i64 Y),(4,.adr 0 0 2 0),(6,.adr 1 0 3 0),(7,.sl 4),(10,.adr 5 0 4 0)] (Ma A x z v J L M N) 6) (gg [] [0,1,2,3,4,37]) (fun y o h=>?_) (fun f9 h=>?_)))))))
 ·obtain⟨dk,dm,ds,dt,du⟩:=y;unfold rC at h;refine G (ag (aC h (fun fa h=>?_) (fun fa h=>?_)))
  ·refine ae (ab (ag (ak ?_)));obtain⟨fd,fi,h⟩:=g2 h;refine GN a0 [(0,0,oc fd),(1,1,oc fi)] ?_;obtain⟨gd,fo,h⟩:=ai h;refine Mt 3 (cI fo) (ay (ab (Ge ?_)));exact eB h (gg [] [0,1,2,3,4,5])
  refine au (aQ ?_);exact eX h (gg [] [0,1,2,3,4,5])
 obtain⟨J,L,M,N⟩:=f9;refine aw (ab (G (G (GN a0 [(0,0,oc zO),(2,2,oc zO)] (ag (G (ak (kS h (fun(q,u,j,V,f)=>az [(1,.i64 Y),(4,.adr 0 0 2 0),(6,.adr 1 0 3 0),(7,.sl 4),(10,.adr 5 0 4 0),(13,.adr 6 0 2 0),(14,.sl 9),(15,.mp 10),(16,.i64 f)] (M2 A x z v J L M N q u j V) 11) (dz (fD Tryz.f88.ntmps 4 (fun(b5,b6)=>az [(4,.adr 0 0 2 0),(13,.adr 1 0 2 0)] (LW b5 b6) 4)) (gB tb Tryz.f88.results.toList (fun(b7,b8)=>[⟨CC,b7⟩,⟨(.int .i64),b8⟩]))) (gg [.nilC 6 0 86 97 (.slice (.int .i64)),.nilC 6 1 87 131 (.int .u32)] [0,1,2,3,4,5,6,86,87,22,38]) (fun y o h=>?_) (fun e1 h e σ' hq=>?_)))))))))
 ·obtain⟨q,u,j,V,f⟩:=y;unfold rq at h;refine ag (G (aC h (fun e2 h=>?_) (fun e2 h=>?_)))
  ·refine ae (ab (ag (ak ?_)));obtain⟨e3,e4,h⟩:=g2 h;refine GN a0 [(2,2,oc e3),(3,3,oc e4)] (G (G (ag (G (ak ?_)))));refine cz h (fun(b9,be,bi,bs,a7)=>az [(1,.i64 Y),(4,.adr 0 0 2 0),(6,.adr 1 0 3 0),(7,.sl 4),(10,.adr 5 0 4 0),(13,.adr 6 0 2 0),(14,.sl 9),(15,.mp 10),(16,.i64 f),(17,.adr 11 0 4 0),(18,.u32 0),(19,.adr 12 0 4 0),(93,.i64 (z.length:Int)),(94,.i64 a7)] (Fc A x z v J L M N q u j V ((j.getD f.toNat (0,0,0,0)).1) ((j.getD f.toNat (0,0,0,0)).2.1) ((j.getD f.toNat (0,0,0,0)).2.2.1) ((j.getD f.toNat (0,0,0,0)).2.2.2) b9 be bi bs) 13) 6 (fun(B,C,D,E)=>az [(1,.i64 Y),(4,.adr 0 0 2 0),(6,.adr 1 0 3 0),(7,.sl 4),(10,.adr 5 0 4 0),(13,.adr 6 0 2 0),(14,.sl 9),(15,.mp 10),(16,.i64 f),(17,.adr 11 0 4 0),(18,.u32 0),(19,.adr 12 0 4 0)] (Fc A x z v J L M N q u j V ((j.getD f.toNat (0,0,0,0)).1) ((j.getD f.toNat (0,0,0,0)).2.1) ((j.getD f.toNat (0,0,0,0)).2.2.1) ((j.getD f.toNat (0,0,0,0)).2.2.2) B C D E) 13) (gg [] [0,1,2,3,4,5,6,7,8,9,10,75,107]) (fun y o h=>?_) (fun e5 h=>?_)
   ·obtain⟨b9,be,bi,bs,a7⟩:=y;unfold sC at h;refine G (ag (aC h (fun e6 h=>?_) (fun e6 h=>?_)))
    ·refine ae (ab (ag (ak (G ?_))));obtain⟨fr,e7,h⟩:=ai h;refine GP 2 (iu e7) (br h (fun(bv,bx,c1,c2)=>az [(1,.i64 Y),(4,.adr 0 0 2 0),(6,.adr 1 0 3 0),(7,.sl 4),(10,.adr 5 0 4 0),(13,.adr 6 0 2 0),(14,.sl 9),(15,.mp 10),(16,.i64 f),(17,.adr 11 0 4 0),(18,.u32 0),(19,.adr 12 0 4 0),(93,.i64 (z.length:Int)),(94,.i64 a7)] (Fc A x z v J L M N q u j V ((j.getD f.toNat (0,0,0,0)).1) ((j.getD f.toNat (0,0,0,0)).2.1) ((j.getD f.toNat (0,0,0,0)).2.2.1) ((j.getD f.toNat (0,0,0,0)).2.2.2) bv bx c1 c2) 13) (fun c3 h=>?_) (fun c3 h=>?_))
     ·refine aC h (fun e8 h=>?_) (fun e8 h=>?_)
      ·obtain⟨e9,ea,h⟩:=g2 h;obtain⟨fs,eb,h⟩:=ai h;have O:=(cI eb);exact nj ⟨[],[(8,(oP O))]⟩ [(6,6,oc e9),(7,7,oc ea),(8,8,oc O)] (eN h (gg [] [0,1,2,3,4,5,6,7,8,9,10,11,12]))
      exact ae (eN h (gg [] [0,1,2,3,4,5,6,7,8,9,10,11,12]))
     obtain⟨bv,bx,c1,c2⟩:=c3;refine ay (ab (Ge ?_));exact eB h (gg [] [0,1,2,3,4,5,6,7,8,9,10,11,12])
    refine au (aQ ?_);exact eX h (gg [] [0,1,2,3,4,5,6,7,8,9,10,11,12])
   obtain⟨B,C,D,E⟩:=e5;refine aw (ab (ag (G (ak ?_))));refine cz h (fun(a8,a4)=>az [(1,.i64 Y),(4,.adr 0 0 2 0),(6,.adr 1 0 3 0),(7,.sl 4),(10,.adr 5 0 4 0),(13,.adr 6 0 2 0),(14,.sl 9),(15,.mp 10),(16,.i64 f),(17,.adr 11 0 4 0),(18,.u32 a8),(19,.adr 12 0 4 0),(110,.sl 4),(111,.i64 (v.length:Int)),(112,.i64 a4)] (Fc A x z v J L M N q u j V ((j.getD f.toNat (0,0,0,0)).1) ((j.getD f.toNat (0,0,0,0)).2.1) ((j.getD f.toNat (0,0,0,0)).2.2.1) ((j.getD f.toNat (0,0,0,0)).2.2.2) B C D E) 13) 8 (fun X=>az [(1,.i64 Y),(4,.adr 0 0 2 0),(6,.adr 1 0 3 0),(7,.sl 4),(10,.adr 5 0 4 0),(13,.adr 6 0 2 0),(14,.sl 9),(15,.mp 10),(16,.i64 f),(18,.u32 X),(19,.adr 11 0 4 0)] (M3 A x z v J L M N q u j V B C D E) 12) (gg [] [0,1,2,3,4,5,6,7,8,9,10,11,12]) (fun y o h=>?_) (fun X h=>?_)
   ·obtain⟨a8,a4⟩:=y;unfold rX at h;refine G (ag (aC h (fun ec h=>?_) (fun ec h=>?_)))
    ·refine ae (ab (ag (ak ?_)));obtain⟨ed,ef,h⟩:=g2 h;refine GN a0 [(1,1,oc ed),(2,2,oc ef)] (ag (br h (fun a9=>az [(1,.i64 Y),(4,.adr 0 0 2 0),(6,.adr 1 0 3 0),(7,.sl 4),(10,.adr 5 0 4 0),(13,.adr 6 0 2 0),(14,.sl 9),(15,.mp 10),(16,.i64 f),(17,.adr 11 0 4 0),(18,.u32 a8),(19,.adr 12 0 4 0),(21,.i64 a4),(110,.sl 4),(111,.i64 (v.length:Int)),(112,.i64 a4),(124,.bo a9)] (Fc A x z v J L M N q u j V ((j.getD f.toNat (0,0,0,0)).1) ((j.getD f.toNat (0,0,0,0)).2.1) ((j.getD f.toNat (0,0,0,0)).2.2.1) ((j.getD f.toNat (0,0,0,0)).2.2.2) B C D E) 13) (fun a9 h=>?_) (fun a9 h=>?_)))
     ·rcases aN h with⟨a5,h⟩ | ⟨a5,h⟩
      ·exact bC ⟨[(2,true),(7,true)],[]⟩ [(3,7,oc a5)] (eN h (gg [] [0,1,2,3,4,5,6,7,8,9,10,11,12]))
      obtain⟨ft,eh,h⟩:=ai h;have O:=(xS eh);exact bC ⟨[(2,false),(7,false)],[(6,(oP O))]⟩ [(3,5,an a5),(6,6,oc (And.intro a5 O)),(7,7,oc a5)] (eN h (gg [] [0,1,2,3,4,5,6,7,8,9,10,11,12]))
     refine ab (br h (fun aa=>az [(1,.i64 Y),(4,.adr 0 0 2 0),(6,.adr 1 0 3 0),(7,.sl 4),(10,.adr 5 0 4 0),(13,.adr 6 0 2 0),(14,.sl 9),(15,.mp 10),(16,.i64 f),(17,.adr 11 0 4 0),(18,.u32 aa),(19,.adr 12 0 4 0),(110,.sl 4),(111,.i64 (v.length:Int)),(112,.i64 a4)] (Fc A x z v J L M N q u j V ((j.getD f.toNat (0,0,0,0)).1) ((j.getD f.toNat (0,0,0,0)).2.1) ((j.getD f.toNat (0,0,0,0)).2.2.1) ((j.getD f.toNat (0,0,0,0)).2.2.2) B C D E) 13) (fun aa h=>?_) (fun aa h=>?_))
     ·refine aC h (fun ei h=>?_) (fun ei h=>?_)
      ·refine Ak 2 h (fun h=>?_);exact eN h (gg [] [0,1,2,3,4,5,6,7,8,9,10,11,12])
      exact ae (eN h (gg [] [0,1,2,3,4,5,6,7,8,9,10,11,12]))
     refine ay (ab (Ge ?_));exact eB h (gg [] [0,1,2,3,4,5,6,7,8,9,10,11,12])
    refine au (aQ ?_);exact eX h (gg [] [0,1,2,3,4,5,6,7,8,9,10,12])
   refine aw (ab (GC 1 h (fun h=>ag (G (ak ?_)))));refine kS h (fun(a1,a2,Z,I)=>az [(1,.i64 Y),(4,.adr 0 0 2 0),(6,.adr 1 0 3 0),(7,.sl 4),(10,.adr 5 0 4 0),(13,.adr 6 0 2 0),(14,.sl 9),(15,.mp 10),(16,.i64 f),(18,.u32 X),(19,.adr 11 0 4 0),(23,.sl 12),(132,.i64 Y),(133,.i64 I)] (L9 A x z v J L M N q u a1 a2 B C D E Z) 13) (dz (fD Tryz.f88.ntmps 10 (fun(c4,c5,c6)=>az [(1,.i64 Y),(4,.adr 0 0 2 0),(6,.adr 1 0 3 0),(7,.sl 4),(10,.adr 5 0 4 0),(13,.adr 6 0 2 0),(14,.sl 9),(15,.mp 10),(16,.i64 f),(18,.u32 X),(23,.sl 11)] (MI A x z v J L M N q u c4 c5 c6) 12)) (gB tb Tryz.f88.results.toList (fun(c7,c8)=>[⟨CC,c7⟩,⟨(.int .i64),c8⟩]))) (gg [] [0,1,2,3,4,5,6,7,8,9,10,11,20]) (fun y o h=>?_) (fun ej h e σ' hq=>?_)
   ·obtain⟨a1,a2,Z,I⟩:=y;unfold rv at h;refine G (ag (aC h (fun ek h=>?_) (fun ek h=>?_)))
    ·refine ae (ab (ag (ak (G (G (ag (G (ak ?_))))))));refine cz h (fun(ac,ad,ax,b1,a6)=>az [(1,.i64 Y),(4,.adr 0 0 2 0),(6,.adr 1 0 3 0),(7,.sl 4),(10,.adr 5 0 4 0),(13,.adr 6 0 2 0),(14,.sl 9),(15,.mp 10),(16,.i64 f),(18,.u32 X),(19,.adr 11 0 4 0),(23,.sl 12),(24,.i64 I),(25,.adr 13 0 4 0),(132,.i64 Y),(133,.i64 I),(139,.sl 2),(140,.i64 (x.length:Int)),(141,.i64 a6)] (JA A x z v J L M N q u a1 a2 B C D E Z ac ad ax b1) 14) 12 (fun(c9,cc,ch,cp)=>az [(1,.i64 Y),(4,.adr 0 0 2 0),(6,.adr 1 0 3 0),(7,.sl 4),(10,.adr 5 0 4 0),(13,.adr 6 0 2 0),(14,.sl 9),(15,.mp 10),(16,.i64 f),(18,.u32 X),(19,.adr 11 0 4 0),(23,.sl 12),(24,.i64 I),(25,.adr 13 0 4 0),(132,.i64 Y),(133,.i64 I)] (JA A x z v J L M N q u a1 a2 B C D E Z c9 cc ch cp) 14) (gg [] [0,1,2,3,4,5,6,7,8,9,10,11,12,37]) (fun y o h=>?_) (fun el h=>?_)
     ·obtain⟨ac,ad,ax,b1,a6⟩:=y;unfold rI at h;refine G (ag (aC h (fun eo h=>?_) (fun eo h=>?_)))
      ·refine ae (ab (ag (ak ?_)));obtain⟨ep,er,h⟩:=g2 h;refine GN a0 [(1,1,oc ep),(2,2,oc er)] (ag (br h (fun b2=>az [(1,.i64 Y),(4,.adr 0 0 2 0),(6,.adr 1 0 3 0),(7,.sl 4),(10,.adr 5 0 4 0),(13,.adr 6 0 2 0),(14,.sl 9),(15,.mp 10),(16,.i64 f),(18,.u32 X),(19,.adr 11 0 4 0),(23,.sl 12),(24,.i64 I),(25,.adr 13 0 4 0),(26,.i64 a6),(132,.i64 Y),(133,.i64 I),(139,.sl 2),(140,.i64 (x.length:Int)),(141,.i64 a6),(155,.bo b2)] (JA A x z v J L M N q u a1 a2 B C D E Z ac ad ax b1) 14) (fun b2 h=>?_) (fun b2 h=>?_)))
       ·obtain⟨fv,cs,h⟩:=ai h;rcases aN h with⟨a3,h⟩ | ⟨a3,h⟩
        ·obtain⟨es,h⟩:=aD h;have O:=(iu cs);exact bC ⟨[(3,true),(9,true)],[(2,(oP O))]⟩ [(2,2,oc O),(4,5,an a3),(6,6,oc (And.intro a3 es)),(7,8,an a3),(9,9,oc a3)] (eN h (gg [] [0,1,2,3,4,5,6,7,8,9,10,11,12,13]))
        have O:=(iu cs);exact bC ⟨[(3,false),(9,false)],[(2,(oP O))]⟩ [(2,2,oc O),(4,9,oc a3)] (eN h (gg [] [0,1,2,3,4,5,6,7,8,9,10,11,12,13]))
       refine ab (br h (fun(cx,d2,d3,d4)=>az [(1,.i64 Y),(4,.adr 0 0 2 0),(6,.adr 1 0 3 0),(7,.sl 4),(10,.adr 5 0 4 0),(13,.adr 6 0 2 0),(14,.sl 9),(15,.mp 10),(16,.i64 f),(18,.u32 X),(19,.adr 11 0 4 0),(23,.sl 12),(24,.i64 I),(25,.adr 13 0 4 0),(132,.i64 Y),(133,.i64 I),(139,.sl 2),(140,.i64 (x.length:Int)),(141,.i64 a6)] (JA A x z v J L M N q u a1 a2 B C D E Z cx d2 d3 d4) 14) (fun d5 h=>?_) (fun d5 h=>?_))
       ·refine aC h (fun et h=>?_) (fun et h=>?_)
        ·obtain⟨⟨fw,g1,g5,g6⟩,eu,h⟩:=ai h;exact mN 1 [13] (qN eu) (eN h (gg [] [0,1,2,3,4,5,6,7,8,9,10,11,12,13]))
        exact ae (eN h (gg [] [0,1,2,3,4,5,6,7,8,9,10,11,12,13]))
       obtain⟨cx,d2,d3,d4⟩:=d5;refine ay (ab (Ge ?_));exact eB h (gg [] [0,1,2,3,4,5,6,7,8,9,10,11,12,13])
      refine au (aQ ?_);exact eX h (gg [] [0,1,2,3,4,5,6,7,8,9,10,11,12,13])
     obtain⟨c9,cc,ch,cp⟩:=el;refine aw (ab (GN a0 [(2,2,oc zO)] (ag (G (DK h (dz (oa Tryz.f88.ntmps (fun(d6,d7,d8)=>az [(1,.i64 Y),(4,.adr 0 0 2 0),(6,.adr 1 0 3 0),(7,.sl 4),(10,.adr 5 0 4 0),(13,.adr 6 0 2 0),(14,.sl 9),(15,.mp 10),(16,.i64 f),(18,.u32 X),(19,.adr 11 0 4 0),(23,.sl 12),(24,.i64 I),(28,.i64 d8),(132,.i64 Y),(133,.i64 I)] (L9 A x z v J L M N q u d6 d7 B C D E Z) 13)) (gB tb Tryz.f88.results.toList (fun(d9,dd)=>[⟨CC,d9⟩,⟨(.int .i64),dd⟩]))) (fun de h=>?_) (fun de h e σ' hq=>?_))))))
     ·refine aC h (fun ew h=>?_) (fun ew h=>?_)
      ·refine ag (G (G (aC h (fun ey h=>?_) (fun ey h=>?_))))
       ·refine G (av ?_);obtain rfl:=sI h;refine aj (aM ?_);exact bL (RI [CC,(.int .i64)])
       refine ae (ab (GN a0 [(3,3,oc zO)] (Ak 3 h (fun h=>?_))));obtain rfl:=sI h;exact bk (cJ (gg [] [0,1,2,3,4,5,6,7,8,190,10,11,12]))
      refine ae ?_;obtain rfl:=sI h;exact bk (cJ (gg [] [0,1,2,3,4,5,6,7,8,9,10,11,12]))
     rcases de with⟨d6,d7,d8⟩ | ⟨d9,dd⟩
     ·obtain⟨rfl,b3⟩:=hq;refine cH ?_ b3;refine ab ?_;obtain⟨f1,f2,h⟩:=g2 h;refine bC a0 [(3,3,oc f1),(4,4,oc f2)] (ay (ab (Ge ?_)));exact eB h (gg [] [0,1,2,3,4,5,6,7,8,9,10,11,12])
     obtain⟨rfl,hr⟩:=hq;obtain rfl:=sI h;refine aj (aA (aj (bM (aM ?_))));exact bL hr
    refine au (aQ ?_);obtain rfl:=sI h;refine dL (bk ?_);exact bT (gg [] [0,1,2,3,4,5,6,7,8,9,10,12])
   rcases ej with⟨c4,c5,c6⟩ | ⟨c7,c8⟩
   ·obtain⟨rfl,b3⟩:=hq;refine cH ?_ b3;refine aw (ab ?_);obtain⟨f3,f4,h⟩:=g2 h;refine nj a0 [(4,4,oc f3),(9,9,oc f4)] (ay (ab (Ge ?_)));exact eB h (gg [] [0,1,2,3,4,5,6,44,84,9,10])
   obtain⟨rfl,hr⟩:=hq;obtain rfl:=sI h;refine aA (aj (aA (aj (bM (aM ?_)))));exact bL hr
  refine au (aQ ?_);obtain rfl:=sI h;refine dL (bk ?_);exact bT (gg [] [0,6,7,8])
 rcases e1 with⟨b5,b6⟩ | ⟨b7,b8⟩
 ·obtain⟨rfl,b3⟩:=hq;refine cH ?_ b3;refine aw (ab (G (lZ [.frzC 0 0,.frzC 0 1] (by kernel_rfl) (av ?_))));obtain rfl:=sI h;exact RI [CC,(.int .i64)]
 obtain⟨rfl,hr⟩:=hq;refine aA (aj ?_);obtain rfl:=sI h;exact hr
def px(p:QZ)(j:Int):(Int)→Option ((Int)⊕((Unit)⊕(Bool))):=fun f =>
 (if(decide (f<((p.getD j.toNat []).length:Int)))=true then(if 0≤f∧f<((p.getD j.toNat []).length:Int)then(((if(decide (((p.getD j.toNat []).getD f.toNat 0)<0))=true then some (true)
 else some ((decide (((p.getD j.toNat []).getD f.toNat 0)≥(p.length:Int)))))).bind fun q=>(if q=true then some (Sum.inr (Sum.inr false))
 else some (Sum.inl (i64.wrap (f+1)))))else none)
 else some (Sum.inr (Sum.inl ())))
def pA(j:QZ):(Int)→Option ((Int)⊕((Unit)⊕(Bool))):=fun f =>
 (if(decide (f<(j.length:Int)))=true then(if 0≤f∧f<(j.length:Int)then(if 0≤(0:Int)∧0<(j.length:Int)then(if(((j.getD f.toNat []).length:Int) != ((j.getD ((0:Int).toNat) []).length:Int))=true then some (Sum.inr (Sum.inr false))
 else((iter (px j f) (0:Int)).bind fun(p:((Unit)⊕(Bool)))=>match p with
 | .inl _=>some (Sum.inl (i64.wrap (f+1)))
 | .inr (q)=>some (Sum.inr (Sum.inr q))))else none)else none)
 else some (Sum.inr (Sum.inl ())))
def ml(f:QZ)(j:QK):Option (Bool) :=
 (((if((f.length:Int) == 0)=true then some (true)
 else some (((f.length:Int) != (j.length:Int))))).bind fun v1=>(if v1=true then some false
 else((iter (pA f) (0:Int)).bind fun(p:((Unit)⊕(Bool)))=>match p with
 | .inl _=>some true
 | .inr (q)=>some q)))
theorem wj(f u:Bool){j:QZ}{x:QK}{C:Bool}(h:ml j x=some C):
  Pure Tryz.prog 110 [.agg [.p f (.slice (.slice (.int .i64))) j,.p u (.slice (.int .u32)) x]] (aL (bd false [⟨.bool,C⟩])):=by
 refine PB Tryz.func110 (fun Bw w0=>?_);unfold ml at h;refine G (ag (ag (br h (fun v1=>az [(1,.adr 0 0 2 0),(19,.bo v1)] (F8 f j u x) 1) (fun v1 h=>?_) (fun v1 h=>?_))))
 ·rcases aN h with⟨E,h⟩ | ⟨E,h⟩
  ·exact bC ⟨[(4,true),(12,true)],[]⟩ [(5,12,oc E)] (eN h (gg [] [0]))
  exact bC ⟨[(4,false),(12,false)],[]⟩ [(5,11,an E),(12,12,oc E)] (eN h (gg [] [0]))
 refine ab (aC h (fun X h=>?_) (fun X h=>?_))
 ·refine G (av (aj ?_));obtain rfl:=sI h;exact RI [.bool]
 refine ae (ab (ag (G (ak (kS h (fun q=>az [(1,.adr 0 0 2 0),(21,.p f (.slice (.slice (.int .i64))) j),(22,.i64 (j.length:Int)),(23,.i64 q)] (F8 f j u x) 1) (dz (fD Tryz.f110.ntmps 0 (fun _=>az [] [] 0)) (gB tb Tryz.f110.results.toList (fun O=>[⟨.bool,O⟩]))) (gg [] [0]) (fun q o h=>?_) (fun Y h e σ' D=>?_))))))
 ·unfold pA at h;refine G (ag (aC h (fun I h=>?_) (fun I h=>?_)))
  ·refine ae (ab (ag (ak (GC 0 h (fun h=>ag (GC 4 h (fun h=>aC h (fun J h=>?_) (fun J h=>?_))))))))
   ·refine G (av ?_);obtain rfl:=sI h;refine aj (aA (aj (bM (aM ?_))));exact bL (RI [.bool])
   refine ae (ab (G (ak (kS h (fun z=>az [(1,.adr 0 0 2 0),(21,.p f (.slice (.slice (.int .i64))) j),(22,.i64 (j.length:Int)),(23,.i64 q),(35,.p f (.slice (.int .i64)) (j.getD q.toNat [])),(36,.i64 ((j.getD q.toNat []).length:Int)),(37,.i64 z)] (F8 f j u x) 1) (dz (fD Tryz.f110.ntmps 2 (fun _=>az [(1,.adr 0 0 2 0),(21,.p f (.slice (.slice (.int .i64))) j),(22,.i64 (j.length:Int)),(23,.i64 q)] (F8 f j u x) 1)) (gB tb Tryz.f110.results.toList (fun V=>[⟨.bool,V⟩]))) (gg [] [0]) (fun z o h=>?_) (fun Z h e σ' D=>?_)))))
   ·unfold px at h;refine G (ag (aC h (fun L h=>?_) (fun L h=>?_)))
    ·refine ae (ab (ag (ak (GC 0 h (fun h=>ag (br h (fun A=>az [(1,.adr 0 0 2 0),(21,.p f (.slice (.slice (.int .i64))) j),(22,.i64 (j.length:Int)),(23,.i64 q),(35,.p f (.slice (.int .i64)) (j.getD q.toNat [])),(36,.i64 ((j.getD q.toNat []).length:Int)),(37,.i64 z),(49,.bo A)] (F8 f j u x) 1) (fun A h=>?_) (fun A h=>?_)))))))
     ·rcases aN h with⟨v,h⟩ | ⟨v,h⟩
      ·exact bC ⟨[(2,true),(8,true)],[]⟩ [(3,8,oc v)] (eN h (gg [] [0]))
      exact bC ⟨[(2,false),(8,false)],[]⟩ [(3,7,an v),(8,8,oc v)] (eN h (gg [] [0]))
     refine ab (aC h (fun M h=>?_) (fun M h=>?_))
     ·refine G (av ?_);obtain rfl:=sI h;refine aA (aj (bM (aM ?_)));exact bL (RI [.bool])
     refine ae (ay (ab (Ge ?_)));exact eB h (gg [] [0])
    refine au (aQ ?_);obtain rfl:=sI h;refine dL (bk ?_);exact bT (gg [] [0])
   rcases Z with _ | V
   ·obtain⟨rfl,B⟩:=D;refine cH ?_ B;refine aw (ay (ab (Ge ?_)));exact eB h (gg [] [0])
   obtain⟨rfl,N⟩:=D;obtain rfl:=sI h;refine aA (aA (aj (bM (aM ?_))));exact bL N
  refine au (aQ ?_);obtain rfl:=sI h;refine dL (bk ?_);exact bT (gg [] [])
 rcases Y with _ | O
 ·obtain⟨rfl,B⟩:=D;refine cH ?_ B;refine aw (ab (G (av ?_)));obtain rfl:=sI h;exact RI [.bool]
 obtain⟨rfl,N⟩:=D;refine aA (aj ?_);obtain rfl:=sI h;exact N
def im(p:Int)(u:QZ)(q j:QK):Option QK :=
 (if 0≤p∧p<(q.length:Int)then(if(j.length+([(i64.wrap (q.getD p.toNat 0))]:QK).length)*8≤140737488355328∧j.length+([(i64.wrap (q.getD p.toNat 0))]:QK).length≤9223372036854775807 then some (j++([(i64.wrap (q.getD p.toNat 0))]:QK))else none)else none)
theorem qI(q u:Bool){v:Int}{z:QZ}{x f j:QK}(h:im v z x f=some j):
  jy Tryz.prog 112 [.i64 v,.sl 0,.fad true [.p q (.slice (.slice (.int .i64))) z,.p u (.slice (.int .u32)) x] 0] [(0,.arr 3 (.int .i64) f)] (.sl 1) [(1,.arr 3 (.int .i64) j)]:=by
 refine OB Tryz.func112 (fun Bw w0=>?_);unfold im at h;refine G ?_;obtain⟨A,B,h⟩:=g2 h;refine GN a0 [(4,4,oc A),(8,8,oc B)] (av ?_);obtain rfl:=sI h;exact RO [none] [] [0,73] [(5,.sl 1)] [(1,.arr 3 (.int .i64) (f++([(i64.wrap (x.getD v.toNat 0))]:QK)))] 2 1
def jc(j:QK):uU→Option (uU⊕QK):=fun(p,f) =>
 (if(decide (f<(j.length:Int)))=true then(if 0≤f∧f<(j.length:Int)then(if f.toNat<j.length then(if 0≤(8:Int)then(if 0≤(16:Int)then(if 0≤(24:Int)then(if(p.length+([(u8.wrap (j.getD f.toNat 0)),(u8.wrap (Int.fdiv (j.getD f.toNat 0) (2 ^ (min (8:Int).toNat i64.bits)))),(u8.wrap (Int.fdiv (j.getD f.toNat 0) (2 ^ (min (16:Int).toNat i64.bits)))),(u8.wrap (Int.fdiv (j.getD f.toNat 0) (2 ^ (min (24:Int).toNat i64.bits))))]:QK).length)*1≤140737488355328∧p.length+([(u8.wrap (j.getD f.toNat 0)),(u8.wrap (Int.fdiv (j.getD f.toNat 0) (2 ^ (min (8:Int).toNat i64.bits)))),(u8.wrap (Int.fdiv (j.getD f.toNat 0) (2 ^ (min (16:Int).toNat i64.bits)))),(u8.wrap (Int.fdiv (j.getD f.toNat 0) (2 ^ (min (24:Int).toNat i64.bits))))]:QK).length≤9223372036854775807 then some (Sum.inl ((p++([(u8.wrap (j.getD f.toNat 0)),(u8.wrap (Int.fdiv (j.getD f.toNat 0) (2 ^ (min (8:Int).toNat i64.bits)))),(u8.wrap (Int.fdiv (j.getD f.toNat 0) (2 ^ (min (16:Int).toNat i64.bits)))),(u8.wrap (Int.fdiv (j.getD f.toNat 0) (2 ^ (min (24:Int).toNat i64.bits))))]:QK)),(i64.wrap (f+1))))else none)else none)else none)else none)else none)else none)
 else some (Sum.inr p))
def po(x:Int)(z:QZ)(A:QK):(XX×QK×QK×Int)→Option ((XX×QK×QK×Int)⊕QK):=fun(j,v20,q,f) =>
 (if(decide (f<x))=true then(if 0≤(0:Int)∧0≤(q.length:Int)then((im f z A (q.take (0:Int).toNat)).bind fun v =>
 ((iter (jc v) (([]:QK),0)).bind fun p=>(((if(!((bg .str j (bytesOf p)).isSome))=true then some (((cF .str j (bytesOf p) (j.length:Int)),(j.length:Int)))
 else some ((j,((bg .str j (bytesOf p)).getD 0))))).bind fun(u,v30)=>(if 0≤f∧f<(v20.length:Int)then(if f.toNat<v20.length then some (Sum.inl (u,(v20.set f.toNat v30),v,(i64.wrap (f+1))))else none)else none))))else none)
 else some (Sum.inr v20))
def mh(j:Int)(q:QZ)(u:QK):Option QK :=
 (if 0≤j∧j≤j∧8*j≤281474976710656∧j≤9223372036854775807 then((iter (po j q u) (([]:XX),(List.replicate j.toNat (0:Int)),([]:QK),0)).bind fun p=>some p)else none)
theorem vk(j q:Bool){v:Int}{x:QZ}{z A:QK}(h:mh v x z=some A):
  Pure Tryz.prog 111 [.i64 v,.fn 112 [.fad true [.p j (.slice (.slice (.int .i64))) x,.p q (.slice (.int .u32)) z] 0]] (aL (bd false [⟨(.slice (.int .i64)),A⟩])):=by
 refine PB Tryz.func111 (fun Bw w0=>?_);unfold mh at h;refine G (G (GC 1 h (fun h=>G (ag (G (ak (cz h (fun(u,v20,B,f)=>az [(1,.fn 112 [.fad true [.p j (.slice (.slice (.int .i64))) x,.p q (.slice (.int .u32)) z] 0]),(5,.mp 0),(6,.sl 1),(7,.sl 2),(17,.i64 v),(18,.i64 f)] (I2 u v20 B) 3) 0 (fun C=>az [(6,.sl 0)] [(0,.arr 3 (.int .i64) C)] 1) (gg [.nilS 7 72 3 (.int .i64)] [8,32,72]) (fun y o h=>?_) (fun C h=>?_))))))))
 ·obtain⟨u,v20,B,f⟩:=y;unfold po at h;refine G (ag (aC h (fun a2 h=>?_) (fun a2 h=>?_)))
  ·refine ae (ab (ag (ak (G ?_))));obtain⟨a3,h⟩:=aD h;obtain⟨r8,q6,h⟩:=ai h;have D:=(qI j q q6);refine GN ⟨[],[(4,(oO D [51]))]⟩ [(3,3,oc a3),(4,4,oc D)] (G (ag (G (ak (cz h (fun(E,I)=>az [(1,.fn 112 [.fad true [.p j (.slice (.slice (.int .i64))) x,.p q (.slice (.int .u32)) z] 0]),(5,.mp 0),(6,.sl 1),(7,.sl 2),(8,.i64 f),(9,.sl 3),(17,.i64 v),(18,.i64 f),(26,.sl 2),(27,.i64 (r8.length:Int)),(28,.i64 I)] (IF u v20 r8 E) 4) 2 (fun J=>az [(1,.fn 112 [.fad true [.p j (.slice (.slice (.int .i64))) x,.p q (.slice (.int .u32)) z] 0]),(5,.mp 0),(6,.sl 1),(7,.sl 2),(8,.i64 f),(9,.sl 3),(17,.i64 v),(18,.i64 f)] (IF u v20 r8 J) 4) (gg [.nilS 9 107 5 (.int .u8)] [0,1,59,107]) (fun y o h=>?_) (fun J h=>?_))))))
   ·obtain⟨E,I⟩:=y;unfold jc at h;refine G (ag (aC h (fun a4 h=>?_) (fun a4 h=>?_)))
    ·refine ae (ab (ag (ak ?_)));obtain⟨L,M,h⟩:=g2 h;refine GN a0 [(0,0,oc L),(1,1,oc M)] ?_;obtain⟨N,O,V,X,h⟩:=g4 h;refine bC a0 [(4,4,oc N),(7,7,oc O),(10,10,oc V),(13,13,oc X)] (ay (ab (Ge ?_)));exact eB h (gg [] [0,1,2,140])
    refine au (aQ ?_);exact eX h (gg [] [0,1,2,3])
   refine aw (ab (G (ag (G (br h (fun(Y,v30)=>az [(1,.fn 112 [.fad true [.p j (.slice (.slice (.int .i64))) x,.p q (.slice (.int .u32)) z] 0]),(5,.mp 0),(6,.sl 1),(7,.sl 2),(8,.i64 f),(12,.i64 v30),(17,.i64 v),(18,.i64 f)] (I2 Y v20 r8) 3) (fun r9 h=>?_) (fun r9 h=>?_))))))
   ·refine aC h (fun a5 h=>?_) (fun a5 h=>?_)
    ·refine G (Ge ?_);exact eN h (gg [] [0,1,2])
    exact ae (eN h (gg [] [0,1,2]))
   obtain⟨Y,v30⟩:=r9;refine ab ?_;obtain⟨Z,a1,h⟩:=g2 h;refine bC a0 [(3,3,oc Z),(4,4,oc a1)] (ay (ab (Ge ?_)));exact eB h (gg [] [0,1,2])
  refine au (aQ ?_);exact eX h (gg [] [1])
 refine aw (ab (G (av ?_)));obtain rfl:=sI h;exact RI [(.slice (.int .i64))]
def fL(p:Int)(u:QK)(q:QZ):uU→Option (uU⊕QK):=fun(j,v4) =>
 (if(decide (v4<((q.getD p.toNat []).length:Int)))=true then(if 0≤v4∧v4<((q.getD p.toNat []).length:Int)then(if 0≤((q.getD p.toNat []).getD v4.toNat 0)∧((q.getD p.toNat []).getD v4.toNat 0)<(u.length:Int)then(if(j.length+([(u.getD (((q.getD p.toNat []).getD v4.toNat 0).toNat) 0)]:QK).length)*8≤140737488355328∧j.length+([(u.getD (((q.getD p.toNat []).getD v4.toNat 0).toNat) 0)]:QK).length≤9223372036854775807 then some (Sum.inl ((j++([(u.getD (((q.getD p.toNat []).getD v4.toNat 0).toNat) 0)]:QK)),(i64.wrap (v4+1))))else none)else none)else none)
 else some (Sum.inr j))
def iw(p:Int)(q:QK)(v:QZ)(x j:QK):Option QK :=
 (if 0≤p∧p<(q.length:Int)then(if(j.length+([(q.getD p.toNat 0)]:QK).length)*8≤140737488355328∧j.length+([(q.getD p.toNat 0)]:QK).length≤9223372036854775807 then(if 0≤p∧p<(v.length:Int)then((iter (fL p q v) ((j++([(q.getD p.toNat 0)]:QK)),0)).bind fun u=>some u)else none)else none)else none)
theorem qL(u v B:Bool){z:Int}{C:QK}{A:QZ}{L j x:QK}(h:iw z C A L j=some x):
  jy Tryz.prog 113 [.i64 z,.sl 0,.fad true [.p u (.slice (.int .i64)) C] 0,.fad true [.p v (.slice (.slice (.int .i64))) A,.p B (.slice (.int .u32)) L] 0] [(0,.arr 3 (.int .i64) j)] (.sl 1) [(1,.arr 3 (.int .i64) x)]:=by
 refine OB Tryz.func113 (fun Bw w0=>?_);unfold iw at h;refine G ?_;obtain⟨D,E,h⟩:=g2 h;refine GN a0 [(3,3,oc D),(6,6,oc E)] (ag (GC 3 h (fun h=>ak (cz h (fun(q,v4)=>az [(1,.sl 1),(2,.fad true [.p u (.slice (.int .i64)) C] 0),(20,.p v (.slice (.int .i64)) (A.getD z.toNat [])),(21,.i64 ((A.getD z.toNat []).length:Int)),(22,.i64 v4)] [(1,.arr 3 (.int .i64) q)] 2 1) 0 (fun f=>az [(1,.sl 1)] [(1,.arr 3 (.int .i64) f)] 2 1) (gg [] [0,57]) (fun y o h=>?_) (fun f h=>?_)))))
 ·obtain⟨q,v4⟩:=y;unfold fL at h;refine G (ag (aC h (fun M h=>?_) (fun M h=>?_)))
  ·refine ae (ab (ag (ak (GC 0 h (fun h=>?_)))));obtain⟨I,J,h⟩:=g2 h;refine bC a0 [(3,3,oc I),(6,6,oc J)] (ay (ab (Ge ?_)));exact eB h (gg [] [0,82])
  refine au (aQ ?_);exact eX h (gg [] [0,1])
 refine aw (ab (G (av ?_)));obtain rfl:=sI h;exact RO [none] [] [0,1] [(6,.sl 1)] [(1,.arr 3 (.int .i64) f)] 2 1
def mz(j:QK):uU→Option (uU⊕QK):=fun(p,f) =>
 (if(decide (f<(j.length:Int)))=true then(if 0≤f∧f<(j.length:Int)then(if f.toNat<j.length then(if 0≤(8:Int)then(if 0≤(16:Int)then(if 0≤(24:Int)then(if(p.length+([(u8.wrap (j.getD f.toNat 0)),(u8.wrap (Int.fdiv (j.getD f.toNat 0) (2 ^ (min (8:Int).toNat i64.bits)))),(u8.wrap (Int.fdiv (j.getD f.toNat 0) (2 ^ (min (16:Int).toNat i64.bits)))),(u8.wrap (Int.fdiv (j.getD f.toNat 0) (2 ^ (min (24:Int).toNat i64.bits))))]:QK).length)*1≤140737488355328∧p.length+([(u8.wrap (j.getD f.toNat 0)),(u8.wrap (Int.fdiv (j.getD f.toNat 0) (2 ^ (min (8:Int).toNat i64.bits)))),(u8.wrap (Int.fdiv (j.getD f.toNat 0) (2 ^ (min (16:Int).toNat i64.bits)))),(u8.wrap (Int.fdiv (j.getD f.toNat 0) (2 ^ (min (24:Int).toNat i64.bits))))]:QK).length≤9223372036854775807 then some (Sum.inl ((p++([(u8.wrap (j.getD f.toNat 0)),(u8.wrap (Int.fdiv (j.getD f.toNat 0) (2 ^ (min (8:Int).toNat i64.bits)))),(u8.wrap (Int.fdiv (j.getD f.toNat 0) (2 ^ (min (16:Int).toNat i64.bits)))),(u8.wrap (Int.fdiv (j.getD f.toNat 0) (2 ^ (min (24:Int).toNat i64.bits))))]:QK)),(i64.wrap (f+1))))else none)else none)else none)else none)else none)else none)
 else some (Sum.inr p))
def mn(x:Int)(z:QK)(A:QZ)(B:QK):(XX×QK×QK×Int)→Option ((XX×QK×QK×Int)⊕QK):=fun(j,v20,q,f) =>
 (if(decide (f<x))=true then(if 0≤(0:Int)∧0≤(q.length:Int)then((iw f z A B (q.take (0:Int).toNat)).bind fun v =>
 ((iter (mz v) (([]:QK),0)).bind fun p=>(((if(!((bg .str j (bytesOf p)).isSome))=true then some (((cF .str j (bytesOf p) (j.length:Int)),(j.length:Int)))
 else some ((j,((bg .str j (bytesOf p)).getD 0))))).bind fun(u,v30)=>(if 0≤f∧f<(v20.length:Int)then(if f.toNat<v20.length then some (Sum.inl (u,(v20.set f.toNat v30),v,(i64.wrap (f+1))))else none)else none))))else none)
 else some (Sum.inr v20))
def jf(j:Int)(q:QK)(u:QZ)(v:QK):Option QK :=
 (if 0≤j∧j≤j∧8*j≤281474976710656∧j≤9223372036854775807 then((iter (mn j q u v) (([]:XX),(List.replicate j.toNat (0:Int)),([]:QK),0)).bind fun p=>some p)else none)
theorem sd(j q u:Bool){x:Int}{z:QK}{A:QZ}{B C:QK}(h:jf x z A B=some C):
  Pure Tryz.prog 111 [.i64 x,.fn 113 [.fad true [.p j (.slice (.int .i64)) z] 0,.fad true [.p q (.slice (.slice (.int .i64))) A,.p u (.slice (.int .u32)) B] 0]] (aL (bd false [⟨(.slice (.int .i64)),C⟩])):=by
 refine PB Tryz.func111 (fun Bw w0=>?_);unfold jf at h;refine G (G (GC 1 h (fun h=>G (ag (G (ak (cz h (fun(v,v20,D,f)=>az [(1,.fn 113 [.fad true [.p j (.slice (.int .i64)) z] 0,.fad true [.p q (.slice (.slice (.int .i64))) A,.p u (.slice (.int .u32)) B] 0]),(5,.mp 0),(6,.sl 1),(7,.sl 2),(17,.i64 x),(18,.i64 f)] (I2 v v20 D) 3) 0 (fun E=>az [(6,.sl 0)] [(0,.arr 3 (.int .i64) E)] 1) (gg [.nilS 7 72 3 (.int .i64)] [8,32,72]) (fun y o h=>?_) (fun E h=>?_))))))))
 ·obtain⟨v,v20,D,f⟩:=y;unfold mn at h;refine G (ag (aC h (fun a4 h=>?_) (fun a4 h=>?_)))
  ·refine ae (ab (ag (ak (G ?_))));obtain⟨a5,h⟩:=aD h;obtain⟨r8,q6,h⟩:=ai h;have I:=(qL j q u q6);refine GN ⟨[],[(4,(oO I [51]))]⟩ [(3,3,oc a5),(4,4,oc I)] (G (ag (G (ak (cz h (fun(J,L)=>az [(1,.fn 113 [.fad true [.p j (.slice (.int .i64)) z] 0,.fad true [.p q (.slice (.slice (.int .i64))) A,.p u (.slice (.int .u32)) B] 0]),(5,.mp 0),(6,.sl 1),(7,.sl 2),(8,.i64 f),(9,.sl 3),(17,.i64 x),(18,.i64 f),(26,.sl 2),(27,.i64 (r8.length:Int)),(28,.i64 L)] (IF v v20 r8 J) 4) 2 (fun M=>az [(1,.fn 113 [.fad true [.p j (.slice (.int .i64)) z] 0,.fad true [.p q (.slice (.slice (.int .i64))) A,.p u (.slice (.int .u32)) B] 0]),(5,.mp 0),(6,.sl 1),(7,.sl 2),(8,.i64 f),(9,.sl 3),(17,.i64 x),(18,.i64 f)] (IF v v20 r8 M) 4) (gg [.nilS 9 107 5 (.int .u8)] [0,1,59,107]) (fun y o h=>?_) (fun M h=>?_))))))
   ·obtain⟨J,L⟩:=y;unfold mz at h;refine G (ag (aC h (fun a6 h=>?_) (fun a6 h=>?_)))
    ·refine ae (ab (ag (ak ?_)));obtain⟨N,O,h⟩:=g2 h;refine GN a0 [(0,0,oc N),(1,1,oc O)] ?_;obtain⟨V,X,Y,Z,h⟩:=g4 h;refine bC a0 [(4,4,oc V),(7,7,oc X),(10,10,oc Y),(13,13,oc Z)] (ay (ab (Ge ?_)));exact eB h (gg [] [0,1,2,140])
    refine au (aQ ?_);exact eX h (gg [] [0,1,2,3])
   refine aw (ab (G (ag (G (br h (fun(a1,v30)=>az [(1,.fn 113 [.fad true [.p j (.slice (.int .i64)) z] 0,.fad true [.p q (.slice (.slice (.int .i64))) A,.p u (.slice (.int .u32)) B] 0]),(5,.mp 0),(6,.sl 1),(7,.sl 2),(8,.i64 f),(12,.i64 v30),(17,.i64 x),(18,.i64 f)] (I2 a1 v20 r8) 3) (fun r9 h=>?_) (fun r9 h=>?_))))))
   ·refine aC h (fun a7 h=>?_) (fun a7 h=>?_)
    ·refine G (Ge ?_);exact eN h (gg [] [0,1,2])
    exact ae (eN h (gg [] [0,1,2]))
   obtain⟨a1,v30⟩:=r9;refine ab ?_;obtain⟨a2,a3,h⟩:=g2 h;refine bC a0 [(3,3,oc a2),(4,4,oc a3)] (ay (ab (Ge ?_)));exact eB h (gg [] [0,1,2])
  refine au (aQ ?_);exact eX h (gg [] [1])
 refine aw (ab (G (av ?_)));obtain rfl:=sI h;exact RI [(.slice (.int .i64))]
def qe(j:QK):(Int×Int)→Option ((Int×Int)⊕(Int)):=fun(p,f) =>
 (if(decide (f<(j.length:Int)))=true then(if 0≤f∧f<(j.length:Int)then some (Sum.inl ((max p (j.getD f.toNat 0)),(i64.wrap (f+1))))else none)
 else some (Sum.inr p))
def jE(f:QK):Option (Int) :=
 ((iter (qe f) (0,0)).bind fun j=>some j)
theorem mL(f:Bool){q:QK}{j:Int}(h:jE q=some j):
  Pure Tryz.prog 114 [.p f (.slice (.int .i64)) q] (aL (bd false [⟨(.int .i64),j⟩])):=by
 refine PB Tryz.func114 (fun Bw w0=>?_);unfold jE at h;refine G (G (ag (G (ak (cz h (fun(u,v)=>az [(3,.i64 u),(6,.p f (.slice (.int .i64)) q),(7,.i64 (q.length:Int)),(8,.i64 v)] [] 0) 0 (fun x=>az [(3,.i64 x)] [] 0) (gg [] []) (fun y o h=>?_) (fun x h=>?_))))))
 ·obtain⟨u,v⟩:=y;unfold qe at h;refine G (ag (aC h (fun z h=>?_) (fun z h=>?_)))
  ·refine ae (ab (ag (ak (GC 0 h (fun h=>Ge (ay (ab (Ge ?_))))))));exact eB h (gg [] [])
  refine au (aQ ?_);exact eX h (gg [] [])
 refine aw (ab (G (av ?_)));obtain rfl:=sI h;exact RI [(.int .i64)]
def kq(j:Int):uU→Option (uU⊕QK):=fun(f,v4) =>
 (if(decide (v4<((List.replicate (i64.wrap (j+1)).toNat (0:Int)).length:Int)))=true then(if 0≤v4∧v4<(f.length:Int)then(if v4.toNat<f.length then some (Sum.inl ((f.set v4.toNat (-1:Int)),(i64.wrap (v4+1))))else none)else none)
 else some (Sum.inr f))
def kh(q:QZ)(u j:QK)(p:Int):(QK×QK×QK×Int)→Option ((QK×QK×QK×Int)⊕(QK×QK×QK)):=fun(v,x,A,f) =>
 (if(decide (f<((q.getD ((j.getD p.toNat 0).toNat) []).length:Int)))=true then(if 0≤f∧f<((q.getD ((j.getD p.toNat 0).toNat) []).length:Int)then(if 0≤((q.getD ((j.getD p.toNat 0).toNat) []).getD f.toNat 0)∧((q.getD ((j.getD p.toNat 0).toNat) []).getD f.toNat 0)<(u.length:Int)then(if 0≤(u.getD (((q.getD ((j.getD p.toNat 0).toNat) []).getD f.toNat 0).toNat) 0)∧(u.getD (((q.getD ((j.getD p.toNat 0).toNat) []).getD f.toNat 0).toNat) 0)<(v.length:Int)then(if(u.getD (((q.getD ((j.getD p.toNat 0).toNat) []).getD f.toNat 0).toNat) 0).toNat<v.length then(((if(decide ((v.getD ((u.getD (((q.getD ((j.getD p.toNat 0).toNat) []).getD f.toNat 0).toNat) 0).toNat) 0)<0))=true then(if 0≤((q.getD ((j.getD p.toNat 0).toNat) []).getD f.toNat 0)∧((q.getD ((j.getD p.toNat 0).toNat) []).getD f.toNat 0)<(u.length:Int)then(if 0≤(u.getD (((q.getD ((j.getD p.toNat 0).toNat) []).getD f.toNat 0).toNat) 0)∧(u.getD (((q.getD ((j.getD p.toNat 0).toNat) []).getD f.toNat 0).toNat) 0)<(v.length:Int)then(if(u.getD (((q.getD ((j.getD p.toNat 0).toNat) []).getD f.toNat 0).toNat) 0).toNat<v.length then(if(x.length+([((q.getD ((j.getD p.toNat 0).toNat) []).getD f.toNat 0)]:QK).length)*8≤140737488355328∧x.length+([((q.getD ((j.getD p.toNat 0).toNat) []).getD f.toNat 0)]:QK).length≤9223372036854775807 then some (((v.set ((u.getD (((q.getD ((j.getD p.toNat 0).toNat) []).getD f.toNat 0).toNat) 0).toNat) (x.length:Int)),(x++([((q.getD ((j.getD p.toNat 0).toNat) []).getD f.toNat 0)]:QK))))else none)else none)else none)else none)
 else some ((v,x)))).bind fun(z,B)=>(if 0≤((q.getD ((j.getD p.toNat 0).toNat) []).getD f.toNat 0)∧((q.getD ((j.getD p.toNat 0).toNat) []).getD f.toNat 0)<(u.length:Int)then(if 0≤(u.getD (((q.getD ((j.getD p.toNat 0).toNat) []).getD f.toNat 0).toNat) 0)∧(u.getD (((q.getD ((j.getD p.toNat 0).toNat) []).getD f.toNat 0).toNat) 0)<(z.length:Int)then(if(u.getD (((q.getD ((j.getD p.toNat 0).toNat) []).getD f.toNat 0).toNat) 0).toNat<z.length then(if(A.length+([(z.getD ((u.getD (((q.getD ((j.getD p.toNat 0).toNat) []).getD f.toNat 0).toNat) 0).toNat) 0)]:QK).length)*8≤140737488355328∧A.length+([(z.getD ((u.getD (((q.getD ((j.getD p.toNat 0).toNat) []).getD f.toNat 0).toNat) 0).toNat) 0)]:QK).length≤9223372036854775807 then some (Sum.inl (z,B,(A++([(z.getD ((u.getD (((q.getD ((j.getD p.toNat 0).toNat) []).getD f.toNat 0).toNat) 0).toNat) 0)]:QK)),(i64.wrap (f+1))))else none)else none)else none)else none))else none)else none)else none)else none)
 else some (Sum.inr (v,x,A)))
def kj(B:QZ)(x C:QK):(QZ×QK×QK×QK×Int)→Option ((QZ×QK×QK×QK×Int)⊕Ee):=fun(q,u,z,p,f) =>
 (if(decide (f<(p.length:Int)))=true then(if 0≤f∧f<(p.length:Int)then(if f.toNat<p.length then(if 0≤(p.getD f.toNat 0)∧(p.getD f.toNat 0)<(B.length:Int)then((iter (kh B C p f) (z,p,([]:QK),0)).bind fun(A,j,v)=>(if(q.length+([v]:QZ).length)*24≤140737488355328∧q.length+([v]:QZ).length≤9223372036854775807 then(if 0≤f∧f<(j.length:Int)then(if f.toNat<j.length then(if 0≤(j.getD f.toNat 0)∧(j.getD f.toNat 0)<(x.length:Int)then(if(u.length+([(x.getD ((j.getD f.toNat 0).toNat) 0)]:QK).length)*4≤140737488355328∧u.length+([(x.getD ((j.getD f.toNat 0).toNat) 0)]:QK).length≤9223372036854775807 then some (Sum.inl ((q++([v]:QZ)),(u++([(x.getD ((j.getD f.toNat 0).toNat) 0)]:QK)),A,j,(i64.wrap (f+1))))else none)else none)else none)else none)else none))else none)else none)else none)
 else some (Sum.inr (q,u)))
def kW(v:QZ)(x f:QK):Option Ee :=
 ((jE f).bind fun j =>
 (if 0≤(i64.wrap (j+1))∧(i64.wrap (j+1))≤(i64.wrap (j+1))∧8*(i64.wrap (j+1))≤281474976710656∧(i64.wrap (j+1))≤9223372036854775807 then((iter (kq j) ((List.replicate (i64.wrap (j+1)).toNat (0:Int)),0)).bind fun p=>(if 0≤(0:Int)∧0<(f.length:Int)then(if 0≤(f.getD ((0:Int).toNat) 0)∧(f.getD ((0:Int).toNat) 0)<(p.length:Int)then(if(f.getD ((0:Int).toNat) 0).toNat<p.length then((iter (kj v x f) (([]:QZ),([]:QK),(p.set ((f.getD ((0:Int).toNat) 0).toNat) 0),([0]:QK),0)).bind fun(q,u)=>some (q,u))else none)else none)else none))else none))
theorem uH(j u q:Bool){x:QZ}{C D:QK}{I:QZ×QK}(h:kW x C D=some I):
  Pure Tryz.prog 115 [.agg [.p j (.slice (.slice (.int .i64))) x,.p u (.slice (.int .u32)) C],.p q (.slice (.int .i64)) D] (aL (bd false [⟨CC,I⟩])):=by
 refine PB Tryz.func115 (fun Bw w0=>?_);unfold kW at h;refine G (G ?_);obtain⟨r2,q2,h⟩:=ai h;obtain⟨c2,h⟩:=aD h;have J:=(mL q q2);refine GN ⟨[],[(1,(oP J))]⟩ [(1,1,oc J),(3,3,oc c2)] (ag (G (ak (cz h (fun(v3,v4)=>az [(1,.p q (.slice (.int .i64)) D),(2,.adr 0 0 2 0),(4,.adr 1 0 2 0),(5,.adr 2 0 2 0),(6,.sl 3),(18,.i64 ((List.replicate (i64.wrap (r2+1)).toNat (0:Int)).length:Int)),(19,.i64 v4)] (LK j x u C v3) 4) 0 (fun v5=>az [(1,.p q (.slice (.int .i64)) D),(2,.adr 0 0 2 0),(4,.adr 1 0 2 0),(5,.adr 2 0 2 0),(6,.sl 3)] (LK j x u C v5) 4) (gg [] [0,8,16,48]) (fun y o h=>?_) (fun v5 h=>?_)))))
 ·obtain⟨v3,v4⟩:=y;unfold kq at h;refine G (ag (aC h (fun B3 h=>?_) (fun B3 h=>?_)))
  ·refine ae (ab (ag (ak (G ?_))));obtain⟨b9,be,h⟩:=g2 h;refine bC a0 [(2,2,oc b9),(3,3,oc be)] (ay (ab (Ge ?_)));exact eB h (gg [] [0,1,2,3])
  refine au (aQ ?_);exact eX h (gg [] [0,1,2,3])
 refine aw (ab (G ?_));obtain⟨bi,bs,bv,h⟩:=g3 h;refine GN a0 [(2,2,oc bi),(4,4,oc bs),(5,5,oc bv)] (ag (G (ak (cz h (fun(z,A,L,v,f)=>az [(1,.p q (.slice (.int .i64)) D),(2,.adr 0 0 2 0),(4,.adr 1 0 2 0),(5,.adr 2 0 2 0),(6,.sl 5),(8,.sl 6),(9,.i64 f)] (M4 j x u C z A L v) 7) 2 (fun(M,N)=>az [(4,.adr 0 0 2 0),(5,.adr 1 0 2 0)] (LW M N) 4) (gg [.nilC 2 0 76 97 (.slice (.int .i64)),.nilC 2 1 77 131 (.int .u32)] [0,1,2,76,77,3,4]) (fun y o h=>?_) (fun bx h=>?_)))))
 ·obtain⟨z,A,L,v,f⟩:=y;unfold kj at h;refine ag (G (aC h (fun c1 h=>?_) (fun c1 h=>?_)))
  ·refine ae (ab (ag (ak (G (ag ?_)))));obtain⟨O,V,X,h⟩:=g3 h;refine GD a0 [(4,4,oc O),(5,5,oc V),(6,6,oc X)] (ak (cz h (fun(Y,Z,E,B)=>az [(1,.p q (.slice (.int .i64)) D),(2,.adr 0 0 2 0),(4,.adr 1 0 2 0),(5,.adr 2 0 2 0),(6,.sl 5),(8,.sl 6),(9,.i64 f),(10,.sl 7),(45,.p j (.slice (.int .i64)) (x.getD ((v.getD f.toNat 0).toNat) [])),(46,.i64 ((x.getD ((v.getD f.toNat 0).toNat) []).length:Int)),(47,.i64 B)] (Km j x u C z A Y Z E) 8) 4 (fun(a1,a2,a3)=>az [(1,.p q (.slice (.int .i64)) D),(2,.adr 0 0 2 0),(4,.adr 1 0 2 0),(5,.adr 2 0 2 0),(6,.sl 5),(8,.sl 6),(9,.i64 f),(10,.sl 7)] (Km j x u C z A a1 a2 a3) 8) (gg [.nilS 10 127 3 (.int .i64)] [0,1,2,3,4,5,6,127]) (fun y o h=>?_) (fun c3 h=>?_)))
   ·obtain⟨Y,Z,E,B⟩:=y;unfold kh at h;refine G (ag (aC h (fun c4 h=>?_) (fun c4 h=>?_)))
    ·refine ae (ab (ag (ak (GC 0 h (fun h=>ag ?_)))));obtain⟨a4,a5,a6,h⟩:=g3 h;refine GN a0 [(3,3,oc a4),(5,5,oc a5),(6,6,oc a6)] (br h (fun(a7,a8)=>az [(1,.p q (.slice (.int .i64)) D),(2,.adr 0 0 2 0),(4,.adr 1 0 2 0),(5,.adr 2 0 2 0),(6,.sl 5),(8,.sl 6),(9,.i64 f),(10,.sl 7),(12,.i64 ((x.getD ((v.getD f.toNat 0).toNat) []).getD B.toNat 0)),(45,.p j (.slice (.int .i64)) (x.getD ((v.getD f.toNat 0).toNat) [])),(46,.i64 ((x.getD ((v.getD f.toNat 0).toNat) []).length:Int)),(47,.i64 B)] (Km j x u C z A a7 a8 E) 8) (fun a9 h=>?_) (fun a9 h=>?_))
     ·refine aC h (fun c5 h=>?_) (fun c5 h=>?_)
      ·obtain⟨aa,ac,ad,h⟩:=g3 h;refine GN a0 [(3,3,oc aa),(7,7,oc ac),(8,8,oc ad)] (Ak 3 h (fun h=>?_));exact eN h (gg [] [0,1,2,3,4,5,200,7])
      exact ae (eN h (gg [] [0,1,2,3,4,5,6,7]))
     obtain⟨a7,a8⟩:=a9;refine ab ?_;obtain⟨ax,b1,b2,b3,h⟩:=g4 h;refine bC a0 [(4,4,oc ax),(6,6,oc b1),(7,7,oc b2),(9,9,oc b3)] (ay (ab (Ge ?_)));exact eB h (gg [] [0,1,2,3,4,5,6,80])
    refine au (aQ ?_);exact eX h (gg [] [0,1,2,3,4,5,6,7])
   obtain⟨a1,a2,a3⟩:=c3;refine aw (ab ?_);obtain⟨b4,b5,b6,b7,h⟩:=g4 h;obtain⟨b8,h⟩:=aD h;refine nj a0 [(4,4,oc b4),(11,11,oc b5),(12,12,oc b6),(13,13,oc b7),(16,16,oc b8)] (ay (ab (Ge ?_)));exact eB h (gg [] [0,1,2,40,136,5,6])
  refine au (aQ ?_);exact eX h (gg [] [1,2,3,4])
 obtain⟨M,N⟩:=bx;refine aw (ab (G (lZ [.frzC 0 0,.frzC 0 1] (by kernel_rfl) (av ?_))));obtain rfl:=sI h;exact RI [CC]
def mK(u:QZ)(v:QK):QK→Option (QK⊕QK):=fun f =>
 ((jf (f.length:Int) f u v).bind fun j =>
 ((jE j).bind fun p =>
 ((jE f).bind fun q =>
 (if(p == q)=true then some (Sum.inr f)
 else some (Sum.inl j)))))
def lX(q:QZ)(j:QK):Option (Ee×Int) :=
 ((ml q j).bind fun u =>
 (if(!u)=true then some ((([]:QZ),([]:QK)),2)
 else((mh (j.length:Int) q j).bind fun v =>
 ((iter (mK q j) v).bind fun f=>((kW q j f).bind fun p =>
 some ((p.1,p.2),0))))))
theorem qd(f j:Bool){A:QZ}{B:QK}{v:Ee×Int}(h:lX A B=some v):
  Pure Tryz.prog 89 [.agg [.p f (.slice (.slice (.int .i64))) A,.p j (.slice (.int .u32)) B]] (aL (bd false [⟨CC,v.1⟩,⟨(.int .i64),v.2⟩])):=by
 refine PB Tryz.func89 (fun Bw w0=>?_);unfold lX at h;refine G (ag ?_);obtain⟨Z,J,h⟩:=ai h;refine GP 1 (wj f j J) (aC h (fun L h=>?_) (fun L h=>?_))
 ·refine G (av (aj ?_));obtain rfl:=sI h;exact RI [CC,(.int .i64)]
 refine ae (ab ?_);obtain⟨r4,M,h⟩:=ai h;refine GP 4 (vk f j M) (ag (ak (cz h (fun q=>az [(1,.adr 0 0 2 0),(2,.adr 1 0 2 0),(4,.adr 2 0 1 0)] (L1 f A j B q) 3) 0 (fun u=>az [(1,.adr 0 0 2 0),(2,.adr 1 0 2 0),(4,.adr 2 0 1 0)] (L1 f A j B u) 3) (gg [] [0,8,88]) (fun q o h=>?_) (fun u h=>?_))))
 ·unfold mK at h;refine ak ?_;obtain⟨N,C,h⟩:=ai h;refine GP 3 (sd false f j C) (ag ?_);obtain⟨O,D,h⟩:=ai h;obtain⟨V,E,h⟩:=ai h;have x:=(mL false D);have z:=(mL false E);refine GD ⟨[],[(1,(oP x)),(3,(oP z))]⟩ [(1,1,oc x),(3,3,oc z)] (aC h (fun X h=>?_) (fun X h=>?_))
  ·refine au (aQ (jA rfl ?_));exact eX h (gg [] [0,1,2])
  refine ae (ab (Ge (ay ?_)));exact eB h (gg [] [0,1,2])
 refine aw (ab ?_);obtain⟨Y,I,h⟩:=ai h;refine GP 2 (uH f j false I) (av ?_);obtain rfl:=sI h;exact RI [CC,(.int .i64)]
def tM(f:XJ):(XZ×XZ×Int)→Option ((XZ×XZ×Int)⊕(XZ×XZ)):=fun(v4,p,v6) =>
 (if(decide (v6<(f.length:Int)))=true then(if 0≤v6∧v6<(f.length:Int)then(if(v4.length+([(Tree.node (((f.getD v6.toNat (0,(Tree.node 0 0 []),(Tree.node 0 0 []))).2.1).op) (((f.getD v6.toNat (0,(Tree.node 0 0 []),(Tree.node 0 0 []))).2.1).set) (((f.getD v6.toNat (0,(Tree.node 0 0 []),(Tree.node 0 0 []))).2.1).kids))]:XZ).length)*32≤140737488355328∧v4.length+([(Tree.node (((f.getD v6.toNat (0,(Tree.node 0 0 []),(Tree.node 0 0 []))).2.1).op) (((f.getD v6.toNat (0,(Tree.node 0 0 []),(Tree.node 0 0 []))).2.1).set) (((f.getD v6.toNat (0,(Tree.node 0 0 []),(Tree.node 0 0 []))).2.1).kids))]:XZ).length≤9223372036854775807 then((lf 1000 (((f.getD v6.toNat (0,(Tree.node 0 0 []),(Tree.node 0 0 []))).2.2).op) (((f.getD v6.toNat (0,(Tree.node 0 0 []),(Tree.node 0 0 []))).2.2).set) (((f.getD v6.toNat (0,(Tree.node 0 0 []),(Tree.node 0 0 []))).2.2).kids)).bind fun j =>
 (if(p.length+([(Tree.node j.op j.set j.kids)]:XZ).length)*32≤140737488355328∧p.length+([(Tree.node j.op j.set j.kids)]:XZ).length≤9223372036854775807 then some (Sum.inl ((v4++([(Tree.node (((f.getD v6.toNat (0,(Tree.node 0 0 []),(Tree.node 0 0 []))).2.1).op) (((f.getD v6.toNat (0,(Tree.node 0 0 []),(Tree.node 0 0 []))).2.1).set) (((f.getD v6.toNat (0,(Tree.node 0 0 []),(Tree.node 0 0 []))).2.1).kids))]:XZ)),(p++([(Tree.node j.op j.set j.kids)]:XZ)),(i64.wrap (v6+1))))else none))else none)else none)
 else some (Sum.inr (v4,p)))
def sG(x:QQ)(A B:Int)(C:QK)(z:XJ):Option ((Option Z5)×Int) :=
 (if((x.length:Int) == 0)=true then some ((none:Option Z5),22)
 else((iter (tM z) (([]:XZ),([]:XZ),0)).bind fun(D,E)=>((ng D (x.length:Int)).bind fun(f,j) =>
 (if(j != 0)=true then some ((none:Option Z5),j)
 else((ng E (x.length:Int)).bind fun(p,q) =>
 (if(q != 0)=true then some ((none:Option Z5),q)
 else((lX f.1 f.2).bind fun(u,I) =>
 ((lX p.1 p.2).bind fun(v,J) =>
 some ((some ((x,A,B,C,z),(u.1,u.2),v.1,v.2):Option Z5),0)))))))))
theorem Br{u:QQ}{v x:Int}{z:QK}{j:XJ}{f:(Option Z5)×Int}(h:sG u v x z j=some f):
  Pure Tryz.prog 60 [.agg [.p false (.slice .str) u,.u32 v,.u32 x,.p false (.slice (.int .i64)) z,.p false (.slice (.prod (.int .u8) Y8)) j]] (aL (bd false [⟨(.ptr mO),f.1⟩,⟨(.int .i64),f.2⟩])):=by
 refine PB Tryz.func60 (fun Bw w0=>?_);unfold sG at h;refine G (ag (G (aC h (fun M h=>?_) (fun M h=>?_))))
 ·refine G (av (aj ?_));obtain rfl:=sI h;exact RI [(.ptr mO),(.int .i64)]
 refine ae (ab (G (ag (G (ak (cz h (fun(v4,I,v6)=>az [(1,.adr 0 0 5 0),(4,.sl 1),(5,.sl 2),(17,.p false (.slice (.prod (.int .u8) Y8)) j),(18,.i64 (j.length:Int)),(19,.i64 v6)] (LH u v x z j v4 I) 3) 0 (fun(J,L)=>az [(1,.adr 0 0 5 0),(4,.sl 1),(5,.sl 2)] (LH u v x z j J L) 3) (gg [.nilS 4 104 146 (.tree .u8 .u32),.nilS 5 105 146 (.tree .u8 .u32)] [0,104,105]) (fun y o h=>?_) (fun N h=>?_)))))))
 ·obtain⟨v4,I,v6⟩:=y;unfold tM at h;refine G (ag (aC h (fun O h=>?_) (fun O h=>?_)))
  ·refine ae (ab (ag (ak (GC 0 h (fun h=>?_)))));obtain⟨A,h⟩:=aD h;obtain⟨r6,V,h⟩:=ai h;obtain⟨B,h⟩:=aD h;have q:=(sF 1000 false V);refine nj ⟨[],[(8,(oP q))]⟩ [(4,4,oc A),(8,8,oc q),(10,10,oc B)] (ay (ab (Ge ?_)));exact eB h (gg [] [0,75,123])
  refine au (aQ ?_);exact eX h (gg [] [0,1,2])
 obtain⟨J,L⟩:=N;refine aw (ab ?_);obtain⟨⟨X,Y⟩,Z,h⟩:=ai h;refine GP 4 (rM true Z) (ag (G (aC h (fun B5 h=>?_) (fun B5 h=>?_))))
 ·refine G (av (aj ?_));obtain rfl:=sI h;exact RI [(.ptr mO),(.int .i64)]
 refine ae (ab ?_);obtain⟨⟨a1,a2⟩,C,h⟩:=ai h;refine GP 4 (rM true C) (ag (G (aC h (fun B6 h=>?_) (fun B6 h=>?_))))
 ·refine G (av (aj ?_));obtain rfl:=sI h;exact RI [(.ptr mO),(.int .i64)]
 refine ae (ab (G ?_));obtain⟨⟨a3,a4⟩,D,h⟩:=ai h;refine GP 2 (qd false false D) ?_;obtain⟨⟨a5,a6⟩,E,h⟩:=ai h;refine GP 2 (qd false false E) (G (av ?_));obtain rfl:=sI h;exact RI [(.ptr mO),(.int .i64)]
def ja(f:QX):Option ((Option Z5)×Int×Int) :=
 ((j9 f).bind fun(j,p) =>
 (if(p.1 != 0)=true then some ((none:Option Z5),p.1,p.2)
 else((sG j.1 j.2.1 j.2.2.1 j.2.2.2.1 j.2.2.2.2).bind fun(q,u) =>
 some (q,u,0))))
theorem ur{f:QX}{j:(Option Z5)×Int×Int}(h:ja f=some j):
  Pure Tryz.prog 36 [.st f] (aL (bd false [⟨(.ptr mO),j.1⟩,⟨Y2,j.2⟩])):=by
 refine PB Tryz.func36 (fun Bw w0=>?_);unfold ja at h;refine G ?_;obtain⟨⟨v,x⟩,p,h⟩:=ai h;refine GP 1 (wF p) (ag (G (aC h (fun q h=>?_) (fun q h=>?_))))
 ·refine GD a0 [] (av (aj ?_));obtain rfl:=sI h;exact RI [(.ptr mO),Y2]
 refine ae (ab ?_);obtain⟨⟨z,A⟩,u,h⟩:=ai h;refine GP 1 (Br u) (G (av ?_));obtain rfl:=sI h;exact RI [(.ptr mO),Y2]
def ck(f:Option Z5):Option (Int) :=
 (if f.isNone=true then some 0
 else(if f.isSome=true then some (((f.getD (Ty.zero mO)).1.1).length:Int)else none))
theorem jk(j:Bool){q:Option Z5}{f:Int}(h:ck q=some f):
  Pure Tryz.prog 37 [.p j (.ptr mO) q] (aL (bd false [⟨(.int .i64),f⟩])):=by
 refine PB Tryz.func37 (fun Bw w0=>?_);unfold ck at h;refine G (ag (GN a0 [(1,1,⟨∃e,Tryz.prog.underlying 91=some (.pointer e),⟨_,rfl⟩⟩)] (aC h (fun u h=>?_) (fun u h=>?_))))
 ·refine G (av (aj ?_));obtain rfl:=sI h;exact RI [(.int .i64)]
 refine ae (ab (GC 1 h (fun h=>av ?_)));obtain rfl:=sI h;exact RI [(.int .i64)]
def dQ(f:XK)(j:Int):(Int×Int)→Option ((Int×Int)⊕((Unit)⊕(Bool))):=fun(p,v4) =>
 (if(decide (v4<(f.length:Int)))=true then(if 0≤v4∧v4<(f.length:Int)then(((if(decide (((f.getD v4.toNat (0,0,0)).1)≤p))=true then some (true)
 else(if(decide (((f.getD v4.toNat (0,0,0)).2.1)<((f.getD v4.toNat (0,0,0)).1)))=true then some (true)
 else(if(decide (((f.getD v4.toNat (0,0,0)).2.1) > 1114111))=true then some (true)
 else(if(decide (((f.getD v4.toNat (0,0,0)).2.2)<0))=true then some (true)
 else(if(decide (((f.getD v4.toNat (0,0,0)).2.2)≥j))=true then some (true)
 else some ((decide (((f.getD v4.toNat (0,0,0)).2.2) > 255))))))))).bind fun q=>(if q=true then some (Sum.inr (Sum.inr false))
 else some (Sum.inl ((f.getD v4.toNat (0,0,0)).2.1,(i64.wrap (v4+1))))))else none)
 else some (Sum.inr (Sum.inl ())))
def lO(j:XK)(f:Int):Option (Bool) :=
 (if(decide ((j.length:Int) > 256))=true then some false
 else((iter (dQ j f) ((-1:Int),0)).bind fun(p:((Unit)⊕(Bool)))=>match p with
 | .inl _=>some true
 | .inr (q)=>some q))
theorem xv(B:Bool){z:XK}{q:Int}{C:Bool}(h:lO z q=some C):
  Pure Tryz.prog 61 [.p B (.slice (.prod (.int .i32) Y1)) z,.i64 q] (aL (bd false [⟨.bool,C⟩])):=by
 refine PB Tryz.func61 (fun Bw w0=>?_);unfold lO at h;refine G (ag (G (aC h (fun N h=>?_) (fun N h=>?_))))
 ·refine G (av (aj ?_));obtain rfl:=sI h;exact RI [.bool]
 refine ae (ab (G (ag (G (ak (kS h (fun(x,v4)=>az [(1,.i64 q),(5,.i32 x),(11,.p B (.slice (.prod (.int .i32) Y1)) z),(12,.i64 (z.length:Int)),(13,.i64 v4)] [] 0) (dz (fD Tryz.f61.ntmps 0 (fun _=>az [] [] 0)) (gB tb Tryz.f61.results.toList (fun L=>[⟨.bool,L⟩]))) (gg [] []) (fun y o h=>?_) (fun O h e σ' M=>?_)))))))
 ·obtain⟨x,v4⟩:=y;unfold dQ at h;refine G (ag (aC h (fun D h=>?_) (fun D h=>?_)))
  ·refine ae (ab (ag (ak (GC 0 h (fun h=>ag (ag (br h (fun E=>az [(1,.i64 q),(7,.adr 0 0 3 0),(11,.p B (.slice (.prod (.int .i32) Y1)) z),(12,.i64 (z.length:Int)),(13,.i64 v4),(48,.bo E)] [(0,.box [.i32 ((z.getD v4.toNat (0,0,0)).1),.i32 ((z.getD v4.toNat (0,0,0)).2.1),.i64 ((z.getD v4.toNat (0,0,0)).2.2)])] 1) (fun E h=>?_) (fun E h=>?_))))))))
   ·rcases aN h with⟨f,h⟩ | ⟨f,h⟩
    ·exact bC ⟨[(4,true),(10,true)],[]⟩ [(5,10,oc f)] (eN h (gg [] [24]))
    rcases aN h with⟨j,h⟩ | ⟨j,h⟩
    ·exact bC ⟨[(4,false),(10,false),(11,true),(15,true)],[]⟩ [(5,9,an f),(10,10,oc f),(12,15,oc j)] (eN h (gg [] [24]))
    rcases aN h with⟨u,h⟩ | ⟨u,h⟩
    ·exact bC ⟨[(4,false),(10,false),(11,false),(15,false),(16,true),(20,true)],[]⟩ [(5,9,an f),(10,10,oc f),(12,14,an j),(15,15,oc j),(17,20,oc u)] (eN h (gg [] [24]))
    rcases aN h with⟨v,h⟩ | ⟨v,h⟩
    ·exact bC ⟨[(4,false),(10,false),(11,false),(15,false),(16,false),(20,false),(21,true),(26,true)],[]⟩ [(5,9,an f),(10,10,oc f),(12,14,an j),(15,15,oc j),(17,19,an u),(20,20,oc u),(22,26,oc v)] (eN h (gg [] [24]))
    rcases aN h with⟨A,h⟩ | ⟨A,h⟩
    ·exact bC ⟨[(4,false),(10,false),(11,false),(15,false),(16,false),(20,false),(21,false),(26,false),(27,true),(31,true)],[]⟩ [(5,9,an f),(10,10,oc f),(12,14,an j),(15,15,oc j),(17,19,an u),(20,20,oc u),(22,25,an v),(26,26,oc v),(28,31,oc A)] (eN h (gg [] [24]))
    exact bC ⟨[(4,false),(10,false),(11,false),(15,false),(16,false),(20,false),(21,false),(26,false),(27,false),(31,false)],[]⟩ [(5,9,an f),(10,10,oc f),(12,14,an j),(15,15,oc j),(17,19,an u),(20,20,oc u),(22,25,an v),(26,26,oc v),(28,30,an A),(31,31,oc A)] (eN h (gg [] [24]))
   refine ab (aC h (fun I h=>?_) (fun I h=>?_))
   ·refine G (av ?_);obtain rfl:=sI h;refine aj (aA (aj (bM (aM ?_))));exact bL (RI [.bool])
   refine ae (ab (Ge (ay (ab (Ge ?_)))));exact eB h (gg [] [])
  refine au (aQ ?_);obtain rfl:=sI h;refine dL (bk ?_);exact bT (gg [] [])
 rcases O with _ | L
 ·obtain⟨rfl,J⟩:=M;refine cH ?_ J;refine aw (ab (G (av ?_)));obtain rfl:=sI h;exact RI [.bool]
 obtain⟨rfl,V⟩:=M;refine aA (aj ?_);obtain rfl:=sI h;exact V
def gN(j:XK)(p:Int):(Int)→Option ((Int)⊕(Int)):=fun f =>
 (((if(decide (f<(j.length:Int)))=true then(if 0≤f∧f<(j.length:Int)then some ((decide (((j.getD f.toNat (0,0,0)).2.1)<(i32.wrap ((i32.wrap p)*2 ^ (min (8:Int).toNat i32.bits))))))else none)
 else some (false))).bind fun q=>(if q=true then some (Sum.inl (i64.wrap (f+1)))
 else some (Sum.inr f)))
def jj(q:XK)(u j:Int):((ff 256)×Int)→Option (((ff 256)×Int)⊕(ff 256)):=fun(p,f) =>
 (if 0≤j∧j<(q.length:Int)then(if(decide (f≤(min ((q.getD j.toNat (0,0,0)).2.1) (i32.wrap ((i32.wrap ((i32.wrap u)*2 ^ (min (8:Int).toNat i32.bits)))+255)))))=true then(if 0≤j∧j<(q.length:Int)then(if 0≤(bitsOf .and .i32 f 255)∧(bitsOf .and .i32 f 255)<((256:Nat):Int)then some (Sum.inl ((sf p ((bitsOf .and .i32 f 255).toNat) (u8.wrap ((q.getD j.toNat (0,0,0)).2.2))),(i32.wrap (f+1))))else none)else none)
 else some (Sum.inr p))else none)
def gP(p:XK)(j:Int):((ff 256)×Int)→Option (((ff 256)×Int)⊕(ff 256)):=fun(q,f) =>
 (((if(decide (f<(p.length:Int)))=true then(if 0≤f∧f<(p.length:Int)then some ((decide (((p.getD f.toNat (0,0,0)).1)≤(i32.wrap ((i32.wrap ((i32.wrap j)*2 ^ (min (8:Int).toNat i32.bits)))+255)))))else none)
 else some (false))).bind fun u=>(if u=true then(if 0≤f∧f<(p.length:Int)then((iter (jj p j f) (q,(max ((p.getD f.toNat (0,0,0)).1) (i32.wrap ((i32.wrap j)*2 ^ (min (8:Int).toNat i32.bits)))))).bind fun v=>some (Sum.inl (v,(i64.wrap (f+1)))))else none)
 else some (Sum.inr q)))
def fQ(C:XK):((ff 4352)×(List (ff 256))×(List ((ff 256)×Int))×Int×Int)→Option (((ff 4352)×(List (ff 256))×(List ((ff 256)×Int))×Int×Int)⊕Ae):=fun(u,f,q,B,j) =>
 (if(decide (j<4352))=true then(if 0≤(8:Int)then(if 0≤(8:Int)then((iter (gN C j) B).bind fun v=>((iter (gP C j) ((dq 256),v)).bind fun p=>(if(Im p (dq 256))=true then some (Sum.inl (u,f,q,v,(i64.wrap (j+1))))
 else(((if(!((bg (.arr .u8 256) q p).isSome))=true then(if(f.length+([p]:List (ff 256)).length)*256≤140737488355328∧f.length+([p]:List (ff 256)).length≤9223372036854775807 then some (((f++([p]:List (ff 256))),(cF (.arr .u8 256) q p (f.length:Int)),(f.length:Int)))else none)
 else some ((f,q,((bg (.arr .u8 256) q p).getD 0))))).bind fun(x,z,A)=>(if 0≤j∧j<((4352:Nat):Int)then some (Sum.inl ((sf u j.toNat A),x,z,v,(i64.wrap (j+1))))else none)))))else none)else none)
 else some (Sum.inr (u,f)))
def fX(p:XK)(q:Int):Option ((Option Ae)×Int) :=
 ((lO p q).bind fun u =>
 (if(!u)=true then some ((none:Option Ae),10)
 else(if 0≤(1:Int)∧(1:Int)≤1∧256*(1:Int)≤281474976710656∧(1:Int)≤9223372036854775807 then((iter (fQ p) ((dq 4352),(List.replicate (1:Int).toNat (dq 256)),([]:List ((ff 256)×Int)),0,0)).bind fun(f,j)=>some ((some (f,j):Option Ae),0))else none)))
theorem nM(j:Bool){B:XK}{i1:Int}{O:(Option Ae)×Int}(h:fX B i1=some O):
  Pure Tryz.prog 38 [.p j (.slice (.prod (.int .i32) Y1)) B,.i64 i1] (aL (bd false [⟨(.ptr vm),O.1⟩,⟨(.int .i64),O.2⟩])):=by
 refine PB Tryz.func38 (fun Bw w0=>?_);unfold fX at h;refine G (ag ?_);obtain⟨r2,q2,h⟩:=ai h;refine GP 2 (xv j q2) (aC h (fun B1 h=>?_) (fun B1 h=>?_))
 ·refine G (av (aj ?_));obtain rfl:=sI h;exact RI [(.ptr vm),(.int .i64)]
 refine ae (ab (GC 0 h (fun h=>GN a0 [(0,0,oc CR)] (G (ag (G (ak (cz h (fun(q,u,v,Z,f)=>az [(0,.p j (.slice (.prod (.int .i32) Y1)) B),(6,.adr 0 0 4353 0),(7,.mp 2),(8,.i64 Z),(25,.i64 f)] (LG q u v) 3) 0 (fun(a1,a2)=>az [(6,.adr 0 0 4353 0)] (M7 a1 a2) 2) (gg [] [64,48,80]) (fun y o h=>?_) (fun r6 h=>?_)))))))))
 ·obtain⟨q,u,v,Z,f⟩:=y;unfold fQ at h;refine G (ag (aC h (fun b2 h=>?_) (fun b2 h=>?_)))
  ·refine ae (ab (ag (ak (G ?_))));obtain⟨a3,a4,h⟩:=g2 h;refine GN a0 [(2,2,oc a3),(5,5,oc a4)] (G (ag (ak ?_)));refine cz h (fun V=>az [(0,.p j (.slice (.prod (.int .i32) Y1)) B),(6,.adr 0 0 4353 0),(7,.mp 2),(8,.i64 V),(9,.i64 f),(10,.i32 (i32.wrap ((i32.wrap f)*2 ^ (min (8:Int).toNat i32.bits)))),(11,.i32 (i32.wrap ((i32.wrap ((i32.wrap f)*2 ^ (min (8:Int).toNat i32.bits)))+255))),(12,.adr 3 0 256 0),(25,.i64 f)] (AK q u v (dq 256)) 4) 2 (fun z=>az [(0,.p j (.slice (.prod (.int .i32) Y1)) B),(6,.adr 0 0 4353 0),(7,.mp 2),(8,.i64 z),(9,.i64 f),(10,.i32 (i32.wrap ((i32.wrap f)*2 ^ (min (8:Int).toNat i32.bits)))),(11,.i32 (i32.wrap ((i32.wrap ((i32.wrap f)*2 ^ (min (8:Int).toNat i32.bits)))+255))),(12,.adr 3 0 256 0),(25,.i64 f)] (AK q u v (dq 256)) 4) (gg [] [0,1,2,99]) (fun V o h=>?_) (fun z h=>?_)
   ·unfold gN at h;refine ag (ag (br h (fun X=>az [(0,.p j (.slice (.prod (.int .i32) Y1)) B),(6,.adr 0 0 4353 0),(7,.mp 2),(8,.i64 V),(9,.i64 f),(10,.i32 (i32.wrap ((i32.wrap f)*2 ^ (min (8:Int).toNat i32.bits)))),(11,.i32 (i32.wrap ((i32.wrap ((i32.wrap f)*2 ^ (min (8:Int).toNat i32.bits)))+255))),(12,.adr 3 0 256 0),(25,.i64 f),(47,.bo X)] (AK q u v (dq 256)) 4) (fun X h=>?_) (fun X h=>?_)))
    ·rcases aN h with⟨A,h⟩ | ⟨A,h⟩
     ·obtain⟨a5,h⟩:=aD h;exact bC ⟨[(4,true),(12,true)],[]⟩ [(5,6,an A),(7,7,oc (And.intro A a5)),(8,11,an A),(12,12,oc A)] (eN h (gg [] [0,1,2,3]))
     exact bC ⟨[(4,false),(12,false)],[]⟩ [(5,12,oc A)] (eN h (gg [] [0,1,2,3]))
    refine ab (aC h (fun b3 h=>?_) (fun b3 h=>?_))
    ·refine ae (ab (ak (Ge (ay ?_))));exact eB h (gg [] [0,1,2,3])
    refine au (aQ ?_);exact eX h (gg [] [0,1,2,3])
   refine aw (ab (ag (G (ak (cz h (fun(Y,C)=>az [(0,.p j (.slice (.prod (.int .i32) Y1)) B),(6,.adr 0 0 4353 0),(7,.mp 2),(8,.i64 z),(9,.i64 f),(10,.i32 (i32.wrap ((i32.wrap f)*2 ^ (min (8:Int).toNat i32.bits)))),(11,.i32 (i32.wrap ((i32.wrap ((i32.wrap f)*2 ^ (min (8:Int).toNat i32.bits)))+255))),(12,.adr 3 0 256 0),(13,.i64 C),(25,.i64 f)] (AK q u v Y) 4) 4 (fun a6=>az [(0,.p j (.slice (.prod (.int .i32) Y1)) B),(6,.adr 0 0 4353 0),(7,.mp 2),(8,.i64 z),(9,.i64 f),(12,.adr 3 0 256 0),(25,.i64 f)] (AK q u v a6) 4) (gg [] [0,1,2,3]) (fun y o h=>?_) (fun a6 h=>?_))))))
   ·obtain⟨Y,C⟩:=y;unfold gP at h;refine ag (ag (br h (fun D=>az [(0,.p j (.slice (.prod (.int .i32) Y1)) B),(6,.adr 0 0 4353 0),(7,.mp 2),(8,.i64 z),(9,.i64 f),(10,.i32 (i32.wrap ((i32.wrap f)*2 ^ (min (8:Int).toNat i32.bits)))),(11,.i32 (i32.wrap ((i32.wrap ((i32.wrap f)*2 ^ (min (8:Int).toNat i32.bits)))+255))),(12,.adr 3 0 256 0),(13,.i64 C),(25,.i64 f),(63,.bo D)] (AK q u v Y) 4) (fun D h=>?_) (fun D h=>?_)))
    ·rcases aN h with⟨x,h⟩ | ⟨x,h⟩
     ·obtain⟨a7,h⟩:=aD h;exact bC ⟨[(4,true),(12,true)],[]⟩ [(5,6,an x),(7,7,oc (And.intro x a7)),(8,11,an x),(12,12,oc x)] (eN h (gg [] [0,1,2,3]))
     exact bC ⟨[(4,false),(12,false)],[]⟩ [(5,12,oc x)] (eN h (gg [] [0,1,2,3]))
    refine ab (aC h (fun a8 h=>?_) (fun a8 h=>?_))
    ·refine ae (ab (ag (ak (GC 2 h (fun h=>ak ?_)))));refine cz h (fun(E,I)=>az [(0,.p j (.slice (.prod (.int .i32) Y1)) B),(6,.adr 0 0 4353 0),(7,.mp 2),(8,.i64 z),(9,.i64 f),(10,.i32 (i32.wrap ((i32.wrap f)*2 ^ (min (8:Int).toNat i32.bits)))),(11,.i32 (i32.wrap ((i32.wrap ((i32.wrap f)*2 ^ (min (8:Int).toNat i32.bits)))+255))),(12,.adr 3 0 256 0),(13,.i64 C),(14,.i32 I),(25,.i64 f)] (AK q u v E) 4) 6 (fun J=>az [(0,.p j (.slice (.prod (.int .i32) Y1)) B),(6,.adr 0 0 4353 0),(7,.mp 2),(8,.i64 z),(9,.i64 f),(10,.i32 (i32.wrap ((i32.wrap f)*2 ^ (min (8:Int).toNat i32.bits)))),(11,.i32 (i32.wrap ((i32.wrap ((i32.wrap f)*2 ^ (min (8:Int).toNat i32.bits)))+255))),(12,.adr 3 0 256 0),(13,.i64 C),(25,.i64 f)] (AK q u v J) 4) (gg [] [0,1,2,3]) (fun y o h=>?_) (fun J h=>?_)
     ·obtain⟨E,I⟩:=y;unfold jj at h;refine ag (GC 3 h (fun h=>aC h (fun a9 h=>?_) (fun a9 h=>?_)))
      ·refine ae (ab (ag (ak ?_)));obtain⟨aa,ac,h⟩:=g2 h;refine bC a0 [(4,4,oc aa),(8,8,oc ac)] (ay (ab (Ge ?_)));exact eB h (gg [] [0,1,2,3])
      refine au (aQ ?_);exact eX h (gg [] [0,1,2,3])
     refine aw (ay (ab (Ge ?_)));exact eB h (gg [] [0,1,2,3])
    refine au (aQ ?_);exact eX h (gg [] [0,1,2,3])
   refine aw (ab (ag (GN a0 [(2,2,⟨Tryz.prog.eqGuardType Tryz.prog.depth 169=false,(by kernel_rfl)⟩)] (aC h (fun ad h=>?_) (fun ad h=>?_)))))
   ·refine au (aQ (aw (ab (Ge ?_))));exact eB h (gg [] [0,1,2])
   refine ae (ab (GN a0 [(2,2,oc CR)] (ag (G (br h (fun(L,M,N)=>az [(0,.p j (.slice (.prod (.int .i32) Y1)) B),(6,.adr 0 0 4353 0),(7,.mp 2),(8,.i64 z),(9,.i64 f),(15,.i64 N),(25,.i64 f)] (LG q L M) 3) (fun r5 h=>?_) (fun r5 h=>?_))))))
   ·refine aC h (fun ax h=>?_) (fun ax h=>?_)
    ·refine G ?_;obtain⟨b1,h⟩:=aD h;refine GD a0 [(7,7,oc b1)] (bC a0 [(3,3,oc CR)] ?_);exact eN h (gg [] [0,212,2])
    exact ae (eN h (gg [] [0,1,2]))
   obtain⟨L,M,N⟩:=r5;refine ab (Ak 5 h (fun h=>ay (ab (Ge ?_))));exact eB h (gg [] [0,1,2])
  refine au (aQ ?_);exact eX h (gg [] [0,1])
 obtain⟨a1,a2⟩:=r6;refine aw (ab (G (lZ [.frzL 0 0] (by kernel_rfl) (av ?_))));obtain rfl:=sI h;exact RI [(.ptr vm),(.int .i64)]
def qf(f:XK):(Int×Int)→Option ((Int×Int)⊕((Unit)⊕(Bool))):=fun(j,v4) =>
 (if(decide (v4<(f.length:Int)))=true then(if 0≤v4∧v4<(f.length:Int)then(((if(decide (((f.getD v4.toNat (0,0,0)).1)≤j))=true then some (true)
 else(if(decide (((f.getD v4.toNat (0,0,0)).2.1)<((f.getD v4.toNat (0,0,0)).1)))=true then some (true)
 else(if(decide (((f.getD v4.toNat (0,0,0)).2.1) > 1114111))=true then some (true)
 else(if(decide (((f.getD v4.toNat (0,0,0)).2.2)<0))=true then some (true)
 else some ((decide (((f.getD v4.toNat (0,0,0)).2.2) > (i64.wrap (1114111 - (i64.wrap (i32.wrap (((f.getD v4.toNat (0,0,0)).2.1) - ((f.getD v4.toNat (0,0,0)).1)))))))))))))).bind fun p=>(if p=true then some (Sum.inr (Sum.inr false))
 else some (Sum.inl ((f.getD v4.toNat (0,0,0)).2.1,(i64.wrap (v4+1))))))else none)
 else some (Sum.inr (Sum.inl ())))
def nP(f:XK):Option (Bool) :=
 (if(decide ((f.length:Int) > 256))=true then some false
 else((iter (qf f) ((-1:Int),0)).bind fun(j:((Unit)⊕(Bool)))=>match j with
 | .inl _=>some true
 | .inr (p)=>some p))
theorem xJ(z:Bool){v:XK}{A:Bool}(h:nP v=some A):
  Pure Tryz.prog 62 [.p z (.slice (.prod (.int .i32) Y1)) v] (aL (bd false [⟨.bool,A⟩])):=by
 refine PB Tryz.func62 (fun Bw w0=>?_);unfold nP at h;refine G (ag (G (aC h (fun L h=>?_) (fun L h=>?_))))
 ·refine G (av (aj ?_));obtain rfl:=sI h;exact RI [.bool]
 refine ae (ab (G (ag (G (ak (kS h (fun(u,v4)=>az [(3,.i32 u),(9,.p z (.slice (.prod (.int .i32) Y1)) v),(10,.i64 (v.length:Int)),(11,.i64 v4)] [] 0) (dz (fD Tryz.f62.ntmps 0 (fun _=>az [] [] 0)) (gB tb Tryz.f62.results.toList (fun I=>[⟨.bool,I⟩]))) (gg [] []) (fun y o h=>?_) (fun M h e σ' J=>?_)))))))
 ·obtain⟨u,v4⟩:=y;unfold qf at h;refine G (ag (aC h (fun B h=>?_) (fun B h=>?_)))
  ·refine ae (ab (ag (ak (GC 0 h (fun h=>ag (ag (br h (fun C=>az [(5,.adr 0 0 3 0),(9,.p z (.slice (.prod (.int .i32) Y1)) v),(10,.i64 (v.length:Int)),(11,.i64 v4),(47,.bo C)] [(0,.box [.i32 ((v.getD v4.toNat (0,0,0)).1),.i32 ((v.getD v4.toNat (0,0,0)).2.1),.i64 ((v.getD v4.toNat (0,0,0)).2.2)])] 1) (fun C h=>?_) (fun C h=>?_))))))))
   ·rcases aN h with⟨f,h⟩ | ⟨f,h⟩
    ·exact bC ⟨[(4,true),(10,true)],[]⟩ [(5,10,oc f)] (eN h (gg [] [24]))
    rcases aN h with⟨j,h⟩ | ⟨j,h⟩
    ·exact bC ⟨[(4,false),(10,false),(11,true),(15,true)],[]⟩ [(5,9,an f),(10,10,oc f),(12,15,oc j)] (eN h (gg [] [24]))
    rcases aN h with⟨q,h⟩ | ⟨q,h⟩
    ·exact bC ⟨[(4,false),(10,false),(11,false),(15,false),(16,true),(20,true)],[]⟩ [(5,9,an f),(10,10,oc f),(12,14,an j),(15,15,oc j),(17,20,oc q)] (eN h (gg [] [24]))
    rcases aN h with⟨x,h⟩ | ⟨x,h⟩
    ·exact bC ⟨[(4,false),(10,false),(11,false),(15,false),(16,false),(20,false),(21,true),(32,true)],[]⟩ [(5,9,an f),(10,10,oc f),(12,14,an j),(15,15,oc j),(17,19,an q),(20,20,oc q),(22,32,oc x)] (eN h (gg [] [24]))
    exact bC ⟨[(4,false),(10,false),(11,false),(15,false),(16,false),(20,false),(21,false),(32,false)],[]⟩ [(5,9,an f),(10,10,oc f),(12,14,an j),(15,15,oc j),(17,19,an q),(20,20,oc q),(22,31,an x),(32,32,oc x)] (eN h (gg [] [24]))
   refine ab (aC h (fun D h=>?_) (fun D h=>?_))
   ·refine G (av ?_);obtain rfl:=sI h;refine aj (aA (aj (bM (aM ?_))));exact bL (RI [.bool])
   refine ae (ab (Ge (ay (ab (Ge ?_)))));exact eB h (gg [] [])
  refine au (aQ ?_);obtain rfl:=sI h;refine dL (bk ?_);exact bT (gg [] [])
 rcases M with _ | I
 ·obtain⟨rfl,E⟩:=J;refine cH ?_ E;refine aw (ab (G (av ?_)));obtain rfl:=sI h;exact RI [.bool]
 obtain⟨rfl,N⟩:=J;refine aA (aj ?_);obtain rfl:=sI h;exact N
def mY(f:Int):Option Z7 :=
 (if(decide (f<128))=true then some (1,0,0)
 else(((if(decide (f<194))=true then some (true)
 else some ((decide (f > 244))))).bind fun v1=>(if v1=true then some (0,0,0)
 else(if(decide (f<224))=true then some (2,128,191)
 else(if(f == 224)=true then some (3,160,191)
 else(if(f == 237)=true then some (3,128,159)
 else(if(decide (f<240))=true then some (3,128,191)
 else(if(f == 240)=true then some (4,144,191)
 else(if(f == 244)=true then some (4,128,143)
 else some (4,128,191))))))))))
theorem zp{p:Int}{f:Int×Int×Int}(h:mY p=some f):
  Pure Tryz.prog 72 [.u8 p] (aL (bd false [⟨(.int .i64),f.1⟩,⟨(.int .u8),f.2.1⟩,⟨(.int .u8),f.2.2⟩])):=by
 refine PB Tryz.func72 (fun Bw w0=>?_);unfold mY at h;refine G (ag (ak (G (aC h (fun v h=>?_) (fun v h=>?_)))))
 ·refine G (av (aA (aj ?_)));obtain rfl:=sI h;exact RI [(.int .i64),(.int .u8),(.int .u8)]
 refine ag (br h (fun v1=>az [(0,.u8 p),(8,.bo v1)] [] 0) (fun v1 h=>?_) (fun v1 h=>?_))
 ·rcases aN h with⟨j,h⟩ | ⟨j,h⟩
  ·exact bC ⟨[(2,true),(5,true)],[]⟩ [(3,5,oc j)] (eN h (gg [] []))
  exact bC ⟨[(2,false),(5,false)],[]⟩ [(3,4,an j),(5,5,oc j)] (eN h (gg [] []))
 refine ab (aC h (fun x h=>?_) (fun x h=>?_))
 ·refine G (av (aA (aj ?_)));obtain rfl:=sI h;exact RI [(.int .i64),(.int .u8),(.int .u8)]
 refine G (aC h (fun z h=>?_) (fun z h=>?_))
 ·refine G (av (aA (aj ?_)));obtain rfl:=sI h;exact RI [(.int .i64),(.int .u8),(.int .u8)]
 refine G (aC h (fun A h=>?_) (fun A h=>?_))
 ·refine G (av (aA (aj ?_)));obtain rfl:=sI h;exact RI [(.int .i64),(.int .u8),(.int .u8)]
 refine G (aC h (fun B h=>?_) (fun B h=>?_))
 ·refine G (av (aA (aj ?_)));obtain rfl:=sI h;exact RI [(.int .i64),(.int .u8),(.int .u8)]
 refine G (aC h (fun C h=>?_) (fun C h=>?_))
 ·refine G (av (aA (aj ?_)));obtain rfl:=sI h;exact RI [(.int .i64),(.int .u8),(.int .u8)]
 refine G (aC h (fun q h=>?_) (fun q h=>?_))
 ·refine G (av (aA (aj ?_)));obtain rfl:=sI h;exact RI [(.int .i64),(.int .u8),(.int .u8)]
 refine G (aC h (fun u h=>?_) (fun u h=>?_))
 ·refine G (av (aA (aj ?_)));obtain rfl:=sI h;exact RI [(.int .i64),(.int .u8),(.int .u8)]
 refine ae (ay (ab (G (av ?_))));obtain rfl:=sI h;exact RI [(.int .i64),(.int .u8),(.int .u8)]
def iK(p:QK)(j z:Int):(Int×Int×Int×Int×Int)→Option ((Int×Int×Int×Int×Int)⊕((Int×Int)⊕Z7)):=fun(v10,v11,q,u,f) =>
 (if(decide (f<z))=true then(((if(decide ((i64.wrap (j+f))≥(p.length:Int)))=true then some (true)
 else(if 0≤(i64.wrap (j+f))∧(i64.wrap (j+f))<(p.length:Int)then(if(decide ((p.getD ((i64.wrap (j+f)).toNat) 0)<v10))=true then some (true)
 else(if 0≤(i64.wrap (j+f))∧(i64.wrap (j+f))<(p.length:Int)then some ((decide ((p.getD ((i64.wrap (j+f)).toNat) 0) > v11)))else none))else none))).bind fun v=>(if v=true then some (Sum.inr (Sum.inr (65533,j,q)))
 else(if 0≤(6:Int)then(if 0≤(i64.wrap (j+f))∧(i64.wrap (j+f))<(p.length:Int)then some (Sum.inl (128,191,(i64.wrap (f+1)),(bitsOf .or .i32 (i32.wrap (u*2 ^ (min (6:Int).toNat i32.bits))) (i32.wrap (bitsOf .and .u8 (p.getD ((i64.wrap (j+f)).toNat) 0) (63:Int)))),(i64.wrap (f+1))))else none)else none)))
 else some (Sum.inr (Sum.inl (q,u))))
def pr(j:QK)(f:Int):Option Z7 :=
 (((if(decide (f<0))=true then some (true)
 else some ((decide (f≥(j.length:Int)))))).bind fun v1=>(if v1=true then some (0,0,0)
 else(if 0≤f∧f<(j.length:Int)then((mY (j.getD f.toNat 0)).bind fun(p,v,x) =>
 (if(decide (p<2))=true then(((if(p == 1)=true then(if 0≤f∧f<(j.length:Int)then some ((i32.wrap (j.getD f.toNat 0)))else none)
 else some (65533))).bind fun z=>some (z,f,1))
 else(if 0≤f∧f<(j.length:Int)then(if 0≤p then((iter (iK j f p) (v,x,1,(bitsOf .and .i32 (i32.wrap (j.getD f.toNat 0)) (Int.fdiv 127 (2 ^ (min p.toNat i32.bits)))),1)).bind fun(A:((Int×Int)⊕Z7))=>match A with
 | .inl (q,u)=>some (u,f,q)
 | .inr (B)=>some B)else none)else none)))else none)))
theorem A9(q:Bool){B:QK}{u:Int}{C:Int×Int×Int}(h:pr B u=some C):
  Pure Tryz.prog 47 [.p q (.slice (.int .u8)) B,.i64 u] (aL (bd false [⟨(.prod (.int .i32) Y2),C⟩])):=by
 refine PB Tryz.func47 (fun Bw w0=>?_);unfold pr at h;refine G (ag (ag (br h (fun v1=>az [(0,.p q (.slice (.int .u8)) B),(1,.i64 u),(4,.adr 0 0 3 0),(18,.bo v1)] [(0,.box [.i32 0,.i64 0,.i64 0])] 1) (fun v1 h=>?_) (fun v1 h=>?_))))
 ·rcases aN h with⟨L,h⟩ | ⟨L,h⟩
  ·exact bC ⟨[(2,true),(7,true)],[]⟩ [(3,7,oc L)] (eN h (gg [] [0]))
  exact bC ⟨[(2,false),(7,false)],[]⟩ [(3,6,an L),(7,7,oc L)] (eN h (gg [] [0]))
 refine ab (aC h (fun B4 h=>?_) (fun B4 h=>?_))
 ·refine G (av (aj ?_));obtain rfl:=sI h;exact RI [(.prod (.int .i32) Y2)]
 refine ae (ab ?_);obtain⟨c2,h⟩:=aD h;obtain⟨⟨r4,r5,r6⟩,q2,h⟩:=ai h;have D:=(zp q2);refine GN ⟨[],[(4,(oP D))]⟩ [(2,2,oc c2),(4,4,oc D)] (G (ag (G (aC h (fun B5 h=>?_) (fun B5 h=>?_)))))
 ·refine ag (G (br h (fun M=>az [(4,.adr 0 0 3 0),(8,.adr 1 0 3 0)] (Jm 0 (0:Int) (0:Int) M u 1) 2) (fun M h=>?_) (fun M h=>?_)))
  ·refine aC h (fun B7 h=>?_) (fun B7 h=>?_)
   ·refine Ak 2 h (fun h=>?_);exact eN h (gg [] [0,113])
   exact ae (eN h (gg [] [0,113]))
  refine ab (G (av (aj ?_)));obtain rfl:=sI h;exact RI [(.prod (.int .i32) Y2)]
 refine ae (ab ?_);obtain⟨c9,N,h⟩:=g2 h;refine GD a0 [(2,2,oc c9),(6,6,oc N)] (ag (G (ak (kS h (fun(v10,v11,v,x,z)=>az [(0,.p q (.slice (.int .u8)) B),(1,.i64 u),(4,.adr 0 0 3 0),(5,.i64 r4),(6,.u8 v10),(7,.u8 v11),(8,.adr 1 0 3 0),(9,.i32 x),(10,.i64 z)] (Jm 0 (0:Int) (0:Int) (65533:Int) u v) 2) (dz (fD Tryz.f47.ntmps 0 (fun(E,I)=>az [(4,.adr 0 0 3 0),(8,.adr 1 0 3 0),(9,.i32 I)] (Jm 0 (0:Int) (0:Int) (65533:Int) u E) 2)) (gB tb Tryz.f47.results.toList (fun r7=>[⟨(.prod (.int .i32) Y2),r7⟩]))) (gg [] [0,113]) (fun y o h=>?_) (fun r8 h e σ' hq=>?_)))))
 ·obtain⟨v10,v11,v,x,z⟩:=y;unfold iK at h;refine ag (G (aC h (fun O h=>?_) (fun O h=>?_)))
  ·refine ae (ab (ag (ak (ag (ag (br h (fun A=>az [(0,.p q (.slice (.int .u8)) B),(1,.i64 u),(4,.adr 0 0 3 0),(5,.i64 r4),(8,.adr 1 0 3 0),(9,.i32 x),(10,.i64 z),(80,.bo A)] (Jm 0 (0:Int) (0:Int) (65533:Int) u v) 2) (fun A h=>?_) (fun A h=>?_)))))))
   ·rcases aN h with⟨f,h⟩ | ⟨f,h⟩
    ·exact bC ⟨[(6,true),(15,true)],[]⟩ [(7,15,oc f)] (eN h (gg [] [0,1]))
    obtain⟨J,h⟩:=aD h;rcases aN h with⟨j,h⟩ | ⟨j,h⟩
    ·exact bC ⟨[(6,false),(15,false),(16,true),(25,true)],[]⟩ [(7,10,an f),(11,11,oc (And.intro f J)),(12,14,an f),(15,15,oc f),(17,25,oc j)] (eN h (gg [] [0,1]))
    obtain⟨V,h⟩:=aD h;exact bC ⟨[(6,false),(15,false),(16,false),(25,false)],[]⟩ [(7,10,an f),(11,11,oc (And.intro f J)),(12,14,an f),(15,15,oc f),(17,20,an j),(21,21,oc (And.intro j V)),(22,24,an j),(25,25,oc j)] (eN h (gg [] [0,1]))
   refine ab (aC h (fun X h=>?_) (fun X h=>?_))
   ·refine G (av ?_);obtain rfl:=sI h;refine aj (aA (aj (bM (aM ?_))));exact bL (RI [(.prod (.int .i32) Y2)])
   refine ae (ab ?_);obtain⟨Y,Z,h⟩:=g2 h;refine GN a0 [(1,1,oc Y),(6,6,oc Z)] (G (Ge (ay (ab (Ge ?_)))));exact eB h (gg [] [0,1])
  refine au (aQ ?_);obtain rfl:=sI h;refine dL (bk ?_);exact bT (gg [] [0,1])
 rcases r8 with⟨E,I⟩ | r7
 ·obtain⟨rfl,a1⟩:=hq;refine cH ?_ a1;refine aw (ab (G (G (av ?_))));obtain rfl:=sI h;exact RI [(.prod (.int .i32) Y2)]
 obtain⟨rfl,hr⟩:=hq;refine aA (aj ?_);obtain rfl:=sI h;exact hr
def j6(q:QK):(XK×Int)→Option ((XK×Int)⊕XK):=fun(f,p) =>
 (if(decide (p<(q.length:Int)))=true then((pr q p).bind fun j =>
 (if(f.length+([(j.1,j.2.1,j.2.2)]:XK).length)*24≤140737488355328∧f.length+([(j.1,j.2.1,j.2.2)]:XK).length≤9223372036854775807 then some (Sum.inl ((f++([(j.1,j.2.1,j.2.2)]:XK)),(i64.wrap (p+j.2.2))))else none))
 else some (Sum.inr f))
def mS(j:QK):Option XK :=
 ((iter (j6 j) (([]:XK),0)).bind fun f=>some f)
theorem tJ(q:Bool){x:QK}{u:XK}(h:mS x=some u):
  Pure Tryz.prog 28 [.p q (.slice (.int .u8)) x] (aL (bd false [⟨(.slice (.prod (.int .i32) Y2)),u⟩])):=by
 refine PB Tryz.func28 (fun Bw w0=>?_);unfold mS at h;refine G (G (ag (G (ak (cz h (fun(f,v)=>az [(0,.p q (.slice (.int .u8)) x),(3,.sl 0),(4,.i64 v)] [(0,.arr 127 (.prod (.int .i32) Y2) f)] 1) 0 (fun j=>az [(3,.sl 0)] [(0,.arr 127 (.prod (.int .i32) Y2) j)] 1) (gg [.nilS 3 24 127 (.prod (.int .i32) Y2)] [24]) (fun y o h=>?_) (fun j h=>?_))))))
 ·obtain⟨f,v⟩:=y;unfold j6 at h;refine ag (G (aC h (fun z h=>?_) (fun z h=>?_)))
  ·refine ae (ab (ak ?_));obtain⟨B,A,h⟩:=ai h;refine GP 2 (A9 q A) (GC 3 h (fun h=>Ge (ay ?_)));exact eB h (gg [] [97])
  refine au (aQ ?_);exact eX h (gg [] [0])
 refine aw (ab (G (av ?_)));obtain rfl:=sI h;exact RI [(.slice (.prod (.int .i32) Y2))]
def jI(f:Int):Option (Bool) :=
 (((if(f == 32)=true then some (true)
 else(if(f == 9)=true then some (true)
 else(if(f == 10)=true then some (true)
 else some ((f == 13)))))).bind fun v1=>some v1)
theorem p9{u:Int}{p:Bool}(h:jI u=some p):
  Pure Tryz.prog 90 [.i32 u] (aL (bd false [⟨.bool,p⟩])):=by
 refine PB Tryz.func90 (fun Bw w0=>?_);unfold jI at h;refine G (ag (br h (fun v1=>az [(2,.bo v1)] [] 0) (fun v1 h=>?_) (fun v1 h=>?_)))
 ·rcases aN h with⟨f,h⟩ | ⟨f,h⟩
  ·exact bC ⟨[(2,true),(5,true)],[]⟩ [(3,5,oc f)] (eN h (gg [] []))
  rcases aN h with⟨j,h⟩ | ⟨j,h⟩
  ·exact bC ⟨[(2,false),(5,false),(6,true),(9,true)],[]⟩ [(3,4,an f),(5,5,oc f),(7,9,oc j)] (eN h (gg [] []))
  rcases aN h with⟨q,h⟩ | ⟨q,h⟩
  ·exact bC ⟨[(2,false),(5,false),(6,false),(9,false),(10,true),(13,true)],[]⟩ [(3,4,an f),(5,5,oc f),(7,8,an j),(9,9,oc j),(11,13,oc q)] (eN h (gg [] []))
  exact bC ⟨[(2,false),(5,false),(6,false),(9,false),(10,false),(13,false)],[]⟩ [(3,4,an f),(5,5,oc f),(7,8,an j),(9,9,oc j),(11,12,an q),(13,13,oc q)] (eN h (gg [] []))
 refine ab (av ?_);obtain rfl:=sI h;exact RI [.bool]
def km(f j p:Int):Option (Bool) :=
 some (f == 45)
theorem qu{j p q:Int}{f:Bool}(h:km j p q=some f):
  Pure Tryz.prog 117 [.agg [.i32 j,.i64 p,.i64 q]] (aL (bd false [⟨.bool,f⟩])):=by
 refine PB Tryz.func117 (fun Bw w0=>?_);unfold km at h;refine G (G (av ?_));obtain rfl:=sI h;exact RI [.bool]
def m8(j:XK):(Int)→Option ((Int)⊕((Unit)⊕(Int))):=fun f =>
 (if(decide (f<(j.length:Int)))=true then(if 0≤f∧f<(j.length:Int)then((km ((j.getD f.toNat (0,0,0)).1) ((j.getD f.toNat (0,0,0)).2.1) ((j.getD f.toNat (0,0,0)).2.2)).bind fun p =>
 (if p=true then some (Sum.inr (Sum.inr f))
 else some (Sum.inl (i64.wrap (f+1)))))else none)
 else some (Sum.inr (Sum.inl ())))
def mC(f:XK):Option (Int) :=
 ((iter (m8 f) (0:Int)).bind fun(j:((Unit)⊕(Int)))=>match j with
 | .inl _=>some (-1:Int)
 | .inr (p)=>some p)
theorem tA(f:Bool){u:XK}{j:Int}(h:mC u=some j):
  Pure Tryz.prog 129 [.p f (.slice (.prod (.int .i32) Y2)) u,.fn 117 []] (aL (bd false [⟨(.int .i64),j⟩])):=by
 refine PB Tryz.func129 (fun Bw w0=>?_);unfold mC at h;refine G (ag (G (ak (kS h (fun x=>az [(0,.p f (.slice (.prod (.int .i32) Y2)) u),(1,.fn 117 []),(7,.i64 (u.length:Int)),(8,.i64 x)] [] 0) (dz (fD Tryz.f129.ntmps 0 (fun _=>az [] [] 0)) (gB tb Tryz.f129.results.toList (fun z=>[⟨(.int .i64),z⟩]))) (gg [] []) (fun x o h=>?_) (fun B h e σ' A=>?_)))))
 ·unfold m8 at h;refine G (ag (aC h (fun C h=>?_) (fun C h=>?_)))
  ·refine ae (ab (ag (ak (G ?_))));obtain⟨D,h⟩:=aD h;obtain⟨L,E,h⟩:=ai h;have q:=(qu E);refine GN ⟨[],[(5,(oP q))]⟩ [(3,3,oc D),(5,5,oc q)] (aC h (fun I h=>?_) (fun I h=>?_))
   ·refine G (av ?_);obtain rfl:=sI h;refine aA (aj (bM (aM ?_)));exact bL (RI [(.int .i64)])
   refine ae (ay (ab (Ge ?_)));exact eB h (gg [] [])
  refine au (aQ ?_);obtain rfl:=sI h;refine dL (bk ?_);exact bT (gg [] [])
 rcases B with _ | z
 ·obtain⟨rfl,v⟩:=A;refine cH ?_ v;refine aw (ab (G (av ?_)));obtain rfl:=sI h;exact RI [(.int .i64)]
 obtain⟨rfl,J⟩:=A;refine aA (aj ?_);obtain rfl:=sI h;exact J
def qJ(f:XK):Option (Bool) :=
 ((mC f).bind fun j =>
 some (decide (j≥0)))
theorem xZ(f:Bool){q:XK}{j:Bool}(h:qJ q=some j):
  Pure Tryz.prog 116 [.p f (.slice (.prod (.int .i32) Y2)) q,.fn 117 []] (aL (bd false [⟨.bool,j⟩])):=by
 refine PB Tryz.func116 (fun Bw w0=>?_);unfold qJ at h;refine G ?_;obtain⟨v,u,h⟩:=ai h;refine GP 2 (tA f u) (av ?_);obtain rfl:=sI h;exact RI [.bool]
def hH(f:XK):Option (Bool) :=
 ((qJ f).bind fun j =>
 some j)
theorem mU(f:Bool){q:XK}{j:Bool}(h:hH q=some j):
  Pure Tryz.prog 92 [.p f (.slice (.prod (.int .i32) Y2)) q] (aL (bd false [⟨.bool,j⟩])):=by
 refine PB Tryz.func92 (fun Bw w0=>?_);unfold hH at h;refine G ?_;obtain⟨v,u,h⟩:=ai h;refine GP 1 (xZ f u) (av ?_);obtain rfl:=sI h;exact RI [.bool]
def uA(q:XK)(v:Bool):(QK×QK×Bool×Int×Int)→Option ((QK×QK×Bool×Int×Int)⊕((QK×QK×Int)⊕(Z8×Bool))):=fun(f,p,x,u,j) =>
 (if(decide (j<(q.length:Int)))=true then(if 0≤j∧j<(q.length:Int)then(if(((q.getD j.toNat (0,0,0)).1) == 65533)=true then some (Sum.inr (Sum.inr ((f,p),false)))
 else(((if(((q.getD j.toNat (0,0,0)).1) == 45)=true then some (true)
 else(if(decide (((q.getD j.toNat (0,0,0)).1)≥48))=true then some ((decide (((q.getD j.toNat (0,0,0)).1)≤57)))
 else some (false)))).bind fun z=>(((if z=true then(((if x=true then some (true)
 else(if(!(v == (((q.getD j.toNat (0,0,0)).1) == 45)))=true then some (true)
 else(if v=true then(if((f.length:Int) == 0)=true then some (true)
 else some ((j == (i64.wrap ((q.length:Int) - 1)))))
 else some (false))))).bind fun A=>(if A=true then some ((Sum.inr ((f,p),false)))
 else(if 0≤(f.length:Int)∧(f.length:Int)<(p.length:Int)then(if(f.length:Int).toNat<p.length then(if(!v)=true then(if 0≤(f.length:Int)∧(f.length:Int)<((p.set ((f.length:Int).toNat) 1).length:Int)then(if(f.length:Int).toNat<(p.set ((f.length:Int).toNat) 1).length then some ((Sum.inl (f,((p.set ((f.length:Int).toNat) 1).set ((f.length:Int).toNat) (u8.wrap (i32.wrap (((q.getD j.toNat (0,0,0)).1) - 48)))),true,u)))else none)else none)
 else some ((Sum.inl (f,(p.set ((f.length:Int).toNat) 1),true,u))))else none)else none)))
 else(if(((q.getD j.toNat (0,0,0)).1) == 46)=true then(((if v=true then some (true)
 else(if(!(j == 0))=true then some ((!(j == (i64.wrap ((q.length:Int) - 1)))))
 else some (false)))).bind fun B=>(if B=true then some ((Sum.inr ((f,p),false)))
 else(if(f.length+([46]:QK).length)*4≤140737488355328∧f.length+([46]:QK).length≤9223372036854775807 then(if(p.length+([0]:QK).length)*1≤140737488355328∧p.length+([0]:QK).length≤9223372036854775807 then some ((Sum.inl ((f++([46]:QK)),(p++([0]:QK)),false,u)))else none)else none)))
 else(if(f.length+([(q.getD j.toNat (0,0,0)).1]:QK).length)*4≤140737488355328∧f.length+([(q.getD j.toNat (0,0,0)).1]:QK).length≤9223372036854775807 then(if(p.length+([0]:QK).length)*1≤140737488355328∧p.length+([0]:QK).length≤9223372036854775807 then some ((Sum.inl ((f++([(q.getD j.toNat (0,0,0)).1]:QK)),(p++([0]:QK)),false,(i64.wrap (u+1)))))else none)else none)))).bind fun(C:((QK×QK×Bool×Int)⊕(Z8×Bool)))=>match C with
 | .inl (D,E,I,J)=>some (Sum.inl (D,E,I,J,(i64.wrap (j+1))))
 | .inr ((L,M))=>some (Sum.inr (Sum.inr (L,M))))))else none)
 else some (Sum.inr (Sum.inl (f,p,u))))
def rB(v:XK):Option (Z8×Bool) :=
 ((hH v).bind fun x =>
 ((iter (uA v x) (([]:QK),([0]:QK),false,0,0)).bind fun(j:((QK×QK×Int)⊕(Z8×Bool)))=>match j with
 | .inl (f,v30,p)=>(((if(decide (p > 0))=true then some ((decide ((f.length:Int)≤24)))
 else some (false))).bind fun q=>some ((f,v30),q))
 | .inr ((z,u))=>some (z,u)))
theorem Cy(z:Bool){A:XK}{M:Z8×Bool}(h:rB A=some M):
  Pure Tryz.prog 91 [.p z (.slice (.prod (.int .i32) Y2)) A] (aL (bd false [⟨qU,M.1⟩,⟨.bool,M.2⟩])):=by
 refine PB Tryz.func91 (fun Bw w0=>?_);unfold rB at h;refine G ?_;obtain⟨r2,q2,h⟩:=ai h;refine GP 1 (mU z q2) (G (G (G (ag (G (ak (kS h (fun(E,J,N,L,x)=>az [(0,.p z (.slice (.prod (.int .i32) Y2)) A),(2,.adr 0 0 2 0),(4,.bo r2),(5,.adr 1 0 2 0),(6,.bo N),(7,.i64 L),(17,.p z (.slice (.prod (.int .i32) Y2)) A),(18,.i64 (A.length:Int)),(19,.i64 x)] (Ir E J) 4) (dz (fD Tryz.f91.ntmps 0 (fun(O,v30,a2)=>az [(2,.adr 0 0 2 0),(5,.adr 1 0 2 0),(7,.i64 a2)] (Ir O v30) 4)) (gB tb Tryz.f91.results.toList (fun(r9,a3)=>[⟨qU,r9⟩,⟨.bool,a3⟩]))) (gg [.nilC 56 0 112 21 (.int .i32)] [0,56,112,40]) (fun y o h=>?_) (fun b7 h e σ' hq=>?_))))))))
 ·obtain⟨E,J,N,L,x⟩:=y;unfold uA at h;refine G (ag (aC h (fun a4 h=>?_) (fun a4 h=>?_)))
  ·refine ae (ab (ag (ak (GC 1 h (fun h=>G (ak (G (aC h (fun a5 h=>?_) (fun a5 h=>?_)))))))))
   ·refine G (lZ [.frzC 0 0,.frzC 0 1] (by kernel_rfl) (av ?_));obtain rfl:=sI h;refine aA (aA (aj (bM (aM ?_))));exact bL (RI [qU,.bool])
   refine ag (br h (fun V=>az [(0,.p z (.slice (.prod (.int .i32) Y2)) A),(2,.adr 0 0 2 0),(4,.bo r2),(5,.adr 1 0 2 0),(6,.bo N),(7,.i64 L),(8,.i64 x),(9,.adr 4 0 3 0),(10,.i64 (E.length:Int)),(17,.p z (.slice (.prod (.int .i32) Y2)) A),(18,.i64 (A.length:Int)),(19,.i64 x),(46,.bo V)] (Me E J ((A.getD x.toNat (0,0,0)).1) ((A.getD x.toNat (0,0,0)).2.1) ((A.getD x.toNat (0,0,0)).2.2)) 5) (fun V h=>?_) (fun V h=>?_))
   ·rcases aN h with⟨u,h⟩ | ⟨u,h⟩
    ·exact bC ⟨[(3,true),(12,true)],[]⟩ [(4,7,oc u),(11,12,oc u)] (eN h (gg [] [0,1,2,3,36]))
    rcases aN h with⟨B,h⟩ | ⟨B,h⟩
    ·exact bC ⟨[(3,false),(7,true),(11,true),(12,false)],[]⟩ [(4,7,an u),(8,10,an B),(11,11,oc (And.intro u B)),(12,12,oc u)] (eN h (gg [] [0,1,2,3,36]))
    exact bC ⟨[(3,false),(7,false),(11,false),(12,false)],[]⟩ [(4,7,an u),(8,10,oc B),(11,11,oc (And.intro u B)),(12,12,oc u)] (eN h (gg [] [0,1,2,3,36]))
   refine ab (DK h (dz (oa Tryz.f91.ntmps (fun(a6,a7,a8,a9)=>az [(0,.p z (.slice (.prod (.int .i32) Y2)) A),(2,.adr 0 0 2 0),(4,.bo r2),(5,.adr 1 0 2 0),(6,.bo a8),(7,.i64 a9),(17,.p z (.slice (.prod (.int .i32) Y2)) A),(18,.i64 (A.length:Int)),(19,.i64 x)] (Ir a6 a7) 4)) (gB tb Tryz.f91.results.toList (fun(aa,ac)=>[⟨qU,aa⟩,⟨.bool,ac⟩]))) (fun ad h=>?_) (fun ad h e σ' hq=>?_))
   ·refine aC h (fun ax h=>?_) (fun ax h=>?_)
    ·refine ag (ag (br h (fun X=>az [(0,.p z (.slice (.prod (.int .i32) Y2)) A),(2,.adr 0 0 2 0),(4,.bo r2),(5,.adr 1 0 2 0),(7,.i64 L),(9,.adr 4 0 3 0),(10,.i64 (E.length:Int)),(17,.p z (.slice (.prod (.int .i32) Y2)) A),(18,.i64 (A.length:Int)),(19,.i64 x),(81,.bo X)] (Me E J ((A.getD x.toNat (0,0,0)).1) ((A.getD x.toNat (0,0,0)).2.1) ((A.getD x.toNat (0,0,0)).2.2)) 5) (fun X h=>?_) (fun X h=>?_)))
     ·rcases aN h with⟨j,h⟩ | ⟨j,h⟩
      ·exact bC ⟨[(1,true),(7,true)],[]⟩ [(2,7,oc j)] (eN h (gg [] [0,1,2,3,4]))
      rcases aN h with⟨f,h⟩ | ⟨f,h⟩
      ·exact bC ⟨[(1,false),(7,false),(8,true),(21,true)],[]⟩ [(2,6,an j),(7,7,oc j),(9,10,oc f),(20,21,oc f)] (eN h (gg [] [0,1,2,3,4]))
      rcases aN h with⟨q,h⟩ | ⟨q,h⟩
      ·rcases aN h with⟨C,h⟩ | ⟨C,h⟩
       ·exact bC ⟨[(1,false),(7,false),(8,false),(10,true),(13,true),(19,true),(20,true),(21,false)],[]⟩ [(2,6,an j),(7,7,oc j),(9,10,an f),(11,13,an q),(14,18,oc C),(19,19,oc (And.intro q C)),(20,20,oc (And.intro f q)),(21,21,oc f)] (eN h (gg [] [0,1,2,3,4]))
       exact bC ⟨[(1,false),(7,false),(8,false),(10,true),(13,false),(19,false),(20,true),(21,false)],[]⟩ [(2,6,an j),(7,7,oc j),(9,10,an f),(11,13,an q),(14,18,an C),(19,19,oc (And.intro q C)),(20,20,oc (And.intro f q)),(21,21,oc f)] (eN h (gg [] [0,1,2,3,4]))
      exact bC ⟨[(1,false),(7,false),(8,false),(10,false),(20,false),(21,false)],[]⟩ [(2,6,an j),(7,7,oc j),(9,10,an f),(11,13,oc q),(19,19,oc q),(20,20,oc (And.intro f q)),(21,21,oc f)] (eN h (gg [] [0,1,2,3,4]))
     refine ab (aC h (fun b1 h=>?_) (fun b1 h=>?_))
     ·refine G (lZ [.frzC 0 0,.frzC 0 1] (by kernel_rfl) (av ?_));obtain rfl:=sI h;refine aj (aM ?_);exact bL (RI [qU,.bool])
     refine ae (ab (G ?_));obtain⟨b8,b9,h⟩:=g2 h;refine GN a0 [(3,3,oc b8),(4,4,oc b9)] (G (aC h (fun b2 h=>?_) (fun b2 h=>?_)))
     ·obtain⟨be,bi,h⟩:=g2 h;refine bC a0 [(7,7,oc be),(8,8,oc bi)] ?_;obtain rfl:=sI h;exact bk (cJ (gg [] [0,1,2,3]))
     refine ae ?_;obtain rfl:=sI h;exact bk (cJ (gg [] [0,1,2,3]))
    refine G (aC h (fun b3 h=>?_) (fun b3 h=>?_))
    ·refine G (ag (ag (br h (fun Y=>az [(0,.p z (.slice (.prod (.int .i32) Y2)) A),(2,.adr 0 0 2 0),(4,.bo r2),(5,.adr 1 0 2 0),(7,.i64 L),(17,.p z (.slice (.prod (.int .i32) Y2)) A),(18,.i64 (A.length:Int)),(19,.i64 x),(116,.bo Y)] (Ir E J) 4) (fun Y h=>?_) (fun Y h=>?_))))
     ·rcases aN h with⟨v,h⟩ | ⟨v,h⟩
      ·exact bC ⟨[(1,true),(8,true)],[]⟩ [(2,4,oc v),(7,8,oc v)] (eN h (gg [] [0,1,2,3]))
      rcases aN h with⟨D,h⟩ | ⟨D,h⟩
      ·exact bC ⟨[(1,false),(4,true),(7,true),(8,false)],[]⟩ [(2,4,an v),(5,6,an D),(7,7,oc (And.intro v D)),(8,8,oc v)] (eN h (gg [] [0,1,2,3]))
      exact bC ⟨[(1,false),(4,false),(7,false),(8,false)],[]⟩ [(2,4,an v),(5,6,oc D),(7,7,oc (And.intro v D)),(8,8,oc v)] (eN h (gg [] [0,1,2,3]))
     refine ab (aC h (fun b4 h=>?_) (fun b4 h=>?_))
     ·refine G (lZ [.frzC 0 0,.frzC 0 1] (by kernel_rfl) (av ?_));obtain rfl:=sI h;refine aj (aM ?_);exact bL (RI [qU,.bool])
     refine ae (ab ?_);obtain⟨bs,bv,h⟩:=g2 h;refine nj a0 [(3,3,oc bs),(7,7,oc bv)] ?_;obtain rfl:=sI h;exact bk (cJ (gg [] [0,1,28,60]))
    refine G ?_;obtain⟨b5,b6,h⟩:=g2 h;refine nj a0 [(5,5,oc b5),(9,9,oc b6)] ?_;obtain rfl:=sI h;exact bk (cJ (gg [] [0,1,101,133]))
   rcases ad with⟨a6,a7,a8,a9⟩ | ⟨aa,ac⟩
   ·obtain⟨rfl,Z⟩:=hq;refine cH ?_ Z;refine ay (ay (ab (Ge ?_)));exact eB h (gg [] [0,1,2,3])
   obtain⟨rfl,hr⟩:=hq;obtain rfl:=sI h;refine aA (aA (aj (bM (aM ?_))));exact bL hr
  refine au (aQ ?_);obtain rfl:=sI h;refine dL (bk ?_);exact bT (gg [] [0,1,2,3])
 rcases b7 with⟨O,v30,a2⟩ | ⟨r9,a3⟩
 ·obtain⟨rfl,Z⟩:=hq;refine cH ?_ Z;refine aw (ab (ag (br h (fun a1=>az [(2,.adr 0 0 2 0),(3,.bo a1)] (Mw O v30) 3) (fun a1 h=>?_) (fun a1 h=>?_))))
  ·rcases aN h with⟨I,h⟩ | ⟨I,h⟩
   ·exact nj ⟨[(3,true),(8,true)],[]⟩ [(4,7,an I),(8,8,oc I)] (eN h (gg [] [0,2,3]))
   exact nj ⟨[(3,false),(8,false)],[]⟩ [(4,8,oc I)] (eN h (gg [] [0,2,3]))
  refine ab (lZ [.frzC 0 0,.frzC 0 1] (by kernel_rfl) (av ?_));obtain rfl:=sI h;exact RI [qU,.bool]
 obtain⟨rfl,hr⟩:=hq;refine aA (aj ?_);obtain rfl:=sI h;exact hr
def gq(j p:QK):(Int)→Option ((Int)⊕((Unit)⊕(Bool))):=fun f =>
 (if(decide (f<(j.length:Int)))=true then(if 0≤f∧f<(j.length:Int)then(if 0≤f∧f<(p.length:Int)then(if((j.getD f.toNat 0) != (p.getD f.toNat 0))=true then some (Sum.inr (Sum.inr false))
 else some (Sum.inl (i64.wrap (f+1))))else none)else none)
 else some (Sum.inr (Sum.inl ())))
def cu(f j:QK):Option (Bool) :=
 (if((f.length:Int) != (j.length:Int))=true then some false
 else((iter (gq f j) (0:Int)).bind fun(p:((Unit)⊕(Bool)))=>match p with
 | .inl _=>some true
 | .inr (q)=>some q))
theorem gr(f j:Bool){u v:QK}{q:Bool}(h:cu u v=some q):
  Pure Tryz.prog 79 [.p f (.slice (.int .i32)) u,.p j (.slice (.int .i32)) v] (aL (bd false [⟨.bool,q⟩])):=by
 refine PB Tryz.func79 (fun Bw w0=>?_);unfold cu at h;refine G (ag (G (aC h (fun E h=>?_) (fun E h=>?_))))
 ·refine G (av (aj ?_));obtain rfl:=sI h;exact RI [.bool]
 refine ae (ab (ag (G (ak (kS h (fun B=>az [(0,.p f (.slice (.int .i32)) u),(1,.p j (.slice (.int .i32)) v),(12,.i64 (u.length:Int)),(13,.i64 B)] [] 0) (dz (fD Tryz.f79.ntmps 0 (fun _=>az [] [] 0)) (gB tb Tryz.f79.results.toList (fun C=>[⟨.bool,C⟩]))) (gg [] []) (fun B o h=>?_) (fun I h e σ' D=>?_))))))
 ·unfold gq at h;refine G (ag (aC h (fun J h=>?_) (fun J h=>?_)))
  ·refine ae (ab (ag (ak (G ?_))));obtain⟨x,z,h⟩:=g2 h;refine GD a0 [(2,2,oc x),(6,6,oc z)] (aC h (fun L h=>?_) (fun L h=>?_))
   ·refine G (av ?_);obtain rfl:=sI h;refine aA (aj (bM (aM ?_)));exact bL (RI [.bool])
   refine ae (ay (ab (Ge ?_)));exact eB h (gg [] [])
  refine au (aQ ?_);obtain rfl:=sI h;refine dL (bk ?_);exact bT (gg [] [])
 rcases I with _ | C
 ·obtain⟨rfl,A⟩:=D;refine cH ?_ A;refine aw (ab (G (av ?_)));obtain rfl:=sI h;exact RI [.bool]
 obtain⟨rfl,M⟩:=D;refine aA (aj ?_);obtain rfl:=sI h;exact M
def nH(f q j u:QK):Option (Bool) :=
 ((cu f j).bind fun p =>
 some p)
theorem uD(f u j v:Bool){x z A B:QK}{q:Bool}(h:nH x z A B=some q):
  Pure Tryz.prog 94 [.agg [.p f (.slice (.int .i32)) x,.p u (.slice (.int .u8)) z],.fad true [.p j (.slice (.int .i32)) A,.p v (.slice (.int .u8)) B] 0] (aL (bd false [⟨.bool,q⟩])):=by
 refine PB Tryz.func94 (fun Bw w0=>?_);unfold nH at h;refine G ?_;obtain⟨D,C,h⟩:=ai h;refine GP 4 (gr f j C) (av ?_);obtain rfl:=sI h;exact RI [.bool]
def my(j:List Z8)(p q:QK):(Int)→Option ((Int)⊕((Unit)⊕(Int))):=fun f =>
 (if(decide (f<(j.length:Int)))=true then(if 0≤f∧f<(j.length:Int)then((nH ((j.getD f.toNat ([],([]:QK))).1) ((j.getD f.toNat ([],([]:QK))).2) p q).bind fun u =>
 (if u=true then some (Sum.inr (Sum.inr f))
 else some (Sum.inl (i64.wrap (f+1)))))else none)
 else some (Sum.inr (Sum.inl ())))
def lU(f:List Z8)(j p:QK):Option (Int) :=
 ((iter (my f j p) (0:Int)).bind fun(q:((Unit)⊕(Int)))=>match q with
 | .inl _=>some (-1:Int)
 | .inr (u)=>some u)
theorem sc(f j q:Bool){x:List Z8}{z A:QK}{u:Int}(h:lU x z A=some u):
  Pure Tryz.prog 77 [.p f (.slice qU) x,.fn 94 [.fad true [.p j (.slice (.int .i32)) z,.p q (.slice (.int .u8)) A] 0]] (aL (bd false [⟨(.int .i64),u⟩])):=by
 refine PB Tryz.func77 (fun Bw w0=>?_);unfold lU at h;refine G (ag (G (ak (kS h (fun C=>az [(0,.p f (.slice qU) x),(1,.fn 94 [.fad true [.p j (.slice (.int .i32)) z,.p q (.slice (.int .u8)) A] 0]),(7,.i64 (x.length:Int)),(8,.i64 C)] [] 0) (dz (fD Tryz.f77.ntmps 0 (fun _=>az [] [] 0)) (gB tb Tryz.f77.results.toList (fun D=>[⟨(.int .i64),D⟩]))) (gg [] []) (fun C o h=>?_) (fun I h e σ' E=>?_)))))
 ·unfold my at h;refine G (ag (aC h (fun J h=>?_) (fun J h=>?_)))
  ·refine ae (ab (ag (ak (G ?_))));obtain⟨L,h⟩:=aD h;obtain⟨V,M,h⟩:=ai h;have v:=(uD f f j q M);refine GN ⟨[],[(5,(oP v))]⟩ [(3,3,oc L),(5,5,oc v)] (aC h (fun N h=>?_) (fun N h=>?_))
   ·refine G (av ?_);obtain rfl:=sI h;refine aA (aj (bM (aM ?_)));exact bL (RI [(.int .i64)])
   refine ae (ay (ab (Ge ?_)));exact eB h (gg [] [])
  refine au (aQ ?_);obtain rfl:=sI h;refine dL (bk ?_);exact bT (gg [] [])
 rcases I with _ | D
 ·obtain⟨rfl,B⟩:=E;refine cH ?_ B;refine aw (ab (G (av ?_)));obtain rfl:=sI h;exact RI [(.int .i64)]
 obtain⟨rfl,O⟩:=E;refine aA (aj ?_);obtain rfl:=sI h;exact O
def mi(f:List Z8)(j p:QK):Option (Bool) :=
 ((lU f j p).bind fun q =>
 some (decide (q≥0)))
theorem vM(f j q:Bool){v:List Z8}{x z:QK}{u:Bool}(h:mi v x z=some u):
  Pure Tryz.prog 93 [.p f (.slice qU) v,.fn 94 [.fad true [.p j (.slice (.int .i32)) x,.p q (.slice (.int .u8)) z] 0]] (aL (bd false [⟨.bool,u⟩])):=by
 refine PB Tryz.func93 (fun Bw w0=>?_);unfold mi at h;refine G ?_;obtain⟨B,A,h⟩:=ai h;refine GP 2 (sc f j q A) (av ?_);obtain rfl:=sI h;exact RI [.bool]
end
end Go.Proofs.YtobbjfkfmdiklaaGreatDoor.T
