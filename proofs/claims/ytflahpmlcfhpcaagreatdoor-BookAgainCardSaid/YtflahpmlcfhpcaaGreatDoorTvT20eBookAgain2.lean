import Derived.Test.YtflahpmlcfhpcaaGreatDoorTvT20e0
import Derived.Test.YtflahpmlcfhpcaaGreatDoorTvT20eBookAgain1
namespace Go.Proofs.YtflahpmlcfhpcaaGreatDoor.T
open Go Go.Tv Go.Proofs
open Go.IntKind (i32 i64 u32 u64 u8)
noncomputable section
set_option maxRecDepth 100000
set_option maxHeartbeats 4000000
def im(e f j p q:Int):Option Z2 :=
 (if ¬(64:Int)=0 then(if 0≤(i64.wrap (Int.tdiv e 64))∧(i64.wrap (Int.tdiv e 64))<((4:Nat):Int)then(if ¬(64:Int)=0 then(if 0≤(Int.tmod e 64)then(if 0≤(i64.wrap (Int.tdiv e 64))∧(i64.wrap (Int.tdiv e 64))<((4:Nat):Int)then some ((if(i64.wrap (Int.tdiv e 64)).toNat=0 then(bitsOf .or .u64 (([f,j,p,q]:QK).getD ((i64.wrap (Int.tdiv e 64)).toNat) 0) (u64.wrap (1*2 ^ (min (Int.tmod e 64).toNat u64.bits))))else f),(if(i64.wrap (Int.tdiv e 64)).toNat=1 then(bitsOf .or .u64 (([f,j,p,q]:QK).getD ((i64.wrap (Int.tdiv e 64)).toNat) 0) (u64.wrap (1*2 ^ (min (Int.tmod e 64).toNat u64.bits))))else j),(if(i64.wrap (Int.tdiv e 64)).toNat=2 then(bitsOf .or .u64 (([f,j,p,q]:QK).getD ((i64.wrap (Int.tdiv e 64)).toNat) 0) (u64.wrap (1*2 ^ (min (Int.tmod e 64).toNat u64.bits))))else p),(if(i64.wrap (Int.tdiv e 64)).toNat=3 then(bitsOf .or .u64 (([f,j,p,q]:QK).getD ((i64.wrap (Int.tdiv e 64)).toNat) 0) (u64.wrap (1*2 ^ (min (Int.tmod e 64).toNat u64.bits))))else q))else none)else none)else none)else none)else none)
theorem qi{e j p q u:Int}{f:Int×Int×Int×Int}(h:im e j p q u=some f):
  hY Tryz.prog 130 [.adr 0 0 4 0,.i64 e] [(0,.box [.u64 j,.u64 p,.u64 q,.u64 u])] (.tup []) [(0,.box [.u64 f.1,.u64 f.2.1,.u64 f.2.2.1,.u64 f.2.2.2])]:=by
 refine OB Tryz.func130 (fun Bw w0=>?_);unfold im at h;obtain⟨v,x,z,A,h⟩:=g4 h;obtain⟨B,h⟩:=aE h;refine mZ a0 [(2,2,oc v),(4,4,oc x),(7,7,oc z),(8,8,oc A),(11,11,oc B)] ?_;obtain rfl:=sI h;exact(RO [] [] [0] [] [(0,.box [.u64 (if(i64.wrap (Int.tdiv e 64)).toNat=0 then(bitsOf .or .u64 (([j,p,q,u]:QK).getD ((i64.wrap (Int.tdiv e 64)).toNat) 0) (u64.wrap (1*2 ^ (min (Int.tmod e 64).toNat u64.bits))))else j),.u64 (if(i64.wrap (Int.tdiv e 64)).toNat=1 then(bitsOf .or .u64 (([j,p,q,u]:QK).getD ((i64.wrap (Int.tdiv e 64)).toNat) 0) (u64.wrap (1*2 ^ (min (Int.tmod e 64).toNat u64.bits))))else p),.u64 (if(i64.wrap (Int.tdiv e 64)).toNat=2 then(bitsOf .or .u64 (([j,p,q,u]:QK).getD ((i64.wrap (Int.tdiv e 64)).toNat) 0) (u64.wrap (1*2 ^ (min (Int.tmod e 64).toNat u64.bits))))else q),.u64 (if(i64.wrap (Int.tdiv e 64)).toNat=3 then(bitsOf .or .u64 (([j,p,q,u]:QK).getD ((i64.wrap (Int.tdiv e 64)).toNat) 0) (u64.wrap (1*2 ^ (min (Int.tmod e 64).toNat u64.bits))))else u)])] 1 1).normal
def qQ(f:XX):(QK×Qj×Bool×(List Z9)×Int)→Option ((QK×Qj×Bool×(List Z9)×Int)⊕(QK×Qj×Bool×List Z9)):=fun(u,v,x,v10,v11) =>
 (if(decide (v11<(f.length:Int)))=true then(if 0≤v11∧v11<(f.length:Int)then((dZ 1000 ((f.getD v11.toNat (Tree.node 0 0 [])).op) ((f.getD v11.toNat (Tree.node 0 0 [])).set) ((f.getD v11.toNat (Tree.node 0 0 [])).kids) x u v).bind fun(e,j,p,q) =>
 (if(v10.length+([(e.1,(e.2.1.1,e.2.1.2.1,e.2.1.2.2.1,e.2.1.2.2.2),e.2.2.1,e.2.2.2.1,e.2.2.2.2.1,e.2.2.2.2.2)]:List Z9).length)*72≤140737488355328∧v10.length+([(e.1,(e.2.1.1,e.2.1.2.1,e.2.1.2.2.1,e.2.1.2.2.2),e.2.2.1,e.2.2.2.1,e.2.2.2.2.1,e.2.2.2.2.2)]:List Z9).length≤9223372036854775807 then some (Sum.inl (j,p,q,(v10++([(e.1,(e.2.1.1,e.2.1.2.1,e.2.1.2.2.1,e.2.1.2.2.2),e.2.2.1,e.2.2.2.1,e.2.2.2.2.1,e.2.2.2.2.2)]:List Z9)),(i64.wrap (v11+1))))else none))else none)
 else some (Sum.inr (u,v,x,v10)))
def rY(f:List Z9):(Int×Int×Int×Int×Int)→Option ((Int×Int×Int×Int×Int)⊕Z2):=fun(p,q,u,v,e) =>
 (if(decide (e<(f.length:Int)))=true then(if 0≤e∧e<(f.length:Int)then(if e.toNat<f.length then((cZ p q u v ((f.getD e.toNat (false,(0,0,0,0),0,0,0,0)).2.1.1) ((f.getD e.toNat (false,(0,0,0,0),0,0,0,0)).2.1.2.1) ((f.getD e.toNat (false,(0,0,0,0),0,0,0,0)).2.1.2.2.1) ((f.getD e.toNat (false,(0,0,0,0),0,0,0,0)).2.1.2.2.2)).bind fun j =>
 some (Sum.inl (j.1,j.2.1,j.2.2.1,j.2.2.2,(i64.wrap (e+1)))))else none)else none)
 else some (Sum.inr (p,q,u,v)))
def rB(f j:Qj)(p:Int):(Int×Int×Int×Int×Int)→Option ((Int×Int×Int×Int×Int)⊕Z2):=fun(u,v,x,z,e) =>
 (if(decide (e<(f.length:Int)))=true then((gP ((j.getD p.toNat (0,0,0,0)).1) ((j.getD p.toNat (0,0,0,0)).2.1) ((j.getD p.toNat (0,0,0,0)).2.2.1) ((j.getD p.toNat (0,0,0,0)).2.2.2) e).bind fun A =>
 (((if A=true then(if 0≤e∧e<(f.length:Int)then(if e.toNat<f.length then((cZ u v x z ((f.getD e.toNat (0,0,0,0)).1) ((f.getD e.toNat (0,0,0,0)).2.1) ((f.getD e.toNat (0,0,0,0)).2.2.1) ((f.getD e.toNat (0,0,0,0)).2.2.2)).bind fun q =>
 some ((q.1,q.2.1,q.2.2.1,q.2.2.2)))else none)else none)
 else some ((u,v,x,z)))).bind fun(B,C,D,E)=>some (Sum.inl (B,C,D,E,(i64.wrap (e+1))))))
 else some (Sum.inr (u,v,x,z)))
def re(f:List Z9)(j:Qj)(p:Int):(Int×Int)→Option ((Int×Int)⊕(Int)):=fun(q,e) =>
 (if(decide (e<(f.length:Int)))=true then(if 0≤e∧e<(f.length:Int)then(if e.toNat<f.length then(((if((f.getD e.toNat (false,(0,0,0,0),0,0,0,0)).1)=true then some (true)
 else((nc ((j.getD p.toNat (0,0,0,0)).1) ((j.getD p.toNat (0,0,0,0)).2.1) ((j.getD p.toNat (0,0,0,0)).2.2.1) ((j.getD p.toNat (0,0,0,0)).2.2.2) ((f.getD e.toNat (false,(0,0,0,0),0,0,0,0)).2.2.1) ((f.getD e.toNat (false,(0,0,0,0),0,0,0,0)).2.2.2.1) ((f.getD e.toNat (false,(0,0,0,0),0,0,0,0)).2.2.2.2.1) ((f.getD e.toNat (false,(0,0,0,0),0,0,0,0)).2.2.2.2.2)).bind fun u =>
 some (u)))).bind fun v=>(((if v=true then(if 0≤e then some ((bitsOf .or .u32 q (u32.wrap (1*2 ^ (min e.toNat u32.bits)))))else none)
 else some (q))).bind fun x=>some (Sum.inl (x,(i64.wrap (e+1))))))else none)else none)
 else some (Sum.inr q))
def rT(u:QK)(x z A B v:Int):(Int×Int×Int×Int×Int)→Option ((Int×Int×Int×Int×Int)⊕Z2):=fun(f,j,p,q,e) =>
 (if(decide (e<(u.length:Int)))=true then(if 0≤e∧e<(u.length:Int)then(if e.toNat<u.length then((((gP x z A B e).bind fun C =>
 (if C=true then(if 0≤v then some (((bitsOf .and .u32 (Int.fdiv (u.getD e.toNat 0) (2 ^ (min v.toNat u32.bits))) (1:Int)) == 1))else none)
 else some (false)))).bind fun D=>(((if D=true then((im e f j p q).bind fun(E,I,J,L) =>
 some ((E,I,J,L)))
 else some ((f,j,p,q)))).bind fun(M,N,O,V)=>some (Sum.inl (M,N,O,V,(i64.wrap (e+1))))))else none)else none)
 else some (Sum.inr (f,j,p,q)))
def rm(O:Int)(N:QK)(z A B C:Int):(Qj×(List (Z2×Int))×QK×Int)→Option ((Qj×(List (Z2×Int))×QK×Int)⊕((Qj×(List (Z2×Int))×QK)⊕(DI×Int))):=fun(e,v,x,f) =>
 (if(decide (f<O))=true then((iter (rT N z A B C f) (0,0,0,0,0)).bind fun(j,p,q,u)=>(((if(!((bg lW v (j,p,q,u)).isSome))=true then(if(decide ((e.length:Int)≥300))=true then some ((Sum.inr ((([]:QZ),([]:QK)),27)))
 else(if(e.length+([(j,p,q,u)]:Qj).length)*32≤140737488355328∧e.length+([(j,p,q,u)]:Qj).length≤9223372036854775807 then some ((Sum.inl ((e++([(j,p,q,u)]:Qj)),(cO lW v (j,p,q,u) (e.length:Int)),(e.length:Int))))else none))
 else some ((Sum.inl (e,v,((bg lW v (j,p,q,u)).getD 0)))))).bind fun(D:((Qj×(List (Z2×Int))×Int)⊕(DI×Int)))=>match D with
 | .inl (E,I,J)=>(if 0≤f∧f<(x.length:Int)then(if f.toNat<x.length then some (Sum.inl (E,I,(x.set f.toNat J),(i64.wrap (f+1))))else none)else none)
 | .inr ((L,M))=>some (Sum.inr (Sum.inr (L,M)))))
 else some (Sum.inr (Sum.inl (e,v,x))))
def qA(v:Int)(M:QK)(N:Qj)(O:List Z9)(V X Y Z:Int):(QZ×QK×Qj×(List (Z2×Int))×Int)→Option ((QZ×QK×Qj×(List (Z2×Int))×Int)⊕(DI⊕(DI×Int))):=fun(j,p,f,x,e) =>
 (if(decide (e<(f.length:Int)))=true then(if 0≤e∧e<(f.length:Int)then(if e.toNat<f.length then((iter (rB N f e) (V,X,Y,Z,0)).bind fun(z,A,B,C)=>((iter (re O f e) (0,0)).bind fun q=>(if 0≤v∧v≤v∧8*v≤281474976710656∧v≤9223372036854775807 then((iter (rm v M z A B C) (f,x,(List.replicate v.toNat (0:Int)),0)).bind fun(D:((Qj×(List (Z2×Int))×QK)⊕(DI×Int)))=>match D with
 | .inl (E,I,u)=>(if(j.length+([u]:QZ).length)*24≤140737488355328∧j.length+([u]:QZ).length≤9223372036854775807 then(if(p.length+([q]:QK).length)*4≤140737488355328∧p.length+([q]:QK).length≤9223372036854775807 then some (Sum.inl ((j++([u]:QZ)),(p++([q]:QK)),E,I,(i64.wrap (e+1))))else none)else none)
 | .inr ((J,L))=>some (Sum.inr (Sum.inr (J,L))))else none)))else none)else none)
 else some (Sum.inr (Sum.inl (j,p))))
def mN(I:XX)(v:Int):Option (DI×Int) :=
 (((if(decide (v<1))=true then some (true)
 else(if(decide (v > 24))=true then some (true)
 else some ((decide ((I.length:Int) > 24)))))).bind fun v1=>(if v1=true then some ((([]:QZ),([]:QK)),2)
 else((iter (qQ I) (([]:QK),([]:Qj),false,([]:List Z9),0)).bind fun(x,z,A,e)=>(if A=true then some ((([]:QZ),([]:QK)),26)
 else((iter (rY e) (0,0,0,0,0)).bind fun(B,C,D,E)=>((iter (qA v x z e B C D E) (([]:QZ),([]:QK),([(0,0,0,0)]:Qj),(cO lW ([]:List (Z2×Int)) (0,0,0,0) (0:Int)),0)).bind fun(f:(DI⊕(DI×Int)))=>match f with
 | .inl (j,p)=>some ((j,p),0)
 | .inr ((q,u))=>some (q,u)))))))
theorem qL(b4:Bool){d1:XX}{Y:Int}{de:DI×Int}(h:mN d1 Y=some de):
  Pure Tryz.prog 88 [.p b4 (.slice (.tree .u8 .u32)) d1,.i64 Y] (aM (bk false [⟨BJ,de.1⟩,⟨(.int .i64),de.2⟩])):=by
 refine PB Tryz.func88 (fun Bw w0=>?_);unfold mN at h;refine G (af (af (bn h (fun v1=>aA [(0,.p b4 (.slice (.tree .u8 .u32)) d1),(1,.i64 Y),(4,.adr 0 0 2 0),(40,.bo v1)] [(0,.box [.nils,.nils])] 1) (fun v1 h=>?_) (fun v1 h=>?_))))
 ·rcases aL h with⟨B5,h⟩ | ⟨B5,h⟩
  ·exact bu ⟨[(2,true),(5,true)],[]⟩ [(3,5,oc B5)] (eN h (gg [] [0]))
  rcases aL h with⟨B6,h⟩ | ⟨B6,h⟩
  ·exact bu ⟨[(2,false),(5,false),(6,true),(10,true)],[]⟩ [(3,4,an B5),(5,5,oc B5),(7,10,oc B6)] (eN h (gg [] [0]))
  exact bu ⟨[(2,false),(5,false),(6,false),(10,false)],[]⟩ [(3,4,an B5),(5,5,oc B5),(7,9,an B6),(10,10,oc B6)] (eN h (gg [] [0]))
 refine ab (aC h (fun B7 h=>?_) (fun B7 h=>?_))
 ·refine G (aw (ai ?_));obtain rfl:=sI h;exact RI [BJ,(.int .i64)]
 refine ae (ab (G (G (af (G (ak (cH h (fun(v7,v8,v9,v10,v11)=>aA [(1,.i64 Y),(4,.adr 0 0 2 0),(6,.adr 1 0 3 0),(7,.sl 4),(44,.p b4 (.slice (.tree .u8 .u32)) d1),(45,.i64 (d1.length:Int)),(46,.i64 v11)] (KL v9 v7 v8 v10) 5) 0 (fun(x,z,A,v)=>aA [(1,.i64 Y),(4,.adr 0 0 2 0),(6,.adr 1 0 3 0),(7,.sl 4)] (KL A x z v) 5) (gg [.nilC 9 0 57 40 (.int .u32),.nilC 9 1 58 264 lW,.nilS 7 59 266 BH] [0,9,57,58,59]) (fun y o h=>?_) (fun f5 h=>?_))))))))
 ·obtain⟨v7,v8,v9,v10,v11⟩:=y;unfold qQ at h;refine G (af (aC h (fun f6 h=>?_) (fun f6 h=>?_)))
  ·refine ae (ab (af (ak (GC 0 h (fun h=>?_)))));obtain⟨⟨g7,g8,g9,gb⟩,q6,h⟩:=aj h;obtain⟨f7,h⟩:=aE h;have O:=(km 1000 b4 q6);refine bu ⟨[],[(3,(oO O [1,2,3]))]⟩ [(3,3,oc O),(5,5,oc f7)] (ay (ab (Ge ?_)));exact eB h (gg [] [0,1,69,70,85])
  refine au (aO ?_);exact eX h (gg [] [0,1,2,3,4])
 obtain⟨x,z,A,v⟩:=f5;refine av (ab (af (G (aC h (fun f8 h=>?_) (fun f8 h=>?_)))))
 ·refine G (aw (ai ?_));obtain rfl:=sI h;exact RI [BJ,(.int .i64)]
 refine ae (ab (G (af (G (ak (cH h (fun(di,dk,dm,ds,dt)=>aA [(1,.i64 Y),(4,.adr 0 0 2 0),(6,.adr 1 0 3 0),(7,.sl 4),(10,.adr 5 0 4 0),(62,.sl 4),(63,.i64 (v.length:Int)),(64,.i64 dt)] (KS A x z v di dk dm ds) 6) 2 (fun(J,L,M,N)=>aA [(1,.i64 Y),(4,.adr 0 0 2 0),(6,.adr 1 0 3 0),(7,.sl 4),(10,.adr 5 0 4 0)] (KS A x z v J L M N) 6) (gg [] [0,1,2,3,4,37]) (fun y o h=>?_) (fun f9 h=>?_)))))))
 ·obtain⟨di,dk,dm,ds,dt⟩:=y;unfold rY at h;refine G (af (aC h (fun fa h=>?_) (fun fa h=>?_)))
  ·refine ae (ab (af (ak ?_)));obtain⟨fd,fi,h⟩:=g2 h;refine GN a0 [(0,0,oc fd),(1,1,oc fi)] ?_;obtain⟨gd,fo,h⟩:=aj h;refine Ll 3 (cT fo) (ay (ab (Ge ?_)));exact eB h (gg [] [0,1,2,3,4,5])
  refine au (aO ?_);exact eX h (gg [] [0,1,2,3,4,5])
 obtain⟨J,L,M,N⟩:=f9;refine av (ab (G (G (GN a0 [(0,0,oc y3),(2,2,oc y3)] (af (G (ak (jT h (fun(q,u,j,V,f)=>aA [(1,.i64 Y),(4,.adr 0 0 2 0),(6,.adr 1 0 3 0),(7,.sl 4),(10,.adr 5 0 4 0),(13,.adr 6 0 2 0),(14,.sl 9),(15,.mp 10),(16,.i64 f)] (LQ A x z v J L M N q u j V) 11) (dc (eO Tryz.f88.ntmps 4 (fun(b5,b6)=>aA [(4,.adr 0 0 2 0),(13,.adr 1 0 2 0)] (K8 b5 b6) 4)) (fQ tb Tryz.f88.results.toList (fun(b7,b8)=>[⟨BJ,b7⟩,⟨(.int .i64),b8⟩]))) (gg [.nilC 6 0 86 41 (.slice (.int .i64)),.nilC 6 1 87 40 (.int .u32)] [0,1,2,3,4,5,6,86,87,22,38]) (fun y o h=>?_) (fun du h e σ' hq=>?_)))))))))
 ·obtain⟨q,u,j,V,f⟩:=y;unfold qA at h;refine af (G (aC h (fun e1 h=>?_) (fun e1 h=>?_)))
  ·refine ae (ab (af (ak ?_)));obtain⟨e2,e3,h⟩:=g2 h;refine GN a0 [(2,2,oc e2),(3,3,oc e3)] (G (G (af (G (ak ?_)))));refine cH h (fun(b9,be,bi,bs,a7)=>aA [(1,.i64 Y),(4,.adr 0 0 2 0),(6,.adr 1 0 3 0),(7,.sl 4),(10,.adr 5 0 4 0),(13,.adr 6 0 2 0),(14,.sl 9),(15,.mp 10),(16,.i64 f),(17,.adr 11 0 4 0),(18,.u32 0),(19,.adr 12 0 4 0),(93,.i64 (z.length:Int)),(94,.i64 a7)] (Eb A x z v J L M N q u j V ((j.getD f.toNat (0,0,0,0)).1) ((j.getD f.toNat (0,0,0,0)).2.1) ((j.getD f.toNat (0,0,0,0)).2.2.1) ((j.getD f.toNat (0,0,0,0)).2.2.2) b9 be bi bs) 13) 6 (fun(B,C,D,E)=>aA [(1,.i64 Y),(4,.adr 0 0 2 0),(6,.adr 1 0 3 0),(7,.sl 4),(10,.adr 5 0 4 0),(13,.adr 6 0 2 0),(14,.sl 9),(15,.mp 10),(16,.i64 f),(17,.adr 11 0 4 0),(18,.u32 0),(19,.adr 12 0 4 0)] (Eb A x z v J L M N q u j V ((j.getD f.toNat (0,0,0,0)).1) ((j.getD f.toNat (0,0,0,0)).2.1) ((j.getD f.toNat (0,0,0,0)).2.2.1) ((j.getD f.toNat (0,0,0,0)).2.2.2) B C D E) 13) (gg [] [0,1,2,3,4,5,6,7,8,9,10,75,107]) (fun y o h=>?_) (fun e4 h=>?_)
   ·obtain⟨b9,be,bi,bs,a7⟩:=y;unfold rB at h;refine G (af (aC h (fun e5 h=>?_) (fun e5 h=>?_)))
    ·refine ae (ab (af (ak (G ?_))));obtain⟨fr,e6,h⟩:=aj h;refine GP 2 (iq e6) (bn h (fun(bv,bx,c1,c2)=>aA [(1,.i64 Y),(4,.adr 0 0 2 0),(6,.adr 1 0 3 0),(7,.sl 4),(10,.adr 5 0 4 0),(13,.adr 6 0 2 0),(14,.sl 9),(15,.mp 10),(16,.i64 f),(17,.adr 11 0 4 0),(18,.u32 0),(19,.adr 12 0 4 0),(93,.i64 (z.length:Int)),(94,.i64 a7)] (Eb A x z v J L M N q u j V ((j.getD f.toNat (0,0,0,0)).1) ((j.getD f.toNat (0,0,0,0)).2.1) ((j.getD f.toNat (0,0,0,0)).2.2.1) ((j.getD f.toNat (0,0,0,0)).2.2.2) bv bx c1 c2) 13) (fun c3 h=>?_) (fun c3 h=>?_))
     ·refine aC h (fun e7 h=>?_) (fun e7 h=>?_)
      ·obtain⟨e8,e9,h⟩:=g2 h;obtain⟨fs,ea,h⟩:=aj h;have O:=(cT ea);exact mZ ⟨[],[(8,(oP O))]⟩ [(6,6,oc e8),(7,7,oc e9),(8,8,oc O)] (eN h (gg [] [0,1,2,3,4,5,6,7,8,9,10,11,12]))
      exact ae (eN h (gg [] [0,1,2,3,4,5,6,7,8,9,10,11,12]))
     obtain⟨bv,bx,c1,c2⟩:=c3;refine ay (ab (Ge ?_));exact eB h (gg [] [0,1,2,3,4,5,6,7,8,9,10,11,12])
    refine au (aO ?_);exact eX h (gg [] [0,1,2,3,4,5,6,7,8,9,10,11,12])
   obtain⟨B,C,D,E⟩:=e4;refine av (ab (af (G (ak ?_))));refine cH h (fun(a8,a4)=>aA [(1,.i64 Y),(4,.adr 0 0 2 0),(6,.adr 1 0 3 0),(7,.sl 4),(10,.adr 5 0 4 0),(13,.adr 6 0 2 0),(14,.sl 9),(15,.mp 10),(16,.i64 f),(17,.adr 11 0 4 0),(18,.u32 a8),(19,.adr 12 0 4 0),(110,.sl 4),(111,.i64 (v.length:Int)),(112,.i64 a4)] (Eb A x z v J L M N q u j V ((j.getD f.toNat (0,0,0,0)).1) ((j.getD f.toNat (0,0,0,0)).2.1) ((j.getD f.toNat (0,0,0,0)).2.2.1) ((j.getD f.toNat (0,0,0,0)).2.2.2) B C D E) 13) 8 (fun X=>aA [(1,.i64 Y),(4,.adr 0 0 2 0),(6,.adr 1 0 3 0),(7,.sl 4),(10,.adr 5 0 4 0),(13,.adr 6 0 2 0),(14,.sl 9),(15,.mp 10),(16,.i64 f),(18,.u32 X),(19,.adr 11 0 4 0)] (LW A x z v J L M N q u j V B C D E) 12) (gg [] [0,1,2,3,4,5,6,7,8,9,10,11,12]) (fun y o h=>?_) (fun X h=>?_)
   ·obtain⟨a8,a4⟩:=y;unfold re at h;refine G (af (aC h (fun eb h=>?_) (fun eb h=>?_)))
    ·refine ae (ab (af (ak ?_)));obtain⟨ec,ed,h⟩:=g2 h;refine GN a0 [(1,1,oc ec),(2,2,oc ed)] (af (bn h (fun a9=>aA [(1,.i64 Y),(4,.adr 0 0 2 0),(6,.adr 1 0 3 0),(7,.sl 4),(10,.adr 5 0 4 0),(13,.adr 6 0 2 0),(14,.sl 9),(15,.mp 10),(16,.i64 f),(17,.adr 11 0 4 0),(18,.u32 a8),(19,.adr 12 0 4 0),(21,.i64 a4),(110,.sl 4),(111,.i64 (v.length:Int)),(112,.i64 a4),(124,.bo a9)] (Eb A x z v J L M N q u j V ((j.getD f.toNat (0,0,0,0)).1) ((j.getD f.toNat (0,0,0,0)).2.1) ((j.getD f.toNat (0,0,0,0)).2.2.1) ((j.getD f.toNat (0,0,0,0)).2.2.2) B C D E) 13) (fun a9 h=>?_) (fun a9 h=>?_)))
     ·rcases aL h with⟨a5,h⟩ | ⟨a5,h⟩
      ·exact bu ⟨[(2,true),(7,true)],[]⟩ [(3,7,oc a5)] (eN h (gg [] [0,1,2,3,4,5,6,7,8,9,10,11,12]))
      obtain⟨ft,ef,h⟩:=aj h;have O:=(wZ ef);exact bu ⟨[(2,false),(7,false)],[(6,(oP O))]⟩ [(3,5,an a5),(6,6,oc (And.intro a5 O)),(7,7,oc a5)] (eN h (gg [] [0,1,2,3,4,5,6,7,8,9,10,11,12]))
     refine ab (bn h (fun aa=>aA [(1,.i64 Y),(4,.adr 0 0 2 0),(6,.adr 1 0 3 0),(7,.sl 4),(10,.adr 5 0 4 0),(13,.adr 6 0 2 0),(14,.sl 9),(15,.mp 10),(16,.i64 f),(17,.adr 11 0 4 0),(18,.u32 aa),(19,.adr 12 0 4 0),(110,.sl 4),(111,.i64 (v.length:Int)),(112,.i64 a4)] (Eb A x z v J L M N q u j V ((j.getD f.toNat (0,0,0,0)).1) ((j.getD f.toNat (0,0,0,0)).2.1) ((j.getD f.toNat (0,0,0,0)).2.2.1) ((j.getD f.toNat (0,0,0,0)).2.2.2) B C D E) 13) (fun aa h=>?_) (fun aa h=>?_))
     ·refine aC h (fun eh h=>?_) (fun eh h=>?_)
      ·refine zB 2 h (fun h=>?_);exact eN h (gg [] [0,1,2,3,4,5,6,7,8,9,10,11,12])
      exact ae (eN h (gg [] [0,1,2,3,4,5,6,7,8,9,10,11,12]))
     refine ay (ab (Ge ?_));exact eB h (gg [] [0,1,2,3,4,5,6,7,8,9,10,11,12])
    refine au (aO ?_);exact eX h (gg [] [0,1,2,3,4,5,6,7,8,9,10,12])
   refine av (ab (GC 1 h (fun h=>af (G (ak ?_)))));refine jT h (fun(a1,a2,Z,I)=>aA [(1,.i64 Y),(4,.adr 0 0 2 0),(6,.adr 1 0 3 0),(7,.sl 4),(10,.adr 5 0 4 0),(13,.adr 6 0 2 0),(14,.sl 9),(15,.mp 10),(16,.i64 f),(18,.u32 X),(19,.adr 11 0 4 0),(23,.sl 12),(132,.i64 Y),(133,.i64 I)] (KP A x z v J L M N q u a1 a2 B C D E Z) 13) (dc (eO Tryz.f88.ntmps 10 (fun(c4,c5,c6)=>aA [(1,.i64 Y),(4,.adr 0 0 2 0),(6,.adr 1 0 3 0),(7,.sl 4),(10,.adr 5 0 4 0),(13,.adr 6 0 2 0),(14,.sl 9),(15,.mp 10),(16,.i64 f),(18,.u32 X),(23,.sl 11)] (LH A x z v J L M N q u c4 c5 c6) 12)) (fQ tb Tryz.f88.results.toList (fun(c7,c8)=>[⟨BJ,c7⟩,⟨(.int .i64),c8⟩]))) (gg [] [0,1,2,3,4,5,6,7,8,9,10,11,20]) (fun y o h=>?_) (fun ei h e σ' hq=>?_)
   ·obtain⟨a1,a2,Z,I⟩:=y;unfold rm at h;refine G (af (aC h (fun ej h=>?_) (fun ej h=>?_)))
    ·refine ae (ab (af (ak (G (G (af (G (ak ?_))))))));refine cH h (fun(ac,ad,ax,b1,a6)=>aA [(1,.i64 Y),(4,.adr 0 0 2 0),(6,.adr 1 0 3 0),(7,.sl 4),(10,.adr 5 0 4 0),(13,.adr 6 0 2 0),(14,.sl 9),(15,.mp 10),(16,.i64 f),(18,.u32 X),(19,.adr 11 0 4 0),(23,.sl 12),(24,.i64 I),(25,.adr 13 0 4 0),(132,.i64 Y),(133,.i64 I),(139,.sl 2),(140,.i64 (x.length:Int)),(141,.i64 a6)] (HH A x z v J L M N q u a1 a2 B C D E Z ac ad ax b1) 14) 12 (fun(c9,cc,ch,cl)=>aA [(1,.i64 Y),(4,.adr 0 0 2 0),(6,.adr 1 0 3 0),(7,.sl 4),(10,.adr 5 0 4 0),(13,.adr 6 0 2 0),(14,.sl 9),(15,.mp 10),(16,.i64 f),(18,.u32 X),(19,.adr 11 0 4 0),(23,.sl 12),(24,.i64 I),(25,.adr 13 0 4 0),(132,.i64 Y),(133,.i64 I)] (HH A x z v J L M N q u a1 a2 B C D E Z c9 cc ch cl) 14) (gg [] [0,1,2,3,4,5,6,7,8,9,10,11,12,37]) (fun y o h=>?_) (fun ek h=>?_)
     ·obtain⟨ac,ad,ax,b1,a6⟩:=y;unfold rT at h;refine G (af (aC h (fun el h=>?_) (fun el h=>?_)))
      ·refine ae (ab (af (ak ?_)));obtain⟨ep,er,h⟩:=g2 h;refine GN a0 [(1,1,oc ep),(2,2,oc er)] (af (bn h (fun b2=>aA [(1,.i64 Y),(4,.adr 0 0 2 0),(6,.adr 1 0 3 0),(7,.sl 4),(10,.adr 5 0 4 0),(13,.adr 6 0 2 0),(14,.sl 9),(15,.mp 10),(16,.i64 f),(18,.u32 X),(19,.adr 11 0 4 0),(23,.sl 12),(24,.i64 I),(25,.adr 13 0 4 0),(26,.i64 a6),(132,.i64 Y),(133,.i64 I),(139,.sl 2),(140,.i64 (x.length:Int)),(141,.i64 a6),(155,.bo b2)] (HH A x z v J L M N q u a1 a2 B C D E Z ac ad ax b1) 14) (fun b2 h=>?_) (fun b2 h=>?_)))
       ·obtain⟨fv,cp,h⟩:=aj h;rcases aL h with⟨a3,h⟩ | ⟨a3,h⟩
        ·obtain⟨es,h⟩:=aE h;have O:=(iq cp);exact bu ⟨[(3,true),(9,true)],[(2,(oP O))]⟩ [(2,2,oc O),(4,5,an a3),(6,6,oc (And.intro a3 es)),(7,8,an a3),(9,9,oc a3)] (eN h (gg [] [0,1,2,3,4,5,6,7,8,9,10,11,12,13]))
        have O:=(iq cp);exact bu ⟨[(3,false),(9,false)],[(2,(oP O))]⟩ [(2,2,oc O),(4,9,oc a3)] (eN h (gg [] [0,1,2,3,4,5,6,7,8,9,10,11,12,13]))
       refine ab (bn h (fun(cs,cx,d2,d3)=>aA [(1,.i64 Y),(4,.adr 0 0 2 0),(6,.adr 1 0 3 0),(7,.sl 4),(10,.adr 5 0 4 0),(13,.adr 6 0 2 0),(14,.sl 9),(15,.mp 10),(16,.i64 f),(18,.u32 X),(19,.adr 11 0 4 0),(23,.sl 12),(24,.i64 I),(25,.adr 13 0 4 0),(132,.i64 Y),(133,.i64 I),(139,.sl 2),(140,.i64 (x.length:Int)),(141,.i64 a6)] (HH A x z v J L M N q u a1 a2 B C D E Z cs cx d2 d3) 14) (fun d4 h=>?_) (fun d4 h=>?_))
       ·refine aC h (fun et h=>?_) (fun et h=>?_)
        ·obtain⟨⟨fw,g1,g5,g6⟩,eu,h⟩:=aj h;exact jY 1 [13] (qi eu) (eN h (gg [] [0,1,2,3,4,5,6,7,8,9,10,11,12,13]))
        exact ae (eN h (gg [] [0,1,2,3,4,5,6,7,8,9,10,11,12,13]))
       obtain⟨cs,cx,d2,d3⟩:=d4;refine ay (ab (Ge ?_));exact eB h (gg [] [0,1,2,3,4,5,6,7,8,9,10,11,12,13])
      refine au (aO ?_);exact eX h (gg [] [0,1,2,3,4,5,6,7,8,9,10,11,12,13])
     obtain⟨c9,cc,ch,cl⟩:=ek;refine av (ab (GN a0 [(2,2,oc y3)] (af (G (CQ h (dc (nV Tryz.f88.ntmps (fun(d5,d6,d7)=>aA [(1,.i64 Y),(4,.adr 0 0 2 0),(6,.adr 1 0 3 0),(7,.sl 4),(10,.adr 5 0 4 0),(13,.adr 6 0 2 0),(14,.sl 9),(15,.mp 10),(16,.i64 f),(18,.u32 X),(19,.adr 11 0 4 0),(23,.sl 12),(24,.i64 I),(28,.i64 d7),(132,.i64 Y),(133,.i64 I)] (KP A x z v J L M N q u d5 d6 B C D E Z) 13)) (fQ tb Tryz.f88.results.toList (fun(d8,d9)=>[⟨BJ,d8⟩,⟨(.int .i64),d9⟩]))) (fun dd h=>?_) (fun dd h e σ' hq=>?_))))))
     ·refine aC h (fun ew h=>?_) (fun ew h=>?_)
      ·refine af (G (G (aC h (fun ey h=>?_) (fun ey h=>?_))))
       ·refine G (aw ?_);obtain rfl:=sI h;refine ai (aK ?_);exact bH (RI [BJ,(.int .i64)])
       refine ae (ab (GN a0 [(3,3,oc y3)] (zB 3 h (fun h=>?_))));obtain rfl:=sI h;exact bf (cU (gg [] [0,1,2,3,4,5,6,7,8,190,10,11,12]))
      refine ae ?_;obtain rfl:=sI h;exact bf (cU (gg [] [0,1,2,3,4,5,6,7,8,9,10,11,12]))
     rcases dd with⟨d5,d6,d7⟩ | ⟨d8,d9⟩
     ·obtain⟨rfl,b3⟩:=hq;refine cz ?_ b3;refine ab ?_;obtain⟨f1,f2,h⟩:=g2 h;refine bu a0 [(3,3,oc f1),(4,4,oc f2)] (ay (ab (Ge ?_)));exact eB h (gg [] [0,1,2,3,4,5,6,7,8,9,10,11,12])
     obtain⟨rfl,hr⟩:=hq;obtain rfl:=sI h;refine ai (az (ai (bG (aK ?_))));exact bH hr
    refine au (aO ?_);obtain rfl:=sI h;refine dI (bf ?_);exact bM (gg [] [0,1,2,3,4,5,6,7,8,9,10,12])
   rcases ei with⟨c4,c5,c6⟩ | ⟨c7,c8⟩
   ·obtain⟨rfl,b3⟩:=hq;refine cz ?_ b3;refine av (ab ?_);obtain⟨f3,f4,h⟩:=g2 h;refine mZ a0 [(4,4,oc f3),(9,9,oc f4)] (ay (ab (Ge ?_)));exact eB h (gg [] [0,1,2,3,4,5,6,44,84,9,10])
   obtain⟨rfl,hr⟩:=hq;obtain rfl:=sI h;refine az (ai (az (ai (bG (aK ?_)))));exact bH hr
  refine au (aO ?_);obtain rfl:=sI h;refine dI (bf ?_);exact bM (gg [] [0,6,7,8])
 rcases du with⟨b5,b6⟩ | ⟨b7,b8⟩
 ·obtain⟨rfl,b3⟩:=hq;refine cz ?_ b3;refine av (ab (G (mi [.frzC 0 0,.frzC 0 1] (by kernel_rfl) (aw ?_))));obtain rfl:=sI h;exact RI [BJ,(.int .i64)]
 obtain⟨rfl,hr⟩:=hq;refine az (ai ?_);obtain rfl:=sI h;exact hr
def oe(j:QZ)(f:Int):(Int)→Option ((Int)⊕((Unit)⊕(Bool))):=fun e =>
 (if(decide (e<((j.getD f.toNat []).length:Int)))=true then(if 0≤e∧e<((j.getD f.toNat []).length:Int)then(((if(decide (((j.getD f.toNat []).getD e.toNat 0)<0))=true then some (true)
 else some ((decide (((j.getD f.toNat []).getD e.toNat 0)≥(j.length:Int)))))).bind fun p=>(if p=true then some (Sum.inr (Sum.inr false))
 else some (Sum.inl (i64.wrap (e+1)))))else none)
 else some (Sum.inr (Sum.inl ())))
def oK(f:QZ):(Int)→Option ((Int)⊕((Unit)⊕(Bool))):=fun e =>
 (if(decide (e<(f.length:Int)))=true then(if 0≤e∧e<(f.length:Int)then(if 0≤(0:Int)∧0<(f.length:Int)then(if(((f.getD e.toNat []).length:Int) != ((f.getD ((0:Int).toNat) []).length:Int))=true then some (Sum.inr (Sum.inr false))
 else((iter (oe f e) (0:Int)).bind fun(j:((Unit)⊕(Bool)))=>match j with
 | .inl _=>some (Sum.inl (i64.wrap (e+1)))
 | .inr (p)=>some (Sum.inr (Sum.inr p))))else none)else none)
 else some (Sum.inr (Sum.inl ())))
def lM(e:QZ)(f:QK):Option (Bool) :=
 (((if((e.length:Int) == 0)=true then some (true)
 else some (((e.length:Int) != (f.length:Int))))).bind fun v1=>(if v1=true then some false
 else((iter (oK e) (0:Int)).bind fun(j:((Unit)⊕(Bool)))=>match j with
 | .inl _=>some true
 | .inr (p)=>some p)))
theorem uX(f u:Bool){j:QZ}{x:QK}{C:Bool}(h:lM j x=some C):
  Pure Tryz.prog 131 [.agg [.p f (.slice (.slice (.int .i64))) j,.p u (.slice (.int .u32)) x]] (aM (bk false [⟨.bool,C⟩])):=by
 refine PB Tryz.func131 (fun Bw w0=>?_);unfold lM at h;refine G (af (af (bn h (fun v1=>aA [(1,.adr 0 0 2 0),(19,.bo v1)] (Gq f j u x) 1) (fun v1 h=>?_) (fun v1 h=>?_))))
 ·rcases aL h with⟨E,h⟩ | ⟨E,h⟩
  ·exact bu ⟨[(4,true),(12,true)],[]⟩ [(5,12,oc E)] (eN h (gg [] [0]))
  exact bu ⟨[(4,false),(12,false)],[]⟩ [(5,11,an E),(12,12,oc E)] (eN h (gg [] [0]))
 refine ab (aC h (fun X h=>?_) (fun X h=>?_))
 ·refine G (aw (ai ?_));obtain rfl:=sI h;exact RI [.bool]
 refine ae (ab (af (G (ak (jT h (fun q=>aA [(1,.adr 0 0 2 0),(21,.p f (.slice (.slice (.int .i64))) j),(22,.i64 (j.length:Int)),(23,.i64 q)] (Gq f j u x) 1) (dc (eO Tryz.f131.ntmps 0 (fun _=>aA [] [] 0)) (fQ tb Tryz.f131.results.toList (fun O=>[⟨.bool,O⟩]))) (gg [] [0]) (fun q o h=>?_) (fun Y h e σ' D=>?_))))))
 ·unfold oK at h;refine G (af (aC h (fun I h=>?_) (fun I h=>?_)))
  ·refine ae (ab (af (ak (GC 0 h (fun h=>af (GC 4 h (fun h=>aC h (fun J h=>?_) (fun J h=>?_))))))))
   ·refine G (aw ?_);obtain rfl:=sI h;refine ai (az (ai (bG (aK ?_))));exact bH (RI [.bool])
   refine ae (ab (G (ak (jT h (fun z=>aA [(1,.adr 0 0 2 0),(21,.p f (.slice (.slice (.int .i64))) j),(22,.i64 (j.length:Int)),(23,.i64 q),(35,.p f (.slice (.int .i64)) (j.getD q.toNat [])),(36,.i64 ((j.getD q.toNat []).length:Int)),(37,.i64 z)] (Gq f j u x) 1) (dc (eO Tryz.f131.ntmps 2 (fun _=>aA [(1,.adr 0 0 2 0),(21,.p f (.slice (.slice (.int .i64))) j),(22,.i64 (j.length:Int)),(23,.i64 q)] (Gq f j u x) 1)) (fQ tb Tryz.f131.results.toList (fun V=>[⟨.bool,V⟩]))) (gg [] [0]) (fun z o h=>?_) (fun Z h e σ' D=>?_)))))
   ·unfold oe at h;refine G (af (aC h (fun L h=>?_) (fun L h=>?_)))
    ·refine ae (ab (af (ak (GC 0 h (fun h=>af (bn h (fun A=>aA [(1,.adr 0 0 2 0),(21,.p f (.slice (.slice (.int .i64))) j),(22,.i64 (j.length:Int)),(23,.i64 q),(35,.p f (.slice (.int .i64)) (j.getD q.toNat [])),(36,.i64 ((j.getD q.toNat []).length:Int)),(37,.i64 z),(49,.bo A)] (Gq f j u x) 1) (fun A h=>?_) (fun A h=>?_)))))))
     ·rcases aL h with⟨v,h⟩ | ⟨v,h⟩
      ·exact bu ⟨[(2,true),(8,true)],[]⟩ [(3,8,oc v)] (eN h (gg [] [0]))
      exact bu ⟨[(2,false),(8,false)],[]⟩ [(3,7,an v),(8,8,oc v)] (eN h (gg [] [0]))
     refine ab (aC h (fun M h=>?_) (fun M h=>?_))
     ·refine G (aw ?_);obtain rfl:=sI h;refine az (ai (bG (aK ?_)));exact bH (RI [.bool])
     refine ae (ay (ab (Ge ?_)));exact eB h (gg [] [0])
    refine au (aO ?_);obtain rfl:=sI h;refine dI (bf ?_);exact bM (gg [] [0])
   rcases Z with _ | V
   ·obtain⟨rfl,B⟩:=D;refine cz ?_ B;refine av (ay (ab (Ge ?_)));exact eB h (gg [] [0])
   obtain⟨rfl,N⟩:=D;obtain rfl:=sI h;refine az (az (ai (bG (aK ?_))));exact bH N
  refine au (aO ?_);obtain rfl:=sI h;refine dI (bf ?_);exact bM (gg [] [])
 rcases Y with _ | O
 ·obtain⟨rfl,B⟩:=D;refine cz ?_ B;refine av (ab (G (aw ?_)));obtain rfl:=sI h;exact RI [.bool]
 obtain⟨rfl,N⟩:=D;refine az (ai ?_);obtain rfl:=sI h;exact N
def il(j:Int)(q:QZ)(p e:QK):Option QK :=
 (if 0≤j∧j<(p.length:Int)then(if(e.length+([(i64.wrap (p.getD j.toNat 0))]:QK).length)*8≤140737488355328∧e.length+([(i64.wrap (p.getD j.toNat 0))]:QK).length≤9223372036854775807 then some (e++([(i64.wrap (p.getD j.toNat 0))]:QK))else none)else none)
theorem qs(j q:Bool){u:Int}{x:QZ}{v e f:QK}(h:il u x v e=some f):
  hY Tryz.prog 133 [.i64 u,.sl 0,.fad true [.p j (.slice (.slice (.int .i64))) x,.p q (.slice (.int .u32)) v] 0] [(0,.arr 3 (.int .i64) e)] (.sl 1) [(1,.arr 3 (.int .i64) f)]:=by
 refine OB Tryz.func133 (fun Bw w0=>?_);unfold il at h;refine G ?_;obtain⟨z,A,h⟩:=g2 h;refine GN a0 [(4,4,oc z),(8,8,oc A)] (aw ?_);obtain rfl:=sI h;exact RO [none] [] [0,73] [(5,.sl 1)] [(1,.arr 3 (.int .i64) (e++([(i64.wrap (v.getD u.toNat 0))]:QK)))] 2 1
def iU(f:QK):tW→Option (tW⊕QK):=fun(j,e) =>
 (if(decide (e<(f.length:Int)))=true then(if 0≤e∧e<(f.length:Int)then(if e.toNat<f.length then(if 0≤(8:Int)then(if 0≤(16:Int)then(if 0≤(24:Int)then(if(j.length+([(u8.wrap (f.getD e.toNat 0)),(u8.wrap (Int.fdiv (f.getD e.toNat 0) (2 ^ (min (8:Int).toNat i64.bits)))),(u8.wrap (Int.fdiv (f.getD e.toNat 0) (2 ^ (min (16:Int).toNat i64.bits)))),(u8.wrap (Int.fdiv (f.getD e.toNat 0) (2 ^ (min (24:Int).toNat i64.bits))))]:QK).length)*1≤140737488355328∧j.length+([(u8.wrap (f.getD e.toNat 0)),(u8.wrap (Int.fdiv (f.getD e.toNat 0) (2 ^ (min (8:Int).toNat i64.bits)))),(u8.wrap (Int.fdiv (f.getD e.toNat 0) (2 ^ (min (16:Int).toNat i64.bits)))),(u8.wrap (Int.fdiv (f.getD e.toNat 0) (2 ^ (min (24:Int).toNat i64.bits))))]:QK).length≤9223372036854775807 then some (Sum.inl ((j++([(u8.wrap (f.getD e.toNat 0)),(u8.wrap (Int.fdiv (f.getD e.toNat 0) (2 ^ (min (8:Int).toNat i64.bits)))),(u8.wrap (Int.fdiv (f.getD e.toNat 0) (2 ^ (min (16:Int).toNat i64.bits)))),(u8.wrap (Int.fdiv (f.getD e.toNat 0) (2 ^ (min (24:Int).toNat i64.bits))))]:QK)),(i64.wrap (e+1))))else none)else none)else none)else none)else none)else none)
 else some (Sum.inr j))
def og(v:Int)(x:QZ)(z:QK):(XQ×QK×QK×Int)→Option ((XQ×QK×QK×Int)⊕QK):=fun(f,v20,p,e) =>
 (if(decide (e<v))=true then(if 0≤(0:Int)∧0≤(p.length:Int)then((il e x z (p.take (0:Int).toNat)).bind fun u =>
 ((iter (iU u) (([]:QK),0)).bind fun j=>(((if(!((bg .str f (bytesOf j)).isSome))=true then some (((cO .str f (bytesOf j) (f.length:Int)),(f.length:Int)))
 else some ((f,((bg .str f (bytesOf j)).getD 0))))).bind fun(q,v30)=>(if 0≤e∧e<(v20.length:Int)then(if e.toNat<v20.length then some (Sum.inl (q,(v20.set e.toNat v30),u,(i64.wrap (e+1))))else none)else none))))else none)
 else some (Sum.inr v20))
def lP(e:Int)(p:QZ)(q:QK):Option QK :=
 (if 0≤e∧e≤e∧8*e≤281474976710656∧e≤9223372036854775807 then((iter (og e p q) (([]:XQ),(List.replicate e.toNat (0:Int)),([]:QK),0)).bind fun j=>some j)else none)
theorem vv(f j:Bool){u:Int}{v:QZ}{x z:QK}(h:lP u v x=some z):
  Pure Tryz.prog 132 [.i64 u,.fn 133 [.fad true [.p f (.slice (.slice (.int .i64))) v,.p j (.slice (.int .u32)) x] 0]] (aM (bk false [⟨(.slice (.int .i64)),z⟩])):=by
 refine PB Tryz.func132 (fun Bw w0=>?_);unfold lP at h;refine G (G (GC 1 h (fun h=>G (af (G (ak (cH h (fun(q,v20,A,e)=>aA [(1,.fn 133 [.fad true [.p f (.slice (.slice (.int .i64))) v,.p j (.slice (.int .u32)) x] 0]),(5,.mp 0),(6,.sl 1),(7,.sl 2),(17,.i64 u),(18,.i64 e)] (Hv q v20 A) 3) 0 (fun B=>aA [(6,.sl 0)] [(0,.arr 3 (.int .i64) B)] 1) (gg [.nilS 7 72 3 (.int .i64)] [8,32,72]) (fun y o h=>?_) (fun B h=>?_))))))))
 ·obtain⟨q,v20,A,e⟩:=y;unfold og at h;refine G (af (aC h (fun a1 h=>?_) (fun a1 h=>?_)))
  ·refine ae (ab (af (ak (G ?_))));obtain⟨a2,h⟩:=aE h;obtain⟨r8,q6,h⟩:=aj h;have C:=(qs f j q6);refine GN ⟨[],[(4,(oO C [51]))]⟩ [(3,3,oc a2),(4,4,oc C)] (G (af (G (ak (cH h (fun(D,E)=>aA [(1,.fn 133 [.fad true [.p f (.slice (.slice (.int .i64))) v,.p j (.slice (.int .u32)) x] 0]),(5,.mp 0),(6,.sl 1),(7,.sl 2),(8,.i64 e),(9,.sl 3),(17,.i64 u),(18,.i64 e),(26,.sl 2),(27,.i64 (r8.length:Int)),(28,.i64 E)] (HU q v20 r8 D) 4) 2 (fun I=>aA [(1,.fn 133 [.fad true [.p f (.slice (.slice (.int .i64))) v,.p j (.slice (.int .u32)) x] 0]),(5,.mp 0),(6,.sl 1),(7,.sl 2),(8,.i64 e),(9,.sl 3),(17,.i64 u),(18,.i64 e)] (HU q v20 r8 I) 4) (gg [.nilS 9 107 5 (.int .u8)] [0,1,59,107]) (fun y o h=>?_) (fun I h=>?_))))))
   ·obtain⟨D,E⟩:=y;unfold iU at h;refine G (af (aC h (fun a3 h=>?_) (fun a3 h=>?_)))
    ·refine ae (ab (af (ak ?_)));obtain⟨J,L,h⟩:=g2 h;refine GN a0 [(0,0,oc J),(1,1,oc L)] ?_;obtain⟨M,N,O,V,h⟩:=g4 h;refine bu a0 [(4,4,oc M),(7,7,oc N),(10,10,oc O),(13,13,oc V)] (ay (ab (Ge ?_)));exact eB h (gg [] [0,1,2,140])
    refine au (aO ?_);exact eX h (gg [] [0,1,2,3])
   refine av (ab (G (af (G (bn h (fun(X,v30)=>aA [(1,.fn 133 [.fad true [.p f (.slice (.slice (.int .i64))) v,.p j (.slice (.int .u32)) x] 0]),(5,.mp 0),(6,.sl 1),(7,.sl 2),(8,.i64 e),(12,.i64 v30),(17,.i64 u),(18,.i64 e)] (Hv X v20 r8) 3) (fun r9 h=>?_) (fun r9 h=>?_))))))
   ·refine aC h (fun a4 h=>?_) (fun a4 h=>?_)
    ·refine G (Ge ?_);exact eN h (gg [] [0,1,2])
    exact ae (eN h (gg [] [0,1,2]))
   obtain⟨X,v30⟩:=r9;refine ab ?_;obtain⟨Y,Z,h⟩:=g2 h;refine bu a0 [(3,3,oc Y),(4,4,oc Z)] (ay (ab (Ge ?_)));exact eB h (gg [] [0,1,2])
  refine au (aO ?_);exact eX h (gg [] [1])
 refine av (ab (G (aw ?_)));obtain rfl:=sI h;exact RI [(.slice (.int .i64))]
def fO(j:Int)(q:QK)(p:QZ):tW→Option (tW⊕QK):=fun(e,v4) =>
 (if(decide (v4<((p.getD j.toNat []).length:Int)))=true then(if 0≤v4∧v4<((p.getD j.toNat []).length:Int)then(if 0≤((p.getD j.toNat []).getD v4.toNat 0)∧((p.getD j.toNat []).getD v4.toNat 0)<(q.length:Int)then(if(e.length+([(q.getD (((p.getD j.toNat []).getD v4.toNat 0).toNat) 0)]:QK).length)*8≤140737488355328∧e.length+([(q.getD (((p.getD j.toNat []).getD v4.toNat 0).toNat) 0)]:QK).length≤9223372036854775807 then some (Sum.inl ((e++([(q.getD (((p.getD j.toNat []).getD v4.toNat 0).toNat) 0)]:QK)),(i64.wrap (v4+1))))else none)else none)else none)
 else some (Sum.inr e))
def iu(j:Int)(p:QK)(u:QZ)(v e:QK):Option QK :=
 (if 0≤j∧j<(p.length:Int)then(if(e.length+([(p.getD j.toNat 0)]:QK).length)*8≤140737488355328∧e.length+([(p.getD j.toNat 0)]:QK).length≤9223372036854775807 then(if 0≤j∧j<(u.length:Int)then((iter (fO j p u) ((e++([(p.getD j.toNat 0)]:QK)),0)).bind fun q=>some q)else none)else none)else none)
theorem qt(q u A:Bool){x:Int}{B:QK}{z:QZ}{J f v:QK}(h:iu x B z J f=some v):
  hY Tryz.prog 134 [.i64 x,.sl 0,.fad true [.p q (.slice (.int .i64)) B] 0,.fad true [.p u (.slice (.slice (.int .i64))) z,.p A (.slice (.int .u32)) J] 0] [(0,.arr 3 (.int .i64) f)] (.sl 1) [(1,.arr 3 (.int .i64) v)]:=by
 refine OB Tryz.func134 (fun Bw w0=>?_);unfold iu at h;refine G ?_;obtain⟨C,D,h⟩:=g2 h;refine GN a0 [(3,3,oc C),(6,6,oc D)] (af (GC 3 h (fun h=>ak (cH h (fun(j,v4)=>aA [(1,.sl 1),(2,.fad true [.p q (.slice (.int .i64)) B] 0),(20,.p u (.slice (.int .i64)) (z.getD x.toNat [])),(21,.i64 ((z.getD x.toNat []).length:Int)),(22,.i64 v4)] [(1,.arr 3 (.int .i64) j)] 2 1) 0 (fun e=>aA [(1,.sl 1)] [(1,.arr 3 (.int .i64) e)] 2 1) (gg [] [0,57]) (fun y o h=>?_) (fun e h=>?_)))))
 ·obtain⟨j,v4⟩:=y;unfold fO at h;refine G (af (aC h (fun L h=>?_) (fun L h=>?_)))
  ·refine ae (ab (af (ak (GC 0 h (fun h=>?_)))));obtain⟨E,I,h⟩:=g2 h;refine bu a0 [(3,3,oc E),(6,6,oc I)] (ay (ab (Ge ?_)));exact eB h (gg [] [0,82])
  refine au (aO ?_);exact eX h (gg [] [0,1])
 refine av (ab (G (aw ?_)));obtain rfl:=sI h;exact RO [none] [] [0,1] [(6,.sl 1)] [(1,.arr 3 (.int .i64) e)] 2 1
def lK(f:QK):tW→Option (tW⊕QK):=fun(j,e) =>
 (if(decide (e<(f.length:Int)))=true then(if 0≤e∧e<(f.length:Int)then(if e.toNat<f.length then(if 0≤(8:Int)then(if 0≤(16:Int)then(if 0≤(24:Int)then(if(j.length+([(u8.wrap (f.getD e.toNat 0)),(u8.wrap (Int.fdiv (f.getD e.toNat 0) (2 ^ (min (8:Int).toNat i64.bits)))),(u8.wrap (Int.fdiv (f.getD e.toNat 0) (2 ^ (min (16:Int).toNat i64.bits)))),(u8.wrap (Int.fdiv (f.getD e.toNat 0) (2 ^ (min (24:Int).toNat i64.bits))))]:QK).length)*1≤140737488355328∧j.length+([(u8.wrap (f.getD e.toNat 0)),(u8.wrap (Int.fdiv (f.getD e.toNat 0) (2 ^ (min (8:Int).toNat i64.bits)))),(u8.wrap (Int.fdiv (f.getD e.toNat 0) (2 ^ (min (16:Int).toNat i64.bits)))),(u8.wrap (Int.fdiv (f.getD e.toNat 0) (2 ^ (min (24:Int).toNat i64.bits))))]:QK).length≤9223372036854775807 then some (Sum.inl ((j++([(u8.wrap (f.getD e.toNat 0)),(u8.wrap (Int.fdiv (f.getD e.toNat 0) (2 ^ (min (8:Int).toNat i64.bits)))),(u8.wrap (Int.fdiv (f.getD e.toNat 0) (2 ^ (min (16:Int).toNat i64.bits)))),(u8.wrap (Int.fdiv (f.getD e.toNat 0) (2 ^ (min (24:Int).toNat i64.bits))))]:QK)),(i64.wrap (e+1))))else none)else none)else none)else none)else none)else none)
 else some (Sum.inr j))
def lQ(v:Int)(x:QK)(z:QZ)(A:QK):(XQ×QK×QK×Int)→Option ((XQ×QK×QK×Int)⊕QK):=fun(f,v20,p,e) =>
 (if(decide (e<v))=true then(if 0≤(0:Int)∧0≤(p.length:Int)then((iu e x z A (p.take (0:Int).toNat)).bind fun u =>
 ((iter (lK u) (([]:QK),0)).bind fun j=>(((if(!((bg .str f (bytesOf j)).isSome))=true then some (((cO .str f (bytesOf j) (f.length:Int)),(f.length:Int)))
 else some ((f,((bg .str f (bytesOf j)).getD 0))))).bind fun(q,v30)=>(if 0≤e∧e<(v20.length:Int)then(if e.toNat<v20.length then some (Sum.inl (q,(v20.set e.toNat v30),u,(i64.wrap (e+1))))else none)else none))))else none)
 else some (Sum.inr v20))
def iZ(e:Int)(p:QK)(q:QZ)(u:QK):Option QK :=
 (if 0≤e∧e≤e∧8*e≤281474976710656∧e≤9223372036854775807 then((iter (lQ e p q u) (([]:XQ),(List.replicate e.toNat (0:Int)),([]:QK),0)).bind fun j=>some j)else none)
theorem qG(f j q:Bool){v:Int}{x:QK}{z:QZ}{A B:QK}(h:iZ v x z A=some B):
  Pure Tryz.prog 132 [.i64 v,.fn 134 [.fad true [.p f (.slice (.int .i64)) x] 0,.fad true [.p j (.slice (.slice (.int .i64))) z,.p q (.slice (.int .u32)) A] 0]] (aM (bk false [⟨(.slice (.int .i64)),B⟩])):=by
 refine PB Tryz.func132 (fun Bw w0=>?_);unfold iZ at h;refine G (G (GC 1 h (fun h=>G (af (G (ak (cH h (fun(u,v20,C,e)=>aA [(1,.fn 134 [.fad true [.p f (.slice (.int .i64)) x] 0,.fad true [.p j (.slice (.slice (.int .i64))) z,.p q (.slice (.int .u32)) A] 0]),(5,.mp 0),(6,.sl 1),(7,.sl 2),(17,.i64 v),(18,.i64 e)] (Hv u v20 C) 3) 0 (fun D=>aA [(6,.sl 0)] [(0,.arr 3 (.int .i64) D)] 1) (gg [.nilS 7 72 3 (.int .i64)] [8,32,72]) (fun y o h=>?_) (fun D h=>?_))))))))
 ·obtain⟨u,v20,C,e⟩:=y;unfold lQ at h;refine G (af (aC h (fun a3 h=>?_) (fun a3 h=>?_)))
  ·refine ae (ab (af (ak (G ?_))));obtain⟨a4,h⟩:=aE h;obtain⟨r8,q6,h⟩:=aj h;have E:=(qt f j q q6);refine GN ⟨[],[(4,(oO E [51]))]⟩ [(3,3,oc a4),(4,4,oc E)] (G (af (G (ak (cH h (fun(I,J)=>aA [(1,.fn 134 [.fad true [.p f (.slice (.int .i64)) x] 0,.fad true [.p j (.slice (.slice (.int .i64))) z,.p q (.slice (.int .u32)) A] 0]),(5,.mp 0),(6,.sl 1),(7,.sl 2),(8,.i64 e),(9,.sl 3),(17,.i64 v),(18,.i64 e),(26,.sl 2),(27,.i64 (r8.length:Int)),(28,.i64 J)] (HU u v20 r8 I) 4) 2 (fun L=>aA [(1,.fn 134 [.fad true [.p f (.slice (.int .i64)) x] 0,.fad true [.p j (.slice (.slice (.int .i64))) z,.p q (.slice (.int .u32)) A] 0]),(5,.mp 0),(6,.sl 1),(7,.sl 2),(8,.i64 e),(9,.sl 3),(17,.i64 v),(18,.i64 e)] (HU u v20 r8 L) 4) (gg [.nilS 9 107 5 (.int .u8)] [0,1,59,107]) (fun y o h=>?_) (fun L h=>?_))))))
   ·obtain⟨I,J⟩:=y;unfold lK at h;refine G (af (aC h (fun a5 h=>?_) (fun a5 h=>?_)))
    ·refine ae (ab (af (ak ?_)));obtain⟨M,N,h⟩:=g2 h;refine GN a0 [(0,0,oc M),(1,1,oc N)] ?_;obtain⟨O,V,X,Y,h⟩:=g4 h;refine bu a0 [(4,4,oc O),(7,7,oc V),(10,10,oc X),(13,13,oc Y)] (ay (ab (Ge ?_)));exact eB h (gg [] [0,1,2,140])
    refine au (aO ?_);exact eX h (gg [] [0,1,2,3])
   refine av (ab (G (af (G (bn h (fun(Z,v30)=>aA [(1,.fn 134 [.fad true [.p f (.slice (.int .i64)) x] 0,.fad true [.p j (.slice (.slice (.int .i64))) z,.p q (.slice (.int .u32)) A] 0]),(5,.mp 0),(6,.sl 1),(7,.sl 2),(8,.i64 e),(12,.i64 v30),(17,.i64 v),(18,.i64 e)] (Hv Z v20 r8) 3) (fun r9 h=>?_) (fun r9 h=>?_))))))
   ·refine aC h (fun a6 h=>?_) (fun a6 h=>?_)
    ·refine G (Ge ?_);exact eN h (gg [] [0,1,2])
    exact ae (eN h (gg [] [0,1,2]))
   obtain⟨Z,v30⟩:=r9;refine ab ?_;obtain⟨a1,a2,h⟩:=g2 h;refine bu a0 [(3,3,oc a1),(4,4,oc a2)] (ay (ab (Ge ?_)));exact eB h (gg [] [0,1,2])
  refine au (aO ?_);exact eX h (gg [] [1])
 refine av (ab (G (aw ?_)));obtain rfl:=sI h;exact RI [(.slice (.int .i64))]
def pP(f:QK):(Int×Int)→Option ((Int×Int)⊕(Int)):=fun(j,e) =>
 (if(decide (e<(f.length:Int)))=true then(if 0≤e∧e<(f.length:Int)then some (Sum.inl ((max j (f.getD e.toNat 0)),(i64.wrap (e+1))))else none)
 else some (Sum.inr j))
def ju(e:QK):Option (Int) :=
 ((iter (pP e) (0,0)).bind fun f=>some f)
theorem mj(e:Bool){j:QK}{f:Int}(h:ju j=some f):
  Pure Tryz.prog 135 [.p e (.slice (.int .i64)) j] (aM (bk false [⟨(.int .i64),f⟩])):=by
 refine PB Tryz.func135 (fun Bw w0=>?_);unfold ju at h;refine G (G (af (G (ak (cH h (fun(q,u)=>aA [(3,.i64 q),(6,.p e (.slice (.int .i64)) j),(7,.i64 (j.length:Int)),(8,.i64 u)] [] 0) 0 (fun v=>aA [(3,.i64 v)] [] 0) (gg [] []) (fun y o h=>?_) (fun v h=>?_))))))
 ·obtain⟨q,u⟩:=y;unfold pP at h;refine G (af (aC h (fun x h=>?_) (fun x h=>?_)))
  ·refine ae (ab (af (ak (GC 0 h (fun h=>Ge (ay (ab (Ge ?_))))))));exact eB h (gg [] [])
  refine au (aO ?_);exact eX h (gg [] [])
 refine av (ab (G (aw ?_)));obtain rfl:=sI h;exact RI [(.int .i64)]
def j3(f:Int):tW→Option (tW⊕QK):=fun(e,v4) =>
 (if(decide (v4<((List.replicate (i64.wrap (f+1)).toNat (0:Int)).length:Int)))=true then(if 0≤v4∧v4<(e.length:Int)then(if v4.toNat<e.length then some (Sum.inl ((e.set v4.toNat (-1:Int)),(i64.wrap (v4+1))))else none)else none)
 else some (Sum.inr e))
def kd(p:QZ)(q f:QK)(j:Int):(QK×QK×QK×Int)→Option ((QK×QK×QK×Int)⊕(QK×QK×QK)):=fun(u,v,z,e) =>
 (if(decide (e<((p.getD ((f.getD j.toNat 0).toNat) []).length:Int)))=true then(if 0≤e∧e<((p.getD ((f.getD j.toNat 0).toNat) []).length:Int)then(if 0≤((p.getD ((f.getD j.toNat 0).toNat) []).getD e.toNat 0)∧((p.getD ((f.getD j.toNat 0).toNat) []).getD e.toNat 0)<(q.length:Int)then(if 0≤(q.getD (((p.getD ((f.getD j.toNat 0).toNat) []).getD e.toNat 0).toNat) 0)∧(q.getD (((p.getD ((f.getD j.toNat 0).toNat) []).getD e.toNat 0).toNat) 0)<(u.length:Int)then(if(q.getD (((p.getD ((f.getD j.toNat 0).toNat) []).getD e.toNat 0).toNat) 0).toNat<u.length then(((if(decide ((u.getD ((q.getD (((p.getD ((f.getD j.toNat 0).toNat) []).getD e.toNat 0).toNat) 0).toNat) 0)<0))=true then(if 0≤((p.getD ((f.getD j.toNat 0).toNat) []).getD e.toNat 0)∧((p.getD ((f.getD j.toNat 0).toNat) []).getD e.toNat 0)<(q.length:Int)then(if 0≤(q.getD (((p.getD ((f.getD j.toNat 0).toNat) []).getD e.toNat 0).toNat) 0)∧(q.getD (((p.getD ((f.getD j.toNat 0).toNat) []).getD e.toNat 0).toNat) 0)<(u.length:Int)then(if(q.getD (((p.getD ((f.getD j.toNat 0).toNat) []).getD e.toNat 0).toNat) 0).toNat<u.length then(if(v.length+([((p.getD ((f.getD j.toNat 0).toNat) []).getD e.toNat 0)]:QK).length)*8≤140737488355328∧v.length+([((p.getD ((f.getD j.toNat 0).toNat) []).getD e.toNat 0)]:QK).length≤9223372036854775807 then some (((u.set ((q.getD (((p.getD ((f.getD j.toNat 0).toNat) []).getD e.toNat 0).toNat) 0).toNat) (v.length:Int)),(v++([((p.getD ((f.getD j.toNat 0).toNat) []).getD e.toNat 0)]:QK))))else none)else none)else none)else none)
 else some ((u,v)))).bind fun(x,A)=>(if 0≤((p.getD ((f.getD j.toNat 0).toNat) []).getD e.toNat 0)∧((p.getD ((f.getD j.toNat 0).toNat) []).getD e.toNat 0)<(q.length:Int)then(if 0≤(q.getD (((p.getD ((f.getD j.toNat 0).toNat) []).getD e.toNat 0).toNat) 0)∧(q.getD (((p.getD ((f.getD j.toNat 0).toNat) []).getD e.toNat 0).toNat) 0)<(x.length:Int)then(if(q.getD (((p.getD ((f.getD j.toNat 0).toNat) []).getD e.toNat 0).toNat) 0).toNat<x.length then(if(z.length+([(x.getD ((q.getD (((p.getD ((f.getD j.toNat 0).toNat) []).getD e.toNat 0).toNat) 0).toNat) 0)]:QK).length)*8≤140737488355328∧z.length+([(x.getD ((q.getD (((p.getD ((f.getD j.toNat 0).toNat) []).getD e.toNat 0).toNat) 0).toNat) 0)]:QK).length≤9223372036854775807 then some (Sum.inl (x,A,(z++([(x.getD ((q.getD (((p.getD ((f.getD j.toNat 0).toNat) []).getD e.toNat 0).toNat) 0).toNat) 0)]:QK)),(i64.wrap (e+1))))else none)else none)else none)else none))else none)else none)else none)else none)
 else some (Sum.inr (u,v,z)))
def j9(A:QZ)(v B:QK):(QZ×QK×QK×QK×Int)→Option ((QZ×QK×QK×QK×Int)⊕DI):=fun(p,q,x,j,e) =>
 (if(decide (e<(j.length:Int)))=true then(if 0≤e∧e<(j.length:Int)then(if e.toNat<j.length then(if 0≤(j.getD e.toNat 0)∧(j.getD e.toNat 0)<(A.length:Int)then((iter (kd A B j e) (x,j,([]:QK),0)).bind fun(z,f,u)=>(if(p.length+([u]:QZ).length)*24≤140737488355328∧p.length+([u]:QZ).length≤9223372036854775807 then(if 0≤e∧e<(f.length:Int)then(if e.toNat<f.length then(if 0≤(f.getD e.toNat 0)∧(f.getD e.toNat 0)<(v.length:Int)then(if(q.length+([(v.getD ((f.getD e.toNat 0).toNat) 0)]:QK).length)*4≤140737488355328∧q.length+([(v.getD ((f.getD e.toNat 0).toNat) 0)]:QK).length≤9223372036854775807 then some (Sum.inl ((p++([u]:QZ)),(q++([(v.getD ((f.getD e.toNat 0).toNat) 0)]:QK)),z,f,(i64.wrap (e+1))))else none)else none)else none)else none)else none))else none)else none)else none)
 else some (Sum.inr (p,q)))
def ky(u:QZ)(v e:QK):Option DI :=
 ((ju e).bind fun f =>
 (if 0≤(i64.wrap (f+1))∧(i64.wrap (f+1))≤(i64.wrap (f+1))∧8*(i64.wrap (f+1))≤281474976710656∧(i64.wrap (f+1))≤9223372036854775807 then((iter (j3 f) ((List.replicate (i64.wrap (f+1)).toNat (0:Int)),0)).bind fun j=>(if 0≤(0:Int)∧0<(e.length:Int)then(if 0≤(e.getD ((0:Int).toNat) 0)∧(e.getD ((0:Int).toNat) 0)<(j.length:Int)then(if(e.getD ((0:Int).toNat) 0).toNat<j.length then((iter (j9 u v e) (([]:QZ),([]:QK),(j.set ((e.getD ((0:Int).toNat) 0).toNat) 0),([0]:QK),0)).bind fun(p,q)=>some (p,q))else none)else none)else none))else none))
theorem um(f q j:Bool){v:QZ}{B C:QK}{E:QZ×QK}(h:ky v B C=some E):
  Pure Tryz.prog 136 [.agg [.p f (.slice (.slice (.int .i64))) v,.p q (.slice (.int .u32)) B],.p j (.slice (.int .i64)) C] (aM (bk false [⟨BJ,E⟩])):=by
 refine PB Tryz.func136 (fun Bw w0=>?_);unfold ky at h;refine G (G ?_);obtain⟨r2,q2,h⟩:=aj h;obtain⟨c2,h⟩:=aE h;have I:=(mj j q2);refine GN ⟨[],[(1,(oP I))]⟩ [(1,1,oc I),(3,3,oc c2)] (af (G (ak (cH h (fun(v3,v4)=>aA [(1,.p j (.slice (.int .i64)) C),(2,.adr 0 0 2 0),(4,.adr 1 0 2 0),(5,.adr 2 0 2 0),(6,.sl 3),(18,.i64 ((List.replicate (i64.wrap (r2+1)).toNat (0:Int)).length:Int)),(19,.i64 v4)] (Kv f v q B v3) 4) 0 (fun v5=>aA [(1,.p j (.slice (.int .i64)) C),(2,.adr 0 0 2 0),(4,.adr 1 0 2 0),(5,.adr 2 0 2 0),(6,.sl 3)] (Kv f v q B v5) 4) (gg [] [0,8,16,48]) (fun y o h=>?_) (fun v5 h=>?_)))))
 ·obtain⟨v3,v4⟩:=y;unfold j3 at h;refine G (af (aC h (fun B3 h=>?_) (fun B3 h=>?_)))
  ·refine ae (ab (af (ak (G ?_))));obtain⟨b8,b9,h⟩:=g2 h;refine bu a0 [(2,2,oc b8),(3,3,oc b9)] (ay (ab (Ge ?_)));exact eB h (gg [] [0,1,2,3])
  refine au (aO ?_);exact eX h (gg [] [0,1,2,3])
 refine av (ab (G ?_));obtain⟨be,bi,bs,h⟩:=g3 h;refine GN a0 [(2,2,oc be),(4,4,oc bi),(5,5,oc bs)] (af (G (ak (cH h (fun(x,z,J,u,e)=>aA [(1,.p j (.slice (.int .i64)) C),(2,.adr 0 0 2 0),(4,.adr 1 0 2 0),(5,.adr 2 0 2 0),(6,.sl 5),(8,.sl 6),(9,.i64 e)] (Lz f v q B x z J u) 7) 2 (fun(L,M)=>aA [(4,.adr 0 0 2 0),(5,.adr 1 0 2 0)] (K8 L M) 4) (gg [.nilC 2 0 76 41 (.slice (.int .i64)),.nilC 2 1 77 40 (.int .u32)] [0,1,2,76,77,3,4]) (fun y o h=>?_) (fun bv h=>?_)))))
 ·obtain⟨x,z,J,u,e⟩:=y;unfold j9 at h;refine af (G (aC h (fun bx h=>?_) (fun bx h=>?_)))
  ·refine ae (ab (af (ak (G (af ?_)))));obtain⟨N,O,V,h⟩:=g3 h;refine GD a0 [(4,4,oc N),(5,5,oc O),(6,6,oc V)] (ak (cH h (fun(X,Y,D,A)=>aA [(1,.p j (.slice (.int .i64)) C),(2,.adr 0 0 2 0),(4,.adr 1 0 2 0),(5,.adr 2 0 2 0),(6,.sl 5),(8,.sl 6),(9,.i64 e),(10,.sl 7),(45,.p f (.slice (.int .i64)) (v.getD ((u.getD e.toNat 0).toNat) [])),(46,.i64 ((v.getD ((u.getD e.toNat 0).toNat) []).length:Int)),(47,.i64 A)] (I9 f v q B x z X Y D) 8) 4 (fun(Z,a1,a2)=>aA [(1,.p j (.slice (.int .i64)) C),(2,.adr 0 0 2 0),(4,.adr 1 0 2 0),(5,.adr 2 0 2 0),(6,.sl 5),(8,.sl 6),(9,.i64 e),(10,.sl 7)] (I9 f v q B x z Z a1 a2) 8) (gg [.nilS 10 127 3 (.int .i64)] [0,1,2,3,4,5,6,127]) (fun y o h=>?_) (fun c1 h=>?_)))
   ·obtain⟨X,Y,D,A⟩:=y;unfold kd at h;refine G (af (aC h (fun c3 h=>?_) (fun c3 h=>?_)))
    ·refine ae (ab (af (ak (GC 0 h (fun h=>af ?_)))));obtain⟨a3,a4,a5,h⟩:=g3 h;refine GN a0 [(3,3,oc a3),(5,5,oc a4),(6,6,oc a5)] (bn h (fun(a6,a7)=>aA [(1,.p j (.slice (.int .i64)) C),(2,.adr 0 0 2 0),(4,.adr 1 0 2 0),(5,.adr 2 0 2 0),(6,.sl 5),(8,.sl 6),(9,.i64 e),(10,.sl 7),(12,.i64 ((v.getD ((u.getD e.toNat 0).toNat) []).getD A.toNat 0)),(45,.p f (.slice (.int .i64)) (v.getD ((u.getD e.toNat 0).toNat) [])),(46,.i64 ((v.getD ((u.getD e.toNat 0).toNat) []).length:Int)),(47,.i64 A)] (I9 f v q B x z a6 a7 D) 8) (fun a8 h=>?_) (fun a8 h=>?_))
     ·refine aC h (fun c4 h=>?_) (fun c4 h=>?_)
      ·obtain⟨a9,aa,ac,h⟩:=g3 h;refine GN a0 [(3,3,oc a9),(7,7,oc aa),(8,8,oc ac)] (zB 3 h (fun h=>?_));exact eN h (gg [] [0,1,2,3,4,5,200,7])
      exact ae (eN h (gg [] [0,1,2,3,4,5,6,7]))
     obtain⟨a6,a7⟩:=a8;refine ab ?_;obtain⟨ad,ax,b1,b2,h⟩:=g4 h;refine bu a0 [(4,4,oc ad),(6,6,oc ax),(7,7,oc b1),(9,9,oc b2)] (ay (ab (Ge ?_)));exact eB h (gg [] [0,1,2,3,4,5,6,80])
    refine au (aO ?_);exact eX h (gg [] [0,1,2,3,4,5,6,7])
   obtain⟨Z,a1,a2⟩:=c1;refine av (ab ?_);obtain⟨b3,b4,b5,b6,h⟩:=g4 h;obtain⟨b7,h⟩:=aE h;refine mZ a0 [(4,4,oc b3),(11,11,oc b4),(12,12,oc b5),(13,13,oc b6),(16,16,oc b7)] (ay (ab (Ge ?_)));exact eB h (gg [] [0,1,2,40,136,5,6])
  refine au (aO ?_);exact eX h (gg [] [1,2,3,4])
 obtain⟨L,M⟩:=bv;refine av (ab (G (mi [.frzC 0 0,.frzC 0 1] (by kernel_rfl) (aw ?_))));obtain rfl:=sI h;exact RI [BJ]
def mg(q:QZ)(u:QK):QK→Option (QK⊕QK):=fun e =>
 ((iZ (e.length:Int) e q u).bind fun f =>
 ((ju f).bind fun j =>
 ((ju e).bind fun p =>
 (if(j == p)=true then some (Sum.inr e)
 else some (Sum.inl f)))))
def lg(p:QZ)(f:QK):Option (DI×Int) :=
 ((lM p f).bind fun q =>
 (if(!q)=true then some ((([]:QZ),([]:QK)),2)
 else((lP (f.length:Int) p f).bind fun u =>
 ((iter (mg p f) u).bind fun e=>((ky p f e).bind fun j =>
 some ((j.1,j.2),0))))))
theorem pI(e f:Bool){z:QZ}{A:QK}{u:DI×Int}(h:lg z A=some u):
  Pure Tryz.prog 89 [.agg [.p e (.slice (.slice (.int .i64))) z,.p f (.slice (.int .u32)) A]] (aM (bk false [⟨BJ,u.1⟩,⟨(.int .i64),u.2⟩])):=by
 refine PB Tryz.func89 (fun Bw w0=>?_);unfold lg at h;refine G (af ?_);obtain⟨Y,I,h⟩:=aj h;refine GP 1 (uX e f I) (aC h (fun J h=>?_) (fun J h=>?_))
 ·refine G (aw (ai ?_));obtain rfl:=sI h;exact RI [BJ,(.int .i64)]
 refine ae (ab ?_);obtain⟨Z,L,h⟩:=aj h;refine GP 4 (vv e f L) (af (ak (cH h (fun j=>aA [(1,.adr 0 0 2 0),(2,.adr 1 0 2 0),(4,.adr 2 0 1 0)] (KA e z f A j) 3) 0 (fun q=>aA [(1,.adr 0 0 2 0),(2,.adr 1 0 2 0),(4,.adr 2 0 1 0)] (KA e z f A q) 3) (gg [] [0,8,88]) (fun j o h=>?_) (fun q h=>?_))))
 ·unfold mg at h;refine ak ?_;obtain⟨M,B,h⟩:=aj h;refine GP 3 (qG false e f B) (af ?_);obtain⟨N,C,h⟩:=aj h;obtain⟨O,D,h⟩:=aj h;have v:=(mj false C);have x:=(mj false D);refine GD ⟨[],[(1,(oP v)),(3,(oP x))]⟩ [(1,1,oc v),(3,3,oc x)] (aC h (fun V h=>?_) (fun V h=>?_))
  ·refine au (aO (jv rfl ?_));exact eX h (gg [] [0,1,2])
  refine ae (ab (Ge (ay ?_)));exact eB h (gg [] [0,1,2])
 refine av (ab ?_);obtain⟨X,E,h⟩:=aj h;refine GP 2 (um e f false E) (aw ?_);obtain rfl:=sI h;exact RI [BJ,(.int .i64)]
def tA(e:XJ):(XX×XX×Int)→Option ((XX×XX×Int)⊕(XX×XX)):=fun(v4,j,v6) =>
 (if(decide (v6<(e.length:Int)))=true then(if 0≤v6∧v6<(e.length:Int)then(if(v4.length+([(Tree.node (((e.getD v6.toNat (0,(Tree.node 0 0 []),(Tree.node 0 0 []))).2.1).op) (((e.getD v6.toNat (0,(Tree.node 0 0 []),(Tree.node 0 0 []))).2.1).set) (((e.getD v6.toNat (0,(Tree.node 0 0 []),(Tree.node 0 0 []))).2.1).kids))]:XX).length)*32≤140737488355328∧v4.length+([(Tree.node (((e.getD v6.toNat (0,(Tree.node 0 0 []),(Tree.node 0 0 []))).2.1).op) (((e.getD v6.toNat (0,(Tree.node 0 0 []),(Tree.node 0 0 []))).2.1).set) (((e.getD v6.toNat (0,(Tree.node 0 0 []),(Tree.node 0 0 []))).2.1).kids))]:XX).length≤9223372036854775807 then((kN 1000 (((e.getD v6.toNat (0,(Tree.node 0 0 []),(Tree.node 0 0 []))).2.2).op) (((e.getD v6.toNat (0,(Tree.node 0 0 []),(Tree.node 0 0 []))).2.2).set) (((e.getD v6.toNat (0,(Tree.node 0 0 []),(Tree.node 0 0 []))).2.2).kids)).bind fun f =>
 (if(j.length+([(Tree.node f.op f.set f.kids)]:XX).length)*32≤140737488355328∧j.length+([(Tree.node f.op f.set f.kids)]:XX).length≤9223372036854775807 then some (Sum.inl ((v4++([(Tree.node (((e.getD v6.toNat (0,(Tree.node 0 0 []),(Tree.node 0 0 []))).2.1).op) (((e.getD v6.toNat (0,(Tree.node 0 0 []),(Tree.node 0 0 []))).2.1).set) (((e.getD v6.toNat (0,(Tree.node 0 0 []),(Tree.node 0 0 []))).2.1).kids))]:XX)),(j++([(Tree.node f.op f.set f.kids)]:XX)),(i64.wrap (v6+1))))else none))else none)else none)
 else some (Sum.inr (v4,j)))
def qy(v:QQ)(z A:Int)(B:QK)(x:XJ):Option ((Option Z5)×Int) :=
 (if((v.length:Int) == 0)=true then some ((none:Option Z5),22)
 else((iter (tA x) (([]:XX),([]:XX),0)).bind fun(C,D)=>((mN C (v.length:Int)).bind fun(e,f) =>
 (if(f != 0)=true then some ((none:Option Z5),f)
 else((mN D (v.length:Int)).bind fun(j,p) =>
 (if(p != 0)=true then some ((none:Option Z5),p)
 else((lg e.1 e.2).bind fun(q,E) =>
 ((lg j.1 j.2).bind fun(u,I) =>
 some ((some ((v,z,A,B,x),(q.1,q.2),u.1,u.2):Option Z5),0)))))))))
theorem Bn{q:QQ}{u v:Int}{x:QK}{f:XJ}{e:(Option Z5)×Int}(h:qy q u v x f=some e):
  Pure Tryz.prog 52 [.agg [.p false (.slice .str) q,.u32 u,.u32 v,.p false (.slice (.int .i64)) x,.p false (.slice (.prod (.int .u8) Y8)) f]] (aM (bk false [⟨(.ptr mF),e.1⟩,⟨(.int .i64),e.2⟩])):=by
 refine PB Tryz.func52 (fun Bw w0=>?_);unfold qy at h;refine G (af (G (aC h (fun L h=>?_) (fun L h=>?_))))
 ·refine G (aw (ai ?_));obtain rfl:=sI h;exact RI [(.ptr mF),(.int .i64)]
 refine ae (ab (G (af (G (ak (cH h (fun(v4,E,v6)=>aA [(1,.adr 0 0 5 0),(4,.sl 1),(5,.sl 2),(17,.p false (.slice (.prod (.int .u8) Y8)) f),(18,.i64 (f.length:Int)),(19,.i64 v6)] (Kk q u v x f v4 E) 3) 0 (fun(I,J)=>aA [(1,.adr 0 0 5 0),(4,.sl 1),(5,.sl 2)] (Kk q u v x f I J) 3) (gg [.nilS 4 104 183 (.tree .u8 .u32),.nilS 5 105 183 (.tree .u8 .u32)] [0,104,105]) (fun y o h=>?_) (fun M h=>?_)))))))
 ·obtain⟨v4,E,v6⟩:=y;unfold tA at h;refine G (af (aC h (fun N h=>?_) (fun N h=>?_)))
  ·refine ae (ab (af (ak (GC 0 h (fun h=>?_)))));obtain⟨z,h⟩:=aE h;obtain⟨r6,O,h⟩:=aj h;obtain⟨A,h⟩:=aE h;have j:=(qB 1000 false O);refine mZ ⟨[],[(8,(oP j))]⟩ [(4,4,oc z),(8,8,oc j),(10,10,oc A)] (ay (ab (Ge ?_)));exact eB h (gg [] [0,75,123])
  refine au (aO ?_);exact eX h (gg [] [0,1,2])
 obtain⟨I,J⟩:=M;refine av (ab ?_);obtain⟨⟨V,X⟩,Y,h⟩:=aj h;refine GP 4 (qL true Y) (af (G (aC h (fun Z h=>?_) (fun Z h=>?_))))
 ·refine G (aw (ai ?_));obtain rfl:=sI h;exact RI [(.ptr mF),(.int .i64)]
 refine ae (ab ?_);obtain⟨⟨a1,a2⟩,B,h⟩:=aj h;refine GP 4 (qL true B) (af (G (aC h (fun B6 h=>?_) (fun B6 h=>?_))))
 ·refine G (aw (ai ?_));obtain rfl:=sI h;exact RI [(.ptr mF),(.int .i64)]
 refine ae (ab (G ?_));obtain⟨⟨a3,a4⟩,C,h⟩:=aj h;refine GP 2 (pI false false C) ?_;obtain⟨⟨a5,a6⟩,D,h⟩:=aj h;refine GP 2 (pI false false D) (G (aw ?_));obtain rfl:=sI h;exact RI [(.ptr mF),(.int .i64)]
def iX(e:QX):Option ((Option Z5)×Int×Int) :=
 ((jS e).bind fun(f,j) =>
 (if(j.1 != 0)=true then some ((none:Option Z5),j.1,j.2)
 else((qy f.1 f.2.1 f.2.2.1 f.2.2.2.1 f.2.2.2.2).bind fun(p,q) =>
 some (p,q,0))))
theorem sZ{e:QX}{f:(Option Z5)×Int×Int}(h:iX e=some f):
  Pure Tryz.prog 24 [.st e] (aM (bk false [⟨(.ptr mF),f.1⟩,⟨Y2,f.2⟩])):=by
 refine PB Tryz.func24 (fun Bw w0=>?_);unfold iX at h;refine G ?_;obtain⟨⟨u,v⟩,j,h⟩:=aj h;refine GP 1 (wq j) (af (G (aC h (fun p h=>?_) (fun p h=>?_))))
 ·refine GD a0 [] (aw (ai ?_));obtain rfl:=sI h;exact RI [(.ptr mF),Y2]
 refine ae (ab ?_);obtain⟨⟨x,z⟩,q,h⟩:=aj h;refine GP 1 (Bn q) (G (aw ?_));obtain rfl:=sI h;exact RI [(.ptr mF),Y2]
def cq(e:Option Z5):Option (Int) :=
 (if e.isNone=true then some 0
 else(if e.isSome=true then some (((e.getD (Ty.zero mF)).1.1).length:Int)else none))
theorem iW(j:Bool){q:Option Z5}{f:Int}(h:cq q=some f):
  Pure Tryz.prog 25 [.p j (.ptr mF) q] (aM (bk false [⟨(.int .i64),f⟩])):=by
 refine PB Tryz.func25 (fun Bw w0=>?_);unfold cq at h;refine G (af (GN a0 [(1,1,⟨∃e,Tryz.prog.underlying 98=some (.pointer e),⟨_,rfl⟩⟩)] (aC h (fun u h=>?_) (fun u h=>?_))))
 ·refine G (aw (ai ?_));obtain rfl:=sI h;exact RI [(.int .i64)]
 refine ae (ab (GC 1 h (fun h=>aw ?_)));obtain rfl:=sI h;exact RI [(.int .i64)]
def dW(e:XK)(f:Int):(Int×Int)→Option ((Int×Int)⊕((Unit)⊕(Bool))):=fun(j,v4) =>
 (if(decide (v4<(e.length:Int)))=true then(if 0≤v4∧v4<(e.length:Int)then(((if(decide (((e.getD v4.toNat (0,0,0)).1)≤j))=true then some (true)
 else(if(decide (((e.getD v4.toNat (0,0,0)).2.1)<((e.getD v4.toNat (0,0,0)).1)))=true then some (true)
 else(if(decide (((e.getD v4.toNat (0,0,0)).2.1) > 1114111))=true then some (true)
 else(if(decide (((e.getD v4.toNat (0,0,0)).2.2)<0))=true then some (true)
 else(if(decide (((e.getD v4.toNat (0,0,0)).2.2)≥f))=true then some (true)
 else some ((decide (((e.getD v4.toNat (0,0,0)).2.2) > 255))))))))).bind fun p=>(if p=true then some (Sum.inr (Sum.inr false))
 else some (Sum.inl ((e.getD v4.toNat (0,0,0)).2.1,(i64.wrap (v4+1))))))else none)
 else some (Sum.inr (Sum.inl ())))
def kX(f:XK)(e:Int):Option (Bool) :=
 (if(decide ((f.length:Int) > 256))=true then some false
 else((iter (dW f e) ((-1:Int),0)).bind fun(j:((Unit)⊕(Bool)))=>match j with
 | .inl _=>some true
 | .inr (p)=>some p))
theorem wX(B:Bool){z:XK}{q:Int}{C:Bool}(h:kX z q=some C):
  Pure Tryz.prog 53 [.p B (.slice (.prod (.int .i32) Y1)) z,.i64 q] (aM (bk false [⟨.bool,C⟩])):=by
 refine PB Tryz.func53 (fun Bw w0=>?_);unfold kX at h;refine G (af (G (aC h (fun N h=>?_) (fun N h=>?_))))
 ·refine G (aw (ai ?_));obtain rfl:=sI h;exact RI [.bool]
 refine ae (ab (G (af (G (ak (jT h (fun(x,v4)=>aA [(1,.i64 q),(5,.i32 x),(11,.p B (.slice (.prod (.int .i32) Y1)) z),(12,.i64 (z.length:Int)),(13,.i64 v4)] [] 0) (dc (eO Tryz.f53.ntmps 0 (fun _=>aA [] [] 0)) (fQ tb Tryz.f53.results.toList (fun L=>[⟨.bool,L⟩]))) (gg [] []) (fun y o h=>?_) (fun O h e σ' M=>?_)))))))
 ·obtain⟨x,v4⟩:=y;unfold dW at h;refine G (af (aC h (fun D h=>?_) (fun D h=>?_)))
  ·refine ae (ab (af (ak (GC 0 h (fun h=>af (af (bn h (fun E=>aA [(1,.i64 q),(7,.adr 0 0 3 0),(11,.p B (.slice (.prod (.int .i32) Y1)) z),(12,.i64 (z.length:Int)),(13,.i64 v4),(48,.bo E)] [(0,.box [.i32 ((z.getD v4.toNat (0,0,0)).1),.i32 ((z.getD v4.toNat (0,0,0)).2.1),.i64 ((z.getD v4.toNat (0,0,0)).2.2)])] 1) (fun E h=>?_) (fun E h=>?_))))))))
   ·rcases aL h with⟨f,h⟩ | ⟨f,h⟩
    ·exact bu ⟨[(4,true),(10,true)],[]⟩ [(5,10,oc f)] (eN h (gg [] [24]))
    rcases aL h with⟨j,h⟩ | ⟨j,h⟩
    ·exact bu ⟨[(4,false),(10,false),(11,true),(15,true)],[]⟩ [(5,9,an f),(10,10,oc f),(12,15,oc j)] (eN h (gg [] [24]))
    rcases aL h with⟨u,h⟩ | ⟨u,h⟩
    ·exact bu ⟨[(4,false),(10,false),(11,false),(15,false),(16,true),(20,true)],[]⟩ [(5,9,an f),(10,10,oc f),(12,14,an j),(15,15,oc j),(17,20,oc u)] (eN h (gg [] [24]))
    rcases aL h with⟨v,h⟩ | ⟨v,h⟩
    ·exact bu ⟨[(4,false),(10,false),(11,false),(15,false),(16,false),(20,false),(21,true),(26,true)],[]⟩ [(5,9,an f),(10,10,oc f),(12,14,an j),(15,15,oc j),(17,19,an u),(20,20,oc u),(22,26,oc v)] (eN h (gg [] [24]))
    rcases aL h with⟨A,h⟩ | ⟨A,h⟩
    ·exact bu ⟨[(4,false),(10,false),(11,false),(15,false),(16,false),(20,false),(21,false),(26,false),(27,true),(31,true)],[]⟩ [(5,9,an f),(10,10,oc f),(12,14,an j),(15,15,oc j),(17,19,an u),(20,20,oc u),(22,25,an v),(26,26,oc v),(28,31,oc A)] (eN h (gg [] [24]))
    exact bu ⟨[(4,false),(10,false),(11,false),(15,false),(16,false),(20,false),(21,false),(26,false),(27,false),(31,false)],[]⟩ [(5,9,an f),(10,10,oc f),(12,14,an j),(15,15,oc j),(17,19,an u),(20,20,oc u),(22,25,an v),(26,26,oc v),(28,30,an A),(31,31,oc A)] (eN h (gg [] [24]))
   refine ab (aC h (fun I h=>?_) (fun I h=>?_))
   ·refine G (aw ?_);obtain rfl:=sI h;refine ai (az (ai (bG (aK ?_))));exact bH (RI [.bool])
   refine ae (ab (Ge (ay (ab (Ge ?_)))));exact eB h (gg [] [])
  refine au (aO ?_);obtain rfl:=sI h;refine dI (bf ?_);exact bM (gg [] [])
 rcases O with _ | L
 ·obtain⟨rfl,J⟩:=M;refine cz ?_ J;refine av (ab (G (aw ?_)));obtain rfl:=sI h;exact RI [.bool]
 obtain⟨rfl,V⟩:=M;refine az (ai ?_);obtain rfl:=sI h;exact V
def gL(f:XK)(j:Int):(Int)→Option ((Int)⊕(Int)):=fun e =>
 (((if(decide (e<(f.length:Int)))=true then(if 0≤e∧e<(f.length:Int)then some ((decide (((f.getD e.toNat (0,0,0)).2.1)<(i32.wrap ((i32.wrap j)*2 ^ (min (8:Int).toNat i32.bits))))))else none)
 else some (false))).bind fun p=>(if p=true then some (Sum.inl (i64.wrap (e+1)))
 else some (Sum.inr e)))
def jc(p:XK)(q f:Int):((fh 256)×Int)→Option (((fh 256)×Int)⊕(fh 256)):=fun(j,e) =>
 (if 0≤f∧f<(p.length:Int)then(if(decide (e≤(min ((p.getD f.toNat (0,0,0)).2.1) (i32.wrap ((i32.wrap ((i32.wrap q)*2 ^ (min (8:Int).toNat i32.bits)))+255)))))=true then(if 0≤f∧f<(p.length:Int)then(if 0≤(bitsOf .and .i32 e 255)∧(bitsOf .and .i32 e 255)<((256:Nat):Int)then some (Sum.inl ((qM j ((bitsOf .and .i32 e 255).toNat) (u8.wrap ((p.getD f.toNat (0,0,0)).2.2))),(i32.wrap (e+1))))else none)else none)
 else some (Sum.inr j))else none)
def gF(j:XK)(f:Int):((fh 256)×Int)→Option (((fh 256)×Int)⊕(fh 256)):=fun(p,e) =>
 (((if(decide (e<(j.length:Int)))=true then(if 0≤e∧e<(j.length:Int)then some ((decide (((j.getD e.toNat (0,0,0)).1)≤(i32.wrap ((i32.wrap ((i32.wrap f)*2 ^ (min (8:Int).toNat i32.bits)))+255)))))else none)
 else some (false))).bind fun q=>(if q=true then(if 0≤e∧e<(j.length:Int)then((iter (jc j f e) (p,(max ((j.getD e.toNat (0,0,0)).1) (i32.wrap ((i32.wrap f)*2 ^ (min (8:Int).toNat i32.bits)))))).bind fun u=>some (Sum.inl (u,(i64.wrap (e+1)))))else none)
 else some (Sum.inr p)))
def fN(B:XK):((fh 4352)×(List (fh 256))×(List ((fh 256)×Int))×Int×Int)→Option (((fh 4352)×(List (fh 256))×(List ((fh 256)×Int))×Int×Int)⊕y4):=fun(q,e,p,A,f) =>
 (if(decide (f<4352))=true then(if 0≤(8:Int)then(if 0≤(8:Int)then((iter (gL B f) A).bind fun u=>((iter (gF B f) ((dB 256),u)).bind fun j=>(if(Hr j (dB 256))=true then some (Sum.inl (q,e,p,u,(i64.wrap (f+1))))
 else(((if(!((bg (.arr .u8 256) p j).isSome))=true then(if(e.length+([j]:List (fh 256)).length)*256≤140737488355328∧e.length+([j]:List (fh 256)).length≤9223372036854775807 then some (((e++([j]:List (fh 256))),(cO (.arr .u8 256) p j (e.length:Int)),(e.length:Int)))else none)
 else some ((e,p,((bg (.arr .u8 256) p j).getD 0))))).bind fun(v,x,z)=>(if 0≤f∧f<((4352:Nat):Int)then some (Sum.inl ((qM q f.toNat z),v,x,u,(i64.wrap (f+1))))else none)))))else none)else none)
 else some (Sum.inr (q,e)))
def fU(j:XK)(p:Int):Option ((Option y4)×Int) :=
 ((kX j p).bind fun q =>
 (if(!q)=true then some ((none:Option y4),10)
 else(if 0≤(1:Int)∧(1:Int)≤1∧256*(1:Int)≤281474976710656∧(1:Int)≤9223372036854775807 then((iter (fN j) ((dB 4352),(List.replicate (1:Int).toNat (dB 256)),([]:List ((fh 256)×Int)),0,0)).bind fun(e,f)=>some ((some (e,f):Option y4),0))else none)))
theorem nM(f:Bool){A:XK}{i1:Int}{N:(Option y4)×Int}(h:fU A i1=some N):
  Pure Tryz.prog 26 [.p f (.slice (.prod (.int .i32) Y1)) A,.i64 i1] (aM (bk false [⟨(.ptr vV),N.1⟩,⟨(.int .i64),N.2⟩])):=by
 refine PB Tryz.func26 (fun Bw w0=>?_);unfold fU at h;refine G (af ?_);obtain⟨r2,q2,h⟩:=aj h;refine GP 2 (wX f q2) (aC h (fun B1 h=>?_) (fun B1 h=>?_))
 ·refine G (aw (ai ?_));obtain rfl:=sI h;exact RI [(.ptr vV),(.int .i64)]
 refine ae (ab (GC 0 h (fun h=>GN a0 [(0,0,oc CU)] (G (af (G (ak (cH h (fun(j,q,u,Y,e)=>aA [(0,.p f (.slice (.prod (.int .i32) Y1)) A),(6,.adr 0 0 4353 0),(7,.mp 2),(8,.i64 Y),(25,.i64 e)] (Kq j q u) 3) 0 (fun(Z,a1)=>aA [(6,.adr 0 0 4353 0)] (L1 Z a1) 2) (gg [] [64,48,80]) (fun y o h=>?_) (fun r6 h=>?_)))))))))
 ·obtain⟨j,q,u,Y,e⟩:=y;unfold fN at h;refine G (af (aC h (fun b1 h=>?_) (fun b1 h=>?_)))
  ·refine ae (ab (af (ak (G ?_))));obtain⟨a2,a3,h⟩:=g2 h;refine GN a0 [(2,2,oc a2),(5,5,oc a3)] (G (af (ak ?_)));refine cH h (fun O=>aA [(0,.p f (.slice (.prod (.int .i32) Y1)) A),(6,.adr 0 0 4353 0),(7,.mp 2),(8,.i64 O),(9,.i64 e),(10,.i32 (i32.wrap ((i32.wrap e)*2 ^ (min (8:Int).toNat i32.bits)))),(11,.i32 (i32.wrap ((i32.wrap ((i32.wrap e)*2 ^ (min (8:Int).toNat i32.bits)))+255))),(12,.adr 3 0 256 0),(25,.i64 e)] (zL j q u (dB 256)) 4) 2 (fun x=>aA [(0,.p f (.slice (.prod (.int .i32) Y1)) A),(6,.adr 0 0 4353 0),(7,.mp 2),(8,.i64 x),(9,.i64 e),(10,.i32 (i32.wrap ((i32.wrap e)*2 ^ (min (8:Int).toNat i32.bits)))),(11,.i32 (i32.wrap ((i32.wrap ((i32.wrap e)*2 ^ (min (8:Int).toNat i32.bits)))+255))),(12,.adr 3 0 256 0),(25,.i64 e)] (zL j q u (dB 256)) 4) (gg [] [0,1,2,99]) (fun O o h=>?_) (fun x h=>?_)
   ·unfold gL at h;refine af (af (bn h (fun V=>aA [(0,.p f (.slice (.prod (.int .i32) Y1)) A),(6,.adr 0 0 4353 0),(7,.mp 2),(8,.i64 O),(9,.i64 e),(10,.i32 (i32.wrap ((i32.wrap e)*2 ^ (min (8:Int).toNat i32.bits)))),(11,.i32 (i32.wrap ((i32.wrap ((i32.wrap e)*2 ^ (min (8:Int).toNat i32.bits)))+255))),(12,.adr 3 0 256 0),(25,.i64 e),(47,.bo V)] (zL j q u (dB 256)) 4) (fun V h=>?_) (fun V h=>?_)))
    ·rcases aL h with⟨z,h⟩ | ⟨z,h⟩
     ·obtain⟨a4,h⟩:=aE h;exact bu ⟨[(4,true),(12,true)],[]⟩ [(5,6,an z),(7,7,oc (And.intro z a4)),(8,11,an z),(12,12,oc z)] (eN h (gg [] [0,1,2,3]))
     exact bu ⟨[(4,false),(12,false)],[]⟩ [(5,12,oc z)] (eN h (gg [] [0,1,2,3]))
    refine ab (aC h (fun b2 h=>?_) (fun b2 h=>?_))
    ·refine ae (ab (ak (Ge (ay ?_))));exact eB h (gg [] [0,1,2,3])
    refine au (aO ?_);exact eX h (gg [] [0,1,2,3])
   refine av (ab (af (G (ak (cH h (fun(X,B)=>aA [(0,.p f (.slice (.prod (.int .i32) Y1)) A),(6,.adr 0 0 4353 0),(7,.mp 2),(8,.i64 x),(9,.i64 e),(10,.i32 (i32.wrap ((i32.wrap e)*2 ^ (min (8:Int).toNat i32.bits)))),(11,.i32 (i32.wrap ((i32.wrap ((i32.wrap e)*2 ^ (min (8:Int).toNat i32.bits)))+255))),(12,.adr 3 0 256 0),(13,.i64 B),(25,.i64 e)] (zL j q u X) 4) 4 (fun a5=>aA [(0,.p f (.slice (.prod (.int .i32) Y1)) A),(6,.adr 0 0 4353 0),(7,.mp 2),(8,.i64 x),(9,.i64 e),(12,.adr 3 0 256 0),(25,.i64 e)] (zL j q u a5) 4) (gg [] [0,1,2,3]) (fun y o h=>?_) (fun a5 h=>?_))))))
   ·obtain⟨X,B⟩:=y;unfold gF at h;refine af (af (bn h (fun C=>aA [(0,.p f (.slice (.prod (.int .i32) Y1)) A),(6,.adr 0 0 4353 0),(7,.mp 2),(8,.i64 x),(9,.i64 e),(10,.i32 (i32.wrap ((i32.wrap e)*2 ^ (min (8:Int).toNat i32.bits)))),(11,.i32 (i32.wrap ((i32.wrap ((i32.wrap e)*2 ^ (min (8:Int).toNat i32.bits)))+255))),(12,.adr 3 0 256 0),(13,.i64 B),(25,.i64 e),(63,.bo C)] (zL j q u X) 4) (fun C h=>?_) (fun C h=>?_)))
    ·rcases aL h with⟨v,h⟩ | ⟨v,h⟩
     ·obtain⟨a6,h⟩:=aE h;exact bu ⟨[(4,true),(12,true)],[]⟩ [(5,6,an v),(7,7,oc (And.intro v a6)),(8,11,an v),(12,12,oc v)] (eN h (gg [] [0,1,2,3]))
     exact bu ⟨[(4,false),(12,false)],[]⟩ [(5,12,oc v)] (eN h (gg [] [0,1,2,3]))
    refine ab (aC h (fun a7 h=>?_) (fun a7 h=>?_))
    ·refine ae (ab (af (ak (GC 2 h (fun h=>ak ?_)))));refine cH h (fun(D,E)=>aA [(0,.p f (.slice (.prod (.int .i32) Y1)) A),(6,.adr 0 0 4353 0),(7,.mp 2),(8,.i64 x),(9,.i64 e),(10,.i32 (i32.wrap ((i32.wrap e)*2 ^ (min (8:Int).toNat i32.bits)))),(11,.i32 (i32.wrap ((i32.wrap ((i32.wrap e)*2 ^ (min (8:Int).toNat i32.bits)))+255))),(12,.adr 3 0 256 0),(13,.i64 B),(14,.i32 E),(25,.i64 e)] (zL j q u D) 4) 6 (fun I=>aA [(0,.p f (.slice (.prod (.int .i32) Y1)) A),(6,.adr 0 0 4353 0),(7,.mp 2),(8,.i64 x),(9,.i64 e),(10,.i32 (i32.wrap ((i32.wrap e)*2 ^ (min (8:Int).toNat i32.bits)))),(11,.i32 (i32.wrap ((i32.wrap ((i32.wrap e)*2 ^ (min (8:Int).toNat i32.bits)))+255))),(12,.adr 3 0 256 0),(13,.i64 B),(25,.i64 e)] (zL j q u I) 4) (gg [] [0,1,2,3]) (fun y o h=>?_) (fun I h=>?_)
     ·obtain⟨D,E⟩:=y;unfold jc at h;refine af (GC 3 h (fun h=>aC h (fun a8 h=>?_) (fun a8 h=>?_)))
      ·refine ae (ab (af (ak ?_)));obtain⟨a9,aa,h⟩:=g2 h;refine bu a0 [(4,4,oc a9),(8,8,oc aa)] (ay (ab (Ge ?_)));exact eB h (gg [] [0,1,2,3])
      refine au (aO ?_);exact eX h (gg [] [0,1,2,3])
     refine av (ay (ab (Ge ?_)));exact eB h (gg [] [0,1,2,3])
    refine au (aO ?_);exact eX h (gg [] [0,1,2,3])
   refine av (ab (af (GN a0 [(2,2,⟨Tryz.prog.eqGuardType Tryz.prog.depth 155=false,(by kernel_rfl)⟩)] (aC h (fun ac h=>?_) (fun ac h=>?_)))))
   ·refine au (aO (av (ab (Ge ?_))));exact eB h (gg [] [0,1,2])
   refine ae (ab (GN a0 [(2,2,oc CU)] (af (G (bn h (fun(J,L,M)=>aA [(0,.p f (.slice (.prod (.int .i32) Y1)) A),(6,.adr 0 0 4353 0),(7,.mp 2),(8,.i64 x),(9,.i64 e),(15,.i64 M),(25,.i64 e)] (Kq j J L) 3) (fun r5 h=>?_) (fun r5 h=>?_))))))
   ·refine aC h (fun ad h=>?_) (fun ad h=>?_)
    ·refine G ?_;obtain⟨ax,h⟩:=aE h;refine GD a0 [(7,7,oc ax)] (bu a0 [(3,3,oc CU)] ?_);exact eN h (gg [] [0,212,2])
    exact ae (eN h (gg [] [0,1,2]))
   obtain⟨J,L,M⟩:=r5;refine ab (zB 5 h (fun h=>ay (ab (Ge ?_))));exact eB h (gg [] [0,1,2])
  refine au (aO ?_);exact eX h (gg [] [0,1])
 obtain⟨Z,a1⟩:=r6;refine av (ab (G (mi [.frzL 0 0] (by kernel_rfl) (aw ?_))));obtain rfl:=sI h;exact RI [(.ptr vV),(.int .i64)]
def pH(e:XK):(Int×Int)→Option ((Int×Int)⊕((Unit)⊕(Bool))):=fun(f,v4) =>
 (if(decide (v4<(e.length:Int)))=true then(if 0≤v4∧v4<(e.length:Int)then(((if(decide (((e.getD v4.toNat (0,0,0)).1)≤f))=true then some (true)
 else(if(decide (((e.getD v4.toNat (0,0,0)).2.1)<((e.getD v4.toNat (0,0,0)).1)))=true then some (true)
 else(if(decide (((e.getD v4.toNat (0,0,0)).2.1) > 1114111))=true then some (true)
 else(if(decide (((e.getD v4.toNat (0,0,0)).2.2)<0))=true then some (true)
 else some ((decide (((e.getD v4.toNat (0,0,0)).2.2) > (i64.wrap (1114111 - (i64.wrap (i32.wrap (((e.getD v4.toNat (0,0,0)).2.1) - ((e.getD v4.toNat (0,0,0)).1)))))))))))))).bind fun j=>(if j=true then some (Sum.inr (Sum.inr false))
 else some (Sum.inl ((e.getD v4.toNat (0,0,0)).2.1,(i64.wrap (v4+1))))))else none)
 else some (Sum.inr (Sum.inl ())))
def nA(e:XK):Option (Bool) :=
 (if(decide ((e.length:Int) > 256))=true then some false
 else((iter (pH e) ((-1:Int),0)).bind fun(f:((Unit)⊕(Bool)))=>match f with
 | .inl _=>some true
 | .inr (j)=>some j))
theorem wW(z:Bool){v:XK}{A:Bool}(h:nA v=some A):
  Pure Tryz.prog 54 [.p z (.slice (.prod (.int .i32) Y1)) v] (aM (bk false [⟨.bool,A⟩])):=by
 refine PB Tryz.func54 (fun Bw w0=>?_);unfold nA at h;refine G (af (G (aC h (fun L h=>?_) (fun L h=>?_))))
 ·refine G (aw (ai ?_));obtain rfl:=sI h;exact RI [.bool]
 refine ae (ab (G (af (G (ak (jT h (fun(u,v4)=>aA [(3,.i32 u),(9,.p z (.slice (.prod (.int .i32) Y1)) v),(10,.i64 (v.length:Int)),(11,.i64 v4)] [] 0) (dc (eO Tryz.f54.ntmps 0 (fun _=>aA [] [] 0)) (fQ tb Tryz.f54.results.toList (fun I=>[⟨.bool,I⟩]))) (gg [] []) (fun y o h=>?_) (fun M h e σ' J=>?_)))))))
 ·obtain⟨u,v4⟩:=y;unfold pH at h;refine G (af (aC h (fun B h=>?_) (fun B h=>?_)))
  ·refine ae (ab (af (ak (GC 0 h (fun h=>af (af (bn h (fun C=>aA [(5,.adr 0 0 3 0),(9,.p z (.slice (.prod (.int .i32) Y1)) v),(10,.i64 (v.length:Int)),(11,.i64 v4),(47,.bo C)] [(0,.box [.i32 ((v.getD v4.toNat (0,0,0)).1),.i32 ((v.getD v4.toNat (0,0,0)).2.1),.i64 ((v.getD v4.toNat (0,0,0)).2.2)])] 1) (fun C h=>?_) (fun C h=>?_))))))))
   ·rcases aL h with⟨f,h⟩ | ⟨f,h⟩
    ·exact bu ⟨[(4,true),(10,true)],[]⟩ [(5,10,oc f)] (eN h (gg [] [24]))
    rcases aL h with⟨j,h⟩ | ⟨j,h⟩
    ·exact bu ⟨[(4,false),(10,false),(11,true),(15,true)],[]⟩ [(5,9,an f),(10,10,oc f),(12,15,oc j)] (eN h (gg [] [24]))
    rcases aL h with⟨q,h⟩ | ⟨q,h⟩
    ·exact bu ⟨[(4,false),(10,false),(11,false),(15,false),(16,true),(20,true)],[]⟩ [(5,9,an f),(10,10,oc f),(12,14,an j),(15,15,oc j),(17,20,oc q)] (eN h (gg [] [24]))
    rcases aL h with⟨x,h⟩ | ⟨x,h⟩
    ·exact bu ⟨[(4,false),(10,false),(11,false),(15,false),(16,false),(20,false),(21,true),(32,true)],[]⟩ [(5,9,an f),(10,10,oc f),(12,14,an j),(15,15,oc j),(17,19,an q),(20,20,oc q),(22,32,oc x)] (eN h (gg [] [24]))
    exact bu ⟨[(4,false),(10,false),(11,false),(15,false),(16,false),(20,false),(21,false),(32,false)],[]⟩ [(5,9,an f),(10,10,oc f),(12,14,an j),(15,15,oc j),(17,19,an q),(20,20,oc q),(22,31,an x),(32,32,oc x)] (eN h (gg [] [24]))
   refine ab (aC h (fun D h=>?_) (fun D h=>?_))
   ·refine G (aw ?_);obtain rfl:=sI h;refine ai (az (ai (bG (aK ?_))));exact bH (RI [.bool])
   refine ae (ab (Ge (ay (ab (Ge ?_)))));exact eB h (gg [] [])
  refine au (aO ?_);obtain rfl:=sI h;refine dI (bf ?_);exact bM (gg [] [])
 rcases M with _ | I
 ·obtain⟨rfl,E⟩:=J;refine cz ?_ E;refine av (ab (G (aw ?_)));obtain rfl:=sI h;exact RI [.bool]
 obtain⟨rfl,N⟩:=J;refine az (ai ?_);obtain rfl:=sI h;exact N
def mH(e:Int):Option Z7 :=
 (if(decide (e<128))=true then some (1,0,0)
 else(((if(decide (e<194))=true then some (true)
 else some ((decide (e > 244))))).bind fun v1=>(if v1=true then some (0,0,0)
 else(if(decide (e<224))=true then some (2,128,191)
 else(if(e == 224)=true then some (3,160,191)
 else(if(e == 237)=true then some (3,128,159)
 else(if(decide (e<240))=true then some (3,128,191)
 else(if(e == 240)=true then some (4,144,191)
 else(if(e == 244)=true then some (4,128,143)
 else some (4,128,191))))))))))
theorem yq{j:Int}{e:Int×Int×Int}(h:mH j=some e):
  Pure Tryz.prog 104 [.u8 j] (aM (bk false [⟨(.int .i64),e.1⟩,⟨(.int .u8),e.2.1⟩,⟨(.int .u8),e.2.2⟩])):=by
 refine PB Tryz.func104 (fun Bw w0=>?_);unfold mH at h;refine G (af (ak (G (aC h (fun u h=>?_) (fun u h=>?_)))))
 ·refine G (aw (az (ai ?_)));obtain rfl:=sI h;exact RI [(.int .i64),(.int .u8),(.int .u8)]
 refine af (bn h (fun v1=>aA [(0,.u8 j),(8,.bo v1)] [] 0) (fun v1 h=>?_) (fun v1 h=>?_))
 ·rcases aL h with⟨f,h⟩ | ⟨f,h⟩
  ·exact bu ⟨[(2,true),(5,true)],[]⟩ [(3,5,oc f)] (eN h (gg [] []))
  exact bu ⟨[(2,false),(5,false)],[]⟩ [(3,4,an f),(5,5,oc f)] (eN h (gg [] []))
 refine ab (aC h (fun v h=>?_) (fun v h=>?_))
 ·refine G (aw (az (ai ?_)));obtain rfl:=sI h;exact RI [(.int .i64),(.int .u8),(.int .u8)]
 refine G (aC h (fun x h=>?_) (fun x h=>?_))
 ·refine G (aw (az (ai ?_)));obtain rfl:=sI h;exact RI [(.int .i64),(.int .u8),(.int .u8)]
 refine G (aC h (fun z h=>?_) (fun z h=>?_))
 ·refine G (aw (az (ai ?_)));obtain rfl:=sI h;exact RI [(.int .i64),(.int .u8),(.int .u8)]
 refine G (aC h (fun A h=>?_) (fun A h=>?_))
 ·refine G (aw (az (ai ?_)));obtain rfl:=sI h;exact RI [(.int .i64),(.int .u8),(.int .u8)]
 refine G (aC h (fun B h=>?_) (fun B h=>?_))
 ·refine G (aw (az (ai ?_)));obtain rfl:=sI h;exact RI [(.int .i64),(.int .u8),(.int .u8)]
 refine G (aC h (fun p h=>?_) (fun p h=>?_))
 ·refine G (aw (az (ai ?_)));obtain rfl:=sI h;exact RI [(.int .i64),(.int .u8),(.int .u8)]
 refine G (aC h (fun q h=>?_) (fun q h=>?_))
 ·refine G (aw (az (ai ?_)));obtain rfl:=sI h;exact RI [(.int .i64),(.int .u8),(.int .u8)]
 refine ae (ay (ab (G (aw ?_))));obtain rfl:=sI h;exact RI [(.int .i64),(.int .u8),(.int .u8)]
def iF(j:QK)(f v:Int):(Int×Int×Int×Int×Int)→Option ((Int×Int×Int×Int×Int)⊕((Int×Int)⊕Z7)):=fun(v10,v11,p,q,e) =>
 (if(decide (e<v))=true then(((if(decide ((i64.wrap (f+e))≥(j.length:Int)))=true then some (true)
 else(if 0≤(i64.wrap (f+e))∧(i64.wrap (f+e))<(j.length:Int)then(if(decide ((j.getD ((i64.wrap (f+e)).toNat) 0)<v10))=true then some (true)
 else(if 0≤(i64.wrap (f+e))∧(i64.wrap (f+e))<(j.length:Int)then some ((decide ((j.getD ((i64.wrap (f+e)).toNat) 0) > v11)))else none))else none))).bind fun u=>(if u=true then some (Sum.inr (Sum.inr (65533,f,p)))
 else(if 0≤(6:Int)then(if 0≤(i64.wrap (f+e))∧(i64.wrap (f+e))<(j.length:Int)then some (Sum.inl (128,191,(i64.wrap (e+1)),(bitsOf .or .i32 (i32.wrap (q*2 ^ (min (6:Int).toNat i32.bits))) (i32.wrap (bitsOf .and .u8 (j.getD ((i64.wrap (f+e)).toNat) 0) (63:Int)))),(i64.wrap (e+1))))else none)else none)))
 else some (Sum.inr (Sum.inl (p,q))))
def o9(f:QK)(e:Int):Option Z7 :=
 (((if(decide (e<0))=true then some (true)
 else some ((decide (e≥(f.length:Int)))))).bind fun v1=>(if v1=true then some (0,0,0)
 else(if 0≤e∧e<(f.length:Int)then((mH (f.getD e.toNat 0)).bind fun(j,u,v) =>
 (if(decide (j<2))=true then(((if(j == 1)=true then(if 0≤e∧e<(f.length:Int)then some ((i32.wrap (f.getD e.toNat 0)))else none)
 else some (65533))).bind fun x=>some (x,e,1))
 else(if 0≤e∧e<(f.length:Int)then(if 0≤j then((iter (iF f e j) (u,v,1,(bitsOf .and .i32 (i32.wrap (f.getD e.toNat 0)) (Int.fdiv 127 (2 ^ (min j.toNat i32.bits)))),1)).bind fun(z:((Int×Int)⊕Z7))=>match z with
 | .inl (p,q)=>some (q,e,p)
 | .inr (A)=>some A)else none)else none)))else none)))
theorem zZ(q:Bool){B:QK}{u:Int}{C:Int×Int×Int}(h:o9 B u=some C):
  Pure Tryz.prog 65 [.p q (.slice (.int .u8)) B,.i64 u] (aM (bk false [⟨(.prod (.int .i32) Y2),C⟩])):=by
 refine PB Tryz.func65 (fun Bw w0=>?_);unfold o9 at h;refine G (af (af (bn h (fun v1=>aA [(0,.p q (.slice (.int .u8)) B),(1,.i64 u),(4,.adr 0 0 3 0),(18,.bo v1)] [(0,.box [.i32 0,.i64 0,.i64 0])] 1) (fun v1 h=>?_) (fun v1 h=>?_))))
 ·rcases aL h with⟨L,h⟩ | ⟨L,h⟩
  ·exact bu ⟨[(2,true),(7,true)],[]⟩ [(3,7,oc L)] (eN h (gg [] [0]))
  exact bu ⟨[(2,false),(7,false)],[]⟩ [(3,6,an L),(7,7,oc L)] (eN h (gg [] [0]))
 refine ab (aC h (fun B4 h=>?_) (fun B4 h=>?_))
 ·refine G (aw (ai ?_));obtain rfl:=sI h;exact RI [(.prod (.int .i32) Y2)]
 refine ae (ab ?_);obtain⟨c2,h⟩:=aE h;obtain⟨⟨r4,r5,r6⟩,q2,h⟩:=aj h;have D:=(yq q2);refine GN ⟨[],[(4,(oP D))]⟩ [(2,2,oc c2),(4,4,oc D)] (G (af (G (aC h (fun B5 h=>?_) (fun B5 h=>?_)))))
 ·refine af (G (bn h (fun M=>aA [(4,.adr 0 0 3 0),(8,.adr 1 0 3 0)] (Ir 0 (0:Int) (0:Int) M u 1) 2) (fun M h=>?_) (fun M h=>?_)))
  ·refine aC h (fun B7 h=>?_) (fun B7 h=>?_)
   ·refine zB 2 h (fun h=>?_);exact eN h (gg [] [0,113])
   exact ae (eN h (gg [] [0,113]))
  refine ab (G (aw (ai ?_)));obtain rfl:=sI h;exact RI [(.prod (.int .i32) Y2)]
 refine ae (ab ?_);obtain⟨c9,N,h⟩:=g2 h;refine GD a0 [(2,2,oc c9),(6,6,oc N)] (af (G (ak (jT h (fun(v10,v11,v,x,z)=>aA [(0,.p q (.slice (.int .u8)) B),(1,.i64 u),(4,.adr 0 0 3 0),(5,.i64 r4),(6,.u8 v10),(7,.u8 v11),(8,.adr 1 0 3 0),(9,.i32 x),(10,.i64 z)] (Ir 0 (0:Int) (0:Int) (65533:Int) u v) 2) (dc (eO Tryz.f65.ntmps 0 (fun(E,I)=>aA [(4,.adr 0 0 3 0),(8,.adr 1 0 3 0),(9,.i32 I)] (Ir 0 (0:Int) (0:Int) (65533:Int) u E) 2)) (fQ tb Tryz.f65.results.toList (fun r7=>[⟨(.prod (.int .i32) Y2),r7⟩]))) (gg [] [0,113]) (fun y o h=>?_) (fun r8 h e σ' hq=>?_)))))
 ·obtain⟨v10,v11,v,x,z⟩:=y;unfold iF at h;refine af (G (aC h (fun O h=>?_) (fun O h=>?_)))
  ·refine ae (ab (af (ak (af (af (bn h (fun A=>aA [(0,.p q (.slice (.int .u8)) B),(1,.i64 u),(4,.adr 0 0 3 0),(5,.i64 r4),(8,.adr 1 0 3 0),(9,.i32 x),(10,.i64 z),(80,.bo A)] (Ir 0 (0:Int) (0:Int) (65533:Int) u v) 2) (fun A h=>?_) (fun A h=>?_)))))))
   ·rcases aL h with⟨f,h⟩ | ⟨f,h⟩
    ·exact bu ⟨[(6,true),(15,true)],[]⟩ [(7,15,oc f)] (eN h (gg [] [0,1]))
    obtain⟨J,h⟩:=aE h;rcases aL h with⟨j,h⟩ | ⟨j,h⟩
    ·exact bu ⟨[(6,false),(15,false),(16,true),(25,true)],[]⟩ [(7,10,an f),(11,11,oc (And.intro f J)),(12,14,an f),(15,15,oc f),(17,25,oc j)] (eN h (gg [] [0,1]))
    obtain⟨V,h⟩:=aE h;exact bu ⟨[(6,false),(15,false),(16,false),(25,false)],[]⟩ [(7,10,an f),(11,11,oc (And.intro f J)),(12,14,an f),(15,15,oc f),(17,20,an j),(21,21,oc (And.intro j V)),(22,24,an j),(25,25,oc j)] (eN h (gg [] [0,1]))
   refine ab (aC h (fun X h=>?_) (fun X h=>?_))
   ·refine G (aw ?_);obtain rfl:=sI h;refine ai (az (ai (bG (aK ?_))));exact bH (RI [(.prod (.int .i32) Y2)])
   refine ae (ab ?_);obtain⟨Y,Z,h⟩:=g2 h;refine GN a0 [(1,1,oc Y),(6,6,oc Z)] (G (Ge (ay (ab (Ge ?_)))));exact eB h (gg [] [0,1])
  refine au (aO ?_);obtain rfl:=sI h;refine dI (bf ?_);exact bM (gg [] [0,1])
 rcases r8 with⟨E,I⟩ | r7
 ·obtain⟨rfl,a1⟩:=hq;refine cz ?_ a1;refine av (ab (G (G (aw ?_))));obtain rfl:=sI h;exact RI [(.prod (.int .i32) Y2)]
 obtain⟨rfl,hr⟩:=hq;refine az (ai ?_);obtain rfl:=sI h;exact hr
def jN(p:QK):(XK×Int)→Option ((XK×Int)⊕XK):=fun(e,j) =>
 (if(decide (j<(p.length:Int)))=true then((o9 p j).bind fun f =>
 (if(e.length+([(f.1,f.2.1,f.2.2)]:XK).length)*24≤140737488355328∧e.length+([(f.1,f.2.1,f.2.2)]:XK).length≤9223372036854775807 then some (Sum.inl ((e++([(f.1,f.2.1,f.2.2)]:XK)),(i64.wrap (j+f.2.2))))else none))
 else some (Sum.inr e))
def mP(f:QK):Option XK :=
 ((iter (jN f) (([]:XK),0)).bind fun e=>some e)
theorem tD(j:Bool){v:QK}{q:XK}(h:mP v=some q):
  Pure Tryz.prog 36 [.p j (.slice (.int .u8)) v] (aM (bk false [⟨(.slice (.prod (.int .i32) Y2)),q⟩])):=by
 refine PB Tryz.func36 (fun Bw w0=>?_);unfold mP at h;refine G (G (af (G (ak (cH h (fun(e,u)=>aA [(0,.p j (.slice (.int .u8)) v),(3,.sl 0),(4,.i64 u)] [(0,.arr 174 (.prod (.int .i32) Y2) e)] 1) 0 (fun f=>aA [(3,.sl 0)] [(0,.arr 174 (.prod (.int .i32) Y2) f)] 1) (gg [.nilS 3 24 174 (.prod (.int .i32) Y2)] [24]) (fun y o h=>?_) (fun f h=>?_))))))
 ·obtain⟨e,u⟩:=y;unfold jN at h;refine af (G (aC h (fun x h=>?_) (fun x h=>?_)))
  ·refine ae (ab (ak ?_));obtain⟨A,z,h⟩:=aj h;refine GP 2 (zZ j z) (GC 3 h (fun h=>Ge (ay ?_)));exact eB h (gg [] [97])
  refine au (aO ?_);exact eX h (gg [] [0])
 refine av (ab (G (aw ?_)));obtain rfl:=sI h;exact RI [(.slice (.prod (.int .i32) Y2))]
def jw(e:Int):Option (Bool) :=
 (((if(e == 32)=true then some (true)
 else(if(e == 9)=true then some (true)
 else(if(e == 10)=true then some (true)
 else some ((e == 13)))))).bind fun v1=>some v1)
theorem pL{q:Int}{j:Bool}(h:jw q=some j):
  Pure Tryz.prog 90 [.i32 q] (aM (bk false [⟨.bool,j⟩])):=by
 refine PB Tryz.func90 (fun Bw w0=>?_);unfold jw at h;refine G (af (bn h (fun v1=>aA [(2,.bo v1)] [] 0) (fun v1 h=>?_) (fun v1 h=>?_)))
 ·rcases aL h with⟨e,h⟩ | ⟨e,h⟩
  ·exact bu ⟨[(2,true),(5,true)],[]⟩ [(3,5,oc e)] (eN h (gg [] []))
  rcases aL h with⟨f,h⟩ | ⟨f,h⟩
  ·exact bu ⟨[(2,false),(5,false),(6,true),(9,true)],[]⟩ [(3,4,an e),(5,5,oc e),(7,9,oc f)] (eN h (gg [] []))
  rcases aL h with⟨p,h⟩ | ⟨p,h⟩
  ·exact bu ⟨[(2,false),(5,false),(6,false),(9,false),(10,true),(13,true)],[]⟩ [(3,4,an e),(5,5,oc e),(7,8,an f),(9,9,oc f),(11,13,oc p)] (eN h (gg [] []))
  exact bu ⟨[(2,false),(5,false),(6,false),(9,false),(10,false),(13,false)],[]⟩ [(3,4,an e),(5,5,oc e),(7,8,an f),(9,9,oc f),(11,12,an p),(13,13,oc p)] (eN h (gg [] []))
 refine ab (aw ?_);obtain rfl:=sI h;exact RI [.bool]
def j8(e f j:Int):Option (Bool) :=
 some (e == 45)
theorem qw{f j p:Int}{e:Bool}(h:j8 f j p=some e):
  Pure Tryz.prog 138 [.agg [.i32 f,.i64 j,.i64 p]] (aM (bk false [⟨.bool,e⟩])):=by
 refine PB Tryz.func138 (fun Bw w0=>?_);unfold j8 at h;refine G (G (aw ?_));obtain rfl:=sI h;exact RI [.bool]
def mB(f:XK):(Int)→Option ((Int)⊕((Unit)⊕(Int))):=fun e =>
 (if(decide (e<(f.length:Int)))=true then(if 0≤e∧e<(f.length:Int)then((j8 ((f.getD e.toNat (0,0,0)).1) ((f.getD e.toNat (0,0,0)).2.1) ((f.getD e.toNat (0,0,0)).2.2)).bind fun j =>
 (if j=true then some (Sum.inr (Sum.inr e))
 else some (Sum.inl (i64.wrap (e+1)))))else none)
 else some (Sum.inr (Sum.inl ())))
def mw(e:XK):Option (Int) :=
 ((iter (mB e) (0:Int)).bind fun(f:((Unit)⊕(Int)))=>match f with
 | .inl _=>some (-1:Int)
 | .inr (j)=>some j)
theorem sB(f:Bool){u:XK}{j:Int}(h:mw u=some j):
  Pure Tryz.prog 172 [.p f (.slice (.prod (.int .i32) Y2)) u,.fn 138 []] (aM (bk false [⟨(.int .i64),j⟩])):=by
 refine PB Tryz.func172 (fun Bw w0=>?_);unfold mw at h;refine G (af (G (ak (jT h (fun x=>aA [(0,.p f (.slice (.prod (.int .i32) Y2)) u),(1,.fn 138 []),(7,.i64 (u.length:Int)),(8,.i64 x)] [] 0) (dc (eO Tryz.f172.ntmps 0 (fun _=>aA [] [] 0)) (fQ tb Tryz.f172.results.toList (fun z=>[⟨(.int .i64),z⟩]))) (gg [] []) (fun x o h=>?_) (fun B h e σ' A=>?_)))))
 ·unfold mB at h;refine G (af (aC h (fun C h=>?_) (fun C h=>?_)))
  ·refine ae (ab (af (ak (G ?_))));obtain⟨D,h⟩:=aE h;obtain⟨L,E,h⟩:=aj h;have q:=(qw E);refine GN ⟨[],[(5,(oP q))]⟩ [(3,3,oc D),(5,5,oc q)] (aC h (fun I h=>?_) (fun I h=>?_))
   ·refine G (aw ?_);obtain rfl:=sI h;refine az (ai (bG (aK ?_)));exact bH (RI [(.int .i64)])
   refine ae (ay (ab (Ge ?_)));exact eB h (gg [] [])
  refine au (aO ?_);obtain rfl:=sI h;refine dI (bf ?_);exact bM (gg [] [])
 rcases B with _ | z
 ·obtain⟨rfl,v⟩:=A;refine cz ?_ v;refine av (ab (G (aw ?_)));obtain rfl:=sI h;exact RI [(.int .i64)]
 obtain⟨rfl,J⟩:=A;refine az (ai ?_);obtain rfl:=sI h;exact J
def qb(e:XK):Option (Bool) :=
 ((mw e).bind fun f =>
 some (decide (f≥0)))
theorem xm(e:Bool){j:XK}{f:Bool}(h:qb j=some f):
  Pure Tryz.prog 137 [.p e (.slice (.prod (.int .i32) Y2)) j,.fn 138 []] (aM (bk false [⟨.bool,f⟩])):=by
 refine PB Tryz.func137 (fun Bw w0=>?_);unfold qb at h;refine G ?_;obtain⟨u,q,h⟩:=aj h;refine GP 2 (sB e q) (aw ?_);obtain rfl:=sI h;exact RI [.bool]
def hJ(e:XK):Option (Bool) :=
 ((qb e).bind fun f =>
 some f)
theorem mU(e:Bool){j:XK}{f:Bool}(h:hJ j=some f):
  Pure Tryz.prog 92 [.p e (.slice (.prod (.int .i32) Y2)) j] (aM (bk false [⟨.bool,f⟩])):=by
 refine PB Tryz.func92 (fun Bw w0=>?_);unfold hJ at h;refine G ?_;obtain⟨u,q,h⟩:=aj h;refine GP 1 (xm e q) (aw ?_);obtain rfl:=sI h;exact RI [.bool]
def tL(p:XK)(u:Bool):(QK×QK×Bool×Int×Int)→Option ((QK×QK×Bool×Int×Int)⊕((QK×QK×Int)⊕(Z8×Bool))):=fun(e,j,v,q,f) =>
 (if(decide (f<(p.length:Int)))=true then(if 0≤f∧f<(p.length:Int)then(if(((p.getD f.toNat (0,0,0)).1) == 65533)=true then some (Sum.inr (Sum.inr ((e,j),false)))
 else(((if(((p.getD f.toNat (0,0,0)).1) == 45)=true then some (true)
 else(if(decide (((p.getD f.toNat (0,0,0)).1)≥48))=true then some ((decide (((p.getD f.toNat (0,0,0)).1)≤57)))
 else some (false)))).bind fun x=>(((if x=true then(((if v=true then some (true)
 else(if(!(u == (((p.getD f.toNat (0,0,0)).1) == 45)))=true then some (true)
 else(if u=true then(if((e.length:Int) == 0)=true then some (true)
 else some ((f == (i64.wrap ((p.length:Int) - 1)))))
 else some (false))))).bind fun z=>(if z=true then some ((Sum.inr ((e,j),false)))
 else(if 0≤(e.length:Int)∧(e.length:Int)<(j.length:Int)then(if(e.length:Int).toNat<j.length then(if(!u)=true then(if 0≤(e.length:Int)∧(e.length:Int)<((j.set ((e.length:Int).toNat) 1).length:Int)then(if(e.length:Int).toNat<(j.set ((e.length:Int).toNat) 1).length then some ((Sum.inl (e,((j.set ((e.length:Int).toNat) 1).set ((e.length:Int).toNat) (u8.wrap (i32.wrap (((p.getD f.toNat (0,0,0)).1) - 48)))),true,q)))else none)else none)
 else some ((Sum.inl (e,(j.set ((e.length:Int).toNat) 1),true,q))))else none)else none)))
 else(if(((p.getD f.toNat (0,0,0)).1) == 46)=true then(((if u=true then some (true)
 else(if(!(f == 0))=true then some ((!(f == (i64.wrap ((p.length:Int) - 1)))))
 else some (false)))).bind fun A=>(if A=true then some ((Sum.inr ((e,j),false)))
 else(if(e.length+([46]:QK).length)*4≤140737488355328∧e.length+([46]:QK).length≤9223372036854775807 then(if(j.length+([0]:QK).length)*1≤140737488355328∧j.length+([0]:QK).length≤9223372036854775807 then some ((Sum.inl ((e++([46]:QK)),(j++([0]:QK)),false,q)))else none)else none)))
 else(if(e.length+([(p.getD f.toNat (0,0,0)).1]:QK).length)*4≤140737488355328∧e.length+([(p.getD f.toNat (0,0,0)).1]:QK).length≤9223372036854775807 then(if(j.length+([0]:QK).length)*1≤140737488355328∧j.length+([0]:QK).length≤9223372036854775807 then some ((Sum.inl ((e++([(p.getD f.toNat (0,0,0)).1]:QK)),(j++([0]:QK)),false,(i64.wrap (q+1)))))else none)else none)))).bind fun(B:((QK×QK×Bool×Int)⊕(Z8×Bool)))=>match B with
 | .inl (C,D,E,I)=>some (Sum.inl (C,D,E,I,(i64.wrap (f+1))))
 | .inr ((J,L))=>some (Sum.inr (Sum.inr (J,L))))))else none)
 else some (Sum.inr (Sum.inl (e,j,q))))
def qY(u:XK):Option (Z8×Bool) :=
 ((hJ u).bind fun v =>
 ((iter (tL u v) (([]:QK),([0]:QK),false,0,0)).bind fun(f:((QK×QK×Int)⊕(Z8×Bool)))=>match f with
 | .inl (e,v30,j)=>(((if(decide (j > 0))=true then some ((decide ((e.length:Int)≤24)))
 else some (false))).bind fun p=>some ((e,v30),p))
 | .inr ((x,q))=>some (x,q)))
theorem zP(z:Bool){A:XK}{M:Z8×Bool}(h:qY A=some M):
  Pure Tryz.prog 91 [.p z (.slice (.prod (.int .i32) Y2)) A] (aM (bk false [⟨qx,M.1⟩,⟨.bool,M.2⟩])):=by
 refine PB Tryz.func91 (fun Bw w0=>?_);unfold qY at h;refine G ?_;obtain⟨r2,q2,h⟩:=aj h;refine GP 1 (mU z q2) (G (G (G (af (G (ak (jT h (fun(E,J,N,L,x)=>aA [(0,.p z (.slice (.prod (.int .i32) Y2)) A),(2,.adr 0 0 2 0),(4,.bo r2),(5,.adr 1 0 2 0),(6,.bo N),(7,.i64 L),(17,.p z (.slice (.prod (.int .i32) Y2)) A),(18,.i64 (A.length:Int)),(19,.i64 x)] (IA E J) 4) (dc (eO Tryz.f91.ntmps 0 (fun(O,v30,a2)=>aA [(2,.adr 0 0 2 0),(5,.adr 1 0 2 0),(7,.i64 a2)] (IA O v30) 4)) (fQ tb Tryz.f91.results.toList (fun(r9,a3)=>[⟨qx,r9⟩,⟨.bool,a3⟩]))) (gg [.nilC 56 0 112 21 (.int .i32)] [0,56,112,40]) (fun y o h=>?_) (fun b7 h e σ' hq=>?_))))))))
 ·obtain⟨E,J,N,L,x⟩:=y;unfold tL at h;refine G (af (aC h (fun a4 h=>?_) (fun a4 h=>?_)))
  ·refine ae (ab (af (ak (GC 1 h (fun h=>G (ak (G (aC h (fun a5 h=>?_) (fun a5 h=>?_)))))))))
   ·refine G (mi [.frzC 0 0,.frzC 0 1] (by kernel_rfl) (aw ?_));obtain rfl:=sI h;refine az (az (ai (bG (aK ?_))));exact bH (RI [qx,.bool])
   refine af (bn h (fun V=>aA [(0,.p z (.slice (.prod (.int .i32) Y2)) A),(2,.adr 0 0 2 0),(4,.bo r2),(5,.adr 1 0 2 0),(6,.bo N),(7,.i64 L),(8,.i64 x),(9,.adr 4 0 3 0),(10,.i64 (E.length:Int)),(17,.p z (.slice (.prod (.int .i32) Y2)) A),(18,.i64 (A.length:Int)),(19,.i64 x),(46,.bo V)] (Km E J ((A.getD x.toNat (0,0,0)).1) ((A.getD x.toNat (0,0,0)).2.1) ((A.getD x.toNat (0,0,0)).2.2)) 5) (fun V h=>?_) (fun V h=>?_))
   ·rcases aL h with⟨u,h⟩ | ⟨u,h⟩
    ·exact bu ⟨[(3,true),(12,true)],[]⟩ [(4,7,oc u),(11,12,oc u)] (eN h (gg [] [0,1,2,3,36]))
    rcases aL h with⟨B,h⟩ | ⟨B,h⟩
    ·exact bu ⟨[(3,false),(7,true),(11,true),(12,false)],[]⟩ [(4,7,an u),(8,10,an B),(11,11,oc (And.intro u B)),(12,12,oc u)] (eN h (gg [] [0,1,2,3,36]))
    exact bu ⟨[(3,false),(7,false),(11,false),(12,false)],[]⟩ [(4,7,an u),(8,10,oc B),(11,11,oc (And.intro u B)),(12,12,oc u)] (eN h (gg [] [0,1,2,3,36]))
   refine ab (CQ h (dc (nV Tryz.f91.ntmps (fun(a6,a7,a8,a9)=>aA [(0,.p z (.slice (.prod (.int .i32) Y2)) A),(2,.adr 0 0 2 0),(4,.bo r2),(5,.adr 1 0 2 0),(6,.bo a8),(7,.i64 a9),(17,.p z (.slice (.prod (.int .i32) Y2)) A),(18,.i64 (A.length:Int)),(19,.i64 x)] (IA a6 a7) 4)) (fQ tb Tryz.f91.results.toList (fun(aa,ac)=>[⟨qx,aa⟩,⟨.bool,ac⟩]))) (fun ad h=>?_) (fun ad h e σ' hq=>?_))
   ·refine aC h (fun ax h=>?_) (fun ax h=>?_)
    ·refine af (af (bn h (fun X=>aA [(0,.p z (.slice (.prod (.int .i32) Y2)) A),(2,.adr 0 0 2 0),(4,.bo r2),(5,.adr 1 0 2 0),(7,.i64 L),(9,.adr 4 0 3 0),(10,.i64 (E.length:Int)),(17,.p z (.slice (.prod (.int .i32) Y2)) A),(18,.i64 (A.length:Int)),(19,.i64 x),(81,.bo X)] (Km E J ((A.getD x.toNat (0,0,0)).1) ((A.getD x.toNat (0,0,0)).2.1) ((A.getD x.toNat (0,0,0)).2.2)) 5) (fun X h=>?_) (fun X h=>?_)))
     ·rcases aL h with⟨j,h⟩ | ⟨j,h⟩
      ·exact bu ⟨[(1,true),(7,true)],[]⟩ [(2,7,oc j)] (eN h (gg [] [0,1,2,3,4]))
      rcases aL h with⟨f,h⟩ | ⟨f,h⟩
      ·exact bu ⟨[(1,false),(7,false),(8,true),(21,true)],[]⟩ [(2,6,an j),(7,7,oc j),(9,10,oc f),(20,21,oc f)] (eN h (gg [] [0,1,2,3,4]))
      rcases aL h with⟨q,h⟩ | ⟨q,h⟩
      ·rcases aL h with⟨C,h⟩ | ⟨C,h⟩
       ·exact bu ⟨[(1,false),(7,false),(8,false),(10,true),(13,true),(19,true),(20,true),(21,false)],[]⟩ [(2,6,an j),(7,7,oc j),(9,10,an f),(11,13,an q),(14,18,oc C),(19,19,oc (And.intro q C)),(20,20,oc (And.intro f q)),(21,21,oc f)] (eN h (gg [] [0,1,2,3,4]))
       exact bu ⟨[(1,false),(7,false),(8,false),(10,true),(13,false),(19,false),(20,true),(21,false)],[]⟩ [(2,6,an j),(7,7,oc j),(9,10,an f),(11,13,an q),(14,18,an C),(19,19,oc (And.intro q C)),(20,20,oc (And.intro f q)),(21,21,oc f)] (eN h (gg [] [0,1,2,3,4]))
      exact bu ⟨[(1,false),(7,false),(8,false),(10,false),(20,false),(21,false)],[]⟩ [(2,6,an j),(7,7,oc j),(9,10,an f),(11,13,oc q),(19,19,oc q),(20,20,oc (And.intro f q)),(21,21,oc f)] (eN h (gg [] [0,1,2,3,4]))
     refine ab (aC h (fun b1 h=>?_) (fun b1 h=>?_))
     ·refine G (mi [.frzC 0 0,.frzC 0 1] (by kernel_rfl) (aw ?_));obtain rfl:=sI h;refine ai (aK ?_);exact bH (RI [qx,.bool])
     refine ae (ab (G ?_));obtain⟨b8,b9,h⟩:=g2 h;refine GN a0 [(3,3,oc b8),(4,4,oc b9)] (G (aC h (fun b2 h=>?_) (fun b2 h=>?_)))
     ·obtain⟨be,bi,h⟩:=g2 h;refine bu a0 [(7,7,oc be),(8,8,oc bi)] ?_;obtain rfl:=sI h;exact bf (cU (gg [] [0,1,2,3]))
     refine ae ?_;obtain rfl:=sI h;exact bf (cU (gg [] [0,1,2,3]))
    refine G (aC h (fun b3 h=>?_) (fun b3 h=>?_))
    ·refine G (af (af (bn h (fun Y=>aA [(0,.p z (.slice (.prod (.int .i32) Y2)) A),(2,.adr 0 0 2 0),(4,.bo r2),(5,.adr 1 0 2 0),(7,.i64 L),(17,.p z (.slice (.prod (.int .i32) Y2)) A),(18,.i64 (A.length:Int)),(19,.i64 x),(116,.bo Y)] (IA E J) 4) (fun Y h=>?_) (fun Y h=>?_))))
     ·rcases aL h with⟨v,h⟩ | ⟨v,h⟩
      ·exact bu ⟨[(1,true),(8,true)],[]⟩ [(2,4,oc v),(7,8,oc v)] (eN h (gg [] [0,1,2,3]))
      rcases aL h with⟨D,h⟩ | ⟨D,h⟩
      ·exact bu ⟨[(1,false),(4,true),(7,true),(8,false)],[]⟩ [(2,4,an v),(5,6,an D),(7,7,oc (And.intro v D)),(8,8,oc v)] (eN h (gg [] [0,1,2,3]))
      exact bu ⟨[(1,false),(4,false),(7,false),(8,false)],[]⟩ [(2,4,an v),(5,6,oc D),(7,7,oc (And.intro v D)),(8,8,oc v)] (eN h (gg [] [0,1,2,3]))
     refine ab (aC h (fun b4 h=>?_) (fun b4 h=>?_))
     ·refine G (mi [.frzC 0 0,.frzC 0 1] (by kernel_rfl) (aw ?_));obtain rfl:=sI h;refine ai (aK ?_);exact bH (RI [qx,.bool])
     refine ae (ab ?_);obtain⟨bs,bv,h⟩:=g2 h;refine mZ a0 [(3,3,oc bs),(7,7,oc bv)] ?_;obtain rfl:=sI h;exact bf (cU (gg [] [0,1,28,60]))
    refine G ?_;obtain⟨b5,b6,h⟩:=g2 h;refine mZ a0 [(5,5,oc b5),(9,9,oc b6)] ?_;obtain rfl:=sI h;exact bf (cU (gg [] [0,1,101,133]))
   rcases ad with⟨a6,a7,a8,a9⟩ | ⟨aa,ac⟩
   ·obtain⟨rfl,Z⟩:=hq;refine cz ?_ Z;refine ay (ay (ab (Ge ?_)));exact eB h (gg [] [0,1,2,3])
   obtain⟨rfl,hr⟩:=hq;obtain rfl:=sI h;refine az (az (ai (bG (aK ?_))));exact bH hr
  refine au (aO ?_);obtain rfl:=sI h;refine dI (bf ?_);exact bM (gg [] [0,1,2,3])
 rcases b7 with⟨O,v30,a2⟩ | ⟨r9,a3⟩
 ·obtain⟨rfl,Z⟩:=hq;refine cz ?_ Z;refine av (ab (af (bn h (fun a1=>aA [(2,.adr 0 0 2 0),(3,.bo a1)] (LO O v30) 3) (fun a1 h=>?_) (fun a1 h=>?_))))
  ·rcases aL h with⟨I,h⟩ | ⟨I,h⟩
   ·exact mZ ⟨[(3,true),(8,true)],[]⟩ [(4,7,an I),(8,8,oc I)] (eN h (gg [] [0,2,3]))
   exact mZ ⟨[(3,false),(8,false)],[]⟩ [(4,8,oc I)] (eN h (gg [] [0,2,3]))
  refine ab (mi [.frzC 0 0,.frzC 0 1] (by kernel_rfl) (aw ?_));obtain rfl:=sI h;exact RI [qx,.bool]
 obtain⟨rfl,hr⟩:=hq;refine az (ai ?_);obtain rfl:=sI h;exact hr
def gn(f j:QK):(Int)→Option ((Int)⊕((Unit)⊕(Bool))):=fun e =>
 (if(decide (e<(f.length:Int)))=true then(if 0≤e∧e<(f.length:Int)then(if 0≤e∧e<(j.length:Int)then(if((f.getD e.toNat 0) != (j.getD e.toNat 0))=true then some (Sum.inr (Sum.inr false))
 else some (Sum.inl (i64.wrap (e+1))))else none)else none)
 else some (Sum.inr (Sum.inl ())))
def cD(e f:QK):Option (Bool) :=
 (if((e.length:Int) != (f.length:Int))=true then some false
 else((iter (gn e f) (0:Int)).bind fun(j:((Unit)⊕(Bool)))=>match j with
 | .inl _=>some true
 | .inr (p)=>some p))
theorem gq(f j:Bool){u v:QK}{q:Bool}(h:cD u v=some q):
  Pure Tryz.prog 95 [.p f (.slice (.int .i32)) u,.p j (.slice (.int .i32)) v] (aM (bk false [⟨.bool,q⟩])):=by
 refine PB Tryz.func95 (fun Bw w0=>?_);unfold cD at h;refine G (af (G (aC h (fun E h=>?_) (fun E h=>?_))))
 ·refine G (aw (ai ?_));obtain rfl:=sI h;exact RI [.bool]
 refine ae (ab (af (G (ak (jT h (fun B=>aA [(0,.p f (.slice (.int .i32)) u),(1,.p j (.slice (.int .i32)) v),(12,.i64 (u.length:Int)),(13,.i64 B)] [] 0) (dc (eO Tryz.f95.ntmps 0 (fun _=>aA [] [] 0)) (fQ tb Tryz.f95.results.toList (fun C=>[⟨.bool,C⟩]))) (gg [] []) (fun B o h=>?_) (fun I h e σ' D=>?_))))))
 ·unfold gn at h;refine G (af (aC h (fun J h=>?_) (fun J h=>?_)))
  ·refine ae (ab (af (ak (G ?_))));obtain⟨x,z,h⟩:=g2 h;refine GD a0 [(2,2,oc x),(6,6,oc z)] (aC h (fun L h=>?_) (fun L h=>?_))
   ·refine G (aw ?_);obtain rfl:=sI h;refine az (ai (bG (aK ?_)));exact bH (RI [.bool])
   refine ae (ay (ab (Ge ?_)));exact eB h (gg [] [])
  refine au (aO ?_);obtain rfl:=sI h;refine dI (bf ?_);exact bM (gg [] [])
 rcases I with _ | C
 ·obtain⟨rfl,A⟩:=D;refine cz ?_ A;refine av (ab (G (aw ?_)));obtain rfl:=sI h;exact RI [.bool]
 obtain⟨rfl,M⟩:=D;refine az (ai ?_);obtain rfl:=sI h;exact M
def nw(e p f q:QK):Option (Bool) :=
 ((cD e f).bind fun j =>
 some j)
theorem ua(e q f u:Bool){v x z A:QK}{j:Bool}(h:nw v x z A=some j):
  Pure Tryz.prog 94 [.agg [.p e (.slice (.int .i32)) v,.p q (.slice (.int .u8)) x],.fad true [.p f (.slice (.int .i32)) z,.p u (.slice (.int .u8)) A] 0] (aM (bk false [⟨.bool,j⟩])):=by
 refine PB Tryz.func94 (fun Bw w0=>?_);unfold nw at h;refine G ?_;obtain⟨C,B,h⟩:=aj h;refine GP 4 (gq e f B) (aw ?_);obtain rfl:=sI h;exact RI [.bool]
def lO(f:List Z8)(j p:QK):(Int)→Option ((Int)⊕((Unit)⊕(Int))):=fun e =>
 (if(decide (e<(f.length:Int)))=true then(if 0≤e∧e<(f.length:Int)then((nw ((f.getD e.toNat ([],([]:QK))).1) ((f.getD e.toNat ([],([]:QK))).2) j p).bind fun q =>
 (if q=true then some (Sum.inr (Sum.inr e))
 else some (Sum.inl (i64.wrap (e+1)))))else none)
 else some (Sum.inr (Sum.inl ())))
def kS(e:List Z8)(f j:QK):Option (Int) :=
 ((iter (lO e f j) (0:Int)).bind fun(p:((Unit)⊕(Int)))=>match p with
 | .inl _=>some (-1:Int)
 | .inr (q)=>some q)
theorem rV(f j q:Bool){x:List Z8}{z A:QK}{u:Int}(h:kS x z A=some u):
  Pure Tryz.prog 109 [.p f (.slice qx) x,.fn 94 [.fad true [.p j (.slice (.int .i32)) z,.p q (.slice (.int .u8)) A] 0]] (aM (bk false [⟨(.int .i64),u⟩])):=by
 refine PB Tryz.func109 (fun Bw w0=>?_);unfold kS at h;refine G (af (G (ak (jT h (fun C=>aA [(0,.p f (.slice qx) x),(1,.fn 94 [.fad true [.p j (.slice (.int .i32)) z,.p q (.slice (.int .u8)) A] 0]),(7,.i64 (x.length:Int)),(8,.i64 C)] [] 0) (dc (eO Tryz.f109.ntmps 0 (fun _=>aA [] [] 0)) (fQ tb Tryz.f109.results.toList (fun D=>[⟨(.int .i64),D⟩]))) (gg [] []) (fun C o h=>?_) (fun I h e σ' E=>?_)))))
 ·unfold lO at h;refine G (af (aC h (fun J h=>?_) (fun J h=>?_)))
  ·refine ae (ab (af (ak (G ?_))));obtain⟨L,h⟩:=aE h;obtain⟨V,M,h⟩:=aj h;have v:=(ua f f j q M);refine GN ⟨[],[(5,(oP v))]⟩ [(3,3,oc L),(5,5,oc v)] (aC h (fun N h=>?_) (fun N h=>?_))
   ·refine G (aw ?_);obtain rfl:=sI h;refine az (ai (bG (aK ?_)));exact bH (RI [(.int .i64)])
   refine ae (ay (ab (Ge ?_)));exact eB h (gg [] [])
  refine au (aO ?_);obtain rfl:=sI h;refine dI (bf ?_);exact bM (gg [] [])
 rcases I with _ | D
 ·obtain⟨rfl,B⟩:=E;refine cz ?_ B;refine av (ab (G (aw ?_)));obtain rfl:=sI h;exact RI [(.int .i64)]
 obtain⟨rfl,O⟩:=E;refine az (ai ?_);obtain rfl:=sI h;exact O
def l8(e:List Z8)(f j:QK):Option (Bool) :=
 ((kS e f j).bind fun p =>
 some (decide (p≥0)))
theorem vQ(e f j:Bool){u:List Z8}{v x:QK}{q:Bool}(h:l8 u v x=some q):
  Pure Tryz.prog 93 [.p e (.slice qx) u,.fn 94 [.fad true [.p f (.slice (.int .i32)) v,.p j (.slice (.int .u8)) x] 0]] (aM (bk false [⟨.bool,q⟩])):=by
 refine PB Tryz.func93 (fun Bw w0=>?_);unfold l8 at h;refine G ?_;obtain⟨A,z,h⟩:=aj h;refine GP 2 (rV e f j z) (aw ?_);obtain rfl:=sI h;exact RI [.bool]
end
end Go.Proofs.YtflahpmlcfhpcaaGreatDoor.T
