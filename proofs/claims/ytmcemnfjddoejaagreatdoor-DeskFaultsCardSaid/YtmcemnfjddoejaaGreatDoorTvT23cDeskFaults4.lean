import Derived.Test.YtmcemnfjddoejaaGreatDoorTvT23c0
import Derived.Test.YtmcemnfjddoejaaGreatDoorTvT23cDeskFaults1
import Derived.Test.YtmcemnfjddoejaaGreatDoorTvT23cDeskFaults3
namespace Go.Proofs.YtmcemnfjddoejaaGreatDoor.T
open Go Go.Tv Go.Proofs
open Go.IntKind (i64 u64 u8)
noncomputable section
set_option maxRecDepth 100000
set_option maxHeartbeats 4000000
def eQ(p:Qj)(D:QK)(i1 x E:Int)(C:Qq)(x4 x5 x6 x7 x8:Int)(x9:QJ):(Int×Int×Int×Int×Int×Int×Int)→Option ((Int×Int×Int×Int×Int×Int×Int)⊕(Int×Int)):=fun(e,f,I,J,z,L,v30) =>
 (if(decide (v30≤E))=true then(if 0≤(i64.wrap (v30 - 1))∧(i64.wrap (v30 - 1))<(p.length:Int)then((jE ((p.getD ((i64.wrap (v30 - 1)).toNat) (0,0,0,0)).1) ((p.getD ((i64.wrap (v30 - 1)).toNat) (0,0,0,0)).2.1) ((p.getD ((i64.wrap (v30 - 1)).toNat) (0,0,0,0)).2.2.1) ((p.getD ((i64.wrap (v30 - 1)).toNat) (0,0,0,0)).2.2.2) I x5).bind fun q =>
 (((if(((p.getD ((i64.wrap (v30 - 1)).toNat) (0,0,0,0)).2.2.2) == 1)=true then some ((i64.wrap (z+1)))
 else some (z))).bind fun u=>((fX p D (i64.wrap (v30 - 1)) v30).bind fun M =>
 (((if(M == v30)=true then some ((q,u))
 else some ((J,L)))).bind fun(j,v)=>(if(decide (j > x4))=true then some (Sum.inr (e,f))
 else((kW p D v30).bind fun(A,N) =>
 (if 0≤(i64.wrap (v30 - x))∧(i64.wrap (v30 - x))<(C.length:Int)then(((if(!N)=true then some (true)
 else(if(decide (v30<E))=true then some ((decide (((C.getD ((i64.wrap (v30 - x)).toNat) (0,0)).2)<0)))
 else some (false)))).bind fun O=>(if O=true then some (Sum.inl (e,f,q,j,u,v,(i64.wrap (v30+1))))
 else(((if(A == 3)=true then some ((i64.wrap (j+1)))
 else some (j))).bind fun V=>((fM p D i1 A V v (v30 == E) x4 x5 x6 x7 x8 x9).bind fun(B,X) =>
 (((if X=true then(if(decide (f<0))=true then some (true)
 else some ((decide ((i64.wrap (B+((C.getD ((i64.wrap (v30 - x)).toNat) (0,0)).1)))<e))))
 else some (false))).bind fun Y=>(((if Y=true then some (((i64.wrap (B+((C.getD ((i64.wrap (v30 - x)).toNat) (0,0)).1))),v30))
 else some ((e,f)))).bind fun(Z,a1)=>some (Sum.inl (Z,a1,q,j,u,v,(i64.wrap (v30+1))))))))))else none)))))))else none)
 else some (Sum.inr (e,f)))
def nb(j:Qj)(p:QK)(f q u:Int)(v:Qq)(x z A B C:Int)(D:QJ):Option (Int×Int) :=
 ((iter (eQ j p f q u v x z A B C D) (0,(-1:Int),0,0,0,0,(i64.wrap (f+1)))).bind fun(c,e)=>some (c,e))
theorem A8(c e q:Bool){J:Qj}{L:QK}{M v N:Int}{x:Qq}{O V:Int}{X Y Z:Int}{x9:QJ}{a6:Int×Int}(h:nb J L M v N x O V X Y Z x9=some a6):
  Pure Tryz.prog 126 [.agg [.p c (.slice Y9) J,.p e (.slice (.int .u8)) L],.i64 M,.i64 v,.i64 N,.p q (.slice Y2) x,.agg [.i64 O,.i64 V,.u8 X,.i64 Y,.i64 Z,.p false .flt x9]] (aJ (bc false [⟨Y2,a6⟩])):=by
 refine PB Tryz.func126 (fun Bw w0=>?_);unfold nb at h;refine G (G (G (af (G (ak (cw h (fun(z,A,a7,a1,a8,a2,v30)=>aA [(1,.i64 M),(2,.i64 v),(3,.i64 N),(4,.p q (.slice Y2) x),(6,.adr 0 0 2 0),(11,.adr 1 0 6 0),(12,.adr 2 0 2 0),(13,.adr 3 0 2 0),(14,.i64 a7),(15,.i64 a1),(16,.i64 a8),(17,.i64 a2),(18,.i64 v30)] (KC c J e L O V X Y Z x9 0 (0:Int) z A) 4) 0 (fun(a9,aa)=>aA [(12,.adr 0 0 2 0),(13,.adr 1 0 2 0)] (NX 0 (0:Int) a9 aa) 2) (gg [] [0,8,16,32]) (fun y o h=>?_) (fun b3 h=>?_)))))))
 ·obtain⟨z,A,a7,a1,a8,a2,v30⟩:=y;unfold eQ at h;refine af (G (aC h (fun b4 h=>?_) (fun b4 h=>?_)))
  ·refine ae (ab (af (ak (GC 4 h (fun h=>?_)))));obtain⟨B,b5,h⟩:=aj h;refine GP 4 (nS b5) (af (G (bn h (fun u=>aA [(1,.i64 M),(2,.i64 v),(3,.i64 N),(4,.p q (.slice Y2) x),(6,.adr 0 0 2 0),(11,.adr 1 0 6 0),(12,.adr 2 0 2 0),(13,.adr 3 0 2 0),(14,.i64 B),(15,.i64 a1),(16,.i64 u),(17,.i64 a2),(18,.i64 v30)] (KC c J e L O V X Y Z x9 0 (0:Int) z A) 4) (fun u h=>?_) (fun u h=>?_))))
   ·refine aC h (fun b6 h=>?_) (fun b6 h=>?_)
    ·exact Ge (eN h (gg [] [0,1,2,3]))
    exact ae (eN h (gg [] [0,1,2,3]))
   refine ab (af ?_);obtain⟨c2,b7,h⟩:=aj h;refine GP 4 (nP c e b7) (bn h (fun(C,D)=>aA [(1,.i64 M),(2,.i64 v),(3,.i64 N),(4,.p q (.slice Y2) x),(6,.adr 0 0 2 0),(11,.adr 1 0 6 0),(12,.adr 2 0 2 0),(13,.adr 3 0 2 0),(14,.i64 B),(15,.i64 C),(16,.i64 u),(17,.i64 D),(18,.i64 v30)] (KC c J e L O V X Y Z x9 0 (0:Int) z A) 4) (fun ac h=>?_) (fun ac h=>?_))
   ·refine aC h (fun b8 h=>?_) (fun b8 h=>?_)
    ·exact Ge (eN h (gg [] [0,1,2,3]))
    exact ae (eN h (gg [] [0,1,2,3]))
   obtain⟨C,D⟩:=ac;refine ab (af (G (aC h (fun b9 h=>?_) (fun b9 h=>?_))))
   ·refine aw (aQ (jz rfl (aQ ?_)));exact eX h (gg [] [2,3])
   refine ae (ab ?_);obtain⟨⟨ad,c3⟩,be,h⟩:=aj h;refine GP 2 (tP c e be) (GC 4 h (fun h=>af (af (bn h (fun a3=>aA [(1,.i64 M),(2,.i64 v),(3,.i64 N),(4,.p q (.slice Y2) x),(6,.adr 0 0 2 0),(11,.adr 1 0 6 0),(12,.adr 2 0 2 0),(13,.adr 3 0 2 0),(14,.i64 B),(15,.i64 C),(16,.i64 u),(17,.i64 D),(18,.i64 v30),(20,.u8 ad),(22,.adr 4 0 2 0),(86,.bo a3)] (LM c J e L O V X Y Z x9 0 (0:Int) z A ((x.getD ((i64.wrap (v30 - v)).toNat) (0,0)).1) ((x.getD ((i64.wrap (v30 - v)).toNat) (0,0)).2)) 5) (fun a3 h=>?_) (fun a3 h=>?_)))))
   ·rcases aI h with⟨f,h⟩ | ⟨f,h⟩
    ·exact bz ⟨[(2,true),(11,true)],[]⟩ [(3,6,oc f),(10,11,oc f)] (eN h (gg [] [0,1,2,3,148]))
    rcases aI h with⟨E,h⟩ | ⟨E,h⟩
    ·exact bz ⟨[(2,false),(6,true),(10,true),(11,false)],[]⟩ [(3,6,an f),(7,9,an E),(10,10,oc (And.intro f E)),(11,11,oc f)] (eN h (gg [] [0,1,2,3,148]))
    exact bz ⟨[(2,false),(6,false),(10,false),(11,false)],[]⟩ [(3,6,an f),(7,9,oc E),(10,10,oc (And.intro f E)),(11,11,oc f)] (eN h (gg [] [0,1,2,3,148]))
   refine ab (aC h (fun bi h=>?_) (fun bi h=>?_))
   ·refine aw (aQ (az (ab (Ge ?_))));exact eB h (gg [] [0,1,2,3])
   refine ae (ab (G (af (G (bn h (fun a4=>aA [(1,.i64 M),(2,.i64 v),(3,.i64 N),(4,.p q (.slice Y2) x),(6,.adr 0 0 2 0),(11,.adr 1 0 6 0),(12,.adr 2 0 2 0),(13,.adr 3 0 2 0),(14,.i64 B),(15,.i64 C),(16,.i64 u),(17,.i64 D),(18,.i64 v30),(20,.u8 ad),(22,.adr 4 0 2 0),(23,.i64 a4)] (LM c J e L O V X Y Z x9 0 (0:Int) z A ((x.getD ((i64.wrap (v30 - v)).toNat) (0,0)).1) ((x.getD ((i64.wrap (v30 - v)).toNat) (0,0)).2)) 5) (fun a4 h=>?_) (fun a4 h=>?_))))))
   ·refine aC h (fun bs h=>?_) (fun bs h=>?_)
    ·exact Ge (eN h (gg [] [0,1,2,3,4]))
    exact ae (eN h (gg [] [0,1,2,3,4]))
   refine ab ?_;obtain⟨⟨bv,c4⟩,bx,h⟩:=aj h;refine GP 9 (zd c e bx) (af (bn h (fun a5=>aA [(1,.i64 M),(2,.i64 v),(3,.i64 N),(4,.p q (.slice Y2) x),(6,.adr 0 0 2 0),(11,.adr 1 0 6 0),(12,.adr 2 0 2 0),(13,.adr 3 0 2 0),(14,.i64 B),(15,.i64 C),(16,.i64 u),(17,.i64 D),(18,.i64 v30),(22,.adr 4 0 2 0),(24,.i64 bv),(119,.bo a5)] (LM c J e L O V X Y Z x9 0 (0:Int) z A ((x.getD ((i64.wrap (v30 - v)).toNat) (0,0)).1) ((x.getD ((i64.wrap (v30 - v)).toNat) (0,0)).2)) 5) (fun a5 h=>?_) (fun a5 h=>?_)))
   ·rcases aI h with⟨j,h⟩ | ⟨j,h⟩
    ·rcases aI h with⟨I,h⟩ | ⟨I,h⟩
     ·exact bz ⟨[(1,true),(5,true),(13,true),(14,true)],[]⟩ [(2,5,an j),(6,12,oc I),(13,13,oc (And.intro j I)),(14,14,oc j)] (eN h (gg [] [0,1,2,3,4]))
     exact bz ⟨[(1,true),(5,false),(13,false),(14,true)],[]⟩ [(2,5,an j),(6,12,an I),(13,13,oc (And.intro j I)),(14,14,oc j)] (eN h (gg [] [0,1,2,3,4]))
    exact bz ⟨[(1,false),(14,false)],[]⟩ [(2,5,oc j),(13,14,oc j)] (eN h (gg [] [0,1,2,3,4]))
   refine ab (bn h (fun(ax,b1)=>aA [(1,.i64 M),(2,.i64 v),(3,.i64 N),(4,.p q (.slice Y2) x),(6,.adr 0 0 2 0),(11,.adr 1 0 6 0),(12,.adr 2 0 2 0),(13,.adr 3 0 2 0),(14,.i64 B),(15,.i64 C),(16,.i64 u),(17,.i64 D),(18,.i64 v30)] (KC c J e L O V X Y Z x9 0 (0:Int) ax b1) 4) (fun b2 h=>?_) (fun b2 h=>?_))
   ·refine aC h (fun c1 h=>?_) (fun c1 h=>?_)
    ·exact Ge (eN h (gg [] [0,1,2,3]))
    exact ae (eN h (gg [] [0,1,2,3]))
   obtain⟨ax,b1⟩:=b2;refine ay (ab (Ge ?_));exact eB h (gg [] [0,1,2,3])
  refine aw (aQ ?_);exact eX h (gg [] [2,3])
 obtain⟨a9,aa⟩:=b3;refine az (ab (G (au ?_)));obtain rfl:=sI h;exact RI [Y2]
def fQ(j:Qj)(q p:Int):vR→Option (vR⊕QK):=fun(e,f) =>
 (if(decide (f<q))=true then(if 0≤f∧f<(j.length:Int)then(if 0≤(i64.wrap ((e.length:Int) - 1))∧(i64.wrap ((e.length:Int) - 1))<(e.length:Int)then(if(i64.wrap ((e.length:Int) - 1)).toNat<e.length then((jE ((j.getD f.toNat (0,0,0,0)).1) ((j.getD f.toNat (0,0,0,0)).2.1) ((j.getD f.toNat (0,0,0,0)).2.2.1) ((j.getD f.toNat (0,0,0,0)).2.2.2) (e.getD ((i64.wrap ((e.length:Int) - 1)).toNat) 0) p).bind fun u =>
 (if(e.length+([u]:QK).length)*8≤140737488355328∧e.length+([u]:QK).length≤9223372036854775807 then some (Sum.inl ((e++([u]:QK)),(i64.wrap (f+1))))else none))else none)else none)else none)
 else some (Sum.inr e))
def jj(q:Qj)(_:QK)(e p f:Int):Option QK :=
 ((iter (fQ q p f) (([0]:QK),e)).bind fun j=>some j)
theorem oV(u v:Bool){A:Qj}{B:QK}{c q e:Int}{x:QK}(h:jj A B c q e=some x):
  Pure Tryz.prog 90 [.agg [.p u (.slice Y9) A,.p v (.slice (.int .u8)) B],.i64 c,.i64 q,.i64 e] (aJ (bc false [⟨(.slice (.int .i64)),x⟩])):=by
 refine PB Tryz.func90 (fun Bw w0=>?_);unfold jj at h;refine G (G (af (G (ak (cw h (fun(f,J)=>aA [(2,.i64 q),(3,.i64 e),(4,.adr 0 0 2 0),(9,.sl 1),(10,.i64 J)] (On u A v B f) 2) 0 (fun j=>aA [(9,.sl 0)] [(0,.arr 3 (.int .i64) j)] 1) (gg [] [0,16]) (fun y o h=>?_) (fun j h=>?_))))))
 ·obtain⟨f,J⟩:=y;unfold fQ at h;refine af (G (aC h (fun L h=>?_) (fun L h=>?_)))
  ·refine ae (ab (af (ak ?_)));obtain⟨C,D,E,h⟩:=g3 h;obtain⟨N,M,h⟩:=aj h;obtain⟨I,h⟩:=aE h;have z:=(nS M);refine kY ⟨[],[(13,(oP z))]⟩ [(4,4,oc C),(10,10,oc D),(11,11,oc E),(13,13,oc z),(15,15,oc I)] (ay (ab (Ge ?_)));exact eB h (gg [] [0,146])
  refine aw (aQ ?_);exact eX h (gg [] [1])
 refine az (ab (G (au ?_)));obtain rfl:=sI h;exact RI [(.slice (.int .i64))]
def oN(q:Qj)(u:QK)(c p f j:Int):Option (Int) :=
 ((fX q u c p).bind fun v =>
 ((jj q u c v j).bind fun e =>
 (if 0≤(i64.wrap ((e.length:Int) - 1))∧(i64.wrap ((e.length:Int) - 1))<(e.length:Int)then(((if(f == 3)=true then some ((i64.wrap ((e.getD ((i64.wrap ((e.length:Int) - 1)).toNat) 0)+1)))
 else some ((e.getD ((i64.wrap ((e.length:Int) - 1)).toNat) 0)))).bind fun x=>some x)else none)))
theorem zb(j q:Bool){B:Qj}{C:QK}{c u:Int}{e f v:Int}(h:oN B C c u e f=some v):
  Pure Tryz.prog 149 [.agg [.p j (.slice Y9) B,.p q (.slice (.int .u8)) C],.i64 c,.i64 u,.u8 e,.i64 f] (aJ (bc false [⟨(.int .i64),v⟩])):=by
 refine PB Tryz.func149 (fun Bw w0=>?_);unfold oN at h;refine G ?_;obtain⟨J,D,h⟩:=aj h;obtain⟨L,E,h⟩:=aj h;have x:=(nP j q D);have z:=(oV j q E);refine GD ⟨[],[(5,(oP x)),(7,(oP z))]⟩ [(5,5,oc x),(7,7,oc z)] (GC 4 h (fun h=>af (G (bn h (fun A=>aA [(12,.i64 A)] [] 0) (fun A h=>?_) (fun A h=>?_)))))
 ·refine aC h (fun I h=>?_) (fun I h=>?_)
  ·exact Ge (eN h (gg [] []))
  exact ae (eN h (gg [] []))
 refine ab (G (au ?_));obtain rfl:=sI h;exact RI [(.int .i64)]
def jD(p:Qj)(q:QK)(c f e j:Int):Option Z2 :=
 ((oN p q c f e j).bind fun u =>
 some (c,f,u,e))
theorem oE(j q:Bool){x:Qj}{z:QK}{c u:Int}{e f:Int}{v:Int×Int×Int×Int}(h:jD x z c u e f=some v):
  Pure Tryz.prog 127 [.agg [.p j (.slice Y9) x,.p q (.slice (.int .u8)) z],.i64 c,.i64 u,.u8 e,.i64 f] (aJ (bc false [⟨Y9,v⟩])):=by
 refine PB Tryz.func127 (fun Bw w0=>?_);unfold jD at h;refine G ?_;obtain⟨B,A,h⟩:=aj h;refine GP 7 (zb j q A) (au ?_);obtain rfl:=sI h;exact RI [Y9]
def fS(q:Qj)(p:QK)(e u v x z A B:Int)(C:QJ):(Qq×Int)→Option ((Qq×Int)⊕Qq):=fun(f,c) =>
 (if(decide (c≥e))=true then(if 0≤(i64.wrap (c - e))∧(i64.wrap (c - e))<(f.length:Int)then(if(i64.wrap (c - e)).toNat<f.length then(((if(c == e)=true then some (true)
 else(if 0≤c∧c<(p.length:Int)then some (((p.getD c.toNat 0) != 0))else none))).bind fun v10=>(((if v10=true then((nb q p c e u (f.set ((i64.wrap (c - e)).toNat) (0,(-1:Int))) v x z A B C).bind fun j =>
 (if 0≤(i64.wrap (c - e))∧(i64.wrap (c - e))<((f.set ((i64.wrap (c - e)).toNat) (0,(-1:Int))).length:Int)then(if(i64.wrap (c - e)).toNat<(f.set ((i64.wrap (c - e)).toNat) (0,(-1:Int))).length then some (((f.set ((i64.wrap (c - e)).toNat) (0,(-1:Int))).set ((i64.wrap (c - e)).toNat) (j.1,j.2)))else none)else none))
 else some ((f.set ((i64.wrap (c - e)).toNat) (0,(-1:Int)))))).bind fun v11=>some (Sum.inl (v11,(i64.wrap (c - 1))))))else none)else none)
 else some (Sum.inr f))
def fZ(u:Qj)(q:QK)(j v x:Int)(p:Qq):(Qj×Int)→Option ((Qj×Int)⊕Qj):=fun(f,e) =>
 (if(decide (e<v))=true then(if 0≤(i64.wrap (e - j))∧(i64.wrap (e - j))<(p.length:Int)then(if(i64.wrap (e - j)).toNat<p.length then(if 0≤(p.getD ((i64.wrap (e - j)).toNat) (0,0)).2∧(p.getD ((i64.wrap (e - j)).toNat) (0,0)).2<(q.length:Int)then((jD u q e ((p.getD ((i64.wrap (e - j)).toNat) (0,0)).2) (q.getD (((p.getD ((i64.wrap (e - j)).toNat) (0,0)).2).toNat) 0) x).bind fun c =>
 (if(f.length+([(c.1,c.2.1,c.2.2.1,c.2.2.2)]:Qj).length)*32≤140737488355328∧f.length+([(c.1,c.2.1,c.2.2.1,c.2.2.2)]:Qj).length≤9223372036854775807 then some (Sum.inl ((f++([(c.1,c.2.1,c.2.2.1,c.2.2.2)]:Qj)),(p.getD ((i64.wrap (e - j)).toNat) (0,0)).2))else none))else none)else none)else none)
 else some (Sum.inr f))
def lI(p:Qj)(q:QK)(c e v u z A B:Int)(C:QJ):Option (Qj×Bool) :=
 (if(decide (c≥e))=true then some (([]:Qj),true)
 else(if 0≤(i64.wrap ((i64.wrap (e - c))+1))∧(i64.wrap ((i64.wrap (e - c))+1))≤(i64.wrap ((i64.wrap (e - c))+1))∧16*(i64.wrap ((i64.wrap (e - c))+1))≤281474976710656∧(i64.wrap ((i64.wrap (e - c))+1))≤9223372036854775807 then((iter (fS p q c e v u z A B C) ((List.replicate (i64.wrap ((i64.wrap (e - c))+1)).toNat (0,0)),(i64.wrap (e - 1)))).bind fun f=>(if 0≤(0:Int)∧0<(f.length:Int)then(if(0:Int).toNat<f.length then(if(decide (((f.getD ((0:Int).toNat) (0,0)).2)<0))=true then some (([]:Qj),false)
 else((iter (fZ p q c e u f) (([]:Qj),c)).bind fun j=>some (j,true)))else none)else none))else none))
theorem yZ(c e:Bool){u:Qj}{v:QK}{q x:Int}{z A:Int}{B C D:Int}{E:QJ}{I:Qj×Bool}(h:lI u v q x z A B C D E=some I):
  Pure Tryz.prog 87 [.agg [.p c (.slice Y9) u,.p e (.slice (.int .u8)) v],.i64 q,.i64 x,.agg [.i64 z,.i64 A,.u8 B,.i64 C,.i64 D,.p false .flt E]] (aJ (bc false [⟨(.slice Y9),I.1⟩,⟨.bool,I.2⟩])):=by
 refine PB Tryz.func87 (fun Bw w0=>?_);unfold lI at h;refine G (af (G (aC h (fun B1 h=>?_) (fun B1 h=>?_))))
 ·refine G (au (ah ?_));obtain rfl:=sI h;exact RI [(.slice Y9),.bool]
 refine ae (ab (GC 4 h (fun h=>af (G (ak (cw h (fun(O,J)=>aA [(1,.i64 q),(2,.i64 x),(4,.adr 0 0 2 0),(7,.adr 1 0 6 0),(10,.sl 2),(11,.i64 J)] (JO c u e v z A B C D E O) 3) 0 (fun V=>aA [(1,.i64 q),(2,.i64 x),(4,.adr 0 0 2 0),(7,.adr 1 0 6 0),(10,.sl 2)] (JO c u e v z A B C D E V) 3) (gg [] [0,8,88]) (fun y o h=>?_) (fun V h=>?_)))))))
 ·obtain⟨O,J⟩:=y;unfold fS at h;refine af (G (aC h (fun X h=>?_) (fun X h=>?_)))
  ·refine ae (ab (af (ak ?_)));obtain⟨Y,Z,h⟩:=g2 h;refine GN a0 [(5,5,oc Y),(6,6,oc Z)] (af (bn h (fun v10=>aA [(1,.i64 q),(2,.i64 x),(4,.adr 0 0 2 0),(7,.adr 1 0 6 0),(10,.sl 2),(11,.i64 J),(46,.bo v10)] (JO c u e v z A B C D E (O.set ((i64.wrap (J - q)).toNat) (0,(-1:Int)))) 3) (fun v10 h=>?_) (fun v10 h=>?_)))
   ·rcases aI h with⟨f,h⟩ | ⟨f,h⟩
    ·exact bz ⟨[(3,true),(10,true)],[]⟩ [(4,10,oc f)] (eN h (gg [] [0,1,2]))
    obtain⟨a1,h⟩:=aE h;exact bz ⟨[(3,false),(10,false)],[]⟩ [(4,6,an f),(7,7,oc (And.intro f a1)),(8,9,an f),(10,10,oc f)] (eN h (gg [] [0,1,2]))
   refine ab (bn h (fun v11=>aA [(1,.i64 q),(2,.i64 x),(4,.adr 0 0 2 0),(7,.adr 1 0 6 0),(10,.sl 2),(11,.i64 J)] (JO c u e v z A B C D E v11) 3) (fun v11 h=>?_) (fun v11 h=>?_))
   ·refine aC h (fun a2 h=>?_) (fun a2 h=>?_)
    ·obtain⟨b2,a3,h⟩:=aj h;obtain⟨a4,a5,h⟩:=g2 h;have j:=(A8 c e true a3);exact bz ⟨[],[(10,(oP j))]⟩ [(10,10,oc j),(11,11,oc a4),(12,12,oc a5)] (eN h (gg [] [0,1,2]))
    exact ae (eN h (gg [] [0,1,2]))
   refine ay (ab (Ge ?_));exact eB h (gg [] [0,1,2])
  refine aw (aQ ?_);exact eX h (gg [] [0,1,2])
 refine az (ab (af ?_));obtain⟨a6,a7,h⟩:=g2 h;refine GN a0 [(1,1,oc a6),(3,3,oc a7)] (aC h (fun a8 h=>?_) (fun a8 h=>?_))
 ·refine G (au (ah ?_));obtain rfl:=sI h;exact RI [(.slice Y9),.bool]
 refine ae (ab (G (af (G (ak (cw h (fun(L,M)=>aA [(1,.i64 q),(2,.i64 x),(4,.adr 0 0 2 0),(7,.adr 1 0 6 0),(10,.sl 2),(12,.sl 3),(13,.i64 M)] (Oe c u e v z A B C D E V L) 4) 2 (fun N=>aA [(12,.sl 0)] [(0,.arr 190 Y9 N)] 1) (gg [.nilS 12 67 190 Y9] [0,1,2,67]) (fun y o h=>?_) (fun N h=>?_)))))))
 ·obtain⟨L,M⟩:=y;unfold fZ at h;refine af (G (aC h (fun a9 h=>?_) (fun a9 h=>?_)))
  ·refine ae (ab (ak ?_));obtain⟨aa,ac,h⟩:=g2 h;refine GN a0 [(4,4,oc aa),(6,6,oc ac)] ?_;obtain⟨ad,h⟩:=aE h;obtain⟨b3,ax,h⟩:=aj h;obtain⟨b1,h⟩:=aE h;have j:=(oE c e ax);refine GD ⟨[],[(11,(oP j))]⟩ [(7,7,oc ad),(11,11,oc j),(13,13,oc b1)] (Ge (ay ?_));exact eB h (gg [] [0,1,2,196])
  refine aw (aQ ?_);exact eX h (gg [] [3])
 refine az (ab (G (au ?_)));obtain rfl:=sI h;exact RI [(.slice Y9),.bool]
def gQ(f:Qj)(D:QK)(I E J:Int):(Int×Int×Int×Int×Int)→Option ((Int×Int×Int×Int×Int)⊕(Int×Int)):=fun(j,v20,u,v,e) =>
 (if(decide (e≤I))=true then(if 0≤(i64.wrap (e - 1))∧(i64.wrap (e - 1))<(f.length:Int)then((jE ((f.getD ((i64.wrap (e - 1)).toNat) (0,0,0,0)).1) ((f.getD ((i64.wrap (e - 1)).toNat) (0,0,0,0)).2.1) ((f.getD ((i64.wrap (e - 1)).toNat) (0,0,0,0)).2.2.1) ((f.getD ((i64.wrap (e - 1)).toNat) (0,0,0,0)).2.2.2) u J).bind fun q =>
 ((fX f D (i64.wrap (e - 1)) e).bind fun x =>
 (((if(x == e)=true then some (q)
 else some (v))).bind fun p=>(if(decide (p > E))=true then some (Sum.inr (j,v20))
 else((kW f D e).bind fun(z,A) =>
 (((if A=true then(if(z != 3)=true then some (true)
 else some ((decide (p<E))))
 else some (false))).bind fun B=>(((if B=true then some (e)
 else some (j))).bind fun C=>some (Sum.inl (C,e,q,p,(i64.wrap (e+1)))))))))))else none)
 else some (Sum.inr (j,v20)))
def nq(x:Qj)(j:QK)(v u C z _ _ _:Int)(_:QJ):Option Z2 :=
 ((iter (gQ x j u C z) ((-1:Int),(i64.wrap (v+1)),0,0,(i64.wrap (v+1)))).bind fun(f,e)=>(if(decide (f≥0))=true then(if 0≤f∧f<(j.length:Int)then((jD x j v f (j.getD f.toNat 0) z).bind fun p =>
 some (p.1,p.2.1,p.2.2.1,p.2.2.2))else none)
 else(((if(e == u)=true then(if 0≤u∧u<(j.length:Int)then some ((j.getD u.toNat 0))else none)
 else some (4))).bind fun A=>(((if(decide (e<u))=true then(if 0≤e∧e<(j.length:Int)then some (((j.getD e.toNat 0) == 1))else none)
 else some (false))).bind fun v30=>(((if v30=true then some (1)
 else some (A))).bind fun B=>((jD x j v e B z).bind fun q =>
 some (q.1,q.2.1,q.2.2.1,q.2.2.2)))))))
theorem Bk(c e:Bool){z:Qj}{A:QK}{B O:Int}{C D:Int}{E I J:Int}{L:QJ}{a1:Int×Int×Int×Int}(h:nq z A B O C D E I J L=some a1):
  Pure Tryz.prog 128 [.agg [.p c (.slice Y9) z,.p e (.slice (.int .u8)) A],.i64 B,.i64 O,.agg [.i64 C,.i64 D,.u8 E,.i64 I,.i64 J,.p false .flt L]] (aJ (bc false [⟨Y9,a1⟩])):=by
 refine PB Tryz.func128 (fun Bw w0=>?_);unfold nq at h;refine G (G (G (af (G (ak (cw h (fun(M,v20,a2,a3,j)=>aA [(1,.i64 B),(2,.i64 O),(4,.adr 0 0 2 0),(7,.adr 1 0 6 0),(8,.adr 2 0 4 0),(9,.i64 M),(10,.i64 v20),(11,.i64 a2),(12,.i64 a3),(13,.i64 j)] (Da c z e A C D E I J L 0 (0:Int) (0:Int) (0:Int)) 3) 0 (fun(a4,u)=>aA [(1,.i64 B),(2,.i64 O),(4,.adr 0 0 2 0),(7,.adr 1 0 6 0),(8,.adr 2 0 4 0),(9,.i64 a4),(10,.i64 u)] (Da c z e A C D E I J L 0 (0:Int) (0:Int) (0:Int)) 3) (gg [] [0,8,16]) (fun y o h=>?_) (fun a6 h=>?_)))))))
 ·obtain⟨M,v20,a2,a3,j⟩:=y;unfold gQ at h;refine af (G (aC h (fun a7 h=>?_) (fun a7 h=>?_)))
  ·refine ae (ab (af (ak (GC 4 h (fun h=>af ?_)))));obtain⟨V,a8,h⟩:=aj h;refine GP 4 (nS a8) ?_;obtain⟨b8,a9,h⟩:=aj h;refine GP 4 (nP c e a9) (bn h (fun v=>aA [(1,.i64 B),(2,.i64 O),(4,.adr 0 0 2 0),(7,.adr 1 0 6 0),(8,.adr 2 0 4 0),(9,.i64 M),(10,.i64 v20),(11,.i64 V),(12,.i64 v),(13,.i64 j)] (Da c z e A C D E I J L 0 (0:Int) (0:Int) (0:Int)) 3) (fun v h=>?_) (fun v h=>?_))
   ·refine aC h (fun aa h=>?_) (fun aa h=>?_)
    ·exact Ge (eN h (gg [] [0,1,2]))
    exact ae (eN h (gg [] [0,1,2]))
   refine ab (af (G (aC h (fun ac h=>?_) (fun ac h=>?_))))
   ·refine aw (aQ (jz rfl (aQ ?_)));exact eX h (gg [] [0,1,2])
   refine ae (ab (G ?_));obtain⟨⟨b9,be⟩,ad,h⟩:=aj h;refine GP 2 (tP c e ad) (af (bn h (fun X=>aA [(1,.i64 B),(2,.i64 O),(4,.adr 0 0 2 0),(7,.adr 1 0 6 0),(8,.adr 2 0 4 0),(9,.i64 M),(10,.i64 j),(11,.i64 V),(12,.i64 v),(13,.i64 j),(67,.bo X)] (Da c z e A C D E I J L 0 (0:Int) (0:Int) (0:Int)) 3) (fun X h=>?_) (fun X h=>?_)))
   ·rcases aI h with⟨f,h⟩ | ⟨f,h⟩
    ·rcases aI h with⟨x,h⟩ | ⟨x,h⟩
     ·exact bz ⟨[(1,true),(4,true),(9,true),(10,true)],[]⟩ [(2,4,an f),(5,8,oc x),(9,9,oc (And.intro f x)),(10,10,oc f)] (eN h (gg [] [0,1,2]))
     exact bz ⟨[(1,true),(4,false),(9,false),(10,true)],[]⟩ [(2,4,an f),(5,8,an x),(9,9,oc (And.intro f x)),(10,10,oc f)] (eN h (gg [] [0,1,2]))
    exact bz ⟨[(1,false),(10,false)],[]⟩ [(2,4,oc f),(9,10,oc f)] (eN h (gg [] [0,1,2]))
   refine ab (bn h (fun Y=>aA [(1,.i64 B),(2,.i64 O),(4,.adr 0 0 2 0),(7,.adr 1 0 6 0),(8,.adr 2 0 4 0),(9,.i64 Y),(10,.i64 j),(11,.i64 V),(12,.i64 v),(13,.i64 j)] (Da c z e A C D E I J L 0 (0:Int) (0:Int) (0:Int)) 3) (fun Y h=>?_) (fun Y h=>?_))
   ·refine aC h (fun ax h=>?_) (fun ax h=>?_)
    ·exact Ge (eN h (gg [] [0,1,2]))
    exact ae (eN h (gg [] [0,1,2]))
   refine ay (ab (Ge ?_));exact eB h (gg [] [0,1,2])
  refine aw (aQ ?_);exact eX h (gg [] [0,1,2])
 obtain⟨a4,u⟩:=a6;refine az (ab (af (G (aC h (fun b1 h=>?_) (fun b1 h=>?_)))))
 ·obtain⟨b2,h⟩:=aE h;obtain⟨bi,b3,h⟩:=aj h;have a5:=(oE c e b3);refine GD ⟨[],[(10,(oP a5))]⟩ [(6,6,oc b2),(10,10,oc a5)] (au (ah ?_));obtain rfl:=sI h;exact RI [Y9]
 refine ae (ab (G (af (G (bn h (fun N=>aA [(1,.i64 B),(2,.i64 O),(4,.adr 0 0 2 0),(7,.adr 1 0 6 0),(8,.adr 2 0 4 0),(10,.i64 u),(17,.u8 N)] (Da c z e A C D E I J L 0 (0:Int) (0:Int) (0:Int)) 3) (fun N h=>?_) (fun N h=>?_))))))
 ·refine aC h (fun b4 h=>?_) (fun b4 h=>?_)
  ·refine xg 3 h (fun h=>?_);exact eN h (gg [] [0,1,2])
  exact ae (eN h (gg [] [0,1,2]))
 refine ab (af (af (bn h (fun v30=>aA [(1,.i64 B),(4,.adr 0 0 2 0),(7,.adr 1 0 6 0),(8,.adr 2 0 4 0),(10,.i64 u),(17,.u8 N),(100,.bo v30)] (Da c z e A C D E I J L 0 (0:Int) (0:Int) (0:Int)) 3) (fun v30 h=>?_) (fun v30 h=>?_))))
 ·rcases aI h with⟨q,h⟩ | ⟨q,h⟩
  ·obtain⟨b5,h⟩:=aE h;exact bz ⟨[(3,true),(10,true)],[]⟩ [(4,6,an q),(7,7,oc (And.intro q b5)),(8,9,an q),(10,10,oc q)] (eN h (gg [] [0,1,2]))
  exact bz ⟨[(3,false),(10,false)],[]⟩ [(4,10,oc q)] (eN h (gg [] [0,1,2]))
 refine ab (bn h (fun Z=>aA [(1,.i64 B),(4,.adr 0 0 2 0),(7,.adr 1 0 6 0),(8,.adr 2 0 4 0),(10,.i64 u),(17,.u8 Z)] (Da c z e A C D E I J L 0 (0:Int) (0:Int) (0:Int)) 3) (fun Z h=>?_) (fun Z h=>?_))
 ·refine aC h (fun b6 h=>?_) (fun b6 h=>?_)
  ·exact Ge (eN h (gg [] [0,1,2]))
  exact ae (eN h (gg [] [0,1,2]))
 refine ab ?_;obtain⟨bs,b7,h⟩:=aj h;refine GP 6 (oE c e b7) (au ?_);obtain rfl:=sI h;exact RI [Y9]
def fx(p:Qj)(q:QK)(j u v x z A:Int)(B:QJ):(Int×Qj)→Option ((Int×Qj)⊕Qj):=fun(f,c) =>
 (if(decide (f<j))=true then((nq p q f j u v x z A B).bind fun e =>
 (if(c.length+([(e.1,e.2.1,e.2.2.1,e.2.2.2)]:Qj).length)*32≤140737488355328∧c.length+([(e.1,e.2.1,e.2.2.1,e.2.2.2)]:Qj).length≤9223372036854775807 then some (Sum.inl (e.2.1,(c++([(e.1,e.2.1,e.2.2.1,e.2.2.2)]:Qj))))else none))
 else some (Sum.inr c))
def jX(j:Qj)(p:QK)(c f q u v x z:Int)(A:QJ):Option Qj :=
 ((iter (fx j p f q u v x z A) (c,([]:Qj))).bind fun e=>some e)
theorem xe(q u:Bool){z:Qj}{A:QK}{c v:Int}{B C:Int}{D E I:Int}{J:QJ}{x:Qj}(h:jX z A c v B C D E I J=some x):
  Pure Tryz.prog 88 [.agg [.p q (.slice Y9) z,.p u (.slice (.int .u8)) A],.i64 c,.i64 v,.agg [.i64 B,.i64 C,.u8 D,.i64 E,.i64 I,.p false .flt J]] (aJ (bc false [⟨(.slice Y9),x⟩])):=by
 refine PB Tryz.func88 (fun Bw w0=>?_);unfold jX at h;refine G (G (af (ak (cw h (fun(e,f)=>aA [(1,.i64 e),(2,.i64 v),(4,.adr 0 0 2 0),(7,.adr 1 0 6 0),(9,.sl 2)] (Nk q z u A B C D E I J f) 3) 0 (fun j=>aA [(9,.sl 0)] [(0,.arr 190 Y9 j)] 1) (gg [.nilS 9 32 190 Y9] [0,8,32]) (fun y o h=>?_) (fun j h=>?_)))))
 ·obtain⟨e,f⟩:=y;unfold fx at h;refine af (G (aC h (fun L h=>?_) (fun L h=>?_)))
  ·refine ae (ab (ak ?_));obtain⟨N,M,h⟩:=aj h;refine GP 4 (Bk q u M) (GC 3 h (fun h=>Ge (ay ?_)));exact eB h (gg [] [0,1,107])
  refine aw (aQ ?_);exact eX h (gg [] [2])
 refine az (ab (G (au ?_)));obtain rfl:=sI h;exact RI [(.slice Y9)]
def iy(u:Qj)(v:QK)(c e x z f A B:Int)(C:QJ):Option (Qj×Bool) :=
 (((if(f == 1)=true then((lI u v c e x z f A B C).bind fun(D,j) =>
 (if j=true then some ((Sum.inr (D,false)))
 else some ((Sum.inl ()))))
 else some ((Sum.inl ())))).bind fun(p:((Unit)⊕(Qj×Bool)))=>match p with
 | .inl _=>((jX u v c e x z f A B C).bind fun q =>
 some (q,(f == 1)))
 | .inr ((E,I))=>some (E,I))
theorem yM(f j:Bool){z:Qj}{B:QK}{c q:Int}{C D:Int}{E I J:Int}{L:QJ}{u:Qj×Bool}(h:iy z B c q C D E I J L=some u):
  Pure Tryz.prog 56 [.agg [.p f (.slice Y9) z,.p j (.slice (.int .u8)) B],.i64 c,.i64 q,.agg [.i64 C,.i64 D,.u8 E,.i64 I,.i64 J,.p false .flt L]] (aJ (bc false [⟨(.slice Y9),u.1⟩,⟨.bool,u.2⟩])):=by
 refine PB Tryz.func56 (fun Bw w0=>?_);unfold iy at h;refine G (af (G (Ec h (dw (oT Tryz.f56.ntmps (fun _=>aA [(1,.i64 c),(2,.i64 q),(4,.adr 0 0 2 0),(7,.adr 1 0 6 0)] (Nh f z j B C D E I J L) 2)) (gm tb Tryz.f56.results.toList (fun(N,O)=>[⟨(.slice Y9),N⟩,⟨.bool,O⟩]))) (fun v h=>?_) (fun v h e σ' V=>?_))))
 ·refine aC h (fun X h=>?_) (fun X h=>?_)
  ·obtain⟨⟨r9,Y⟩,Z,h⟩:=aj h;refine GP 4 (yZ f j Z) (G (aC h (fun B4 h=>?_) (fun B4 h=>?_)))
   ·refine G (au ?_);obtain rfl:=sI h;exact aN (bH (RI [(.slice Y9),.bool]))
   refine ae ?_;obtain rfl:=sI h;exact bm (cM (gg [] [0,8]))
  refine ae ?_;obtain rfl:=sI h;exact bm (cM (gg [] [0,8]))
 rcases v with _ | ⟨N,O⟩
 ·obtain⟨rfl,M⟩:=V;refine cC ?_ M;refine ab ?_;obtain⟨a1,q6,h⟩:=aj h;have x:=(xe f j q6);refine GD ⟨[],[(4,(oP x))]⟩ [(4,4,oc x)] (au ?_);obtain rfl:=sI h;exact RI [(.slice Y9),.bool]
 obtain⟨rfl,hr⟩:=V;refine ah ?_;obtain rfl:=sI h;exact hr
def pY(c:Qj):Option Qj:=(if c.isEmpty=true then some []else(if(([]:Qj).length+c.length)*32≤140737488355328∧([]:Qj).length+c.length≤9223372036854775807 then some (([]:Qj)++c)else none))
theorem CG(j:Bool){c f:Qj}(h:pY c=some f):
  fP Tryz.prog 89 [.p j (.slice Y9) c] [] (.sl 0) [(0,.arr 190 Y9 f)]:=by
 refine OB Tryz.func89 (fun Bw w0=>?_);unfold pY at h;refine G (af (EW hH (d:=3) (e:=4) (A:=Y9) (xs:=c) (el:=190) (β:=j) rfl rfl rfl rfl rfl (by kernel_rfl) (by kernel_rfl) (by kernel_rfl) (fun b hb=>?_)));cases b with
 | true =>
  obtain rfl:=hb rfl;obtain rfl:=sI h;exact nY rfl (G (au (ah (RO [none] [.nilS 2 1000 190 Y9] [1000] [(2,.sl 0)] [(0,.arr 190 Y9 [])] 1 0))))
 | false =>
  replace h:(if(([]:Qj).length+c.length)*32≤140737488355328∧([]:Qj).length+c.length≤9223372036854775807 then some (([]:Qj)++c)else none)=some f:=by cases c <;> simpa using h
  refine oM rfl (ae (ab (GC 2 h (fun h=>au ?_))));obtain rfl:=sI h;exact RO [none] [] [40] [(2,.sl 0)] [(0,.arr 190 Y9 (([]:Qj)++c))] 1 0
def fT(f:Int)(j:Qj):(Qj×Int)→Option ((Qj×Int)⊕Qj):=fun(c,e) =>
 (if(decide (e<(j.length:Int)))=true then(if 0≤e∧e<(c.length:Int)then(if e.toNat<c.length then(if 0≤e∧e<(c.length:Int)then(if e.toNat<c.length then(if 0≤e∧e<((c.set e.toNat ((i64.wrap (((c.getD e.toNat (0,0,0,0)).1)+f)),(c.getD e.toNat (0,0,0,0)).2.1,(c.getD e.toNat (0,0,0,0)).2.2.1,(c.getD e.toNat (0,0,0,0)).2.2.2)).length:Int)then(if e.toNat<(c.set e.toNat ((i64.wrap (((c.getD e.toNat (0,0,0,0)).1)+f)),(c.getD e.toNat (0,0,0,0)).2.1,(c.getD e.toNat (0,0,0,0)).2.2.1,(c.getD e.toNat (0,0,0,0)).2.2.2)).length then(if 0≤e∧e<((c.set e.toNat ((i64.wrap (((c.getD e.toNat (0,0,0,0)).1)+f)),(c.getD e.toNat (0,0,0,0)).2.1,(c.getD e.toNat (0,0,0,0)).2.2.1,(c.getD e.toNat (0,0,0,0)).2.2.2)).length:Int)then(if e.toNat<(c.set e.toNat ((i64.wrap (((c.getD e.toNat (0,0,0,0)).1)+f)),(c.getD e.toNat (0,0,0,0)).2.1,(c.getD e.toNat (0,0,0,0)).2.2.1,(c.getD e.toNat (0,0,0,0)).2.2.2)).length then some (Sum.inl (((c.set e.toNat ((i64.wrap (((c.getD e.toNat (0,0,0,0)).1)+f)),(c.getD e.toNat (0,0,0,0)).2.1,(c.getD e.toNat (0,0,0,0)).2.2.1,(c.getD e.toNat (0,0,0,0)).2.2.2)).set e.toNat (((c.set e.toNat ((i64.wrap (((c.getD e.toNat (0,0,0,0)).1)+f)),(c.getD e.toNat (0,0,0,0)).2.1,(c.getD e.toNat (0,0,0,0)).2.2.1,(c.getD e.toNat (0,0,0,0)).2.2.2)).getD e.toNat (0,0,0,0)).1,(i64.wrap ((((c.set e.toNat ((i64.wrap (((c.getD e.toNat (0,0,0,0)).1)+f)),(c.getD e.toNat (0,0,0,0)).2.1,(c.getD e.toNat (0,0,0,0)).2.2.1,(c.getD e.toNat (0,0,0,0)).2.2.2)).getD e.toNat (0,0,0,0)).2.1)+f)),((c.set e.toNat ((i64.wrap (((c.getD e.toNat (0,0,0,0)).1)+f)),(c.getD e.toNat (0,0,0,0)).2.1,(c.getD e.toNat (0,0,0,0)).2.2.1,(c.getD e.toNat (0,0,0,0)).2.2.2)).getD e.toNat (0,0,0,0)).2.2.1,((c.set e.toNat ((i64.wrap (((c.getD e.toNat (0,0,0,0)).1)+f)),(c.getD e.toNat (0,0,0,0)).2.1,(c.getD e.toNat (0,0,0,0)).2.2.1,(c.getD e.toNat (0,0,0,0)).2.2.2)).getD e.toNat (0,0,0,0)).2.2.2)),(i64.wrap (e+1))))else none)else none)else none)else none)else none)else none)else none)else none)
 else some (Sum.inr c))
def iD(j:Qj)(e:Int):Option Qj :=
 ((pY j).bind fun f =>
 ((iter (fT e f) (f,0)).bind fun c=>some c))
theorem mP(j:Bool){I:Qj}{f:Int}{q:Qj}(h:iD I f=some q):
  Pure Tryz.prog 57 [.p j (.slice Y9) I,.i64 f] (aJ (bc false [⟨(.slice Y9),q⟩])):=by
 refine PB Tryz.func57 (fun Bw w0=>?_);unfold iD at h;refine G ?_;obtain⟨L,M,h⟩:=aj h;refine GO 1 [] (CG j M) (af (G (ak (cw h (fun(c,J)=>aA [(1,.i64 f),(5,.sl 0),(10,.i64 (L.length:Int)),(11,.i64 J)] [(0,.arr 190 Y9 c)] 1) 0 (fun e=>aA [(5,.sl 0)] [(0,.arr 190 Y9 e)] 1) (gg [] [16]) (fun y o h=>?_) (fun e h=>?_)))))
 ·obtain⟨c,J⟩:=y;unfold fT at h;refine G (af (aC h (fun N h=>?_) (fun N h=>?_)))
  ·refine ae (ab (af (ak (G ?_))));obtain⟨u,v,x,z,h⟩:=g4 h;refine GN a0 [(2,2,oc u),(4,4,oc v),(7,7,oc x),(9,9,oc z)] ?_;obtain⟨B,C,D,E,h⟩:=g4 h;refine bz a0 [(2,2,oc B),(4,4,oc C),(7,7,oc D),(9,9,oc E)] (ay (ab (Ge ?_)));exact eB h (gg [] [0])
  refine aw (aQ ?_);exact eX h (gg [] [0])
 refine az (ab (G (au ?_)));obtain rfl:=sI h;exact RI [(.slice Y9)]
def fR(q:Qj)(u:QK)(e:Int)(f:Qj):(QZ×Int)→Option ((QZ×Int)⊕QZ):=fun(j,c) =>
 (if(decide (c<(f.length:Int)))=true then(if 0≤c∧c<(f.length:Int)then((jj q u ((f.getD c.toNat (0,0,0,0)).1) ((f.getD c.toNat (0,0,0,0)).2.1) e).bind fun p =>
 (if(j.length+([p]:QZ).length)*24≤140737488355328∧j.length+([p]:QZ).length≤9223372036854775807 then some (Sum.inl ((j++([p]:QZ)),(i64.wrap (c+1))))else none))else none)
 else some (Sum.inr j))
def lD(e:Qj)(f:QK)(j:Qj)(c:Int):Option (Option Z5) :=
 (((if((j.length:Int) == 0)=true then some (([(0,0,0,0)]:Qj))
 else some (j))).bind fun p=>((iter (fR e f c p) (([]:QZ),0)).bind fun q=>some (some ((e,f),p,q):Option Z5)))
theorem zk{e:Qj}{f:QK}{x:Qj}{c:Int}{q:Option Z5}(h:lD e f x c=some q):
  Pure Tryz.prog 58 [.agg [.p false (.slice Y9) e,.p false (.slice (.int .u8)) f],.p false (.slice Y9) x,.i64 c] (aJ (bc false [⟨(.ptr (.prod lQ nM)),q⟩])):=by
 refine PB Tryz.func58 (fun Bw w0=>?_);unfold lD at h;refine G (G (af (G (bn h (fun j=>aA [(2,.i64 c),(3,.adr 0 0 2 0),(7,.adr 1 0 4 0)] (Ns e f e f j) 2) (fun j h=>?_) (fun j h=>?_)))))
 ·refine aC h (fun D h=>?_) (fun D h=>?_)
  ·exact Ge (eN h (gg [.frzC 40 2] [0,40]))
  exact ae (eN h (gg [] [0,40]))
 refine ab (af (G (ak (cw h (fun(z,B)=>aA [(2,.i64 c),(3,.adr 0 0 2 0),(7,.adr 1 0 4 0),(25,.p false (.slice Y9) j),(26,.i64 (j.length:Int)),(27,.i64 B)] (M4 e f e f j z) 3) 0 (fun C=>aA [(7,.adr 0 0 4 0)] (MW e f j C) 2) (gg [.nilC 1 3 50 80 (.slice (.int .i64))] [0,1,50]) (fun y o h=>?_) (fun C h=>?_)))))
 ·obtain⟨z,B⟩:=y;unfold fR at h;refine G (af (aC h (fun E h=>?_) (fun E h=>?_)))
  ·refine ae (ab (af (ak (GC 0 h (fun h=>?_)))));obtain⟨J,I,h⟩:=aj h;obtain⟨v,h⟩:=aE h;have u:=(oV false false I);refine kY ⟨[],[(11,(oP u))]⟩ [(11,11,oc u),(13,13,oc v)] (ay (ab (Ge ?_)));exact eB h (gg [] [0,1,147])
  refine aw (aQ ?_);exact eX h (gg [] [1,2])
 refine az (ab (G (kr [.frzC 0 3] (by kernel_rfl) (au ?_))));obtain rfl:=sI h;exact RI [(.ptr (.prod lQ nM))]
def dV(M N O V X:Int)(Y:QJ)(q:Qj×QK)(j:QK):(Qj×Bool×(List qH)×(List (QX×Bool))×Int×Int)→Option ((Qj×Bool×(List qH)×(List (QX×Bool))×Int×Int)⊕(Qj×Bool×(List qH)×List (QX×Bool))):=fun(p,z,f,B,u,v30) =>
 (if(decide (v30<(j.length:Int)))=true then(if 0≤v30∧v30<(j.length:Int)then((pf q.1 q.2 u (j.getD v30.toNat 0)).bind fun c =>
 (((if(!((aU .str f c).isSome))=true then((iy q.1 q.2 u (j.getD v30.toNat 0) M N O V X Y).bind fun(C,v) =>
 ((iD C (i64.wrap (0 - u))).bind fun x =>
 some (((cj .str f c (x,v)),x,v))))
 else some ((f,((aU .str f c).getD (([]:Qj),false)).1,((aU .str f c).getD (([]:Qj),false)).2)))).bind fun(D,E,I)=>((((iD E u).bind fun e =>
 (if(p.length+e.length)*32≤140737488355328∧p.length+e.length≤9223372036854775807 then(if z=true then some (((p++e),true))
 else some (((p++e),I)))else none))).bind fun(J,L)=>some (Sum.inl (J,L,D,(cj .str B c true),(j.getD v30.toNat 0),(i64.wrap (v30+1)))))))else none)
 else some (Sum.inr (p,z,f,B)))
def cv(E:QK)(J:Qj)(L:Bool)(M:Option Z1)(N I O V X:Int)(Y:QJ)(q:QK)(u:Qj)(v:QK)(x:Option Z5)(o1:List qH):Option Mz :=
 ((aT M E).bind fun(e,f) =>
 (if(f != 0)=true then some (f,J,L,q,u,v,x,o1)
 else((mF e.1 e.2).bind fun z =>
 ((iter (dV N I O V X Y e z) (([]:Qj),false,o1,([]:List (QX×Bool)),0,0)).bind fun(j,B,C,D)=>((lD e.1 e.2 j I).bind fun p =>
 some (0,j,B,E,e.1,e.2,p,(rv .str C D)))))))
theorem ng{V:QK}{d1:Qj}{d2:Bool}{u:Option Z1}{v x:Int}{z B C:Int}{D:QJ}{X:QK}{Y:Qj}{Z:QK}{q:Option Z5}{o1:List qH}{f:Int×Qj×Bool×QK×Qj×QK×(Option Z5)×List qH}(h:cv V d1 d2 u v x z B C D X Y Z q o1=some f):
  fP Tryz.prog 33 [.adr 0 0 14 0,.p false (.slice (.int .u8)) V] (lG d1 d2 u v x z B C D X Y Z q o1) (.i64 f.1) (lG f.2.1 f.2.2.1 u v x z B C D f.2.2.2.1 f.2.2.2.2.1 f.2.2.2.2.2.1 f.2.2.2.2.2.2.1 f.2.2.2.2.2.2.2):=by
 refine OB Tryz.func33 (fun Bw w0=>?_);unfold cv at h;refine G ?_;obtain⟨⟨c,b3⟩,b4,h⟩:=aj h;refine GP 5 (sH false b4) (af (G (aC h (fun b5 h=>?_) (fun b5 h=>?_))))
 ·refine G (au (ah ?_));obtain rfl:=sI h;exact RO [some (.int .i64)] [] [0,1] [(4,.i64 b3)] (lG d1 d2 u v x z B C D X Y Z q o1) 2 2
 refine ae (ab (GD a0 [] (G (G (af ?_)))));obtain⟨j,b6,h⟩:=aj h;refine GP 1 (wX false false b6) (ak (cw h (fun(a1,a2,a7,E,a3,v30)=>aA [(0,.adr 0 0 14 0),(5,.adr 3 0 2 0),(7,.mp 4),(8,.i64 a3),(41,.p false (.slice (.int .i64)) j),(42,.i64 (j.length:Int)),(43,.i64 v30)] (Is a2 u v x z B C D V c.1 c.2 q a7 a1 c.1 c.2 E) 5 2) 0 (fun(a4,a5,I,J)=>aA [(0,.adr 0 0 14 0),(5,.adr 3 0 2 0),(7,.mp 4)] (Is a5 u v x z B C D V c.1 c.2 q I a4 c.1 c.2 J) 5 2) (gg [.nilC 0 0 298 190 Y9] [0,1,298,82,242]) (fun y o h=>?_) (fun a8 h=>?_)))
 ·obtain⟨a1,a2,a7,E,a3,v30⟩:=y;unfold dV at h;refine G (af (aC h (fun b7 h=>?_) (fun b7 h=>?_)))
  ·refine ae (ab (af (ak (GC 0 h (fun h=>?_)))));obtain⟨M,b8,h⟩:=aj h;refine GP 3 (C0 false false b8) (G (af (G (bn h (fun(a6,a9,aa)=>aA [(0,.adr 0 0 14 0),(5,.adr 3 0 2 0),(7,.mp 4),(8,.i64 a3),(10,.i64 (j.getD v30.toNat 0)),(11,.st M),(12,.adr 5 0 2 0),(41,.p false (.slice (.int .i64)) j),(42,.i64 (j.length:Int)),(43,.i64 v30)] (MP a2 u v x z B C D V c.1 c.2 q a6 a1 c.1 c.2 E a9 aa) 6 2) (fun N h=>?_) (fun N h=>?_)))))
   ·refine aC h (fun b9 h=>?_) (fun b9 h=>?_)
    ·obtain⟨⟨bv,bx⟩,be,h⟩:=aj h;have e:=(yM false false be);refine GD ⟨[],[(7,(oP e))]⟩ [(7,7,oc e)] ?_;obtain⟨c1,bi,h⟩:=aj h;refine GP 4 (mP false bi) (kY a0 [] ?_);exact eN h (gg [] [0,1,2,3,4,149])
    exact ae (eN h (gg [] [0,1,2,3,4,149]))
   obtain⟨a6,a9,aa⟩:=N;refine ab (G (af (bn h (fun(ac,ad)=>aA [(0,.adr 0 0 14 0),(5,.adr 3 0 2 0),(7,.mp 4),(10,.i64 (j.getD v30.toNat 0)),(41,.p false (.slice (.int .i64)) j),(42,.i64 (j.length:Int)),(43,.i64 v30)] (Is ad u v x z B C D V c.1 c.2 q a6 ac c.1 c.2 (cj .str E M true)) 5 2) (fun O h=>?_) (fun O h=>?_))))
   ·obtain⟨c2,ax,h⟩:=aj h;obtain⟨b1,h⟩:=aE h;rcases aI h with⟨L,h⟩ | ⟨L,h⟩
    ·have e:=(mP false ax);exact kY ⟨[(17,true),(20,true)],[(10,(oP e))]⟩ [(10,10,oc e),(11,11,oc b1),(18,20,oc L)] (eN h (gg [] [0,1,118,3,4]))
    have e:=(mP false ax);exact kY ⟨[(17,false),(20,false)],[(10,(oP e))]⟩ [(10,10,oc e),(11,11,oc b1),(18,19,an L),(20,20,oc L)] (eN h (gg [] [0,1,118,3,4]))
   obtain⟨ac,ad⟩:=O;refine ab (Ge (ay (ab (Ge ?_))));exact eB h (gg [] [0,1,2,3,4])
  refine aw (aQ ?_);exact eX h (gg [] [0,1,2,3,4])
 obtain⟨a4,a5,I,J⟩:=a8;refine az (ab (af (KM hH (idK:=1) (idU:=4) (idF:=0) (A:=HB) (kv:=I) (us:=J) (dead:=[14,118,119,120,121,122,123,124,125,126,127,128,129,130,131,132,133,134,135]) (sz:=14) (off:=13) (by kernel_rfl) (by kernel_rfl) (by kernel_rfl) (by kernel_rfl) (by kernel_rfl) (by kernel_rfl) (by kernel_rfl) (by kernel_rfl) (by decide) (by kernel_rfl) (by decide) (ab ?_))));obtain⟨b2,bs,h⟩:=aj h;have e:=(zk bs);refine GD ⟨[],[(12,(oP e [false,true]))]⟩ [(12,12,oc e)] (G (kr [.frzC 0 0] (by kernel_rfl) (au ?_)));obtain rfl:=sI h;exact RO [some (.int .i64)] [] [0,1] [(4,.i64 0)] (lG a4 a5 u v x z B C D V c.1 c.2 b2 (rv .str I J)) 2 2
def gw(M:Option Z1)(C D E I J:Int)(L:QJ)(e:QK):Option (((Int)⊕Mz)) :=
 ((fJ C D E I J L).bind fun j =>
 (if(!j)=true then some (Sum.inl 40)
 else((cS e).bind fun p =>
 ((cv p ([]:Qj) false M C D E I J L ([]:QK) ([]:Qj) ([]:QK) (none:Option Z5) ([]:List qH)).bind fun(f,q,u,v,x,z,A,B) =>
 (if(f != 0)=true then some (Sum.inl f)
 else some (Sum.inr (0,q,u,v,x,z,A,B)))))))
theorem mA(j:Bool){q:Option Z1}{u v:Int}{x z A:Int}{B:QJ}{c:QK}{e:((Int)⊕Mz)}(h:gw q u v x z A B c=some e):
  fP Tryz.prog 14 [.p false (.ptr vQ) q,.agg [.i64 u,.i64 v,.u8 x,.i64 z,.i64 A,.p false .flt B],.p j (.slice (.int .u8)) c] [] (K4 (fun(f:Int)=>(.tup [.nilp,.i64 f],[])) (fun((f,E,I,J,L,M,N,O):Int×Qj×Bool×QK×Qj×QK×(Option Z5)×List qH)=>(.tup [.adr 0 0 14 0,.i64 f],(lG E I q u v x z A B J L M N O))) e).1 (K4 (fun(f:Int)=>(.tup [.nilp,.i64 f],[])) (fun((f,E,I,J,L,M,N,O):Int×Qj×Bool×QK×Qj×QK×(Option Z5)×List qH)=>(.tup [.adr 0 0 14 0,.i64 f],(lG E I q u v x z A B J L M N O))) e).2:=by
 refine OB Tryz.func14 (fun Bw w0=>?_);unfold gw at h;refine G (G (af ?_));obtain⟨a7,q8,h⟩:=aj h;refine GP 1 (yG q8) (aC h (fun B3 h=>?_) (fun B3 h=>?_))
 ·refine G (au (ah ?_));obtain rfl:=sI h;exact RO [none,some (.int .i64)] [] [] [(6,.nilp),(7,.i64 40)] [] 0 0
 refine ae (ab (af (af (kr [.nilCp 56 0 Y9,.nilCp 56 9 (.int .u8),.nilCp 56 10 Y9,.nilCp 56 11 (.int .u8),.nilCq 56 12 (.prod lQ nM)] (by kernel_rfl) ?_))));obtain⟨a8,V,h⟩:=aj h;obtain⟨⟨X,Y,Z,a1,a2,a3,a4,a5⟩,a6,h⟩:=aj h;have C:=(l9 j V);have D:=(ng a6);refine bz ⟨[],[(2,(oP C)),(3,(oO D [56,40]))]⟩ [(2,2,oc C),(3,3,oc D)] (ab (G (aC h (fun B4 h=>?_) (fun B4 h=>?_))))
 ·refine G (au (ah ?_));obtain rfl:=sI h;exact RO [none,some (.int .i64)] [] [] [(6,.nilp),(7,.i64 X)] [] 0 0
 refine ae (ab (G (au ?_)));obtain rfl:=sI h;exact RO [none,some (.int .i64)] [] [56,40] [(6,.adr 0 0 14 0),(7,.i64 0)] (lG Y Z q u v x z A B a1 a2 a3 a4 a5) 2 0
def nJ  : Option (Unit) :=
 some ()
theorem rU{c:Unit}(h:nJ=some c):
  fP Tryz.prog 27 [] [] (.mp 0) K8:=by
 refine OB Tryz.func27 (fun Bw w0=>?_);unfold nJ at h;refine G (G (au ?_));obtain rfl:=sI h;exact RO [none] [] [8] [(0,.mp 0)] K8 1 0
def rn(c e f:Int)(j:QK):Option (Int) :=
 (((if(decide (e<0))=true then some (true)
 else(if(decide (f<0))=true then some (true)
 else(if(decide (e > c))=true then some (true)
 else some ((decide (f > (i64.wrap (c - e))))))))).bind fun v1=>(if v1=true then some 50
 else(((if(decide ((j.length:Int) > 4096))=true then some (true)
 else some ((decide ((i64.wrap ((i64.wrap (c - f))+(j.length:Int))) > 4096))))).bind fun p=>(if p=true then some 3
 else some 0))))
theorem yI(j:Bool){v x z:Int}{A:QK}{q:Int}(h:rn v x z A=some q):
  Pure Tryz.prog 59 [.i64 v,.agg [.i64 x,.i64 z,.p j (.slice (.int .u8)) A]] (aJ (bc false [⟨(.int .i64),q⟩])):=by
 refine PB Tryz.func59 (fun Bw w0=>?_);unfold rn at h;refine G (af (ak (af (bn h (fun v1=>aA [(0,.i64 v),(3,.adr 0 0 3 0),(5,.bo v1)] (NC x z j A) 1) (fun v1 h=>?_) (fun v1 h=>?_)))))
 ·rcases aI h with⟨e,h⟩ | ⟨e,h⟩
  ·exact bz ⟨[(3,true),(7,true)],[]⟩ [(4,7,oc e)] (eN h (gg [] [0]))
  rcases aI h with⟨f,h⟩ | ⟨f,h⟩
  ·exact bz ⟨[(3,false),(7,false),(8,true),(13,true)],[]⟩ [(4,6,an e),(7,7,oc e),(9,13,oc f)] (eN h (gg [] [0]))
  rcases aI h with⟨u,h⟩ | ⟨u,h⟩
  ·exact bz ⟨[(3,false),(7,false),(8,false),(13,false),(14,true),(22,true)],[]⟩ [(4,6,an e),(7,7,oc e),(9,12,an f),(13,13,oc f),(15,22,oc u)] (eN h (gg [] [0]))
  exact bz ⟨[(3,false),(7,false),(8,false),(13,false),(14,false),(22,false)],[]⟩ [(4,6,an e),(7,7,oc e),(9,12,an f),(13,13,oc f),(15,21,an u),(22,22,oc u)] (eN h (gg [] [0]))
 refine ab (aC h (fun B h=>?_) (fun B h=>?_))
 ·refine G (au (aB (ah ?_)));obtain rfl:=sI h;exact RI [(.int .i64)]
 refine af (bn h (fun C=>aA [(29,.bo C)] [] 0) (fun C h=>?_) (fun C h=>?_))
 ·rcases aI h with⟨c,h⟩ | ⟨c,h⟩
  ·exact bz ⟨[(4,true),(14,true)],[]⟩ [(5,14,oc c)] (eN h (gg [] []))
  exact bz ⟨[(4,false),(14,false)],[]⟩ [(5,13,an c),(14,14,oc c)] (eN h (gg [] []))
 refine ab (aC h (fun D h=>?_) (fun D h=>?_))
 ·refine G (au (aB (ah ?_)));obtain rfl:=sI h;exact RI [(.int .i64)]
 refine ae (ay (ab (G (au ?_))));obtain rfl:=sI h;exact RI [(.int .i64)]
def eV(c:Int):Option QK :=
 (((if(decide (c<0))=true then none
 else some (()))).bind fun _=>(((if(decide ((i64.wrap (c - (i64.wrap (0 - 0)))) > 0))=true then(if 0≤(0:Int)∧(0:Int)≤0∧(0:Int)≤0 then(if 0≤(i64.wrap (c - (i64.wrap (0 - 0))))∧(([]:QK).length+(i64.wrap (c - (i64.wrap (0 - 0)))).toNat)*1≤140737488355328∧([]:QK).length+(i64.wrap (c - (i64.wrap (0 - 0)))).toNat≤9223372036854775807 then(if 0≤(0:Int)∧0≤((List.replicate (i64.wrap (c - (i64.wrap (0 - 0)))).toNat (0:Int)).length:Int)then some (((List.replicate (i64.wrap (c - (i64.wrap (0 - 0)))).toNat (0:Int)).take (0:Int).toNat))else none)else none)else none)
 else some (([]:QK)))).bind fun e=>some e))
theorem kI{f:Int}{c:QK}(h:eV f=some c):
  fP Tryz.prog 91 [.nils,.i64 f] [] (.sl 0) [(0,.arr 5 (.int .u8) c)]:=by
 refine OB Tryz.func91 (fun Bw w0=>?_);unfold eV at h;refine G (af (G (bn h (fun _=>aA [(0,.nils),(1,.i64 f)] [] 0) (fun u h=>?_) (fun u h=>?_))))
 ·refine aC h (fun v h=>?_) (fun v h=>?_)
  ·cases h
  exact ae (eN h (gg [] []))
 refine ab (af (G (G (bn h (fun e=>aA [(0,.sl 0)] [(0,.arr 5 (.int .u8) e)] 1) (fun e h=>?_) (fun e h=>?_)))))
 ·refine aC h (fun x h=>?_) (fun x h=>?_)
  ·obtain⟨j,p,q,h⟩:=g3 h;exact bz a0 [(3,3,oc j),(5,5,oc p),(8,8,oc q)] (eN h (gg [] [144]))
  exact ae (eN h (gg [.nilS 0 80 5 (.int .u8)] [80]))
 refine ab (G (au ?_));obtain rfl:=sI h;exact RO [none] [] [0] [(4,.sl 0)] [(0,.arr 5 (.int .u8) e)] 1 0
def fj(c e f:QK):Option QK :=
 (if 0≤(0:Int)∧0<((3:Nat):Int)then(((if(decide ((i64.wrap (0+(c.length:Int)))<0))=true then none
 else some (()))).bind fun _=>(if 0≤(1:Int)∧1<((3:Nat):Int)then(((if(decide ((i64.wrap ((i64.wrap (0+(c.length:Int)))+(e.length:Int)))<0))=true then none
 else some (()))).bind fun _=>(if 0≤(2:Int)∧2<((3:Nat):Int)then(((if(decide ((i64.wrap ((i64.wrap ((i64.wrap (0+(c.length:Int)))+(e.length:Int)))+(f.length:Int)))<0))=true then none
 else some (()))).bind fun _=>((eV (i64.wrap ((i64.wrap ((i64.wrap (0+(c.length:Int)))+(e.length:Int)))+(f.length:Int)))).bind fun j =>
 (if 0≤(0:Int)∧0<((3:Nat):Int)then(if(j.length+c.length)*1≤140737488355328∧j.length+c.length≤9223372036854775807 then(if 0≤(1:Int)∧1<((3:Nat):Int)then(if((j++c).length+e.length)*1≤140737488355328∧(j++c).length+e.length≤9223372036854775807 then(if 0≤(2:Int)∧2<((3:Nat):Int)then(if(((j++c)++e).length+f.length)*1≤140737488355328∧((j++c)++e).length+f.length≤9223372036854775807 then some (((j++c)++e)++f)else none)else none)else none)else none)else none)else none)))else none))else none))else none)
theorem lS(j q u:Bool){c e:QK}{f v:QK}(h:fj c e f=some v):
  fP Tryz.prog 60 [.sl 0] (Ga j c q e u f) (.p false (.slice (.int .u8)) v) []:=by
 refine OB Tryz.func60 (fun Bw w0=>?_);unfold fj at h;refine G (G (af (G (ak (yi 9 (G (af (nY rfl (ae (ab (af (ak (GC 0 h (fun h=>G (G (bn h (fun _=>aA [(0,.sl 0),(3,.i64 (i64.wrap (0+(c.length:Int)))),(9,.sl 0),(10,.i64 3),(11,.i64 0)] (Ga j c q e u f) 1 1) (fun D h=>?_) (fun D h=>?_)))))))))))))))))
 ·refine aC h (fun z h=>?_) (fun z h=>?_)
  ·cases h
  exact ae (eN h (gg [] [0]))
 refine ay (ab (Ge (sf (G (af (nY rfl (ae (ab (af (ak (GC 0 h (fun h=>G (G (bn h (fun _=>aA [(0,.sl 0),(3,.i64 (i64.wrap ((i64.wrap (0+(c.length:Int)))+(e.length:Int)))),(9,.sl 0),(10,.i64 3),(11,.i64 1)] (Ga j c q e u f) 1 1) (fun E h=>?_) (fun E h=>?_)))))))))))))))
 ·refine aC h (fun A h=>?_) (fun A h=>?_)
  ·cases h
  exact ae (eN h (gg [] [0]))
 refine ay (ab (Ge (sf (G (af (nY rfl (ae (ab (af (ak (GC 0 h (fun h=>G (G (bn h (fun _=>aA [(0,.sl 0),(3,.i64 (i64.wrap ((i64.wrap ((i64.wrap (0+(c.length:Int)))+(e.length:Int)))+(f.length:Int)))),(9,.sl 0),(10,.i64 3),(11,.i64 2)] (Ga j c q e u f) 1 1) (fun I h=>?_) (fun I h=>?_)))))))))))))))
 ·refine aC h (fun B h=>?_) (fun B h=>?_)
  ·cases h
  exact ae (eN h (gg [] [0]))
 refine ay (ab (Ge (sf (G (af (oM rfl (aw (aQ (Ok (az (ab ?_)))))))))));obtain⟨C,J,h⟩:=aj h;have x:=(kI J);refine GN ⟨[],[(1,(oO x [] [] [false,true]))]⟩ [(1,1,oc x)] (af (G (ak (yi 9 (G (af (nY rfl (ae (ab (af (ak (GC 0 h (fun h=>xg 2 h (fun h=>ay (ab (Ge (sf (G (af (nY rfl (ae (ab (af (ak (GC 0 h (fun h=>xg 2 h (fun h=>ay (ab (Ge (sf (G (af (nY rfl (ae (ab (af (ak (GC 0 h (fun h=>xg 2 h (fun h=>ay (ab (Ge (sf (G (af (oM rfl (aw (aQ (Ok (az (ab (G (au ?_)))))))))))))))))))))))))))))))))))))))))))))))))))));obtain rfl:=sI h;exact RO [some (.slice (.int .u8))] [] [0,281] [(2,.sl 1)] [(1,.arr 5 (.int .u8) (((C++c)++e)++f))] 2 1
def pD(c:QK)(e f:Int)(j:QK):Option vR :=
 ((rn (c.length:Int) e f j).bind fun p =>
 (if(p != 0)=true then some (([]:QK),p)
 else(if 0≤(0:Int)∧0≤e∧e≤(c.length:Int)then(if 0≤(i64.wrap (e+f))∧(i64.wrap (e+f))≤(c.length:Int)∧(c.length:Int)≤(c.length:Int)then((fj ((c.take e.toNat).drop (0:Int).toNat) j ((c.take (c.length:Int).toNat).drop (i64.wrap (e+f)).toNat)).bind fun q =>
 some (q,0))else none)else none)))
theorem xW(c e:Bool){q:QK}{u v:Int}{x:QK}{f:QK×Int}(h:pD q u v x=some f):
  Pure Tryz.prog 35 [.p c (.slice (.int .u8)) q,.agg [.i64 u,.i64 v,.p e (.slice (.int .u8)) x]] (aJ (bc false [⟨(.slice (.int .u8)),f.1⟩,⟨(.int .i64),f.2⟩])):=by
 refine PB Tryz.func35 (fun Bw w0=>?_);unfold pD at h;refine G (af ?_);obtain⟨E,z,h⟩:=aj h;refine GP 3 (yI e z) (G (aC h (fun A h=>?_) (fun A h=>?_)))
 ·refine G (au (ah ?_));obtain rfl:=sI h;exact RI [(.slice (.int .u8)),(.int .i64)]
 refine ae (ab ?_);obtain⟨B,C,h⟩:=g2 h;obtain⟨I,D,h⟩:=aj h;have j:=(lS c e c D);refine GD ⟨[],[(13,⟨.unk,[],false,[],[],[],none⟩),(14,(oO j [184]))]⟩ [(3,3,oc B),(12,12,oc C),(14,14,oc j)] (au ?_);obtain rfl:=sI h;exact RI [(.slice (.int .u8)),(.int .i64)]
def fu(J L:Int)(M:QK)(E:Qj)(I:Bool)(N:Option Z1)(O V X Y Z:Int)(f9:QJ)(c:QK)(e:Qj)(f:QK)(j:Option Z5)(o1:List qH):Option Mz :=
 ((pD c J L M).bind fun(q,p) =>
 (if(p != 0)=true then some (p,E,I,c,e,f,j,o1)
 else((cv q E I N O V X Y Z f9 c e f j o1).bind fun(u,v,x,z,A,B,C,D) =>
 some (u,v,x,z,A,B,C,D))))
theorem sr(v:Bool){e1 e2:Int}{e3:QK}{J:Qj}{L:Bool}{x:Option Z1}{z A:Int}{B C D:Int}{E:QJ}{f:QK}{j:Qj}{q:QK}{u:Option Z5}{o1:List qH}{c:Int×Qj×Bool×QK×Qj×QK×(Option Z5)×List qH}(h:fu e1 e2 e3 J L x z A B C D E f j q u o1=some c):
  fP Tryz.prog 15 [.adr 0 0 14 0,.agg [.i64 e1,.i64 e2,.p v (.slice (.int .u8)) e3]] (lG J L x z A B C D E f j q u o1) (.i64 c.1) (lG c.2.1 c.2.2.1 x z A B C D E c.2.2.2.1 c.2.2.2.2.1 c.2.2.2.2.2.1 c.2.2.2.2.2.2.1 c.2.2.2.2.2.2.2):=by
 refine OB Tryz.func15 (fun Bw w0=>?_);unfold fu at h;refine G (af (GN a0 [(1,1,⟨∃e,Tryz.prog.underlying 53=some (.pointer e),⟨_,rfl⟩⟩)] (oM rfl (ae (ab ?_)))));obtain⟨⟨a3,M⟩,q6,h⟩:=aj h;have I:=(xW false v q6);refine GD ⟨[],[(5,(oP I))]⟩ [(5,5,oc I)] (af (G (aC h (fun B3 h=>?_) (fun B3 h=>?_))))
 ·refine G (au (ah ?_));obtain rfl:=sI h;exact RO [some (.int .i64)] [] [0,1] [(4,.i64 M)] (lG J L x z A B C D E f j q u o1) 2 2
 refine ae (ab ?_);obtain⟨⟨N,O,V,X,Y,Z,a1,a2⟩,q8,h⟩:=aj h;refine GO 2 [0,1] (ng q8) (au ?_);obtain rfl:=sI h;exact RO [some (.int .i64)] [] [0,1] [(4,.i64 N)] (lG O V x z A B C D E X Y Z a1 a2) 2 2
def iX(_ C D:Int)(E:QK)(_ _ _ _ _:Int)(_:QJ)(_:Int)(_:Bool)(_ _:Int)(I:Qj)(J:Bool)(L:Option Z1)(M N O V X:Int)(Y:QJ)(c:QK)(e:Qj)(f:QK)(j:Option Z5)(o1:List qH)(_ _ _ _:Int)(_:Bool):Option (Qj×Bool×QK×Qj×QK×(Option Z5)×(List qH)×Int) :=
 ((fu C D E I J L M N O V X Y c e f j o1).bind fun(p,q,u,v,x,z,A,B) =>
 some (q,u,v,x,z,A,B,p))
theorem sh(e:Bool){s1 s2 s3:Int}{s4:QK}{s5 s6:Int}{s7 s8 s9:Int}{f:QJ}{j:Int}{q:Bool}{u v:Int}{f1:Qj}{f2:Bool}{C:Option Z1}{D E:Int}{I J L:Int}{M:QJ}{x:QK}{z:Qj}{A:QK}{B:Option Z5}{o1:List qH}{a1 N:Int}{O V:Int}{X:Bool}{c:Qj×Bool×QK×Qj×QK×(Option Z5)×(List qH)×Int}(h:iX s1 s2 s3 s4 s5 s6 s7 s8 s9 f j q u v f1 f2 C D E I J L M x z A B o1 a1 N O V X=some c):
  fP Tryz.prog 42 [.adr 0 0 14 0,.agg [.i64 s1,.i64 s2,.i64 s3,.p e (.slice (.int .u8)) s4,.i64 s5,.i64 s6,.u8 s7,.i64 s8,.i64 s9,.p false .flt f,.i64 j,.bo q,.i64 u,.i64 v],.adr 2 0 6 0] (zP f1 f2 C D E I J L M x z A B o1 a1 N O V X) (.tup []) (zP c.1 c.2.1 C D E I J L M c.2.2.1 c.2.2.2.1 c.2.2.2.2.1 c.2.2.2.2.2.1 c.2.2.2.2.2.2.1 c.2.2.2.2.2.2.2 N O V X):=by
 refine OB Tryz.func42 (fun Bw w0=>?_);unfold iX at h;refine G ?_;obtain⟨⟨Y,Z,a6,a7,a8,a9,aa,ac⟩,q4,h⟩:=aj h;refine lg 4 [0,1] (sr e q4) ?_;obtain rfl:=sI h;exact(RO [] [] [0,1,2] [] (zP Z a6 C D E I J L M a7 a8 a9 aa ac Y N O V X) 3 3).normal
def qU(j e:Qj):(Qj×Int)→Option ((Qj×Int)⊕Qj):=fun(f,c) =>
 (if(decide (c<(e.length:Int)))=true then(if 0≤c∧c<(e.length:Int)then(if 0≤(i64.wrap (((e.getD c.toNat (0,0,0,0)).2.1) - 1))∧(i64.wrap (((e.getD c.toNat (0,0,0,0)).2.1) - 1))<(j.length:Int)then(if 0≤(e.getD c.toNat (0,0,0,0)).1∧(e.getD c.toNat (0,0,0,0)).1<(j.length:Int)then(if(f.length+([((j.getD (((e.getD c.toNat (0,0,0,0)).1).toNat) (0,0,0,0)).1,(i64.wrap (((j.getD ((i64.wrap (((e.getD c.toNat (0,0,0,0)).2.1) - 1)).toNat) (0,0,0,0)).1)+((j.getD ((i64.wrap (((e.getD c.toNat (0,0,0,0)).2.1) - 1)).toNat) (0,0,0,0)).2.1))),(e.getD c.toNat (0,0,0,0)).2.2.1,(e.getD c.toNat (0,0,0,0)).2.2.2)]:Qj).length)*32≤140737488355328∧f.length+([((j.getD (((e.getD c.toNat (0,0,0,0)).1).toNat) (0,0,0,0)).1,(i64.wrap (((j.getD ((i64.wrap (((e.getD c.toNat (0,0,0,0)).2.1) - 1)).toNat) (0,0,0,0)).1)+((j.getD ((i64.wrap (((e.getD c.toNat (0,0,0,0)).2.1) - 1)).toNat) (0,0,0,0)).2.1))),(e.getD c.toNat (0,0,0,0)).2.2.1,(e.getD c.toNat (0,0,0,0)).2.2.2)]:Qj).length≤9223372036854775807 then some (Sum.inl ((f++([((j.getD (((e.getD c.toNat (0,0,0,0)).1).toNat) (0,0,0,0)).1,(i64.wrap (((j.getD ((i64.wrap (((e.getD c.toNat (0,0,0,0)).2.1) - 1)).toNat) (0,0,0,0)).1)+((j.getD ((i64.wrap (((e.getD c.toNat (0,0,0,0)).2.1) - 1)).toNat) (0,0,0,0)).2.1))),(e.getD c.toNat (0,0,0,0)).2.2.1,(e.getD c.toNat (0,0,0,0)).2.2.2)]:Qj)),(i64.wrap (c+1))))else none)else none)else none)else none)
 else some (Sum.inr f))
def rL(f:Qj)(_:QK)(e:Qj):Option Qj :=
 (if((e.length:Int) == 0)=true then some ([(0,0,0,2)]:Qj)
 else((iter (qU f e) (([]:Qj),0)).bind fun c=>some c))
theorem yT(f j q:Bool){x:Qj}{z:QK}{v u:Qj}(h:rL x z v=some u):
  Pure Tryz.prog 38 [.agg [.p f (.slice Y9) x,.p j (.slice (.int .u8)) z],.p q (.slice Y9) v] (aJ (bc false [⟨(.slice Y9),u⟩])):=by
 refine PB Tryz.func38 (fun Bw w0=>?_);unfold rL at h;refine G (af (G (aC h (fun D h=>?_) (fun D h=>?_))))
 ·refine G (au (ah ?_));obtain rfl:=sI h;exact RI [(.slice Y9)]
 refine ae (ab (G (af (G (ak (cw h (fun(c,C)=>aA [(2,.adr 0 0 2 0),(5,.sl 1),(14,.p q (.slice Y9) v),(15,.i64 (v.length:Int)),(16,.i64 C)] (Nj f x j z c) 2) 0 (fun e=>aA [(5,.sl 0)] [(0,.arr 128 Y9 e)] 1) (gg [.nilS 5 72 128 Y9] [0,72]) (fun y o h=>?_) (fun e h=>?_)))))))
 ·obtain⟨c,C⟩:=y;unfold qU at h;refine G (af (aC h (fun E h=>?_) (fun E h=>?_)))
  ·refine ae (ab (af (ak (GC 0 h (fun h=>GC 5 h (fun h=>?_))))));obtain⟨A,B,h⟩:=g2 h;refine kY a0 [(5,5,oc A),(19,19,oc B)] (ay (ab (Ge ?_)));exact eB h (gg [] [0,266])
  refine aw (aQ ?_);exact eX h (gg [] [1])
 refine az (ab (G (au ?_)));obtain rfl:=sI h;exact RI [(.slice Y9)]
def fy(f:Qj)(j:Bool)(_:Option Z1)(_ _ _ _ _:Int)(_:QJ)(_:QK)(c:Qj)(e:QK)(_:Option Z5)(_:List qH):Option (Qj×Bool) :=
 ((rL c e f).bind fun p =>
 some (p,j))
theorem kC{z:Qj}{v:Bool}{A:Option Z1}{B C:Int}{D E I:Int}{J:QJ}{c:QK}{f:Qj}{j:QK}{q:Option Z5}{o1:List qH}{u:Qj×Bool}(h:fy z v A B C D E I J c f j q o1=some u):
  fP Tryz.prog 20 [.adr 0 0 14 0] (lG z v A B C D E I J c f j q o1) (.agg [.p false (.slice Y9) u.1,.bo u.2]) (lG z v A B C D E I J c f j q o1):=by
 refine OB Tryz.func20 (fun Bw w0=>?_);unfold fy at h;refine G (af (GN a0 [(1,1,⟨∃e,Tryz.prog.underlying 53=some (.pointer e),⟨_,rfl⟩⟩)] (oM rfl (ae (ab ?_)))));obtain⟨L,M,h⟩:=aj h;have x:=(yT false false false M);refine GD ⟨[],[(9,(oP x))]⟩ [(9,9,oc x)] (au ?_);obtain rfl:=sI h;exact RO [some HB] [] [0,1,2] [(2,.adr 2 0 2 0)] (ND z v A B C D E I J c f j q o1 L v) 3 2
def mL(c:Option Z5):Option (Int) :=
 (if c.isSome=true then(if(decide ((((c.getD (Ty.zero (.prod lQ nM))).1.1).length:Int) > 0))=true then(if c.isSome=true then(if 0≤(i64.wrap ((((c.getD (Ty.zero (.prod lQ nM))).1.1).length:Int) - 1))∧(i64.wrap ((((c.getD (Ty.zero (.prod lQ nM))).1.1).length:Int) - 1))<(((c.getD (Ty.zero (.prod lQ nM))).1.1).length:Int)then(if c.isSome=true then(if 0≤(i64.wrap ((((c.getD (Ty.zero (.prod lQ nM))).1.1).length:Int) - 1))∧(i64.wrap ((((c.getD (Ty.zero (.prod lQ nM))).1.1).length:Int) - 1))<(((c.getD (Ty.zero (.prod lQ nM))).1.1).length:Int)then some (i64.wrap (((((c.getD (Ty.zero (.prod lQ nM))).1.1).getD ((i64.wrap ((((c.getD (Ty.zero (.prod lQ nM))).1.1).length:Int) - 1)).toNat) (0,0,0,0)).1)+((((c.getD (Ty.zero (.prod lQ nM))).1.1).getD ((i64.wrap ((((c.getD (Ty.zero (.prod lQ nM))).1.1).length:Int) - 1)).toNat) (0,0,0,0)).2.1)))else none)else none)else none)else none)
 else some 0)else none)
theorem um(e:Bool){j:Option Z5}{c:Int}(h:mL j=some c):
  Pure Tryz.prog 61 [.p e (.ptr (.prod lQ nM)) j] (aJ (bc false [⟨(.int .i64),c⟩])):=by
 refine PB Tryz.func61 (fun Bw w0=>?_);unfold mL at h;refine G (af (GC 1 h (fun h=>G (aC h (fun q h=>?_) (fun q h=>?_)))))
 ·obtain⟨u,v,x,f,h⟩:=g4 h;refine GD a0 [(1,1,oc u),(7,7,oc v),(11,11,oc x),(17,17,oc f)] (au (ah ?_));obtain rfl:=sI h;exact RI [(.int .i64)]
 refine ae (ab (G (au ?_)));obtain rfl:=sI h;exact RI [(.int .i64)]
def jt(c e _ _ f:Int):Option (Bool) :=
 some (decide ((i64.wrap (c+e)) > f))
theorem qB{e f:Int}{j p q:Int}{c:Bool}(h:jt e f j p q=some c):
  Pure Tryz.prog 63 [.agg [.i64 e,.i64 f,.i64 j,.u8 p],.fad true [.i64 q] 0] (aJ (bc false [⟨.bool,c⟩])):=by
 refine PB Tryz.func63 (fun Bw w0=>?_);unfold jt at h;refine G (G (au ?_));obtain rfl:=sI h;exact RI [.bool]
def mV(c f:Int)(e:Qj):Option (Bool) :=
 (if 0≤c∧c<(e.length:Int)then((jt ((e.getD c.toNat (0,0,0,0)).1) ((e.getD c.toNat (0,0,0,0)).2.1) ((e.getD c.toNat (0,0,0,0)).2.2.1) ((e.getD c.toNat (0,0,0,0)).2.2.2) f).bind fun j =>
 some j)else none)
theorem ug(f:Bool){j q:Int}{u:Qj}{c:Bool}(h:mV j q u=some c):
  Pure Tryz.prog 93 [.i64 j,.fad true [.fn 63 [.fad true [.i64 q] 0]] 0,.fad true [.p f (.slice Y9) u] 0] (aJ (bc false [⟨.bool,c⟩])):=by
 refine PB Tryz.func93 (fun Bw w0=>?_);unfold mV at h;refine G ?_;obtain⟨v,h⟩:=aE h;obtain⟨z,x,h⟩:=aj h;have e:=(qB x);refine GD ⟨[],[(5,(oP e))]⟩ [(3,3,oc v),(5,5,oc e)] (au ?_);obtain rfl:=sI h;exact RI [.bool]
def mJ(f:Int)(j:Qj):(Int×Int)→Option ((Int×Int)⊕(Int)):=fun(c,e) =>
 (if(decide (c<e))=true then(if 0≤(1:Int)then((mV (i64.wrap (Int.fdiv (u64.wrap (i64.wrap (c+e))) (2 ^ (min (1:Int).toNat u64.bits)))) f j).bind fun p =>
 (if(!p)=true then some (Sum.inl ((i64.wrap ((i64.wrap (Int.fdiv (u64.wrap (i64.wrap (c+e))) (2 ^ (min (1:Int).toNat u64.bits))))+1)),e))
 else some (Sum.inl (c,(i64.wrap (Int.fdiv (u64.wrap (i64.wrap (c+e))) (2 ^ (min (1:Int).toNat u64.bits))))))))else none)
 else some (Sum.inr c))
def l0(c e:Int)(f:Qj):Option (Int) :=
 ((iter (mJ e f) (0,c)).bind fun j=>some j)
theorem tW(c:Bool){q f:Int}{j:Qj}{e:Int}(h:l0 q f j=some e):
  Pure Tryz.prog 92 [.i64 q,.fn 93 [.fad true [.fn 63 [.fad true [.i64 f] 0]] 0,.fad true [.p c (.slice Y9) j] 0]] (aJ (bc false [⟨(.int .i64),e⟩])):=by
 refine PB Tryz.func92 (fun Bw w0=>?_);unfold l0 at h;refine G (G (af (ak (cw h (fun(u,v)=>aA [(1,.fn 93 [.fad true [.fn 63 [.fad true [.i64 f] 0]] 0,.fad true [.p c (.slice Y9) j] 0]),(5,.i64 u),(6,.i64 v)] [] 0) 0 (fun x=>aA [(5,.i64 x)] [] 0) (gg [] []) (fun y o h=>?_) (fun x h=>?_)))))
 ·obtain⟨u,v⟩:=y;unfold mJ at h;refine af (G (aC h (fun z h=>?_) (fun z h=>?_)))
  ·refine ae (ab (ak (GC 4 h (fun h=>?_))));obtain⟨C,A,h⟩:=aj h;refine GP 2 (ug c A) (aC h (fun B h=>?_) (fun B h=>?_))
   ·refine Ge (ay ?_);exact eB h (gg [] [])
   refine Ge (ay ?_);exact eB h (gg [] [])
  refine aw (aQ ?_);exact eX h (gg [] [])
 refine az (ab (G (au ?_)));obtain rfl:=sI h;exact RI [(.int .i64)]
def pN(e:Qj)(c:Int):Option (Int) :=
 ((l0 (e.length:Int) c e).bind fun f =>
 some f)
theorem xS(c:Bool){j:Qj}{e f:Int}(h:pN j e=some f):
  Pure Tryz.prog 62 [.p c (.slice Y9) j,.fn 63 [.fad true [.i64 e] 0]] (aJ (bc false [⟨(.int .i64),f⟩])):=by
 refine PB Tryz.func62 (fun Bw w0=>?_);unfold pN at h;refine G ?_;obtain⟨u,q,h⟩:=aj h;refine GP 3 (tW c q) (au ?_);obtain rfl:=sI h;exact RI [(.int .i64)]
def jv(f c _ _ e:Int):Option (Bool) :=
 some (decide (c > e))
theorem qC{e f:Int}{j p q:Int}{c:Bool}(h:jv e f j p q=some c):
  Pure Tryz.prog 65 [.agg [.i64 e,.i64 f,.i64 j,.u8 p],.fad true [.i64 q] 0] (aJ (bc false [⟨.bool,c⟩])):=by
 refine PB Tryz.func65 (fun Bw w0=>?_);unfold jv at h;refine G (G (au ?_));obtain rfl:=sI h;exact RI [.bool]
def re(c f:Int)(e:Qj):Option (Bool) :=
 (if 0≤c∧c<(e.length:Int)then((jv ((e.getD c.toNat (0,0,0,0)).1) ((e.getD c.toNat (0,0,0,0)).2.1) ((e.getD c.toNat (0,0,0,0)).2.2.1) ((e.getD c.toNat (0,0,0,0)).2.2.2) f).bind fun j =>
 some j)else none)
theorem zh(f:Bool){j q:Int}{u:Qj}{c:Bool}(h:re j q u=some c):
  Pure Tryz.prog 94 [.i64 j,.fad true [.fn 65 [.fad true [.i64 q] 0]] 0,.fad true [.p f (.slice Y9) u] 0] (aJ (bc false [⟨.bool,c⟩])):=by
 refine PB Tryz.func94 (fun Bw w0=>?_);unfold re at h;refine G ?_;obtain⟨v,h⟩:=aE h;obtain⟨z,x,h⟩:=aj h;have e:=(qC x);refine GD ⟨[],[(5,(oP e))]⟩ [(3,3,oc v),(5,5,oc e)] (au ?_);obtain rfl:=sI h;exact RI [.bool]
def mq(f:Int)(j:Qj):(Int×Int)→Option ((Int×Int)⊕(Int)):=fun(c,e) =>
 (if(decide (c<e))=true then(if 0≤(1:Int)then((re (i64.wrap (Int.fdiv (u64.wrap (i64.wrap (c+e))) (2 ^ (min (1:Int).toNat u64.bits)))) f j).bind fun p =>
 (if(!p)=true then some (Sum.inl ((i64.wrap ((i64.wrap (Int.fdiv (u64.wrap (i64.wrap (c+e))) (2 ^ (min (1:Int).toNat u64.bits))))+1)),e))
 else some (Sum.inl (c,(i64.wrap (Int.fdiv (u64.wrap (i64.wrap (c+e))) (2 ^ (min (1:Int).toNat u64.bits))))))))else none)
 else some (Sum.inr c))
def lO(c e:Int)(f:Qj):Option (Int) :=
 ((iter (mq e f) (0,c)).bind fun j=>some j)
theorem tY(c:Bool){q f:Int}{j:Qj}{e:Int}(h:lO q f j=some e):
  Pure Tryz.prog 92 [.i64 q,.fn 94 [.fad true [.fn 65 [.fad true [.i64 f] 0]] 0,.fad true [.p c (.slice Y9) j] 0]] (aJ (bc false [⟨(.int .i64),e⟩])):=by
 refine PB Tryz.func92 (fun Bw w0=>?_);unfold lO at h;refine G (G (af (ak (cw h (fun(u,v)=>aA [(1,.fn 94 [.fad true [.fn 65 [.fad true [.i64 f] 0]] 0,.fad true [.p c (.slice Y9) j] 0]),(5,.i64 u),(6,.i64 v)] [] 0) 0 (fun x=>aA [(5,.i64 x)] [] 0) (gg [] []) (fun y o h=>?_) (fun x h=>?_)))))
 ·obtain⟨u,v⟩:=y;unfold mq at h;refine af (G (aC h (fun z h=>?_) (fun z h=>?_)))
  ·refine ae (ab (ak (GC 4 h (fun h=>?_))));obtain⟨C,A,h⟩:=aj h;refine GP 2 (zh c A) (aC h (fun B h=>?_) (fun B h=>?_))
   ·refine Ge (ay ?_);exact eB h (gg [] [])
   refine Ge (ay ?_);exact eB h (gg [] [])
  refine aw (aQ ?_);exact eX h (gg [] [])
 refine az (ab (G (au ?_)));obtain rfl:=sI h;exact RI [(.int .i64)]
def p7(e:Qj)(c:Int):Option (Int) :=
 ((lO (e.length:Int) c e).bind fun f =>
 some f)
theorem xy(c:Bool){j:Qj}{e f:Int}(h:p7 j e=some f):
  Pure Tryz.prog 64 [.p c (.slice Y9) j,.fn 65 [.fad true [.i64 e] 0]] (aJ (bc false [⟨(.int .i64),f⟩])):=by
 refine PB Tryz.func64 (fun Bw w0=>?_);unfold p7 at h;refine G ?_;obtain⟨u,q,h⟩:=aj h;refine GP 3 (tY c q) (au ?_);obtain rfl:=sI h;exact RI [(.int .i64)]
def lZ(c:Option Z5)(p:Int)(q:Bool):Option ((Int×Int)×Int) :=
 (if c.isNone=true then some ((0,0),1)
 else(((if(decide (p<0))=true then some (true)
 else((mL c).bind fun u =>
 some ((decide (p > u)))))).bind fun v1=>(if v1=true then some ((0,0),2)
 else(if c.isSome=true then((pN ((c.getD (Ty.zero (.prod lQ nM))).1.1) p).bind fun j =>
 (if c.isSome=true then((p7 ((c.getD (Ty.zero (.prod lQ nM))).2.1) j).bind fun f =>
 (((if c.isSome=true then(if(f == (((c.getD (Ty.zero (.prod lQ nM))).2.1).length:Int))=true then some (true)
 else(if q=true then(if(decide (f > 0))=true then(if c.isSome=true then(if 0≤f∧f<(((c.getD (Ty.zero (.prod lQ nM))).2.1).length:Int)then some ((((((c.getD (Ty.zero (.prod lQ nM))).2.1).getD f.toNat (0,0,0,0)).1) == j))else none)else none)
 else some (false))
 else some (false)))else none)).bind fun v=>(((if v=true then some ((i64.wrap (f - 1)))
 else some (f))).bind fun e=>(if c.isSome=true then(if 0≤e∧e<(((c.getD (Ty.zero (.prod lQ nM))).2.2).length:Int)then(if c.isSome=true then(if 0≤e∧e<(((c.getD (Ty.zero (.prod lQ nM))).2.1).length:Int)then(if 0≤(i64.wrap (j - ((((c.getD (Ty.zero (.prod lQ nM))).2.1).getD e.toNat (0,0,0,0)).1)))∧(i64.wrap (j - ((((c.getD (Ty.zero (.prod lQ nM))).2.1).getD e.toNat (0,0,0,0)).1)))<((((c.getD (Ty.zero (.prod lQ nM))).2.2).getD e.toNat []).length:Int)then some ((e,((((c.getD (Ty.zero (.prod lQ nM))).2.2).getD e.toNat []).getD ((i64.wrap (j - ((((c.getD (Ty.zero (.prod lQ nM))).2.1).getD e.toNat (0,0,0,0)).1))).toNat) 0)),0)else none)else none)else none)else none)else none))))else none))else none))))
theorem sb(q:Bool){A:Option Z5}{B:Int}{C:Bool}{x:(Int×Int)×Int}(h:lZ A B C=some x):
  Pure Tryz.prog 36 [.p q (.ptr (.prod lQ nM)) A,.i64 B,.bo C] (aJ (bc false [⟨Y2,x.1⟩,⟨(.int .i64),x.2⟩])):=by
 refine PB Tryz.func36 (fun Bw w0=>?_);unfold lZ at h;refine G (af (GN a0 [(1,1,⟨∃e,Tryz.prog.underlying 119=some (.pointer e),⟨_,rfl⟩⟩)] (aC h (fun Z h=>?_) (fun Z h=>?_))))
 ·refine G (au (ah ?_));obtain rfl:=sI h;exact RI [Y2,(.int .i64)]
 refine ae (ab (af (af (bn h (fun v1=>aA [(0,.p q (.ptr (.prod lQ nM)) A),(2,.bo C),(4,.adr 0 0 1 0),(6,.adr 1 0 2 0),(20,.bo v1)] [(0,.box [.i64 B]),(1,.box [.i64 0,.i64 0])] 2) (fun v1 h=>?_) (fun v1 h=>?_)))))
 ·rcases aI h with⟨z,h⟩ | ⟨z,h⟩
  ·exact kY ⟨[(2,true),(7,true)],[]⟩ [(3,7,oc z)] (eN h (gg [] [0,8]))
  obtain⟨r3,q3,h⟩:=aj h;have j:=(um q q3);exact kY ⟨[(2,false),(7,false)],[(5,(oP j))]⟩ [(3,4,an z),(5,5,oc (And.intro z j)),(6,6,an z),(7,7,oc z)] (eN h (gg [] [0,8]))
 refine ab (aC h (fun B5 h=>?_) (fun B5 h=>?_))
 ·refine G (au (ah ?_));obtain rfl:=sI h;exact RI [Y2,(.int .i64)]
 refine ae (ab ?_);obtain⟨c2,h⟩:=aE h;obtain⟨Y,q5,h⟩:=aj h;have j:=(xS q q5);refine GN ⟨[],[(6,(oP j))]⟩ [(1,1,oc c2),(6,6,oc j)] ?_;obtain⟨c4,h⟩:=aE h;obtain⟨r7,q7,h⟩:=aj h;have j:=(xy q q7);refine GN ⟨[],[(5,(oP j))]⟩ [(1,1,oc c4),(5,5,oc j)] (af (af (bn h (fun D=>aA [(0,.p q (.ptr (.prod lQ nM)) A),(6,.adr 0 0 2 0),(8,.adr 1 0 1 0),(9,.i64 r7),(60,.bo D)] [(0,.box [.i64 0,.i64 0]),(1,.box [.i64 Y])] 2) (fun D h=>?_) (fun D h=>?_))))
 ·obtain⟨v,h⟩:=aE h;rcases aI h with⟨c,h⟩ | ⟨c,h⟩
  ·exact kY ⟨[(7,true),(25,true)],[]⟩ [(2,2,oc v),(8,9,oc c),(12,13,oc c),(24,25,oc c)] (eN h (gg [] [1,58]))
  rcases aI h with⟨u,h⟩ | ⟨u,h⟩
  ·rcases aI h with⟨f,h⟩ | ⟨f,h⟩
   ·obtain⟨E,I,h⟩:=g2 h;exact kY ⟨[(7,false),(9,true),(12,true),(13,true),(24,true),(25,false)],[]⟩ [(2,2,oc v),(8,9,an c),(10,11,an u),(12,12,oc (And.intro c u)),(13,13,an c),(14,14,an f),(15,15,oc (And.intro f E)),(16,18,an f),(19,19,oc (And.intro f I)),(20,23,an f),(24,24,oc (And.intro c f)),(25,25,oc c)] (eN h (gg [] [1,58]))
   exact kY ⟨[(7,false),(9,true),(12,true),(13,false),(24,false),(25,false)],[]⟩ [(2,2,oc v),(8,9,an c),(10,11,an u),(12,12,oc (And.intro c u)),(13,13,an c),(14,23,oc f),(24,24,oc (And.intro c f)),(25,25,oc c)] (eN h (gg [] [1,58]))
  exact kY ⟨[(7,false),(9,false),(12,false),(25,false)],[]⟩ [(2,2,oc v),(8,9,an c),(10,11,oc u),(12,12,oc (And.intro c u)),(13,13,an c),(24,24,an c),(25,25,oc c)] (eN h (gg [] [1,58]))
 refine ab (bn h (fun J=>aA [(0,.p q (.ptr (.prod lQ nM)) A),(6,.adr 0 0 2 0),(8,.adr 1 0 1 0),(9,.i64 J)] [(0,.box [.i64 0,.i64 0]),(1,.box [.i64 Y])] 2) (fun J h=>?_) (fun J h=>?_))
 ·refine aC h (fun L h=>?_) (fun L h=>?_)
  ·exact Ge (eN h (gg [] [0,1]))
  exact ae (eN h (gg [] [0,1]))
 refine ab ?_;obtain⟨M,N,O,V,h⟩:=g4 h;obtain⟨X,h⟩:=aE h;refine GD a0 [(2,2,oc M),(6,6,oc N),(10,10,oc O),(14,14,oc V),(18,18,oc X)] (au ?_);obtain rfl:=sI h;exact RI [Y2,(.int .i64)]
def jd(e:Int)(c:Bool)(_:Qj)(_:Bool)(_:Option Z1)(_ _ _ _ _:Int)(_:QJ)(_:QK)(_:Qj)(_:QK)(f:Option Z5)(_:List qH):Option ((Int×Int)×Int) :=
 ((lZ f e c).bind fun(p,j) =>
 some ((p.1,p.2),j))
theorem sw{v:Int}{c:Bool}{x:Qj}{z:Bool}{A:Option Z1}{B C:Int}{D E I:Int}{J:QJ}{f:QK}{j:Qj}{p:QK}{q:Option Z5}{o1:List qH}{u:(Int×Int)×Int}(h:jd v c x z A B C D E I J f j p q o1=some u):
  fP Tryz.prog 17 [.adr 0 0 14 0,.i64 v,.bo c] (lG x z A B C D E I J f j p q o1) (.tup [.agg [.i64 u.1.1,.i64 u.1.2],.i64 u.2]) (lG x z A B C D E I J f j p q o1):=by
 refine OB Tryz.func17 (fun Bw w0=>?_);unfold jd at h;refine G (af (GN a0 [(1,1,⟨∃e,Tryz.prog.underlying 53=some (.pointer e),⟨_,rfl⟩⟩)] (oM rfl (ae (ab ?_)))));obtain⟨⟨M,L⟩,N,h⟩:=aj h;refine GP 6 (sb false N) (au ?_);obtain rfl:=sI h;exact RO [some Y2,some (.int .i64)] [] [0,1,2] [(6,.adr 2 0 2 0),(7,.i64 L)] (MZ x z A B C D E I J f j p q o1 M.1 M.2) 3 2
def iV(_ L M:Int)(_:QK)(_ _ _ _ _:Int)(_:QJ)(c:Int)(e:Bool)(_ _:Int)(v:Qj)(x:Bool)(z:Option Z1)(A B C D E:Int)(I:QJ)(f:QK)(j:Qj)(p:QK)(q:Option Z5)(o1:List qH)(_ _ _ _:Int)(_:Bool):Option Z8 :=
 ((jd c e v x z A B C D E I f j p q o1).bind fun(u,J) =>
 some (J,u.1,u.2))
theorem sW(X:Bool){Y Z s3:Int}{s4:QK}{s5 s6:Int}{s7 s8 s9:Int}{u:QJ}{v:Int}{x:Bool}{z A:Int}{B:Qj}{C:Bool}{D:Option Z1}{E I:Int}{J L M:Int}{N:QJ}{c:QK}{e:Qj}{f:QK}{j:Option Z5}{o1:List qH}{a1 a2:Int}{a3 O:Int}{V:Bool}{q:Int×Int×Int}(h:iV Y Z s3 s4 s5 s6 s7 s8 s9 u v x z A B C D E I J L M N c e f j o1 a1 a2 a3 O V=some q):
  fP Tryz.prog 44 [.adr 0 0 14 0,.agg [.i64 Y,.i64 Z,.i64 s3,.p X (.slice (.int .u8)) s4,.i64 s5,.i64 s6,.u8 s7,.i64 s8,.i64 s9,.p false .flt u,.i64 v,.bo x,.i64 z,.i64 A],.adr 2 0 6 0] (zP B C D E I J L M N c e f j o1 a1 a2 a3 O V) (.tup []) (zP B C D E I J L M N c e f j o1 q.1 q.2.1 q.2.2 O V):=by
 refine OB Tryz.func44 (fun Bw w0=>?_);unfold iV at h;refine G ?_;obtain⟨⟨r7,r8⟩,q4,h⟩:=aj h;refine lg 7 [0,1] (sw q4) ?_;obtain rfl:=sI h;exact(RO [] [] [0,1,2] [] (zP B C D E I J L M N c e f j o1 r8 r7.1 r7.2 O V) 3 3).normal
def vv(c:List Mv):(Unit)→Option ((Unit)⊕((Unit)⊕((List vC)×Int×Int))):=fun _ =>
 (if(decide (0<(c.length:Int)))=true then(if 0≤(0:Int)∧0<(c.length:Int)then(if(cJ (.int .i64) (0:Int) ((c.getD ((0:Int).toNat) (0,(0,0,([]:QK)),(0,0,0,0,0,(some 0)),0,false,0,0)).1))=true then none
 else(if(cJ (.int .i64) (1:Int) ((c.getD ((0:Int).toNat) (0,(0,0,([]:QK)),(0,0,0,0,0,(some 0)),0,false,0,0)).1))=true then none
 else(if(cJ (.int .i64) (2:Int) ((c.getD ((0:Int).toNat) (0,(0,0,([]:QK)),(0,0,0,0,0,(some 0)),0,false,0,0)).1))=true then none
 else(if(cJ (.int .i64) (3:Int) ((c.getD ((0:Int).toNat) (0,(0,0,([]:QK)),(0,0,0,0,0,(some 0)),0,false,0,0)).1))=true then none
 else some (Sum.inr (Sum.inr (([]:List vC),60,0)))))))else none)
 else some (Sum.inr (Sum.inl ())))
def gD(X Y Z i4 i5:Int)(i6:QJ)(f:List Mv)(r3:Option Z1):(Qj×Bool×QK×Qj×QK×(Option Z5)×(List qH)×(List vC)×Int)→Option ((Qj×Bool×QK×Qj×QK×(Option Z5)×(List qH)×(List vC)×Int)⊕((List vC)⊕((List vC)×Int×Int))):=fun(v10,v11,z,A,B,C,D,p,e) =>
 (if(decide (e<(f.length:Int)))=true then(if 0≤e∧e<(f.length:Int)then(if(cJ (.int .i64) (0:Int) ((f.getD e.toNat (0,(0,0,[]),(0,0,0,0,0,(some 0)),0,false,0,0)).1))=true then((iX ((f.getD e.toNat (0,(0,0,[]),(0,0,0,0,0,(some 0)),0,false,0,0)).1) ((f.getD e.toNat (0,(0,0,[]),(0,0,0,0,0,(some 0)),0,false,0,0)).2.1.1) ((f.getD e.toNat (0,(0,0,[]),(0,0,0,0,0,(some 0)),0,false,0,0)).2.1.2.1) ((f.getD e.toNat (0,(0,0,[]),(0,0,0,0,0,(some 0)),0,false,0,0)).2.1.2.2) ((f.getD e.toNat (0,(0,0,[]),(0,0,0,0,0,(some 0)),0,false,0,0)).2.2.1.1) ((f.getD e.toNat (0,(0,0,[]),(0,0,0,0,0,(some 0)),0,false,0,0)).2.2.1.2.1) ((f.getD e.toNat (0,(0,0,[]),(0,0,0,0,0,(some 0)),0,false,0,0)).2.2.1.2.2.1) ((f.getD e.toNat (0,(0,0,[]),(0,0,0,0,0,(some 0)),0,false,0,0)).2.2.1.2.2.2.1) ((f.getD e.toNat (0,(0,0,[]),(0,0,0,0,0,(some 0)),0,false,0,0)).2.2.1.2.2.2.2.1) ((f.getD e.toNat (0,(0,0,[]),(0,0,0,0,0,(some 0)),0,false,0,0)).2.2.1.2.2.2.2.2) ((f.getD e.toNat (0,(0,0,[]),(0,0,0,0,0,(some 0)),0,false,0,0)).2.2.2.1) ((f.getD e.toNat (0,(0,0,[]),(0,0,0,0,0,(some 0)),0,false,0,0)).2.2.2.2.1) ((f.getD e.toNat (0,(0,0,[]),(0,0,0,0,0,(some 0)),0,false,0,0)).2.2.2.2.2.1) ((f.getD e.toNat (0,(0,0,[]),(0,0,0,0,0,(some 0)),0,false,0,0)).2.2.2.2.2.2) v10 v11 r3 X Y Z i4 i5 i6 z A B C D 0 (0:Int) (0:Int) (0:Int) false).bind fun(I,J,L,M,N,O,V,E) =>
 ((fy I J r3 X Y Z i4 i5 i6 L M N O V).bind fun q =>
 (if(p.length+([(E,(0,0),0,q.1,q.2)]:List vC).length)*64≤140737488355328∧p.length+([(E,(0,0),0,q.1,q.2)]:List vC).length≤9223372036854775807 then some (Sum.inl (I,J,L,M,N,O,V,(p++([(E,(0,0),0,q.1,q.2)]:List vC)),(i64.wrap (e+1))))else none)))
 else(if(cJ (.int .i64) (1:Int) ((f.getD e.toNat (0,(0,0,[]),(0,0,0,0,0,(some 0)),0,false,0,0)).1))=true then none
 else(if(cJ (.int .i64) (2:Int) ((f.getD e.toNat (0,(0,0,[]),(0,0,0,0,0,(some 0)),0,false,0,0)).1))=true then((iV ((f.getD e.toNat (0,(0,0,[]),(0,0,0,0,0,(some 0)),0,false,0,0)).1) ((f.getD e.toNat (0,(0,0,[]),(0,0,0,0,0,(some 0)),0,false,0,0)).2.1.1) ((f.getD e.toNat (0,(0,0,[]),(0,0,0,0,0,(some 0)),0,false,0,0)).2.1.2.1) ((f.getD e.toNat (0,(0,0,[]),(0,0,0,0,0,(some 0)),0,false,0,0)).2.1.2.2) ((f.getD e.toNat (0,(0,0,[]),(0,0,0,0,0,(some 0)),0,false,0,0)).2.2.1.1) ((f.getD e.toNat (0,(0,0,[]),(0,0,0,0,0,(some 0)),0,false,0,0)).2.2.1.2.1) ((f.getD e.toNat (0,(0,0,[]),(0,0,0,0,0,(some 0)),0,false,0,0)).2.2.1.2.2.1) ((f.getD e.toNat (0,(0,0,[]),(0,0,0,0,0,(some 0)),0,false,0,0)).2.2.1.2.2.2.1) ((f.getD e.toNat (0,(0,0,[]),(0,0,0,0,0,(some 0)),0,false,0,0)).2.2.1.2.2.2.2.1) ((f.getD e.toNat (0,(0,0,[]),(0,0,0,0,0,(some 0)),0,false,0,0)).2.2.1.2.2.2.2.2) ((f.getD e.toNat (0,(0,0,[]),(0,0,0,0,0,(some 0)),0,false,0,0)).2.2.2.1) ((f.getD e.toNat (0,(0,0,[]),(0,0,0,0,0,(some 0)),0,false,0,0)).2.2.2.2.1) ((f.getD e.toNat (0,(0,0,[]),(0,0,0,0,0,(some 0)),0,false,0,0)).2.2.2.2.2.1) ((f.getD e.toNat (0,(0,0,[]),(0,0,0,0,0,(some 0)),0,false,0,0)).2.2.2.2.2.2) v10 v11 r3 X Y Z i4 i5 i6 z A B C D 0 (0:Int) (0:Int) (0:Int) false).bind fun(u,v,x) =>
 ((fy v10 v11 r3 X Y Z i4 i5 i6 z A B C D).bind fun j =>
 (if(p.length+([(u,(v,x),0,j.1,j.2)]:List vC).length)*64≤140737488355328∧p.length+([(u,(v,x),0,j.1,j.2)]:List vC).length≤9223372036854775807 then some (Sum.inl (v10,v11,z,A,B,C,D,(p++([(u,(v,x),0,j.1,j.2)]:List vC)),(i64.wrap (e+1))))else none)))
 else(if(cJ (.int .i64) (3:Int) ((f.getD e.toNat (0,(0,0,[]),(0,0,0,0,0,(some 0)),0,false,0,0)).1))=true then none
 else some (Sum.inr (Sum.inr (([]:List vC),60,e)))))))else none)
 else some (Sum.inr (Sum.inl p)))
def np(d1 d2 d3 d4:XZ)(d5 d6 d7:QX)(d8 d9 N O V X Y:Int)(Z:QJ)(x1:QK)(p:List Mv):Option ((List vC)×Int×Int) :=
 (if(decide ((p.length:Int) > 64))=true then some (([]:List vC),60,64)
 else((j8 d1 d2 d3 d4 d5 d6 d7 d8 d9).bind fun(r3,q) =>
 (if(q.1 != 0)=true then some (([]:List vC),q.1,q.2)
 else((gw r3 N O V X Y Z x1).bind fun(z2:((Int)⊕Mz))=>match z2 with
 | .inl e=>(if(e != 0)=true then some (([]:List vC),e,0)
 else((nJ).bind fun _ =>
 ((iter (vv p) ()).bind fun(u:((Unit)⊕((List vC)×Int×Int)))=>match u with
 | .inl _=>some (([]:List vC),0,0)
 | .inr ((v,x))=>some (v,x))))
 | .inr (f,z,A,B,C,D,E,I)=>(if(f != 0)=true then some (([]:List vC),f,0)
 else((nJ).bind fun _ =>
 ((iter (gD N O V X Y Z p r3) (z,A,B,C,D,E,I,([]:List vC),0)).bind fun(j:((List vC)⊕((List vC)×Int×Int)))=>match j with
 | .inl J=>some (J,0,0)
 | .inr ((L,M))=>some (L,M))))))))
theorem vJ(J L M N v c:Bool){d1 d2:XZ}{d3 d4:XZ}{d5 d6 d7:QX}{d8 d9:Int}{i1 i2:Int}{i3 i4 i5:Int}{i6:QJ}{x1:QK}{f:List Mv}{C:(List vC)×Int×Int}(h:np d1 d2 d3 d4 d5 d6 d7 d8 d9 i1 i2 i3 i4 i5 i6 x1 f=some C):
  Pure Tryz.prog 12 [.agg [.p J (.slice (.prod (.int .i32) Y1)) d1,.p L (.slice (.prod (.int .i32) Y1)) d2,.p M (.slice (.prod (.int .i32) Y1)) d3,.p N (.slice (.prod (.int .i32) Y1)) d4,.st d5,.st d6,.st d7,.i64 d8,.i64 d9],.agg [.i64 i1,.i64 i2,.u8 i3,.i64 i4,.i64 i5,.p false .flt i6],.p v (.slice (.int .u8)) x1,.p c (.slice (.prod (.int .i64) Nq)) f] (aJ (bc false [⟨(.slice (.prod (.int .i64) DY)),C.1⟩,⟨Y2,C.2⟩])):=by
 refine PB Tryz.func12 (fun Bw w0=>?_);unfold np at h;refine G (af (G (aC h (fun B1 h=>?_) (fun B1 h=>?_))))
 ·refine G (au (ah ?_));obtain rfl:=sI h;exact RI [(.slice (.prod (.int .i64) DY)),Y2]
 refine ae (ab ?_);obtain⟨⟨r3,r4⟩,q2,h⟩:=aj h;refine GP 1 (uS J L M N q2) (af (G (aC h (fun B2 h=>?_) (fun B2 h=>?_))))
 ·refine GD a0 [] (au (ah ?_));obtain rfl:=sI h;exact RI [(.slice (.prod (.int .i64) DY)),Y2]
 refine ae (ab (af ?_));obtain⟨z2,q4,h⟩:=aj h;rcases z2 with b8 | ⟨b9,be,bi,bs,bv,bx,c1,c2⟩
 ·refine lg 3 [] (mA v q4) (ab (af (G (aC h (fun B3 h=>?_) (fun B3 h=>?_)))))
  ·refine G (au (ah ?_));obtain rfl:=sI h;exact RI [(.slice (.prod (.int .i64) DY)),Y2]
  refine ae (ab ?_);obtain⟨_,q6,h⟩:=aj h;refine GO 0 [] (rU q6) (G (af (G (ak (kj h (fun _=>aA [(9,.adr 0 0 2 0),(12,.nilp),(14,.mp 1),(15,.nils),(46,.p c (.slice (.prod (.int .i64) Nq)) f),(47,.i64 (f.length:Int)),(48,.i64 0)] (Na 0 (0:Int)) 2) (dw (fc Tryz.f12.ntmps 0 (fun _=>aA [(9,.adr 0 0 2 0),(15,.nils)] [(0,.box [.i64 0,.i64 0])] 1)) (gm tb Tryz.f12.results.toList (fun(O,V)=>[⟨(.slice (.prod (.int .i64) DY)),O⟩,⟨Y2,V⟩]))) (gg [] [24,232]) (fun y o h=>?_) (fun a9 h e σ' X=>?_))))))
  ·unfold vv at h;refine G (af (aC h (fun aa h=>?_) (fun aa h=>?_)))
   ·refine ae (ab (af (ak (GC 1 h (fun h=>af ?_)))));rcases aI h with⟨j,h⟩ | ⟨j,h⟩
    ·refine bz ⟨[],[(3,⟨.unk,[],false,[],[0],[],none⟩)]⟩ [(3,3,oc (And.intro tt j))] (ab (af (G (oM rfl (ae (ab (G (af ?_))))))));cases h
    rcases aI h with⟨x,h⟩ | ⟨x,h⟩
    ·refine bz ⟨[],[(3,⟨.unk,[],false,[],[1],[],none⟩)]⟩ [(3,3,⟨True∧jV (.int .i64) [(0,(Value.agg #[il 42])),(1,(Value.agg #[il 43])),(2,(Value.agg #[il 44])),(3,(Value.agg #[il 45]))] ((f.getD ((0:Int).toNat) (0,(0,0,([]:QK)),(0,0,0,0,0,(some 0)),0,false,0,0)).1) 1,⟨trivial,⟨j,x⟩⟩⟩)] (ab (af (G (oM rfl (ae (ab (G (af ?_))))))));cases h
    rcases aI h with⟨A,h⟩ | ⟨A,h⟩
    ·refine bz ⟨[],[(3,⟨.unk,[],false,[],[2],[],none⟩)]⟩ [(3,3,⟨True∧jV (.int .i64) [(0,(Value.agg #[il 42])),(1,(Value.agg #[il 43])),(2,(Value.agg #[il 44])),(3,(Value.agg #[il 45]))] ((f.getD ((0:Int).toNat) (0,(0,0,([]:QK)),(0,0,0,0,0,(some 0)),0,false,0,0)).1) 2,⟨trivial,⟨j,⟨x,A⟩⟩⟩⟩)] (ab (af (G (oM rfl (ae (ab (G (af ?_))))))));cases h
    rcases aI h with⟨D,h⟩ | ⟨D,h⟩
    ·refine bz ⟨[],[(3,⟨.unk,[],false,[],[3],[],none⟩)]⟩ [(3,3,⟨True∧jV (.int .i64) [(0,(Value.agg #[il 42])),(1,(Value.agg #[il 43])),(2,(Value.agg #[il 44])),(3,(Value.agg #[il 45]))] ((f.getD ((0:Int).toNat) (0,(0,0,([]:QK)),(0,0,0,0,0,(some 0)),0,false,0,0)).1) 3,⟨trivial,⟨j,⟨x,⟨A,D⟩⟩⟩⟩⟩)] (ab (af (G (oM rfl (ae (ab (G (af ?_))))))));cases h
    refine bz ⟨[],[(3,⟨.unk,[],false,[],[4],[],none⟩)]⟩ [(3,3,⟨True∧jV (.int .i64) [(0,(Value.agg #[il 42])),(1,(Value.agg #[il 43])),(2,(Value.agg #[il 44])),(3,(Value.agg #[il 45]))] ((f.getD ((0:Int).toNat) (0,(0,0,([]:QK)),(0,0,0,0,0,(some 0)),0,false,0,0)).1) 4,⟨trivial,⟨j,⟨x,⟨A,⟨D,trivial⟩⟩⟩⟩⟩⟩)] (ab (af (G (nY rfl (G (au ?_))))));obtain rfl:=sI h;refine ah (aB (ah (bG (aN ?_))));exact bH (RI [(.slice (.prod (.int .i64) DY)),Y2])
   refine aw (aQ ?_);obtain rfl:=sI h;refine dJ (bm ?_);exact bN (gg [] [0])
  rcases a9 with _ | ⟨O,V⟩
  ·obtain⟨rfl,E⟩:=X;refine cC ?_ E;refine az (ab (G (au ?_)));obtain rfl:=sI h;exact RI [(.slice (.prod (.int .i64) DY)),Y2]
  obtain⟨rfl,hr⟩:=X;refine aB (ah ?_);obtain rfl:=sI h;exact hr
 refine lg 3 [] (mA v q4) (ab (af (G (aC h (fun ac h=>?_) (fun ac h=>?_)))))
 ·refine G (au (ah ?_));obtain rfl:=sI h;exact RI [(.slice (.prod (.int .i64) DY)),Y2]
 refine ae (ab ?_);obtain⟨_,q8,h⟩:=aj h;refine GO 0 [] (rU q8) (G (af (G (ak (kj h (fun(v10,v11,Y,Z,a1,a2,a3,a4,q)=>aA [(9,.adr 0 0 2 0),(12,.adr 1 0 14 0),(14,.mp 3),(15,.sl 4),(46,.p c (.slice (.prod (.int .i64) Nq)) f),(47,.i64 (f.length:Int)),(48,.i64 q)] (M2 0 (0:Int) v10 v11 r3 i1 i2 i3 i4 i5 i6 Y Z a1 a2 a3 a4) 5) (dw (fc Tryz.f12.ntmps 0 (fun a5=>aA [(9,.adr 0 0 2 0),(15,.sl 1)] (NH 0 (0:Int) a5) 2)) (gm tb Tryz.f12.results.toList (fun(a6,a7)=>[⟨(.slice (.prod (.int .i64) DY)),a6⟩,⟨Y2,a7⟩]))) (gg [.nilS 15 280 66 (.prod (.int .i64) DY)] [24,168,169,232,280]) (fun y o h=>?_) (fun a8 h e σ' X=>?_))))))
 ·obtain⟨v10,v11,Y,Z,a1,a2,a3,a4,q⟩:=y;unfold gD at h;refine G (af (aC h (fun ad h=>?_) (fun ad h=>?_)))
  ·refine ae (ab (af (ak (GC 1 h (fun h=>af ?_)))));rcases aI h with⟨u,h⟩ | ⟨u,h⟩
   ·refine bz ⟨[],[(3,⟨.unk,[],false,[],[0],[],none⟩)]⟩ [(3,3,oc (And.intro tt u))] (ab (af (G (oM rfl (ae (ab (G ?_)))))));obtain⟨⟨c3,c4,c5,c6,c7,c8,c9,cc⟩,ax,h⟩:=aj h;refine GO 4 [1,2,157] (sh c ax) ?_;obtain⟨ch,b1,h⟩:=aj h;refine GO 1 [1,2] (kC b1) (xg 3 h (fun h=>ay (ab (Ge ?_))));exact eB h (gg [] [0,1,2,3,261])
   rcases aI h with⟨z,h⟩ | ⟨z,h⟩
   ·refine bz ⟨[],[(3,⟨.unk,[],false,[],[1],[],none⟩)]⟩ [(3,3,⟨True∧jV (.int .i64) [(0,(Value.agg #[il 42])),(1,(Value.agg #[il 43])),(2,(Value.agg #[il 44])),(3,(Value.agg #[il 45]))] ((f.getD q.toNat (0,(0,0,[]),(0,0,0,0,0,(some 0)),0,false,0,0)).1) 1,⟨trivial,⟨u,z⟩⟩⟩)] (ab (af (G (oM rfl (ae (ab (G (af ?_))))))));cases h
   rcases aI h with⟨B,h⟩ | ⟨B,h⟩
   ·refine bz ⟨[],[(3,⟨.unk,[],false,[],[2],[],none⟩)]⟩ [(3,3,⟨True∧jV (.int .i64) [(0,(Value.agg #[il 42])),(1,(Value.agg #[il 43])),(2,(Value.agg #[il 44])),(3,(Value.agg #[il 45]))] ((f.getD q.toNat (0,(0,0,[]),(0,0,0,0,0,(some 0)),0,false,0,0)).1) 2,⟨trivial,⟨u,⟨z,B⟩⟩⟩⟩)] (ab (af (G (oM rfl (ae (ab (G ?_)))))));obtain⟨⟨b4,b5,b6⟩,b2,h⟩:=aj h;refine GO 4 [1,2,157] (sW c b2) ?_;obtain⟨b7,b3,h⟩:=aj h;refine GO 1 [1,2] (kC b3) (xg 3 h (fun h=>ay (ab (Ge ?_))));exact eB h (gg [] [0,1,2,3,261])
   rcases aI h with⟨I,h⟩ | ⟨I,h⟩
   ·refine bz ⟨[],[(3,⟨.unk,[],false,[],[3],[],none⟩)]⟩ [(3,3,⟨True∧jV (.int .i64) [(0,(Value.agg #[il 42])),(1,(Value.agg #[il 43])),(2,(Value.agg #[il 44])),(3,(Value.agg #[il 45]))] ((f.getD q.toNat (0,(0,0,[]),(0,0,0,0,0,(some 0)),0,false,0,0)).1) 3,⟨trivial,⟨u,⟨z,⟨B,I⟩⟩⟩⟩⟩)] (ab (af (G (oM rfl (ae (ab (G (af ?_))))))));cases h
   refine bz ⟨[],[(3,⟨.unk,[],false,[],[4],[],none⟩)]⟩ [(3,3,⟨True∧jV (.int .i64) [(0,(Value.agg #[il 42])),(1,(Value.agg #[il 43])),(2,(Value.agg #[il 44])),(3,(Value.agg #[il 45]))] ((f.getD q.toNat (0,(0,0,[]),(0,0,0,0,0,(some 0)),0,false,0,0)).1) 4,⟨trivial,⟨u,⟨z,⟨B,⟨I,trivial⟩⟩⟩⟩⟩⟩)] (ab (af (G (nY rfl (G (au ?_))))));obtain rfl:=sI h;refine ah (aB (ah (bG (aN ?_))));exact bH (RI [(.slice (.prod (.int .i64) DY)),Y2])
  refine aw (aQ ?_);obtain rfl:=sI h;refine dJ (bm ?_);exact bN (gg [] [0,4])
 rcases a8 with a5 | ⟨a6,a7⟩
 ·obtain⟨rfl,E⟩:=X;refine cC ?_ E;refine az (ab (G (au ?_)));obtain rfl:=sI h;exact RI [(.slice (.prod (.int .i64) DY)),Y2]
 obtain⟨rfl,hr⟩:=X;refine aB (ah ?_);obtain rfl:=sI h;exact hr
def eO  : Option (Bool) :=
 ((gH).bind fun e =>
 (if 0<([97,98,32,99,100]:QK).length then((np e.1 e.2.1 e.2.2.1 e.2.2.2.1 e.2.2.2.2.1 e.2.2.2.2.2.1 e.2.2.2.2.2.2.1 e.2.2.2.2.2.2.2.1 e.2.2.2.2.2.2.2.2 3 (8:Int) (0:Int) (0:Int) (0:Int) (dN 0) ([97,98,32,99,100]:QK) ([(0,(9,0,([]:QK)),(0,0,0,0,0,(dN 0)),0,false,0,0),(0,(0,3,([]:QK)),(0,0,0,0,0,(dN 0)),0,false,0,0),(2,(0,0,([]:QK)),(0,0,0,0,0,(dN 0)),2,false,0,0)]:List Mv)).bind fun(c,f) =>
 (((if(f.1 == 0)=true then(if((c.length:Int) == 3)=true then(if 0≤(0:Int)∧0<(c.length:Int)then(if(((c.getD ((0:Int).toNat) (0,(0,0),0,([]:Qj),false)).1) == 50)=true then(if 0≤(0:Int)∧0<(c.length:Int)then(if((((c.getD ((0:Int).toNat) (0,(0,0),0,([]:Qj),false)).2.2.2.1).length:Int) == 2)=true then(if 0≤(1:Int)∧1<(c.length:Int)then(if((((c.getD ((1:Int).toNat) (0,(0,0),0,([]:Qj),false)).2.2.2.1).length:Int) == 1)=true then(if 0≤(2:Int)∧2<(c.length:Int)then some (((((c.getD ((2:Int).toNat) (0,(0,0),0,([]:Qj),false)).2.1.1) == 0) && (((c.getD ((2:Int).toNat) (0,(0,0),0,([]:Qj),false)).2.1.2) == 2)))else none)
 else some (false))else none)
 else some (false))else none)
 else some (false))else none)
 else some (false))
 else some (false))).bind fun v1=>some v1))else none))
theorem pI{v:Bool}(h:eO=some v):
  Pure Tryz.prog 7 [] (aJ (bc false [⟨.bool,v⟩])):=by
 refine PB Tryz.func7 (fun Bw w0=>?_);unfold eO at h;refine G ?_;obtain⟨I,C,h⟩:=aj h;obtain⟨D,h⟩:=aE h;obtain⟨⟨J,L⟩,E,h⟩:=aj h;have x:=(qE C);have z:=(vJ false false false false false true E);refine GN ⟨[],[(0,(oP x)),(10,(oP z [false,false,true]))]⟩ [(0,0,oc x),(3,3,oc D),(10,10,oc z)] (af (bn h (fun v1=>aA [(0,.bo v1)] [] 0) (fun v1 h=>?_) (fun v1 h=>?_)))
 ·rcases aI h with⟨f,h⟩ | ⟨f,h⟩
  ·rcases aI h with⟨c,h⟩ | ⟨c,h⟩
   ·obtain⟨q,h⟩:=aE h;rcases aI h with⟨e,h⟩ | ⟨e,h⟩
    ·obtain⟨u,h⟩:=aE h;rcases aI h with⟨j,h⟩ | ⟨j,h⟩
     ·obtain⟨A,h⟩:=aE h;rcases aI h with⟨p,h⟩ | ⟨p,h⟩
      ·obtain⟨B,h⟩:=aE h;exact bz ⟨[(3,true),(7,true),(8,true),(14,true),(15,true),(23,true),(24,true),(32,true),(33,true),(40,true)],[]⟩ [(4,6,an f),(7,7,oc f),(9,9,an c),(10,10,oc (And.intro c q)),(11,13,an c),(14,14,oc c),(16,16,an e),(17,17,oc (And.intro e u)),(18,22,an e),(23,23,oc e),(25,25,an j),(26,26,oc (And.intro j A)),(27,31,an j),(32,32,oc j),(34,34,an p),(35,35,oc (And.intro p B)),(36,38,an p),(39,39,oc (And.intro p N9)),(40,40,oc p)] (eN h (gg [] []))
      exact bz ⟨[(3,true),(7,true),(8,true),(14,true),(15,true),(23,true),(24,true),(32,true),(33,false),(40,false)],[]⟩ [(4,6,an f),(7,7,oc f),(9,9,an c),(10,10,oc (And.intro c q)),(11,13,an c),(14,14,oc c),(16,16,an e),(17,17,oc (And.intro e u)),(18,22,an e),(23,23,oc e),(25,25,an j),(26,26,oc (And.intro j A)),(27,31,an j),(32,32,oc j),(34,40,oc p)] (eN h (gg [] []))
     exact bz ⟨[(3,true),(7,true),(8,true),(14,true),(15,true),(23,true),(24,false),(32,false)],[]⟩ [(4,6,an f),(7,7,oc f),(9,9,an c),(10,10,oc (And.intro c q)),(11,13,an c),(14,14,oc c),(16,16,an e),(17,17,oc (And.intro e u)),(18,22,an e),(23,23,oc e),(25,32,oc j)] (eN h (gg [] []))
    exact bz ⟨[(3,true),(7,true),(8,true),(14,true),(15,false),(23,false)],[]⟩ [(4,6,an f),(7,7,oc f),(9,9,an c),(10,10,oc (And.intro c q)),(11,13,an c),(14,14,oc c),(16,23,oc e)] (eN h (gg [] []))
   exact bz ⟨[(3,true),(7,true),(8,false),(14,false)],[]⟩ [(4,6,an f),(7,7,oc f),(9,14,oc c)] (eN h (gg [] []))
  exact bz ⟨[(3,false),(7,false)],[]⟩ [(4,7,oc f)] (eN h (gg [] []))
 refine ab (au ?_);obtain rfl:=sI h;exact RI [.bool]
def bB(c _ _:Int)(_:QK)(_:List yE):Option (Int) :=
 (if ¬(6:Int)=0 then some (i64.wrap (1+(i64.wrap (Int.tmod c 6))))else none)
theorem dY(e f:Bool){j q p3:Int}{p4:QK}{p5:List yE}{c:Int}(h:bB j q p3 p4 p5=some c):
  Pure Tryz.prog 24 [.agg [.u8 j,.u8 q,.u8 p3,.p e (.slice (.int .u8)) p4,.p f (.slice (.prod (.int .u8) Ic)) p5]] (aJ (bc false [⟨(.int .i64),c⟩])):=by
 refine PB Tryz.func24 (fun Bw w0=>?_);unfold bB at h;refine G (GC 2 h (fun h=>au ?_));obtain rfl:=sI h;exact RI [(.int .i64)]
def fF(f:QK)(j:Int):(XZ×Int)→Option ((XZ×Int)⊕XZ):=fun(e,c) =>
 (((if(decide (c<(([9,10,32,45,97,98,99,233,769,8205,20013,65533,128512]:QK).length:Int)))=true then some ((decide (c<(f.length:Int))))
 else some (false))).bind fun p=>(if p=true then(if 0≤c∧c<(([9,10,32,45,97,98,99,233,769,8205,20013,65533,128512]:QK).length:Int)then(if c.toNat<([9,10,32,45,97,98,99,233,769,8205,20013,65533,128512]:QK).length then(if 0≤c∧c<(([9,10,32,45,97,98,99,233,769,8205,20013,65533,128512]:QK).length:Int)then(if c.toNat<([9,10,32,45,97,98,99,233,769,8205,20013,65533,128512]:QK).length then(if 0≤c∧c<(f.length:Int)then(if ¬j=0 then(if(e.length+([((([9,10,32,45,97,98,99,233,769,8205,20013,65533,128512]:QK).getD c.toNat 0),(([9,10,32,45,97,98,99,233,769,8205,20013,65533,128512]:QK).getD c.toNat 0),(Int.tmod (i64.wrap (f.getD c.toNat 0)) j))]:XZ).length)*16≤140737488355328∧e.length+([((([9,10,32,45,97,98,99,233,769,8205,20013,65533,128512]:QK).getD c.toNat 0),(([9,10,32,45,97,98,99,233,769,8205,20013,65533,128512]:QK).getD c.toNat 0),(Int.tmod (i64.wrap (f.getD c.toNat 0)) j))]:XZ).length≤9223372036854775807 then some (Sum.inl ((e++([((([9,10,32,45,97,98,99,233,769,8205,20013,65533,128512]:QK).getD c.toNat 0),(([9,10,32,45,97,98,99,233,769,8205,20013,65533,128512]:QK).getD c.toNat 0),(Int.tmod (i64.wrap (f.getD c.toNat 0)) j))]:XZ)),(i64.wrap (c+1))))else none)else none)else none)else none)else none)else none)else none)
 else some (Sum.inr e)))
def cV(e:QK)(f:Int):Option XZ :=
 ((iter (fF e f) (([]:XZ),0)).bind fun c=>some c)
theorem fH(j:Bool){u:QK}{v:Int}{q:XZ}(h:cV u v=some q):
  Pure Tryz.prog 23 [.p j (.slice (.int .u8)) u,.i64 v] (aJ (bc false [⟨(.slice (.prod (.int .i32) Y1)),q⟩])):=by
 refine PB Tryz.func23 (fun Bw w0=>?_);unfold cV at h;refine G (G (G (af (G (ak (cw h (fun(c,x)=>aA [(0,.p j (.slice (.int .u8)) u),(1,.i64 v),(5,.sl 0),(6,.sl 1),(7,.i64 x)] (Lg ([9,10,32,45,97,98,99,233,769,8205,20013,65533,128512]:QK) c) 2) 0 (fun f=>aA [(6,.sl 0)] [(0,.arr 87 (.prod (.int .i32) Y1) f)] 1) (gg [.nilS 6 40 87 (.prod (.int .i32) Y1)] [8,40]) (fun y o h=>?_) (fun f h=>?_)))))))
 ·obtain⟨c,x⟩:=y;unfold fF at h;refine af (af (bn h (fun z=>aA [(0,.p j (.slice (.int .u8)) u),(1,.i64 v),(5,.sl 0),(6,.sl 1),(7,.i64 x),(18,.bo z)] (Lg ([9,10,32,45,97,98,99,233,769,8205,20013,65533,128512]:QK) c) 2) (fun z h=>?_) (fun z h=>?_)))
  ·rcases aI h with⟨e,h⟩ | ⟨e,h⟩
   ·exact bz ⟨[(4,true),(9,true)],[]⟩ [(5,8,an e),(9,9,oc e)] (eN h (gg [] [0,1]))
   exact bz ⟨[(4,false),(9,false)],[]⟩ [(5,9,oc e)] (eN h (gg [] [0,1]))
  refine ab (aC h (fun A h=>?_) (fun A h=>?_))
  ·refine ae (ab (af (ak ?_)));obtain⟨B,C,D,E,h⟩:=g4 h;obtain⟨I,J,L,h⟩:=g3 h;refine kY a0 [(3,3,oc B),(4,4,oc C),(7,7,oc D),(8,8,oc E),(11,11,oc I),(15,15,oc J),(18,18,oc L)] (ay (ab (Ge ?_)));exact eB h (gg [] [0,146])
  refine aw (aQ ?_);exact eX h (gg [] [1])
 refine az (ab (G (au ?_)));obtain rfl:=sI h;exact RI [(.slice (.prod (.int .i32) Y1))]
def cm(c e:Int):Option QX :=
 (if ¬c=0 then some (bytesOf ([(u8.wrap (i64.wrap (65+(Int.tmod e c))))]:QK))else none)
theorem dD{e f:Int}{c:QX}(h:cm e f=some c):
  Pure Tryz.prog 40 [.i64 e,.i64 f] (aJ (bc false [⟨.str,c⟩])):=by
 refine PB Tryz.func40 (fun Bw w0=>?_);unfold cm at h;refine G (GC 2 h (fun h=>au ?_));obtain rfl:=sI h;exact RI [.str]
def jo(q e:Int):Z4→Option (Z4⊕QX):=fun(c,f) =>
 (if(decide (f<q))=true then(if 0≤f then(if ¬(2:Int)=0 then(((if((Int.tmod (Int.fdiv e (2 ^ (min f.toNat u8.bits))) (2:Int)) == 1)=true then(if c.length+([32]:QX).length≤9223372036854775807 then((cm q f).bind fun j =>
 (if(c++([32]:QX)).length+j.length≤9223372036854775807 then some (((c++([32]:QX))++j))else none))else none)
 else some (c))).bind fun p=>some (Sum.inl (p,(i64.wrap (f+1)))))else none)else none)
 else some (Sum.inr c))
def bY(f c:Int):Option QX :=
 ((iter (jo f c) (([]:QX),0)).bind fun e=>some e)
theorem dc{u c:Int}{p:QX}(h:bY u c=some p):
  Pure Tryz.prog 39 [.i64 u,.u8 c] (aJ (bc false [⟨.str,p⟩])):=by
 refine PB Tryz.func39 (fun Bw w0=>?_);unfold bY at h;refine G (G (af (G (ak (cw h (fun(f,v)=>aA [(0,.i64 u),(1,.u8 c),(5,.st f),(6,.i64 v)] [] 0) 0 (fun j=>aA [(5,.st j)] [] 0) (gg [] []) (fun y o h=>?_) (fun j h=>?_))))))
 ·obtain⟨f,v⟩:=y;unfold jo at h;refine af (G (aC h (fun D h=>?_) (fun D h=>?_)))
  ·refine ae (ab (af (ak ?_)));obtain⟨x,z,h⟩:=g2 h;refine GN a0 [(2,2,oc x),(3,3,oc z)] (bn h (fun e=>aA [(0,.i64 u),(1,.u8 c),(5,.st e),(6,.i64 v)] [] 0) (fun e h=>?_) (fun e h=>?_))
   ·refine aC h (fun E h=>?_) (fun E h=>?_)
    ·obtain⟨A,h⟩:=aE h;obtain⟨I,B,h⟩:=aj h;obtain⟨C,h⟩:=aE h;have q:=(dD B);exact bz ⟨[],[(4,(oP q))]⟩ [(1,1,oc A),(4,4,oc q),(5,5,oc C)] (eN h (gg [] []))
    exact ae (eN h (gg [] []))
   refine ay (ab (Ge ?_));exact eB h (gg [] [])
  refine aw (aQ ?_);exact eX h (gg [] [])
 refine az (ab (G (au ?_)));obtain rfl:=sI h;exact RI [.str]
end
end Go.Proofs.YtmcemnfjddoejaaGreatDoor.T
