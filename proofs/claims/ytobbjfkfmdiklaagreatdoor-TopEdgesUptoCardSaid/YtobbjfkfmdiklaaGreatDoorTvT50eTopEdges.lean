import Derived.Test.YtobbjfkfmdiklaaGreatDoorTvT50e0
import Derived.Test.YtobbjfkfmdiklaaGreatDoorTvT50eTopEdges1
import Derived.Test.YtobbjfkfmdiklaaGreatDoorTvT50eTopEdges3
namespace Go.Proofs.YtobbjfkfmdiklaaGreatDoor.T
open Go Go.Tv Go.Proofs
open Go.IntKind (i64 u8)
noncomputable section
set_option maxRecDepth 100000
set_option maxHeartbeats 4000000
def fU(q:Qj)(v u:Int):uZ→Option (uZ⊕QK):=fun(j,p) =>
 (if(decide (p<v))=true then(if 0≤p∧p<(q.length:Int)then(if 0≤(i64.wrap ((j.length:Int) - 1))∧(i64.wrap ((j.length:Int) - 1))<(j.length:Int)then(if(i64.wrap ((j.length:Int) - 1)).toNat<j.length then((jC ((q.getD p.toNat (0,0,0,0)).1) ((q.getD p.toNat (0,0,0,0)).2.1) ((q.getD p.toNat (0,0,0,0)).2.2.1) ((q.getD p.toNat (0,0,0,0)).2.2.2) (j.getD ((i64.wrap ((j.length:Int) - 1)).toNat) 0) u).bind fun x =>
 (if(j.length+([x]:QK).length)*8≤140737488355328∧j.length+([x]:QK).length≤9223372036854775807 then some (Sum.inl ((j++([x]:QK)),(i64.wrap (p+1))))else none))else none)else none)else none)
 else some (Sum.inr j))
def kK(v:Qj)(x:QK)(j u p:Int):Option QK :=
 ((iter (fU v u p) (([0]:QK),j)).bind fun q=>some q)
theorem uP(z A:Bool){D:Qj}{E:QK}{j x q:Int}{B:QK}(h:kK D E j x q=some B):
  Pure Tryz.prog 57 [.agg [.p z (.slice fk) D,.p A (.slice (.int .u8)) E],.i64 j,.i64 x,.i64 q] (aK (bd false [⟨(.slice (.int .i64)),B⟩])):=by
 refine PB Tryz.func57 (fun Bw w0=>?_);unfold kK at h;refine G (G (af (G (ak (cM h (fun(u,N)=>aA [(2,.i64 x),(3,.i64 q),(4,.adr 0 0 2 0),(9,.sl 1),(10,.i64 N)] (Nc z D A E u) 2) 0 (fun v=>aA [(9,.sl 0)] [(0,.arr 3 (.int .i64) v)] 1) (gg [] [0,16]) (fun y o h=>?_) (fun v h=>?_))))))
 ·obtain⟨u,N⟩:=y;unfold fU at h;refine af (G (aC h (fun O h=>?_) (fun O h=>?_)))
  ·refine ae (ab (af (ak ?_)));obtain⟨I,J,L,h⟩:=g3 h;obtain⟨X,V,h⟩:=aj h;obtain⟨M,h⟩:=aD h;have C:=(nO V);refine nf ⟨[],[(13,(oP C))]⟩ [(4,4,oc I),(10,10,oc J),(11,11,oc L),(13,13,oc C),(15,15,oc M)] (ay (ab (Ge ?_)));exact eB h (gg [] [0,146])
  refine av (aP ?_);exact eX h (gg [] [1])
 refine az (ab (G (aw ?_)));obtain rfl:=sI h;exact RI [(.slice (.int .i64))]
def nt(x:Qj)(z:QK)(j v q u:Int):Option (Int) :=
 ((gf x z j v).bind fun A =>
 ((kK x z j A u).bind fun p =>
 (if 0≤(i64.wrap ((p.length:Int) - 1))∧(i64.wrap ((p.length:Int) - 1))<(p.length:Int)then(((if(q == 3)=true then some ((i64.wrap ((p.getD ((i64.wrap ((p.length:Int) - 1)).toNat) 0)+1)))
 else some ((p.getD ((i64.wrap ((p.length:Int) - 1)).toNat) 0)))).bind fun B=>some B)else none)))
theorem xL(v x:Bool){E:Qj}{I:QK}{j z q u A:Int}(h:nt E I j z q u=some A):
  Pure Tryz.prog 35 [.agg [.p v (.slice fk) E,.p x (.slice (.int .u8)) I],.i64 j,.i64 z,.u8 q,.i64 u] (aK (bd false [⟨(.int .i64),A⟩])):=by
 refine PB Tryz.func35 (fun Bw w0=>?_);unfold nt at h;refine G ?_;obtain⟨N,J,h⟩:=aj h;obtain⟨O,L,h⟩:=aj h;have B:=(nX v x J);have C:=(uP v x L);refine GD ⟨[],[(5,(oP B)),(7,(oP C))]⟩ [(5,5,oc B),(7,7,oc C)] (GC 4 h (fun h=>af (G (bz h (fun D=>aA [(12,.i64 D)] [] 0) (fun D h=>?_) (fun D h=>?_)))))
 ·refine aC h (fun M h=>?_) (fun M h=>?_)
  ·exact Ge (eN h (gg [] []))
  exact ae (eN h (gg [] []))
 refine ab (G (aw ?_));obtain rfl:=sI h;exact RI [(.int .i64)]
def jA(v:Qj)(x:QK)(j q p u:Int):Option Z2 :=
 ((nt v x j q p u).bind fun z =>
 some (j,q,z,p))
theorem nk(v x:Bool){B:Qj}{C:QK}{j z q u:Int}{A:Int×Int×Int×Int}(h:jA B C j z q u=some A):
  Pure Tryz.prog 16 [.agg [.p v (.slice fk) B,.p x (.slice (.int .u8)) C],.i64 j,.i64 z,.u8 q,.i64 u] (aK (bd false [⟨fk,A⟩])):=by
 refine PB Tryz.func16 (fun Bw w0=>?_);unfold jA at h;refine G ?_;obtain⟨E,D,h⟩:=aj h;refine GP 7 (xL v x D) (aw ?_);obtain rfl:=sI h;exact RI [fk]
def fY(x:Qj)(v:QK)(p z A B C D E:Int)(I:QJ):(Qq×Int)→Option ((Qq×Int)⊕Qq):=fun(q,j) =>
 (if(decide (j≥p))=true then(if 0≤(i64.wrap (j - p))∧(i64.wrap (j - p))<(q.length:Int)then(if(i64.wrap (j - p)).toNat<q.length then(((if(j == p)=true then some (true)
 else(if 0≤j∧j<(v.length:Int)then some (((v.getD j.toNat 0) != 0))else none))).bind fun v10=>(((if v10=true then((m6 x v j p z (q.set ((i64.wrap (j - p)).toNat) (0,(-1:Int))) A B C D E I).bind fun u =>
 (if 0≤(i64.wrap (j - p))∧(i64.wrap (j - p))<((q.set ((i64.wrap (j - p)).toNat) (0,(-1:Int))).length:Int)then(if(i64.wrap (j - p)).toNat<(q.set ((i64.wrap (j - p)).toNat) (0,(-1:Int))).length then some (((q.set ((i64.wrap (j - p)).toNat) (0,(-1:Int))).set ((i64.wrap (j - p)).toNat) (u.1,u.2)))else none)else none))
 else some ((q.set ((i64.wrap (j - p)).toNat) (0,(-1:Int)))))).bind fun v11=>some (Sum.inl (v11,(i64.wrap (j - 1))))))else none)else none)
 else some (Sum.inr q))
def fZ(z:Qj)(x:QK)(u A B:Int)(v:Qq):(Qj×Int)→Option ((Qj×Int)⊕Qj):=fun(q,p) =>
 (if(decide (p<A))=true then(if 0≤(i64.wrap (p - u))∧(i64.wrap (p - u))<(v.length:Int)then(if(i64.wrap (p - u)).toNat<v.length then(if 0≤(v.getD ((i64.wrap (p - u)).toNat) (0,0)).2∧(v.getD ((i64.wrap (p - u)).toNat) (0,0)).2<(x.length:Int)then((jA z x p ((v.getD ((i64.wrap (p - u)).toNat) (0,0)).2) (x.getD (((v.getD ((i64.wrap (p - u)).toNat) (0,0)).2).toNat) 0) B).bind fun j =>
 (if(q.length+([(j.1,j.2.1,j.2.2.1,j.2.2.2)]:Qj).length)*32≤140737488355328∧q.length+([(j.1,j.2.1,j.2.2.1,j.2.2.2)]:Qj).length≤9223372036854775807 then some (Sum.inl ((q++([(j.1,j.2.1,j.2.2.1,j.2.2.2)]:Qj)),(v.getD ((i64.wrap (p - u)).toNat) (0,0)).2))else none))else none)else none)else none)
 else some (Sum.inr q))
def lF(v:Qj)(z:QK)(j p B A C D E:Int)(I:QJ):Option (Qj×Bool) :=
 (if(decide (j≥p))=true then some (([]:Qj),true)
 else(if 0≤(i64.wrap ((i64.wrap (p - j))+1))∧(i64.wrap ((i64.wrap (p - j))+1))≤(i64.wrap ((i64.wrap (p - j))+1))∧16*(i64.wrap ((i64.wrap (p - j))+1))≤281474976710656∧(i64.wrap ((i64.wrap (p - j))+1))≤9223372036854775807 then((iter (fY v z j p B A C D E I) ((List.replicate (i64.wrap ((i64.wrap (p - j))+1)).toNat (0,0)),(i64.wrap (p - 1)))).bind fun q=>(if 0≤(0:Int)∧0<(q.length:Int)then(if(0:Int).toNat<q.length then(if(decide (((q.getD ((0:Int).toNat) (0,0)).2)<0))=true then some (([]:Qj),false)
 else((iter (fZ v z j p A q) (([]:Qj),j)).bind fun u=>some (u,true)))else none)else none))else none))
theorem xS(j q:Bool){z:Qj}{A:QK}{x B C D E I J:Int}{L:QJ}{M:Qj×Bool}(h:lF z A x B C D E I J L=some M):
  Pure Tryz.prog 55 [.agg [.p j (.slice fk) z,.p q (.slice (.int .u8)) A],.i64 x,.i64 B,.agg [.i64 C,.i64 D,.u8 E,.i64 I,.i64 J,.p false .flt L]] (aK (bd false [⟨(.slice fk),M.1⟩,⟨.bool,M.2⟩])):=by
 refine PB Tryz.func55 (fun Bw w0=>?_);unfold lF at h;refine G (af (G (aC h (fun B1 h=>?_) (fun B1 h=>?_))))
 ·refine G (aw (ah ?_));obtain rfl:=sI h;exact RI [(.slice fk),.bool]
 refine ae (ab (GC 4 h (fun h=>af (G (ak (cM h (fun(Y,N)=>aA [(1,.i64 x),(2,.i64 B),(4,.adr 0 0 2 0),(7,.adr 1 0 6 0),(10,.sl 2),(11,.i64 N)] (JK j z q A C D E I J L Y) 3) 0 (fun Z=>aA [(1,.i64 x),(2,.i64 B),(4,.adr 0 0 2 0),(7,.adr 1 0 6 0),(10,.sl 2)] (JK j z q A C D E I J L Z) 3) (gg [] [0,8,88]) (fun y o h=>?_) (fun Z h=>?_)))))))
 ·obtain⟨Y,N⟩:=y;unfold fY at h;refine af (G (aC h (fun a1 h=>?_) (fun a1 h=>?_)))
  ·refine ae (ab (af (ak ?_)));obtain⟨a2,a3,h⟩:=g2 h;refine GN a0 [(5,5,oc a2),(6,6,oc a3)] (af (bz h (fun v10=>aA [(1,.i64 x),(2,.i64 B),(4,.adr 0 0 2 0),(7,.adr 1 0 6 0),(10,.sl 2),(11,.i64 N),(46,.bo v10)] (JK j z q A C D E I J L (Y.set ((i64.wrap (N - x)).toNat) (0,(-1:Int)))) 3) (fun v10 h=>?_) (fun v10 h=>?_)))
   ·rcases aM h with⟨u,h⟩ | ⟨u,h⟩
    ·exact bC ⟨[(3,true),(10,true)],[]⟩ [(4,10,oc u)] (eN h (gg [] [0,1,2]))
    obtain⟨a4,h⟩:=aD h;exact bC ⟨[(3,false),(10,false)],[]⟩ [(4,6,an u),(7,7,oc (And.intro u a4)),(8,9,an u),(10,10,oc u)] (eN h (gg [] [0,1,2]))
   refine ab (bz h (fun v11=>aA [(1,.i64 x),(2,.i64 B),(4,.adr 0 0 2 0),(7,.adr 1 0 6 0),(10,.sl 2),(11,.i64 N)] (JK j z q A C D E I J L v11) 3) (fun v11 h=>?_) (fun v11 h=>?_))
   ·refine aC h (fun a5 h=>?_) (fun a5 h=>?_)
    ·obtain⟨b5,a6,h⟩:=aj h;obtain⟨a7,a8,h⟩:=g2 h;have v:=(zZ j q true a6);exact bC ⟨[],[(10,(oP v))]⟩ [(10,10,oc v),(11,11,oc a7),(12,12,oc a8)] (eN h (gg [] [0,1,2]))
    exact ae (eN h (gg [] [0,1,2]))
   refine ay (ab (Ge ?_));exact eB h (gg [] [0,1,2])
  refine av (aP ?_);exact eX h (gg [] [0,1,2])
 refine az (ab (af ?_));obtain⟨a9,aa,h⟩:=g2 h;refine GN a0 [(1,1,oc a9),(3,3,oc aa)] (aC h (fun ac h=>?_) (fun ac h=>?_))
 ·refine G (aw (ah ?_));obtain rfl:=sI h;exact RI [(.slice fk),.bool]
 refine ae (ab (G (af (G (ak (cM h (fun(O,V)=>aA [(1,.i64 x),(2,.i64 B),(4,.adr 0 0 2 0),(7,.adr 1 0 6 0),(10,.sl 2),(12,.sl 3),(13,.i64 V)] (Ns j z q A C D E I J L Z O) 4) 2 (fun X=>aA [(12,.sl 0)] [(0,.arr 62 fk X)] 1) (gg [.nilS 12 67 62 fk] [0,1,2,67]) (fun y o h=>?_) (fun X h=>?_)))))))
 ·obtain⟨O,V⟩:=y;unfold fZ at h;refine af (G (aC h (fun ad h=>?_) (fun ad h=>?_)))
  ·refine ae (ab (ak ?_));obtain⟨ax,b1,h⟩:=g2 h;refine GN a0 [(4,4,oc ax),(6,6,oc b1)] ?_;obtain⟨b2,h⟩:=aD h;obtain⟨b6,b3,h⟩:=aj h;obtain⟨b4,h⟩:=aD h;have v:=(nk j q b3);refine GD ⟨[],[(11,(oP v))]⟩ [(7,7,oc b2),(11,11,oc v),(13,13,oc b4)] (Ge (ay ?_));exact eB h (gg [] [0,1,2,196])
  refine av (aP ?_);exact eX h (gg [] [3])
 refine az (ab (G (aw ?_)));obtain rfl:=sI h;exact RI [(.slice fk),.bool]
def gM(p:Qj)(I:QK)(L J M:Int):(Int×Int×Int×Int×Int)→Option ((Int×Int×Int×Int×Int)⊕(Int×Int)):=fun(q,v20,x,z,j) =>
 (if(decide (j≤L))=true then(if 0≤(i64.wrap (j - 1))∧(i64.wrap (j - 1))<(p.length:Int)then((jC ((p.getD ((i64.wrap (j - 1)).toNat) (0,0,0,0)).1) ((p.getD ((i64.wrap (j - 1)).toNat) (0,0,0,0)).2.1) ((p.getD ((i64.wrap (j - 1)).toNat) (0,0,0,0)).2.2.1) ((p.getD ((i64.wrap (j - 1)).toNat) (0,0,0,0)).2.2.2) x M).bind fun v =>
 ((gf p I (i64.wrap (j - 1)) j).bind fun A =>
 (((if(A == j)=true then some (v)
 else some (z))).bind fun u=>(if(decide (u > J))=true then some (Sum.inr (q,v20))
 else((kR p I j).bind fun(B,C) =>
 (((if C=true then(if(B != 3)=true then some (true)
 else some ((decide (u<J))))
 else some (false))).bind fun D=>(((if D=true then some (j)
 else some (q))).bind fun E=>some (Sum.inl (E,j,v,u,(i64.wrap (j+1)))))))))))else none)
 else some (Sum.inr (q,v20)))
def mK(A:Qj)(q:QK)(z x E B I J L:Int)(M:QJ):Option Z2 :=
 ((iter (gM A q x E B) ((-1:Int),(i64.wrap (z+1)),0,0,(i64.wrap (z+1)))).bind fun(p,j)=>(if(decide (p≥0))=true then(if 0≤p∧p<(q.length:Int)then((jA A q z p (q.getD p.toNat 0) B).bind fun u =>
 some (u.1,u.2.1,u.2.2.1,u.2.2.2))else none)
 else(((if(j == x)=true then(if 0≤x∧x<(q.length:Int)then some ((q.getD x.toNat 0))else none)
 else some (4))).bind fun C=>(((if(decide (j<x))=true then(if 0≤j∧j<(q.length:Int)then some (((q.getD j.toNat 0) == 1))else none)
 else some (false))).bind fun v30=>(((if v30=true then some (1)
 else some (C))).bind fun D=>((jA A q z j D B).bind fun v =>
 some (v.1,v.2.1,v.2.2.1,v.2.2.2)))))))
theorem Ae(j q:Bool){C:Qj}{D:QK}{E Y I J L M N:Int}{O:QJ}{a4:Int×Int×Int×Int}(h:mK C D E Y I J L M N O=some a4):
  Pure Tryz.prog 81 [.agg [.p j (.slice fk) C,.p q (.slice (.int .u8)) D],.i64 E,.i64 Y,.agg [.i64 I,.i64 J,.u8 L,.i64 M,.i64 N,.p false .flt O]] (aK (bd false [⟨fk,a4⟩])):=by
 refine PB Tryz.func81 (fun Bw w0=>?_);unfold mK at h;refine G (G (G (af (G (ak (cM h (fun(V,v20,a5,a6,v)=>aA [(1,.i64 E),(2,.i64 Y),(4,.adr 0 0 2 0),(7,.adr 1 0 6 0),(8,.adr 2 0 4 0),(9,.i64 V),(10,.i64 v20),(11,.i64 a5),(12,.i64 a6),(13,.i64 v)] (Ba j C q D I J L M N O 0 (0:Int) (0:Int) (0:Int)) 3) 0 (fun(a7,z)=>aA [(1,.i64 E),(2,.i64 Y),(4,.adr 0 0 2 0),(7,.adr 1 0 6 0),(8,.adr 2 0 4 0),(9,.i64 a7),(10,.i64 z)] (Ba j C q D I J L M N O 0 (0:Int) (0:Int) (0:Int)) 3) (gg [] [0,8,16]) (fun y o h=>?_) (fun a9 h=>?_)))))))
 ·obtain⟨V,v20,a5,a6,v⟩:=y;unfold gM at h;refine af (G (aC h (fun aa h=>?_) (fun aa h=>?_)))
  ·refine ae (ab (af (ak (GC 4 h (fun h=>af ?_)))));obtain⟨Z,ac,h⟩:=aj h;refine GP 4 (nO ac) ?_;obtain⟨bi,ad,h⟩:=aj h;refine GP 4 (nX j q ad) (bz h (fun A=>aA [(1,.i64 E),(2,.i64 Y),(4,.adr 0 0 2 0),(7,.adr 1 0 6 0),(8,.adr 2 0 4 0),(9,.i64 V),(10,.i64 v20),(11,.i64 Z),(12,.i64 A),(13,.i64 v)] (Ba j C q D I J L M N O 0 (0:Int) (0:Int) (0:Int)) 3) (fun A h=>?_) (fun A h=>?_))
   ·refine aC h (fun ax h=>?_) (fun ax h=>?_)
    ·exact Ge (eN h (gg [] [0,1,2]))
    exact ae (eN h (gg [] [0,1,2]))
   refine ab (af (G (aC h (fun b1 h=>?_) (fun b1 h=>?_))))
   ·refine av (aP (jG rfl (aP ?_)));exact eX h (gg [] [0,1,2])
   refine ae (ab (G ?_));obtain⟨⟨bs,bv⟩,b2,h⟩:=aj h;refine GP 2 (rT j q b2) (af (bz h (fun a1=>aA [(1,.i64 E),(2,.i64 Y),(4,.adr 0 0 2 0),(7,.adr 1 0 6 0),(8,.adr 2 0 4 0),(9,.i64 V),(10,.i64 v),(11,.i64 Z),(12,.i64 A),(13,.i64 v),(67,.bo a1)] (Ba j C q D I J L M N O 0 (0:Int) (0:Int) (0:Int)) 3) (fun a1 h=>?_) (fun a1 h=>?_)))
   ·rcases aM h with⟨u,h⟩ | ⟨u,h⟩
    ·rcases aM h with⟨B,h⟩ | ⟨B,h⟩
     ·exact bC ⟨[(1,true),(4,true),(9,true),(10,true)],[]⟩ [(2,4,an u),(5,8,oc B),(9,9,oc (And.intro u B)),(10,10,oc u)] (eN h (gg [] [0,1,2]))
     exact bC ⟨[(1,true),(4,false),(9,false),(10,true)],[]⟩ [(2,4,an u),(5,8,an B),(9,9,oc (And.intro u B)),(10,10,oc u)] (eN h (gg [] [0,1,2]))
    exact bC ⟨[(1,false),(10,false)],[]⟩ [(2,4,oc u),(9,10,oc u)] (eN h (gg [] [0,1,2]))
   refine ab (bz h (fun a2=>aA [(1,.i64 E),(2,.i64 Y),(4,.adr 0 0 2 0),(7,.adr 1 0 6 0),(8,.adr 2 0 4 0),(9,.i64 a2),(10,.i64 v),(11,.i64 Z),(12,.i64 A),(13,.i64 v)] (Ba j C q D I J L M N O 0 (0:Int) (0:Int) (0:Int)) 3) (fun a2 h=>?_) (fun a2 h=>?_))
   ·refine aC h (fun b3 h=>?_) (fun b3 h=>?_)
    ·exact Ge (eN h (gg [] [0,1,2]))
    exact ae (eN h (gg [] [0,1,2]))
   refine ay (ab (Ge ?_));exact eB h (gg [] [0,1,2])
  refine av (aP ?_);exact eX h (gg [] [0,1,2])
 obtain⟨a7,z⟩:=a9;refine az (ab (af (G (aC h (fun b4 h=>?_) (fun b4 h=>?_)))))
 ·obtain⟨b5,h⟩:=aD h;obtain⟨bx,b6,h⟩:=aj h;have a8:=(nk j q b6);refine GD ⟨[],[(10,(oP a8))]⟩ [(6,6,oc b5),(10,10,oc a8)] (aw (ah ?_));obtain rfl:=sI h;exact RI [fk]
 refine ae (ab (G (af (G (bz h (fun X=>aA [(1,.i64 E),(2,.i64 Y),(4,.adr 0 0 2 0),(7,.adr 1 0 6 0),(8,.adr 2 0 4 0),(10,.i64 z),(17,.u8 X)] (Ba j C q D I J L M N O 0 (0:Int) (0:Int) (0:Int)) 3) (fun X h=>?_) (fun X h=>?_))))))
 ·refine aC h (fun b7 h=>?_) (fun b7 h=>?_)
  ·refine xq 3 h (fun h=>?_);exact eN h (gg [] [0,1,2])
  exact ae (eN h (gg [] [0,1,2]))
 refine ab (af (af (bz h (fun v30=>aA [(1,.i64 E),(4,.adr 0 0 2 0),(7,.adr 1 0 6 0),(8,.adr 2 0 4 0),(10,.i64 z),(17,.u8 X),(100,.bo v30)] (Ba j C q D I J L M N O 0 (0:Int) (0:Int) (0:Int)) 3) (fun v30 h=>?_) (fun v30 h=>?_))))
 ·rcases aM h with⟨x,h⟩ | ⟨x,h⟩
  ·obtain⟨b8,h⟩:=aD h;exact bC ⟨[(3,true),(10,true)],[]⟩ [(4,6,an x),(7,7,oc (And.intro x b8)),(8,9,an x),(10,10,oc x)] (eN h (gg [] [0,1,2]))
  exact bC ⟨[(3,false),(10,false)],[]⟩ [(4,10,oc x)] (eN h (gg [] [0,1,2]))
 refine ab (bz h (fun a3=>aA [(1,.i64 E),(4,.adr 0 0 2 0),(7,.adr 1 0 6 0),(8,.adr 2 0 4 0),(10,.i64 z),(17,.u8 a3)] (Ba j C q D I J L M N O 0 (0:Int) (0:Int) (0:Int)) 3) (fun a3 h=>?_) (fun a3 h=>?_))
 ·refine aC h (fun b9 h=>?_) (fun b9 h=>?_)
  ·exact Ge (eN h (gg [] [0,1,2]))
  exact ae (eN h (gg [] [0,1,2]))
 refine ab ?_;obtain⟨c1,be,h⟩:=aj h;refine GP 6 (nk j q be) (aw ?_);obtain rfl:=sI h;exact RI [fk]
def fD(v:Qj)(x:QK)(u z A B C D:Int)(E:QJ):(Int×Qj)→Option ((Int×Qj)⊕Qj):=fun(q,j) =>
 (if(decide (q<u))=true then((mK v x q u z A B C D E).bind fun p =>
 (if(j.length+([(p.1,p.2.1,p.2.2.1,p.2.2.2)]:Qj).length)*32≤140737488355328∧j.length+([(p.1,p.2.1,p.2.2.1,p.2.2.2)]:Qj).length≤9223372036854775807 then some (Sum.inl (p.2.1,(j++([(p.1,p.2.1,p.2.2.1,p.2.2.2)]:Qj))))else none))
 else some (Sum.inr j))
def j8(u:Qj)(v:QK)(j q x z A B C:Int)(D:QJ):Option Qj :=
 ((iter (fD u v q x z A B C D) (j,([]:Qj))).bind fun p=>some p)
theorem wZ(x z:Bool){C:Qj}{D:QK}{j A E I J L M:Int}{N:QJ}{B:Qj}(h:j8 C D j A E I J L M N=some B):
  Pure Tryz.prog 56 [.agg [.p x (.slice fk) C,.p z (.slice (.int .u8)) D],.i64 j,.i64 A,.agg [.i64 E,.i64 I,.u8 J,.i64 L,.i64 M,.p false .flt N]] (aK (bd false [⟨(.slice fk),B⟩])):=by
 refine PB Tryz.func56 (fun Bw w0=>?_);unfold j8 at h;refine G (G (af (ak (cM h (fun(q,u)=>aA [(1,.i64 q),(2,.i64 A),(4,.adr 0 0 2 0),(7,.adr 1 0 6 0),(9,.sl 2)] (KA x C z D E I J L M N u) 3) 0 (fun v=>aA [(9,.sl 0)] [(0,.arr 62 fk v)] 1) (gg [.nilS 9 32 62 fk] [0,8,32]) (fun y o h=>?_) (fun v h=>?_)))))
 ·obtain⟨q,u⟩:=y;unfold fD at h;refine af (G (aC h (fun O h=>?_) (fun O h=>?_)))
  ·refine ae (ab (ak ?_));obtain⟨X,V,h⟩:=aj h;refine GP 4 (Ae x z V) (GC 3 h (fun h=>Ge (ay ?_)));exact eB h (gg [] [0,1,107])
  refine av (aP ?_);exact eX h (gg [] [2])
 refine az (ab (G (aw ?_)));obtain rfl:=sI h;exact RI [(.slice fk)]
def jB(z:Qj)(A:QK)(j p B C q D E:Int)(I:QJ):Option (Qj×Bool) :=
 (((if(q == 1)=true then((lF z A j p B C q D E I).bind fun(J,u) =>
 (if u=true then some ((Sum.inr (J,false)))
 else some ((Sum.inl ()))))
 else some ((Sum.inl ())))).bind fun(v:((Unit)⊕(Qj×Bool)))=>match v with
 | .inl _=>((j8 z A j p B C q D E I).bind fun x =>
 some (x,(q == 1)))
 | .inr ((L,M))=>some (L,M))
theorem xB(q u:Bool){B:Qj}{C:QK}{j v D E I J L:Int}{M:QJ}{x:Qj×Bool}(h:jB B C j v D E I J L M=some x):
  Pure Tryz.prog 34 [.agg [.p q (.slice fk) B,.p u (.slice (.int .u8)) C],.i64 j,.i64 v,.agg [.i64 D,.i64 E,.u8 I,.i64 J,.i64 L,.p false .flt M]] (aK (bd false [⟨(.slice fk),x.1⟩,⟨.bool,x.2⟩])):=by
 refine PB Tryz.func34 (fun Bw w0=>?_);unfold jB at h;refine G (af (G (DJ h (dy (n9 Tryz.f34.ntmps (fun _=>aA [(1,.i64 j),(2,.i64 v),(4,.adr 0 0 2 0),(7,.adr 1 0 6 0)] (L6 q B u C D E I J L M) 2)) (gr tb Tryz.f34.results.toList (fun(O,V)=>[⟨(.slice fk),O⟩,⟨.bool,V⟩]))) (fun z h=>?_) (fun z h e σ' X=>?_))))
 ·refine aC h (fun Y h=>?_) (fun Y h=>?_)
  ·obtain⟨⟨r9,Z⟩,q4,h⟩:=aj h;refine GP 4 (xS q u q4) (G (aC h (fun B4 h=>?_) (fun B4 h=>?_)))
   ·refine G (aw ?_);obtain rfl:=sI h;exact aL (bH (RI [(.slice fk),.bool]))
   refine ae ?_;obtain rfl:=sI h;exact bk (cV (gg [] [0,8]))
  refine ae ?_;obtain rfl:=sI h;exact bk (cV (gg [] [0,8]))
 rcases z with _ | ⟨O,V⟩
 ·obtain⟨rfl,N⟩:=X;refine cF ?_ N;refine ab ?_;obtain⟨a1,q6,h⟩:=aj h;have A:=(wZ q u q6);refine GD ⟨[],[(4,(oP A))]⟩ [(4,4,oc A)] (aw ?_);obtain rfl:=sI h;exact RI [(.slice fk),.bool]
 obtain⟨rfl,hr⟩:=X;refine ah ?_;obtain rfl:=sI h;exact hr
def gx(B:Qj)(C:QK)(D E I J L:Int)(M:QJ)(z:QK):(Qj×Bool×Int×Int)→Option ((Qj×Bool×Int×Int)⊕(Qj×Bool)):=fun(j,p,u,x) =>
 (if(decide (x<(z.length:Int)))=true then(if 0≤x∧x<(z.length:Int)then((jB B C u (z.getD x.toNat 0) D E I J L M).bind fun(v,A) =>
 (((if(j.length+v.length)*32≤140737488355328∧j.length+v.length≤9223372036854775807 then(if p=true then some (true)
 else some (A))else none)).bind fun q=>some (Sum.inl ((j++v),q,(z.getD x.toNat 0),(i64.wrap (x+1))))))else none)
 else some (Sum.inr (j,p)))
def fH(q:Qj)(u:QK)(v x z A B:Int)(C:QJ):Option (Qj×Bool) :=
 ((lW q u).bind fun D =>
 ((iter (gx q u v x z A B C D) (([]:Qj),false,0,0)).bind fun(p,j)=>some (p,j)))
theorem oQ(v x:Bool){I:Qj}{J:QK}{L M N O V:Int}{X:QJ}{C:Qj×Bool}(h:fH I J L M N O V X=some C):
  Pure Tryz.prog 14 [.agg [.p v (.slice fk) I,.p x (.slice (.int .u8)) J],.agg [.i64 L,.i64 M,.u8 N,.i64 O,.i64 V,.p false .flt X]] (aK (bd false [⟨(.slice fk),C.1⟩,⟨.bool,C.2⟩])):=by
 refine PB Tryz.func14 (fun Bw w0=>?_);unfold fH at h;refine G (G (G (G (af ?_))));obtain⟨D,q2,h⟩:=aj h;refine GP 1 (vH v x q2) (ak (cM h (fun(z,q,A,Y)=>aA [(2,.adr 0 0 2 0),(3,.adr 1 0 6 0),(6,.sl 2),(7,.bo q),(8,.i64 A),(14,.p false (.slice (.int .i64)) D),(15,.i64 (D.length:Int)),(16,.i64 Y)] (KA v I x J L M N O V X z) 3) 0 (fun(B,u)=>aA [(6,.sl 0),(7,.bo u)] [(0,.arr 62 fk B)] 1) (gg [.nilS 6 88 62 fk] [0,8,88]) (fun y o h=>?_) (fun a1 h=>?_)))
 ·obtain⟨z,q,A,Y⟩:=y;unfold gx at h;refine G (af (aC h (fun B6 h=>?_) (fun B6 h=>?_)))
  ·refine ae (ab (af (ak (GC 0 h (fun h=>?_)))));obtain⟨⟨a2,a3⟩,q8,h⟩:=aj h;refine GP 4 (xB v x q8) (af (bz h (fun j=>aA [(2,.adr 0 0 2 0),(3,.adr 1 0 6 0),(6,.sl 2),(7,.bo j),(10,.i64 (D.getD Y.toNat 0)),(14,.p false (.slice (.int .i64)) D),(15,.i64 (D.length:Int)),(16,.i64 Y)] (KA v I x J L M N O V X (z++a2)) 3) (fun j h=>?_) (fun j h=>?_)))
   ·obtain⟨E,h⟩:=aD h;rcases aM h with⟨Z,h⟩ | ⟨Z,h⟩
    ·exact bC ⟨[(4,true),(6,true)],[]⟩ [(2,2,oc E),(5,6,oc Z)] (eN h (gg [] [0,1,131]))
    exact bC ⟨[(4,false),(6,false)],[]⟩ [(2,2,oc E),(5,5,an Z),(6,6,oc Z)] (eN h (gg [] [0,1,131]))
   refine ab (Ge (ay (ab (Ge ?_))));exact eB h (gg [] [0,1,2])
  refine av (aP ?_);exact eX h (gg [] [2])
 obtain⟨B,u⟩:=a1;refine az (ab (G (aw ?_)));obtain rfl:=sI h;exact RI [(.slice fk),.bool]
def il(u p:Qj):(Qj×Int)→Option ((Qj×Int)⊕Qj):=fun(q,j) =>
 (if(decide (j<(p.length:Int)))=true then(if 0≤j∧j<(p.length:Int)then(if 0≤(i64.wrap (((p.getD j.toNat (0,0,0,0)).2.1) - 1))∧(i64.wrap (((p.getD j.toNat (0,0,0,0)).2.1) - 1))<(u.length:Int)then(if 0≤(p.getD j.toNat (0,0,0,0)).1∧(p.getD j.toNat (0,0,0,0)).1<(u.length:Int)then(if(q.length+([((u.getD (((p.getD j.toNat (0,0,0,0)).1).toNat) (0,0,0,0)).1,(i64.wrap (((u.getD ((i64.wrap (((p.getD j.toNat (0,0,0,0)).2.1) - 1)).toNat) (0,0,0,0)).1)+((u.getD ((i64.wrap (((p.getD j.toNat (0,0,0,0)).2.1) - 1)).toNat) (0,0,0,0)).2.1))),(p.getD j.toNat (0,0,0,0)).2.2.1,(p.getD j.toNat (0,0,0,0)).2.2.2)]:Qj).length)*32≤140737488355328∧q.length+([((u.getD (((p.getD j.toNat (0,0,0,0)).1).toNat) (0,0,0,0)).1,(i64.wrap (((u.getD ((i64.wrap (((p.getD j.toNat (0,0,0,0)).2.1) - 1)).toNat) (0,0,0,0)).1)+((u.getD ((i64.wrap (((p.getD j.toNat (0,0,0,0)).2.1) - 1)).toNat) (0,0,0,0)).2.1))),(p.getD j.toNat (0,0,0,0)).2.2.1,(p.getD j.toNat (0,0,0,0)).2.2.2)]:Qj).length≤9223372036854775807 then some (Sum.inl ((q++([((u.getD (((p.getD j.toNat (0,0,0,0)).1).toNat) (0,0,0,0)).1,(i64.wrap (((u.getD ((i64.wrap (((p.getD j.toNat (0,0,0,0)).2.1) - 1)).toNat) (0,0,0,0)).1)+((u.getD ((i64.wrap (((p.getD j.toNat (0,0,0,0)).2.1) - 1)).toNat) (0,0,0,0)).2.1))),(p.getD j.toNat (0,0,0,0)).2.2.1,(p.getD j.toNat (0,0,0,0)).2.2.2)]:Qj)),(i64.wrap (j+1))))else none)else none)else none)else none)
 else some (Sum.inr q))
def ll(q:Qj)(u:QK)(p:Qj):Option Qj :=
 (if((p.length:Int) == 0)=true then some ([(0,0,0,2)]:Qj)
 else((iter (il q p) (([]:Qj),0)).bind fun j=>some j))
theorem xU(u v x:Bool){B:Qj}{C:QK}{A z:Qj}(h:ll B C A=some z):
  Pure Tryz.prog 27 [.agg [.p u (.slice fk) B,.p v (.slice (.int .u8)) C],.p x (.slice fk) A] (aK (bd false [⟨(.slice fk),z⟩])):=by
 refine PB Tryz.func27 (fun Bw w0=>?_);unfold ll at h;refine G (af (G (aC h (fun J h=>?_) (fun J h=>?_))))
 ·refine G (aw (ah ?_));obtain rfl:=sI h;exact RI [(.slice fk)]
 refine ae (ab (G (af (G (ak (cM h (fun(j,I)=>aA [(2,.adr 0 0 2 0),(5,.sl 1),(14,.p x (.slice fk) A),(15,.i64 (A.length:Int)),(16,.i64 I)] (LU u B v C j) 2) 0 (fun q=>aA [(5,.sl 0)] [(0,.arr 80 fk q)] 1) (gg [.nilS 5 72 80 fk] [0,72]) (fun y o h=>?_) (fun q h=>?_)))))))
 ·obtain⟨j,I⟩:=y;unfold il at h;refine G (af (aC h (fun L h=>?_) (fun L h=>?_)))
  ·refine ae (ab (af (ak (GC 0 h (fun h=>GC 5 h (fun h=>?_))))));obtain⟨D,E,h⟩:=g2 h;refine nf a0 [(5,5,oc D),(19,19,oc E)] (ay (ab (Ge ?_)));exact eB h (gg [] [0,266])
  refine av (aP ?_);exact eX h (gg [] [1])
 refine az (ab (G (aw ?_)));obtain rfl:=sI h;exact RI [(.slice fk)]
def cf(E:Option Z1)(j:QK)(v x z A B:Int)(C:QJ):Option ((Qj×Bool)×Int) :=
 ((ix v x z A B C).bind fun I =>
 (if(!I)=true then some ((([]:Qj),false),40)
 else((ba E j).bind fun(p,D) =>
 (if(D != 0)=true then some ((([]:Qj),false),D)
 else((fH p.1 p.2 v x z A B C).bind fun(J,q) =>
 ((ll p.1 p.2 J).bind fun u =>
 some ((u,q),0)))))))
theorem fC(u:Bool){v:Option Z1}{j:QK}{x z A B C:Int}{D:QJ}{q:(Qj×Bool)×Int}(h:cf v j x z A B C D=some q):
  Pure Tryz.prog 11 [.p false (.ptr vk) v,.p u (.slice (.int .u8)) j,.agg [.i64 x,.i64 z,.u8 A,.i64 B,.i64 C,.p false .flt D]] (aK (bd false [⟨IV,q.1⟩,⟨(.int .i64),q.2⟩])):=by
 refine PB Tryz.func11 (fun Bw w0=>?_);unfold cf at h;refine G (af ?_);obtain⟨X,E,h⟩:=aj h;refine GP 1 (xT E) (aC h (fun I h=>?_) (fun I h=>?_))
 ·refine G (aw (ah ?_));obtain rfl:=sI h;exact RI [IV,(.int .i64)]
 refine ae (ab ?_);obtain⟨⟨Y,Z⟩,J,h⟩:=aj h;refine GP 2 (mw u J) (af (G (aC h (fun L h=>?_) (fun L h=>?_))))
 ·refine G (aw (ah ?_));obtain rfl:=sI h;exact RI [IV,(.int .i64)]
 refine ae (ab ?_);obtain⟨⟨r9,M⟩,N,h⟩:=aj h;refine GP 2 (oQ false false N) ?_;obtain⟨O,V,h⟩:=aj h;refine GP 2 (xU false false false V) (aw ?_);obtain rfl:=sI h;exact RI [IV,(.int .i64)]
def eU  : Option (Bool) :=
 ((fm).bind fun p =>
 ((jS p.1 p.2.1 p.2.2.1 p.2.2.2.1 p.2.2.2.2.1 p.2.2.2.2.2.1 p.2.2.2.2.2.2.1 p.2.2.2.2.2.2.2.1 p.2.2.2.2.2.2.2.2).bind fun(u,v) =>
 (if 0<([97,98,32,99,100,10,101]:QK).length then((cf u ([97,98,32,99,100,10,101]:QK) (3:Int) (8:Int) (0:Int) (0:Int) (0:Int) (cj 0)).bind fun(j,q) =>
 (((if(v.1 == 0)=true then(if(q == 0)=true then(if((j.1.length:Int) == 3)=true then(if 0≤(0:Int)∧0<(j.1.length:Int)then(if((((j.1.getD ((0:Int).toNat) (0,0,0,0)).1) == 0) && ((((j.1.getD ((0:Int).toNat) (0,0,0,0)).2.1) == 3) && ((((j.1.getD ((0:Int).toNat) (0,0,0,0)).2.2.1) == 2) && (((j.1.getD ((0:Int).toNat) (0,0,0,0)).2.2.2) == 1))))=true then(if 0≤(1:Int)∧1<(j.1.length:Int)then some (((((j.1.getD ((1:Int).toNat) (0,0,0,0)).1) == 3) && ((((j.1.getD ((1:Int).toNat) (0,0,0,0)).2.1) == 6) && ((((j.1.getD ((1:Int).toNat) (0,0,0,0)).2.2.1) == 2) && (((j.1.getD ((1:Int).toNat) (0,0,0,0)).2.2.2) == 2)))))else none)
 else some (false))else none)
 else some (false))
 else some (false))
 else some (false))).bind fun v1=>some v1))else none)))
theorem pr{x:Bool}(h:eU=some x):
  Pure Tryz.prog 6 [] (aK (bd false [⟨.bool,x⟩])):=by
 refine PB Tryz.func6 (fun Bw w0=>?_);unfold eU at h;refine G ?_;obtain⟨L,B,h⟩:=aj h;obtain⟨⟨M,N⟩,C,h⟩:=aj h;have u:=(nZ B);have z:=(uA false false false false C);refine GN ⟨[],[(0,(oP u)),(1,(oP z))]⟩ [(0,0,oc u),(1,1,oc z)] ?_;obtain⟨D,h⟩:=aD h;obtain⟨⟨O,E⟩,I,h⟩:=aj h;have u:=(fC false I);refine GN ⟨[],[(4,(oP u [false,true]))]⟩ [(2,2,oc D),(4,4,oc u)] (af (bz h (fun v1=>aA [(0,.bo v1)] [] 0) (fun v1 h=>?_) (fun v1 h=>?_)))
 ·rcases aM h with⟨v,h⟩ | ⟨v,h⟩
  ·rcases aM h with⟨p,h⟩ | ⟨p,h⟩
   ·rcases aM h with⟨j,h⟩ | ⟨j,h⟩
    ·obtain⟨A,h⟩:=aD h;rcases aM h with⟨q,h⟩ | ⟨q,h⟩
     ·obtain⟨J,h⟩:=aD h;exact bC ⟨[(3,true),(6,true),(7,true),(12,true),(13,true),(20,true),(21,true),(28,true)],[]⟩ [(4,5,an v),(6,6,oc v),(8,11,an p),(12,12,oc p),(14,15,an j),(16,16,oc (And.intro j A)),(17,18,an j),(19,19,oc (And.intro j JR)),(20,20,oc j),(22,23,an q),(24,24,oc (And.intro q J)),(25,26,an q),(27,27,oc (And.intro q JR)),(28,28,oc q)] (eN h (gg [] []))
     exact bC ⟨[(3,true),(6,true),(7,true),(12,true),(13,true),(20,true),(21,false),(28,false)],[]⟩ [(4,5,an v),(6,6,oc v),(8,11,an p),(12,12,oc p),(14,15,an j),(16,16,oc (And.intro j A)),(17,18,an j),(19,19,oc (And.intro j JR)),(20,20,oc j),(22,28,oc q)] (eN h (gg [] []))
    exact bC ⟨[(3,true),(6,true),(7,true),(12,true),(13,false),(20,false)],[]⟩ [(4,5,an v),(6,6,oc v),(8,11,an p),(12,12,oc p),(14,20,oc j)] (eN h (gg [] []))
   exact bC ⟨[(3,true),(6,true),(7,false),(12,false)],[]⟩ [(4,5,an v),(6,6,oc v),(8,12,oc p)] (eN h (gg [] []))
  exact bC ⟨[(3,false),(6,false)],[]⟩ [(4,6,oc v)] (eN h (gg [] []))
 refine ab (aw ?_);obtain rfl:=sI h;exact RI [.bool]
def bB(j p p3:Int)(p4:QK)(p5:List sJ):Option (Int) :=
 (if ¬(6:Int)=0 then some (i64.wrap (1+(i64.wrap (Int.tmod j 6))))else none)
theorem eg(q u:Bool){v x p3:Int}{p4:QK}{p5:List sJ}{j:Int}(h:bB v x p3 p4 p5=some j):
  Pure Tryz.prog 41 [.agg [.u8 v,.u8 x,.u8 p3,.p q (.slice (.int .u8)) p4,.p u (.slice (.prod (.int .u8) F8)) p5]] (aK (bd false [⟨(.int .i64),j⟩])):=by
 refine PB Tryz.func41 (fun Bw w0=>?_);unfold bB at h;refine G (GC 2 h (fun h=>aw ?_));obtain rfl:=sI h;exact RI [(.int .i64)]
def fI(q:QK)(u:Int):(XK×Int)→Option ((XK×Int)⊕XK):=fun(p,j) =>
 (((if(decide (j<(([9,10,32,45,97,98,99,233,769,8205,20013,65533,128512]:QK).length:Int)))=true then some ((decide (j<(q.length:Int))))
 else some (false))).bind fun v=>(if v=true then(if 0≤j∧j<(([9,10,32,45,97,98,99,233,769,8205,20013,65533,128512]:QK).length:Int)then(if j.toNat<([9,10,32,45,97,98,99,233,769,8205,20013,65533,128512]:QK).length then(if 0≤j∧j<(([9,10,32,45,97,98,99,233,769,8205,20013,65533,128512]:QK).length:Int)then(if j.toNat<([9,10,32,45,97,98,99,233,769,8205,20013,65533,128512]:QK).length then(if 0≤j∧j<(q.length:Int)then(if ¬u=0 then(if(p.length+([((([9,10,32,45,97,98,99,233,769,8205,20013,65533,128512]:QK).getD j.toNat 0),(([9,10,32,45,97,98,99,233,769,8205,20013,65533,128512]:QK).getD j.toNat 0),(Int.tmod (i64.wrap (q.getD j.toNat 0)) u))]:XK).length)*16≤140737488355328∧p.length+([((([9,10,32,45,97,98,99,233,769,8205,20013,65533,128512]:QK).getD j.toNat 0),(([9,10,32,45,97,98,99,233,769,8205,20013,65533,128512]:QK).getD j.toNat 0),(Int.tmod (i64.wrap (q.getD j.toNat 0)) u))]:XK).length≤9223372036854775807 then some (Sum.inl ((p++([((([9,10,32,45,97,98,99,233,769,8205,20013,65533,128512]:QK).getD j.toNat 0),(([9,10,32,45,97,98,99,233,769,8205,20013,65533,128512]:QK).getD j.toNat 0),(Int.tmod (i64.wrap (q.getD j.toNat 0)) u))]:XK)),(i64.wrap (j+1))))else none)else none)else none)else none)else none)else none)else none)
 else some (Sum.inr p)))
def cX(p:QK)(q:Int):Option XK :=
 ((iter (fI p q) (([]:XK),0)).bind fun j=>some j)
theorem fQ(v:Bool){z:QK}{A:Int}{x:XK}(h:cX z A=some x):
  Pure Tryz.prog 40 [.p v (.slice (.int .u8)) z,.i64 A] (aK (bd false [⟨(.slice (.prod (.int .i32) Y1)),x⟩])):=by
 refine PB Tryz.func40 (fun Bw w0=>?_);unfold cX at h;refine G (G (G (af (G (ak (cM h (fun(j,B)=>aA [(0,.p v (.slice (.int .u8)) z),(1,.i64 A),(5,.sl 0),(6,.sl 1),(7,.i64 B)] (Kq ([9,10,32,45,97,98,99,233,769,8205,20013,65533,128512]:QK) j) 2) 0 (fun u=>aA [(6,.sl 0)] [(0,.arr 116 (.prod (.int .i32) Y1) u)] 1) (gg [.nilS 6 40 116 (.prod (.int .i32) Y1)] [8,40]) (fun y o h=>?_) (fun u h=>?_)))))))
 ·obtain⟨j,B⟩:=y;unfold fI at h;refine af (af (bz h (fun C=>aA [(0,.p v (.slice (.int .u8)) z),(1,.i64 A),(5,.sl 0),(6,.sl 1),(7,.i64 B),(18,.bo C)] (Kq ([9,10,32,45,97,98,99,233,769,8205,20013,65533,128512]:QK) j) 2) (fun C h=>?_) (fun C h=>?_)))
  ·rcases aM h with⟨q,h⟩ | ⟨q,h⟩
   ·exact bC ⟨[(4,true),(9,true)],[]⟩ [(5,8,an q),(9,9,oc q)] (eN h (gg [] [0,1]))
   exact bC ⟨[(4,false),(9,false)],[]⟩ [(5,9,oc q)] (eN h (gg [] [0,1]))
  refine ab (aC h (fun D h=>?_) (fun D h=>?_))
  ·refine ae (ab (af (ak ?_)));obtain⟨E,I,J,L,h⟩:=g4 h;obtain⟨M,N,O,h⟩:=g3 h;refine nf a0 [(3,3,oc E),(4,4,oc I),(7,7,oc J),(8,8,oc L),(11,11,oc M),(15,15,oc N),(18,18,oc O)] (ay (ab (Ge ?_)));exact eB h (gg [] [0,146])
  refine av (aP ?_);exact eX h (gg [] [1])
 refine az (ab (G (aw ?_)));obtain rfl:=sI h;exact RI [(.slice (.prod (.int .i32) Y1))]
def cv(j p:Int):Option QX :=
 (if ¬j=0 then some (bytesOf ([(u8.wrap (i64.wrap (65+(Int.tmod p j))))]:QK))else none)
theorem dD{p q:Int}{j:QX}(h:cv p q=some j):
  Pure Tryz.prog 67 [.i64 p,.i64 q] (aK (bd false [⟨.str,j⟩])):=by
 refine PB Tryz.func67 (fun Bw w0=>?_);unfold cv at h;refine G (GC 2 h (fun h=>aw ?_));obtain rfl:=sI h;exact RI [.str]
def jv(x p:Int):Z4→Option (Z4⊕QX):=fun(j,q) =>
 (if(decide (q<x))=true then(if 0≤q then(if ¬(2:Int)=0 then(((if((Int.tmod (Int.fdiv p (2 ^ (min q.toNat u8.bits))) (2:Int)) == 1)=true then(if j.length+([32]:QX).length≤9223372036854775807 then((cv x q).bind fun u =>
 (if(j++([32]:QX)).length+u.length≤9223372036854775807 then some (((j++([32]:QX))++u))else none))else none)
 else some (j))).bind fun v=>some (Sum.inl (v,(i64.wrap (q+1)))))else none)else none)
 else some (Sum.inr j))
def cd(q j:Int):Option QX :=
 ((iter (jv q j) (([]:QX),0)).bind fun p=>some p)
theorem dc{z j:Int}{v:QX}(h:cd z j=some v):
  Pure Tryz.prog 66 [.i64 z,.u8 j] (aK (bd false [⟨.str,v⟩])):=by
 refine PB Tryz.func66 (fun Bw w0=>?_);unfold cd at h;refine G (G (af (G (ak (cM h (fun(q,A)=>aA [(0,.i64 z),(1,.u8 j),(5,.st q),(6,.i64 A)] [] 0) 0 (fun u=>aA [(5,.st u)] [] 0) (gg [] []) (fun y o h=>?_) (fun u h=>?_))))))
 ·obtain⟨q,A⟩:=y;unfold jv at h;refine af (G (aC h (fun J h=>?_) (fun J h=>?_)))
  ·refine ae (ab (af (ak ?_)));obtain⟨B,C,h⟩:=g2 h;refine GN a0 [(2,2,oc B),(3,3,oc C)] (bz h (fun p=>aA [(0,.i64 z),(1,.u8 j),(5,.st p),(6,.i64 A)] [] 0) (fun p h=>?_) (fun p h=>?_))
   ·refine aC h (fun L h=>?_) (fun L h=>?_)
    ·obtain⟨D,h⟩:=aD h;obtain⟨M,E,h⟩:=aj h;obtain⟨I,h⟩:=aD h;have x:=(dD E);exact bC ⟨[],[(4,(oP x))]⟩ [(1,1,oc D),(4,4,oc x),(5,5,oc I)] (eN h (gg [] []))
    exact ae (eN h (gg [] []))
   refine ay (ab (Ge ?_));exact eB h (gg [] [])
  refine av (aP ?_);exact eX h (gg [] [])
 refine az (ab (G (aw ?_)));obtain rfl:=sI h;exact RI [.str]
def bp(p:QK)(j:Int):Option (Int×Int) :=
 (if(decide (j≥(p.length:Int)))=true then some (0,j)
 else(if 0≤(i64.wrap ((i64.wrap (j+1)) - 1))∧(i64.wrap ((i64.wrap (j+1)) - 1))<(p.length:Int)then some ((i64.wrap (p.getD ((i64.wrap ((i64.wrap (j+1)) - 1)).toNat) 0)),(i64.wrap (j+1)))else none))
theorem dp{q:QK}{u:Int}{j:Int×Int}(h:bp q u=some j):
  jD Tryz.prog 118 [.adr 0 0 2 0] [(0,.box [.p false (.slice (.int .u8)) q,.i64 u])] (.i64 j.1) [(0,.box [.p false (.slice (.int .u8)) q,.i64 j.2])]:=by
 refine OB Tryz.func118 (fun Bw w0=>?_);unfold bp at h;refine G (af (GD a0 [] (aC h (fun v h=>?_) (fun v h=>?_))))
 ·refine G (aw (ah ?_));obtain rfl:=sI h;exact RO [some (.int .i64)] [] [0] [(2,.i64 0)] [(0,.box [.p false (.slice (.int .u8)) q,.i64 u])] 1 1
 refine ae (ab (G ?_));obtain⟨x,h⟩:=aD h;refine GD a0 [(9,9,oc x)] (aw ?_);obtain rfl:=sI h;exact RO [some (.int .i64)] [] [0] [(2,.i64 (i64.wrap (q.getD ((i64.wrap ((i64.wrap (u+1)) - 1)).toNat) 0)))] [(0,.box [.p false (.slice (.int .u8)) q,.i64 (i64.wrap (u+1))])] 1 1
def dR(j:Int→Int→QK→Int→Option Z4)(v B:Int)(A:QK)(i2:Int):Option Z4 :=
 ((bp A i2).bind fun(p,q) =>
 (if(decide (B≤0))=true then((cv v p).bind fun Z =>
 some (Z,q))
 else(if ¬(12:Int)=0 then(if((Int.tmod p 12) == 4)=true then some (([46]:QX),q)
 else(if((Int.tmod p 12) == 5)=true then((bp A q).bind fun(a1,a2) =>
 ((cd v (u8.wrap a1)).bind fun D =>
 (if([91]:QX).length+D.length≤9223372036854775807 then(if(([91]:QX)++D).length+([93]:QX).length≤9223372036854775807 then some (((([91]:QX)++D)++([93]:QX)),a2)else none)else none)))
 else(if((Int.tmod p 12) == 6)=true then((bp A q).bind fun(a3,a4) =>
 ((cd v (u8.wrap a3)).bind fun E =>
 (if([91,94]:QX).length+E.length≤9223372036854775807 then(if(([91,94]:QX)++E).length+([93]:QX).length≤9223372036854775807 then some (((([91,94]:QX)++E)++([93]:QX)),a4)else none)else none)))
 else(if((Int.tmod p 12) == 7)=true then((j v (i64.wrap (B - 1)) A q).bind fun(I,a5) =>
 (if([40]:QX).length+I.length≤9223372036854775807 then(if(([40]:QX)++I).length+([41,42]:QX).length≤9223372036854775807 then some (((([40]:QX)++I)++([41,42]:QX)),a5)else none)else none))
 else(if((Int.tmod p 12) == 8)=true then((j v (i64.wrap (B - 1)) A q).bind fun(J,a6) =>
 (if([40]:QX).length+J.length≤9223372036854775807 then(if(([40]:QX)++J).length+([41,43]:QX).length≤9223372036854775807 then some (((([40]:QX)++J)++([41,43]:QX)),a6)else none)else none))
 else(if((Int.tmod p 12) == 9)=true then((j v (i64.wrap (B - 1)) A q).bind fun(L,M) =>
 (if([40]:QX).length+L.length≤9223372036854775807 then(if(([40]:QX)++L).length+([41,63]:QX).length≤9223372036854775807 then some (((([40]:QX)++L)++([41,63]:QX)),M)else none)else none))
 else(if((Int.tmod p 12) == 10)=true then((j v (i64.wrap (B - 1)) A q).bind fun(u,N) =>
 ((j v (i64.wrap (B - 1)) A N).bind fun(x,O) =>
 (if([40]:QX).length+u.length≤9223372036854775807 then(if(([40]:QX)++u).length+([124]:QX).length≤9223372036854775807 then(if((([40]:QX)++u)++([124]:QX)).length+x.length≤9223372036854775807 then(if(((([40]:QX)++u)++([124]:QX))++x).length+([41]:QX).length≤9223372036854775807 then some (((((([40]:QX)++u)++([124]:QX))++x)++([41]:QX)),O)else none)else none)else none)else none)))
 else(if((Int.tmod p 12) == 11)=true then((j v (i64.wrap (B - 1)) A q).bind fun(z,V) =>
 ((j v (i64.wrap (B - 1)) A V).bind fun(C,X) =>
 (if z.length+([32]:QX).length≤9223372036854775807 then(if(z++([32]:QX)).length+C.length≤9223372036854775807 then some (((z++([32]:QX))++C),X)else none)else none)))
 else((cv v p).bind fun Y =>
 some (Y,q))))))))))else none)))
def cH:Nat→Int→Int→QK→Int→Option Z4
 | 0=>fun _ _ _ _=>none
 | n+1=>dR (cH n)
theorem lT(q:Int→Int→QK→Int→Option Z4)(j:∀ {A B:Int} {u:QK} {C:Int} {v:QX×Int},q A B u C=some v→jD Tryz.prog 95 [.i64 A,.adr 0 0 2 0,.i64 B] [(0,.box [.p false (.slice (.int .u8)) u,.i64 C])] (.st v.1) [(0,.box [.p false (.slice (.int .u8)) u,.i64 v.2])]){A B:Int}{u:QK}{C:Int}{v:QX×Int}(h:dR q A B u C=some v):
  jD Tryz.prog 95 [.i64 A,.adr 0 0 2 0,.i64 B] [(0,.box [.p false (.slice (.int .u8)) u,.i64 C])] (.st v.1) [(0,.box [.p false (.slice (.int .u8)) u,.i64 v.2])]:=by
 refine OB Tryz.func95 (fun Bw w0=>?_);unfold dR at h;refine G ?_;obtain⟨⟨d8,z⟩,V,h⟩:=aj h;refine GO 1 [0] (dp V) (af (G (aC h (fun X h=>?_) (fun X h=>?_))))
 ·obtain⟨Y,Z,h⟩:=aj h;refine GP 2 (dD Z) (aw (ah ?_));obtain rfl:=sI h;exact RO [some .str] [] [0] [(6,.st Y)] [(0,.box [.p false (.slice (.int .u8)) u,.i64 z])] 1 1
 refine ae (ab (af (GC 1 h (fun h=>ak (G (aC h (fun a1 h=>?_) (fun a1 h=>?_)))))))
 ·refine G (aw (au (ah ?_)));obtain rfl:=sI h;exact RO [some .str] [] [0] [(6,.st ([46]:QX))] [(0,.box [.p false (.slice (.int .u8)) u,.i64 z])] 1 1
 refine G (aC h (fun a2 h=>?_) (fun a2 h=>?_))
 ·obtain⟨⟨d9,a3⟩,a4,h⟩:=aj h;refine GO 1 [0] (dp a4) ?_;obtain⟨a5,a6,h⟩:=aj h;obtain⟨a7,a8,h⟩:=g2 h;have x:=(dc a6);refine GN ⟨[],[(3,(oP x))]⟩ [(3,3,oc x),(4,4,oc a7),(5,5,oc a8)] (aw (au (ah ?_)));obtain rfl:=sI h;exact RO [some .str] [] [0] [(6,.st ((([91]:QX)++a5)++([93]:QX)))] [(0,.box [.p false (.slice (.int .u8)) u,.i64 a3])] 1 1
 refine G (aC h (fun a9 h=>?_) (fun a9 h=>?_))
 ·obtain⟨⟨dd,aa⟩,ac,h⟩:=aj h;refine GO 1 [0] (dp ac) ?_;obtain⟨ad,ax,h⟩:=aj h;obtain⟨b1,b2,h⟩:=g2 h;have x:=(dc ax);refine GN ⟨[],[(3,(oP x))]⟩ [(3,3,oc x),(4,4,oc b1),(5,5,oc b2)] (aw (au (ah ?_)));obtain rfl:=sI h;exact RO [some .str] [] [0] [(6,.st ((([91,94]:QX)++ad)++([93]:QX)))] [(0,.box [.p false (.slice (.int .u8)) u,.i64 aa])] 1 1
 refine G (aC h (fun b3 h=>?_) (fun b3 h=>?_))
 ·obtain⟨⟨b4,b5⟩,b6,h⟩:=aj h;refine GO 4 [0] (j b6) ?_;obtain⟨b7,b8,h⟩:=g2 h;refine GN a0 [(1,1,oc b7),(2,2,oc b8)] (aw (au (ah ?_)));obtain rfl:=sI h;exact RO [some .str] [] [0] [(6,.st ((([40]:QX)++b4)++([41,42]:QX)))] [(0,.box [.p false (.slice (.int .u8)) u,.i64 b5])] 1 1
 refine G (aC h (fun b9 h=>?_) (fun b9 h=>?_))
 ·obtain⟨⟨be,bi⟩,bs,h⟩:=aj h;refine GO 4 [0] (j bs) ?_;obtain⟨bv,bx,h⟩:=g2 h;refine GN a0 [(1,1,oc bv),(2,2,oc bx)] (aw (au (ah ?_)));obtain rfl:=sI h;exact RO [some .str] [] [0] [(6,.st ((([40]:QX)++be)++([41,43]:QX)))] [(0,.box [.p false (.slice (.int .u8)) u,.i64 bi])] 1 1
 refine G (aC h (fun c1 h=>?_) (fun c1 h=>?_))
 ·obtain⟨⟨c2,D⟩,c3,h⟩:=aj h;refine GO 4 [0] (j c3) ?_;obtain⟨c4,c5,h⟩:=g2 h;refine GN a0 [(1,1,oc c4),(2,2,oc c5)] (aw (au (ah ?_)));obtain rfl:=sI h;exact RO [some .str] [] [0] [(6,.st ((([40]:QX)++c2)++([41,63]:QX)))] [(0,.box [.p false (.slice (.int .u8)) u,.i64 D])] 1 1
 refine G (aC h (fun c6 h=>?_) (fun c6 h=>?_))
 ·obtain⟨⟨E,d6⟩,c7,h⟩:=aj h;refine GO 4 [0] (j c7) ?_;obtain⟨⟨I,J⟩,c8,h⟩:=aj h;refine GO 4 [0] (j c8) ?_;obtain⟨c9,cc,ch,cp,h⟩:=g4 h;refine GN a0 [(1,1,oc c9),(2,2,oc cc),(4,4,oc ch),(5,5,oc cp)] (aw (au (ah ?_)));obtain rfl:=sI h;exact RO [some .str] [] [0] [(6,.st ((((([40]:QX)++E)++([124]:QX))++I)++([41]:QX)))] [(0,.box [.p false (.slice (.int .u8)) u,.i64 J])] 1 1
 refine G (aC h (fun cs h=>?_) (fun cs h=>?_))
 ·obtain⟨⟨L,d7⟩,cx,h⟩:=aj h;refine GO 4 [0] (j cx) ?_;obtain⟨⟨M,N⟩,d2,h⟩:=aj h;refine GO 4 [0] (j d2) ?_;obtain⟨d3,d4,h⟩:=g2 h;refine GN a0 [(1,1,oc d3),(3,3,oc d4)] (aw (au (ah ?_)));obtain rfl:=sI h;exact RO [some .str] [] [0] [(6,.st ((L++([32]:QX))++M))] [(0,.box [.p false (.slice (.int .u8)) u,.i64 N])] 1 1
 refine ae (ay (ab ?_));obtain⟨O,d5,h⟩:=aj h;refine GP 2 (dD d5) (aw ?_);obtain rfl:=sI h;exact RO [some .str] [] [0] [(6,.st O)] [(0,.box [.p false (.slice (.int .u8)) u,.i64 z])] 1 1
theorem iJ:∀(n:Nat) {u v:Int} {q:QK} {x:Int} {j:QX×Int},cH n u v q x=some j→jD Tryz.prog 95 [.i64 u,.adr 0 0 2 0,.i64 v] [(0,.box [.p false (.slice (.int .u8)) q,.i64 x])] (.st j.1) [(0,.box [.p false (.slice (.int .u8)) q,.i64 j.2])]
 | 0,_,_,_,_,_,h=>by cases h
 | n+1,u,v,q,x,j,h=>lT (cH n) (iJ n)  h
def eM(p:Int)(j:QK):Option QX :=
 (if((j.length:Int) == 0)=true then some ([]:QX)
 else(if 0≤(0:Int)∧0≤(min (j.length:Int) (30:Int))∧(min (j.length:Int) (30:Int))≤(j.length:Int)then((cH 1000 p 3 ((j.take (min (j.length:Int) (30:Int)).toNat).drop (0:Int).toNat) 0).bind fun(q,u) =>
 some q)else none))
theorem jY{u:Int}{v:QK}{j:QX}(h:eM u v=some j):
  Pure Tryz.prog 68 [.i64 u,.p false (.slice (.int .u8)) v] (aK (bd false [⟨.str,j⟩])):=by
 refine PB Tryz.func68 (fun Bw w0=>?_);unfold eM at h;refine G (af (G (aC h (fun x h=>?_) (fun x h=>?_))))
 ·refine G (aw (ah ?_));obtain rfl:=sI h;exact RI [.str]
 refine ae (ab ?_);obtain⟨z,h⟩:=aD h;obtain⟨⟨B,C⟩,A,h⟩:=aj h;have q:=(iJ 1000 A);refine GN ⟨[],[(8,(oO q [88]))]⟩ [(5,5,oc z),(8,8,oc q)] (aw ?_);obtain rfl:=sI h;exact RI [.str]
def jU(u:QK)(v:Int):Z4→Option (Z4⊕QX):=fun(v6,p) =>
 (((if(decide (p<(u.length:Int)))=true then some ((decide (p<v)))
 else some (false))).bind fun x=>(if x=true then(if v6.length+([116,114,101,97,116,32]:QX).length≤9223372036854775807 then((cv v p).bind fun j =>
 (if(v6++([116,114,101,97,116,32]:QX)).length+j.length≤9223372036854775807 then(if((v6++([116,114,101,97,116,32]:QX))++j).length+([32,61,32]:QX).length≤9223372036854775807 then(if 0≤p∧p<(u.length:Int)then((cv v (i64.wrap (u.getD p.toNat 0))).bind fun q =>
 (if(((v6++([116,114,101,97,116,32]:QX))++j)++([32,61,32]:QX)).length+q.length≤9223372036854775807 then(if((((v6++([116,114,101,97,116,32]:QX))++j)++([32,61,32]:QX))++q).length+([59,10]:QX).length≤9223372036854775807 then some (Sum.inl ((((((v6++([116,114,101,97,116,32]:QX))++j)++([32,61,32]:QX))++q)++([59,10]:QX)),(i64.wrap (p+1))))else none)else none))else none)else none)else none))else none)
 else some (Sum.inr v6)))
def jP(p:List sJ)(z:Int):Z4→Option (Z4⊕QX):=fun(q,j) =>
 (((if(decide (j<(p.length:Int)))=true then some ((decide (j<10)))
 else some (false))).bind fun x=>(if x=true then(if 0≤j∧j<(p.length:Int)then(if ¬(3:Int)=0 then(if 0≤(Int.tmod ((p.getD j.toNat (0,[],([]:QK))).1) (3:Int))∧(Int.tmod ((p.getD j.toNat (0,[],([]:QK))).1) (3:Int))<(([([107,101,101,112,32]:QX),([109,97,121,32]:QX),([109,117,115,116,32]:QX)]:QQ).length:Int)then(if(Int.tmod ((p.getD j.toNat (0,[],([]:QK))).1) (3:Int)).toNat<([([107,101,101,112,32]:QX),([109,97,121,32]:QX),([109,117,115,116,32]:QX)]:QQ).length then(if q.length+(([([107,101,101,112,32]:QX),([109,97,121,32]:QX),([109,117,115,116,32]:QX)]:QQ).getD ((Int.tmod ((p.getD j.toNat (0,[],([]:QK))).1) (3:Int)).toNat) ([]:QX)).length≤9223372036854775807 then(if 0≤j∧j<(p.length:Int)then((eM z ((p.getD j.toNat (0,[],([]:QK))).2.1)).bind fun u =>
 (if(q++(([([107,101,101,112,32]:QX),([109,97,121,32]:QX),([109,117,115,116,32]:QX)]:QQ).getD ((Int.tmod ((p.getD j.toNat (0,[],([]:QK))).1) (3:Int)).toNat) ([]:QX))).length+u.length≤9223372036854775807 then(if((q++(([([107,101,101,112,32]:QX),([109,97,121,32]:QX),([109,117,115,116,32]:QX)]:QQ).getD ((Int.tmod ((p.getD j.toNat (0,[],([]:QK))).1) (3:Int)).toNat) ([]:QX)))++u).length+([32,47,32]:QX).length≤9223372036854775807 then(if 0≤j∧j<(p.length:Int)then((eM z ((p.getD j.toNat (0,[],([]:QK))).2.2)).bind fun v =>
 (if(((q++(([([107,101,101,112,32]:QX),([109,97,121,32]:QX),([109,117,115,116,32]:QX)]:QQ).getD ((Int.tmod ((p.getD j.toNat (0,[],([]:QK))).1) (3:Int)).toNat) ([]:QX)))++u)++([32,47,32]:QX)).length+v.length≤9223372036854775807 then(if((((q++(([([107,101,101,112,32]:QX),([109,97,121,32]:QX),([109,117,115,116,32]:QX)]:QQ).getD ((Int.tmod ((p.getD j.toNat (0,[],([]:QK))).1) (3:Int)).toNat) ([]:QX)))++u)++([32,47,32]:QX))++v).length+([59,10]:QX).length≤9223372036854775807 then some (Sum.inl ((((((q++(([([107,101,101,112,32]:QX),([109,97,121,32]:QX),([109,117,115,116,32]:QX)]:QQ).getD ((Int.tmod ((p.getD j.toNat (0,[],([]:QK))).1) (3:Int)).toNat) ([]:QX)))++u)++([32,47,32]:QX))++v)++([59,10]:QX)),(i64.wrap (j+1))))else none)else none))else none)else none)else none))else none)else none)else none)else none)else none)else none)
 else some (Sum.inr q)))
def eR(D v A:Int)(B:QK)(C:List sJ):Option QX :=
 ((bB D v A B C).bind fun u =>
 ((cd u 255).bind fun p =>
 (if([99,108,97,115,115]:QX).length+p.length≤9223372036854775807 then(if(([99,108,97,115,115]:QX)++p).length+([59,10]:QX).length≤9223372036854775807 then(((if(v != 0)=true then(if((([99,108,97,115,115]:QX)++p)++([59,10]:QX)).length+([106,111,105,110]:QX).length≤9223372036854775807 then((cd u v).bind fun j =>
 (if(((([99,108,97,115,115]:QX)++p)++([59,10]:QX))++([106,111,105,110]:QX)).length+j.length≤9223372036854775807 then(if((((([99,108,97,115,115]:QX)++p)++([59,10]:QX))++([106,111,105,110]:QX))++j).length+([32,47]:QX).length≤9223372036854775807 then((cd u A).bind fun q =>
 (if(((((([99,108,97,115,115]:QX)++p)++([59,10]:QX))++([106,111,105,110]:QX))++j)++([32,47]:QX)).length+q.length≤9223372036854775807 then(if((((((([99,108,97,115,115]:QX)++p)++([59,10]:QX))++([106,111,105,110]:QX))++j)++([32,47]:QX))++q).length+([59,10]:QX).length≤9223372036854775807 then some ((((((((([99,108,97,115,115]:QX)++p)++([59,10]:QX))++([106,111,105,110]:QX))++j)++([32,47]:QX))++q)++([59,10]:QX)))else none)else none))else none)else none))else none)
 else some (((([99,108,97,115,115]:QX)++p)++([59,10]:QX))))).bind fun v1=>((iter (jU B u) (v1,0)).bind fun E=>((iter (jP C u) (E,0)).bind fun z=>some z)))else none)else none)))
theorem jQ(q:Bool){z A B:Int}{C:QK}{D:List sJ}{M:QX}(h:eR z A B C D=some M):
  Pure Tryz.prog 42 [.agg [.u8 z,.u8 A,.u8 B,.p q (.slice (.int .u8)) C,.p false (.slice (.prod (.int .u8) F8)) D]] (aK (bd false [⟨.str,M⟩])):=by
 refine PB Tryz.func42 (fun Bw w0=>?_);unfold eR at h;refine G ?_;obtain⟨L,q2,h⟩:=aj h;refine GP 1 (eg q false q2) ?_;obtain⟨r4,q4,h⟩:=aj h;obtain⟨c3,c4,h⟩:=g2 h;have j:=(dc q4);refine GN ⟨[],[(1,(oP j))]⟩ [(1,1,oc j),(2,2,oc c3),(3,3,oc c4)] (af (G (bz h (fun v1=>aA [(1,.adr 0 0 5 0),(3,.i64 L),(4,.st v1)] (EO z A B q C D) 1) (fun v1 h=>?_) (fun v1 h=>?_))))
 ·refine aC h (fun B2 h=>?_) (fun B2 h=>?_)
  ·obtain⟨a7,h⟩:=aD h;obtain⟨bv,a8,h⟩:=aj h;obtain⟨a9,aa,h⟩:=g2 h;obtain⟨bx,ac,h⟩:=aj h;obtain⟨ad,ax,h⟩:=g2 h;have j:=(dc a8);have u:=(dc ac);exact nf ⟨[],[(5,(oP j)),(11,(oP u))]⟩ [(1,1,oc a7),(5,5,oc j),(6,6,oc a9),(7,7,oc aa),(11,11,oc u),(12,12,oc ad),(13,13,oc ax)] (eN h (gg [] [0]))
  exact ae (eN h (gg [] [0]))
 refine ab (af (G (ak (cM h (fun(v6,v7)=>aA [(1,.adr 0 0 5 0),(3,.i64 L),(4,.st v6),(5,.i64 v7)] (EO z A B q C D) 1) 0 (fun v8=>aA [(1,.adr 0 0 5 0),(3,.i64 L),(4,.st v8)] (EO z A B q C D) 1) (gg [] [0]) (fun y o h=>?_) (fun v8 h=>?_)))))
 ·obtain⟨v6,v7⟩:=y;unfold jU at h;refine af (af (bz h (fun v9=>aA [(1,.adr 0 0 5 0),(3,.i64 L),(4,.st v6),(5,.i64 v7),(40,.bo v9)] (EO z A B q C D) 1) (fun v9 h=>?_) (fun v9 h=>?_)))
  ·rcases aM h with⟨v,h⟩ | ⟨v,h⟩
   ·exact bC ⟨[(5,true),(9,true)],[]⟩ [(6,8,an v),(9,9,oc v)] (eN h (gg [] [0]))
   exact bC ⟨[(5,false),(9,false)],[]⟩ [(6,9,oc v)] (eN h (gg [] [0]))
  refine ab (aC h (fun b1 h=>?_) (fun b1 h=>?_))
  ·refine ae (ab (af (ak ?_)));obtain⟨b2,h⟩:=aD h;obtain⟨c1,b3,h⟩:=aj h;obtain⟨b4,b5,b6,h⟩:=g3 h;obtain⟨c2,b7,h⟩:=aj h;obtain⟨b8,b9,h⟩:=g2 h;have j:=(dD b3);have u:=(dD b7);refine nf ⟨[],[(4,(oP j)),(14,(oP u))]⟩ [(1,1,oc b2),(4,4,oc j),(5,5,oc b4),(6,6,oc b5),(11,11,oc b6),(14,14,oc u),(15,15,oc b8),(16,16,oc b9)] (ay (ab (Ge ?_)));exact eB h (gg [] [0])
  refine av (aP ?_);exact eX h (gg [] [0])
 refine az (ab (G (af (G (ak (cM h (fun(E,I)=>aA [(1,.adr 0 0 5 0),(3,.i64 L),(4,.st E),(6,.sl 1),(7,.i64 I)] (J8 z A B q C D ([([107,101,101,112,32]:QX),([109,97,121,32]:QX),([109,117,115,116,32]:QX)]:QQ)) 2) 2 (fun N=>aA [(4,.st N)] [] 0) (gg [] [0,1]) (fun y o h=>?_) (fun N h=>?_)))))))
 ·obtain⟨E,I⟩:=y;unfold jP at h;refine af (af (bz h (fun J=>aA [(1,.adr 0 0 5 0),(3,.i64 L),(4,.st E),(6,.sl 1),(7,.i64 I),(69,.bo J)] (J8 z A B q C D ([([107,101,101,112,32]:QX),([109,97,121,32]:QX),([109,117,115,116,32]:QX)]:QQ)) 2) (fun J h=>?_) (fun J h=>?_)))
  ·rcases aM h with⟨x,h⟩ | ⟨x,h⟩
   ·exact bC ⟨[(5,true),(8,true)],[]⟩ [(6,7,an x),(8,8,oc x)] (eN h (gg [] [0,1]))
   exact bC ⟨[(5,false),(8,false)],[]⟩ [(6,8,oc x)] (eN h (gg [] [0,1]))
  refine ab (aC h (fun be h=>?_) (fun be h=>?_))
  ·refine ae (ab (af (ak ?_)));obtain⟨O,V,X,Y,h⟩:=g4 h;obtain⟨Z,a1,h⟩:=g2 h;obtain⟨c5,bi,h⟩:=aj h;obtain⟨a2,a3,a4,h⟩:=g3 h;obtain⟨c6,bs,h⟩:=aj h;obtain⟨a5,a6,h⟩:=g2 h;have j:=(jY bi);have u:=(jY bs);refine nf ⟨[],[(19,(oP j)),(29,(oP u))]⟩ [(5,5,oc O),(8,8,oc V),(9,9,oc X),(10,10,oc Y),(11,11,oc Z),(16,16,oc a1),(19,19,oc j),(20,20,oc a2),(21,21,oc a3),(26,26,oc a4),(29,29,oc u),(30,30,oc a5),(31,31,oc a6)] (ay (ab (Ge ?_)));exact eB h (gg [] [0,1])
  refine av (aP ?_);exact eX h (gg [] [])
 refine az (ab (G (aw ?_)));obtain rfl:=sI h;exact RI [.str]
def fA(q:QK):Z4→Option (Z4⊕QX):=fun(j,p) =>
 (((if(decide (p<(q.length:Int)))=true then some ((decide (p<60)))
 else some (false))).bind fun u=>(if u=true then(if 0≤p∧p<(q.length:Int)then(if ¬(15:Int)=0 then(if 0≤(Int.tmod (i64.wrap (q.getD p.toNat 0)) (15:Int))∧(Int.tmod (i64.wrap (q.getD p.toNat 0)) (15:Int))<(([([97]:QX),([98]:QX),([99]:QX),([49]:QX),([50]:QX),([51]:QX),([32]:QX),([32]:QX),([97,49,98,32]:QX),([98,49,99,32]:QX),([50,99,32]:QX),([46,97,49]:QX),([99,46]:QX),([97,98,45,99,32]:QX),([99,97,45,98,45,97,32]:QX)]:QQ).length:Int)then(if(Int.tmod (i64.wrap (q.getD p.toNat 0)) (15:Int)).toNat<([([97]:QX),([98]:QX),([99]:QX),([49]:QX),([50]:QX),([51]:QX),([32]:QX),([32]:QX),([97,49,98,32]:QX),([98,49,99,32]:QX),([50,99,32]:QX),([46,97,49]:QX),([99,46]:QX),([97,98,45,99,32]:QX),([99,97,45,98,45,97,32]:QX)]:QQ).length then(if j.length+(([([97]:QX),([98]:QX),([99]:QX),([49]:QX),([50]:QX),([51]:QX),([32]:QX),([32]:QX),([97,49,98,32]:QX),([98,49,99,32]:QX),([50,99,32]:QX),([46,97,49]:QX),([99,46]:QX),([97,98,45,99,32]:QX),([99,97,45,98,45,97,32]:QX)]:QQ).getD ((Int.tmod (i64.wrap (q.getD p.toNat 0)) (15:Int)).toNat) []).length≤9223372036854775807 then some (Sum.inl ((j++(([([97]:QX),([98]:QX),([99]:QX),([49]:QX),([50]:QX),([51]:QX),([32]:QX),([32]:QX),([97,49,98,32]:QX),([98,49,99,32]:QX),([50,99,32]:QX),([46,97,49]:QX),([99,46]:QX),([97,98,45,99,32]:QX),([99,97,45,98,45,97,32]:QX)]:QQ).getD ((Int.tmod (i64.wrap (q.getD p.toNat 0)) (15:Int)).toNat) [])),(i64.wrap (p+1))))else none)else none)else none)else none)else none)
 else some (Sum.inr j)))
def eS(p:QK):Option QX :=
 ((iter (fA p) (([]:QX),0)).bind fun j=>some j)
theorem mP(v:Bool){z:QK}{x:QX}(h:eS z=some x):
  Pure Tryz.prog 43 [.p v (.slice (.int .u8)) z] (aK (bd false [⟨.str,x⟩])):=by
 refine PB Tryz.func43 (fun Bw w0=>?_);unfold eS at h;refine G (G (G (af (G (ak (cM h (fun(j,A)=>aA [(0,.p v (.slice (.int .u8)) z),(3,.sl 0),(4,.st j),(5,.i64 A)] [(0,.arr 9 .str ([([97]:QX),([98]:QX),([99]:QX),([49]:QX),([50]:QX),([51]:QX),([32]:QX),([32]:QX),([97,49,98,32]:QX),([98,49,99,32]:QX),([50,99,32]:QX),([46,97,49]:QX),([99,46]:QX),([97,98,45,99,32]:QX),([99,97,45,98,45,97,32]:QX)]:QQ))] 1) 0 (fun u=>aA [(4,.st u)] [] 0) (gg [] [8]) (fun y o h=>?_) (fun u h=>?_)))))))
 ·obtain⟨j,A⟩:=y;unfold fA at h;refine af (af (bz h (fun B=>aA [(0,.p v (.slice (.int .u8)) z),(3,.sl 0),(4,.st j),(5,.i64 A),(14,.bo B)] [(0,.arr 9 .str ([([97]:QX),([98]:QX),([99]:QX),([49]:QX),([50]:QX),([51]:QX),([32]:QX),([32]:QX),([97,49,98,32]:QX),([98,49,99,32]:QX),([50,99,32]:QX),([46,97,49]:QX),([99,46]:QX),([97,98,45,99,32]:QX),([99,97,45,98,45,97,32]:QX)]:QQ))] 1) (fun B h=>?_) (fun B h=>?_)))
  ·rcases aM h with⟨q,h⟩ | ⟨q,h⟩
   ·exact bC ⟨[(4,true),(7,true)],[]⟩ [(5,6,an q),(7,7,oc q)] (eN h (gg [] [0]))
   exact bC ⟨[(4,false),(7,false)],[]⟩ [(5,7,oc q)] (eN h (gg [] [0]))
  refine ab (aC h (fun C h=>?_) (fun C h=>?_))
  ·refine ae (ab (af (ak ?_)));obtain⟨D,E,I,J,h⟩:=g4 h;obtain⟨L,h⟩:=aD h;refine bC a0 [(4,4,oc D),(7,7,oc E),(8,8,oc I),(9,9,oc J),(10,10,oc L)] (ay (ab (Ge ?_)));exact eB h (gg [] [0])
  refine av (aP ?_);exact eX h (gg [] [])
 refine az (ab (G (aw ?_)));obtain rfl:=sI h;exact RI [.str]
def cW(L M N:Int)(O:QK)(V:List sJ)(X Y Z:Int)(b9:QK)(j:List sJ)(p q u v:QK)(x z:Int):Option (XK×XK×XK×XK×QX×QX×QX×Int×Int) :=
 ((bB L M N O V).bind fun r9 =>
 ((cX p r9).bind fun A =>
 ((bB X Y Z b9 j).bind fun B =>
 ((cX q B).bind fun C =>
 ((cX u 3).bind fun D =>
 ((eR L M N O V).bind fun E =>
 ((eR X Y Z b9 j).bind fun I =>
 ((eS v).bind fun J =>
 (if ¬(3:Int)=0 then(if ¬(3:Int)=0 then some (A,C,D,([(65,90,97),(97,122,97),(233,233,101)]:XK),E,I,J,(i64.wrap (1+(i64.wrap (Int.tmod x 3)))),(i64.wrap (1+(i64.wrap (Int.tmod z 3)))))else none)else none)))))))))
theorem oH(x z j q u v:Bool){b1 b2 b3:Int}{b4:QK}{b5:List sJ}{b6 b7 b8:Int}{b9:QK}{A:List sJ}{B C D E:QK}{I J:Int}{L:XK×XK×XK×XK×QX×QX×QX×Int×Int}(h:cW b1 b2 b3 b4 b5 b6 b7 b8 b9 A B C D E I J=some L):
  Pure Tryz.prog 19 [.agg [.u8 b1,.u8 b2,.u8 b3,.p x (.slice (.int .u8)) b4,.p false (.slice (.prod (.int .u8) F8)) b5,.u8 b6,.u8 b7,.u8 b8,.p z (.slice (.int .u8)) b9,.p false (.slice (.prod (.int .u8) F8)) A,.p j (.slice (.int .u8)) B,.p q (.slice (.int .u8)) C,.p u (.slice (.int .u8)) D,.p v (.slice (.int .u8)) E,.u8 I,.u8 J]] (aK (bd false [⟨Y7,L⟩])):=by
 refine PB Tryz.func19 (fun Bw w0=>?_);unfold cW at h;refine G ?_;obtain⟨r9,q9,h⟩:=aj h;obtain⟨a9,a2,h⟩:=aj h;obtain⟨aa,a3,h⟩:=aj h;obtain⟨ac,a4,h⟩:=aj h;obtain⟨ad,a5,h⟩:=aj h;obtain⟨ax,a6,h⟩:=aj h;obtain⟨be,a7,h⟩:=aj h;obtain⟨bi,a8,h⟩:=aj h;obtain⟨c3,c4,h⟩:=g2 h;have M:=(eg x false q9);have N:=(fQ j a2);have O:=(eg z false a3);have V:=(fQ q a4);have X:=(fQ u a5);have Y:=(jQ x a6);have Z:=(jQ z a7);have a1:=(mP v a8);refine GD ⟨[],[(4,(oP M)),(5,(oP N)),(10,(oP O)),(11,(oP V)),(14,(oP X)),(21,(oP Y)),(24,(oP Z)),(27,(oP a1))]⟩ [(4,4,oc M),(5,5,oc N),(10,10,oc O),(11,11,oc V),(14,14,oc X),(21,21,oc Y),(24,24,oc Z),(27,27,oc a1),(30,30,oc c3),(35,35,oc c4)] (lS [.frzC 8 3] (by kernel_rfl) (aw ?_));obtain rfl:=sI h;exact RI [Y7]
def dN(j p q u v:Int)(x:QJ):Option (Int×Int×Int×Int×Int×QJ) :=
 (if ¬(64:Int)=0 then(if ¬(2:Int)=0 then some ((i64.wrap (1+(i64.wrap j))),(i64.wrap (1+(i64.wrap (Int.tmod p 64)))),(Int.tmod q 2),(i64.wrap u),(i64.wrap v),x)else none)else none)
theorem jh{q u v x z:Int}{A:QJ}{j:Int×Int×Int×Int×Int×QJ}(h:dN q u v x z A=some j):
  Pure Tryz.prog 20 [.agg [.u8 q,.u8 u,.u8 v,.p false (.int .u16) x,.p false (.int .u16) z,.p false .flt A]] (aK (bd false [⟨L5,j⟩])):=by
 refine PB Tryz.func20 (fun Bw w0=>?_);unfold dN at h;refine G ?_;obtain⟨B,C,h⟩:=g2 h;refine GN a0 [(6,6,oc B),(11,11,oc C)] (aw ?_);obtain rfl:=sI h;exact RI [L5]
def fR  : Option QQ :=
 some ([([9]:QX),([10]:QX),([32]:QX),([45]:QX),([97]:QX),([98]:QX),([99]:QX),([195,169]:QX),([204,129]:QX),([226,128,141]:QX),([228,184,173]:QX),([240,159,152,128]:QX),([255]:QX),([240,159]:QX)]:QQ)
theorem om{j:QQ}(h:fR=some j):
  Pure Tryz.prog 46 [] (aK (bd false [⟨(.slice .str),j⟩])):=by
 refine PB Tryz.func46 (fun Bw w0=>?_);unfold fR at h;refine G (G (aw ?_));obtain rfl:=sI h;exact RI [(.slice .str)]
def dg(q:QK):uZ→Option (uZ⊕QK):=fun(j,p) =>
 (if(decide (p<(q.length:Int)))=true then((fR).bind fun u =>
 (if 0≤p∧p<(q.length:Int)then(if ¬(14:Int)=0 then(if 0≤(Int.tmod (i64.wrap (q.getD p.toNat 0)) (14:Int))∧(Int.tmod (i64.wrap (q.getD p.toNat 0)) (14:Int))<(u.length:Int)then(if j.length+(u.getD ((Int.tmod (i64.wrap (q.getD p.toNat 0)) (14:Int)).toNat) []).length≤140737488355328 then some (Sum.inl ((j++(bZ (u.getD ((Int.tmod (i64.wrap (q.getD p.toNat 0)) (14:Int)).toNat) []))),(i64.wrap (p+1))))else none)else none)else none)else none))
 else some (Sum.inr j))
def eA(p:QK):Option QK :=
 ((iter (dg p) (([]:QK),0)).bind fun j=>some j)
theorem js(u:Bool){z v:QK}(h:eA z=some v):
  Pure Tryz.prog 23 [.p u (.slice (.int .u8)) z] (aK (bd false [⟨(.slice (.int .u8)),v⟩])):=by
 refine PB Tryz.func23 (fun Bw w0=>?_);unfold eA at h;refine G (G (af (G (ak (cM h (fun(j,E)=>aA [(0,.p u (.slice (.int .u8)) z),(3,.sl 0),(4,.i64 E)] [(0,.arr 5 (.int .u8) j)] 1) 0 (fun q=>aA [(3,.sl 0)] [(0,.arr 5 (.int .u8) q)] 1) (gg [.nilS 3 24 5 (.int .u8)] [24]) (fun y o h=>?_) (fun q h=>?_))))))
 ·obtain⟨j,E⟩:=y;unfold dg at h;refine af (G (aC h (fun I h=>?_) (fun I h=>?_)))
  ·refine ae (ab (af (ak ?_)));obtain⟨L,J,h⟩:=aj h;obtain⟨A,B,C,D,h⟩:=g4 h;have x:=(om J);refine nf ⟨[],[(1,(oP x))]⟩ [(1,1,oc x),(4,4,oc A),(7,7,oc B),(8,8,oc C),(10,10,oc D)] (ay (ab (Ge ?_)));exact eB h (gg [] [113])
  refine av (aP ?_);exact eX h (gg [] [0])
 refine az (ab (G (aw ?_)));obtain rfl:=sI h;exact RI [(.slice (.int .u8))]
def ij(E I J:Int)(L:QK)(M:List sJ)(N O V:Int)(X:QK)(v:List sJ)(x z A B:QK)(C D Y Z w3 w4 w5:Int)(w6:QJ)(p:QK):Option ((Option Z1)×(Int×Int×Int×Int×Int×QJ)×QK×Bool) :=
 ((cW E I J L M N O V X v x z A B C D).bind fun q =>
 ((jS q.1 q.2.1 q.2.2.1 q.2.2.2.1 q.2.2.2.2.1 q.2.2.2.2.2.1 q.2.2.2.2.2.2.1 q.2.2.2.2.2.2.2.1 q.2.2.2.2.2.2.2.2).bind fun(r5,r6) =>
 ((((dN Y Z w3 w4 w5 w6).bind fun j =>
 ((eA p).bind fun u =>
 (if(r6.1 == 0)=true then some ((j.1,j.2.1,j.2.2.1,j.2.2.2.1,j.2.2.2.2.1,j.2.2.2.2.2,u,(decide ((p.length:Int)≤60))))
 else some ((j.1,j.2.1,j.2.2.1,j.2.2.2.1,j.2.2.2.2.1,j.2.2.2.2.2,u,false)))))).bind fun(v1,v2,v3,v4,v5,v6,v7,v8)=>some (r5,(v1,v2,v3,v4,v5,v6),v7,v8))))
theorem sS(D E z A B C v:Bool){b1 b2 b3:Int}{b4:QK}{b5:List sJ}{b6 b7 b8:Int}{b9:QK}{I:List sJ}{J L M N:QK}{O V w1 w2 w3 w4 w5:Int}{w6:QJ}{u:QK}{x:(Option Z1)×(Int×Int×Int×Int×Int×QJ)×QK×Bool}(h:ij b1 b2 b3 b4 b5 b6 b7 b8 b9 I J L M N O V w1 w2 w3 w4 w5 w6 u=some x):
  Pure Tryz.prog 7 [.agg [.u8 b1,.u8 b2,.u8 b3,.p D (.slice (.int .u8)) b4,.p false (.slice (.prod (.int .u8) F8)) b5,.u8 b6,.u8 b7,.u8 b8,.p E (.slice (.int .u8)) b9,.p false (.slice (.prod (.int .u8) F8)) I,.p z (.slice (.int .u8)) J,.p A (.slice (.int .u8)) L,.p B (.slice (.int .u8)) M,.p C (.slice (.int .u8)) N,.u8 O,.u8 V],.agg [.u8 w1,.u8 w2,.u8 w3,.p false (.int .u16) w4,.p false (.int .u16) w5,.p false .flt w6],.p v (.slice (.int .u8)) u] (aK (bd false [⟨(.ptr vk),x.1⟩,⟨L5,x.2.1⟩,⟨(.slice (.int .u8)),x.2.2.1⟩,⟨.bool,x.2.2.2⟩])):=by
 refine PB Tryz.func7 (fun Bw w0=>?_);unfold ij at h;refine G ?_;obtain⟨r4,q3,h⟩:=aj h;obtain⟨⟨r5,r6⟩,q4,h⟩:=aj h;have j:=(oH D E z A B C q3);have q:=(uA false false false false q4);refine GN ⟨[],[(1,(oP j)),(2,(oP q))]⟩ [(1,1,oc j),(2,2,oc q)] (af (bz h (fun(v1,v2,v3,v4,v5,v6,v7,v8)=>aA [(6,.p false (.ptr vk) r5),(7,.adr 0 0 6 0),(8,.p false (.slice (.int .u8)) v7),(9,.bo v8)] (Il v1 v2 v3 v4 v5 v6) 1) (fun X h=>?_) (fun X h=>?_)))
 ·obtain⟨a1,q9,h⟩:=aj h;obtain⟨a2,Y,h⟩:=aj h;rcases aM h with⟨Z,h⟩ | ⟨Z,h⟩
  ·have j:=(jh q9);have q:=(js v Y);exact nf ⟨[(8,true),(12,true)],[(2,(oP j)),(4,(oP q))]⟩ [(2,2,oc j),(4,4,oc q),(9,11,an Z),(12,12,oc Z)] (eN h (gg [] [24]))
  have j:=(jh q9);have q:=(js v Y);exact nf ⟨[(8,false),(12,false)],[(2,(oP j)),(4,(oP q))]⟩ [(2,2,oc j),(4,4,oc q),(9,12,oc Z)] (eN h (gg [] [24]))
 obtain⟨v1,v2,v3,v4,v5,v6,v7,v8⟩:=X;refine ab (aw ?_);obtain rfl:=sI h;exact RI [(.ptr vk),L5,(.slice (.int .u8)),.bool]
def vu  : Option QJ:=some none
theorem vW(w:World):
  Calls Tryz.prog 8 #[] w fun e j=>e = .returned (.float .f64 9221120237041090561)∧j=w:=by
 have h2:∀(n:Int) w,(callFunc 24 #[.int .u64 n]).run Tryz.prog w = .ok (.value (.float .f64 n.toNat)) w:=fun n w=>by rw[run_callFunc_extern (fn:=Tryz.f24) (e:=Extern.MathFloatBits.float64frombits) Tryz.func24 (by kernel_rfl) rfl (by kernel_rfl) (by kernel_rfl)];rfl
 go_enter Tryz.func8,Tryz.ntmps8;go_wp2
 go_ret
 exact⟨rfl,rfl⟩
theorem Cr{j:QJ}(h:vu  = some j):
  Pure Tryz.prog 8 [] (aK (bd false [⟨.flt,j⟩])):=by
 obtain rfl:=sI h;exact Pure.Ng Tryz.func8 (by kernel_rfl) rfl (by decide) (fun w=>vW w)
def rf(j:Int):Option QJ:=if 0≤j then some (some 9218868437227405312)else none
theorem wV{j:Int}(q:0≤j)(w:World):
  Calls Tryz.prog 9 #[.int .i64 j] w fun e p=>e = .returned (.float .f64 9218868437227405312)∧p=w:=by
 have h2:∀(n:Int) w,(callFunc 24 #[.int .u64 n]).run Tryz.prog w = .ok (.value (.float .f64 n.toNat)) w:=fun n w=>by rw[run_callFunc_extern (fn:=Tryz.f24) (e:=Extern.MathFloatBits.float64frombits) Tryz.func24 (by kernel_rfl) rfl (by kernel_rfl) (by kernel_rfl)];rfl
 go_enter Tryz.func9,Tryz.ntmps9;go_wp2
 all_goals first | (go_ret;exact⟨rfl,rfl⟩) | (rename_i h;simp at h;omega)
theorem Bg{j:Int}{p:QJ}(h:rf j=some p):
  Pure Tryz.prog 9 [.i64 j] (aK (bd false [⟨.flt,p⟩])):=by
 unfold rf at h;split at h
 ·rename_i q;obtain rfl:=sI h;exact Pure.M0 Tryz.func9 (by kernel_rfl) rfl (by decide) (fun w=>wV q w)
 cases h
def hD(p j:QJ):Option QJ:=if p=some 0∧j=some 13830554455654793216 then some (some 9223372036854775808)else none
theorem pT(w:World):
  Calls Tryz.prog 10 #[.float .f64 0,.float .f64 13830554455654793216] w fun e j=>e = .returned (.float .f64 9223372036854775808)∧j=w:=by
 have h1:∀(b:Nat) w,(callFunc 25 #[.float .f64 b]).run Tryz.prog w = .ok (.value (.int .u64 b)) w:=fun b w=>by rw[run_callFunc_extern (fn:=Tryz.f25) (e:=Extern.MathFloatBits.float64bits) Tryz.func25 (by kernel_rfl) rfl (by kernel_rfl) (by kernel_rfl)];rfl
 have h2:∀(n:Int) w,(callFunc 24 #[.int .u64 n]).run Tryz.prog w = .ok (.value (.float .f64 n.toNat)) w:=fun n w=>by rw[run_callFunc_extern (fn:=Tryz.f24) (e:=Extern.MathFloatBits.float64frombits) Tryz.func24 (by kernel_rfl) rfl (by kernel_rfl) (by kernel_rfl)];rfl
 go_enter Tryz.func10,Tryz.ntmps10;go_wp2
 go_ret
 exact⟨rfl,rfl⟩
theorem sX{u j q:QJ}(h:hD u j=some q):
  Pure Tryz.prog 10 [.p false .flt u,.p false .flt j] (aK (bd false [⟨.flt,q⟩])):=by
 unfold hD at h;split at h
 ·rename_i v;obtain⟨rfl,rfl⟩:=v;obtain rfl:=sI h;exact Pure.MW Tryz.func10 (by kernel_rfl) rfl (by decide) (fun w=>pT w)
 cases h
def bJ(p q:Qj):(Int)→Option ((Int)⊕((Unit)⊕(Bool))):=fun j =>
 (if(decide (j<(p.length:Int)))=true then(if 0≤j∧j<(p.length:Int)then(if 0≤j∧j<(q.length:Int)then(if(!((((p.getD j.toNat (0,0,0,0)).1) == ((q.getD j.toNat (0,0,0,0)).1)) && ((((p.getD j.toNat (0,0,0,0)).2.1) == ((q.getD j.toNat (0,0,0,0)).2.1)) && ((((p.getD j.toNat (0,0,0,0)).2.2.1) == ((q.getD j.toNat (0,0,0,0)).2.2.1)) && (((p.getD j.toNat (0,0,0,0)).2.2.2) == ((q.getD j.toNat (0,0,0,0)).2.2.2))))))=true then some (Sum.inr (Sum.inr false))
 else some (Sum.inl (i64.wrap (j+1))))else none)else none)
 else some (Sum.inr (Sum.inl ())))
def bW(j:Qj)(q:Bool)(p:Qj)(u:Bool):Option (Bool) :=
 (((if((j.length:Int) != (p.length:Int))=true then some (true)
 else some ((!(q == u))))).bind fun v1=>(if v1=true then some false
 else((iter (bJ j p) (0:Int)).bind fun(v:((Unit)⊕(Bool)))=>match v with
 | .inl _=>some true
 | .inr (x)=>some x)))
theorem br(j q:Bool){v:Qj}{x:Bool}{z:Qj}{A u:Bool}(h:bW v x z A=some u):
  Pure Tryz.prog 12 [.agg [.p j (.slice fk) v,.bo x],.agg [.p q (.slice fk) z,.bo A]] (aK (bd false [⟨.bool,u⟩])):=by
 refine PB Tryz.func12 (fun Bw w0=>?_);unfold bW at h;refine G (af (af (bz h (fun v1=>aA [(2,.adr 0 0 2 0),(3,.adr 1 0 2 0),(19,.bo v1)] (Kr j v x q z A) 2) (fun v1 h=>?_) (fun v1 h=>?_))))
 ·rcases aM h with⟨B,h⟩ | ⟨B,h⟩
  ·exact bC ⟨[(7,true),(13,true)],[]⟩ [(8,13,oc B)] (eN h (gg [] [0,8]))
  exact bC ⟨[(7,false),(13,false)],[]⟩ [(8,12,an B),(13,13,oc B)] (eN h (gg [] [0,8]))
 refine ab (aC h (fun N h=>?_) (fun N h=>?_))
 ·refine G (aw (ah ?_));obtain rfl:=sI h;exact RI [.bool]
 refine ae (ab (af (G (ak (kg h (fun J=>aA [(2,.adr 0 0 2 0),(3,.adr 1 0 2 0),(5,.i64 J)] (Kr j v x q z A) 2) (dy (fj Tryz.f12.ntmps 0 (fun _=>aA [] [] 0)) (gr tb Tryz.f12.results.toList (fun L=>[⟨.bool,L⟩]))) (gg [] [0,1]) (fun J o h=>?_) (fun O h e σ' M=>?_))))))
 ·unfold bJ at h;refine af (G (aC h (fun V h=>?_) (fun V h=>?_)))
  ·refine ae (ab (af (ak ?_)));obtain⟨C,D,h⟩:=g2 h;refine GD a0 [(3,3,oc C),(8,8,oc D),(10,10,oc JR)] (aC h (fun E h=>?_) (fun E h=>?_))
   ·refine G (aw ?_);obtain rfl:=sI h;refine au (ah (bK (aL ?_)));exact bH (RI [.bool])
   refine ae (ay (ab (Ge ?_)));exact eB h (gg [] [0,1])
  refine av (aP ?_);obtain rfl:=sI h;refine dL (bk ?_);exact bS (gg [] [])
 rcases O with _ | L
 ·obtain⟨rfl,I⟩:=M;refine cF ?_ I;refine az (ab (G (aw ?_)));obtain rfl:=sI h;exact RI [.bool]
 obtain⟨rfl,X⟩:=M;refine au (ah ?_);obtain rfl:=sI h;exact X
def cw(q:Int×Int×Int×Int×Int×QJ)(j:Qj):(Int)→Option ((Int)⊕((Unit)⊕(Bool))):=fun p =>
 (if(decide (p<(j.length:Int)))=true then(if 0≤p∧p<(j.length:Int)then(((if(((j.getD p.toNat (0,0,0,0)).2.2.2) != 2)=true then some ((((j.getD p.toNat (0,0,0,0)).2.2.1) != q.1))
 else some (false))).bind fun v6=>(if v6=true then some (Sum.inr (Sum.inr false))
 else some (Sum.inl (i64.wrap (p+1)))))else none)
 else some (Sum.inr (Sum.inl ())))
def ez(d1 d2 d3:Int)(d4:QK)(d5:List sJ)(d6 d7 d8:Int)(d9:QK)(B:List sJ)(C D E I:QK)(J L i1 i2 i3 i4 i5:Int)(i6:QJ)(x1:QK):Option (Bool) :=
 ((eU).bind fun r2 =>
 (if(!r2)=true then some false
 else((ij d1 d2 d3 d4 d5 d6 d7 d8 d9 B C D E I J L i1 i2 i3 i4 i5 i6 x1).bind fun(u,j,v,M) =>
 (if(!M)=true then some true
 else((vu).bind fun N =>
 ((rf 1).bind fun O =>
 ((hD (cj 0) (cj 13830554455654793216)).bind fun V =>
 (if 0≤(0:Int)∧0<((4:Nat):Int)then((cf u v j.1 j.2.1 1 j.2.2.2.1 j.2.2.2.2.1 N).bind fun(q,X) =>
 (if(X != 0)=true then some false
 else(if 0≤(0:Int)∧0<((4:Nat):Int)then(if 0≤(1:Int)∧1<((4:Nat):Int)then((cf u v j.1 j.2.1 1 j.2.2.2.1 j.2.2.2.2.1 O).bind fun(x,Y) =>
 (if(Y != 0)=true then some false
 else(if 0≤(1:Int)∧1<((4:Nat):Int)then(if 0≤(2:Int)∧2<((4:Nat):Int)then((cf u v j.1 j.2.1 1 j.2.2.2.1 j.2.2.2.2.1 V).bind fun(z,Z) =>
 (if(Z != 0)=true then some false
 else(if 0≤(2:Int)∧2<((4:Nat):Int)then(if 0≤(3:Int)∧3<((4:Nat):Int)then((cf u v j.1 j.2.1 1 j.2.2.2.1 j.2.2.2.2.1 (cj 0)).bind fun(p,a1) =>
 (if(a1 != 0)=true then some false
 else(if 0≤(3:Int)∧3<((4:Nat):Int)then(((if 0≤(0:Int)∧0<((4:Nat):Int)then(if 0≤(1:Int)∧1<((4:Nat):Int)then((bW q.1 q.2 x.1 x.2).bind fun a2 =>
 (if(!a2)=true then some (true)
 else(if 0≤(2:Int)∧2<((4:Nat):Int)then(if 0≤(3:Int)∧3<((4:Nat):Int)then((bW z.1 z.2 p.1 p.2).bind fun a3 =>
 (if(!a3)=true then some (true)
 else(if 0≤(0:Int)∧0<((4:Nat):Int)then(if q.2=true then(if 0≤(3:Int)∧3<((4:Nat):Int)then some ((!p.2))else none)
 else some (false))else none)))else none)else none)))else none)else none)).bind fun v1=>(if v1=true then some false
 else(if 0≤(3:Int)∧3<((4:Nat):Int)then(if p.2=true then some true
 else((ba u v).bind fun(A,a4) =>
 ((fH A.1 A.2 j.1 j.2.1 1 j.2.2.2.1 j.2.2.2.2.1 (cj 0)).bind fun(a5,a8) =>
 ((iter (cw j a5) (0:Int)).bind fun(a6:((Unit)⊕(Bool)))=>match a6 with
 | .inl _=>some (a4 == 0)
 | .inr (a7)=>some a7))))else none)))else none)))else none)else none)))else none)else none)))else none)else none)))else none))))))))
theorem oo(a3 a4 M N O V X:Bool){d1 d2 d3:Int}{d4:QK}{d5:List sJ}{d6 d7 d8:Int}{d9:QK}{a5:List sJ}{a6 a7 a8 a9:QK}{aa ac i1 i2 i3 i4 i5:Int}{i6:QJ}{x1:QK}{ad:Bool}(h:ez d1 d2 d3 d4 d5 d6 d7 d8 d9 a5 a6 a7 a8 a9 aa ac i1 i2 i3 i4 i5 i6 x1=some ad):
  Pure Tryz.prog 3 [.agg [.u8 d1,.u8 d2,.u8 d3,.p a3 (.slice (.int .u8)) d4,.p false (.slice (.prod (.int .u8) F8)) d5,.u8 d6,.u8 d7,.u8 d8,.p a4 (.slice (.int .u8)) d9,.p false (.slice (.prod (.int .u8) F8)) a5,.p M (.slice (.int .u8)) a6,.p N (.slice (.int .u8)) a7,.p O (.slice (.int .u8)) a8,.p V (.slice (.int .u8)) a9,.u8 aa,.u8 ac],.agg [.u8 i1,.u8 i2,.u8 i3,.p false (.int .u16) i4,.p false (.int .u16) i5,.p false .flt i6],.p X (.slice (.int .u8)) x1] (aK (bd false [⟨.bool,ad⟩])):=by
 refine PB Tryz.func3 (fun Bw w0=>?_);unfold ez at h;refine G (af ?_);obtain⟨r2,q2,h⟩:=aj h;refine GP 0 (pr q2) (aC h (fun B1 h=>?_) (fun B1 h=>?_))
 ·refine G (aw (ah ?_));obtain rfl:=sI h;exact RI [.bool]
 refine ae (ab ?_);obtain⟨⟨r7,x,r9,c7⟩,q4,h⟩:=aj h;refine GP 3 (sS a3 a4 M N O V X q4) (af (G (aC h (fun B2 h=>?_) (fun B2 h=>?_))))
 ·refine G (aw (ah ?_));obtain rfl:=sI h;exact RI [.bool]
 refine ae (ab (G (G (af ?_))));obtain⟨b4,q8,h⟩:=aj h;obtain⟨b5,q9,h⟩:=aj h;obtain⟨b6,b7,h⟩:=aj h;have q:=(Cr q8);have u:=(Bg q9);have ax:=(sX b7);refine GN ⟨[],[(0,(oP q)),(1,(oP u)),(2,(oP ax))]⟩ [(0,0,oc q),(1,1,oc u),(2,2,oc ax)] (ak (Be 9 (G (af (tF rfl (ae (ab (af (ak (GC 1 h (fun h=>G ?_)))))))))));obtain⟨⟨A,c8⟩,b8,h⟩:=aj h;refine GP 3 (fC false b8) (af (G (aC h (fun B3 h=>?_) (fun B3 h=>?_))))
 ·refine G (aw (ah (au (ah (qC (au (ah ?_)))))));obtain rfl:=sI h;exact RI [.bool]
 refine ae (ab (xq 2 h (fun h=>ay (ab (Ge (vX (G (af (tF rfl (ae (ab (af (ak (GC 1 h (fun h=>G ?_)))))))))))))));obtain⟨⟨B,c9⟩,b9,h⟩:=aj h;refine GP 3 (fC false b9) (af (G (aC h (fun B4 h=>?_) (fun B4 h=>?_))))
 ·refine G (aw (ah (au (ah (qC (au (ah ?_)))))));obtain rfl:=sI h;exact RI [.bool]
 refine ae (ab (xq 2 h (fun h=>ay (ab (Ge (vX (G (af (tF rfl (ae (ab (af (ak (GC 1 h (fun h=>G ?_)))))))))))))));obtain⟨⟨C,cc⟩,be,h⟩:=aj h;refine GP 3 (fC false be) (af (G (aC h (fun B5 h=>?_) (fun B5 h=>?_))))
 ·refine G (aw (ah (au (ah (qC (au (ah ?_)))))));obtain rfl:=sI h;exact RI [.bool]
 refine ae (ab (xq 2 h (fun h=>ay (ab (Ge (vX (G (af (tF rfl (ae (ab (af (ak (GC 1 h (fun h=>MT iQ a0 [] [112,184] [(7,.p false (.ptr vk) r7),(8,.adr 0 0 6 0),(9,.p false (.slice (.int .u8)) r9),(11,.adr 1 0 8 0),(12,.i64 3),(39,.agg [.p false .flt b4,.p false .flt b5,.p false .flt b6,.p false .flt (cj 0)]),(40,.i64 3)] (L9 x.1 x.2.1 1 x.2.2.2.1 x.2.2.2.2.1 (cj 0) A.1 A.2 B.1 B.2 C.1 C.2 false) 2 0 (Ts 3 []) (by kernel_rfl) (tr 3 tt) ?_)))))))))))))));obtain⟨⟨b1,ch⟩,bi,h⟩:=aj h;refine GP 3 (fC false bi) (af (G (aC h (fun B6 h=>?_) (fun B6 h=>?_))))
 ·refine G (aw (ah (au (ah (qC (au (ah ?_)))))));obtain rfl:=sI h;exact RI [.bool]
 refine ae (ab (xq 2 h (fun h=>ay (ab (Ge (vX (G (af (HF rfl (av (aP (NV (az (ab (af (af (bz h (fun v1=>aA [(7,.p false (.ptr vk) r7),(8,.adr 0 0 6 0),(9,.p false (.slice (.int .u8)) r9),(11,.adr 1 0 8 0),(83,.bo v1)] (L4 x.1 x.2.1 1 x.2.2.2.1 x.2.2.2.2.1 (cj 0) A.1 A.2 B.1 B.2 C.1 C.2 b1.1 b1.2) 2) (fun v1 h=>?_) (fun v1 h=>?_))))))))))))))))))
 ·obtain⟨D,E,h⟩:=g2 h;obtain⟨cp,I,h⟩:=aj h;rcases aM h with⟨j,h⟩ | ⟨j,h⟩
  ·have q:=(br false false I);exact bC ⟨[(6,true),(13,true)],[(4,(oP q))]⟩ [(0,0,oc D),(2,2,oc E),(4,4,oc q),(7,13,oc j)] (eN h (gg [] [0,1]))
  obtain⟨Y,Z,h⟩:=g2 h;obtain⟨cs,a1,h⟩:=aj h;rcases aM h with⟨v,h⟩ | ⟨v,h⟩
  ·have q:=(br false false I);have u:=(br false false a1);exact bC ⟨[(6,false),(13,false),(14,true),(24,true)],[(4,(oP q)),(11,(oP u))]⟩ [(0,0,oc D),(2,2,oc E),(4,4,oc q),(7,7,oc (And.intro j Y)),(8,8,an j),(9,9,oc (And.intro j Z)),(10,10,an j),(11,11,oc (And.intro j u)),(12,12,an j),(13,13,oc j),(15,18,oc v),(23,24,oc v)] (eN h (gg [] [0,1]))
  obtain⟨b2,h⟩:=aD h;rcases aM h with⟨z,h⟩ | ⟨z,h⟩
  ·obtain⟨bs,h⟩:=aD h;have q:=(br false false I);have u:=(br false false a1);exact bC ⟨[(6,false),(13,false),(14,false),(18,true),(23,true),(24,false)],[(4,(oP q)),(11,(oP u))]⟩ [(0,0,oc D),(2,2,oc E),(4,4,oc q),(7,7,oc (And.intro j Y)),(8,8,an j),(9,9,oc (And.intro j Z)),(10,10,an j),(11,11,oc (And.intro j u)),(12,12,an j),(13,13,oc j),(15,15,oc (And.intro v b2)),(16,18,an v),(19,19,oc (And.intro z bs)),(20,22,an z),(23,23,oc (And.intro v z)),(24,24,oc v)] (eN h (gg [] [0,1]))
  have q:=(br false false I);have u:=(br false false a1);exact bC ⟨[(6,false),(13,false),(14,false),(18,false),(23,false),(24,false)],[(4,(oP q)),(11,(oP u))]⟩ [(0,0,oc D),(2,2,oc E),(4,4,oc q),(7,7,oc (And.intro j Y)),(8,8,an j),(9,9,oc (And.intro j Z)),(10,10,an j),(11,11,oc (And.intro j u)),(12,12,an j),(13,13,oc j),(15,15,oc (And.intro v b2)),(16,18,an v),(19,22,oc z),(23,23,oc (And.intro v z)),(24,24,oc v)] (eN h (gg [] [0,1]))
 refine ab (aC h (fun bv h=>?_) (fun bv h=>?_))
 ·refine G (aw (ah ?_));obtain rfl:=sI h;exact RI [.bool]
 refine ae (ab (af (GC 0 h (fun h=>aC h (fun bx h=>?_) (fun bx h=>?_)))))
 ·refine G (aw (ah ?_));obtain rfl:=sI h;exact RI [.bool]
 refine ae (ab ?_);obtain⟨⟨cx,a2⟩,c1,h⟩:=aj h;refine GP 2 (mw false c1) ?_;obtain⟨⟨J,dd⟩,c2,h⟩:=aj h;refine GP 2 (oQ false false c2) (af (G (ak (kg h (fun v5=>aA [(8,.adr 0 0 6 0),(17,.i64 a2),(99,.p false (.slice fk) J),(100,.i64 (J.length:Int)),(101,.i64 v5)] (Il x.1 x.2.1 1 x.2.2.2.1 x.2.2.2.2.1 (cj 0)) 1) (dy (fj Tryz.f3.ntmps 2 (fun _=>aA [(17,.i64 a2)] [] 0)) (gr tb Tryz.f3.results.toList (fun b3=>[⟨.bool,b3⟩]))) (gg [] [0]) (fun v5 o h=>?_) (fun c3 h e σ' hq=>?_)))))
 ·unfold cw at h;refine G (af (aC h (fun c4 h=>?_) (fun c4 h=>?_)))
  ·refine ae (ab (af (ak (GC 0 h (fun h=>af (bz h (fun v6=>aA [(8,.adr 0 0 6 0),(17,.i64 a2),(99,.p false (.slice fk) J),(100,.i64 (J.length:Int)),(101,.i64 v5),(114,.bo v6)] (Il x.1 x.2.1 1 x.2.2.2.1 x.2.2.2.2.1 (cj 0)) 1) (fun v6 h=>?_) (fun v6 h=>?_)))))))
   ·rcases aM h with⟨L,h⟩ | ⟨L,h⟩
    ·exact bC ⟨[(3,true),(9,true)],[]⟩ [(4,8,an L),(9,9,oc L)] (eN h (gg [] [0]))
    exact bC ⟨[(3,false),(9,false)],[]⟩ [(4,9,oc L)] (eN h (gg [] [0]))
   refine ab (aC h (fun c5 h=>?_) (fun c5 h=>?_))
   ·refine G (aw ?_);obtain rfl:=sI h;refine au (ah (bK (aL ?_)));exact bH (RI [.bool])
   refine ae (ay (ab (Ge ?_)));exact eB h (gg [] [0])
  refine av (aP ?_);obtain rfl:=sI h;refine dL (bk ?_);exact bS (gg [] [])
 rcases c3 with _ | b3
 ·obtain⟨rfl,c6⟩:=hq;refine cF ?_ c6;refine az (ab (G (aw ?_)));obtain rfl:=sI h;exact RI [.bool]
 obtain⟨rfl,hr⟩:=hq;refine au (ah ?_);obtain rfl:=sI h;exact hr
end
end Go.Proofs.YtobbjfkfmdiklaaGreatDoor.T
