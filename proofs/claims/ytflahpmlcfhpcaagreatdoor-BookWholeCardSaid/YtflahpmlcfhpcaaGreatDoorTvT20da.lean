import Derived.Test.YtflahpmlcfhpcaaGreatDoorTvT20d0
import Derived.Test.YtflahpmlcfhpcaaGreatDoorTvT20da1
import Derived.Test.YtflahpmlcfhpcaaGreatDoorTvT20da3
namespace Go.Proofs.YtflahpmlcfhpcaaGreatDoor.T
open Go Go.Tv Go.Proofs
open Go.IntKind (i64 u8)
noncomputable section
set_option maxRecDepth 100000
set_option maxHeartbeats 4000000
def fO(j:Qv)(q p:Int):uE→Option (uE⊕QK):=fun(e,f) =>
 (if(decide (f<q))=true then(if 0≤f∧f<(j.length:Int)then(if 0≤(i64.wrap ((e.length:Int) - 1))∧(i64.wrap ((e.length:Int) - 1))<(e.length:Int)then(if(i64.wrap ((e.length:Int) - 1)).toNat<e.length then((jl ((j.getD f.toNat (0,0,0,0)).1) ((j.getD f.toNat (0,0,0,0)).2.1) ((j.getD f.toNat (0,0,0,0)).2.2.1) ((j.getD f.toNat (0,0,0,0)).2.2.2) (e.getD ((i64.wrap ((e.length:Int) - 1)).toNat) 0) p).bind fun u =>
 (if(e.length+([u]:QK).length)*8≤140737488355328∧e.length+([u]:QK).length≤9223372036854775807 then some (Sum.inl ((e++([u]:QK)),(i64.wrap (f+1))))else none))else none)else none)else none)
 else some (Sum.inr e))
def kE(q:Qv)(u:QK)(e p f:Int):Option QK :=
 ((iter (fO q p f) (([0]:QK),e)).bind fun j=>some j)
theorem ui(v x:Bool){B:Qv}{C:QK}{e u f:Int}{z:QK}(h:kE B C e u f=some z):
  Pure Tryz.prog 197 [.agg [.p v (.slice fF) B,.p x (.slice (.int .u8)) C],.i64 e,.i64 u,.i64 f] (aL (bh false [⟨(.slice (.int .i64)),z⟩])):=by
 refine PB Tryz.func197 (fun Bw w0=>?_);unfold kE at h;refine G (G (ag (G (ak (cI h (fun(j,L)=>aA [(2,.i64 u),(3,.i64 f),(4,.adr 0 0 2 0),(9,.sl 1),(10,.i64 L)] (LV v B x C j) 2) 0 (fun q=>aA [(9,.sl 0)] [(0,.arr 3 (.int .i64) q)] 1) (gg [] [0,16]) (fun y o h=>?_) (fun q h=>?_))))))
 ·obtain⟨j,L⟩:=y;unfold fO at h;refine ag (G (aC h (fun M h=>?_) (fun M h=>?_)))
  ·refine ae (ab (ag (ak ?_)));obtain⟨D,E,I,h⟩:=g3 h;obtain⟨O,N,h⟩:=aj h;obtain⟨J,h⟩:=aE h;have A:=(nw N);refine nT ⟨[],[(13,(oP A))]⟩ [(4,4,oc D),(10,10,oc E),(11,11,oc I),(13,13,oc A),(15,15,oc J)] (ay (ab (Ge ?_)));exact eB h (gg [] [0,146])
  refine au (aP ?_);exact eX h (gg [] [1])
 refine av (ab (G (aw ?_)));obtain rfl:=sI h;exact RI [(.slice (.int .i64))]
def nB(u:Qv)(v:QK)(e q j p:Int):Option (Int) :=
 ((fS u v e q).bind fun x =>
 ((kE u v e x p).bind fun f =>
 (if 0≤(i64.wrap ((f.length:Int) - 1))∧(i64.wrap ((f.length:Int) - 1))<(f.length:Int)then(((if(j == 3)=true then some ((i64.wrap ((f.getD ((i64.wrap ((f.length:Int) - 1)).toNat) 0)+1)))
 else some ((f.getD ((i64.wrap ((f.length:Int) - 1)).toNat) 0)))).bind fun z=>some z)else none)))
theorem xe(q u:Bool){C:Qv}{D:QK}{e v f j x:Int}(h:nB C D e v f j=some x):
  Pure Tryz.prog 182 [.agg [.p q (.slice fF) C,.p u (.slice (.int .u8)) D],.i64 e,.i64 v,.u8 f,.i64 j] (aL (bh false [⟨(.int .i64),x⟩])):=by
 refine PB Tryz.func182 (fun Bw w0=>?_);unfold nB at h;refine G ?_;obtain⟨L,E,h⟩:=aj h;obtain⟨M,I,h⟩:=aj h;have z:=(m9 q u E);have A:=(ui q u I);refine GD ⟨[],[(5,(oP z)),(7,(oP A))]⟩ [(5,5,oc z),(7,7,oc A)] (GC 4 h (fun h=>ag (G (bB h (fun B=>aA [(12,.i64 B)] [] 0) (fun B h=>?_) (fun B h=>?_)))))
 ·refine aC h (fun J h=>?_) (fun J h=>?_)
  ·exact Ge (eN h (gg [] []))
  exact ae (eN h (gg [] []))
 refine ab (G (aw ?_));obtain rfl:=sI h;exact RI [(.int .i64)]
def js(q:Qv)(u:QK)(e j f p:Int):Option Z2 :=
 ((nB q u e j f p).bind fun v =>
 some (e,j,v,f))
theorem nG(q u:Bool){z:Qv}{A:QK}{e v f j:Int}{x:Int×Int×Int×Int}(h:js z A e v f j=some x):
  Pure Tryz.prog 156 [.agg [.p q (.slice fF) z,.p u (.slice (.int .u8)) A],.i64 e,.i64 v,.u8 f,.i64 j] (aL (bh false [⟨fF,x⟩])):=by
 refine PB Tryz.func156 (fun Bw w0=>?_);unfold js at h;refine G ?_;obtain⟨C,B,h⟩:=aj h;refine GP 7 (xe q u B) (aw ?_);obtain rfl:=sI h;exact RI [fF]
def fT(u:Qv)(q:QK)(f v x z A B C:Int)(D:QJ):(Qq×Int)→Option ((Qq×Int)⊕Qq):=fun(j,e) =>
 (if(decide (e≥f))=true then(if 0≤(i64.wrap (e - f))∧(i64.wrap (e - f))<(j.length:Int)then(if(i64.wrap (e - f)).toNat<j.length then(((if(e == f)=true then some (true)
 else(if 0≤e∧e<(q.length:Int)then some (((q.getD e.toNat 0) != 0))else none))).bind fun v10=>(((if v10=true then((mM u q e f v (j.set ((i64.wrap (e - f)).toNat) (0,(-1:Int))) x z A B C D).bind fun p =>
 (if 0≤(i64.wrap (e - f))∧(i64.wrap (e - f))<((j.set ((i64.wrap (e - f)).toNat) (0,(-1:Int))).length:Int)then(if(i64.wrap (e - f)).toNat<(j.set ((i64.wrap (e - f)).toNat) (0,(-1:Int))).length then some (((j.set ((i64.wrap (e - f)).toNat) (0,(-1:Int))).set ((i64.wrap (e - f)).toNat) (p.1,p.2)))else none)else none))
 else some ((j.set ((i64.wrap (e - f)).toNat) (0,(-1:Int)))))).bind fun v11=>some (Sum.inl (v11,(i64.wrap (e - 1))))))else none)else none)
 else some (Sum.inr j))
def fQ(v:Qv)(u:QK)(p x z:Int)(q:Qq):(Qv×Int)→Option ((Qv×Int)⊕Qv):=fun(j,f) =>
 (if(decide (f<x))=true then(if 0≤(i64.wrap (f - p))∧(i64.wrap (f - p))<(q.length:Int)then(if(i64.wrap (f - p)).toNat<q.length then(if 0≤(q.getD ((i64.wrap (f - p)).toNat) (0,0)).2∧(q.getD ((i64.wrap (f - p)).toNat) (0,0)).2<(u.length:Int)then((js v u f ((q.getD ((i64.wrap (f - p)).toNat) (0,0)).2) (u.getD (((q.getD ((i64.wrap (f - p)).toNat) (0,0)).2).toNat) 0) z).bind fun e =>
 (if(j.length+([(e.1,e.2.1,e.2.2.1,e.2.2.2)]:Qv).length)*32≤140737488355328∧j.length+([(e.1,e.2.1,e.2.2.1,e.2.2.2)]:Qv).length≤9223372036854775807 then some (Sum.inl ((j++([(e.1,e.2.1,e.2.2.1,e.2.2.2)]:Qv)),(q.getD ((i64.wrap (f - p)).toNat) (0,0)).2))else none))else none)else none)else none)
 else some (Sum.inr j))
def lC(q:Qv)(u:QK)(e f z v A B C:Int)(D:QJ):Option (Qv×Bool) :=
 (if(decide (e≥f))=true then some (([]:Qv),true)
 else(if 0≤(i64.wrap ((i64.wrap (f - e))+1))∧(i64.wrap ((i64.wrap (f - e))+1))≤(i64.wrap ((i64.wrap (f - e))+1))∧16*(i64.wrap ((i64.wrap (f - e))+1))≤281474976710656∧(i64.wrap ((i64.wrap (f - e))+1))≤9223372036854775807 then((iter (fT q u e f z v A B C D) ((List.replicate (i64.wrap ((i64.wrap (f - e))+1)).toNat (0,0)),(i64.wrap (f - 1)))).bind fun j=>(if 0≤(0:Int)∧0<(j.length:Int)then(if(0:Int).toNat<j.length then(if(decide (((j.getD ((0:Int).toNat) (0,0)).2)<0))=true then some (([]:Qv),false)
 else((iter (fQ q u e f v j) (([]:Qv),e)).bind fun p=>some (p,true)))else none)else none))else none))
theorem xg(e f:Bool){v:Qv}{x:QK}{u z A B C D E:Int}{I:QJ}{J:Qv×Bool}(h:lC v x u z A B C D E I=some J):
  Pure Tryz.prog 115 [.agg [.p e (.slice fF) v,.p f (.slice (.int .u8)) x],.i64 u,.i64 z,.agg [.i64 A,.i64 B,.u8 C,.i64 D,.i64 E,.p false .flt I]] (aL (bh false [⟨(.slice fF),J.1⟩,⟨.bool,J.2⟩])):=by
 refine PB Tryz.func115 (fun Bw w0=>?_);unfold lC at h;refine G (ag (G (aC h (fun B1 h=>?_) (fun B1 h=>?_))))
 ·refine G (aw (ai ?_));obtain rfl:=sI h;exact RI [(.slice fF),.bool]
 refine ae (ab (GC 4 h (fun h=>ag (G (ak (cI h (fun(V,L)=>aA [(1,.i64 u),(2,.i64 z),(4,.adr 0 0 2 0),(7,.adr 1 0 6 0),(10,.sl 2),(11,.i64 L)] (IL e v f x A B C D E I V) 3) 0 (fun X=>aA [(1,.i64 u),(2,.i64 z),(4,.adr 0 0 2 0),(7,.adr 1 0 6 0),(10,.sl 2)] (IL e v f x A B C D E I X) 3) (gg [] [0,8,88]) (fun y o h=>?_) (fun X h=>?_)))))))
 ·obtain⟨V,L⟩:=y;unfold fT at h;refine ag (G (aC h (fun Y h=>?_) (fun Y h=>?_)))
  ·refine ae (ab (ag (ak ?_)));obtain⟨Z,a1,h⟩:=g2 h;refine GN a0 [(5,5,oc Z),(6,6,oc a1)] (ag (bB h (fun v10=>aA [(1,.i64 u),(2,.i64 z),(4,.adr 0 0 2 0),(7,.adr 1 0 6 0),(10,.sl 2),(11,.i64 L),(46,.bo v10)] (IL e v f x A B C D E I (V.set ((i64.wrap (L - u)).toNat) (0,(-1:Int)))) 3) (fun v10 h=>?_) (fun v10 h=>?_)))
   ·rcases aM h with⟨j,h⟩ | ⟨j,h⟩
    ·exact bC ⟨[(3,true),(10,true)],[]⟩ [(4,10,oc j)] (eN h (gg [] [0,1,2]))
    obtain⟨a2,h⟩:=aE h;exact bC ⟨[(3,false),(10,false)],[]⟩ [(4,6,an j),(7,7,oc (And.intro j a2)),(8,9,an j),(10,10,oc j)] (eN h (gg [] [0,1,2]))
   refine ab (bB h (fun v11=>aA [(1,.i64 u),(2,.i64 z),(4,.adr 0 0 2 0),(7,.adr 1 0 6 0),(10,.sl 2),(11,.i64 L)] (IL e v f x A B C D E I v11) 3) (fun v11 h=>?_) (fun v11 h=>?_))
   ·refine aC h (fun a3 h=>?_) (fun a3 h=>?_)
    ·obtain⟨b3,a4,h⟩:=aj h;obtain⟨a5,a6,h⟩:=g2 h;have q:=(zA e f true a4);exact bC ⟨[],[(10,(oP q))]⟩ [(10,10,oc q),(11,11,oc a5),(12,12,oc a6)] (eN h (gg [] [0,1,2]))
    exact ae (eN h (gg [] [0,1,2]))
   refine ay (ab (Ge ?_));exact eB h (gg [] [0,1,2])
  refine au (aP ?_);exact eX h (gg [] [0,1,2])
 refine av (ab (ag ?_));obtain⟨a7,a8,h⟩:=g2 h;refine GN a0 [(1,1,oc a7),(3,3,oc a8)] (aC h (fun a9 h=>?_) (fun a9 h=>?_))
 ·refine G (aw (ai ?_));obtain rfl:=sI h;exact RI [(.slice fF),.bool]
 refine ae (ab (G (ag (G (ak (cI h (fun(M,N)=>aA [(1,.i64 u),(2,.i64 z),(4,.adr 0 0 2 0),(7,.adr 1 0 6 0),(10,.sl 2),(12,.sl 3),(13,.i64 N)] (LD e v f x A B C D E I X M) 4) 2 (fun O=>aA [(12,.sl 0)] [(0,.arr 197 fF O)] 1) (gg [.nilS 12 67 197 fF] [0,1,2,67]) (fun y o h=>?_) (fun O h=>?_)))))))
 ·obtain⟨M,N⟩:=y;unfold fQ at h;refine ag (G (aC h (fun aa h=>?_) (fun aa h=>?_)))
  ·refine ae (ab (ak ?_));obtain⟨ac,ad,h⟩:=g2 h;refine GN a0 [(4,4,oc ac),(6,6,oc ad)] ?_;obtain⟨ax,h⟩:=aE h;obtain⟨b4,b1,h⟩:=aj h;obtain⟨b2,h⟩:=aE h;have q:=(nG e f b1);refine GD ⟨[],[(11,(oP q))]⟩ [(7,7,oc ax),(11,11,oc q),(13,13,oc b2)] (Ge (ay ?_));exact eB h (gg [] [0,1,2,196])
  refine au (aP ?_);exact eX h (gg [] [3])
 refine av (ab (G (aw ?_)));obtain rfl:=sI h;exact RI [(.slice fF),.bool]
def gI(f:Qv)(D:QK)(I E J:Int):(Int×Int×Int×Int×Int)→Option ((Int×Int×Int×Int×Int)⊕(Int×Int)):=fun(j,v20,u,v,e) =>
 (if(decide (e≤I))=true then(if 0≤(i64.wrap (e - 1))∧(i64.wrap (e - 1))<(f.length:Int)then((jl ((f.getD ((i64.wrap (e - 1)).toNat) (0,0,0,0)).1) ((f.getD ((i64.wrap (e - 1)).toNat) (0,0,0,0)).2.1) ((f.getD ((i64.wrap (e - 1)).toNat) (0,0,0,0)).2.2.1) ((f.getD ((i64.wrap (e - 1)).toNat) (0,0,0,0)).2.2.2) u J).bind fun q =>
 ((fS f D (i64.wrap (e - 1)) e).bind fun x =>
 (((if(x == e)=true then some (q)
 else some (v))).bind fun p=>(if(decide (p > E))=true then some (Sum.inr (j,v20))
 else((kG f D e).bind fun(z,A) =>
 (((if A=true then(if(z != 3)=true then some (true)
 else some ((decide (p<E))))
 else some (false))).bind fun B=>(((if B=true then some (e)
 else some (j))).bind fun C=>some (Sum.inl (C,e,q,p,(i64.wrap (e+1)))))))))))else none)
 else some (Sum.inr (j,v20)))
def mT(x:Qv)(j:QK)(v u C z D E I:Int)(J:QJ):Option Z2 :=
 ((iter (gI x j u C z) ((-1:Int),(i64.wrap (v+1)),0,0,(i64.wrap (v+1)))).bind fun(f,e)=>(if(decide (f≥0))=true then(if 0≤f∧f<(j.length:Int)then((js x j v f (j.getD f.toNat 0) z).bind fun p =>
 some (p.1,p.2.1,p.2.2.1,p.2.2.2))else none)
 else(((if(e == u)=true then(if 0≤u∧u<(j.length:Int)then some ((j.getD u.toNat 0))else none)
 else some (4))).bind fun A=>(((if(decide (e<u))=true then(if 0≤e∧e<(j.length:Int)then some (((j.getD e.toNat 0) == 1))else none)
 else some (false))).bind fun v30=>(((if v30=true then some (1)
 else some (A))).bind fun B=>((js x j v e B z).bind fun q =>
 some (q.1,q.2.1,q.2.2.1,q.2.2.2)))))))
theorem zc(e f:Bool){A:Qv}{B:QK}{C V D E I J L:Int}{M:QJ}{a2:Int×Int×Int×Int}(h:mT A B C V D E I J L M=some a2):
  Pure Tryz.prog 157 [.agg [.p e (.slice fF) A,.p f (.slice (.int .u8)) B],.i64 C,.i64 V,.agg [.i64 D,.i64 E,.u8 I,.i64 J,.i64 L,.p false .flt M]] (aL (bh false [⟨fF,a2⟩])):=by
 refine PB Tryz.func157 (fun Bw w0=>?_);unfold mT at h;refine G (G (G (ag (G (ak (cI h (fun(N,v20,a3,a4,q)=>aA [(1,.i64 C),(2,.i64 V),(4,.adr 0 0 2 0),(7,.adr 1 0 6 0),(8,.adr 2 0 4 0),(9,.i64 N),(10,.i64 v20),(11,.i64 a3),(12,.i64 a4),(13,.i64 q)] (AB e A f B D E I J L M 0 (0:Int) (0:Int) (0:Int)) 3) 0 (fun(a5,v)=>aA [(1,.i64 C),(2,.i64 V),(4,.adr 0 0 2 0),(7,.adr 1 0 6 0),(8,.adr 2 0 4 0),(9,.i64 a5),(10,.i64 v)] (AB e A f B D E I J L M 0 (0:Int) (0:Int) (0:Int)) 3) (gg [] [0,8,16]) (fun y o h=>?_) (fun a7 h=>?_)))))))
 ·obtain⟨N,v20,a3,a4,q⟩:=y;unfold gI at h;refine ag (G (aC h (fun a8 h=>?_) (fun a8 h=>?_)))
  ·refine ae (ab (ag (ak (GC 4 h (fun h=>ag ?_)))));obtain⟨X,a9,h⟩:=aj h;refine GP 4 (nw a9) ?_;obtain⟨b9,aa,h⟩:=aj h;refine GP 4 (m9 e f aa) (bB h (fun x=>aA [(1,.i64 C),(2,.i64 V),(4,.adr 0 0 2 0),(7,.adr 1 0 6 0),(8,.adr 2 0 4 0),(9,.i64 N),(10,.i64 v20),(11,.i64 X),(12,.i64 x),(13,.i64 q)] (AB e A f B D E I J L M 0 (0:Int) (0:Int) (0:Int)) 3) (fun x h=>?_) (fun x h=>?_))
   ·refine aC h (fun ac h=>?_) (fun ac h=>?_)
    ·exact Ge (eN h (gg [] [0,1,2]))
    exact ae (eN h (gg [] [0,1,2]))
   refine ab (ag (G (aC h (fun ad h=>?_) (fun ad h=>?_))))
   ·refine au (aP (jv rfl (aP ?_)));exact eX h (gg [] [0,1,2])
   refine ae (ab (G ?_));obtain⟨⟨be,bi⟩,ax,h⟩:=aj h;refine GP 2 (qN e f ax) (ag (bB h (fun Y=>aA [(1,.i64 C),(2,.i64 V),(4,.adr 0 0 2 0),(7,.adr 1 0 6 0),(8,.adr 2 0 4 0),(9,.i64 N),(10,.i64 q),(11,.i64 X),(12,.i64 x),(13,.i64 q),(67,.bo Y)] (AB e A f B D E I J L M 0 (0:Int) (0:Int) (0:Int)) 3) (fun Y h=>?_) (fun Y h=>?_)))
   ·rcases aM h with⟨j,h⟩ | ⟨j,h⟩
    ·rcases aM h with⟨z,h⟩ | ⟨z,h⟩
     ·exact bC ⟨[(1,true),(4,true),(9,true),(10,true)],[]⟩ [(2,4,an j),(5,8,oc z),(9,9,oc (And.intro j z)),(10,10,oc j)] (eN h (gg [] [0,1,2]))
     exact bC ⟨[(1,true),(4,false),(9,false),(10,true)],[]⟩ [(2,4,an j),(5,8,an z),(9,9,oc (And.intro j z)),(10,10,oc j)] (eN h (gg [] [0,1,2]))
    exact bC ⟨[(1,false),(10,false)],[]⟩ [(2,4,oc j),(9,10,oc j)] (eN h (gg [] [0,1,2]))
   refine ab (bB h (fun Z=>aA [(1,.i64 C),(2,.i64 V),(4,.adr 0 0 2 0),(7,.adr 1 0 6 0),(8,.adr 2 0 4 0),(9,.i64 Z),(10,.i64 q),(11,.i64 X),(12,.i64 x),(13,.i64 q)] (AB e A f B D E I J L M 0 (0:Int) (0:Int) (0:Int)) 3) (fun Z h=>?_) (fun Z h=>?_))
   ·refine aC h (fun b1 h=>?_) (fun b1 h=>?_)
    ·exact Ge (eN h (gg [] [0,1,2]))
    exact ae (eN h (gg [] [0,1,2]))
   refine ay (ab (Ge ?_));exact eB h (gg [] [0,1,2])
  refine au (aP ?_);exact eX h (gg [] [0,1,2])
 obtain⟨a5,v⟩:=a7;refine av (ab (ag (G (aC h (fun b2 h=>?_) (fun b2 h=>?_)))))
 ·obtain⟨b3,h⟩:=aE h;obtain⟨bs,b4,h⟩:=aj h;have a6:=(nG e f b4);refine GD ⟨[],[(10,(oP a6))]⟩ [(6,6,oc b3),(10,10,oc a6)] (aw (ai ?_));obtain rfl:=sI h;exact RI [fF]
 refine ae (ab (G (ag (G (bB h (fun O=>aA [(1,.i64 C),(2,.i64 V),(4,.adr 0 0 2 0),(7,.adr 1 0 6 0),(8,.adr 2 0 4 0),(10,.i64 v),(17,.u8 O)] (AB e A f B D E I J L M 0 (0:Int) (0:Int) (0:Int)) 3) (fun O h=>?_) (fun O h=>?_))))))
 ·refine aC h (fun b5 h=>?_) (fun b5 h=>?_)
  ·refine zC 3 h (fun h=>?_);exact eN h (gg [] [0,1,2])
  exact ae (eN h (gg [] [0,1,2]))
 refine ab (ag (ag (bB h (fun v30=>aA [(1,.i64 C),(4,.adr 0 0 2 0),(7,.adr 1 0 6 0),(8,.adr 2 0 4 0),(10,.i64 v),(17,.u8 O),(100,.bo v30)] (AB e A f B D E I J L M 0 (0:Int) (0:Int) (0:Int)) 3) (fun v30 h=>?_) (fun v30 h=>?_))))
 ·rcases aM h with⟨u,h⟩ | ⟨u,h⟩
  ·obtain⟨b6,h⟩:=aE h;exact bC ⟨[(3,true),(10,true)],[]⟩ [(4,6,an u),(7,7,oc (And.intro u b6)),(8,9,an u),(10,10,oc u)] (eN h (gg [] [0,1,2]))
  exact bC ⟨[(3,false),(10,false)],[]⟩ [(4,10,oc u)] (eN h (gg [] [0,1,2]))
 refine ab (bB h (fun a1=>aA [(1,.i64 C),(4,.adr 0 0 2 0),(7,.adr 1 0 6 0),(8,.adr 2 0 4 0),(10,.i64 v),(17,.u8 a1)] (AB e A f B D E I J L M 0 (0:Int) (0:Int) (0:Int)) 3) (fun a1 h=>?_) (fun a1 h=>?_))
 ·refine aC h (fun b7 h=>?_) (fun b7 h=>?_)
  ·exact Ge (eN h (gg [] [0,1,2]))
  exact ae (eN h (gg [] [0,1,2]))
 refine ab ?_;obtain⟨bv,b8,h⟩:=aj h;refine GP 6 (nG e f b8) (aw ?_);obtain rfl:=sI h;exact RI [fF]
def fk(q:Qv)(u:QK)(p v x z A B:Int)(C:QJ):(Int×Qv)→Option ((Int×Qv)⊕Qv):=fun(j,e) =>
 (if(decide (j<p))=true then((mT q u j p v x z A B C).bind fun f =>
 (if(e.length+([(f.1,f.2.1,f.2.2.1,f.2.2.2)]:Qv).length)*32≤140737488355328∧e.length+([(f.1,f.2.1,f.2.2.1,f.2.2.2)]:Qv).length≤9223372036854775807 then some (Sum.inl (f.2.1,(e++([(f.1,f.2.1,f.2.2.1,f.2.2.2)]:Qv))))else none))
 else some (Sum.inr e))
def jI(p:Qv)(q:QK)(e j u v x z A:Int)(B:QJ):Option Qv :=
 ((iter (fk p q j u v x z A B) (e,([]:Qv))).bind fun f=>some f)
theorem uU(u v:Bool){A:Qv}{B:QK}{e x C D E I J:Int}{L:QJ}{z:Qv}(h:jI A B e x C D E I J L=some z):
  Pure Tryz.prog 116 [.agg [.p u (.slice fF) A,.p v (.slice (.int .u8)) B],.i64 e,.i64 x,.agg [.i64 C,.i64 D,.u8 E,.i64 I,.i64 J,.p false .flt L]] (aL (bh false [⟨(.slice fF),z⟩])):=by
 refine PB Tryz.func116 (fun Bw w0=>?_);unfold jI at h;refine G (G (ag (ak (cI h (fun(f,j)=>aA [(1,.i64 f),(2,.i64 x),(4,.adr 0 0 2 0),(7,.adr 1 0 6 0),(9,.sl 2)] (JL u A v B C D E I J L j) 3) 0 (fun q=>aA [(9,.sl 0)] [(0,.arr 197 fF q)] 1) (gg [.nilS 9 32 197 fF] [0,8,32]) (fun y o h=>?_) (fun q h=>?_)))))
 ·obtain⟨f,j⟩:=y;unfold fk at h;refine ag (G (aC h (fun M h=>?_) (fun M h=>?_)))
  ·refine ae (ab (ak ?_));obtain⟨O,N,h⟩:=aj h;refine GP 4 (zc u v N) (GC 3 h (fun h=>Ge (ay ?_)));exact eB h (gg [] [0,1,107])
  refine au (aP ?_);exact eX h (gg [] [2])
 refine av (ab (G (aw ?_)));obtain rfl:=sI h;exact RI [(.slice fF)]
def jq(v:Qv)(x:QK)(e f z A j B C:Int)(D:QJ):Option (Qv×Bool) :=
 (((if(j == 1)=true then((lC v x e f z A j B C D).bind fun(E,p) =>
 (if p=true then some ((Sum.inr (E,false)))
 else some ((Sum.inl ()))))
 else some ((Sum.inl ())))).bind fun(q:((Unit)⊕(Qv×Bool)))=>match q with
 | .inl _=>((jI v x e f z A j B C D).bind fun u =>
 some (u,(j == 1)))
 | .inr ((I,J))=>some (I,J))
theorem xc(j q:Bool){A:Qv}{B:QK}{f u C D E I J:Int}{L:QJ}{v:Qv×Bool}(h:jq A B f u C D E I J L=some v):
  Pure Tryz.prog 81 [.agg [.p j (.slice fF) A,.p q (.slice (.int .u8)) B],.i64 f,.i64 u,.agg [.i64 C,.i64 D,.u8 E,.i64 I,.i64 J,.p false .flt L]] (aL (bh false [⟨(.slice fF),v.1⟩,⟨.bool,v.2⟩])):=by
 refine PB Tryz.func81 (fun Bw w0=>?_);unfold jq at h;refine G (ag (G (C1 h (dz (nV Tryz.f81.ntmps (fun _=>aA [(1,.i64 f),(2,.i64 u),(4,.adr 0 0 2 0),(7,.adr 1 0 6 0)] (K3 j A q B C D E I J L) 2)) (gv tb Tryz.f81.results.toList (fun(N,O)=>[⟨(.slice fF),N⟩,⟨.bool,O⟩]))) (fun x h=>?_) (fun x h e σ' V=>?_))))
 ·refine aC h (fun X h=>?_) (fun X h=>?_)
  ·obtain⟨⟨r9,Y⟩,Z,h⟩:=aj h;refine GP 4 (xg j q Z) (G (aC h (fun B4 h=>?_) (fun B4 h=>?_)))
   ·refine G (aw ?_);obtain rfl:=sI h;exact aK (bK (RI [(.slice fF),.bool]))
   refine ae ?_;obtain rfl:=sI h;exact bk (cN (gg [] [0,8]))
  refine ae ?_;obtain rfl:=sI h;exact bk (cN (gg [] [0,8]))
 rcases x with _ | ⟨N,O⟩
 ·obtain⟨rfl,M⟩:=V;refine cJ ?_ M;refine ab ?_;obtain⟨a1,q6,h⟩:=aj h;have z:=(uU j q q6);refine GD ⟨[],[(4,(oP z))]⟩ [(4,4,oc z)] (aw ?_);obtain rfl:=sI h;exact RI [(.slice fF),.bool]
 obtain⟨rfl,hr⟩:=V;refine ai ?_;obtain rfl:=sI h;exact hr
def gy(z:Qv)(A:QK)(B C D E I:Int)(J:QJ)(v:QK):(Qv×Bool×Int×Int)→Option ((Qv×Bool×Int×Int)⊕(Qv×Bool)):=fun(e,f,p,u) =>
 (if(decide (u<(v.length:Int)))=true then(if 0≤u∧u<(v.length:Int)then((jq z A p (v.getD u.toNat 0) B C D E I J).bind fun(q,x) =>
 (((if(e.length+q.length)*32≤140737488355328∧e.length+q.length≤9223372036854775807 then(if f=true then some (true)
 else some (x))else none)).bind fun j=>some (Sum.inl ((e++q),j,(v.getD u.toNat 0),(i64.wrap (u+1))))))else none)
 else some (Sum.inr (e,f)))
def gx(j:Qv)(p:QK)(q u v x z:Int)(A:QJ):Option (Qv×Bool) :=
 ((lS j p).bind fun B =>
 ((iter (gy j p q u v x z A B) (([]:Qv),false,0,0)).bind fun(f,e)=>some (f,e)))
theorem wH(q u:Bool){D:Qv}{E:QK}{I J L M N:Int}{O:QJ}{A:Qv×Bool}(h:gx D E I J L M N O=some A):
  Pure Tryz.prog 47 [.agg [.p q (.slice fF) D,.p u (.slice (.int .u8)) E],.agg [.i64 I,.i64 J,.u8 L,.i64 M,.i64 N,.p false .flt O]] (aL (bh false [⟨(.slice fF),A.1⟩,⟨.bool,A.2⟩])):=by
 refine PB Tryz.func47 (fun Bw w0=>?_);unfold gx at h;refine G (G (G (G (ag ?_))));obtain⟨B,q2,h⟩:=aj h;refine GP 1 (vu q u q2) (ak (cI h (fun(v,f,x,V)=>aA [(2,.adr 0 0 2 0),(3,.adr 1 0 6 0),(6,.sl 2),(7,.bo f),(8,.i64 x),(14,.p false (.slice (.int .i64)) B),(15,.i64 (B.length:Int)),(16,.i64 V)] (JL q D u E I J L M N O v) 3) 0 (fun(z,j)=>aA [(6,.sl 0),(7,.bo j)] [(0,.arr 197 fF z)] 1) (gg [.nilS 6 88 197 fF] [0,8,88]) (fun y o h=>?_) (fun Y h=>?_)))
 ·obtain⟨v,f,x,V⟩:=y;unfold gy at h;refine G (ag (aC h (fun B6 h=>?_) (fun B6 h=>?_)))
  ·refine ae (ab (ag (ak (GC 0 h (fun h=>?_)))));obtain⟨⟨Z,a1⟩,q8,h⟩:=aj h;refine GP 4 (xc q u q8) (ag (bB h (fun e=>aA [(2,.adr 0 0 2 0),(3,.adr 1 0 6 0),(6,.sl 2),(7,.bo e),(10,.i64 (B.getD V.toNat 0)),(14,.p false (.slice (.int .i64)) B),(15,.i64 (B.length:Int)),(16,.i64 V)] (JL q D u E I J L M N O (v++Z)) 3) (fun e h=>?_) (fun e h=>?_)))
   ·obtain⟨C,h⟩:=aE h;rcases aM h with⟨X,h⟩ | ⟨X,h⟩
    ·exact bC ⟨[(4,true),(6,true)],[]⟩ [(2,2,oc C),(5,6,oc X)] (eN h (gg [] [0,1,131]))
    exact bC ⟨[(4,false),(6,false)],[]⟩ [(2,2,oc C),(5,5,an X),(6,6,oc X)] (eN h (gg [] [0,1,131]))
   refine ab (Ge (ay (ab (Ge ?_))));exact eB h (gg [] [0,1,2])
  refine au (aP ?_);exact eX h (gg [] [2])
 obtain⟨z,j⟩:=Y;refine av (ab (G (aw ?_)));obtain rfl:=sI h;exact RI [(.slice fF),.bool]
def hD(p f:Qv):(Qv×Int)→Option ((Qv×Int)⊕Qv):=fun(j,e) =>
 (if(decide (e<(f.length:Int)))=true then(if 0≤e∧e<(f.length:Int)then(if 0≤(i64.wrap (((f.getD e.toNat (0,0,0,0)).2.1) - 1))∧(i64.wrap (((f.getD e.toNat (0,0,0,0)).2.1) - 1))<(p.length:Int)then(if 0≤(f.getD e.toNat (0,0,0,0)).1∧(f.getD e.toNat (0,0,0,0)).1<(p.length:Int)then(if(j.length+([((p.getD (((f.getD e.toNat (0,0,0,0)).1).toNat) (0,0,0,0)).1,(i64.wrap (((p.getD ((i64.wrap (((f.getD e.toNat (0,0,0,0)).2.1) - 1)).toNat) (0,0,0,0)).1)+((p.getD ((i64.wrap (((f.getD e.toNat (0,0,0,0)).2.1) - 1)).toNat) (0,0,0,0)).2.1))),(f.getD e.toNat (0,0,0,0)).2.2.1,(f.getD e.toNat (0,0,0,0)).2.2.2)]:Qv).length)*32≤140737488355328∧j.length+([((p.getD (((f.getD e.toNat (0,0,0,0)).1).toNat) (0,0,0,0)).1,(i64.wrap (((p.getD ((i64.wrap (((f.getD e.toNat (0,0,0,0)).2.1) - 1)).toNat) (0,0,0,0)).1)+((p.getD ((i64.wrap (((f.getD e.toNat (0,0,0,0)).2.1) - 1)).toNat) (0,0,0,0)).2.1))),(f.getD e.toNat (0,0,0,0)).2.2.1,(f.getD e.toNat (0,0,0,0)).2.2.2)]:Qv).length≤9223372036854775807 then some (Sum.inl ((j++([((p.getD (((f.getD e.toNat (0,0,0,0)).1).toNat) (0,0,0,0)).1,(i64.wrap (((p.getD ((i64.wrap (((f.getD e.toNat (0,0,0,0)).2.1) - 1)).toNat) (0,0,0,0)).1)+((p.getD ((i64.wrap (((f.getD e.toNat (0,0,0,0)).2.1) - 1)).toNat) (0,0,0,0)).2.1))),(f.getD e.toNat (0,0,0,0)).2.2.1,(f.getD e.toNat (0,0,0,0)).2.2.2)]:Qv)),(i64.wrap (e+1))))else none)else none)else none)else none)
 else some (Sum.inr j))
def lj(j:Qv)(p:QK)(f:Qv):Option Qv :=
 (if((f.length:Int) == 0)=true then some ([(0,0,0,2)]:Qv)
 else((iter (hD j f) (([]:Qv),0)).bind fun e=>some e))
theorem wN(j q u:Bool){z:Qv}{A:QK}{x v:Qv}(h:lj z A x=some v):
  Pure Tryz.prog 48 [.agg [.p j (.slice fF) z,.p q (.slice (.int .u8)) A],.p u (.slice fF) x] (aL (bh false [⟨(.slice fF),v⟩])):=by
 refine PB Tryz.func48 (fun Bw w0=>?_);unfold lj at h;refine G (ag (G (aC h (fun E h=>?_) (fun E h=>?_))))
 ·refine G (aw (ai ?_));obtain rfl:=sI h;exact RI [(.slice fF)]
 refine ae (ab (G (ag (G (ak (cI h (fun(e,D)=>aA [(2,.adr 0 0 2 0),(5,.sl 1),(14,.p u (.slice fF) x),(15,.i64 (x.length:Int)),(16,.i64 D)] (Lm j z q A e) 2) 0 (fun f=>aA [(5,.sl 0)] [(0,.arr 93 fF f)] 1) (gg [.nilS 5 72 93 fF] [0,72]) (fun y o h=>?_) (fun f h=>?_)))))))
 ·obtain⟨e,D⟩:=y;unfold hD at h;refine G (ag (aC h (fun I h=>?_) (fun I h=>?_)))
  ·refine ae (ab (ag (ak (GC 0 h (fun h=>GC 5 h (fun h=>?_))))));obtain⟨B,C,h⟩:=g2 h;refine nT a0 [(5,5,oc B),(19,19,oc C)] (ay (ab (Ge ?_)));exact eB h (gg [] [0,266])
  refine au (aP ?_);exact eX h (gg [] [1])
 refine av (ab (G (aw ?_)));obtain rfl:=sI h;exact RI [(.slice fF)]
def dy(C:Option Z1)(e:QK)(q u v x z:Int)(A:QJ):Option ((Qv×Bool)×Int) :=
 ((ik q u v x z A).bind fun D =>
 (if(!D)=true then some ((([]:Qv),false),40)
 else((bc C e).bind fun(f,B) =>
 (if(B != 0)=true then some ((([]:Qv),false),B)
 else((gx f.1 f.2 q u v x z A).bind fun(E,j) =>
 ((lj f.1 f.2 E).bind fun p =>
 some ((p,j),0)))))))
theorem mH(j:Bool){q:Option Z1}{e:QK}{u v x z A:Int}{B:QJ}{f:(Qv×Bool)×Int}(h:dy q e u v x z A B=some f):
  Pure Tryz.prog 18 [.p false (.ptr zD) q,.p j (.slice (.int .u8)) e,.agg [.i64 u,.i64 v,.u8 x,.i64 z,.i64 A,.p false .flt B]] (aL (bh false [⟨KP,f.1⟩,⟨(.int .i64),f.2⟩])):=by
 refine PB Tryz.func18 (fun Bw w0=>?_);unfold dy at h;refine G (ag ?_);obtain⟨O,C,h⟩:=aj h;refine GP 1 (wO C) (aC h (fun D h=>?_) (fun D h=>?_))
 ·refine G (aw (ai ?_));obtain rfl:=sI h;exact RI [KP,(.int .i64)]
 refine ae (ab ?_);obtain⟨⟨V,X⟩,E,h⟩:=aj h;refine GP 2 (lI j E) (ag (G (aC h (fun I h=>?_) (fun I h=>?_))))
 ·refine G (aw (ai ?_));obtain rfl:=sI h;exact RI [KP,(.int .i64)]
 refine ae (ab ?_);obtain⟨⟨Y,J⟩,L,h⟩:=aj h;refine GP 2 (wH false false L) ?_;obtain⟨M,N,h⟩:=aj h;refine GP 2 (wN false false false N) (aw ?_);obtain rfl:=sI h;exact RI [KP,(.int .i64)]
def eJ  : Option (Bool) :=
 ((ff).bind fun f =>
 ((jS f.1 f.2.1 f.2.2.1 f.2.2.2.1 f.2.2.2.2.1 f.2.2.2.2.2.1 f.2.2.2.2.2.2.1 f.2.2.2.2.2.2.2.1 f.2.2.2.2.2.2.2.2).bind fun(p,q) =>
 (if 0<([97,98,32,99,100,10,101]:QK).length then((dy p ([97,98,32,99,100,10,101]:QK) (3:Int) (8:Int) (0:Int) (0:Int) (0:Int) (eA 0)).bind fun(e,j) =>
 (((if(q.1 == 0)=true then(if(j == 0)=true then(if((e.1.length:Int) == 3)=true then(if 0≤(0:Int)∧0<(e.1.length:Int)then(if((((e.1.getD ((0:Int).toNat) (0,0,0,0)).1) == 0) && ((((e.1.getD ((0:Int).toNat) (0,0,0,0)).2.1) == 3) && ((((e.1.getD ((0:Int).toNat) (0,0,0,0)).2.2.1) == 2) && (((e.1.getD ((0:Int).toNat) (0,0,0,0)).2.2.2) == 1))))=true then(if 0≤(1:Int)∧1<(e.1.length:Int)then some (((((e.1.getD ((1:Int).toNat) (0,0,0,0)).1) == 3) && ((((e.1.getD ((1:Int).toNat) (0,0,0,0)).2.1) == 6) && ((((e.1.getD ((1:Int).toNat) (0,0,0,0)).2.2.1) == 2) && (((e.1.getD ((1:Int).toNat) (0,0,0,0)).2.2.2) == 2)))))else none)
 else some (false))else none)
 else some (false))
 else some (false))
 else some (false))).bind fun v1=>some v1))else none)))
theorem og{u:Bool}(h:eJ=some u):
  Pure Tryz.prog 9 [] (aL (bh false [⟨.bool,u⟩])):=by
 refine PB Tryz.func9 (fun Bw w0=>?_);unfold eJ at h;refine G ?_;obtain⟨I,z,h⟩:=aj h;obtain⟨⟨J,L⟩,A,h⟩:=aj h;have p:=(nN z);have v:=(tY false false false false A);refine GN ⟨[],[(0,(oP p)),(1,(oP v))]⟩ [(0,0,oc p),(1,1,oc v)] ?_;obtain⟨B,h⟩:=aE h;obtain⟨⟨M,C⟩,D,h⟩:=aj h;have p:=(mH false D);refine GN ⟨[],[(4,(oP p [false,true]))]⟩ [(2,2,oc B),(4,4,oc p)] (ag (bB h (fun v1=>aA [(0,.bo v1)] [] 0) (fun v1 h=>?_) (fun v1 h=>?_)))
 ·rcases aM h with⟨q,h⟩ | ⟨q,h⟩
  ·rcases aM h with⟨f,h⟩ | ⟨f,h⟩
   ·rcases aM h with⟨e,h⟩ | ⟨e,h⟩
    ·obtain⟨x,h⟩:=aE h;rcases aM h with⟨j,h⟩ | ⟨j,h⟩
     ·obtain⟨E,h⟩:=aE h;exact bC ⟨[(3,true),(6,true),(7,true),(12,true),(13,true),(20,true),(21,true),(28,true)],[]⟩ [(4,5,an q),(6,6,oc q),(8,11,an f),(12,12,oc f),(14,15,an e),(16,16,oc (And.intro e x)),(17,18,an e),(19,19,oc (And.intro e Js)),(20,20,oc e),(22,23,an j),(24,24,oc (And.intro j E)),(25,26,an j),(27,27,oc (And.intro j Js)),(28,28,oc j)] (eN h (gg [] []))
     exact bC ⟨[(3,true),(6,true),(7,true),(12,true),(13,true),(20,true),(21,false),(28,false)],[]⟩ [(4,5,an q),(6,6,oc q),(8,11,an f),(12,12,oc f),(14,15,an e),(16,16,oc (And.intro e x)),(17,18,an e),(19,19,oc (And.intro e Js)),(20,20,oc e),(22,28,oc j)] (eN h (gg [] []))
    exact bC ⟨[(3,true),(6,true),(7,true),(12,true),(13,false),(20,false)],[]⟩ [(4,5,an q),(6,6,oc q),(8,11,an f),(12,12,oc f),(14,20,oc e)] (eN h (gg [] []))
   exact bC ⟨[(3,true),(6,true),(7,false),(12,false)],[]⟩ [(4,5,an q),(6,6,oc q),(8,12,oc f)] (eN h (gg [] []))
  exact bC ⟨[(3,false),(6,false)],[]⟩ [(4,6,oc q)] (eN h (gg [] []))
 refine ab (aw ?_);obtain rfl:=sI h;exact RI [.bool]
def bA(e f p3:Int)(p4:QK)(p5:List wI):Option (Int) :=
 (if ¬(6:Int)=0 then some (i64.wrap (1+(i64.wrap (Int.tmod e 6))))else none)
theorem dV(f j:Bool){q u p3:Int}{p4:QK}{p5:List wI}{e:Int}(h:bA q u p3 p4 p5=some e):
  Pure Tryz.prog 29 [.agg [.u8 q,.u8 u,.u8 p3,.p f (.slice (.int .u8)) p4,.p j (.slice (.prod (.int .u8) Fv)) p5]] (aL (bh false [⟨(.int .i64),e⟩])):=by
 refine PB Tryz.func29 (fun Bw w0=>?_);unfold bA at h;refine G (GC 2 h (fun h=>aw ?_));obtain rfl:=sI h;exact RI [(.int .i64)]
def fN(j:QK)(p:Int):(XK×Int)→Option ((XK×Int)⊕XK):=fun(f,e) =>
 (((if(decide (e<(([9,10,32,45,97,98,99,233,769,8205,20013,65533,128512]:QK).length:Int)))=true then some ((decide (e<(j.length:Int))))
 else some (false))).bind fun q=>(if q=true then(if 0≤e∧e<(([9,10,32,45,97,98,99,233,769,8205,20013,65533,128512]:QK).length:Int)then(if e.toNat<([9,10,32,45,97,98,99,233,769,8205,20013,65533,128512]:QK).length then(if 0≤e∧e<(([9,10,32,45,97,98,99,233,769,8205,20013,65533,128512]:QK).length:Int)then(if e.toNat<([9,10,32,45,97,98,99,233,769,8205,20013,65533,128512]:QK).length then(if 0≤e∧e<(j.length:Int)then(if ¬p=0 then(if(f.length+([((([9,10,32,45,97,98,99,233,769,8205,20013,65533,128512]:QK).getD e.toNat 0),(([9,10,32,45,97,98,99,233,769,8205,20013,65533,128512]:QK).getD e.toNat 0),(Int.tmod (i64.wrap (j.getD e.toNat 0)) p))]:XK).length)*16≤140737488355328∧f.length+([((([9,10,32,45,97,98,99,233,769,8205,20013,65533,128512]:QK).getD e.toNat 0),(([9,10,32,45,97,98,99,233,769,8205,20013,65533,128512]:QK).getD e.toNat 0),(Int.tmod (i64.wrap (j.getD e.toNat 0)) p))]:XK).length≤9223372036854775807 then some (Sum.inl ((f++([((([9,10,32,45,97,98,99,233,769,8205,20013,65533,128512]:QK).getD e.toNat 0),(([9,10,32,45,97,98,99,233,769,8205,20013,65533,128512]:QK).getD e.toNat 0),(Int.tmod (i64.wrap (j.getD e.toNat 0)) p))]:XK)),(i64.wrap (e+1))))else none)else none)else none)else none)else none)else none)else none)
 else some (Sum.inr f)))
def cR(f:QK)(j:Int):Option XK :=
 ((iter (fN f j) (([]:XK),0)).bind fun e=>some e)
theorem fH(q:Bool){v:QK}{x:Int}{u:XK}(h:cR v x=some u):
  Pure Tryz.prog 28 [.p q (.slice (.int .u8)) v,.i64 x] (aL (bh false [⟨(.slice (.prod (.int .i32) Y1)),u⟩])):=by
 refine PB Tryz.func28 (fun Bw w0=>?_);unfold cR at h;refine G (G (G (ag (G (ak (cI h (fun(e,z)=>aA [(0,.p q (.slice (.int .u8)) v),(1,.i64 x),(5,.sl 0),(6,.sl 1),(7,.i64 z)] (IU ([9,10,32,45,97,98,99,233,769,8205,20013,65533,128512]:QK) e) 2) 0 (fun j=>aA [(6,.sl 0)] [(0,.arr 115 (.prod (.int .i32) Y1) j)] 1) (gg [.nilS 6 40 115 (.prod (.int .i32) Y1)] [8,40]) (fun y o h=>?_) (fun j h=>?_)))))))
 ·obtain⟨e,z⟩:=y;unfold fN at h;refine ag (ag (bB h (fun A=>aA [(0,.p q (.slice (.int .u8)) v),(1,.i64 x),(5,.sl 0),(6,.sl 1),(7,.i64 z),(18,.bo A)] (IU ([9,10,32,45,97,98,99,233,769,8205,20013,65533,128512]:QK) e) 2) (fun A h=>?_) (fun A h=>?_)))
  ·rcases aM h with⟨f,h⟩ | ⟨f,h⟩
   ·exact bC ⟨[(4,true),(9,true)],[]⟩ [(5,8,an f),(9,9,oc f)] (eN h (gg [] [0,1]))
   exact bC ⟨[(4,false),(9,false)],[]⟩ [(5,9,oc f)] (eN h (gg [] [0,1]))
  refine ab (aC h (fun B h=>?_) (fun B h=>?_))
  ·refine ae (ab (ag (ak ?_)));obtain⟨C,D,E,I,h⟩:=g4 h;obtain⟨J,L,M,h⟩:=g3 h;refine nT a0 [(3,3,oc C),(4,4,oc D),(7,7,oc E),(8,8,oc I),(11,11,oc J),(15,15,oc L),(18,18,oc M)] (ay (ab (Ge ?_)));exact eB h (gg [] [0,146])
  refine au (aP ?_);exact eX h (gg [] [1])
 refine av (ab (G (aw ?_)));obtain rfl:=sI h;exact RI [(.slice (.prod (.int .i32) Y1))]
def cu(e f:Int):Option QX :=
 (if ¬e=0 then some (bytesOf ([(u8.wrap (i64.wrap (65+(Int.tmod f e))))]:QK))else none)
theorem dA{f j:Int}{e:QX}(h:cu f j=some e):
  Pure Tryz.prog 59 [.i64 f,.i64 j] (aL (bh false [⟨.str,e⟩])):=by
 refine PB Tryz.func59 (fun Bw w0=>?_);unfold cu at h;refine G (GC 2 h (fun h=>aw ?_));obtain rfl:=sI h;exact RI [.str]
def jd(u f:Int):Z4→Option (Z4⊕QX):=fun(e,j) =>
 (if(decide (j<u))=true then(if 0≤j then(if ¬(2:Int)=0 then(((if((Int.tmod (Int.fdiv f (2 ^ (min j.toNat u8.bits))) (2:Int)) == 1)=true then(if e.length+([32]:QX).length≤9223372036854775807 then((cu u j).bind fun p =>
 (if(e++([32]:QX)).length+p.length≤9223372036854775807 then some (((e++([32]:QX))++p))else none))else none)
 else some (e))).bind fun q=>some (Sum.inl (q,(i64.wrap (j+1)))))else none)else none)
 else some (Sum.inr e))
def bY(j e:Int):Option QX :=
 ((iter (jd j e) (([]:QX),0)).bind fun f=>some f)
theorem cX{v e:Int}{q:QX}(h:bY v e=some q):
  Pure Tryz.prog 58 [.i64 v,.u8 e] (aL (bh false [⟨.str,q⟩])):=by
 refine PB Tryz.func58 (fun Bw w0=>?_);unfold bY at h;refine G (G (ag (G (ak (cI h (fun(j,x)=>aA [(0,.i64 v),(1,.u8 e),(5,.st j),(6,.i64 x)] [] 0) 0 (fun p=>aA [(5,.st p)] [] 0) (gg [] []) (fun y o h=>?_) (fun p h=>?_))))))
 ·obtain⟨j,x⟩:=y;unfold jd at h;refine ag (G (aC h (fun E h=>?_) (fun E h=>?_)))
  ·refine ae (ab (ag (ak ?_)));obtain⟨z,A,h⟩:=g2 h;refine GN a0 [(2,2,oc z),(3,3,oc A)] (bB h (fun f=>aA [(0,.i64 v),(1,.u8 e),(5,.st f),(6,.i64 x)] [] 0) (fun f h=>?_) (fun f h=>?_))
   ·refine aC h (fun I h=>?_) (fun I h=>?_)
    ·obtain⟨B,h⟩:=aE h;obtain⟨J,C,h⟩:=aj h;obtain⟨D,h⟩:=aE h;have u:=(dA C);exact bC ⟨[],[(4,(oP u))]⟩ [(1,1,oc B),(4,4,oc u),(5,5,oc D)] (eN h (gg [] []))
    exact ae (eN h (gg [] []))
   refine ay (ab (Ge ?_));exact eB h (gg [] [])
  refine au (aP ?_);exact eX h (gg [] [])
 refine av (ab (G (aw ?_)));obtain rfl:=sI h;exact RI [.str]
def bq(f:QK)(e:Int):Option (Int×Int) :=
 (if(decide (e≥(f.length:Int)))=true then some (0,e)
 else(if 0≤(i64.wrap ((i64.wrap (e+1)) - 1))∧(i64.wrap ((i64.wrap (e+1)) - 1))<(f.length:Int)then some ((i64.wrap (f.getD ((i64.wrap ((i64.wrap (e+1)) - 1)).toNat) 0)),(i64.wrap (e+1)))else none))
theorem db{f:QK}{j:Int}{e:Int×Int}(h:bq f j=some e):
  jo Tryz.prog 139 [.adr 0 0 2 0] [(0,.box [.p false (.slice (.int .u8)) f,.i64 j])] (.i64 e.1) [(0,.box [.p false (.slice (.int .u8)) f,.i64 e.2])]:=by
 refine OB Tryz.func139 (fun Bw w0=>?_);unfold bq at h;refine G (ag (GD a0 [] (aC h (fun q h=>?_) (fun q h=>?_))))
 ·refine G (aw (ai ?_));obtain rfl:=sI h;exact RO [some (.int .i64)] [] [0] [(2,.i64 0)] [(0,.box [.p false (.slice (.int .u8)) f,.i64 j])] 1 1
 refine ae (ab (G ?_));obtain⟨u,h⟩:=aE h;refine GD a0 [(9,9,oc u)] (aw ?_);obtain rfl:=sI h;exact RO [some (.int .i64)] [] [0] [(2,.i64 (i64.wrap (f.getD ((i64.wrap ((i64.wrap (j+1)) - 1)).toNat) 0)))] [(0,.box [.p false (.slice (.int .u8)) f,.i64 (i64.wrap (j+1))])] 1 1
def dL(e:Int→Int→QK→Int→Option Z4)(q z:Int)(x:QK)(i2:Int):Option Z4 :=
 ((bq x i2).bind fun(f,j) =>
 (if(decide (z≤0))=true then((cu q f).bind fun X =>
 some (X,j))
 else(if ¬(12:Int)=0 then(if((Int.tmod f 12) == 4)=true then some (([46]:QX),j)
 else(if((Int.tmod f 12) == 5)=true then((bq x j).bind fun(Y,Z) =>
 ((bY q (u8.wrap Y)).bind fun B =>
 (if([91]:QX).length+B.length≤9223372036854775807 then(if(([91]:QX)++B).length+([93]:QX).length≤9223372036854775807 then some (((([91]:QX)++B)++([93]:QX)),Z)else none)else none)))
 else(if((Int.tmod f 12) == 6)=true then((bq x j).bind fun(a1,a2) =>
 ((bY q (u8.wrap a1)).bind fun C =>
 (if([91,94]:QX).length+C.length≤9223372036854775807 then(if(([91,94]:QX)++C).length+([93]:QX).length≤9223372036854775807 then some (((([91,94]:QX)++C)++([93]:QX)),a2)else none)else none)))
 else(if((Int.tmod f 12) == 7)=true then((e q (i64.wrap (z - 1)) x j).bind fun(D,a3) =>
 (if([40]:QX).length+D.length≤9223372036854775807 then(if(([40]:QX)++D).length+([41,42]:QX).length≤9223372036854775807 then some (((([40]:QX)++D)++([41,42]:QX)),a3)else none)else none))
 else(if((Int.tmod f 12) == 8)=true then((e q (i64.wrap (z - 1)) x j).bind fun(E,a4) =>
 (if([40]:QX).length+E.length≤9223372036854775807 then(if(([40]:QX)++E).length+([41,43]:QX).length≤9223372036854775807 then some (((([40]:QX)++E)++([41,43]:QX)),a4)else none)else none))
 else(if((Int.tmod f 12) == 9)=true then((e q (i64.wrap (z - 1)) x j).bind fun(I,J) =>
 (if([40]:QX).length+I.length≤9223372036854775807 then(if(([40]:QX)++I).length+([41,63]:QX).length≤9223372036854775807 then some (((([40]:QX)++I)++([41,63]:QX)),J)else none)else none))
 else(if((Int.tmod f 12) == 10)=true then((e q (i64.wrap (z - 1)) x j).bind fun(p,L) =>
 ((e q (i64.wrap (z - 1)) x L).bind fun(u,M) =>
 (if([40]:QX).length+p.length≤9223372036854775807 then(if(([40]:QX)++p).length+([124]:QX).length≤9223372036854775807 then(if((([40]:QX)++p)++([124]:QX)).length+u.length≤9223372036854775807 then(if(((([40]:QX)++p)++([124]:QX))++u).length+([41]:QX).length≤9223372036854775807 then some (((((([40]:QX)++p)++([124]:QX))++u)++([41]:QX)),M)else none)else none)else none)else none)))
 else(if((Int.tmod f 12) == 11)=true then((e q (i64.wrap (z - 1)) x j).bind fun(v,N) =>
 ((e q (i64.wrap (z - 1)) x N).bind fun(A,O) =>
 (if v.length+([32]:QX).length≤9223372036854775807 then(if(v++([32]:QX)).length+A.length≤9223372036854775807 then some (((v++([32]:QX))++A),O)else none)else none)))
 else((cu q f).bind fun V =>
 some (V,j))))))))))else none)))
def cH:Nat→Int→Int→QK→Int→Option Z4
 | 0=>fun _ _ _ _=>none
 | n+1=>dL (cH n)
theorem lE(f:Int→Int→QK→Int→Option Z4)(e:∀ {x z:Int} {j:QK} {A:Int} {q:QX×Int},f x z j A=some q→jo Tryz.prog 96 [.i64 x,.adr 0 0 2 0,.i64 z] [(0,.box [.p false (.slice (.int .u8)) j,.i64 A])] (.st q.1) [(0,.box [.p false (.slice (.int .u8)) j,.i64 q.2])]){x z:Int}{j:QK}{A:Int}{q:QX×Int}(h:dL f x z j A=some q):
  jo Tryz.prog 96 [.i64 x,.adr 0 0 2 0,.i64 z] [(0,.box [.p false (.slice (.int .u8)) j,.i64 A])] (.st q.1) [(0,.box [.p false (.slice (.int .u8)) j,.i64 q.2])]:=by
 refine OB Tryz.func96 (fun Bw w0=>?_);unfold dL at h;refine G ?_;obtain⟨⟨d5,v⟩,N,h⟩:=aj h;refine GO 1 [0] (db N) (ag (G (aC h (fun O h=>?_) (fun O h=>?_))))
 ·obtain⟨V,X,h⟩:=aj h;refine GP 2 (dA X) (aw (ai ?_));obtain rfl:=sI h;exact RO [some .str] [] [0] [(6,.st V)] [(0,.box [.p false (.slice (.int .u8)) j,.i64 v])] 1 1
 refine ae (ab (ag (GC 1 h (fun h=>ak (G (aC h (fun Y h=>?_) (fun Y h=>?_)))))))
 ·refine G (aw (az (ai ?_)));obtain rfl:=sI h;exact RO [some .str] [] [0] [(6,.st ([46]:QX))] [(0,.box [.p false (.slice (.int .u8)) j,.i64 v])] 1 1
 refine G (aC h (fun Z h=>?_) (fun Z h=>?_))
 ·obtain⟨⟨d6,a1⟩,a2,h⟩:=aj h;refine GO 1 [0] (db a2) ?_;obtain⟨a3,a4,h⟩:=aj h;obtain⟨a5,a6,h⟩:=g2 h;have u:=(cX a4);refine GN ⟨[],[(3,(oP u))]⟩ [(3,3,oc u),(4,4,oc a5),(5,5,oc a6)] (aw (az (ai ?_)));obtain rfl:=sI h;exact RO [some .str] [] [0] [(6,.st ((([91]:QX)++a3)++([93]:QX)))] [(0,.box [.p false (.slice (.int .u8)) j,.i64 a1])] 1 1
 refine G (aC h (fun a7 h=>?_) (fun a7 h=>?_))
 ·obtain⟨⟨d7,a8⟩,a9,h⟩:=aj h;refine GO 1 [0] (db a9) ?_;obtain⟨aa,ac,h⟩:=aj h;obtain⟨ad,ax,h⟩:=g2 h;have u:=(cX ac);refine GN ⟨[],[(3,(oP u))]⟩ [(3,3,oc u),(4,4,oc ad),(5,5,oc ax)] (aw (az (ai ?_)));obtain rfl:=sI h;exact RO [some .str] [] [0] [(6,.st ((([91,94]:QX)++aa)++([93]:QX)))] [(0,.box [.p false (.slice (.int .u8)) j,.i64 a8])] 1 1
 refine G (aC h (fun b1 h=>?_) (fun b1 h=>?_))
 ·obtain⟨⟨b2,b3⟩,b4,h⟩:=aj h;refine GO 4 [0] (e b4) ?_;obtain⟨b5,b6,h⟩:=g2 h;refine GN a0 [(1,1,oc b5),(2,2,oc b6)] (aw (az (ai ?_)));obtain rfl:=sI h;exact RO [some .str] [] [0] [(6,.st ((([40]:QX)++b2)++([41,42]:QX)))] [(0,.box [.p false (.slice (.int .u8)) j,.i64 b3])] 1 1
 refine G (aC h (fun b7 h=>?_) (fun b7 h=>?_))
 ·obtain⟨⟨b8,b9⟩,be,h⟩:=aj h;refine GO 4 [0] (e be) ?_;obtain⟨bi,bs,h⟩:=g2 h;refine GN a0 [(1,1,oc bi),(2,2,oc bs)] (aw (az (ai ?_)));obtain rfl:=sI h;exact RO [some .str] [] [0] [(6,.st ((([40]:QX)++b8)++([41,43]:QX)))] [(0,.box [.p false (.slice (.int .u8)) j,.i64 b9])] 1 1
 refine G (aC h (fun bv h=>?_) (fun bv h=>?_))
 ·obtain⟨⟨bx,B⟩,c1,h⟩:=aj h;refine GO 4 [0] (e c1) ?_;obtain⟨c2,c3,h⟩:=g2 h;refine GN a0 [(1,1,oc c2),(2,2,oc c3)] (aw (az (ai ?_)));obtain rfl:=sI h;exact RO [some .str] [] [0] [(6,.st ((([40]:QX)++bx)++([41,63]:QX)))] [(0,.box [.p false (.slice (.int .u8)) j,.i64 B])] 1 1
 refine G (aC h (fun c4 h=>?_) (fun c4 h=>?_))
 ·obtain⟨⟨C,d3⟩,c5,h⟩:=aj h;refine GO 4 [0] (e c5) ?_;obtain⟨⟨D,E⟩,c6,h⟩:=aj h;refine GO 4 [0] (e c6) ?_;obtain⟨c7,c8,c9,cc,h⟩:=g4 h;refine GN a0 [(1,1,oc c7),(2,2,oc c8),(4,4,oc c9),(5,5,oc cc)] (aw (az (ai ?_)));obtain rfl:=sI h;exact RO [some .str] [] [0] [(6,.st ((((([40]:QX)++C)++([124]:QX))++D)++([41]:QX)))] [(0,.box [.p false (.slice (.int .u8)) j,.i64 E])] 1 1
 refine G (aC h (fun ch h=>?_) (fun ch h=>?_))
 ·obtain⟨⟨I,d4⟩,cl,h⟩:=aj h;refine GO 4 [0] (e cl) ?_;obtain⟨⟨J,L⟩,cp,h⟩:=aj h;refine GO 4 [0] (e cp) ?_;obtain⟨cs,cx,h⟩:=g2 h;refine GN a0 [(1,1,oc cs),(3,3,oc cx)] (aw (az (ai ?_)));obtain rfl:=sI h;exact RO [some .str] [] [0] [(6,.st ((I++([32]:QX))++J))] [(0,.box [.p false (.slice (.int .u8)) j,.i64 L])] 1 1
 refine ae (ay (ab ?_));obtain⟨M,d2,h⟩:=aj h;refine GP 2 (dA d2) (aw ?_);obtain rfl:=sI h;exact RO [some .str] [] [0] [(6,.st M)] [(0,.box [.p false (.slice (.int .u8)) j,.i64 v])] 1 1
theorem iC:∀(n:Nat) {j q:Int} {f:QK} {u:Int} {e:QX×Int},cH n j q f u=some e→jo Tryz.prog 96 [.i64 j,.adr 0 0 2 0,.i64 q] [(0,.box [.p false (.slice (.int .u8)) f,.i64 u])] (.st e.1) [(0,.box [.p false (.slice (.int .u8)) f,.i64 e.2])]
 | 0,_,_,_,_,_,h=>by cases h
 | n+1,j,q,f,u,e,h=>lE (cH n) (iC n)  h
def eI(f:Int)(e:QK):Option QX :=
 (if((e.length:Int) == 0)=true then some ([]:QX)
 else(if 0≤(0:Int)∧0≤(min (e.length:Int) (30:Int))∧(min (e.length:Int) (30:Int))≤(e.length:Int)then((cH 1000 f 3 ((e.take (min (e.length:Int) (30:Int)).toNat).drop (0:Int).toNat) 0).bind fun(j,p) =>
 some j)else none))
theorem jQ{j:Int}{q:QK}{e:QX}(h:eI j q=some e):
  Pure Tryz.prog 60 [.i64 j,.p false (.slice (.int .u8)) q] (aL (bh false [⟨.str,e⟩])):=by
 refine PB Tryz.func60 (fun Bw w0=>?_);unfold eI at h;refine G (ag (G (aC h (fun u h=>?_) (fun u h=>?_))))
 ·refine G (aw (ai ?_));obtain rfl:=sI h;exact RI [.str]
 refine ae (ab ?_);obtain⟨v,h⟩:=aE h;obtain⟨⟨z,A⟩,x,h⟩:=aj h;have f:=(iC 1000 x);refine GN ⟨[],[(8,(oO f [88]))]⟩ [(5,5,oc v),(8,8,oc f)] (aw ?_);obtain rfl:=sI h;exact RI [.str]
def jL(p:QK)(q:Int):Z4→Option (Z4⊕QX):=fun(v6,f) =>
 (((if(decide (f<(p.length:Int)))=true then some ((decide (f<q)))
 else some (false))).bind fun u=>(if u=true then(if v6.length+([116,114,101,97,116,32]:QX).length≤9223372036854775807 then((cu q f).bind fun e =>
 (if(v6++([116,114,101,97,116,32]:QX)).length+e.length≤9223372036854775807 then(if((v6++([116,114,101,97,116,32]:QX))++e).length+([32,61,32]:QX).length≤9223372036854775807 then(if 0≤f∧f<(p.length:Int)then((cu q (i64.wrap (p.getD f.toNat 0))).bind fun j =>
 (if(((v6++([116,114,101,97,116,32]:QX))++e)++([32,61,32]:QX)).length+j.length≤9223372036854775807 then(if((((v6++([116,114,101,97,116,32]:QX))++e)++([32,61,32]:QX))++j).length+([59,10]:QX).length≤9223372036854775807 then some (Sum.inl ((((((v6++([116,114,101,97,116,32]:QX))++e)++([32,61,32]:QX))++j)++([59,10]:QX)),(i64.wrap (f+1))))else none)else none))else none)else none)else none))else none)
 else some (Sum.inr v6)))
def jG(f:List wI)(v:Int):Z4→Option (Z4⊕QX):=fun(j,e) =>
 (((if(decide (e<(f.length:Int)))=true then some ((decide (e<10)))
 else some (false))).bind fun u=>(if u=true then(if 0≤e∧e<(f.length:Int)then(if ¬(3:Int)=0 then(if 0≤(Int.tmod ((f.getD e.toNat (0,[],([]:QK))).1) (3:Int))∧(Int.tmod ((f.getD e.toNat (0,[],([]:QK))).1) (3:Int))<(([([107,101,101,112,32]:QX),([109,97,121,32]:QX),([109,117,115,116,32]:QX)]:QQ).length:Int)then(if(Int.tmod ((f.getD e.toNat (0,[],([]:QK))).1) (3:Int)).toNat<([([107,101,101,112,32]:QX),([109,97,121,32]:QX),([109,117,115,116,32]:QX)]:QQ).length then(if j.length+(([([107,101,101,112,32]:QX),([109,97,121,32]:QX),([109,117,115,116,32]:QX)]:QQ).getD ((Int.tmod ((f.getD e.toNat (0,[],([]:QK))).1) (3:Int)).toNat) ([]:QX)).length≤9223372036854775807 then(if 0≤e∧e<(f.length:Int)then((eI v ((f.getD e.toNat (0,[],([]:QK))).2.1)).bind fun p =>
 (if(j++(([([107,101,101,112,32]:QX),([109,97,121,32]:QX),([109,117,115,116,32]:QX)]:QQ).getD ((Int.tmod ((f.getD e.toNat (0,[],([]:QK))).1) (3:Int)).toNat) ([]:QX))).length+p.length≤9223372036854775807 then(if((j++(([([107,101,101,112,32]:QX),([109,97,121,32]:QX),([109,117,115,116,32]:QX)]:QQ).getD ((Int.tmod ((f.getD e.toNat (0,[],([]:QK))).1) (3:Int)).toNat) ([]:QX)))++p).length+([32,47,32]:QX).length≤9223372036854775807 then(if 0≤e∧e<(f.length:Int)then((eI v ((f.getD e.toNat (0,[],([]:QK))).2.2)).bind fun q =>
 (if(((j++(([([107,101,101,112,32]:QX),([109,97,121,32]:QX),([109,117,115,116,32]:QX)]:QQ).getD ((Int.tmod ((f.getD e.toNat (0,[],([]:QK))).1) (3:Int)).toNat) ([]:QX)))++p)++([32,47,32]:QX)).length+q.length≤9223372036854775807 then(if((((j++(([([107,101,101,112,32]:QX),([109,97,121,32]:QX),([109,117,115,116,32]:QX)]:QQ).getD ((Int.tmod ((f.getD e.toNat (0,[],([]:QK))).1) (3:Int)).toNat) ([]:QX)))++p)++([32,47,32]:QX))++q).length+([59,10]:QX).length≤9223372036854775807 then some (Sum.inl ((((((j++(([([107,101,101,112,32]:QX),([109,97,121,32]:QX),([109,117,115,116,32]:QX)]:QQ).getD ((Int.tmod ((f.getD e.toNat (0,[],([]:QK))).1) (3:Int)).toNat) ([]:QX)))++p)++([32,47,32]:QX))++q)++([59,10]:QX)),(i64.wrap (e+1))))else none)else none))else none)else none)else none))else none)else none)else none)else none)else none)else none)
 else some (Sum.inr j)))
def eK(B q v:Int)(z:QK)(A:List wI):Option QX :=
 ((bA B q v z A).bind fun p =>
 ((bY p 255).bind fun f =>
 (if([99,108,97,115,115]:QX).length+f.length≤9223372036854775807 then(if(([99,108,97,115,115]:QX)++f).length+([59,10]:QX).length≤9223372036854775807 then(((if(q != 0)=true then(if((([99,108,97,115,115]:QX)++f)++([59,10]:QX)).length+([106,111,105,110]:QX).length≤9223372036854775807 then((bY p q).bind fun e =>
 (if(((([99,108,97,115,115]:QX)++f)++([59,10]:QX))++([106,111,105,110]:QX)).length+e.length≤9223372036854775807 then(if((((([99,108,97,115,115]:QX)++f)++([59,10]:QX))++([106,111,105,110]:QX))++e).length+([32,47]:QX).length≤9223372036854775807 then((bY p v).bind fun j =>
 (if(((((([99,108,97,115,115]:QX)++f)++([59,10]:QX))++([106,111,105,110]:QX))++e)++([32,47]:QX)).length+j.length≤9223372036854775807 then(if((((((([99,108,97,115,115]:QX)++f)++([59,10]:QX))++([106,111,105,110]:QX))++e)++([32,47]:QX))++j).length+([59,10]:QX).length≤9223372036854775807 then some ((((((((([99,108,97,115,115]:QX)++f)++([59,10]:QX))++([106,111,105,110]:QX))++e)++([32,47]:QX))++j)++([59,10]:QX)))else none)else none))else none)else none))else none)
 else some (((([99,108,97,115,115]:QX)++f)++([59,10]:QX))))).bind fun v1=>((iter (jL z p) (v1,0)).bind fun C=>((iter (jG A p) (C,0)).bind fun u=>some u)))else none)else none)))
theorem jH(f:Bool){v x z:Int}{A:QK}{B:List wI}{J:QX}(h:eK v x z A B=some J):
  Pure Tryz.prog 30 [.agg [.u8 v,.u8 x,.u8 z,.p f (.slice (.int .u8)) A,.p false (.slice (.prod (.int .u8) Fv)) B]] (aL (bh false [⟨.str,J⟩])):=by
 refine PB Tryz.func30 (fun Bw w0=>?_);unfold eK at h;refine G ?_;obtain⟨I,q2,h⟩:=aj h;refine GP 1 (dV f false q2) ?_;obtain⟨r4,q4,h⟩:=aj h;obtain⟨c3,c4,h⟩:=g2 h;have e:=(cX q4);refine GN ⟨[],[(1,(oP e))]⟩ [(1,1,oc e),(2,2,oc c3),(3,3,oc c4)] (ag (G (bB h (fun v1=>aA [(1,.adr 0 0 5 0),(3,.i64 I),(4,.st v1)] (DU v x z f A B) 1) (fun v1 h=>?_) (fun v1 h=>?_))))
 ·refine aC h (fun B2 h=>?_) (fun B2 h=>?_)
  ·obtain⟨a5,h⟩:=aE h;obtain⟨bi,a6,h⟩:=aj h;obtain⟨a7,a8,h⟩:=g2 h;obtain⟨bs,a9,h⟩:=aj h;obtain⟨aa,ac,h⟩:=g2 h;have e:=(cX a6);have j:=(cX a9);exact nT ⟨[],[(5,(oP e)),(11,(oP j))]⟩ [(1,1,oc a5),(5,5,oc e),(6,6,oc a7),(7,7,oc a8),(11,11,oc j),(12,12,oc aa),(13,13,oc ac)] (eN h (gg [] [0]))
  exact ae (eN h (gg [] [0]))
 refine ab (ag (G (ak (cI h (fun(v6,v7)=>aA [(1,.adr 0 0 5 0),(3,.i64 I),(4,.st v6),(5,.i64 v7)] (DU v x z f A B) 1) 0 (fun v8=>aA [(1,.adr 0 0 5 0),(3,.i64 I),(4,.st v8)] (DU v x z f A B) 1) (gg [] [0]) (fun y o h=>?_) (fun v8 h=>?_)))))
 ·obtain⟨v6,v7⟩:=y;unfold jL at h;refine ag (ag (bB h (fun v9=>aA [(1,.adr 0 0 5 0),(3,.i64 I),(4,.st v6),(5,.i64 v7),(40,.bo v9)] (DU v x z f A B) 1) (fun v9 h=>?_) (fun v9 h=>?_)))
  ·rcases aM h with⟨q,h⟩ | ⟨q,h⟩
   ·exact bC ⟨[(5,true),(9,true)],[]⟩ [(6,8,an q),(9,9,oc q)] (eN h (gg [] [0]))
   exact bC ⟨[(5,false),(9,false)],[]⟩ [(6,9,oc q)] (eN h (gg [] [0]))
  refine ab (aC h (fun ad h=>?_) (fun ad h=>?_))
  ·refine ae (ab (ag (ak ?_)));obtain⟨ax,h⟩:=aE h;obtain⟨bv,b1,h⟩:=aj h;obtain⟨b2,b3,b4,h⟩:=g3 h;obtain⟨bx,b5,h⟩:=aj h;obtain⟨b6,b7,h⟩:=g2 h;have e:=(dA b1);have j:=(dA b5);refine nT ⟨[],[(4,(oP e)),(14,(oP j))]⟩ [(1,1,oc ax),(4,4,oc e),(5,5,oc b2),(6,6,oc b3),(11,11,oc b4),(14,14,oc j),(15,15,oc b6),(16,16,oc b7)] (ay (ab (Ge ?_)));exact eB h (gg [] [0])
  refine au (aP ?_);exact eX h (gg [] [0])
 refine av (ab (G (ag (G (ak (cI h (fun(C,D)=>aA [(1,.adr 0 0 5 0),(3,.i64 I),(4,.st C),(6,.sl 1),(7,.i64 D)] (Ji v x z f A B ([([107,101,101,112,32]:QX),([109,97,121,32]:QX),([109,117,115,116,32]:QX)]:QQ)) 2) 2 (fun L=>aA [(4,.st L)] [] 0) (gg [] [0,1]) (fun y o h=>?_) (fun L h=>?_)))))))
 ·obtain⟨C,D⟩:=y;unfold jG at h;refine ag (ag (bB h (fun E=>aA [(1,.adr 0 0 5 0),(3,.i64 I),(4,.st C),(6,.sl 1),(7,.i64 D),(69,.bo E)] (Ji v x z f A B ([([107,101,101,112,32]:QX),([109,97,121,32]:QX),([109,117,115,116,32]:QX)]:QQ)) 2) (fun E h=>?_) (fun E h=>?_)))
  ·rcases aM h with⟨u,h⟩ | ⟨u,h⟩
   ·exact bC ⟨[(5,true),(8,true)],[]⟩ [(6,7,an u),(8,8,oc u)] (eN h (gg [] [0,1]))
   exact bC ⟨[(5,false),(8,false)],[]⟩ [(6,8,oc u)] (eN h (gg [] [0,1]))
  refine ab (aC h (fun b8 h=>?_) (fun b8 h=>?_))
  ·refine ae (ab (ag (ak ?_)));obtain⟨M,N,O,V,h⟩:=g4 h;obtain⟨X,Y,h⟩:=g2 h;obtain⟨c1,b9,h⟩:=aj h;obtain⟨Z,a1,a2,h⟩:=g3 h;obtain⟨c2,be,h⟩:=aj h;obtain⟨a3,a4,h⟩:=g2 h;have e:=(jQ b9);have j:=(jQ be);refine nT ⟨[],[(19,(oP e)),(29,(oP j))]⟩ [(5,5,oc M),(8,8,oc N),(9,9,oc O),(10,10,oc V),(11,11,oc X),(16,16,oc Y),(19,19,oc e),(20,20,oc Z),(21,21,oc a1),(26,26,oc a2),(29,29,oc j),(30,30,oc a3),(31,31,oc a4)] (ay (ab (Ge ?_)));exact eB h (gg [] [0,1])
  refine au (aP ?_);exact eX h (gg [] [])
 refine av (ab (G (aw ?_)));obtain rfl:=sI h;exact RI [.str]
def fu(j:QK):Z4→Option (Z4⊕QX):=fun(e,f) =>
 (((if(decide (f<(j.length:Int)))=true then some ((decide (f<60)))
 else some (false))).bind fun p=>(if p=true then(if 0≤f∧f<(j.length:Int)then(if ¬(15:Int)=0 then(if 0≤(Int.tmod (i64.wrap (j.getD f.toNat 0)) (15:Int))∧(Int.tmod (i64.wrap (j.getD f.toNat 0)) (15:Int))<(([([97]:QX),([98]:QX),([99]:QX),([49]:QX),([50]:QX),([51]:QX),([32]:QX),([32]:QX),([97,49,98,32]:QX),([98,49,99,32]:QX),([50,99,32]:QX),([46,97,49]:QX),([99,46]:QX),([97,98,45,99,32]:QX),([99,97,45,98,45,97,32]:QX)]:QQ).length:Int)then(if(Int.tmod (i64.wrap (j.getD f.toNat 0)) (15:Int)).toNat<([([97]:QX),([98]:QX),([99]:QX),([49]:QX),([50]:QX),([51]:QX),([32]:QX),([32]:QX),([97,49,98,32]:QX),([98,49,99,32]:QX),([50,99,32]:QX),([46,97,49]:QX),([99,46]:QX),([97,98,45,99,32]:QX),([99,97,45,98,45,97,32]:QX)]:QQ).length then(if e.length+(([([97]:QX),([98]:QX),([99]:QX),([49]:QX),([50]:QX),([51]:QX),([32]:QX),([32]:QX),([97,49,98,32]:QX),([98,49,99,32]:QX),([50,99,32]:QX),([46,97,49]:QX),([99,46]:QX),([97,98,45,99,32]:QX),([99,97,45,98,45,97,32]:QX)]:QQ).getD ((Int.tmod (i64.wrap (j.getD f.toNat 0)) (15:Int)).toNat) []).length≤9223372036854775807 then some (Sum.inl ((e++(([([97]:QX),([98]:QX),([99]:QX),([49]:QX),([50]:QX),([51]:QX),([32]:QX),([32]:QX),([97,49,98,32]:QX),([98,49,99,32]:QX),([50,99,32]:QX),([46,97,49]:QX),([99,46]:QX),([97,98,45,99,32]:QX),([99,97,45,98,45,97,32]:QX)]:QQ).getD ((Int.tmod (i64.wrap (j.getD f.toNat 0)) (15:Int)).toNat) [])),(i64.wrap (f+1))))else none)else none)else none)else none)else none)
 else some (Sum.inr e)))
def eU(f:QK):Option QX :=
 ((iter (fu f) (([]:QX),0)).bind fun e=>some e)
theorem mL(q:Bool){v:QK}{u:QX}(h:eU v=some u):
  Pure Tryz.prog 31 [.p q (.slice (.int .u8)) v] (aL (bh false [⟨.str,u⟩])):=by
 refine PB Tryz.func31 (fun Bw w0=>?_);unfold eU at h;refine G (G (G (ag (G (ak (cI h (fun(e,x)=>aA [(0,.p q (.slice (.int .u8)) v),(3,.sl 0),(4,.st e),(5,.i64 x)] [(0,.arr 9 .str ([([97]:QX),([98]:QX),([99]:QX),([49]:QX),([50]:QX),([51]:QX),([32]:QX),([32]:QX),([97,49,98,32]:QX),([98,49,99,32]:QX),([50,99,32]:QX),([46,97,49]:QX),([99,46]:QX),([97,98,45,99,32]:QX),([99,97,45,98,45,97,32]:QX)]:QQ))] 1) 0 (fun j=>aA [(4,.st j)] [] 0) (gg [] [8]) (fun y o h=>?_) (fun j h=>?_)))))))
 ·obtain⟨e,x⟩:=y;unfold fu at h;refine ag (ag (bB h (fun z=>aA [(0,.p q (.slice (.int .u8)) v),(3,.sl 0),(4,.st e),(5,.i64 x),(14,.bo z)] [(0,.arr 9 .str ([([97]:QX),([98]:QX),([99]:QX),([49]:QX),([50]:QX),([51]:QX),([32]:QX),([32]:QX),([97,49,98,32]:QX),([98,49,99,32]:QX),([50,99,32]:QX),([46,97,49]:QX),([99,46]:QX),([97,98,45,99,32]:QX),([99,97,45,98,45,97,32]:QX)]:QQ))] 1) (fun z h=>?_) (fun z h=>?_)))
  ·rcases aM h with⟨f,h⟩ | ⟨f,h⟩
   ·exact bC ⟨[(4,true),(7,true)],[]⟩ [(5,6,an f),(7,7,oc f)] (eN h (gg [] [0]))
   exact bC ⟨[(4,false),(7,false)],[]⟩ [(5,7,oc f)] (eN h (gg [] [0]))
  refine ab (aC h (fun A h=>?_) (fun A h=>?_))
  ·refine ae (ab (ag (ak ?_)));obtain⟨B,C,D,E,h⟩:=g4 h;obtain⟨I,h⟩:=aE h;refine bC a0 [(4,4,oc B),(7,7,oc C),(8,8,oc D),(9,9,oc E),(10,10,oc I)] (ay (ab (Ge ?_)));exact eB h (gg [] [0])
  refine au (aP ?_);exact eX h (gg [] [])
 refine av (ab (G (aw ?_)));obtain rfl:=sI h;exact RI [.str]
def dE(I J L:Int)(M:QK)(N:List wI)(O V X:Int)(Y:QK)(e:List wI)(f j p q:QK)(u v:Int):Option (XK×XK×XK×XK×QX×QX×QX×Int×Int) :=
 ((bA I J L M N).bind fun Z =>
 ((cR f Z).bind fun x =>
 ((bA O V X Y e).bind fun z =>
 ((cR j z).bind fun A =>
 ((cR p 3).bind fun B =>
 ((eK I J L M N).bind fun C =>
 ((eK O V X Y e).bind fun D =>
 ((eU q).bind fun E =>
 (if ¬(3:Int)=0 then(if ¬(3:Int)=0 then some (x,A,B,([(65,90,97),(97,122,97),(233,233,101)]:XK),C,D,E,(i64.wrap (1+(i64.wrap (Int.tmod u 3)))),(i64.wrap (1+(i64.wrap (Int.tmod v 3)))))else none)else none)))))))))
theorem oB(u v e f j q:Bool){b1 b2 b3:Int}{b4:QK}{b5:List wI}{b6 b7 b8:Int}{b9:QK}{x:List wI}{z A B C:QK}{D E:Int}{I:XK×XK×XK×XK×QX×QX×QX×Int×Int}(h:dE b1 b2 b3 b4 b5 b6 b7 b8 b9 x z A B C D E=some I):
  Pure Tryz.prog 11 [.agg [.u8 b1,.u8 b2,.u8 b3,.p u (.slice (.int .u8)) b4,.p false (.slice (.prod (.int .u8) Fv)) b5,.u8 b6,.u8 b7,.u8 b8,.p v (.slice (.int .u8)) b9,.p false (.slice (.prod (.int .u8) Fv)) x,.p e (.slice (.int .u8)) z,.p f (.slice (.int .u8)) A,.p j (.slice (.int .u8)) B,.p q (.slice (.int .u8)) C,.u8 D,.u8 E]] (aL (bh false [⟨Y7,I⟩])):=by
 refine PB Tryz.func11 (fun Bw w0=>?_);unfold dE at h;refine G ?_;obtain⟨r9,q9,h⟩:=aj h;obtain⟨a7,Z,h⟩:=aj h;obtain⟨a8,a1,h⟩:=aj h;obtain⟨a9,a2,h⟩:=aj h;obtain⟨aa,a3,h⟩:=aj h;obtain⟨ac,a4,h⟩:=aj h;obtain⟨ad,a5,h⟩:=aj h;obtain⟨ax,a6,h⟩:=aj h;obtain⟨c3,c4,h⟩:=g2 h;have J:=(dV u false q9);have L:=(fH e Z);have M:=(dV v false a1);have N:=(fH f a2);have O:=(fH j a3);have V:=(jH u a4);have X:=(jH v a5);have Y:=(mL q a6);refine GD ⟨[],[(4,(oP J)),(5,(oP L)),(10,(oP M)),(11,(oP N)),(14,(oP O)),(21,(oP V)),(24,(oP X)),(27,(oP Y))]⟩ [(4,4,oc J),(5,5,oc L),(10,10,oc M),(11,11,oc N),(14,14,oc O),(21,21,oc V),(24,24,oc X),(27,27,oc Y),(30,30,oc c3),(35,35,oc c4)] (lF [.frzC 8 3] (by kernel_rfl) (aw ?_));obtain rfl:=sI h;exact RI [Y7]
def fJ  : Option QQ :=
 some ([([9]:QX),([10]:QX),([32]:QX),([45]:QX),([97]:QX),([98]:QX),([99]:QX),([195,169]:QX),([204,129]:QX),([226,128,141]:QX),([228,184,173]:QX),([240,159,152,128]:QX),([255]:QX),([240,159]:QX)]:QQ)
theorem nY{e:QQ}(h:fJ=some e):
  Pure Tryz.prog 35 [] (aL (bh false [⟨(.slice .str),e⟩])):=by
 refine PB Tryz.func35 (fun Bw w0=>?_);unfold fJ at h;refine G (G (aw ?_));obtain rfl:=sI h;exact RI [(.slice .str)]
def cW(j:QK):uE→Option (uE⊕QK):=fun(e,f) =>
 (if(decide (f<(j.length:Int)))=true then((fJ).bind fun p =>
 (if 0≤f∧f<(j.length:Int)then(if ¬(14:Int)=0 then(if 0≤(Int.tmod (i64.wrap (j.getD f.toNat 0)) (14:Int))∧(Int.tmod (i64.wrap (j.getD f.toNat 0)) (14:Int))<(p.length:Int)then(if e.length+(p.getD ((Int.tmod (i64.wrap (j.getD f.toNat 0)) (14:Int)).toNat) []).length≤140737488355328 then some (Sum.inl ((e++(bX (p.getD ((Int.tmod (i64.wrap (j.getD f.toNat 0)) (14:Int)).toNat) []))),(i64.wrap (f+1))))else none)else none)else none)else none))
 else some (Sum.inr e))
def dT(f:QK):Option QK :=
 ((iter (cW f) (([]:QK),0)).bind fun e=>some e)
theorem nX(j:Bool){v q:QK}(h:dT v=some q):
  Pure Tryz.prog 13 [.p j (.slice (.int .u8)) v] (aL (bh false [⟨(.slice (.int .u8)),q⟩])):=by
 refine PB Tryz.func13 (fun Bw w0=>?_);unfold dT at h;refine G (G (ag (G (ak (cI h (fun(e,C)=>aA [(0,.p j (.slice (.int .u8)) v),(3,.sl 0),(4,.i64 C)] [(0,.arr 5 (.int .u8) e)] 1) 0 (fun f=>aA [(3,.sl 0)] [(0,.arr 5 (.int .u8) f)] 1) (gg [.nilS 3 24 5 (.int .u8)] [24]) (fun y o h=>?_) (fun f h=>?_))))))
 ·obtain⟨e,C⟩:=y;unfold cW at h;refine ag (G (aC h (fun D h=>?_) (fun D h=>?_)))
  ·refine ae (ab (ag (ak ?_)));obtain⟨I,E,h⟩:=aj h;obtain⟨x,z,A,B,h⟩:=g4 h;have u:=(nY E);refine nT ⟨[],[(1,(oP u))]⟩ [(1,1,oc u),(4,4,oc x),(7,7,oc z),(8,8,oc A),(10,10,oc B)] (ay (ab (Ge ?_)));exact eB h (gg [] [113])
  refine au (aP ?_);exact eX h (gg [] [0])
 refine av (ab (G (aw ?_)));obtain rfl:=sI h;exact RI [(.slice (.int .u8))]
def dK(e f j p q:Int)(u:QJ):Option (Int×Int×Int×Int×Int×QJ) :=
 (if ¬(64:Int)=0 then(if ¬(2:Int)=0 then some ((i64.wrap (1+(i64.wrap e))),(i64.wrap (1+(i64.wrap (Int.tmod f 64)))),(Int.tmod j 2),(i64.wrap p),(i64.wrap q),u)else none)else none)
theorem nj{f j q u v:Int}{x:QJ}{e:Int×Int×Int×Int×Int×QJ}(h:dK f j q u v x=some e):
  Pure Tryz.prog 17 [.agg [.u8 f,.u8 j,.u8 q,.p false (.int .u16) u,.p false (.int .u16) v,.p false .flt x]] (aL (bh false [⟨Mg,e⟩])):=by
 refine PB Tryz.func17 (fun Bw w0=>?_);unfold dK at h;refine G ?_;obtain⟨z,A,h⟩:=g2 h;refine GN a0 [(6,6,oc z),(11,11,oc A)] (aw ?_);obtain rfl:=sI h;exact RI [Mg]
end
end Go.Proofs.YtflahpmlcfhpcaaGreatDoor.T
