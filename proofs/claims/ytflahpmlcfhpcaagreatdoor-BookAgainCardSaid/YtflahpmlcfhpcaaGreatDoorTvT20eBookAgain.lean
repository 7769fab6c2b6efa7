import Derived.Test.YtflahpmlcfhpcaaGreatDoorTvT20e0
import Derived.Test.YtflahpmlcfhpcaaGreatDoorTvT20eBookAgain1
import Derived.Test.YtflahpmlcfhpcaaGreatDoorTvT20eBookAgain3
namespace Go.Proofs.YtflahpmlcfhpcaaGreatDoor.T
open Go Go.Tv Go.Proofs
open Go.IntKind (i64 u8)
noncomputable section
set_option maxRecDepth 100000
set_option maxHeartbeats 4000000
def fP(j:Qj)(q p:Int):tW→Option (tW⊕QK):=fun(e,f) =>
 (if(decide (f<q))=true then(if 0≤f∧f<(j.length:Int)then(if 0≤(i64.wrap ((e.length:Int) - 1))∧(i64.wrap ((e.length:Int) - 1))<(e.length:Int)then(if(i64.wrap ((e.length:Int) - 1)).toNat<e.length then((jz ((j.getD f.toNat (0,0,0,0)).1) ((j.getD f.toNat (0,0,0,0)).2.1) ((j.getD f.toNat (0,0,0,0)).2.2.1) ((j.getD f.toNat (0,0,0,0)).2.2.2) (e.getD ((i64.wrap ((e.length:Int) - 1)).toNat) 0) p).bind fun u =>
 (if(e.length+([u]:QK).length)*8≤140737488355328∧e.length+([u]:QK).length≤9223372036854775807 then some (Sum.inl ((e++([u]:QK)),(i64.wrap (f+1))))else none))else none)else none)else none)
 else some (Sum.inr e))
def kx(q:Qj)(u:QK)(e p f:Int):Option QK :=
 ((iter (fP q p f) (([0]:QK),e)).bind fun j=>some j)
theorem uq(v x:Bool){B:Qj}{C:QK}{e u f:Int}{z:QK}(h:kx B C e u f=some z):
  Pure Tryz.prog 197 [.agg [.p v (.slice db) B,.p x (.slice (.int .u8)) C],.i64 e,.i64 u,.i64 f] (aM (bk false [⟨(.slice (.int .i64)),z⟩])):=by
 refine PB Tryz.func197 (fun Bw w0=>?_);unfold kx at h;refine G (G (af (G (ak (cH h (fun(j,L)=>aA [(2,.i64 u),(3,.i64 f),(4,.adr 0 0 2 0),(9,.sl 1),(10,.i64 L)] (L5 v B x C j) 2) 0 (fun q=>aA [(9,.sl 0)] [(0,.arr 3 (.int .i64) q)] 1) (gg [] [0,16]) (fun y o h=>?_) (fun q h=>?_))))))
 ·obtain⟨j,L⟩:=y;unfold fP at h;refine af (G (aC h (fun M h=>?_) (fun M h=>?_)))
  ·refine ae (ab (af (ak ?_)));obtain⟨D,E,I,h⟩:=g3 h;obtain⟨O,N,h⟩:=aj h;obtain⟨J,h⟩:=aE h;have A:=(nu N);refine mZ ⟨[],[(13,(oP A))]⟩ [(4,4,oc D),(10,10,oc E),(11,11,oc I),(13,13,oc A),(15,15,oc J)] (ay (ab (Ge ?_)));exact eB h (gg [] [0,146])
  refine au (aO ?_);exact eX h (gg [] [1])
 refine av (ab (G (aw ?_)));obtain rfl:=sI h;exact RI [(.slice (.int .i64))]
def nO(u:Qj)(v:QK)(e q j p:Int):Option (Int) :=
 ((fS u v e q).bind fun x =>
 ((kx u v e x p).bind fun f =>
 (if 0≤(i64.wrap ((f.length:Int) - 1))∧(i64.wrap ((f.length:Int) - 1))<(f.length:Int)then(((if(j == 3)=true then some ((i64.wrap ((f.getD ((i64.wrap ((f.length:Int) - 1)).toNat) 0)+1)))
 else some ((f.getD ((i64.wrap ((f.length:Int) - 1)).toNat) 0)))).bind fun z=>some z)else none)))
theorem xA(q u:Bool){C:Qj}{D:QK}{e v f j x:Int}(h:nO C D e v f j=some x):
  Pure Tryz.prog 182 [.agg [.p q (.slice db) C,.p u (.slice (.int .u8)) D],.i64 e,.i64 v,.u8 f,.i64 j] (aM (bk false [⟨(.int .i64),x⟩])):=by
 refine PB Tryz.func182 (fun Bw w0=>?_);unfold nO at h;refine G ?_;obtain⟨L,E,h⟩:=aj h;obtain⟨M,I,h⟩:=aj h;have z:=(ni q u E);have A:=(uq q u I);refine GD ⟨[],[(5,(oP z)),(7,(oP A))]⟩ [(5,5,oc z),(7,7,oc A)] (GC 4 h (fun h=>af (G (bn h (fun B=>aA [(12,.i64 B)] [] 0) (fun B h=>?_) (fun B h=>?_)))))
 ·refine aC h (fun J h=>?_) (fun J h=>?_)
  ·exact Ge (eN h (gg [] []))
  exact ae (eN h (gg [] []))
 refine ab (G (aw ?_));obtain rfl:=sI h;exact RI [(.int .i64)]
def jn(q:Qj)(u:QK)(e j f p:Int):Option Z2 :=
 ((nO q u e j f p).bind fun v =>
 some (e,j,v,f))
theorem na(q u:Bool){z:Qj}{A:QK}{e v f j:Int}{x:Int×Int×Int×Int}(h:jn z A e v f j=some x):
  Pure Tryz.prog 156 [.agg [.p q (.slice db) z,.p u (.slice (.int .u8)) A],.i64 e,.i64 v,.u8 f,.i64 j] (aM (bk false [⟨db,x⟩])):=by
 refine PB Tryz.func156 (fun Bw w0=>?_);unfold jn at h;refine G ?_;obtain⟨C,B,h⟩:=aj h;refine GP 7 (xA q u B) (aw ?_);obtain rfl:=sI h;exact RI [db]
def fT(u:Qj)(q:QK)(f v x z A B C:Int)(D:QJ):(Qq×Int)→Option ((Qq×Int)⊕Qq):=fun(j,e) =>
 (if(decide (e≥f))=true then(if 0≤(i64.wrap (e - f))∧(i64.wrap (e - f))<(j.length:Int)then(if(i64.wrap (e - f)).toNat<j.length then(((if(e == f)=true then some (true)
 else(if 0≤e∧e<(q.length:Int)then some (((q.getD e.toNat 0) != 0))else none))).bind fun v10=>(((if v10=true then((mR u q e f v (j.set ((i64.wrap (e - f)).toNat) (0,(-1:Int))) x z A B C D).bind fun p =>
 (if 0≤(i64.wrap (e - f))∧(i64.wrap (e - f))<((j.set ((i64.wrap (e - f)).toNat) (0,(-1:Int))).length:Int)then(if(i64.wrap (e - f)).toNat<(j.set ((i64.wrap (e - f)).toNat) (0,(-1:Int))).length then some (((j.set ((i64.wrap (e - f)).toNat) (0,(-1:Int))).set ((i64.wrap (e - f)).toNat) (p.1,p.2)))else none)else none))
 else some ((j.set ((i64.wrap (e - f)).toNat) (0,(-1:Int)))))).bind fun v11=>some (Sum.inl (v11,(i64.wrap (e - 1))))))else none)else none)
 else some (Sum.inr j))
def fX(v:Qj)(u:QK)(p x z:Int)(q:Qq):(Qj×Int)→Option ((Qj×Int)⊕Qj):=fun(j,f) =>
 (if(decide (f<x))=true then(if 0≤(i64.wrap (f - p))∧(i64.wrap (f - p))<(q.length:Int)then(if(i64.wrap (f - p)).toNat<q.length then(if 0≤(q.getD ((i64.wrap (f - p)).toNat) (0,0)).2∧(q.getD ((i64.wrap (f - p)).toNat) (0,0)).2<(u.length:Int)then((jn v u f ((q.getD ((i64.wrap (f - p)).toNat) (0,0)).2) (u.getD (((q.getD ((i64.wrap (f - p)).toNat) (0,0)).2).toNat) 0) z).bind fun e =>
 (if(j.length+([(e.1,e.2.1,e.2.2.1,e.2.2.2)]:Qj).length)*32≤140737488355328∧j.length+([(e.1,e.2.1,e.2.2.1,e.2.2.2)]:Qj).length≤9223372036854775807 then some (Sum.inl ((j++([(e.1,e.2.1,e.2.2.1,e.2.2.2)]:Qj)),(q.getD ((i64.wrap (f - p)).toNat) (0,0)).2))else none))else none)else none)else none)
 else some (Sum.inr j))
def lE(q:Qj)(u:QK)(e f z v A B C:Int)(D:QJ):Option (Qj×Bool) :=
 (if(decide (e≥f))=true then some (([]:Qj),true)
 else(if 0≤(i64.wrap ((i64.wrap (f - e))+1))∧(i64.wrap ((i64.wrap (f - e))+1))≤(i64.wrap ((i64.wrap (f - e))+1))∧16*(i64.wrap ((i64.wrap (f - e))+1))≤281474976710656∧(i64.wrap ((i64.wrap (f - e))+1))≤9223372036854775807 then((iter (fT q u e f z v A B C D) ((List.replicate (i64.wrap ((i64.wrap (f - e))+1)).toNat (0,0)),(i64.wrap (f - 1)))).bind fun j=>(if 0≤(0:Int)∧0<(j.length:Int)then(if(0:Int).toNat<j.length then(if(decide (((j.getD ((0:Int).toNat) (0,0)).2)<0))=true then some (([]:Qj),false)
 else((iter (fX q u e f v j) (([]:Qj),e)).bind fun p=>some (p,true)))else none)else none))else none))
theorem wP(e f:Bool){v:Qj}{x:QK}{u z A B C D E:Int}{I:QJ}{J:Qj×Bool}(h:lE v x u z A B C D E I=some J):
  Pure Tryz.prog 115 [.agg [.p e (.slice db) v,.p f (.slice (.int .u8)) x],.i64 u,.i64 z,.agg [.i64 A,.i64 B,.u8 C,.i64 D,.i64 E,.p false .flt I]] (aM (bk false [⟨(.slice db),J.1⟩,⟨.bool,J.2⟩])):=by
 refine PB Tryz.func115 (fun Bw w0=>?_);unfold lE at h;refine G (af (G (aC h (fun B1 h=>?_) (fun B1 h=>?_))))
 ·refine G (aw (ai ?_));obtain rfl:=sI h;exact RI [(.slice db),.bool]
 refine ae (ab (GC 4 h (fun h=>af (G (ak (cH h (fun(V,L)=>aA [(1,.i64 u),(2,.i64 z),(4,.adr 0 0 2 0),(7,.adr 1 0 6 0),(10,.sl 2),(11,.i64 L)] (H3 e v f x A B C D E I V) 3) 0 (fun X=>aA [(1,.i64 u),(2,.i64 z),(4,.adr 0 0 2 0),(7,.adr 1 0 6 0),(10,.sl 2)] (H3 e v f x A B C D E I X) 3) (gg [] [0,8,88]) (fun y o h=>?_) (fun X h=>?_)))))))
 ·obtain⟨V,L⟩:=y;unfold fT at h;refine af (G (aC h (fun Y h=>?_) (fun Y h=>?_)))
  ·refine ae (ab (af (ak ?_)));obtain⟨Z,a1,h⟩:=g2 h;refine GN a0 [(5,5,oc Z),(6,6,oc a1)] (af (bn h (fun v10=>aA [(1,.i64 u),(2,.i64 z),(4,.adr 0 0 2 0),(7,.adr 1 0 6 0),(10,.sl 2),(11,.i64 L),(46,.bo v10)] (H3 e v f x A B C D E I (V.set ((i64.wrap (L - u)).toNat) (0,(-1:Int)))) 3) (fun v10 h=>?_) (fun v10 h=>?_)))
   ·rcases aL h with⟨j,h⟩ | ⟨j,h⟩
    ·exact bu ⟨[(3,true),(10,true)],[]⟩ [(4,10,oc j)] (eN h (gg [] [0,1,2]))
    obtain⟨a2,h⟩:=aE h;exact bu ⟨[(3,false),(10,false)],[]⟩ [(4,6,an j),(7,7,oc (And.intro j a2)),(8,9,an j),(10,10,oc j)] (eN h (gg [] [0,1,2]))
   refine ab (bn h (fun v11=>aA [(1,.i64 u),(2,.i64 z),(4,.adr 0 0 2 0),(7,.adr 1 0 6 0),(10,.sl 2),(11,.i64 L)] (H3 e v f x A B C D E I v11) 3) (fun v11 h=>?_) (fun v11 h=>?_))
   ·refine aC h (fun a3 h=>?_) (fun a3 h=>?_)
    ·obtain⟨b3,a4,h⟩:=aj h;obtain⟨a5,a6,h⟩:=g2 h;have q:=(yD e f true a4);exact bu ⟨[],[(10,(oP q))]⟩ [(10,10,oc q),(11,11,oc a5),(12,12,oc a6)] (eN h (gg [] [0,1,2]))
    exact ae (eN h (gg [] [0,1,2]))
   refine ay (ab (Ge ?_));exact eB h (gg [] [0,1,2])
  refine au (aO ?_);exact eX h (gg [] [0,1,2])
 refine av (ab (af ?_));obtain⟨a7,a8,h⟩:=g2 h;refine GN a0 [(1,1,oc a7),(3,3,oc a8)] (aC h (fun a9 h=>?_) (fun a9 h=>?_))
 ·refine G (aw (ai ?_));obtain rfl:=sI h;exact RI [(.slice db),.bool]
 refine ae (ab (G (af (G (ak (cH h (fun(M,N)=>aA [(1,.i64 u),(2,.i64 z),(4,.adr 0 0 2 0),(7,.adr 1 0 6 0),(10,.sl 2),(12,.sl 3),(13,.i64 N)] (L0 e v f x A B C D E I X M) 4) 2 (fun O=>aA [(12,.sl 0)] [(0,.arr 197 db O)] 1) (gg [.nilS 12 67 197 db] [0,1,2,67]) (fun y o h=>?_) (fun O h=>?_)))))))
 ·obtain⟨M,N⟩:=y;unfold fX at h;refine af (G (aC h (fun aa h=>?_) (fun aa h=>?_)))
  ·refine ae (ab (ak ?_));obtain⟨ac,ad,h⟩:=g2 h;refine GN a0 [(4,4,oc ac),(6,6,oc ad)] ?_;obtain⟨ax,h⟩:=aE h;obtain⟨b4,b1,h⟩:=aj h;obtain⟨b2,h⟩:=aE h;have q:=(na e f b1);refine GD ⟨[],[(11,(oP q))]⟩ [(7,7,oc ax),(11,11,oc q),(13,13,oc b2)] (Ge (ay ?_));exact eB h (gg [] [0,1,2,196])
  refine au (aO ?_);exact eX h (gg [] [3])
 refine av (ab (G (aw ?_)));obtain rfl:=sI h;exact RI [(.slice db),.bool]
def gO(f:Qj)(D:QK)(I E J:Int):(Int×Int×Int×Int×Int)→Option ((Int×Int×Int×Int×Int)⊕(Int×Int)):=fun(j,v20,u,v,e) =>
 (if(decide (e≤I))=true then(if 0≤(i64.wrap (e - 1))∧(i64.wrap (e - 1))<(f.length:Int)then((jz ((f.getD ((i64.wrap (e - 1)).toNat) (0,0,0,0)).1) ((f.getD ((i64.wrap (e - 1)).toNat) (0,0,0,0)).2.1) ((f.getD ((i64.wrap (e - 1)).toNat) (0,0,0,0)).2.2.1) ((f.getD ((i64.wrap (e - 1)).toNat) (0,0,0,0)).2.2.2) u J).bind fun q =>
 ((fS f D (i64.wrap (e - 1)) e).bind fun x =>
 (((if(x == e)=true then some (q)
 else some (v))).bind fun p=>(if(decide (p > E))=true then some (Sum.inr (j,v20))
 else((kQ f D e).bind fun(z,A) =>
 (((if A=true then(if(z != 3)=true then some (true)
 else some ((decide (p<E))))
 else some (false))).bind fun B=>(((if B=true then some (e)
 else some (j))).bind fun C=>some (Sum.inl (C,e,q,p,(i64.wrap (e+1)))))))))))else none)
 else some (Sum.inr (j,v20)))
def mE(x:Qj)(j:QK)(v u C z D E I:Int)(J:QJ):Option Z2 :=
 ((iter (gO x j u C z) ((-1:Int),(i64.wrap (v+1)),0,0,(i64.wrap (v+1)))).bind fun(f,e)=>(if(decide (f≥0))=true then(if 0≤f∧f<(j.length:Int)then((jn x j v f (j.getD f.toNat 0) z).bind fun p =>
 some (p.1,p.2.1,p.2.2.1,p.2.2.2))else none)
 else(((if(e == u)=true then(if 0≤u∧u<(j.length:Int)then some ((j.getD u.toNat 0))else none)
 else some (4))).bind fun A=>(((if(decide (e<u))=true then(if 0≤e∧e<(j.length:Int)then some (((j.getD e.toNat 0) == 1))else none)
 else some (false))).bind fun v30=>(((if v30=true then some (1)
 else some (A))).bind fun B=>((jn x j v e B z).bind fun q =>
 some (q.1,q.2.1,q.2.2.1,q.2.2.2)))))))
theorem yJ(e f:Bool){A:Qj}{B:QK}{C V D E I J L:Int}{M:QJ}{a2:Int×Int×Int×Int}(h:mE A B C V D E I J L M=some a2):
  Pure Tryz.prog 157 [.agg [.p e (.slice db) A,.p f (.slice (.int .u8)) B],.i64 C,.i64 V,.agg [.i64 D,.i64 E,.u8 I,.i64 J,.i64 L,.p false .flt M]] (aM (bk false [⟨db,a2⟩])):=by
 refine PB Tryz.func157 (fun Bw w0=>?_);unfold mE at h;refine G (G (G (af (G (ak (cH h (fun(N,v20,a3,a4,q)=>aA [(1,.i64 C),(2,.i64 V),(4,.adr 0 0 2 0),(7,.adr 1 0 6 0),(8,.adr 2 0 4 0),(9,.i64 N),(10,.i64 v20),(11,.i64 a3),(12,.i64 a4),(13,.i64 q)] (tg e A f B D E I J L M 0 (0:Int) (0:Int) (0:Int)) 3) 0 (fun(a5,v)=>aA [(1,.i64 C),(2,.i64 V),(4,.adr 0 0 2 0),(7,.adr 1 0 6 0),(8,.adr 2 0 4 0),(9,.i64 a5),(10,.i64 v)] (tg e A f B D E I J L M 0 (0:Int) (0:Int) (0:Int)) 3) (gg [] [0,8,16]) (fun y o h=>?_) (fun a7 h=>?_)))))))
 ·obtain⟨N,v20,a3,a4,q⟩:=y;unfold gO at h;refine af (G (aC h (fun a8 h=>?_) (fun a8 h=>?_)))
  ·refine ae (ab (af (ak (GC 4 h (fun h=>af ?_)))));obtain⟨X,a9,h⟩:=aj h;refine GP 4 (nu a9) ?_;obtain⟨b9,aa,h⟩:=aj h;refine GP 4 (ni e f aa) (bn h (fun x=>aA [(1,.i64 C),(2,.i64 V),(4,.adr 0 0 2 0),(7,.adr 1 0 6 0),(8,.adr 2 0 4 0),(9,.i64 N),(10,.i64 v20),(11,.i64 X),(12,.i64 x),(13,.i64 q)] (tg e A f B D E I J L M 0 (0:Int) (0:Int) (0:Int)) 3) (fun x h=>?_) (fun x h=>?_))
   ·refine aC h (fun ac h=>?_) (fun ac h=>?_)
    ·exact Ge (eN h (gg [] [0,1,2]))
    exact ae (eN h (gg [] [0,1,2]))
   refine ab (af (G (aC h (fun ad h=>?_) (fun ad h=>?_))))
   ·refine au (aO (jv rfl (aO ?_)));exact eX h (gg [] [0,1,2])
   refine ae (ab (G ?_));obtain⟨⟨be,bi⟩,ax,h⟩:=aj h;refine GP 2 (qD e f ax) (af (bn h (fun Y=>aA [(1,.i64 C),(2,.i64 V),(4,.adr 0 0 2 0),(7,.adr 1 0 6 0),(8,.adr 2 0 4 0),(9,.i64 N),(10,.i64 q),(11,.i64 X),(12,.i64 x),(13,.i64 q),(67,.bo Y)] (tg e A f B D E I J L M 0 (0:Int) (0:Int) (0:Int)) 3) (fun Y h=>?_) (fun Y h=>?_)))
   ·rcases aL h with⟨j,h⟩ | ⟨j,h⟩
    ·rcases aL h with⟨z,h⟩ | ⟨z,h⟩
     ·exact bu ⟨[(1,true),(4,true),(9,true),(10,true)],[]⟩ [(2,4,an j),(5,8,oc z),(9,9,oc (And.intro j z)),(10,10,oc j)] (eN h (gg [] [0,1,2]))
     exact bu ⟨[(1,true),(4,false),(9,false),(10,true)],[]⟩ [(2,4,an j),(5,8,an z),(9,9,oc (And.intro j z)),(10,10,oc j)] (eN h (gg [] [0,1,2]))
    exact bu ⟨[(1,false),(10,false)],[]⟩ [(2,4,oc j),(9,10,oc j)] (eN h (gg [] [0,1,2]))
   refine ab (bn h (fun Z=>aA [(1,.i64 C),(2,.i64 V),(4,.adr 0 0 2 0),(7,.adr 1 0 6 0),(8,.adr 2 0 4 0),(9,.i64 Z),(10,.i64 q),(11,.i64 X),(12,.i64 x),(13,.i64 q)] (tg e A f B D E I J L M 0 (0:Int) (0:Int) (0:Int)) 3) (fun Z h=>?_) (fun Z h=>?_))
   ·refine aC h (fun b1 h=>?_) (fun b1 h=>?_)
    ·exact Ge (eN h (gg [] [0,1,2]))
    exact ae (eN h (gg [] [0,1,2]))
   refine ay (ab (Ge ?_));exact eB h (gg [] [0,1,2])
  refine au (aO ?_);exact eX h (gg [] [0,1,2])
 obtain⟨a5,v⟩:=a7;refine av (ab (af (G (aC h (fun b2 h=>?_) (fun b2 h=>?_)))))
 ·obtain⟨b3,h⟩:=aE h;obtain⟨bs,b4,h⟩:=aj h;have a6:=(na e f b4);refine GD ⟨[],[(10,(oP a6))]⟩ [(6,6,oc b3),(10,10,oc a6)] (aw (ai ?_));obtain rfl:=sI h;exact RI [db]
 refine ae (ab (G (af (G (bn h (fun O=>aA [(1,.i64 C),(2,.i64 V),(4,.adr 0 0 2 0),(7,.adr 1 0 6 0),(8,.adr 2 0 4 0),(10,.i64 v),(17,.u8 O)] (tg e A f B D E I J L M 0 (0:Int) (0:Int) (0:Int)) 3) (fun O h=>?_) (fun O h=>?_))))))
 ·refine aC h (fun b5 h=>?_) (fun b5 h=>?_)
  ·refine zB 3 h (fun h=>?_);exact eN h (gg [] [0,1,2])
  exact ae (eN h (gg [] [0,1,2]))
 refine ab (af (af (bn h (fun v30=>aA [(1,.i64 C),(4,.adr 0 0 2 0),(7,.adr 1 0 6 0),(8,.adr 2 0 4 0),(10,.i64 v),(17,.u8 O),(100,.bo v30)] (tg e A f B D E I J L M 0 (0:Int) (0:Int) (0:Int)) 3) (fun v30 h=>?_) (fun v30 h=>?_))))
 ·rcases aL h with⟨u,h⟩ | ⟨u,h⟩
  ·obtain⟨b6,h⟩:=aE h;exact bu ⟨[(3,true),(10,true)],[]⟩ [(4,6,an u),(7,7,oc (And.intro u b6)),(8,9,an u),(10,10,oc u)] (eN h (gg [] [0,1,2]))
  exact bu ⟨[(3,false),(10,false)],[]⟩ [(4,10,oc u)] (eN h (gg [] [0,1,2]))
 refine ab (bn h (fun a1=>aA [(1,.i64 C),(4,.adr 0 0 2 0),(7,.adr 1 0 6 0),(8,.adr 2 0 4 0),(10,.i64 v),(17,.u8 a1)] (tg e A f B D E I J L M 0 (0:Int) (0:Int) (0:Int)) 3) (fun a1 h=>?_) (fun a1 h=>?_))
 ·refine aC h (fun b7 h=>?_) (fun b7 h=>?_)
  ·exact Ge (eN h (gg [] [0,1,2]))
  exact ae (eN h (gg [] [0,1,2]))
 refine ab ?_;obtain⟨bv,b8,h⟩:=aj h;refine GP 6 (na e f b8) (aw ?_);obtain rfl:=sI h;exact RI [db]
def fq(q:Qj)(u:QK)(p v x z A B:Int)(C:QJ):(Int×Qj)→Option ((Int×Qj)⊕Qj):=fun(j,e) =>
 (if(decide (j<p))=true then((mE q u j p v x z A B C).bind fun f =>
 (if(e.length+([(f.1,f.2.1,f.2.2.1,f.2.2.2)]:Qj).length)*32≤140737488355328∧e.length+([(f.1,f.2.1,f.2.2.1,f.2.2.2)]:Qj).length≤9223372036854775807 then some (Sum.inl (f.2.1,(e++([(f.1,f.2.1,f.2.2.1,f.2.2.2)]:Qj))))else none))
 else some (Sum.inr e))
def jH(p:Qj)(q:QK)(e j u v x z A:Int)(B:QJ):Option Qj :=
 ((iter (fq p q j u v x z A B) (e,([]:Qj))).bind fun f=>some f)
theorem vM(u v:Bool){A:Qj}{B:QK}{e x C D E I J:Int}{L:QJ}{z:Qj}(h:jH A B e x C D E I J L=some z):
  Pure Tryz.prog 116 [.agg [.p u (.slice db) A,.p v (.slice (.int .u8)) B],.i64 e,.i64 x,.agg [.i64 C,.i64 D,.u8 E,.i64 I,.i64 J,.p false .flt L]] (aM (bk false [⟨(.slice db),z⟩])):=by
 refine PB Tryz.func116 (fun Bw w0=>?_);unfold jH at h;refine G (G (af (ak (cH h (fun(f,j)=>aA [(1,.i64 f),(2,.i64 x),(4,.adr 0 0 2 0),(7,.adr 1 0 6 0),(9,.sl 2)] (GB u A v B C D E I J L j) 3) 0 (fun q=>aA [(9,.sl 0)] [(0,.arr 197 db q)] 1) (gg [.nilS 9 32 197 db] [0,8,32]) (fun y o h=>?_) (fun q h=>?_)))))
 ·obtain⟨f,j⟩:=y;unfold fq at h;refine af (G (aC h (fun M h=>?_) (fun M h=>?_)))
  ·refine ae (ab (ak ?_));obtain⟨O,N,h⟩:=aj h;refine GP 4 (yJ u v N) (GC 3 h (fun h=>Ge (ay ?_)));exact eB h (gg [] [0,1,107])
  refine au (aO ?_);exact eX h (gg [] [2])
 refine av (ab (G (aw ?_)));obtain rfl:=sI h;exact RI [(.slice db)]
def jr(v:Qj)(x:QK)(e f z A j B C:Int)(D:QJ):Option (Qj×Bool) :=
 (((if(j == 1)=true then((lE v x e f z A j B C D).bind fun(E,p) =>
 (if p=true then some ((Sum.inr (E,false)))
 else some ((Sum.inl ()))))
 else some ((Sum.inl ())))).bind fun(q:((Unit)⊕(Qj×Bool)))=>match q with
 | .inl _=>((jH v x e f z A j B C D).bind fun u =>
 some (u,(j == 1)))
 | .inr ((I,J))=>some (I,J))
theorem wL(j q:Bool){A:Qj}{B:QK}{f u C D E I J:Int}{L:QJ}{v:Qj×Bool}(h:jr A B f u C D E I J L=some v):
  Pure Tryz.prog 81 [.agg [.p j (.slice db) A,.p q (.slice (.int .u8)) B],.i64 f,.i64 u,.agg [.i64 C,.i64 D,.u8 E,.i64 I,.i64 J,.p false .flt L]] (aM (bk false [⟨(.slice db),v.1⟩,⟨.bool,v.2⟩])):=by
 refine PB Tryz.func81 (fun Bw w0=>?_);unfold jr at h;refine G (af (G (CQ h (dc (nV Tryz.f81.ntmps (fun _=>aA [(1,.i64 f),(2,.i64 u),(4,.adr 0 0 2 0),(7,.adr 1 0 6 0)] (KE j A q B C D E I J L) 2)) (fQ tb Tryz.f81.results.toList (fun(N,O)=>[⟨(.slice db),N⟩,⟨.bool,O⟩]))) (fun x h=>?_) (fun x h e σ' V=>?_))))
 ·refine aC h (fun X h=>?_) (fun X h=>?_)
  ·obtain⟨⟨r9,Y⟩,Z,h⟩:=aj h;refine GP 4 (wP j q Z) (G (aC h (fun B4 h=>?_) (fun B4 h=>?_)))
   ·refine G (aw ?_);obtain rfl:=sI h;exact aK (bH (RI [(.slice db),.bool]))
   refine ae ?_;obtain rfl:=sI h;exact bf (cU (gg [] [0,8]))
  refine ae ?_;obtain rfl:=sI h;exact bf (cU (gg [] [0,8]))
 rcases x with _ | ⟨N,O⟩
 ·obtain⟨rfl,M⟩:=V;refine cz ?_ M;refine ab ?_;obtain⟨a1,q6,h⟩:=aj h;have z:=(vM j q q6);refine GD ⟨[],[(4,(oP z))]⟩ [(4,4,oc z)] (aw ?_);obtain rfl:=sI h;exact RI [(.slice db),.bool]
 obtain⟨rfl,hr⟩:=V;refine ai ?_;obtain rfl:=sI h;exact hr
def gA(z:Qj)(A:QK)(B C D E I:Int)(J:QJ)(v:QK):(Qj×Bool×Int×Int)→Option ((Qj×Bool×Int×Int)⊕(Qj×Bool)):=fun(e,f,p,u) =>
 (if(decide (u<(v.length:Int)))=true then(if 0≤u∧u<(v.length:Int)then((jr z A p (v.getD u.toNat 0) B C D E I J).bind fun(q,x) =>
 (((if(e.length+q.length)*32≤140737488355328∧e.length+q.length≤9223372036854775807 then(if f=true then some (true)
 else some (x))else none)).bind fun j=>some (Sum.inl ((e++q),j,(v.getD u.toNat 0),(i64.wrap (u+1))))))else none)
 else some (Sum.inr (e,f)))
def gu(j:Qj)(p:QK)(q u v x z:Int)(A:QJ):Option (Qj×Bool) :=
 ((lZ j p).bind fun B =>
 ((iter (gA j p q u v x z A B) (([]:Qj),false,0,0)).bind fun(f,e)=>some (f,e)))
theorem vC(q u:Bool){D:Qj}{E:QK}{I J L M N:Int}{O:QJ}{A:Qj×Bool}(h:gu D E I J L M N O=some A):
  Pure Tryz.prog 47 [.agg [.p q (.slice db) D,.p u (.slice (.int .u8)) E],.agg [.i64 I,.i64 J,.u8 L,.i64 M,.i64 N,.p false .flt O]] (aM (bk false [⟨(.slice db),A.1⟩,⟨.bool,A.2⟩])):=by
 refine PB Tryz.func47 (fun Bw w0=>?_);unfold gu at h;refine G (G (G (G (af ?_))));obtain⟨B,q2,h⟩:=aj h;refine GP 1 (vL q u q2) (ak (cH h (fun(v,f,x,V)=>aA [(2,.adr 0 0 2 0),(3,.adr 1 0 6 0),(6,.sl 2),(7,.bo f),(8,.i64 x),(14,.p false (.slice (.int .i64)) B),(15,.i64 (B.length:Int)),(16,.i64 V)] (GB q D u E I J L M N O v) 3) 0 (fun(z,j)=>aA [(6,.sl 0),(7,.bo j)] [(0,.arr 197 db z)] 1) (gg [.nilS 6 88 197 db] [0,8,88]) (fun y o h=>?_) (fun Y h=>?_)))
 ·obtain⟨v,f,x,V⟩:=y;unfold gA at h;refine G (af (aC h (fun B6 h=>?_) (fun B6 h=>?_)))
  ·refine ae (ab (af (ak (GC 0 h (fun h=>?_)))));obtain⟨⟨Z,a1⟩,q8,h⟩:=aj h;refine GP 4 (wL q u q8) (af (bn h (fun e=>aA [(2,.adr 0 0 2 0),(3,.adr 1 0 6 0),(6,.sl 2),(7,.bo e),(10,.i64 (B.getD V.toNat 0)),(14,.p false (.slice (.int .i64)) B),(15,.i64 (B.length:Int)),(16,.i64 V)] (GB q D u E I J L M N O (v++Z)) 3) (fun e h=>?_) (fun e h=>?_)))
   ·obtain⟨C,h⟩:=aE h;rcases aL h with⟨X,h⟩ | ⟨X,h⟩
    ·exact bu ⟨[(4,true),(6,true)],[]⟩ [(2,2,oc C),(5,6,oc X)] (eN h (gg [] [0,1,131]))
    exact bu ⟨[(4,false),(6,false)],[]⟩ [(2,2,oc C),(5,5,an X),(6,6,oc X)] (eN h (gg [] [0,1,131]))
   refine ab (Ge (ay (ab (Ge ?_))));exact eB h (gg [] [0,1,2])
  refine au (aO ?_);exact eX h (gg [] [2])
 obtain⟨z,j⟩:=Y;refine av (ab (G (aw ?_)));obtain rfl:=sI h;exact RI [(.slice db),.bool]
def ie(j e:Qj):(Qj×Int)→Option ((Qj×Int)⊕Qj):=fun(f,v4) =>
 (if(decide (v4<(e.length:Int)))=true then(if 0≤v4∧v4<(e.length:Int)then(if 0≤(i64.wrap (((e.getD v4.toNat (0,0,0,0)).2.1) - 1))∧(i64.wrap (((e.getD v4.toNat (0,0,0,0)).2.1) - 1))<(j.length:Int)then(if 0≤(e.getD v4.toNat (0,0,0,0)).1∧(e.getD v4.toNat (0,0,0,0)).1<(j.length:Int)then(if(f.length+([((j.getD (((e.getD v4.toNat (0,0,0,0)).1).toNat) (0,0,0,0)).1,(i64.wrap (((j.getD ((i64.wrap (((e.getD v4.toNat (0,0,0,0)).2.1) - 1)).toNat) (0,0,0,0)).1)+((j.getD ((i64.wrap (((e.getD v4.toNat (0,0,0,0)).2.1) - 1)).toNat) (0,0,0,0)).2.1))),(e.getD v4.toNat (0,0,0,0)).2.2.1,(e.getD v4.toNat (0,0,0,0)).2.2.2)]:Qj).length)*32≤140737488355328∧f.length+([((j.getD (((e.getD v4.toNat (0,0,0,0)).1).toNat) (0,0,0,0)).1,(i64.wrap (((j.getD ((i64.wrap (((e.getD v4.toNat (0,0,0,0)).2.1) - 1)).toNat) (0,0,0,0)).1)+((j.getD ((i64.wrap (((e.getD v4.toNat (0,0,0,0)).2.1) - 1)).toNat) (0,0,0,0)).2.1))),(e.getD v4.toNat (0,0,0,0)).2.2.1,(e.getD v4.toNat (0,0,0,0)).2.2.2)]:Qj).length≤9223372036854775807 then some (Sum.inl ((f++([((j.getD (((e.getD v4.toNat (0,0,0,0)).1).toNat) (0,0,0,0)).1,(i64.wrap (((j.getD ((i64.wrap (((e.getD v4.toNat (0,0,0,0)).2.1) - 1)).toNat) (0,0,0,0)).1)+((j.getD ((i64.wrap (((e.getD v4.toNat (0,0,0,0)).2.1) - 1)).toNat) (0,0,0,0)).2.1))),(e.getD v4.toNat (0,0,0,0)).2.2.1,(e.getD v4.toNat (0,0,0,0)).2.2.2)]:Qj)),(i64.wrap (v4+1))))else none)else none)else none)else none)
 else some (Sum.inr f))
def lv(j:Qj)(p:QK)(f:Qj):Option Qj :=
 (if((f.length:Int) == 0)=true then some ([(0,0,0,2)]:Qj)
 else((iter (ie j f) (([]:Qj),0)).bind fun e=>some e))
theorem xq(j q u:Bool){z:Qj}{A:QK}{x v:Qj}(h:lv z A x=some v):
  hY Tryz.prog 48 [.agg [.p j (.slice db) z,.p q (.slice (.int .u8)) A],.p u (.slice db) x] [] (.sl 0) [(0,.arr 93 db v)]:=by
 refine OB Tryz.func48 (fun Bw w0=>?_);unfold lv at h;refine G (af (G (aC h (fun D h=>?_) (fun D h=>?_))))
 ·refine G (aw (ai ?_));obtain rfl:=sI h;exact RO [none] [] [48] [(4,.sl 0)] [(0,.arr 93 db ([(0,0,0,2)]:Qj))] 1 0
 refine ae (ab (G (af (G (ak (cH h (fun(f,v4)=>aA [(2,.adr 0 0 2 0),(5,.sl 1),(14,.p u (.slice db) x),(15,.i64 (x.length:Int)),(16,.i64 v4)] (KF j z q A f) 2) 0 (fun e=>aA [(5,.sl 0)] [(0,.arr 93 db e)] 1) (gg [.nilS 5 72 93 db] [0,72]) (fun y o h=>?_) (fun e h=>?_)))))))
 ·obtain⟨f,v4⟩:=y;unfold ie at h;refine G (af (aC h (fun E h=>?_) (fun E h=>?_)))
  ·refine ae (ab (af (ak (GC 0 h (fun h=>GC 5 h (fun h=>?_))))));obtain⟨B,C,h⟩:=g2 h;refine mZ a0 [(5,5,oc B),(19,19,oc C)] (ay (ab (Ge ?_)));exact eB h (gg [] [0,266])
  refine au (aO ?_);exact eX h (gg [] [1])
 refine av (ab (G (aw ?_)));obtain rfl:=sI h;exact RO [none] [] [0] [(4,.sl 0)] [(0,.arr 93 db e)] 1 0
def cy(L:Option Z1)(e:QK)(A B C D E:Int)(I:QJ):Option (((Int×Bool)⊕(Int×Qj×Bool))) :=
 ((iy A B C D E I).bind fun f =>
 (if(!f)=true then some (Sum.inl (40,false))
 else((((aZ L e).bind fun(M:((Int)⊕(Int×Qj×QK)))=>match M with
 | .inl j=>some ((([]:Qj),([]:QK),j))
 | .inr (p,q,u)=>some ((q,u,p)))).bind fun(p3,p4,J)=>(if(J != 0)=true then some (Sum.inl (J,false))
 else((gu p3 p4 A B C D E I).bind fun(v,x) =>
 ((lv p3 p4 v).bind fun z =>
 some (Sum.inr (0,z,x))))))))
theorem cN(f:Bool){X:Option Z1}{e:QK}{z A B C D:Int}{E:QJ}{j:((Int×Bool)⊕(Int×Qj×Bool))}(h:cy X e z A B C D E=some j):
  hY Tryz.prog 18 [.p false (.ptr tf) X,.p f (.slice (.int .u8)) e,.agg [.i64 z,.i64 A,.u8 B,.i64 C,.i64 D,.p false .flt E]] [] (DS (fun((q,u):Int×Bool)=>(.tup [.agg [.nils,.bo u],.i64 q],[])) (fun((q,u,I):Int×Qj×Bool)=>(.tup [.agg [.sl 0,.bo I],.i64 q],[(0,.arr 93 db u)])) j).1 (DS (fun((q,u):Int×Bool)=>(.tup [.agg [.nils,.bo u],.i64 q],[])) (fun((q,u,I):Int×Qj×Bool)=>(.tup [.agg [.sl 0,.bo I],.i64 q],[(0,.arr 93 db u)])) j).2:=by
 refine OB Tryz.func18 (fun Bw w0=>?_);unfold cy at h;refine G (af ?_);obtain⟨Y,J,h⟩:=aj h;refine GP 1 (xi J) (aC h (fun Z h=>?_) (fun Z h=>?_))
 ·refine G (aw (ai ?_));obtain rfl:=sI h;exact RO [none,some (.int .i64)] [] [8] [(6,.adr 0 0 2 0),(7,.i64 40)] [(0,.box [.nils,.bo false])] 1 0
 refine ae (ab (af (bn h (fun(p3,p4,L)=>aA [(5,.adr 0 0 6 0),(6,.adr 1 0 2 0),(8,.adr 2 0 2 0),(9,.i64 L)] (K0 z A B C D E false p3 p4) 5) (fun v h=>?_) (fun v h=>?_))))
 ·obtain⟨z6,x,h⟩:=aj h;rcases z6 with a1 | ⟨a2,a3,a4⟩
  ·exact jY 2 [] (dL f x) (eN h (gg [.nilC 96 0 120 90 db,.nilC 96 1 121 91 (.int .u8)] [0,8,96,120,121]))
  exact jY 2 [] (dL f x) (eN h (gg [] [0,8,96,64,65]))
 obtain⟨p3,p4,L⟩:=v;refine ab (af (G (aC h (fun B4 h=>?_) (fun B4 h=>?_))))
 ·refine G (aw (ai ?_));obtain rfl:=sI h;exact RO [none,some (.int .i64)] [] [1] [(6,.adr 0 0 2 0),(7,.i64 L)] [(0,.box [.nils,.bo false])] 1 0
 refine ae (ab ?_);obtain⟨⟨a5,M⟩,N,h⟩:=aj h;refine GP 2 (vC true true N) ?_;obtain⟨O,V,h⟩:=aj h;refine GO 2 [] (xq true true false V) (aw ?_);obtain rfl:=sI h;exact RO [none,some (.int .i64)] [] [101,1] [(6,.adr 1 0 2 0),(7,.i64 0)] [(0,.arr 93 db O),(1,.box [.sl 0,.bo M])] 2 0
def fc  : Option (Bool) :=
 ((fk).bind fun f =>
 ((jO f.1 f.2.1 f.2.2.1 f.2.2.2.1 f.2.2.2.2.1 f.2.2.2.2.2.1 f.2.2.2.2.2.2.1 f.2.2.2.2.2.2.2.1 f.2.2.2.2.2.2.2.2).bind fun(x,z) =>
 (((if 0<([97,98,32,99,100,10,101]:QK).length then((cy x ([97,98,32,99,100,10,101]:QK) (3:Int) (8:Int) (0:Int) (0:Int) (0:Int) (eG 0)).bind fun(z3:((Int×Bool)⊕(Int×Qj×Bool)))=>match z3 with
 | .inl (j,p)=>some ((([]:Qj),p,j))
 | .inr (q,u,v)=>some ((u,v,q)))else none)).bind fun(e,B,A)=>(((if(z.1 == 0)=true then(if(A == 0)=true then(if((e.length:Int) == 3)=true then(if 0≤(0:Int)∧0<(e.length:Int)then(if(0:Int).toNat<e.length then(if((((e.getD ((0:Int).toNat) (0,0,0,0)).1) == 0) && ((((e.getD ((0:Int).toNat) (0,0,0,0)).2.1) == 3) && ((((e.getD ((0:Int).toNat) (0,0,0,0)).2.2.1) == 2) && (((e.getD ((0:Int).toNat) (0,0,0,0)).2.2.2) == 1))))=true then(if 0≤(1:Int)∧1<(e.length:Int)then(if(1:Int).toNat<e.length then some (((((e.getD ((1:Int).toNat) (0,0,0,0)).1) == 3) && ((((e.getD ((1:Int).toNat) (0,0,0,0)).2.1) == 6) && ((((e.getD ((1:Int).toNat) (0,0,0,0)).2.2.1) == 2) && (((e.getD ((1:Int).toNat) (0,0,0,0)).2.2.2) == 2)))))else none)else none)
 else some (false))else none)else none)
 else some (false))
 else some (false))
 else some (false))).bind fun v1=>some v1))))
theorem oA{u:Bool}(h:fc=some u):
  Pure Tryz.prog 9 [] (aM (bk false [⟨.bool,u⟩])):=by
 refine PB Tryz.func9 (fun Bw w0=>?_);unfold fc at h;refine G ?_;obtain⟨r4,N,h⟩:=aj h;obtain⟨⟨r5,D⟩,O,h⟩:=aj h;have f:=(m5 N);have v:=(tG false false false false O);refine GN ⟨[],[(0,(oP f)),(1,(oP v))]⟩ [(0,0,oc f),(1,1,oc v)] (af (bn h (fun(E,I,J)=>aA [(2,.adr 0 0 2 0),(3,.adr 1 0 2 0),(4,.i64 J)] (Kt D.1 D.2 I E) 3) (fun x h=>?_) (fun x h=>?_)))
 ·obtain⟨L,h⟩:=aE h;obtain⟨z3,M,h⟩:=aj h;rcases z3 with⟨V,X⟩ | ⟨Y,Z,a1⟩
  ·have f:=(cN false M);exact bu ⟨[],[(4,(oO f [] [false,true]))]⟩ [(2,2,oc L),(4,4,oc f)] (eN h (gg [.nilC 136 0 160 93 db] [48,136,160]))
  have f:=(cN false M);exact bu ⟨[],[(4,(oO f [] [false,true]))]⟩ [(2,2,oc L),(4,4,oc f)] (eN h (gg [] [48,136,104]))
 obtain⟨E,I,J⟩:=x;refine ab (af (bn h (fun v1=>aA [(0,.bo v1)] [] 0) (fun v1 h=>?_) (fun v1 h=>?_)))
 ·rcases aL h with⟨q,h⟩ | ⟨q,h⟩
  ·rcases aL h with⟨j,h⟩ | ⟨j,h⟩
   ·rcases aL h with⟨e,h⟩ | ⟨e,h⟩
    ·obtain⟨z,A,h⟩:=g2 h;rcases aL h with⟨p,h⟩ | ⟨p,h⟩
     ·obtain⟨B,C,h⟩:=g2 h;exact bu ⟨[(3,true),(6,true),(7,true),(12,true),(13,true),(20,true),(21,true),(28,true)],[]⟩ [(4,5,an q),(6,6,oc q),(8,11,an j),(12,12,oc j),(14,15,an e),(16,16,oc (And.intro e z)),(17,17,oc (And.intro e A)),(18,18,an e),(19,19,oc (And.intro e Ik)),(20,20,oc e),(22,23,an p),(24,24,oc (And.intro p B)),(25,25,oc (And.intro p C)),(26,26,an p),(27,27,oc (And.intro p Ik)),(28,28,oc p)] (eN h (gg [] []))
     exact bu ⟨[(3,true),(6,true),(7,true),(12,true),(13,true),(20,true),(21,false),(28,false)],[]⟩ [(4,5,an q),(6,6,oc q),(8,11,an j),(12,12,oc j),(14,15,an e),(16,16,oc (And.intro e z)),(17,17,oc (And.intro e A)),(18,18,an e),(19,19,oc (And.intro e Ik)),(20,20,oc e),(22,28,oc p)] (eN h (gg [] []))
    exact bu ⟨[(3,true),(6,true),(7,true),(12,true),(13,false),(20,false)],[]⟩ [(4,5,an q),(6,6,oc q),(8,11,an j),(12,12,oc j),(14,20,oc e)] (eN h (gg [] []))
   exact bu ⟨[(3,true),(6,true),(7,false),(12,false)],[]⟩ [(4,5,an q),(6,6,oc q),(8,12,oc j)] (eN h (gg [] []))
  exact bu ⟨[(3,false),(6,false)],[]⟩ [(4,6,oc q)] (eN h (gg [] []))
 refine ab (aw ?_);obtain rfl:=sI h;exact RI [.bool]
def bB(e f p3:Int)(p4:QK)(p5:List uC):Option (Int) :=
 (if ¬(6:Int)=0 then some (i64.wrap (1+(i64.wrap (Int.tmod e 6))))else none)
theorem eg(f j:Bool){q u p3:Int}{p4:QK}{p5:List uC}{e:Int}(h:bB q u p3 p4 p5=some e):
  Pure Tryz.prog 29 [.agg [.u8 q,.u8 u,.u8 p3,.p f (.slice (.int .u8)) p4,.p j (.slice (.prod (.int .u8) EJ)) p5]] (aM (bk false [⟨(.int .i64),e⟩])):=by
 refine PB Tryz.func29 (fun Bw w0=>?_);unfold bB at h;refine G (GC 2 h (fun h=>aw ?_));obtain rfl:=sI h;exact RI [(.int .i64)]
def fM(j:QK)(p:Int):(XK×Int)→Option ((XK×Int)⊕XK):=fun(f,e) =>
 (((if(decide (e<(([9,10,32,45,97,98,99,233,769,8205,20013,65533,128512]:QK).length:Int)))=true then some ((decide (e<(j.length:Int))))
 else some (false))).bind fun q=>(if q=true then(if 0≤e∧e<(([9,10,32,45,97,98,99,233,769,8205,20013,65533,128512]:QK).length:Int)then(if e.toNat<([9,10,32,45,97,98,99,233,769,8205,20013,65533,128512]:QK).length then(if 0≤e∧e<(([9,10,32,45,97,98,99,233,769,8205,20013,65533,128512]:QK).length:Int)then(if e.toNat<([9,10,32,45,97,98,99,233,769,8205,20013,65533,128512]:QK).length then(if 0≤e∧e<(j.length:Int)then(if ¬p=0 then(if(f.length+([((([9,10,32,45,97,98,99,233,769,8205,20013,65533,128512]:QK).getD e.toNat 0),(([9,10,32,45,97,98,99,233,769,8205,20013,65533,128512]:QK).getD e.toNat 0),(Int.tmod (i64.wrap (j.getD e.toNat 0)) p))]:XK).length)*16≤140737488355328∧f.length+([((([9,10,32,45,97,98,99,233,769,8205,20013,65533,128512]:QK).getD e.toNat 0),(([9,10,32,45,97,98,99,233,769,8205,20013,65533,128512]:QK).getD e.toNat 0),(Int.tmod (i64.wrap (j.getD e.toNat 0)) p))]:XK).length≤9223372036854775807 then some (Sum.inl ((f++([((([9,10,32,45,97,98,99,233,769,8205,20013,65533,128512]:QK).getD e.toNat 0),(([9,10,32,45,97,98,99,233,769,8205,20013,65533,128512]:QK).getD e.toNat 0),(Int.tmod (i64.wrap (j.getD e.toNat 0)) p))]:XK)),(i64.wrap (e+1))))else none)else none)else none)else none)else none)else none)else none)
 else some (Sum.inr f)))
def cX(f:QK)(j:Int):Option XK :=
 ((iter (fM f j) (([]:XK),0)).bind fun e=>some e)
theorem fH(q:Bool){v:QK}{x:Int}{u:XK}(h:cX v x=some u):
  Pure Tryz.prog 28 [.p q (.slice (.int .u8)) v,.i64 x] (aM (bk false [⟨(.slice (.prod (.int .i32) Y1)),u⟩])):=by
 refine PB Tryz.func28 (fun Bw w0=>?_);unfold cX at h;refine G (G (G (af (G (ak (cH h (fun(e,z)=>aA [(0,.p q (.slice (.int .u8)) v),(1,.i64 x),(5,.sl 0),(6,.sl 1),(7,.i64 z)] (I6 ([9,10,32,45,97,98,99,233,769,8205,20013,65533,128512]:QK) e) 2) 0 (fun j=>aA [(6,.sl 0)] [(0,.arr 115 (.prod (.int .i32) Y1) j)] 1) (gg [.nilS 6 40 115 (.prod (.int .i32) Y1)] [8,40]) (fun y o h=>?_) (fun j h=>?_)))))))
 ·obtain⟨e,z⟩:=y;unfold fM at h;refine af (af (bn h (fun A=>aA [(0,.p q (.slice (.int .u8)) v),(1,.i64 x),(5,.sl 0),(6,.sl 1),(7,.i64 z),(18,.bo A)] (I6 ([9,10,32,45,97,98,99,233,769,8205,20013,65533,128512]:QK) e) 2) (fun A h=>?_) (fun A h=>?_)))
  ·rcases aL h with⟨f,h⟩ | ⟨f,h⟩
   ·exact bu ⟨[(4,true),(9,true)],[]⟩ [(5,8,an f),(9,9,oc f)] (eN h (gg [] [0,1]))
   exact bu ⟨[(4,false),(9,false)],[]⟩ [(5,9,oc f)] (eN h (gg [] [0,1]))
  refine ab (aC h (fun B h=>?_) (fun B h=>?_))
  ·refine ae (ab (af (ak ?_)));obtain⟨C,D,E,I,h⟩:=g4 h;obtain⟨J,L,M,h⟩:=g3 h;refine mZ a0 [(3,3,oc C),(4,4,oc D),(7,7,oc E),(8,8,oc I),(11,11,oc J),(15,15,oc L),(18,18,oc M)] (ay (ab (Ge ?_)));exact eB h (gg [] [0,146])
  refine au (aO ?_);exact eX h (gg [] [1])
 refine av (ab (G (aw ?_)));obtain rfl:=sI h;exact RI [(.slice (.prod (.int .i32) Y1))]
def cu(e f:Int):Option QX :=
 (if ¬e=0 then some (bytesOf ([(u8.wrap (i64.wrap (65+(Int.tmod f e))))]:QK))else none)
theorem dG{f j:Int}{e:QX}(h:cu f j=some e):
  Pure Tryz.prog 59 [.i64 f,.i64 j] (aM (bk false [⟨.str,e⟩])):=by
 refine PB Tryz.func59 (fun Bw w0=>?_);unfold cu at h;refine G (GC 2 h (fun h=>aw ?_));obtain rfl:=sI h;exact RI [.str]
def jj(u f:Int):Z4→Option (Z4⊕QX):=fun(e,j) =>
 (if(decide (j<u))=true then(if 0≤j then(if ¬(2:Int)=0 then(((if((Int.tmod (Int.fdiv f (2 ^ (min j.toNat u8.bits))) (2:Int)) == 1)=true then(if e.length+([32]:QX).length≤9223372036854775807 then((cu u j).bind fun p =>
 (if(e++([32]:QX)).length+p.length≤9223372036854775807 then some (((e++([32]:QX))++p))else none))else none)
 else some (e))).bind fun q=>some (Sum.inl (q,(i64.wrap (j+1)))))else none)else none)
 else some (Sum.inr e))
def bZ(j e:Int):Option QX :=
 ((iter (jj j e) (([]:QX),0)).bind fun f=>some f)
theorem dp{v e:Int}{q:QX}(h:bZ v e=some q):
  Pure Tryz.prog 58 [.i64 v,.u8 e] (aM (bk false [⟨.str,q⟩])):=by
 refine PB Tryz.func58 (fun Bw w0=>?_);unfold bZ at h;refine G (G (af (G (ak (cH h (fun(j,x)=>aA [(0,.i64 v),(1,.u8 e),(5,.st j),(6,.i64 x)] [] 0) 0 (fun p=>aA [(5,.st p)] [] 0) (gg [] []) (fun y o h=>?_) (fun p h=>?_))))))
 ·obtain⟨j,x⟩:=y;unfold jj at h;refine af (G (aC h (fun E h=>?_) (fun E h=>?_)))
  ·refine ae (ab (af (ak ?_)));obtain⟨z,A,h⟩:=g2 h;refine GN a0 [(2,2,oc z),(3,3,oc A)] (bn h (fun f=>aA [(0,.i64 v),(1,.u8 e),(5,.st f),(6,.i64 x)] [] 0) (fun f h=>?_) (fun f h=>?_))
   ·refine aC h (fun I h=>?_) (fun I h=>?_)
    ·obtain⟨B,h⟩:=aE h;obtain⟨J,C,h⟩:=aj h;obtain⟨D,h⟩:=aE h;have u:=(dG C);exact bu ⟨[],[(4,(oP u))]⟩ [(1,1,oc B),(4,4,oc u),(5,5,oc D)] (eN h (gg [] []))
    exact ae (eN h (gg [] []))
   refine ay (ab (Ge ?_));exact eB h (gg [] [])
  refine au (aO ?_);exact eX h (gg [] [])
 refine av (ab (G (aw ?_)));obtain rfl:=sI h;exact RI [.str]
def bq(f:QK)(e:Int):Option (Int×Int) :=
 (if(decide (e≥(f.length:Int)))=true then some (0,e)
 else(if 0≤(i64.wrap ((i64.wrap (e+1)) - 1))∧(i64.wrap ((i64.wrap (e+1)) - 1))<(f.length:Int)then some ((i64.wrap (f.getD ((i64.wrap ((i64.wrap (e+1)) - 1)).toNat) 0)),(i64.wrap (e+1)))else none))
theorem dz{f:QK}{j:Int}{e:Int×Int}(h:bq f j=some e):
  hY Tryz.prog 139 [.adr 0 0 2 0] [(0,.box [.p false (.slice (.int .u8)) f,.i64 j])] (.i64 e.1) [(0,.box [.p false (.slice (.int .u8)) f,.i64 e.2])]:=by
 refine OB Tryz.func139 (fun Bw w0=>?_);unfold bq at h;refine G (af (GD a0 [] (aC h (fun q h=>?_) (fun q h=>?_))))
 ·refine G (aw (ai ?_));obtain rfl:=sI h;exact RO [some (.int .i64)] [] [0] [(2,.i64 0)] [(0,.box [.p false (.slice (.int .u8)) f,.i64 j])] 1 1
 refine ae (ab (G ?_));obtain⟨u,h⟩:=aE h;refine GD a0 [(9,9,oc u)] (aw ?_);obtain rfl:=sI h;exact RO [some (.int .i64)] [] [0] [(2,.i64 (i64.wrap (f.getD ((i64.wrap ((i64.wrap (j+1)) - 1)).toNat) 0)))] [(0,.box [.p false (.slice (.int .u8)) f,.i64 (i64.wrap (j+1))])] 1 1
def dU(e:Int→Int→QK→Int→Option Z4)(q z:Int)(x:QK)(i2:Int):Option Z4 :=
 ((bq x i2).bind fun(f,j) =>
 (if(decide (z≤0))=true then((cu q f).bind fun X =>
 some (X,j))
 else(if ¬(12:Int)=0 then(if((Int.tmod f 12) == 4)=true then some (([46]:QX),j)
 else(if((Int.tmod f 12) == 5)=true then((bq x j).bind fun(Y,Z) =>
 ((bZ q (u8.wrap Y)).bind fun B =>
 (if([91]:QX).length+B.length≤9223372036854775807 then(if(([91]:QX)++B).length+([93]:QX).length≤9223372036854775807 then some (((([91]:QX)++B)++([93]:QX)),Z)else none)else none)))
 else(if((Int.tmod f 12) == 6)=true then((bq x j).bind fun(a1,a2) =>
 ((bZ q (u8.wrap a1)).bind fun C =>
 (if([91,94]:QX).length+C.length≤9223372036854775807 then(if(([91,94]:QX)++C).length+([93]:QX).length≤9223372036854775807 then some (((([91,94]:QX)++C)++([93]:QX)),a2)else none)else none)))
 else(if((Int.tmod f 12) == 7)=true then((e q (i64.wrap (z - 1)) x j).bind fun(D,a3) =>
 (if([40]:QX).length+D.length≤9223372036854775807 then(if(([40]:QX)++D).length+([41,42]:QX).length≤9223372036854775807 then some (((([40]:QX)++D)++([41,42]:QX)),a3)else none)else none))
 else(if((Int.tmod f 12) == 8)=true then((e q (i64.wrap (z - 1)) x j).bind fun(E,a4) =>
 (if([40]:QX).length+E.length≤9223372036854775807 then(if(([40]:QX)++E).length+([41,43]:QX).length≤9223372036854775807 then some (((([40]:QX)++E)++([41,43]:QX)),a4)else none)else none))
 else(if((Int.tmod f 12) == 9)=true then((e q (i64.wrap (z - 1)) x j).bind fun(I,J) =>
 (if([40]:QX).length+I.length≤9223372036854775807 then(if(([40]:QX)++I).length+([41,63]:QX).length≤9223372036854775807 then some (((([40]:QX)++I)++([41,63]:QX)),J)else none)else none))
 else(if((Int.tmod f 12) == 10)=true then((e q (i64.wrap (z - 1)) x j).bind fun(p,L) =>
 ((e q (i64.wrap (z - 1)) x L).bind fun(u,M) =>
 (if([40]:QX).length+p.length≤9223372036854775807 then(if(([40]:QX)++p).length+([124]:QX).length≤9223372036854775807 then(if((([40]:QX)++p)++([124]:QX)).length+u.length≤9223372036854775807 then(if(((([40]:QX)++p)++([124]:QX))++u).length+([41]:QX).length≤9223372036854775807 then some (((((([40]:QX)++p)++([124]:QX))++u)++([41]:QX)),M)else none)else none)else none)else none)))
 else(if((Int.tmod f 12) == 11)=true then((e q (i64.wrap (z - 1)) x j).bind fun(v,N) =>
 ((e q (i64.wrap (z - 1)) x N).bind fun(A,O) =>
 (if v.length+([32]:QX).length≤9223372036854775807 then(if(v++([32]:QX)).length+A.length≤9223372036854775807 then some (((v++([32]:QX))++A),O)else none)else none)))
 else((cu q f).bind fun V =>
 some (V,j))))))))))else none)))
def cM:Nat→Int→Int→QK→Int→Option Z4
 | 0=>fun _ _ _ _=>none
 | n+1=>dU (cM n)
theorem lJ(f:Int→Int→QK→Int→Option Z4)(e:∀ {x z:Int} {j:QK} {A:Int} {q:QX×Int},f x z j A=some q→hY Tryz.prog 96 [.i64 x,.adr 0 0 2 0,.i64 z] [(0,.box [.p false (.slice (.int .u8)) j,.i64 A])] (.st q.1) [(0,.box [.p false (.slice (.int .u8)) j,.i64 q.2])]){x z:Int}{j:QK}{A:Int}{q:QX×Int}(h:dU f x z j A=some q):
  hY Tryz.prog 96 [.i64 x,.adr 0 0 2 0,.i64 z] [(0,.box [.p false (.slice (.int .u8)) j,.i64 A])] (.st q.1) [(0,.box [.p false (.slice (.int .u8)) j,.i64 q.2])]:=by
 refine OB Tryz.func96 (fun Bw w0=>?_);unfold dU at h;refine G ?_;obtain⟨⟨d5,v⟩,N,h⟩:=aj h;refine GO 1 [0] (dz N) (af (G (aC h (fun O h=>?_) (fun O h=>?_))))
 ·obtain⟨V,X,h⟩:=aj h;refine GP 2 (dG X) (aw (ai ?_));obtain rfl:=sI h;exact RO [some .str] [] [0] [(6,.st V)] [(0,.box [.p false (.slice (.int .u8)) j,.i64 v])] 1 1
 refine ae (ab (af (GC 1 h (fun h=>ak (G (aC h (fun Y h=>?_) (fun Y h=>?_)))))))
 ·refine G (aw (az (ai ?_)));obtain rfl:=sI h;exact RO [some .str] [] [0] [(6,.st ([46]:QX))] [(0,.box [.p false (.slice (.int .u8)) j,.i64 v])] 1 1
 refine G (aC h (fun Z h=>?_) (fun Z h=>?_))
 ·obtain⟨⟨d6,a1⟩,a2,h⟩:=aj h;refine GO 1 [0] (dz a2) ?_;obtain⟨a3,a4,h⟩:=aj h;obtain⟨a5,a6,h⟩:=g2 h;have u:=(dp a4);refine GN ⟨[],[(3,(oP u))]⟩ [(3,3,oc u),(4,4,oc a5),(5,5,oc a6)] (aw (az (ai ?_)));obtain rfl:=sI h;exact RO [some .str] [] [0] [(6,.st ((([91]:QX)++a3)++([93]:QX)))] [(0,.box [.p false (.slice (.int .u8)) j,.i64 a1])] 1 1
 refine G (aC h (fun a7 h=>?_) (fun a7 h=>?_))
 ·obtain⟨⟨d7,a8⟩,a9,h⟩:=aj h;refine GO 1 [0] (dz a9) ?_;obtain⟨aa,ac,h⟩:=aj h;obtain⟨ad,ax,h⟩:=g2 h;have u:=(dp ac);refine GN ⟨[],[(3,(oP u))]⟩ [(3,3,oc u),(4,4,oc ad),(5,5,oc ax)] (aw (az (ai ?_)));obtain rfl:=sI h;exact RO [some .str] [] [0] [(6,.st ((([91,94]:QX)++aa)++([93]:QX)))] [(0,.box [.p false (.slice (.int .u8)) j,.i64 a8])] 1 1
 refine G (aC h (fun b1 h=>?_) (fun b1 h=>?_))
 ·obtain⟨⟨b2,b3⟩,b4,h⟩:=aj h;refine GO 4 [0] (e b4) ?_;obtain⟨b5,b6,h⟩:=g2 h;refine GN a0 [(1,1,oc b5),(2,2,oc b6)] (aw (az (ai ?_)));obtain rfl:=sI h;exact RO [some .str] [] [0] [(6,.st ((([40]:QX)++b2)++([41,42]:QX)))] [(0,.box [.p false (.slice (.int .u8)) j,.i64 b3])] 1 1
 refine G (aC h (fun b7 h=>?_) (fun b7 h=>?_))
 ·obtain⟨⟨b8,b9⟩,be,h⟩:=aj h;refine GO 4 [0] (e be) ?_;obtain⟨bi,bs,h⟩:=g2 h;refine GN a0 [(1,1,oc bi),(2,2,oc bs)] (aw (az (ai ?_)));obtain rfl:=sI h;exact RO [some .str] [] [0] [(6,.st ((([40]:QX)++b8)++([41,43]:QX)))] [(0,.box [.p false (.slice (.int .u8)) j,.i64 b9])] 1 1
 refine G (aC h (fun bv h=>?_) (fun bv h=>?_))
 ·obtain⟨⟨bx,B⟩,c1,h⟩:=aj h;refine GO 4 [0] (e c1) ?_;obtain⟨c2,c3,h⟩:=g2 h;refine GN a0 [(1,1,oc c2),(2,2,oc c3)] (aw (az (ai ?_)));obtain rfl:=sI h;exact RO [some .str] [] [0] [(6,.st ((([40]:QX)++bx)++([41,63]:QX)))] [(0,.box [.p false (.slice (.int .u8)) j,.i64 B])] 1 1
 refine G (aC h (fun c4 h=>?_) (fun c4 h=>?_))
 ·obtain⟨⟨C,d3⟩,c5,h⟩:=aj h;refine GO 4 [0] (e c5) ?_;obtain⟨⟨D,E⟩,c6,h⟩:=aj h;refine GO 4 [0] (e c6) ?_;obtain⟨c7,c8,c9,cc,h⟩:=g4 h;refine GN a0 [(1,1,oc c7),(2,2,oc c8),(4,4,oc c9),(5,5,oc cc)] (aw (az (ai ?_)));obtain rfl:=sI h;exact RO [some .str] [] [0] [(6,.st ((((([40]:QX)++C)++([124]:QX))++D)++([41]:QX)))] [(0,.box [.p false (.slice (.int .u8)) j,.i64 E])] 1 1
 refine G (aC h (fun ch h=>?_) (fun ch h=>?_))
 ·obtain⟨⟨I,d4⟩,cl,h⟩:=aj h;refine GO 4 [0] (e cl) ?_;obtain⟨⟨J,L⟩,cp,h⟩:=aj h;refine GO 4 [0] (e cp) ?_;obtain⟨cs,cx,h⟩:=g2 h;refine GN a0 [(1,1,oc cs),(3,3,oc cx)] (aw (az (ai ?_)));obtain rfl:=sI h;exact RO [some .str] [] [0] [(6,.st ((I++([32]:QX))++J))] [(0,.box [.p false (.slice (.int .u8)) j,.i64 L])] 1 1
 refine ae (ay (ab ?_));obtain⟨M,d2,h⟩:=aj h;refine GP 2 (dG d2) (aw ?_);obtain rfl:=sI h;exact RO [some .str] [] [0] [(6,.st M)] [(0,.box [.p false (.slice (.int .u8)) j,.i64 v])] 1 1
theorem iI:∀(n:Nat) {j q:Int} {f:QK} {u:Int} {e:QX×Int},cM n j q f u=some e→hY Tryz.prog 96 [.i64 j,.adr 0 0 2 0,.i64 q] [(0,.box [.p false (.slice (.int .u8)) f,.i64 u])] (.st e.1) [(0,.box [.p false (.slice (.int .u8)) f,.i64 e.2])]
 | 0,_,_,_,_,_,h=>by cases h
 | n+1,j,q,f,u,e,h=>lJ (cM n) (iI n)  h
def eL(f:Int)(e:QK):Option QX :=
 (if((e.length:Int) == 0)=true then some ([]:QX)
 else(if 0≤(0:Int)∧0≤(min (e.length:Int) (30:Int))∧(min (e.length:Int) (30:Int))≤(e.length:Int)then((cM 1000 f 3 ((e.take (min (e.length:Int) (30:Int)).toNat).drop (0:Int).toNat) 0).bind fun(j,p) =>
 some j)else none))
theorem jX{j:Int}{q:QK}{e:QX}(h:eL j q=some e):
  Pure Tryz.prog 60 [.i64 j,.p false (.slice (.int .u8)) q] (aM (bk false [⟨.str,e⟩])):=by
 refine PB Tryz.func60 (fun Bw w0=>?_);unfold eL at h;refine G (af (G (aC h (fun u h=>?_) (fun u h=>?_))))
 ·refine G (aw (ai ?_));obtain rfl:=sI h;exact RI [.str]
 refine ae (ab ?_);obtain⟨v,h⟩:=aE h;obtain⟨⟨z,A⟩,x,h⟩:=aj h;have f:=(iI 1000 x);refine GN ⟨[],[(8,(oO f [88]))]⟩ [(5,5,oc v),(8,8,oc f)] (aw ?_);obtain rfl:=sI h;exact RI [.str]
def jP(p:QK)(q:Int):Z4→Option (Z4⊕QX):=fun(v6,f) =>
 (((if(decide (f<(p.length:Int)))=true then some ((decide (f<q)))
 else some (false))).bind fun u=>(if u=true then(if v6.length+([116,114,101,97,116,32]:QX).length≤9223372036854775807 then((cu q f).bind fun e =>
 (if(v6++([116,114,101,97,116,32]:QX)).length+e.length≤9223372036854775807 then(if((v6++([116,114,101,97,116,32]:QX))++e).length+([32,61,32]:QX).length≤9223372036854775807 then(if 0≤f∧f<(p.length:Int)then((cu q (i64.wrap (p.getD f.toNat 0))).bind fun j =>
 (if(((v6++([116,114,101,97,116,32]:QX))++e)++([32,61,32]:QX)).length+j.length≤9223372036854775807 then(if((((v6++([116,114,101,97,116,32]:QX))++e)++([32,61,32]:QX))++j).length+([59,10]:QX).length≤9223372036854775807 then some (Sum.inl ((((((v6++([116,114,101,97,116,32]:QX))++e)++([32,61,32]:QX))++j)++([59,10]:QX)),(i64.wrap (f+1))))else none)else none))else none)else none)else none))else none)
 else some (Sum.inr v6)))
def jG(f:List uC)(v:Int):Z4→Option (Z4⊕QX):=fun(j,e) =>
 (((if(decide (e<(f.length:Int)))=true then some ((decide (e<10)))
 else some (false))).bind fun u=>(if u=true then(if 0≤e∧e<(f.length:Int)then(if ¬(3:Int)=0 then(if 0≤(Int.tmod ((f.getD e.toNat (0,[],([]:QK))).1) (3:Int))∧(Int.tmod ((f.getD e.toNat (0,[],([]:QK))).1) (3:Int))<(([([107,101,101,112,32]:QX),([109,97,121,32]:QX),([109,117,115,116,32]:QX)]:QQ).length:Int)then(if(Int.tmod ((f.getD e.toNat (0,[],([]:QK))).1) (3:Int)).toNat<([([107,101,101,112,32]:QX),([109,97,121,32]:QX),([109,117,115,116,32]:QX)]:QQ).length then(if j.length+(([([107,101,101,112,32]:QX),([109,97,121,32]:QX),([109,117,115,116,32]:QX)]:QQ).getD ((Int.tmod ((f.getD e.toNat (0,[],([]:QK))).1) (3:Int)).toNat) ([]:QX)).length≤9223372036854775807 then(if 0≤e∧e<(f.length:Int)then((eL v ((f.getD e.toNat (0,[],([]:QK))).2.1)).bind fun p =>
 (if(j++(([([107,101,101,112,32]:QX),([109,97,121,32]:QX),([109,117,115,116,32]:QX)]:QQ).getD ((Int.tmod ((f.getD e.toNat (0,[],([]:QK))).1) (3:Int)).toNat) ([]:QX))).length+p.length≤9223372036854775807 then(if((j++(([([107,101,101,112,32]:QX),([109,97,121,32]:QX),([109,117,115,116,32]:QX)]:QQ).getD ((Int.tmod ((f.getD e.toNat (0,[],([]:QK))).1) (3:Int)).toNat) ([]:QX)))++p).length+([32,47,32]:QX).length≤9223372036854775807 then(if 0≤e∧e<(f.length:Int)then((eL v ((f.getD e.toNat (0,[],([]:QK))).2.2)).bind fun q =>
 (if(((j++(([([107,101,101,112,32]:QX),([109,97,121,32]:QX),([109,117,115,116,32]:QX)]:QQ).getD ((Int.tmod ((f.getD e.toNat (0,[],([]:QK))).1) (3:Int)).toNat) ([]:QX)))++p)++([32,47,32]:QX)).length+q.length≤9223372036854775807 then(if((((j++(([([107,101,101,112,32]:QX),([109,97,121,32]:QX),([109,117,115,116,32]:QX)]:QQ).getD ((Int.tmod ((f.getD e.toNat (0,[],([]:QK))).1) (3:Int)).toNat) ([]:QX)))++p)++([32,47,32]:QX))++q).length+([59,10]:QX).length≤9223372036854775807 then some (Sum.inl ((((((j++(([([107,101,101,112,32]:QX),([109,97,121,32]:QX),([109,117,115,116,32]:QX)]:QQ).getD ((Int.tmod ((f.getD e.toNat (0,[],([]:QK))).1) (3:Int)).toNat) ([]:QX)))++p)++([32,47,32]:QX))++q)++([59,10]:QX)),(i64.wrap (e+1))))else none)else none))else none)else none)else none))else none)else none)else none)else none)else none)else none)
 else some (Sum.inr j)))
def eP(B q v:Int)(z:QK)(A:List uC):Option QX :=
 ((bB B q v z A).bind fun p =>
 ((bZ p 255).bind fun f =>
 (if([99,108,97,115,115]:QX).length+f.length≤9223372036854775807 then(if(([99,108,97,115,115]:QX)++f).length+([59,10]:QX).length≤9223372036854775807 then(((if(q != 0)=true then(if((([99,108,97,115,115]:QX)++f)++([59,10]:QX)).length+([106,111,105,110]:QX).length≤9223372036854775807 then((bZ p q).bind fun e =>
 (if(((([99,108,97,115,115]:QX)++f)++([59,10]:QX))++([106,111,105,110]:QX)).length+e.length≤9223372036854775807 then(if((((([99,108,97,115,115]:QX)++f)++([59,10]:QX))++([106,111,105,110]:QX))++e).length+([32,47]:QX).length≤9223372036854775807 then((bZ p v).bind fun j =>
 (if(((((([99,108,97,115,115]:QX)++f)++([59,10]:QX))++([106,111,105,110]:QX))++e)++([32,47]:QX)).length+j.length≤9223372036854775807 then(if((((((([99,108,97,115,115]:QX)++f)++([59,10]:QX))++([106,111,105,110]:QX))++e)++([32,47]:QX))++j).length+([59,10]:QX).length≤9223372036854775807 then some ((((((((([99,108,97,115,115]:QX)++f)++([59,10]:QX))++([106,111,105,110]:QX))++e)++([32,47]:QX))++j)++([59,10]:QX)))else none)else none))else none)else none))else none)
 else some (((([99,108,97,115,115]:QX)++f)++([59,10]:QX))))).bind fun v1=>((iter (jP z p) (v1,0)).bind fun C=>((iter (jG A p) (C,0)).bind fun u=>some u)))else none)else none)))
theorem jL(f:Bool){v x z:Int}{A:QK}{B:List uC}{J:QX}(h:eP v x z A B=some J):
  Pure Tryz.prog 30 [.agg [.u8 v,.u8 x,.u8 z,.p f (.slice (.int .u8)) A,.p false (.slice (.prod (.int .u8) EJ)) B]] (aM (bk false [⟨.str,J⟩])):=by
 refine PB Tryz.func30 (fun Bw w0=>?_);unfold eP at h;refine G ?_;obtain⟨I,q2,h⟩:=aj h;refine GP 1 (eg f false q2) ?_;obtain⟨r4,q4,h⟩:=aj h;obtain⟨c3,c4,h⟩:=g2 h;have e:=(dp q4);refine GN ⟨[],[(1,(oP e))]⟩ [(1,1,oc e),(2,2,oc c3),(3,3,oc c4)] (af (G (bn h (fun v1=>aA [(1,.adr 0 0 5 0),(3,.i64 I),(4,.st v1)] (D5 v x z f A B) 1) (fun v1 h=>?_) (fun v1 h=>?_))))
 ·refine aC h (fun B2 h=>?_) (fun B2 h=>?_)
  ·obtain⟨a5,h⟩:=aE h;obtain⟨bi,a6,h⟩:=aj h;obtain⟨a7,a8,h⟩:=g2 h;obtain⟨bs,a9,h⟩:=aj h;obtain⟨aa,ac,h⟩:=g2 h;have e:=(dp a6);have j:=(dp a9);exact mZ ⟨[],[(5,(oP e)),(11,(oP j))]⟩ [(1,1,oc a5),(5,5,oc e),(6,6,oc a7),(7,7,oc a8),(11,11,oc j),(12,12,oc aa),(13,13,oc ac)] (eN h (gg [] [0]))
  exact ae (eN h (gg [] [0]))
 refine ab (af (G (ak (cH h (fun(v6,v7)=>aA [(1,.adr 0 0 5 0),(3,.i64 I),(4,.st v6),(5,.i64 v7)] (D5 v x z f A B) 1) 0 (fun v8=>aA [(1,.adr 0 0 5 0),(3,.i64 I),(4,.st v8)] (D5 v x z f A B) 1) (gg [] [0]) (fun y o h=>?_) (fun v8 h=>?_)))))
 ·obtain⟨v6,v7⟩:=y;unfold jP at h;refine af (af (bn h (fun v9=>aA [(1,.adr 0 0 5 0),(3,.i64 I),(4,.st v6),(5,.i64 v7),(40,.bo v9)] (D5 v x z f A B) 1) (fun v9 h=>?_) (fun v9 h=>?_)))
  ·rcases aL h with⟨q,h⟩ | ⟨q,h⟩
   ·exact bu ⟨[(5,true),(9,true)],[]⟩ [(6,8,an q),(9,9,oc q)] (eN h (gg [] [0]))
   exact bu ⟨[(5,false),(9,false)],[]⟩ [(6,9,oc q)] (eN h (gg [] [0]))
  refine ab (aC h (fun ad h=>?_) (fun ad h=>?_))
  ·refine ae (ab (af (ak ?_)));obtain⟨ax,h⟩:=aE h;obtain⟨bv,b1,h⟩:=aj h;obtain⟨b2,b3,b4,h⟩:=g3 h;obtain⟨bx,b5,h⟩:=aj h;obtain⟨b6,b7,h⟩:=g2 h;have e:=(dG b1);have j:=(dG b5);refine mZ ⟨[],[(4,(oP e)),(14,(oP j))]⟩ [(1,1,oc ax),(4,4,oc e),(5,5,oc b2),(6,6,oc b3),(11,11,oc b4),(14,14,oc j),(15,15,oc b6),(16,16,oc b7)] (ay (ab (Ge ?_)));exact eB h (gg [] [0])
  refine au (aO ?_);exact eX h (gg [] [0])
 refine av (ab (G (af (G (ak (cH h (fun(C,D)=>aA [(1,.adr 0 0 5 0),(3,.i64 I),(4,.st C),(6,.sl 1),(7,.i64 D)] (I7 v x z f A B ([([107,101,101,112,32]:QX),([109,97,121,32]:QX),([109,117,115,116,32]:QX)]:QQ)) 2) 2 (fun L=>aA [(4,.st L)] [] 0) (gg [] [0,1]) (fun y o h=>?_) (fun L h=>?_)))))))
 ·obtain⟨C,D⟩:=y;unfold jG at h;refine af (af (bn h (fun E=>aA [(1,.adr 0 0 5 0),(3,.i64 I),(4,.st C),(6,.sl 1),(7,.i64 D),(69,.bo E)] (I7 v x z f A B ([([107,101,101,112,32]:QX),([109,97,121,32]:QX),([109,117,115,116,32]:QX)]:QQ)) 2) (fun E h=>?_) (fun E h=>?_)))
  ·rcases aL h with⟨u,h⟩ | ⟨u,h⟩
   ·exact bu ⟨[(5,true),(8,true)],[]⟩ [(6,7,an u),(8,8,oc u)] (eN h (gg [] [0,1]))
   exact bu ⟨[(5,false),(8,false)],[]⟩ [(6,8,oc u)] (eN h (gg [] [0,1]))
  refine ab (aC h (fun b8 h=>?_) (fun b8 h=>?_))
  ·refine ae (ab (af (ak ?_)));obtain⟨M,N,O,V,h⟩:=g4 h;obtain⟨X,Y,h⟩:=g2 h;obtain⟨c1,b9,h⟩:=aj h;obtain⟨Z,a1,a2,h⟩:=g3 h;obtain⟨c2,be,h⟩:=aj h;obtain⟨a3,a4,h⟩:=g2 h;have e:=(jX b9);have j:=(jX be);refine mZ ⟨[],[(19,(oP e)),(29,(oP j))]⟩ [(5,5,oc M),(8,8,oc N),(9,9,oc O),(10,10,oc V),(11,11,oc X),(16,16,oc Y),(19,19,oc e),(20,20,oc Z),(21,21,oc a1),(26,26,oc a2),(29,29,oc j),(30,30,oc a3),(31,31,oc a4)] (ay (ab (Ge ?_)));exact eB h (gg [] [0,1])
  refine au (aO ?_);exact eX h (gg [] [])
 refine av (ab (G (aw ?_)));obtain rfl:=sI h;exact RI [.str]
def fA(j:QK):Z4→Option (Z4⊕QX):=fun(e,f) =>
 (((if(decide (f<(j.length:Int)))=true then some ((decide (f<60)))
 else some (false))).bind fun p=>(if p=true then(if 0≤f∧f<(j.length:Int)then(if ¬(15:Int)=0 then(if 0≤(Int.tmod (i64.wrap (j.getD f.toNat 0)) (15:Int))∧(Int.tmod (i64.wrap (j.getD f.toNat 0)) (15:Int))<(([([97]:QX),([98]:QX),([99]:QX),([49]:QX),([50]:QX),([51]:QX),([32]:QX),([32]:QX),([97,49,98,32]:QX),([98,49,99,32]:QX),([50,99,32]:QX),([46,97,49]:QX),([99,46]:QX),([97,98,45,99,32]:QX),([99,97,45,98,45,97,32]:QX)]:QQ).length:Int)then(if(Int.tmod (i64.wrap (j.getD f.toNat 0)) (15:Int)).toNat<([([97]:QX),([98]:QX),([99]:QX),([49]:QX),([50]:QX),([51]:QX),([32]:QX),([32]:QX),([97,49,98,32]:QX),([98,49,99,32]:QX),([50,99,32]:QX),([46,97,49]:QX),([99,46]:QX),([97,98,45,99,32]:QX),([99,97,45,98,45,97,32]:QX)]:QQ).length then(if e.length+(([([97]:QX),([98]:QX),([99]:QX),([49]:QX),([50]:QX),([51]:QX),([32]:QX),([32]:QX),([97,49,98,32]:QX),([98,49,99,32]:QX),([50,99,32]:QX),([46,97,49]:QX),([99,46]:QX),([97,98,45,99,32]:QX),([99,97,45,98,45,97,32]:QX)]:QQ).getD ((Int.tmod (i64.wrap (j.getD f.toNat 0)) (15:Int)).toNat) []).length≤9223372036854775807 then some (Sum.inl ((e++(([([97]:QX),([98]:QX),([99]:QX),([49]:QX),([50]:QX),([51]:QX),([32]:QX),([32]:QX),([97,49,98,32]:QX),([98,49,99,32]:QX),([50,99,32]:QX),([46,97,49]:QX),([99,46]:QX),([97,98,45,99,32]:QX),([99,97,45,98,45,97,32]:QX)]:QQ).getD ((Int.tmod (i64.wrap (j.getD f.toNat 0)) (15:Int)).toNat) [])),(i64.wrap (f+1))))else none)else none)else none)else none)else none)
 else some (Sum.inr e)))
def eM(f:QK):Option QX :=
 ((iter (fA f) (([]:QX),0)).bind fun e=>some e)
theorem mA(q:Bool){v:QK}{u:QX}(h:eM v=some u):
  Pure Tryz.prog 31 [.p q (.slice (.int .u8)) v] (aM (bk false [⟨.str,u⟩])):=by
 refine PB Tryz.func31 (fun Bw w0=>?_);unfold eM at h;refine G (G (G (af (G (ak (cH h (fun(e,x)=>aA [(0,.p q (.slice (.int .u8)) v),(3,.sl 0),(4,.st e),(5,.i64 x)] [(0,.arr 9 .str ([([97]:QX),([98]:QX),([99]:QX),([49]:QX),([50]:QX),([51]:QX),([32]:QX),([32]:QX),([97,49,98,32]:QX),([98,49,99,32]:QX),([50,99,32]:QX),([46,97,49]:QX),([99,46]:QX),([97,98,45,99,32]:QX),([99,97,45,98,45,97,32]:QX)]:QQ))] 1) 0 (fun j=>aA [(4,.st j)] [] 0) (gg [] [8]) (fun y o h=>?_) (fun j h=>?_)))))))
 ·obtain⟨e,x⟩:=y;unfold fA at h;refine af (af (bn h (fun z=>aA [(0,.p q (.slice (.int .u8)) v),(3,.sl 0),(4,.st e),(5,.i64 x),(14,.bo z)] [(0,.arr 9 .str ([([97]:QX),([98]:QX),([99]:QX),([49]:QX),([50]:QX),([51]:QX),([32]:QX),([32]:QX),([97,49,98,32]:QX),([98,49,99,32]:QX),([50,99,32]:QX),([46,97,49]:QX),([99,46]:QX),([97,98,45,99,32]:QX),([99,97,45,98,45,97,32]:QX)]:QQ))] 1) (fun z h=>?_) (fun z h=>?_)))
  ·rcases aL h with⟨f,h⟩ | ⟨f,h⟩
   ·exact bu ⟨[(4,true),(7,true)],[]⟩ [(5,6,an f),(7,7,oc f)] (eN h (gg [] [0]))
   exact bu ⟨[(4,false),(7,false)],[]⟩ [(5,7,oc f)] (eN h (gg [] [0]))
  refine ab (aC h (fun A h=>?_) (fun A h=>?_))
  ·refine ae (ab (af (ak ?_)));obtain⟨B,C,D,E,h⟩:=g4 h;obtain⟨I,h⟩:=aE h;refine bu a0 [(4,4,oc B),(7,7,oc C),(8,8,oc D),(9,9,oc E),(10,10,oc I)] (ay (ab (Ge ?_)));exact eB h (gg [] [0])
  refine au (aO ?_);exact eX h (gg [] [])
 refine av (ab (G (aw ?_)));obtain rfl:=sI h;exact RI [.str]
def dM(I J L:Int)(M:QK)(N:List uC)(O V X:Int)(Y:QK)(e:List uC)(f j p q:QK)(u v:Int):Option (XK×XK×XK×XK×QX×QX×QX×Int×Int) :=
 ((bB I J L M N).bind fun Z =>
 ((cX f Z).bind fun x =>
 ((bB O V X Y e).bind fun z =>
 ((cX j z).bind fun A =>
 ((cX p 3).bind fun B =>
 ((eP I J L M N).bind fun C =>
 ((eP O V X Y e).bind fun D =>
 ((eM q).bind fun E =>
 (if ¬(3:Int)=0 then(if ¬(3:Int)=0 then some (x,A,B,([(65,90,97),(97,122,97),(233,233,101)]:XK),C,D,E,(i64.wrap (1+(i64.wrap (Int.tmod u 3)))),(i64.wrap (1+(i64.wrap (Int.tmod v 3)))))else none)else none)))))))))
theorem od(u v e f j q:Bool){b1 b2 b3:Int}{b4:QK}{b5:List uC}{b6 b7 b8:Int}{b9:QK}{x:List uC}{z A B C:QK}{D E:Int}{I:XK×XK×XK×XK×QX×QX×QX×Int×Int}(h:dM b1 b2 b3 b4 b5 b6 b7 b8 b9 x z A B C D E=some I):
  Pure Tryz.prog 11 [.agg [.u8 b1,.u8 b2,.u8 b3,.p u (.slice (.int .u8)) b4,.p false (.slice (.prod (.int .u8) EJ)) b5,.u8 b6,.u8 b7,.u8 b8,.p v (.slice (.int .u8)) b9,.p false (.slice (.prod (.int .u8) EJ)) x,.p e (.slice (.int .u8)) z,.p f (.slice (.int .u8)) A,.p j (.slice (.int .u8)) B,.p q (.slice (.int .u8)) C,.u8 D,.u8 E]] (aM (bk false [⟨Y7,I⟩])):=by
 refine PB Tryz.func11 (fun Bw w0=>?_);unfold dM at h;refine G ?_;obtain⟨r9,q9,h⟩:=aj h;obtain⟨a7,Z,h⟩:=aj h;obtain⟨a8,a1,h⟩:=aj h;obtain⟨a9,a2,h⟩:=aj h;obtain⟨aa,a3,h⟩:=aj h;obtain⟨ac,a4,h⟩:=aj h;obtain⟨ad,a5,h⟩:=aj h;obtain⟨ax,a6,h⟩:=aj h;obtain⟨c3,c4,h⟩:=g2 h;have J:=(eg u false q9);have L:=(fH e Z);have M:=(eg v false a1);have N:=(fH f a2);have O:=(fH j a3);have V:=(jL u a4);have X:=(jL v a5);have Y:=(mA q a6);refine GD ⟨[],[(4,(oP J)),(5,(oP L)),(10,(oP M)),(11,(oP N)),(14,(oP O)),(21,(oP V)),(24,(oP X)),(27,(oP Y))]⟩ [(4,4,oc J),(5,5,oc L),(10,10,oc M),(11,11,oc N),(14,14,oc O),(21,21,oc V),(24,24,oc X),(27,27,oc Y),(30,30,oc c3),(35,35,oc c4)] (mi [.frzC 8 3] (by kernel_rfl) (aw ?_));obtain rfl:=sI h;exact RI [Y7]
def fG  : Option QQ :=
 some ([([9]:QX),([10]:QX),([32]:QX),([45]:QX),([97]:QX),([98]:QX),([99]:QX),([195,169]:QX),([204,129]:QX),([226,128,141]:QX),([228,184,173]:QX),([240,159,152,128]:QX),([255]:QX),([240,159]:QX)]:QQ)
theorem n8{e:QQ}(h:fG=some e):
  Pure Tryz.prog 35 [] (aM (bk false [⟨(.slice .str),e⟩])):=by
 refine PB Tryz.func35 (fun Bw w0=>?_);unfold fG at h;refine G (G (aw ?_));obtain rfl:=sI h;exact RI [(.slice .str)]
def dr(j:QK):tW→Option (tW⊕QK):=fun(e,f) =>
 (if(decide (f<(j.length:Int)))=true then((fG).bind fun p =>
 (if 0≤f∧f<(j.length:Int)then(if ¬(14:Int)=0 then(if 0≤(Int.tmod (i64.wrap (j.getD f.toNat 0)) (14:Int))∧(Int.tmod (i64.wrap (j.getD f.toNat 0)) (14:Int))<(p.length:Int)then(if e.length+(p.getD ((Int.tmod (i64.wrap (j.getD f.toNat 0)) (14:Int)).toNat) []).length≤140737488355328 then some (Sum.inl ((e++(cd (p.getD ((Int.tmod (i64.wrap (j.getD f.toNat 0)) (14:Int)).toNat) []))),(i64.wrap (f+1))))else none)else none)else none)else none))
 else some (Sum.inr e))
def dy(f:QK):Option QK :=
 ((iter (dr f) (([]:QK),0)).bind fun e=>some e)
theorem fZ(j:Bool){v q:QK}(h:dy v=some q):
  Pure Tryz.prog 13 [.p j (.slice (.int .u8)) v] (aM (bk false [⟨(.slice (.int .u8)),q⟩])):=by
 refine PB Tryz.func13 (fun Bw w0=>?_);unfold dy at h;refine G (G (af (G (ak (cH h (fun(e,C)=>aA [(0,.p j (.slice (.int .u8)) v),(3,.sl 0),(4,.i64 C)] [(0,.arr 5 (.int .u8) e)] 1) 0 (fun f=>aA [(3,.sl 0)] [(0,.arr 5 (.int .u8) f)] 1) (gg [.nilS 3 24 5 (.int .u8)] [24]) (fun y o h=>?_) (fun f h=>?_))))))
 ·obtain⟨e,C⟩:=y;unfold dr at h;refine af (G (aC h (fun D h=>?_) (fun D h=>?_)))
  ·refine ae (ab (af (ak ?_)));obtain⟨I,E,h⟩:=aj h;obtain⟨x,z,A,B,h⟩:=g4 h;have u:=(n8 E);refine mZ ⟨[],[(1,(oP u))]⟩ [(1,1,oc u),(4,4,oc x),(7,7,oc z),(8,8,oc A),(10,10,oc B)] (ay (ab (Ge ?_)));exact eB h (gg [] [113])
  refine au (aO ?_);exact eX h (gg [] [0])
 refine av (ab (G (aw ?_)));obtain rfl:=sI h;exact RI [(.slice (.int .u8))]
def dR(e f j p q:Int)(u:QJ):Option (Int×Int×Int×Int×Int×QJ) :=
 (if ¬(64:Int)=0 then(if ¬(2:Int)=0 then some ((i64.wrap (1+(i64.wrap e))),(i64.wrap (1+(i64.wrap (Int.tmod f 64)))),(Int.tmod j 2),(i64.wrap p),(i64.wrap q),u)else none)else none)
theorem m6{f j q u v:Int}{x:QJ}{e:Int×Int×Int×Int×Int×QJ}(h:dR f j q u v x=some e):
  Pure Tryz.prog 17 [.agg [.u8 f,.u8 j,.u8 q,.p false (.int .u16) u,.p false (.int .u16) v,.p false .flt x]] (aM (bk false [⟨LY,e⟩])):=by
 refine PB Tryz.func17 (fun Bw w0=>?_);unfold dR at h;refine G ?_;obtain⟨z,A,h⟩:=g2 h;refine GN a0 [(6,6,oc z),(11,11,oc A)] (aw ?_);obtain rfl:=sI h;exact RI [LY]
def bK(f j:Qj):(Int)→Option ((Int)⊕((Unit)⊕(Bool))):=fun e =>
 (if(decide (e<(f.length:Int)))=true then(if 0≤e∧e<(f.length:Int)then(if 0≤e∧e<(j.length:Int)then(if(!((((f.getD e.toNat (0,0,0,0)).1) == ((j.getD e.toNat (0,0,0,0)).1)) && ((((f.getD e.toNat (0,0,0,0)).2.1) == ((j.getD e.toNat (0,0,0,0)).2.1)) && ((((f.getD e.toNat (0,0,0,0)).2.2.1) == ((j.getD e.toNat (0,0,0,0)).2.2.1)) && (((f.getD e.toNat (0,0,0,0)).2.2.2) == ((j.getD e.toNat (0,0,0,0)).2.2.2))))))=true then some (Sum.inr (Sum.inr false))
 else some (Sum.inl (i64.wrap (e+1))))else none)else none)
 else some (Sum.inr (Sum.inl ())))
def cI(e:Qj)(j:Bool)(f:Qj)(p:Bool):Option (Bool) :=
 (((if((e.length:Int) != (f.length:Int))=true then some (true)
 else some ((!(j == p))))).bind fun v1=>(if v1=true then some false
 else((iter (bK e f) (0:Int)).bind fun(q:((Unit)⊕(Bool)))=>match q with
 | .inl _=>some true
 | .inr (u)=>some u)))
theorem gv(f j:Bool){u:Qj}{v:Bool}{x:Qj}{z q:Bool}(h:cI u v x z=some q):
  Pure Tryz.prog 20 [.agg [.p f (.slice db) u,.bo v],.agg [.p j (.slice db) x,.bo z]] (aM (bk false [⟨.bool,q⟩])):=by
 refine PB Tryz.func20 (fun Bw w0=>?_);unfold cI at h;refine G (af (af (bn h (fun v1=>aA [(2,.adr 0 0 2 0),(3,.adr 1 0 2 0),(19,.bo v1)] (II f u v j x z) 2) (fun v1 h=>?_) (fun v1 h=>?_))))
 ·rcases aL h with⟨A,h⟩ | ⟨A,h⟩
  ·exact bu ⟨[(7,true),(13,true)],[]⟩ [(8,13,oc A)] (eN h (gg [] [0,8]))
  exact bu ⟨[(7,false),(13,false)],[]⟩ [(8,12,an A),(13,13,oc A)] (eN h (gg [] [0,8]))
 refine ab (aC h (fun M h=>?_) (fun M h=>?_))
 ·refine G (aw (ai ?_));obtain rfl:=sI h;exact RI [.bool]
 refine ae (ab (af (G (ak (jT h (fun I=>aA [(2,.adr 0 0 2 0),(3,.adr 1 0 2 0),(5,.i64 I)] (II f u v j x z) 2) (dc (eO Tryz.f20.ntmps 0 (fun _=>aA [] [] 0)) (fQ tb Tryz.f20.results.toList (fun J=>[⟨.bool,J⟩]))) (gg [] [0,1]) (fun I o h=>?_) (fun N h e σ' L=>?_))))))
 ·unfold bK at h;refine af (G (aC h (fun O h=>?_) (fun O h=>?_)))
  ·refine ae (ab (af (ak ?_)));obtain⟨B,C,h⟩:=g2 h;refine GD a0 [(3,3,oc B),(8,8,oc C),(10,10,oc Ik)] (aC h (fun D h=>?_) (fun D h=>?_))
   ·refine G (aw ?_);obtain rfl:=sI h;refine az (ai (bG (aK ?_)));exact bH (RI [.bool])
   refine ae (ay (ab (Ge ?_)));exact eB h (gg [] [0,1])
  refine au (aO ?_);obtain rfl:=sI h;refine dI (bf ?_);exact bM (gg [] [])
 rcases N with _ | J
 ·obtain⟨rfl,E⟩:=L;refine cz ?_ E;refine av (ab (G (aw ?_)));obtain rfl:=sI h;exact RI [.bool]
 obtain⟨rfl,V⟩:=L;refine az (ai ?_);obtain rfl:=sI h;exact V
def bQ(f j:Qj):(Int)→Option ((Int)⊕((Unit)⊕(Bool))):=fun e =>
 (if(decide (e<(f.length:Int)))=true then(if 0≤e∧e<(f.length:Int)then(if 0≤e∧e<(j.length:Int)then(if(!((((f.getD e.toNat (0,0,0,0)).1) == ((j.getD e.toNat (0,0,0,0)).1)) && ((((f.getD e.toNat (0,0,0,0)).2.1) == ((j.getD e.toNat (0,0,0,0)).2.1)) && ((((f.getD e.toNat (0,0,0,0)).2.2.1) == ((j.getD e.toNat (0,0,0,0)).2.2.1)) && (((f.getD e.toNat (0,0,0,0)).2.2.2) == ((j.getD e.toNat (0,0,0,0)).2.2.2))))))=true then some (Sum.inr (Sum.inr false))
 else some (Sum.inl (i64.wrap (e+1))))else none)else none)
 else some (Sum.inr (Sum.inl ())))
def bS(f j:QK):(Int)→Option ((Int)⊕((Unit)⊕(Bool))):=fun e =>
 (if(decide (e<(f.length:Int)))=true then(if 0≤e∧e<(f.length:Int)then(if 0≤e∧e<(j.length:Int)then(if((f.getD e.toNat 0) != (j.getD e.toNat 0))=true then some (Sum.inr (Sum.inr false))
 else some (Sum.inl (i64.wrap (e+1))))else none)else none)
 else some (Sum.inr (Sum.inl ())))
def dq(e:Qj)(f:QK)(j:Qj)(p:QK):Option (Bool) :=
 (((if((e.length:Int) != (j.length:Int))=true then some (true)
 else some (((f.length:Int) != (p.length:Int))))).bind fun v1=>(if v1=true then some false
 else((iter (bQ e j) (0:Int)).bind fun(q:((Unit)⊕(Bool)))=>match q with
 | .inl _=>((iter (bS f p) (0:Int)).bind fun(u:((Unit)⊕(Bool)))=>match u with
 | .inl _=>some true
 | .inr (v)=>some v)
 | .inr (x)=>some x)))
theorem mq(f j q u:Bool){x:Qj}{z:QK}{A:Qj}{B:QK}{C:Bool}(h:dq x z A B=some C):
  Pure Tryz.prog 16 [.agg [.p f (.slice db) x,.p j (.slice (.int .u8)) z],.agg [.p q (.slice db) A,.p u (.slice (.int .u8)) B]] (aM (bk false [⟨.bool,C⟩])):=by
 refine PB Tryz.func16 (fun Bw w0=>?_);unfold dq at h;refine G (af (af (bn h (fun v1=>aA [(2,.adr 0 0 2 0),(3,.adr 1 0 2 0),(22,.bo v1)] (C9 f x j z q A u B) 2) (fun v1 h=>?_) (fun v1 h=>?_))))
 ·rcases aL h with⟨E,h⟩ | ⟨E,h⟩
  ·exact bu ⟨[(7,true),(15,true)],[]⟩ [(8,15,oc E)] (eN h (gg [] [0,8]))
  exact bu ⟨[(7,false),(15,false)],[]⟩ [(8,14,an E),(15,15,oc E)] (eN h (gg [] [0,8]))
 refine ab (aC h (fun B4 h=>?_) (fun B4 h=>?_))
 ·refine G (aw (ai ?_));obtain rfl:=sI h;exact RI [.bool]
 refine ae (ab (af (G (ak (jT h (fun Y=>aA [(2,.adr 0 0 2 0),(3,.adr 1 0 2 0),(5,.i64 Y)] (C9 f x j z q A u B) 2) (dc (eO Tryz.f16.ntmps 0 (fun _=>aA [(2,.adr 0 0 2 0),(3,.adr 1 0 2 0)] (C9 f x j z q A u B) 2)) (fQ tb Tryz.f16.results.toList (fun Z=>[⟨.bool,Z⟩]))) (gg [] [0,1]) (fun Y o h=>?_) (fun r2 h e σ' D=>?_))))))
 ·unfold bQ at h;refine af (G (aC h (fun B9 h=>?_) (fun B9 h=>?_)))
  ·refine ae (ab (af (ak ?_)));obtain⟨I,J,h⟩:=g2 h;refine GD a0 [(3,3,oc I),(8,8,oc J),(10,10,oc Lu)] (aC h (fun L h=>?_) (fun L h=>?_))
   ·refine G (aw ?_);obtain rfl:=sI h;refine az (ai (bG (aK ?_)));exact bH (RI [.bool])
   refine ae (ay (ab (Ge ?_)));exact eB h (gg [] [0,1])
  refine au (aO ?_);obtain rfl:=sI h;refine dI (bf ?_);exact bM (gg [] [0,1])
 rcases r2 with _ | Z
 ·obtain⟨rfl,v⟩:=D;refine cz ?_ v;refine av (ab (af (G (ak (jT h (fun i4=>aA [(2,.adr 0 0 2 0),(3,.adr 1 0 2 0),(6,.i64 i4)] (C9 f x j z q A u B) 2) (dc (eO Tryz.f16.ntmps 2 (fun _=>aA [] [] 0)) (fQ tb Tryz.f16.results.toList (fun r3=>[⟨.bool,r3⟩]))) (gg [] [0,1]) (fun i4 o h=>?_) (fun r4 h e σ' D=>?_))))))
  ·unfold bS at h;refine af (G (aC h (fun M h=>?_) (fun M h=>?_)))
   ·refine ae (ab (af (ak ?_)));obtain⟨N,O,h⟩:=g2 h;refine GD a0 [(3,3,oc N),(8,8,oc O)] (aC h (fun V h=>?_) (fun V h=>?_))
    ·refine G (aw ?_);obtain rfl:=sI h;refine az (ai (bG (aK ?_)));exact bH (RI [.bool])
    refine ae (ay (ab (Ge ?_)));exact eB h (gg [] [0,1])
   refine au (aO ?_);obtain rfl:=sI h;refine dI (bf ?_);exact bM (gg [] [])
  rcases r4 with _ | r3
  ·obtain⟨rfl,v⟩:=D;refine cz ?_ v;refine av (ab (G (aw ?_)));obtain rfl:=sI h;exact RI [.bool]
  obtain⟨rfl,X⟩:=D;refine az (ai ?_);obtain rfl:=sI h;exact X
 obtain⟨rfl,X⟩:=D;refine az (ai ?_);obtain rfl:=sI h;exact X
def bT(e:Qj):(Qj×Int)→Option ((Qj×Int)⊕(Unit)):=fun(v10,v11) =>
 (if(decide (v11<(e.length:Int)))=true then(if 0≤v11∧v11<(v10.length:Int)then(if v11.toNat<v10.length then some (Sum.inl ((v10.set v11.toNat (0,0,0,0)),(i64.wrap (v11+1))))else none)else none)
 else some (Sum.inr ()))
def bR(v6:QK):tW→Option (tW⊕(Unit)):=fun(f,e) =>
 (if(decide (e<(v6.length:Int)))=true then(if 0≤e∧e<(f.length:Int)then(if e.toNat<f.length then some (Sum.inl ((f.set e.toNat 4),(i64.wrap (e+1))))else none)else none)
 else some (Sum.inr ()))
def dg(d1 d2 d3:Int)(d4:QK)(d5:List uC)(d6 d7 d8:Int)(d9:QK)(u:List uC)(v x z A:QK)(B C i1 i2 i3 i4 i5:Int)(i6:QJ)(x1 x2:QK):Option (Bool) :=
 ((fc).bind fun r2 =>
 (if(!r2)=true then some false
 else(((if(decide ((x1.length:Int) > 100))=true then some (true)
 else some ((decide ((x2.length:Int) > 100))))).bind fun v1=>(if v1=true then some true
 else((dM d1 d2 d3 d4 d5 d6 d7 d8 d9 u v x z A B C).bind fun j =>
 ((jO j.1 j.2.1 j.2.2.1 j.2.2.2.1 j.2.2.2.2.1 j.2.2.2.2.2.1 j.2.2.2.2.2.2.1 j.2.2.2.2.2.2.2.1 j.2.2.2.2.2.2.2.2).bind fun(p,r8) =>
 (if(r8.1 != 0)=true then some p.isNone
 else((dy x1).bind fun f =>
 ((dR i1 i2 i3 i4 i5 i6).bind fun e =>
 (if(([]:QK).length+f.length)*1≤140737488355328∧([]:QK).length+f.length≤9223372036854775807 then((((cy p (([]:QK)++f) e.1 e.2.1 e.2.2.1 e.2.2.2.1 e.2.2.2.2.1 e.2.2.2.2.2).bind fun(z3:((Int×Bool)⊕(Int×Qj×Bool)))=>match z3 with
 | .inl (D,E)=>some ((([]:Qj),E,D))
 | .inr (I,J,L)=>some ((J,L,I)))).bind fun(q,v3,v4)=>((((aZ p (([]:QK)++f)).bind fun(z6:((Int)⊕(Int×Qj×QK)))=>match z6 with
 | .inl M=>some ((([]:Qj),([]:QK),M))
 | .inr (N,O,V)=>some ((O,V,N)))).bind fun(X,v6,v7)=>(if(([]:Qj).length+q.length)*32≤140737488355328∧([]:Qj).length+q.length≤9223372036854775807 then(if(([]:Qj).length+X.length)*32≤140737488355328∧([]:Qj).length+X.length≤9223372036854775807 then(if(([]:QK).length+v6.length)*1≤140737488355328∧([]:QK).length+v6.length≤9223372036854775807 then((iter (bT q) (q,0)).bind fun _=>((iter (bR v6) (v6,0)).bind fun _=>((((dy x2).bind fun Y =>
 ((cy p Y e.1 e.2.1 e.2.2.1 e.2.2.2.1 e.2.2.2.2.1 e.2.2.2.2.2).bind fun(z9:((Int×Bool)⊕(Int×Qj×Bool)))=>match z9 with
 | .inl (b6,b7)=>some (())
 | .inr (b8,b9,be)=>some (())))).bind fun _=>((((cy p f e.1 e.2.1 e.2.2.1 e.2.2.2.1 e.2.2.2.2.1 e.2.2.2.2.2).bind fun(Z:((Int×Bool)⊕(Int×Qj×Bool)))=>match Z with
 | .inl (a1,a2)=>some ((([]:Qj),a2,a1))
 | .inr (a3,a4,a5)=>some ((a4,a5,a3)))).bind fun(a6,a7,a8)=>((((aZ p f).bind fun(a9:((Int)⊕(Int×Qj×QK)))=>match a9 with
 | .inl aa=>some ((([]:Qj),([]:QK),aa))
 | .inr (ac,ad,ax)=>some ((ad,ax,ac)))).bind fun(b1,v20,b2)=>(((if(v4 == 0)=true then(if(v7 == 0)=true then(if(a8 == 0)=true then(if(b2 == 0)=true then(if((bytesOf (([]:QK)++f)) == (bytesOf f))=true then((cI a6 a7 (([]:Qj)++q) v3).bind fun b3 =>
 (if b3=true then((dq b1 v20 (([]:Qj)++X) (([]:QK)++v6)).bind fun b4 =>
 some (b4))
 else some (false)))
 else some (false))
 else some (false))
 else some (false))
 else some (false))
 else some (false))).bind fun b5=>some b5))))))else none)else none)else none)))else none))))))))))
theorem my(a1 a2 E I J L M u:Bool){d1 d2 d3:Int}{d4:QK}{d5:List uC}{d6 d7 d8:Int}{d9:QK}{a3:List uC}{a4 a5 a6 a7:QK}{a8 a9 i1 i2 i3 i4 i5:Int}{i6:QJ}{x1 X:QK}{b1:Bool}(h:dg d1 d2 d3 d4 d5 d6 d7 d8 d9 a3 a4 a5 a6 a7 a8 a9 i1 i2 i3 i4 i5 i6 x1 X=some b1):
  Pure Tryz.prog 7 [.agg [.u8 d1,.u8 d2,.u8 d3,.p a1 (.slice (.int .u8)) d4,.p false (.slice (.prod (.int .u8) EJ)) d5,.u8 d6,.u8 d7,.u8 d8,.p a2 (.slice (.int .u8)) d9,.p false (.slice (.prod (.int .u8) EJ)) a3,.p E (.slice (.int .u8)) a4,.p I (.slice (.int .u8)) a5,.p J (.slice (.int .u8)) a6,.p L (.slice (.int .u8)) a7,.u8 a8,.u8 a9],.agg [.u8 i1,.u8 i2,.u8 i3,.p false (.int .u16) i4,.p false (.int .u16) i5,.p false .flt i6],.p M (.slice (.int .u8)) x1,.p u (.slice (.int .u8)) X] (aM (bk false [⟨.bool,b1⟩])):=by
 refine PB Tryz.func7 (fun Bw w0=>?_);unfold dg at h;refine G (af ?_);obtain⟨r2,q2,h⟩:=aj h;refine GP 0 (oA q2) (aC h (fun B1 h=>?_) (fun B1 h=>?_))
 ·refine G (aw (ai ?_));obtain rfl:=sI h;exact RI [.bool]
 refine ae (ab (af (af (bn h (fun v1=>aA [(2,.p M (.slice (.int .u8)) x1),(3,.p u (.slice (.int .u8)) X),(4,.adr 0 0 16 0),(5,.adr 1 0 6 0),(35,.bo v1)] (Ky d1 d2 d3 a1 d4 d5 d6 d7 d8 a2 d9 a3 E a4 I a5 J a6 L a7 a8 a9 i1 i2 i3 i4 i5 i6) 2) (fun v1 h=>?_) (fun v1 h=>?_)))))
 ·rcases aL h with⟨B4,h⟩ | ⟨B4,h⟩
  ·exact bu ⟨[(3,true),(7,true)],[]⟩ [(4,7,oc B4)] (eN h (gg [] [0,8]))
  exact bu ⟨[(3,false),(7,false)],[]⟩ [(4,6,an B4),(7,7,oc B4)] (eN h (gg [] [0,8]))
 refine ab (aC h (fun B5 h=>?_) (fun B5 h=>?_))
 ·refine G (aw (ai ?_));obtain rfl:=sI h;exact RI [.bool]
 refine ae (ab ?_);obtain⟨r6,q5,h⟩:=aj h;obtain⟨⟨Z,r8⟩,q6,h⟩:=aj h;have q:=(od a1 a2 E I J L q5);have v:=(tG false false false false q6);refine GN ⟨[],[(1,(oP q)),(2,(oP v))]⟩ [(1,1,oc q),(2,2,oc v)] (af (G (aC h (fun B6 h=>?_) (fun B6 h=>?_))))
 ·refine GN a0 [(1,1,⟨∃e,Tryz.prog.underlying 29=some (.pointer e),⟨_,rfl⟩⟩)] (aw (ai ?_));obtain rfl:=sI h;exact RI [.bool]
 refine ae (ab ?_);obtain⟨j,q9,h⟩:=aj h;obtain⟨f,c3,h⟩:=aj h;have q:=(fZ M q9);have v:=(m6 c3);refine GD ⟨[],[(1,(oP q)),(3,(oP v))]⟩ [(1,1,oc q),(3,3,oc v)] (GC 2 h (fun h=>af (bn h (fun(N,O,v4)=>aA [(3,.p u (.slice (.int .u8)) X),(9,.p false (.ptr tf) Z),(11,.p false (.slice (.int .u8)) j),(12,.adr 0 0 6 0),(13,.sl 1),(14,.adr 2 0 2 0),(15,.i64 v4)] (Lc f.1 f.2.1 f.2.2.1 f.2.2.2.1 f.2.2.2.2.1 f.2.2.2.2.2 (([]:QK)++j) O N) 4) (fun b2 h=>?_) (fun b2 h=>?_))))
 ·obtain⟨z3,b3,h⟩:=aj h;rcases z3 with⟨dd,de⟩ | ⟨di,dk,dm⟩
  ·exact jY 3 [] (cN true b3) (eN h (gg [.nilC 242 0 266 93 db] [130,170,242,266]))
  exact jY 3 [] (cN true b3) (eN h (gg [] [130,170,242,210]))
 obtain⟨N,O,v4⟩:=b2;refine ab (af (bn h (fun(D,v6,Y)=>aA [(3,.p u (.slice (.int .u8)) X),(9,.p false (.ptr tf) Z),(11,.p false (.slice (.int .u8)) j),(12,.adr 0 0 6 0),(13,.sl 1),(14,.adr 2 0 2 0),(15,.i64 v4),(16,.adr 4 0 2 0),(17,.i64 Y)] (FZ f.1 f.2.1 f.2.2.1 f.2.2.2.1 f.2.2.2.2.1 f.2.2.2.2.2 (([]:QK)++j) O N D v6) 7) (fun b4 h=>?_) (fun b4 h=>?_)))
 ·obtain⟨z6,b5,h⟩:=aj h;rcases z6 with ds | ⟨dt,du,e1⟩
  ·exact jY 2 [] (dL true b5) (eN h (gg [.nilC 52 0 76 90 db,.nilC 52 1 77 91 (.int .u8)] [0,1,2,3,52,76,77]))
  exact jY 2 [] (dL true b5) (eN h (gg [] [0,1,2,3,52,20,21]))
 obtain⟨D,v6,Y⟩:=b4;refine ab ?_;obtain⟨c4,h⟩:=aE h;refine GD a0 [(3,3,oc c4)] ?_;obtain⟨c7,c8,h⟩:=g2 h;refine GD a0 [(3,3,oc c7),(7,7,oc c8)] (af (G (ak ?_)));refine cH h (fun(v10,v11)=>aA [(3,.p u (.slice (.int .u8)) X),(9,.p false (.ptr tf) Z),(11,.p false (.slice (.int .u8)) j),(12,.adr 0 0 6 0),(13,.sl 1),(14,.adr 2 0 2 0),(15,.i64 v4),(16,.adr 4 0 2 0),(17,.i64 Y),(18,.adr 7 0 2 0),(19,.adr 9 0 2 0),(85,.i64 (N.length:Int)),(86,.i64 v11)] (Ks f.1 f.2.1 f.2.2.1 f.2.2.2.1 f.2.2.2.2.1 f.2.2.2.2.2 (([]:QK)++j) O v10 D v6 O (([]:Qj)++N) (([]:Qj)++D) (([]:QK)++v6)) 12) 0 (fun _=>aA [(3,.p u (.slice (.int .u8)) X),(9,.p false (.ptr tf) Z),(11,.p false (.slice (.int .u8)) j),(12,.adr 0 0 6 0),(13,.sl 1),(15,.i64 v4),(16,.adr 2 0 2 0),(17,.i64 Y),(18,.adr 5 0 2 0),(19,.adr 7 0 2 0)] (IQ f.1 f.2.1 f.2.2.1 f.2.2.2.1 f.2.2.2.2.1 f.2.2.2.2.2 (([]:QK)++j) D v6 O (([]:Qj)++N) (([]:Qj)++D) (([]:QK)++v6)) 10) (gg [] [0,1,2,3,4,5,6,63,31,151,103,135]) (fun y o h=>?_) (fun e2 h=>?_)
 ·obtain⟨v10,v11⟩:=y;unfold bT at h;refine G (af (aC h (fun B9 h=>?_) (fun B9 h=>?_)))
  ·refine ae (ab (af (ak (G ?_))));obtain⟨c5,c6,h⟩:=g2 h;refine bu a0 [(4,4,oc c5),(5,5,oc c6)] (ay (ab (Ge ?_)));exact eB h (gg [] [0,1,2,3,4,5,6,7,8,9,10,11])
  refine au (aO ?_);exact eX h (gg [] [0,1,4,5,6,7,8,9,10,11])
 refine av (ab (af (G (ak ?_))));refine cH h (fun(b6,b7)=>aA [(3,.p u (.slice (.int .u8)) X),(9,.p false (.ptr tf) Z),(11,.p false (.slice (.int .u8)) j),(12,.adr 0 0 6 0),(13,.sl 1),(15,.i64 v4),(16,.adr 2 0 2 0),(17,.i64 Y),(18,.adr 5 0 2 0),(19,.adr 7 0 2 0),(97,.i64 (v6.length:Int)),(98,.i64 b7)] (IQ f.1 f.2.1 f.2.2.1 f.2.2.2.1 f.2.2.2.2.1 f.2.2.2.2.2 (([]:QK)++j) D b6 O (([]:Qj)++N) (([]:Qj)++D) (([]:QK)++v6)) 10) 2 (fun _=>aA [(3,.p u (.slice (.int .u8)) X),(9,.p false (.ptr tf) Z),(11,.p false (.slice (.int .u8)) j),(12,.adr 0 0 6 0),(13,.sl 1),(15,.i64 v4),(17,.i64 Y),(18,.adr 2 0 2 0),(19,.adr 4 0 2 0)] (FZ f.1 f.2.1 f.2.2.1 f.2.2.2.1 f.2.2.2.2.1 f.2.2.2.2.2 (([]:QK)++j) O (([]:Qj)++N) (([]:Qj)++D) (([]:QK)++v6)) 7) (gg [] [0,1,2,3,4,5,6,7,8,9]) (fun y o h=>?_) (fun e3 h=>?_)
 ·obtain⟨b6,b7⟩:=y;unfold bR at h;refine G (af (aC h (fun c9 h=>?_) (fun c9 h=>?_)))
  ·refine ae (ab (af (ak (G ?_))));obtain⟨cc,ch,h⟩:=g2 h;refine bu a0 [(3,3,oc cc),(4,4,oc ch)] (ay (ab (Ge ?_)));exact eB h (gg [] [0,1,2,3,4,5,6,7,8,9])
  refine au (aO ?_);exact eX h (gg [] [0,1,5,6,7,8,9])
 refine av (ab (af (bn h (fun _=>aA [(9,.p false (.ptr tf) Z),(11,.p false (.slice (.int .u8)) j),(12,.adr 0 0 6 0),(13,.sl 1),(15,.i64 v4),(17,.i64 Y),(18,.adr 2 0 2 0),(19,.adr 4 0 2 0)] (FZ f.1 f.2.1 f.2.2.1 f.2.2.2.1 f.2.2.2.2.1 f.2.2.2.2.2 (([]:QK)++j) O (([]:Qj)++N) (([]:Qj)++D) (([]:QK)++v6)) 7) (fun cl h=>?_) (fun cl h=>?_))))
 ·obtain⟨e4,b8,h⟩:=aj h;obtain⟨z9,b9,h⟩:=aj h;rcases z9 with⟨e5,e6⟩ | ⟨e7,e8,e9⟩
  ·have q:=(fZ u b8);have v:=(cN false b9);exact mZ ⟨[],[(2,(oP q)),(4,(oO v []))]⟩ [(2,2,oc q),(4,4,oc v)] (eN h (gg [] [0,1,2,3,4,5,6]))
  have q:=(fZ u b8);have v:=(cN false b9);exact mZ ⟨[],[(2,(oP q)),(4,(oO v []))]⟩ [(2,2,oc q),(4,4,oc v)] (eN h (gg [] [0,1,2,3,4,5,6]))
 refine ab (af (bn h (fun(aa,ac,ad)=>aA [(9,.p false (.ptr tf) Z),(11,.p false (.slice (.int .u8)) j),(13,.sl 0),(15,.i64 v4),(17,.i64 Y),(18,.adr 1 0 2 0),(19,.adr 3 0 2 0),(22,.adr 6 0 2 0),(23,.i64 ad)] (KJ (([]:QK)++j) O (([]:Qj)++N) (([]:Qj)++D) (([]:QK)++v6) ac aa) 8) (fun be h=>?_) (fun be h=>?_)))
 ·obtain⟨cp,bi,h⟩:=aj h;rcases cp with⟨ea,eb⟩ | ⟨ec,ed,ef⟩
  ·exact jY 3 [] (cN false bi) (eN h (gg [.nilC 63 0 87 93 db] [1,2,3,4,5,6,63,87]))
  exact jY 3 [] (cN false bi) (eN h (gg [] [1,2,3,4,5,6,63,31]))
 obtain⟨aa,ac,ad⟩:=be;refine ab (af (bn h (fun(bs,v20,bv)=>aA [(11,.p false (.slice (.int .u8)) j),(13,.sl 0),(15,.i64 v4),(17,.i64 Y),(18,.adr 1 0 2 0),(19,.adr 3 0 2 0),(22,.adr 6 0 2 0),(23,.i64 ad),(24,.adr 8 0 2 0),(25,.i64 bv)] (KN (([]:QK)++j) O (([]:Qj)++N) (([]:Qj)++D) (([]:QK)++v6) ac aa bs v20) 11) (fun bx h=>?_) (fun bx h=>?_)))
 ·obtain⟨cs,c1,h⟩:=aj h;rcases cs with eh | ⟨ei,ej,ek⟩
  ·exact jY 2 [] (dL false c1) (eN h (gg [.nilC 56 0 80 90 db,.nilC 56 1 81 91 (.int .u8)] [0,1,2,3,4,5,6,7,56,80,81]))
  exact jY 2 [] (dL false c1) (eN h (gg [] [0,1,2,3,4,5,6,7,56,24,25]))
 obtain⟨bs,v20,bv⟩:=bx;refine ab (af (bn h (fun ax=>aA [(8,.bo ax)] [] 0) (fun ax h=>?_) (fun ax h=>?_)))
 ·rcases aL h with⟨x,h⟩ | ⟨x,h⟩
  ·rcases aL h with⟨z,h⟩ | ⟨z,h⟩
   ·rcases aL h with⟨A,h⟩ | ⟨A,h⟩
    ·rcases aL h with⟨B,h⟩ | ⟨B,h⟩
     ·rcases aL h with⟨C,h⟩ | ⟨C,h⟩
      ·obtain⟨el,c2,h⟩:=aj h;rcases aL h with⟨V,h⟩ | ⟨V,h⟩
       ·obtain⟨ep,cx,h⟩:=aj h;have q:=(gv true true c2);have v:=(mq true true true true cx);exact bu ⟨[(2,true),(5,true),(6,true),(9,true),(10,true),(13,true),(14,true),(20,true),(21,true),(25,true),(26,true),(30,true)],[(24,(oP q)),(29,(oP v))]⟩ [(3,4,an x),(5,5,oc x),(7,8,an z),(9,9,oc z),(11,12,an A),(13,13,oc A),(15,19,an B),(20,20,oc B),(22,23,an C),(24,24,oc (And.intro C q)),(25,25,oc C),(27,28,an V),(29,29,oc (And.intro V v)),(30,30,oc V)] (eN h (gg [] []))
       have q:=(gv true true c2);exact bu ⟨[(2,true),(5,true),(6,true),(9,true),(10,true),(13,true),(14,true),(20,true),(21,true),(25,true),(26,false),(30,false)],[(24,(oP q))]⟩ [(3,4,an x),(5,5,oc x),(7,8,an z),(9,9,oc z),(11,12,an A),(13,13,oc A),(15,19,an B),(20,20,oc B),(22,23,an C),(24,24,oc (And.intro C q)),(25,25,oc C),(27,30,oc V)] (eN h (gg [] []))
      exact bu ⟨[(2,true),(5,true),(6,true),(9,true),(10,true),(13,true),(14,true),(20,true),(21,false),(25,false)],[]⟩ [(3,4,an x),(5,5,oc x),(7,8,an z),(9,9,oc z),(11,12,an A),(13,13,oc A),(15,19,an B),(20,20,oc B),(22,25,oc C)] (eN h (gg [] []))
     exact bu ⟨[(2,true),(5,true),(6,true),(9,true),(10,true),(13,true),(14,false),(20,false)],[]⟩ [(3,4,an x),(5,5,oc x),(7,8,an z),(9,9,oc z),(11,12,an A),(13,13,oc A),(15,20,oc B)] (eN h (gg [] []))
    exact bu ⟨[(2,true),(5,true),(6,true),(9,true),(10,false),(13,false)],[]⟩ [(3,4,an x),(5,5,oc x),(7,8,an z),(9,9,oc z),(11,13,oc A)] (eN h (gg [] []))
   exact bu ⟨[(2,true),(5,true),(6,false),(9,false)],[]⟩ [(3,4,an x),(5,5,oc x),(7,9,oc z)] (eN h (gg [] []))
  exact bu ⟨[(2,false),(5,false)],[]⟩ [(3,5,oc x)] (eN h (gg [] []))
 refine ab (aw ?_);obtain rfl:=sI h;exact RI [.bool]
end
end Go.Proofs.YtflahpmlcfhpcaaGreatDoor.T
