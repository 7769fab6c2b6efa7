/- Functions of the program as functions on data, and that the program's own come to them. -/
import Derived.Test.YtmcemnfjddoejaaGreatDoorTvT23a0
import Derived.Test.YtmcemnfjddoejaaGreatDoorTvT23aa3
namespace Go.Proofs.YtmcemnfjddoejaaGreatDoor.T
open Go Go.Tv Go.Proofs
open Go.IntKind (i64 u64)
noncomputable section
set_option maxRecDepth 100000
set_option maxHeartbeats 4000000
def fx(m:List Z2)(k:List Int)(e p q u v x z:Int)(A:Option Nat):((List (Int×Int))×Int)→Option (((List (Int×Int))×Int)⊕(List (Int×Int))):=fun(f,c) =>
 (if(decide (c≥e))=true then(if 0≤(i64.wrap (c - e))∧(i64.wrap (c - e))<(f.length:Int)then(if(i64.wrap (c - e)).toNat<f.length then(((if(c == e)=true then some (true)
 else(if 0≤c∧c<(k.length:Int)then some (((k.getD c.toNat 0) != 0))else none))).bind fun v10=>(((if v10=true then((mI m k c e p (f.set ((i64.wrap (c - e)).toNat) (0,(-1:Int))) q u v x z A).bind fun j =>
 (if 0≤(i64.wrap (c - e))∧(i64.wrap (c - e))<((f.set ((i64.wrap (c - e)).toNat) (0,(-1:Int))).length:Int)then(if(i64.wrap (c - e)).toNat<(f.set ((i64.wrap (c - e)).toNat) (0,(-1:Int))).length then some (((f.set ((i64.wrap (c - e)).toNat) (0,(-1:Int))).set ((i64.wrap (c - e)).toNat) (j.1,j.2)))else none)else none))
 else some ((f.set ((i64.wrap (c - e)).toNat) (0,(-1:Int)))))).bind fun v11=>some (Sum.inl (v11,(i64.wrap (c - 1))))))else none)else none)
 else some (Sum.inr f))
def fp(p:List Z2)(m:List Int)(j q u:Int)(k:List (Int×Int)):((List Z2)×Int)→Option (((List Z2)×Int)⊕(List Z2)):=fun(f,e) =>
 (if(decide (e<q))=true then(if 0≤(i64.wrap (e - j))∧(i64.wrap (e - j))<(k.length:Int)then(if(i64.wrap (e - j)).toNat<k.length then(if 0≤(k.getD ((i64.wrap (e - j)).toNat) (0,0)).2∧(k.getD ((i64.wrap (e - j)).toNat) (0,0)).2<(m.length:Int)then((jo p m e ((k.getD ((i64.wrap (e - j)).toNat) (0,0)).2) (m.getD (((k.getD ((i64.wrap (e - j)).toNat) (0,0)).2).toNat) 0) u).bind fun c =>
 (if(f.length+([(c.1,c.2.1,c.2.2.1,c.2.2.2)]:List Z2).length)*32≤140737488355328∧f.length+([(c.1,c.2.1,c.2.2.1,c.2.2.2)]:List Z2).length≤9223372036854775807 then some (Sum.inl ((f++([(c.1,c.2.1,c.2.2.1,c.2.2.2)]:List Z2)),(k.getD ((i64.wrap (e - j)).toNat) (0,0)).2))else none))else none)else none)else none)
 else some (Sum.inr f))
def lE(k:List Z2)(m:List Int)(c e q p u v z:Int)(A:Option Nat):Option ((List Z2)×Bool) :=
 (if(decide (c≥e))=true then some (([]:List Z2),true)
 else(if 0≤(i64.wrap ((i64.wrap (e - c))+1))∧(i64.wrap ((i64.wrap (e - c))+1))≤(i64.wrap ((i64.wrap (e - c))+1))∧16*(i64.wrap ((i64.wrap (e - c))+1))≤281474976710656∧(i64.wrap ((i64.wrap (e - c))+1))≤9223372036854775807 then((iter (fx k m c e q p u v z A) ((List.replicate (i64.wrap ((i64.wrap (e - c))+1)).toNat (0,0)),(i64.wrap (e - 1)))).bind fun f=>(if 0≤(0:Int)∧0<(f.length:Int)then(if(0:Int).toNat<f.length then(if(decide (((f.getD ((0:Int).toNat) (0,0)).2)<0))=true then some (([]:List Z2),false)
 else((iter (fp k m c e p f) (([]:List Z2),c)).bind fun j=>some (j,true)))else none)else none))else none))
theorem yw(c e:Bool){m:List Z2}{q:List Int}{k u:Int}{v x:Int}{z A B:Int}{C:Option Nat}{D:(List Z2)×Bool}(h:lE m q k u v x z A B C=some D):
  Pure Tryz.prog 87 [.agg [.p c (.slice Y9) m,.p e (.slice (.int .u8)) q],.i64 k,.i64 u,.agg [.i64 v,.i64 x,.u8 z,.i64 A,.i64 B,.p false .flt C]] (aG (aU false [⟨(.slice Y9),D.1⟩,⟨.bool,D.2⟩])):=by
 refine PB Tryz.func87 (fun Bw w0=> ?_);unfold lE at h;refine G (af (G (aA h (fun B1 h=> ?_) (fun B1 h=> ?_))))
 ·refine G (ao (ah ?_));obtain rfl:=sI h;exact RI [(.slice Y9),.bool]
 refine ae (ab (GC 4 h (fun h=>af (G (ak (cd h (fun(M,E)=>ay [(1,.i64 k),(2,.i64 u),(4,.adr 0 0 2 0),(7,.adr 1 0 6 0),(10,.sl 2),(11,.i64 E)] (IP c m e q v x z A B C M) 3) 0 (fun N=>ay [(1,.i64 k),(2,.i64 u),(4,.adr 0 0 2 0),(7,.adr 1 0 6 0),(10,.sl 2)] (IP c m e q v x z A B C N) 3) (gg [] [0,8,88]) (fun y o h=> ?_) (fun N h=> ?_)))))))
 ·obtain⟨M,E⟩:=y;unfold fx at h;refine af (G (aA h (fun O h=> ?_) (fun O h=> ?_)))
  ·refine ae (ab (af (ak ?_)));obtain⟨R,V,h⟩:=g2 h;refine GN a0 [(5,5,oc R),(6,6,oc V)] (af (bg h (fun v10=>ay [(1,.i64 k),(2,.i64 u),(4,.adr 0 0 2 0),(7,.adr 1 0 6 0),(10,.sl 2),(11,.i64 E),(46,.bo v10)] (IP c m e q v x z A B C (M.set ((i64.wrap (E - k)).toNat) (0,(-1:Int)))) 3) (fun v10 h=> ?_) (fun v10 h=> ?_)))
   ·rcases aF h with⟨f,h⟩ | ⟨f,h⟩
    ·exact bq ⟨[(3,true),(10,true)],[]⟩ [(4,10,oc f)] (eN h (gg [] [0,1,2]))
    obtain⟨X,h⟩:=aD h;exact bq ⟨[(3,false),(10,false)],[]⟩ [(4,6,an f),(7,7,oc (And.intro f X)),(8,9,an f),(10,10,oc f)] (eN h (gg [] [0,1,2]))
   refine ab (bg h (fun v11=>ay [(1,.i64 k),(2,.i64 u),(4,.adr 0 0 2 0),(7,.adr 1 0 6 0),(10,.sl 2),(11,.i64 E)] (IP c m e q v x z A B C v11) 3) (fun v11 h=> ?_) (fun v11 h=> ?_))
   ·refine aA h (fun Y h=> ?_) (fun Y h=> ?_)
    ·obtain⟨ad,Z,h⟩:=aj h;obtain⟨a1,a2,h⟩:=g2 h;have j:=(z5 c e true Z);exact bq ⟨[],[(10,(oP j))]⟩ [(10,10,oc j),(11,11,oc a1),(12,12,oc a2)] (eN h (gg [] [0,1,2]))
    exact ae (eN h (gg [] [0,1,2]))
   refine au (ab (Ge ?_));exact eB h (gg [] [0,1,2])
  refine aq (aL ?_);exact eX h (gg [] [0,1,2])
 refine av (ab (af ?_));obtain⟨a3,a4,h⟩:=g2 h;refine GN a0 [(1,1,oc a3),(3,3,oc a4)] (aA h (fun a5 h=> ?_) (fun a5 h=> ?_))
 ·refine G (ao (ah ?_));obtain rfl:=sI h;exact RI [(.slice Y9),.bool]
 refine ae (ab (G (af (G (ak (cd h (fun(I,J)=>ay [(1,.i64 k),(2,.i64 u),(4,.adr 0 0 2 0),(7,.adr 1 0 6 0),(10,.sl 2),(12,.sl 3),(13,.i64 J)] (L6 c m e q v x z A B C N I) 4) 2 (fun L=>ay [(12,.sl 0)] [(0,.arr 190 Y9 L)] 1) (gg [.nilS 12 67 190 Y9] [0,1,2,67]) (fun y o h=> ?_) (fun L h=> ?_)))))))
 ·obtain⟨I,J⟩:=y;unfold fp at h;refine af (G (aA h (fun a6 h=> ?_) (fun a6 h=> ?_)))
  ·refine ae (ab (ak ?_));obtain⟨a7,a8,h⟩:=g2 h;refine GN a0 [(4,4,oc a7),(6,6,oc a8)] ?_;obtain⟨a9,h⟩:=aD h;obtain⟨ax,aa,h⟩:=aj h;obtain⟨ac,h⟩:=aD h;have j:=(nt c e aa);refine GD ⟨[],[(11,(oP j))]⟩ [(7,7,oc a9),(11,11,oc j),(13,13,oc ac)] (Ge (au ?_));exact eB h (gg [] [0,1,2,196])
  refine aq (aL ?_);exact eX h (gg [] [3])
 refine av (ab (G (ao ?_)));obtain rfl:=sI h;exact RI [(.slice Y9),.bool]
def gB(f:List Z2)(B:List Int)(D C E:Int):(Int×Int×Int×Int×Int)→Option ((Int×Int×Int×Int×Int)⊕(Int×Int)):=fun(j,v20,p,q,e) =>
 (if(decide (e≤D))=true then(if 0≤(i64.wrap (e - 1))∧(i64.wrap (e - 1))<(f.length:Int)then((jy ((f.getD ((i64.wrap (e - 1)).toNat) (0,0,0,0)).1) ((f.getD ((i64.wrap (e - 1)).toNat) (0,0,0,0)).2.1) ((f.getD ((i64.wrap (e - 1)).toNat) (0,0,0,0)).2.2.1) ((f.getD ((i64.wrap (e - 1)).toNat) (0,0,0,0)).2.2.2) p E).bind fun m =>
 ((fC f B (i64.wrap (e - 1)) e).bind fun u =>
 (((if(u == e)=true then some (m)
 else some (q))).bind fun k=>(if(decide (k > C))=true then some (Sum.inr (j,v20))
 else((kM f B e).bind fun(v,x) =>
 (((if x=true then(if(v != 3)=true then some (true)
 else some ((decide (k<C))))
 else some (false))).bind fun z=>(((if z=true then some (e)
 else some (j))).bind fun A=>some (Sum.inl (A,e,m,k,(i64.wrap (e+1)))))))))))else none)
 else some (Sum.inr (j,v20)))
def mK(u:List Z2)(j:List Int)(q p A v _ _ _:Int)(_:Option Nat):Option Z2 :=
 ((iter (gB u j p A v) ((-1:Int),(i64.wrap (q+1)),0,0,(i64.wrap (q+1)))).bind fun(f,e)=>(if(decide (f≥0))=true then(if 0≤f∧f<(j.length:Int)then((jo u j q f (j.getD f.toNat 0) v).bind fun k =>
 some (k.1,k.2.1,k.2.2.1,k.2.2.2))else none)
 else(((if(e == p)=true then(if 0≤p∧p<(j.length:Int)then some ((j.getD p.toNat 0))else none)
 else some (4))).bind fun x=>(((if(decide (e<p))=true then(if 0≤e∧e<(j.length:Int)then some (((j.getD e.toNat 0) == 1))else none)
 else some (false))).bind fun v30=>(((if v30=true then some (1)
 else some (x))).bind fun z=>((jo u j q e z v).bind fun m =>
 some (m.1,m.2.1,m.2.2.1,m.2.2.2)))))))
theorem zH(c e:Bool){v:List Z2}{x:List Int}{z M:Int}{A B:Int}{C D E:Int}{I:Option Nat}{X:Int×Int×Int×Int}(h:mK v x z M A B C D E I=some X):
  Pure Tryz.prog 128 [.agg [.p c (.slice Y9) v,.p e (.slice (.int .u8)) x],.i64 z,.i64 M,.agg [.i64 A,.i64 B,.u8 C,.i64 D,.i64 E,.p false .flt I]] (aG (aU false [⟨Y9,X⟩])):=by
 refine PB Tryz.func128 (fun Bw w0=> ?_);unfold mK at h;refine G (G (G (af (G (ak (cd h (fun(J,v20,Y,Z,j)=>ay [(1,.i64 z),(2,.i64 M),(4,.adr 0 0 2 0),(7,.adr 1 0 6 0),(8,.adr 2 0 4 0),(9,.i64 J),(10,.i64 v20),(11,.i64 Y),(12,.i64 Z),(13,.i64 j)] (BU c v e x A B C D E I 0 (0:Int) (0:Int) (0:Int)) 3) 0 (fun(a1,m)=>ay [(1,.i64 z),(2,.i64 M),(4,.adr 0 0 2 0),(7,.adr 1 0 6 0),(8,.adr 2 0 4 0),(9,.i64 a1),(10,.i64 m)] (BU c v e x A B C D E I 0 (0:Int) (0:Int) (0:Int)) 3) (gg [] [0,8,16]) (fun y o h=> ?_) (fun a3 h=> ?_)))))))
 ·obtain⟨J,v20,Y,Z,j⟩:=y;unfold gB at h;refine af (G (aA h (fun a4 h=> ?_) (fun a4 h=> ?_)))
  ·refine ae (ab (af (ak (GC 4 h (fun h=>af ?_)))));obtain⟨N,a5,h⟩:=aj h;refine GP 4 (nS a5) ?_;obtain⟨b5,a6,h⟩:=aj h;refine GP 4 (nb c e a6) (bg h (fun q=>ay [(1,.i64 z),(2,.i64 M),(4,.adr 0 0 2 0),(7,.adr 1 0 6 0),(8,.adr 2 0 4 0),(9,.i64 J),(10,.i64 v20),(11,.i64 N),(12,.i64 q),(13,.i64 j)] (BU c v e x A B C D E I 0 (0:Int) (0:Int) (0:Int)) 3) (fun q h=> ?_) (fun q h=> ?_))
   ·refine aA h (fun a7 h=> ?_) (fun a7 h=> ?_)
    ·exact Ge (eN h (gg [] [0,1,2]))
    exact ae (eN h (gg [] [0,1,2]))
   refine ab (af (G (aA h (fun a8 h=> ?_) (fun a8 h=> ?_))))
   ·refine aq (aL (ix rfl (aL ?_)));exact eX h (gg [] [0,1,2])
   refine ae (ab (G ?_));obtain⟨⟨b6,be⟩,a9,h⟩:=aj h;refine GP 2 (sD c e a9) (af (bg h (fun O=>ay [(1,.i64 z),(2,.i64 M),(4,.adr 0 0 2 0),(7,.adr 1 0 6 0),(8,.adr 2 0 4 0),(9,.i64 J),(10,.i64 j),(11,.i64 N),(12,.i64 q),(13,.i64 j),(67,.bo O)] (BU c v e x A B C D E I 0 (0:Int) (0:Int) (0:Int)) 3) (fun O h=> ?_) (fun O h=> ?_)))
   ·rcases aF h with⟨f,h⟩ | ⟨f,h⟩
    ·rcases aF h with⟨u,h⟩ | ⟨u,h⟩
     ·exact bq ⟨[(1,true),(4,true),(9,true),(10,true)],[]⟩ [(2,4,an f),(5,8,oc u),(9,9,oc (And.intro f u)),(10,10,oc f)] (eN h (gg [] [0,1,2]))
     exact bq ⟨[(1,true),(4,false),(9,false),(10,true)],[]⟩ [(2,4,an f),(5,8,an u),(9,9,oc (And.intro f u)),(10,10,oc f)] (eN h (gg [] [0,1,2]))
    exact bq ⟨[(1,false),(10,false)],[]⟩ [(2,4,oc f),(9,10,oc f)] (eN h (gg [] [0,1,2]))
   refine ab (bg h (fun R=>ay [(1,.i64 z),(2,.i64 M),(4,.adr 0 0 2 0),(7,.adr 1 0 6 0),(8,.adr 2 0 4 0),(9,.i64 R),(10,.i64 j),(11,.i64 N),(12,.i64 q),(13,.i64 j)] (BU c v e x A B C D E I 0 (0:Int) (0:Int) (0:Int)) 3) (fun R h=> ?_) (fun R h=> ?_))
   ·refine aA h (fun aa h=> ?_) (fun aa h=> ?_)
    ·exact Ge (eN h (gg [] [0,1,2]))
    exact ae (eN h (gg [] [0,1,2]))
   refine au (ab (Ge ?_));exact eB h (gg [] [0,1,2])
  refine aq (aL ?_);exact eX h (gg [] [0,1,2])
 obtain⟨a1,m⟩:=a3;refine av (ab (af (G (aA h (fun ac h=> ?_) (fun ac h=> ?_)))))
 ·obtain⟨ad,h⟩:=aD h;obtain⟨bi,ax,h⟩:=aj h;have a2:=(nt c e ax);refine GD ⟨[],[(10,(oP a2))]⟩ [(6,6,oc ad),(10,10,oc a2)] (ao (ah ?_));obtain rfl:=sI h;exact RI [Y9]
 refine ae (ab (G (af (G (bg h (fun L=>ay [(1,.i64 z),(2,.i64 M),(4,.adr 0 0 2 0),(7,.adr 1 0 6 0),(8,.adr 2 0 4 0),(10,.i64 m),(17,.u8 L)] (BU c v e x A B C D E I 0 (0:Int) (0:Int) (0:Int)) 3) (fun L h=> ?_) (fun L h=> ?_))))))
 ·refine aA h (fun b1 h=> ?_) (fun b1 h=> ?_)
  ·refine tq 3 h (fun h=> ?_);exact eN h (gg [] [0,1,2])
  exact ae (eN h (gg [] [0,1,2]))
 refine ab (af (af (bg h (fun v30=>ay [(1,.i64 z),(4,.adr 0 0 2 0),(7,.adr 1 0 6 0),(8,.adr 2 0 4 0),(10,.i64 m),(17,.u8 L),(100,.bo v30)] (BU c v e x A B C D E I 0 (0:Int) (0:Int) (0:Int)) 3) (fun v30 h=> ?_) (fun v30 h=> ?_))))
 ·rcases aF h with⟨k,h⟩ | ⟨k,h⟩
  ·obtain⟨b2,h⟩:=aD h;exact bq ⟨[(3,true),(10,true)],[]⟩ [(4,6,an k),(7,7,oc (And.intro k b2)),(8,9,an k),(10,10,oc k)] (eN h (gg [] [0,1,2]))
  exact bq ⟨[(3,false),(10,false)],[]⟩ [(4,10,oc k)] (eN h (gg [] [0,1,2]))
 refine ab (bg h (fun V=>ay [(1,.i64 z),(4,.adr 0 0 2 0),(7,.adr 1 0 6 0),(8,.adr 2 0 4 0),(10,.i64 m),(17,.u8 V)] (BU c v e x A B C D E I 0 (0:Int) (0:Int) (0:Int)) 3) (fun V h=> ?_) (fun V h=> ?_))
 ·refine aA h (fun b3 h=> ?_) (fun b3 h=> ?_)
  ·exact Ge (eN h (gg [] [0,1,2]))
  exact ae (eN h (gg [] [0,1,2]))
 refine ab ?_;obtain⟨bs,b4,h⟩:=aj h;refine GP 6 (nt c e b4) (ao ?_);obtain rfl:=sI h;exact RI [Y9]
def eJ(k:List Z2)(m:List Int)(j p q u v x:Int)(z:Option Nat):(Int×List Z2)→Option ((Int×List Z2)⊕(List Z2)):=fun(f,c) =>
 (if(decide (f<j))=true then((mK k m f j p q u v x z).bind fun e =>
 (if(c.length+([(e.1,e.2.1,e.2.2.1,e.2.2.2)]:List Z2).length)*32≤140737488355328∧c.length+([(e.1,e.2.1,e.2.2.1,e.2.2.2)]:List Z2).length≤9223372036854775807 then some (Sum.inl (e.2.1,(c++([(e.1,e.2.1,e.2.2.1,e.2.2.2)]:List Z2))))else none))
 else some (Sum.inr c))
def jS(j:List Z2)(k:List Int)(c f m p q u v:Int)(x:Option Nat):Option (List Z2) :=
 ((iter (eJ j k f m p q u v x) (c,([]:List Z2))).bind fun e=>some e)
theorem we(k m:Bool){v:List Z2}{x:List Int}{c q:Int}{z A:Int}{B C D:Int}{E:Option Nat}{u:List Z2}(h:jS v x c q z A B C D E=some u):
  Pure Tryz.prog 88 [.agg [.p k (.slice Y9) v,.p m (.slice (.int .u8)) x],.i64 c,.i64 q,.agg [.i64 z,.i64 A,.u8 B,.i64 C,.i64 D,.p false .flt E]] (aG (aU false [⟨(.slice Y9),u⟩])):=by
 refine PB Tryz.func88 (fun Bw w0=> ?_);unfold jS at h;refine G (G (af (ak (cd h (fun(e,f)=>ay [(1,.i64 e),(2,.i64 q),(4,.adr 0 0 2 0),(7,.adr 1 0 6 0),(9,.sl 2)] (Mf k v m x z A B C D E f) 3) 0 (fun j=>ay [(9,.sl 0)] [(0,.arr 190 Y9 j)] 1) (gg [.nilS 9 32 190 Y9] [0,8,32]) (fun y o h=> ?_) (fun j h=> ?_)))))
 ·obtain⟨e,f⟩:=y;unfold eJ at h;refine af (G (aA h (fun I h=> ?_) (fun I h=> ?_)))
  ·refine ae (ab (ak ?_));obtain⟨L,J,h⟩:=aj h;refine GP 4 (zH k m J) (GC 3 h (fun h=>Ge (au ?_)));exact eB h (gg [] [0,1,107])
  refine aq (aL ?_);exact eX h (gg [] [2])
 refine av (ab (G (ao ?_)));obtain rfl:=sI h;exact RI [(.slice Y9)]
def hY(p:List Z2)(q:List Int)(c e u v f x z:Int)(A:Option Nat):Option ((List Z2)×Bool) :=
 (((if(f == 1)=true then((lE p q c e u v f x z A).bind fun(B,j) =>
 (if j=true then some ((Sum.inr (B,false)))
 else some ((Sum.inl ()))))
 else some ((Sum.inl ())))).bind fun(k:((Unit)⊕((List Z2)×Bool)))=>match k with
 | .inl _=>((jS p q c e u v f x z A).bind fun m =>
 some (m,(f == 1)))
 | .inr ((C,D))=>some (C,D))
theorem xW(f j:Bool){v:List Z2}{x:List Int}{c k:Int}{z B:Int}{C D E:Int}{I:Option Nat}{m:(List Z2)×Bool}(h:hY v x c k z B C D E I=some m):
  Pure Tryz.prog 56 [.agg [.p f (.slice Y9) v,.p j (.slice (.int .u8)) x],.i64 c,.i64 k,.agg [.i64 z,.i64 B,.u8 C,.i64 D,.i64 E,.p false .flt I]] (aG (aU false [⟨(.slice Y9),m.1⟩,⟨.bool,m.2⟩])):=by
 refine PB Tryz.func56 (fun Bw w0=> ?_);unfold hY at h;refine G (af (G (Db h (cN (od Tryz.f56.ntmps (fun _=>ay [(1,.i64 c),(2,.i64 k),(4,.adr 0 0 2 0),(7,.adr 1 0 6 0)] (KR f v j x z B C D E I) 2)) (eQ tb Tryz.f56.results.toList (fun(L,M)=>[⟨(.slice Y9),L⟩,⟨.bool,M⟩]))) (fun q h=> ?_) (fun q h e σ' N=> ?_))))
 ·refine aA h (fun O h=> ?_) (fun O h=> ?_)
  ·obtain⟨⟨r9,R⟩,V,h⟩:=aj h;refine GP 4 (yw f j V) (G (aA h (fun X h=> ?_) (fun X h=> ?_)))
   ·refine G (ao ?_);obtain rfl:=sI h;exact aK (bu (RI [(.slice Y9),.bool]))
   refine ae ?_;obtain rfl:=sI h;exact aX (cu (gg [] [0,8]))
  refine ae ?_;obtain rfl:=sI h;exact aX (cu (gg [] [0,8]))
 rcases q with _ | ⟨L,M⟩
 ·obtain⟨rfl,J⟩:=N;refine bY ?_ J;refine ab ?_;obtain⟨Y,Z,h⟩:=aj h;have u:=(we f j Z);refine GD ⟨[],[(4,(oP u))]⟩ [(4,4,oc u)] (ao ?_);obtain rfl:=sI h;exact RI [(.slice Y9),.bool]
 obtain⟨rfl,hr⟩:=N;refine ah ?_;obtain rfl:=sI h;exact hr
def pB(c:List Z2):Option (List Z2):=(if c.isEmpty=true then some []else(if(([]:List Z2).length+c.length)*32≤140737488355328∧([]:List Z2).length+c.length≤9223372036854775807 then some (([]:List Z2)++c)else none))
theorem Bv(j:Bool){c f:List Z2}(h:pB c=some f):
  ff Tryz.prog 89 [.p j (.slice Y9) c] [] (.sl 0) [(0,.arr 190 Y9 f)]:=by
 refine OB Tryz.func89 (fun Bw w0=> ?_);unfold pB at h;refine G (af (DP gS (d:=3) (e:=4) (A:=Y9) (xs:=c) (el:=190) (β:=j) rfl rfl rfl rfl rfl (by kernel_rfl) (by kernel_rfl) (by kernel_rfl) (fun b hb=> ?_)));cases b with
 | true =>
  obtain rfl:=hb rfl;obtain rfl:=sI h;exact nQ rfl (G (ao (ah (RO [none] [.nilS 2 1000 190 Y9] [1000] [(2,.sl 0)] [(0,.arr 190 Y9 [])] 1 0))))
 | false =>
  replace h:(if(([]:List Z2).length+c.length)*32≤140737488355328∧([]:List Z2).length+c.length≤9223372036854775807 then some (([]:List Z2)++c)else none)=some f:=by cases c <;> simpa using h
  refine mu rfl (ae (ab (GC 2 h (fun h=>ao ?_))));obtain rfl:=sI h;exact RO [none] [] [40] [(2,.sl 0)] [(0,.arr 190 Y9 (([]:List Z2)++c))] 1 0
def fy(f:Int)(j:List Z2):((List Z2)×Int)→Option (((List Z2)×Int)⊕(List Z2)):=fun(c,e) =>
 (if(decide (e<(j.length:Int)))=true then(if 0≤e∧e<(c.length:Int)then(if e.toNat<c.length then(if 0≤e∧e<(c.length:Int)then(if e.toNat<c.length then(if 0≤e∧e<((c.set e.toNat ((i64.wrap (((c.getD e.toNat (0,0,0,0)).1)+f)),(c.getD e.toNat (0,0,0,0)).2.1,(c.getD e.toNat (0,0,0,0)).2.2.1,(c.getD e.toNat (0,0,0,0)).2.2.2)).length:Int)then(if e.toNat<(c.set e.toNat ((i64.wrap (((c.getD e.toNat (0,0,0,0)).1)+f)),(c.getD e.toNat (0,0,0,0)).2.1,(c.getD e.toNat (0,0,0,0)).2.2.1,(c.getD e.toNat (0,0,0,0)).2.2.2)).length then(if 0≤e∧e<((c.set e.toNat ((i64.wrap (((c.getD e.toNat (0,0,0,0)).1)+f)),(c.getD e.toNat (0,0,0,0)).2.1,(c.getD e.toNat (0,0,0,0)).2.2.1,(c.getD e.toNat (0,0,0,0)).2.2.2)).length:Int)then(if e.toNat<(c.set e.toNat ((i64.wrap (((c.getD e.toNat (0,0,0,0)).1)+f)),(c.getD e.toNat (0,0,0,0)).2.1,(c.getD e.toNat (0,0,0,0)).2.2.1,(c.getD e.toNat (0,0,0,0)).2.2.2)).length then some (Sum.inl (((c.set e.toNat ((i64.wrap (((c.getD e.toNat (0,0,0,0)).1)+f)),(c.getD e.toNat (0,0,0,0)).2.1,(c.getD e.toNat (0,0,0,0)).2.2.1,(c.getD e.toNat (0,0,0,0)).2.2.2)).set e.toNat (((c.set e.toNat ((i64.wrap (((c.getD e.toNat (0,0,0,0)).1)+f)),(c.getD e.toNat (0,0,0,0)).2.1,(c.getD e.toNat (0,0,0,0)).2.2.1,(c.getD e.toNat (0,0,0,0)).2.2.2)).getD e.toNat (0,0,0,0)).1,(i64.wrap ((((c.set e.toNat ((i64.wrap (((c.getD e.toNat (0,0,0,0)).1)+f)),(c.getD e.toNat (0,0,0,0)).2.1,(c.getD e.toNat (0,0,0,0)).2.2.1,(c.getD e.toNat (0,0,0,0)).2.2.2)).getD e.toNat (0,0,0,0)).2.1)+f)),((c.set e.toNat ((i64.wrap (((c.getD e.toNat (0,0,0,0)).1)+f)),(c.getD e.toNat (0,0,0,0)).2.1,(c.getD e.toNat (0,0,0,0)).2.2.1,(c.getD e.toNat (0,0,0,0)).2.2.2)).getD e.toNat (0,0,0,0)).2.2.1,((c.set e.toNat ((i64.wrap (((c.getD e.toNat (0,0,0,0)).1)+f)),(c.getD e.toNat (0,0,0,0)).2.1,(c.getD e.toNat (0,0,0,0)).2.2.1,(c.getD e.toNat (0,0,0,0)).2.2.2)).getD e.toNat (0,0,0,0)).2.2.2)),(i64.wrap (e+1))))else none)else none)else none)else none)else none)else none)else none)else none)
 else some (Sum.inr c))
def ik(j:List Z2)(e:Int):Option (List Z2) :=
 ((pB j).bind fun f =>
 ((iter (fy e f) (f,0)).bind fun c=>some c))
theorem mn(j:Bool){D:List Z2}{f:Int}{k:List Z2}(h:ik D f=some k):
  Pure Tryz.prog 57 [.p j (.slice Y9) D,.i64 f] (aG (aU false [⟨(.slice Y9),k⟩])):=by
 refine PB Tryz.func57 (fun Bw w0=> ?_);unfold ik at h;refine G ?_;obtain⟨I,J,h⟩:=aj h;refine GO 1 [] (Bv j J) (af (G (ak (cd h (fun(c,E)=>ay [(1,.i64 f),(5,.sl 0),(10,.i64 (I.length:Int)),(11,.i64 E)] [(0,.arr 190 Y9 c)] 1) 0 (fun e=>ay [(5,.sl 0)] [(0,.arr 190 Y9 e)] 1) (gg [] [16]) (fun y o h=> ?_) (fun e h=> ?_)))))
 ·obtain⟨c,E⟩:=y;unfold fy at h;refine G (af (aA h (fun L h=> ?_) (fun L h=> ?_)))
  ·refine ae (ab (af (ak (G ?_))));obtain⟨m,q,u,v,h⟩:=g4 h;refine GN a0 [(2,2,oc m),(4,4,oc q),(7,7,oc u),(9,9,oc v)] ?_;obtain⟨x,z,B,C,h⟩:=g4 h;refine bq a0 [(2,2,oc x),(4,4,oc z),(7,7,oc B),(9,9,oc C)] (au (ab (Ge ?_)));exact eB h (gg [] [0])
  refine aq (aL ?_);exact eX h (gg [] [0])
 refine av (ab (G (ao ?_)));obtain rfl:=sI h;exact RI [(.slice Y9)]
def fk(m:List Z2)(p:List Int)(e:Int)(f:List Z2):((List (List Int))×Int)→Option (((List (List Int))×Int)⊕(List (List Int))):=fun(j,c) =>
 (if(decide (c<(f.length:Int)))=true then(if 0≤c∧c<(f.length:Int)then((iT m p ((f.getD c.toNat (0,0,0,0)).1) ((f.getD c.toNat (0,0,0,0)).2.1) e).bind fun k =>
 (if(j.length+([k]:List (List Int)).length)*24≤140737488355328∧j.length+([k]:List (List Int)).length≤9223372036854775807 then some (Sum.inl ((j++([k]:List (List Int))),(i64.wrap (c+1))))else none))else none)
 else some (Sum.inr j))
def lB(e:List Z2)(f:List Int)(j:List Z2)(c:Int):Option (Option Z4) :=
 (((if((j.length:Int) == 0)=true then some (([(0,0,0,0)]:List Z2))
 else some (j))).bind fun k=>((iter (fk e f c k) (([]:List (List Int)),0)).bind fun m=>some (some ((e,f),k,m):Option Z4)))
theorem yx{e:List Z2}{f:List Int}{u:List Z2}{c:Int}{k:Option Z4}(h:lB e f u c=some k):
  Pure Tryz.prog 58 [.agg [.p false (.slice Y9) e,.p false (.slice (.int .u8)) f],.p false (.slice Y9) u,.i64 c] (aG (aU false [⟨(.ptr (.prod eO fO)),k⟩])):=by
 refine PB Tryz.func58 (fun Bw w0=> ?_);unfold lB at h;refine G (G (af (G (bg h (fun j=>ay [(2,.i64 c),(3,.adr 0 0 2 0),(7,.adr 1 0 4 0)] (Lh e f e f j) 2) (fun j h=> ?_) (fun j h=> ?_)))))
 ·refine aA h (fun B h=> ?_) (fun B h=> ?_)
  ·exact Ge (eN h (gg [.frzC 40 2] [0,40]))
  exact ae (eN h (gg [] [0,40]))
 refine ab (af (G (ak (cd h (fun(v,x)=>ay [(2,.i64 c),(3,.adr 0 0 2 0),(7,.adr 1 0 4 0),(25,.p false (.slice Y9) j),(26,.i64 (j.length:Int)),(27,.i64 x)] (Kt e f e f j v) 3) 0 (fun z=>ay [(7,.adr 0 0 4 0)] (KO e f j z) 2) (gg [.nilC 1 3 50 80 (.slice (.int .i64))] [0,1,50]) (fun y o h=> ?_) (fun z h=> ?_)))))
 ·obtain⟨v,x⟩:=y;unfold fk at h;refine G (af (aA h (fun C h=> ?_) (fun C h=> ?_)))
  ·refine ae (ab (af (ak (GC 0 h (fun h=> ?_)))));obtain⟨E,D,h⟩:=aj h;obtain⟨q,h⟩:=aD h;have m:=(oe false false D);refine jC ⟨[],[(11,(oP m))]⟩ [(11,11,oc m),(13,13,oc q)] (au (ab (Ge ?_)));exact eB h (gg [] [0,1,147])
  refine aq (aL ?_);exact eX h (gg [] [1,2])
 refine av (ab (G (nA [.frzC 0 3] (by kernel_rfl) (ao ?_))));obtain rfl:=sI h;exact RI [(.ptr (.prod eO fO))]
def dG(J L M N O:Int)(R:Option Nat)(m:(List Z2)×List Int)(j:List Int):((List Z2)×Bool×(List Z9)×(List ((List UInt8)×Bool))×Int×Int)→Option (((List Z2)×Bool×(List Z9)×(List ((List UInt8)×Bool))×Int×Int)⊕((List Z2)×Bool×(List Z9)×List ((List UInt8)×Bool))):=fun(k,v,f,x,p,v30) =>
 (if(decide (v30<(j.length:Int)))=true then(if 0≤v30∧v30<(j.length:Int)then((oT m.1 m.2 p (j.getD v30.toNat 0)).bind fun c =>
 (((if(!((bc .str f c).isSome))=true then((hY m.1 m.2 p (j.getD v30.toNat 0) J L M N O R).bind fun(z,q) =>
 ((ik z (i64.wrap (0 - p))).bind fun u =>
 some (((dN .str f c (u,q)),u,q))))
 else some ((f,((bc .str f c).getD (([]:List Z2),false)).1,((bc .str f c).getD (([]:List Z2),false)).2)))).bind fun(B,C,D)=>((((ik C p).bind fun e =>
 (if(k.length+e.length)*32≤140737488355328∧k.length+e.length≤9223372036854775807 then(if v=true then some (((k++e),true))
 else some (((k++e),D)))else none))).bind fun(E,I)=>some (Sum.inl (E,I,B,(dN .str x c true),(j.getD v30.toNat 0),(i64.wrap (v30+1)))))))else none)
 else some (Sum.inr (k,v,f,x)))
def bQ(C:List Int)(I:List Z2)(J:Bool)(L:Option Z1)(M D N O R:Int)(V:Option Nat)(m:List Int)(p:List Z2)(q:List Int)(u:Option Z4)(E:List Z9):Option K6 :=
 ((aM L C).bind fun(e,f) =>
 (if(f != 0)=true then some (f,I,J,m,p,q,u,E)
 else((lL e.1 e.2).bind fun v =>
 ((iter (dG M D N O R V e v) (([]:List Z2),false,E,([]:List ((List UInt8)×Bool)),0,0)).bind fun(j,x,z,B)=>((lB e.1 e.2 j D).bind fun k =>
 some (0,j,x,C,e.1,e.2,k,(rm .str z B)))))))
theorem ju{N:List Int}{d1:List Z2}{d2:Bool}{m:Option Z1}{q u:Int}{v x z:Int}{B:Option Nat}{O:List Int}{R:List Z2}{V:List Int}{k:Option Z4}{o1:List Z9}{f:Int×(List Z2)×Bool×(List Int)×(List Z2)×(List Int)×(Option Z4)×List Z9}(h:bQ N d1 d2 m q u v x z B O R V k o1=some f):
  ff Tryz.prog 33 [.adr 0 0 14 0,.p false (.slice (.int .u8)) N] (gh d1 d2 m q u v x z B O R V k o1) (.i64 f.1) (gh f.2.1 f.2.2.1 m q u v x z B f.2.2.2.1 f.2.2.2.2.1 f.2.2.2.2.2.1 f.2.2.2.2.2.2.1 f.2.2.2.2.2.2.2):=by
 refine OB Tryz.func33 (fun Bw w0=> ?_);unfold bQ at h;refine G ?_;obtain⟨⟨c,ax⟩,b1,h⟩:=aj h;refine GP 5 (rJ false b1) (af (G (aA h (fun b2 h=> ?_) (fun b2 h=> ?_))))
 ·refine G (ao (ah ?_));obtain rfl:=sI h;exact RO [some (.int .i64)] [] [0,1] [(4,.i64 ax)] (gh d1 d2 m q u v x z B O R V k o1) 2 2
 refine ae (ab (GD a0 [] (G (G (af ?_)))));obtain⟨j,b3,h⟩:=aj h;refine GP 1 (xr false false b3) (ak (cd h (fun(X,Y,a4,C,Z,v30)=>ay [(0,.adr 0 0 14 0),(5,.adr 3 0 2 0),(7,.mp 4),(8,.i64 Z),(41,.p false (.slice (.int .i64)) j),(42,.i64 (j.length:Int)),(43,.i64 v30)] (Hp Y m q u v x z B N c.1 c.2 k a4 X c.1 c.2 C) 5 2) 0 (fun(a1,a2,D,E)=>ay [(0,.adr 0 0 14 0),(5,.adr 3 0 2 0),(7,.mp 4)] (Hp a2 m q u v x z B N c.1 c.2 k D a1 c.1 c.2 E) 5 2) (gg [.nilC 0 0 298 190 Y9] [0,1,298,82,242]) (fun y o h=> ?_) (fun a5 h=> ?_)))
 ·obtain⟨X,Y,a4,C,Z,v30⟩:=y;unfold dG at h;refine G (af (aA h (fun b4 h=> ?_) (fun b4 h=> ?_)))
  ·refine ae (ab (af (ak (GC 0 h (fun h=> ?_)))));obtain⟨J,b5,h⟩:=aj h;refine GP 3 (By false false b5) (G (af (G (bg h (fun(a3,a6,a7)=>ay [(0,.adr 0 0 14 0),(5,.adr 3 0 2 0),(7,.mp 4),(8,.i64 Z),(10,.i64 (j.getD v30.toNat 0)),(11,.st J),(12,.adr 5 0 2 0),(41,.p false (.slice (.int .i64)) j),(42,.i64 (j.length:Int)),(43,.i64 v30)] (Lp Y m q u v x z B N c.1 c.2 k a3 X c.1 c.2 C a6 a7) 6 2) (fun L h=> ?_) (fun L h=> ?_)))))
   ·refine aA h (fun b6 h=> ?_) (fun b6 h=> ?_)
    ·obtain⟨⟨bt,bv⟩,be,h⟩:=aj h;have e:=(xW false false be);refine GD ⟨[],[(7,(oP e))]⟩ [(7,7,oc e)] ?_;obtain⟨bx,bi,h⟩:=aj h;refine GP 4 (mn false bi) (jC a0 [] ?_);exact eN h (gg [] [0,1,2,3,4,149])
    exact ae (eN h (gg [] [0,1,2,3,4,149]))
   obtain⟨a3,a6,a7⟩:=L;refine ab (G (af (bg h (fun(a8,a9)=>ay [(0,.adr 0 0 14 0),(5,.adr 3 0 2 0),(7,.mp 4),(10,.i64 (j.getD v30.toNat 0)),(41,.p false (.slice (.int .i64)) j),(42,.i64 (j.length:Int)),(43,.i64 v30)] (Hp a9 m q u v x z B N c.1 c.2 k a3 a8 c.1 c.2 (dN .str C J true)) 5 2) (fun M h=> ?_) (fun M h=> ?_))))
   ·obtain⟨c1,aa,h⟩:=aj h;obtain⟨ac,h⟩:=aD h;rcases aF h with⟨I,h⟩ | ⟨I,h⟩
    ·have e:=(mn false aa);exact jC ⟨[(17,true),(20,true)],[(10,(oP e))]⟩ [(10,10,oc e),(11,11,oc ac),(18,20,oc I)] (eN h (gg [] [0,1,118,3,4]))
    have e:=(mn false aa);exact jC ⟨[(17,false),(20,false)],[(10,(oP e))]⟩ [(10,10,oc e),(11,11,oc ac),(18,19,an I),(20,20,oc I)] (eN h (gg [] [0,1,118,3,4]))
   obtain⟨a8,a9⟩:=M;refine ab (Ge (au (ab (Ge ?_))));exact eB h (gg [] [0,1,2,3,4])
  refine aq (aL ?_);exact eX h (gg [] [0,1,2,3,4])
 obtain⟨a1,a2,D,E⟩:=a5;refine av (ab (af (Io gS (idK:=1) (idU:=4) (idF:=0) (A:=F8) (kv:=D) (us:=E) (dead:=[14,118,119,120,121,122,123,124,125,126,127,128,129,130,131,132,133,134,135]) (sz:=14) (off:=13) (by kernel_rfl) (by kernel_rfl) (by kernel_rfl) (by kernel_rfl) (by kernel_rfl) (by kernel_rfl) (by kernel_rfl) (by kernel_rfl) (by decide) (by kernel_rfl) (by decide) (ab ?_))));obtain⟨ad,bs,h⟩:=aj h;have e:=(yx bs);refine GD ⟨[],[(12,(oP e [false,true]))]⟩ [(12,12,oc e)] (G (nA [.frzC 0 0] (by kernel_rfl) (ao ?_)));obtain rfl:=sI h;exact RO [some (.int .i64)] [] [0,1] [(4,.i64 0)] (gh a1 a2 m q u v x z B N c.1 c.2 ad (rm .str D E)) 2 2
def gW(J:Option Z1)(A B C D E:Int)(I:Option Nat)(e:List Int):Option (((Int)⊕K6)) :=
 ((cU A B C D E I).bind fun j =>
 (if(!j)=true then some (Sum.inl 40)
 else((cv e).bind fun k =>
 ((bQ k ([]:List Z2) false J A B C D E I ([]:List Int) ([]:List Z2) ([]:List Int) (none:Option Z4) ([]:List Z9)).bind fun(f,m,p,q,u,v,x,z) =>
 (if(f != 0)=true then some (Sum.inl f)
 else some (Sum.inr (0,m,p,q,u,v,x,z)))))))
theorem uX(j:Bool){k:Option Z1}{m q:Int}{u v x:Int}{z:Option Nat}{c:List Int}{e:((Int)⊕K6)}(h:gW k m q u v x z c=some e):
  ff Tryz.prog 14 [.p false (.ptr u7) k,.agg [.i64 m,.i64 q,.u8 u,.i64 v,.i64 x,.p false .flt z],.p j (.slice (.int .u8)) c] [] (Jo (fun(f:Int)=>(.tup [.nilp,.i64 f],[])) (fun((f,C,D,E,I,J,L,M):Int×(List Z2)×Bool×(List Int)×(List Z2)×(List Int)×(Option Z4)×List Z9)=>(.tup [.adr 0 0 14 0,.i64 f],(gh C D k m q u v x z E I J L M))) e).1 (Jo (fun(f:Int)=>(.tup [.nilp,.i64 f],[])) (fun((f,C,D,E,I,J,L,M):Int×(List Z2)×Bool×(List Int)×(List Z2)×(List Int)×(Option Z4)×List Z9)=>(.tup [.adr 0 0 14 0,.i64 f],(gh C D k m q u v x z E I J L M))) e).2:=by
 refine OB Tryz.func14 (fun Bw w0=> ?_);unfold gW at h;refine G (G (af ?_));obtain⟨a4,q8,h⟩:=aj h;refine GP 1 (qB q8) (aA h (fun B3 h=> ?_) (fun B3 h=> ?_))
 ·refine G (ao (ah ?_));obtain rfl:=sI h;exact RO [none,some (.int .i64)] [] [] [(6,.nilp),(7,.i64 40)] [] 0 0
 refine ae (ab (af (af (nA [.nilCp 56 0 Y9,.nilCp 56 9 (.int .u8),.nilCp 56 10 Y9,.nilCp 56 11 (.int .u8),.nilCq 56 12 (.prod eO fO)] (by kernel_rfl) ?_))));obtain⟨a5,N,h⟩:=aj h;obtain⟨⟨O,R,V,X,Y,Z,a1,a2⟩,a3,h⟩:=aj h;have A:=(lJ j N);have B:=(ju a3);refine bq ⟨[],[(2,(oP A)),(3,(oO B [56,40]))]⟩ [(2,2,oc A),(3,3,oc B)] (ab (G (aA h (fun B4 h=> ?_) (fun B4 h=> ?_))))
 ·refine G (ao (ah ?_));obtain rfl:=sI h;exact RO [none,some (.int .i64)] [] [] [(6,.nilp),(7,.i64 O)] [] 0 0
 refine ae (ab (G (ao ?_)));obtain rfl:=sI h;exact RO [none,some (.int .i64)] [] [56,40] [(6,.adr 0 0 14 0),(7,.i64 0)] (gh R V k m q u v x z X Y Z a1 a2) 2 0
def mz  : Option (Unit) :=
 some ()
theorem se{c:Unit}(h:mz=some c):
  ff Tryz.prog 27 [] [] (.mp 0) Jc:=by
 refine OB Tryz.func27 (fun Bw w0=> ?_);unfold mz at h;refine G (G (ao ?_));obtain rfl:=sI h;exact RO [none] [] [8] [(0,.mp 0)] Jc 1 0
def jt(c e f:Int)(j:List Int):Option (Int) :=
 (((if(decide (e<0))=true then some (true)
 else(if(decide (f<0))=true then some (true)
 else(if(decide (e > c))=true then some (true)
 else some ((decide (f > (i64.wrap (c - e))))))))).bind fun v1=>(if v1=true then some 50
 else(((if(decide ((j.length:Int) > 4096))=true then some (true)
 else some ((decide ((i64.wrap ((i64.wrap (c - f))+(j.length:Int))) > 4096))))).bind fun k=>(if k=true then some 3
 else some 0))))
theorem yg(j:Bool){q u v:Int}{x:List Int}{k:Int}(h:jt q u v x=some k):
  Pure Tryz.prog 59 [.i64 q,.agg [.i64 u,.i64 v,.p j (.slice (.int .u8)) x]] (aG (aU false [⟨(.int .i64),k⟩])):=by
 refine PB Tryz.func59 (fun Bw w0=> ?_);unfold jt at h;refine G (af (ak (af (bg h (fun v1=>ay [(0,.i64 q),(3,.adr 0 0 3 0),(5,.bo v1)] (KG u v j x) 1) (fun v1 h=> ?_) (fun v1 h=> ?_)))))
 ·rcases aF h with⟨e,h⟩ | ⟨e,h⟩
  ·exact bq ⟨[(3,true),(7,true)],[]⟩ [(4,7,oc e)] (eN h (gg [] [0]))
  rcases aF h with⟨f,h⟩ | ⟨f,h⟩
  ·exact bq ⟨[(3,false),(7,false),(8,true),(13,true)],[]⟩ [(4,6,an e),(7,7,oc e),(9,13,oc f)] (eN h (gg [] [0]))
  rcases aF h with⟨m,h⟩ | ⟨m,h⟩
  ·exact bq ⟨[(3,false),(7,false),(8,false),(13,false),(14,true),(22,true)],[]⟩ [(4,6,an e),(7,7,oc e),(9,12,an f),(13,13,oc f),(15,22,oc m)] (eN h (gg [] [0]))
  exact bq ⟨[(3,false),(7,false),(8,false),(13,false),(14,false),(22,false)],[]⟩ [(4,6,an e),(7,7,oc e),(9,12,an f),(13,13,oc f),(15,21,an m),(22,22,oc m)] (eN h (gg [] [0]))
 refine ab (aA h (fun z h=> ?_) (fun z h=> ?_))
 ·refine G (ao (az (ah ?_)));obtain rfl:=sI h;exact RI [(.int .i64)]
 refine af (bg h (fun A=>ay [(29,.bo A)] [] 0) (fun A h=> ?_) (fun A h=> ?_))
 ·rcases aF h with⟨c,h⟩ | ⟨c,h⟩
  ·exact bq ⟨[(4,true),(14,true)],[]⟩ [(5,14,oc c)] (eN h (gg [] []))
  exact bq ⟨[(4,false),(14,false)],[]⟩ [(5,13,an c),(14,14,oc c)] (eN h (gg [] []))
 refine ab (aA h (fun B h=> ?_) (fun B h=> ?_))
 ·refine G (ao (az (ah ?_)));obtain rfl:=sI h;exact RI [(.int .i64)]
 refine ae (au (ab (G (ao ?_))));obtain rfl:=sI h;exact RI [(.int .i64)]
def bZ(e:Int):Option (List Int) :=
 (((if(decide (e<0))=true then none
 else some (()))).bind fun _=>(((if(decide ((i64.wrap (e - (i64.wrap (0 - 0)))) > 0))=true then(if 0≤(0:Int)∧(0:Int)≤0∧(0:Int)≤0 then(if 0≤(i64.wrap (e - (i64.wrap (0 - 0))))∧(([]:List Int).length+(i64.wrap (e - (i64.wrap (0 - 0)))).toNat)*1≤140737488355328∧([]:List Int).length+(i64.wrap (e - (i64.wrap (0 - 0)))).toNat≤9223372036854775807 then(if 0≤(0:Int)∧0≤((List.replicate (i64.wrap (e - (i64.wrap (0 - 0)))).toNat (0:Int)).length:Int)then some (((List.replicate (i64.wrap (e - (i64.wrap (0 - 0)))).toNat (0:Int)).take (0:Int).toNat))else none)else none)else none)
 else some (([]:List Int)))).bind fun f=>some f))
theorem ky{f:Int}{c:List Int}(h:bZ f=some c):
  ff Tryz.prog 91 [.nils,.i64 f] [] (.sl 0) [(0,.arr 5 (.int .u8) c)]:=by
 refine OB Tryz.func91 (fun Bw w0=> ?_);unfold bZ at h;refine G (af (G (bg h (fun _=>ay [(0,.nils),(1,.i64 f)] [] 0) (fun p h=> ?_) (fun p h=> ?_))))
 ·refine aA h (fun q h=> ?_) (fun q h=> ?_)
  ·cases h
  exact ae (eN h (gg [] []))
 refine ab (af (G (G (bg h (fun e=>ay [(0,.sl 0)] [(0,.arr 5 (.int .u8) e)] 1) (fun e h=> ?_) (fun e h=> ?_)))))
 ·refine aA h (fun u h=> ?_) (fun u h=> ?_)
  ·obtain⟨j,k,m,h⟩:=g3 h;exact bq a0 [(3,3,oc j),(5,5,oc k),(8,8,oc m)] (eN h (gg [] [144]))
  exact ae (eN h (gg [.nilS 0 80 5 (.int .u8)] [80]))
 refine ab (G (ao ?_));obtain rfl:=sI h;exact RO [none] [] [0] [(4,.sl 0)] [(0,.arr 5 (.int .u8) e)] 1 0
def cg(c e f:List Int):Option (List Int) :=
 (if 0≤(0:Int)∧0<((3:Nat):Int)then(((if(decide ((i64.wrap (0+(c.length:Int)))<0))=true then none
 else some (()))).bind fun _=>(if 0≤(1:Int)∧1<((3:Nat):Int)then(((if(decide ((i64.wrap ((i64.wrap (0+(c.length:Int)))+(e.length:Int)))<0))=true then none
 else some (()))).bind fun _=>(if 0≤(2:Int)∧2<((3:Nat):Int)then(((if(decide ((i64.wrap ((i64.wrap ((i64.wrap (0+(c.length:Int)))+(e.length:Int)))+(f.length:Int)))<0))=true then none
 else some (()))).bind fun _=>((bZ (i64.wrap ((i64.wrap ((i64.wrap (0+(c.length:Int)))+(e.length:Int)))+(f.length:Int)))).bind fun j =>
 (if 0≤(0:Int)∧0<((3:Nat):Int)then(if(j.length+c.length)*1≤140737488355328∧j.length+c.length≤9223372036854775807 then(if 0≤(1:Int)∧1<((3:Nat):Int)then(if((j++c).length+e.length)*1≤140737488355328∧(j++c).length+e.length≤9223372036854775807 then(if 0≤(2:Int)∧2<((3:Nat):Int)then(if(((j++c)++e).length+f.length)*1≤140737488355328∧((j++c)++e).length+f.length≤9223372036854775807 then some (((j++c)++e)++f)else none)else none)else none)else none)else none)else none)))else none))else none))else none)
theorem lj(j k m:Bool){c e:List Int}{f q:List Int}(h:cg c e f=some q):
  ff Tryz.prog 60 [.sl 0] (Ei j c k e m f) (.p false (.slice (.int .u8)) q) []:=by
 refine OB Tryz.func60 (fun Bw w0=> ?_);unfold cg at h;refine G (G (af (G (ak (vH 9 (G (af (nQ rfl (ae (ab (af (ak (GC 0 h (fun h=>G (G (bg h (fun _=>ay [(0,.sl 0),(3,.i64 (i64.wrap (0+(c.length:Int)))),(9,.sl 0),(10,.i64 3),(11,.i64 0)] (Ei j c k e m f) 1 1) (fun B h=> ?_) (fun B h=> ?_)))))))))))))))))
 ·refine aA h (fun v h=> ?_) (fun v h=> ?_)
  ·cases h
  exact ae (eN h (gg [] [0]))
 refine au (ab (Ge (sY (G (af (nQ rfl (ae (ab (af (ak (GC 0 h (fun h=>G (G (bg h (fun _=>ay [(0,.sl 0),(3,.i64 (i64.wrap ((i64.wrap (0+(c.length:Int)))+(e.length:Int)))),(9,.sl 0),(10,.i64 3),(11,.i64 1)] (Ei j c k e m f) 1 1) (fun C h=> ?_) (fun C h=> ?_)))))))))))))))
 ·refine aA h (fun x h=> ?_) (fun x h=> ?_)
  ·cases h
  exact ae (eN h (gg [] [0]))
 refine au (ab (Ge (sY (G (af (nQ rfl (ae (ab (af (ak (GC 0 h (fun h=>G (G (bg h (fun _=>ay [(0,.sl 0),(3,.i64 (i64.wrap ((i64.wrap ((i64.wrap (0+(c.length:Int)))+(e.length:Int)))+(f.length:Int)))),(9,.sl 0),(10,.i64 3),(11,.i64 2)] (Ei j c k e m f) 1 1) (fun D h=> ?_) (fun D h=> ?_)))))))))))))))
 ·refine aA h (fun z h=> ?_) (fun z h=> ?_)
  ·cases h
  exact ae (eN h (gg [] [0]))
 refine au (ab (Ge (sY (G (af (mu rfl (aq (aL (LP (av (ab ?_)))))))))));obtain⟨A,E,h⟩:=aj h;have u:=(ky E);refine GN ⟨[],[(1,(oO u [] [] [false,true]))]⟩ [(1,1,oc u)] (af (G (ak (vH 9 (G (af (nQ rfl (ae (ab (af (ak (GC 0 h (fun h=>tq 2 h (fun h=>au (ab (Ge (sY (G (af (nQ rfl (ae (ab (af (ak (GC 0 h (fun h=>tq 2 h (fun h=>au (ab (Ge (sY (G (af (nQ rfl (ae (ab (af (ak (GC 0 h (fun h=>tq 2 h (fun h=>au (ab (Ge (sY (G (af (mu rfl (aq (aL (LP (av (ab (G (ao ?_)))))))))))))))))))))))))))))))))))))))))))))))))))));obtain rfl:=sI h;exact RO [some (.slice (.int .u8))] [] [0,281] [(2,.sl 1)] [(1,.arr 5 (.int .u8) (((A++c)++e)++f))] 2 1
def dW(c:List Int)(e f:Int)(j:List Int):Option tP :=
 ((jt (c.length:Int) e f j).bind fun k =>
 (if(k != 0)=true then some (([]:List Int),k)
 else(if 0≤(0:Int)∧0≤e∧e≤(c.length:Int)then(if 0≤(i64.wrap (e+f))∧(i64.wrap (e+f))≤(c.length:Int)∧(c.length:Int)≤(c.length:Int)then((cg ((c.take e.toNat).drop (0:Int).toNat) j ((c.take (c.length:Int).toNat).drop (i64.wrap (e+f)).toNat)).bind fun m =>
 some (m,0))else none)else none)))
theorem wL(c e:Bool){k:List Int}{m q:Int}{u:List Int}{f:(List Int)×Int}(h:dW k m q u=some f):
  Pure Tryz.prog 35 [.p c (.slice (.int .u8)) k,.agg [.i64 m,.i64 q,.p e (.slice (.int .u8)) u]] (aG (aU false [⟨(.slice (.int .u8)),f.1⟩,⟨(.int .i64),f.2⟩])):=by
 refine PB Tryz.func35 (fun Bw w0=> ?_);unfold dW at h;refine G (af ?_);obtain⟨C,v,h⟩:=aj h;refine GP 3 (yg e v) (G (aA h (fun x h=> ?_) (fun x h=> ?_)))
 ·refine G (ao (ah ?_));obtain rfl:=sI h;exact RI [(.slice (.int .u8)),(.int .i64)]
 refine ae (ab ?_);obtain⟨z,A,h⟩:=g2 h;obtain⟨D,B,h⟩:=aj h;have j:=(lj c e c B);refine GD ⟨[],[(13,⟨.unk,[],false,[],[],[],none⟩),(14,(oO j [184]))]⟩ [(3,3,oc z),(12,12,oc A),(14,14,oc j)] (ao ?_);obtain rfl:=sI h;exact RI [(.slice (.int .u8)),(.int .i64)]
def dh(I J:Int)(L:List Int)(C:List Z2)(D:Bool)(M:Option Z1)(N O R V X:Int)(Y:Option Nat)(c:List Int)(e:List Z2)(f:List Int)(j:Option Z4)(E:List Z9):Option K6 :=
 ((dW c I J L).bind fun(m,k) =>
 (if(k != 0)=true then some (k,C,D,c,e,f,j,E)
 else((bQ m C D M N O R V X Y c e f j E).bind fun(p,q,u,v,x,z,A,B) =>
 some (p,q,u,v,x,z,A,B))))
theorem sh(q:Bool){e1 e2:Int}{e3:List Int}{E:List Z2}{I:Bool}{u:Option Z1}{v x:Int}{z A B:Int}{C:Option Nat}{f:List Int}{j:List Z2}{k:List Int}{m:Option Z4}{J:List Z9}{c:Int×(List Z2)×Bool×(List Int)×(List Z2)×(List Int)×(Option Z4)×List Z9}(h:dh e1 e2 e3 E I u v x z A B C f j k m J=some c):
  ff Tryz.prog 15 [.adr 0 0 14 0,.agg [.i64 e1,.i64 e2,.p q (.slice (.int .u8)) e3]] (gh E I u v x z A B C f j k m J) (.i64 c.1) (gh c.2.1 c.2.2.1 u v x z A B C c.2.2.2.1 c.2.2.2.2.1 c.2.2.2.2.2.1 c.2.2.2.2.2.2.1 c.2.2.2.2.2.2.2):=by
 refine OB Tryz.func15 (fun Bw w0=> ?_);unfold dh at h;refine G (af (GN a0 [(1,1,⟨∃e,Tryz.prog.underlying 53=some (.pointer e),⟨_,rfl⟩⟩)] (mu rfl (ae (ab ?_)))));obtain⟨⟨a1,L⟩,q6,h⟩:=aj h;have D:=(wL false q q6);refine GD ⟨[],[(5,(oP D))]⟩ [(5,5,oc D)] (af (G (aA h (fun B3 h=> ?_) (fun B3 h=> ?_))))
 ·refine G (ao (ah ?_));obtain rfl:=sI h;exact RO [some (.int .i64)] [] [0,1] [(4,.i64 L)] (gh E I u v x z A B C f j k m J) 2 2
 refine ae (ab ?_);obtain⟨⟨M,N,O,R,V,X,Y,Z⟩,q8,h⟩:=aj h;refine GO 2 [0,1] (ju q8) (ao ?_);obtain rfl:=sI h;exact RO [some (.int .i64)] [] [0,1] [(4,.i64 M)] (gh N O u v x z A B C R V X Y Z) 2 2
def gm(_ A B:Int)(C:List Int)(_ _ _ _ _:Int)(_:Option Nat)(_:Int)(_:Bool)(_ _:Int)(D:List Z2)(E:Bool)(I:Option Z1)(J L M N O:Int)(R:Option Nat)(c:List Int)(e:List Z2)(f:List Int)(j:Option Z4)(V:List Z9)(_ _ _ _:Int)(_:Bool):Option ((List Z2)×Bool×(List Int)×(List Z2)×(List Int)×(Option Z4)×(List Z9)×Int) :=
 ((dh A B C D E I J L M N O R c e f j V).bind fun(k,m,p,q,u,v,x,z) =>
 some (m,p,q,u,v,x,z,k))
theorem sc(e:Bool){s1 s2 s3:Int}{s4:List Int}{s5 s6:Int}{s7 s8 s9:Int}{f:Option Nat}{j:Int}{k:Bool}{m q:Int}{f1:List Z2}{f2:Bool}{A:Option Z1}{B C:Int}{D E I:Int}{J:Option Nat}{u:List Int}{v:List Z2}{x:List Int}{z:Option Z4}{o1:List Z9}{a1 L:Int}{M N:Int}{O:Bool}{c:(List Z2)×Bool×(List Int)×(List Z2)×(List Int)×(Option Z4)×(List Z9)×Int}(h:gm s1 s2 s3 s4 s5 s6 s7 s8 s9 f j k m q f1 f2 A B C D E I J u v x z o1 a1 L M N O=some c):
  ff Tryz.prog 42 [.adr 0 0 14 0,.agg [.i64 s1,.i64 s2,.i64 s3,.p e (.slice (.int .u8)) s4,.i64 s5,.i64 s6,.u8 s7,.i64 s8,.i64 s9,.p false .flt f,.i64 j,.bo k,.i64 m,.i64 q],.adr 2 0 6 0] (og f1 f2 A B C D E I J u v x z o1 a1 L M N O) (.tup []) (og c.1 c.2.1 A B C D E I J c.2.2.1 c.2.2.2.1 c.2.2.2.2.1 c.2.2.2.2.2.1 c.2.2.2.2.2.2.1 c.2.2.2.2.2.2.2 L M N O):=by
 refine OB Tryz.func42 (fun Bw w0=> ?_);unfold gm at h;refine G ?_;obtain⟨⟨R,V,X,Y,Z,a6,a7,a8⟩,q4,h⟩:=aj h;refine kO 4 [0,1] (sh e q4) ?_;obtain rfl:=sI h;exact(RO [] [] [0,1,2] [] (og V X A B C D E I J Y Z a6 a7 a8 R L M N O) 3 3).normal
def db(j e:List Z2):((List Z2)×Int)→Option (((List Z2)×Int)⊕(List Z2)):=fun(f,c) =>
 (if(decide (c<(e.length:Int)))=true then(if 0≤c∧c<(e.length:Int)then(if 0≤(i64.wrap (((e.getD c.toNat (0,0,0,0)).2.1) - 1))∧(i64.wrap (((e.getD c.toNat (0,0,0,0)).2.1) - 1))<(j.length:Int)then(if 0≤(e.getD c.toNat (0,0,0,0)).1∧(e.getD c.toNat (0,0,0,0)).1<(j.length:Int)then(if(f.length+([((j.getD (((e.getD c.toNat (0,0,0,0)).1).toNat) (0,0,0,0)).1,(i64.wrap (((j.getD ((i64.wrap (((e.getD c.toNat (0,0,0,0)).2.1) - 1)).toNat) (0,0,0,0)).1)+((j.getD ((i64.wrap (((e.getD c.toNat (0,0,0,0)).2.1) - 1)).toNat) (0,0,0,0)).2.1))),(e.getD c.toNat (0,0,0,0)).2.2.1,(e.getD c.toNat (0,0,0,0)).2.2.2)]:List Z2).length)*32≤140737488355328∧f.length+([((j.getD (((e.getD c.toNat (0,0,0,0)).1).toNat) (0,0,0,0)).1,(i64.wrap (((j.getD ((i64.wrap (((e.getD c.toNat (0,0,0,0)).2.1) - 1)).toNat) (0,0,0,0)).1)+((j.getD ((i64.wrap (((e.getD c.toNat (0,0,0,0)).2.1) - 1)).toNat) (0,0,0,0)).2.1))),(e.getD c.toNat (0,0,0,0)).2.2.1,(e.getD c.toNat (0,0,0,0)).2.2.2)]:List Z2).length≤9223372036854775807 then some (Sum.inl ((f++([((j.getD (((e.getD c.toNat (0,0,0,0)).1).toNat) (0,0,0,0)).1,(i64.wrap (((j.getD ((i64.wrap (((e.getD c.toNat (0,0,0,0)).2.1) - 1)).toNat) (0,0,0,0)).1)+((j.getD ((i64.wrap (((e.getD c.toNat (0,0,0,0)).2.1) - 1)).toNat) (0,0,0,0)).2.1))),(e.getD c.toNat (0,0,0,0)).2.2.1,(e.getD c.toNat (0,0,0,0)).2.2.2)]:List Z2)),(i64.wrap (c+1))))else none)else none)else none)else none)
 else some (Sum.inr f))
def fT(f:List Z2)(_:List Int)(e:List Z2):Option (List Z2) :=
 (if((e.length:Int) == 0)=true then some ([(0,0,0,2)]:List Z2)
 else((iter (db f e) (([]:List Z2),0)).bind fun c=>some c))
theorem yr(f j k:Bool){u:List Z2}{v:List Int}{q m:List Z2}(h:fT u v q=some m):
  Pure Tryz.prog 38 [.agg [.p f (.slice Y9) u,.p j (.slice (.int .u8)) v],.p k (.slice Y9) q] (aG (aU false [⟨(.slice Y9),m⟩])):=by
 refine PB Tryz.func38 (fun Bw w0=> ?_);unfold fT at h;refine G (af (G (aA h (fun B h=> ?_) (fun B h=> ?_))))
 ·refine G (ao (ah ?_));obtain rfl:=sI h;exact RI [(.slice Y9)]
 refine ae (ab (G (af (G (ak (cd h (fun(c,A)=>ay [(2,.adr 0 0 2 0),(5,.sl 1),(14,.p k (.slice Y9) q),(15,.i64 (q.length:Int)),(16,.i64 A)] (Kv f u j v c) 2) 0 (fun e=>ay [(5,.sl 0)] [(0,.arr 128 Y9 e)] 1) (gg [.nilS 5 72 128 Y9] [0,72]) (fun y o h=> ?_) (fun e h=> ?_)))))))
 ·obtain⟨c,A⟩:=y;unfold db at h;refine G (af (aA h (fun C h=> ?_) (fun C h=> ?_)))
  ·refine ae (ab (af (ak (GC 0 h (fun h=>GC 5 h (fun h=> ?_))))));obtain⟨x,z,h⟩:=g2 h;refine jC a0 [(5,5,oc x),(19,19,oc z)] (au (ab (Ge ?_)));exact eB h (gg [] [0,266])
  refine aq (aL ?_);exact eX h (gg [] [1])
 refine av (ab (G (ao ?_)));obtain rfl:=sI h;exact RI [(.slice Y9)]
def bT(f:List Z2)(j:Bool)(_:Option Z1)(_ _ _ _ _:Int)(_:Option Nat)(_:List Int)(c:List Z2)(e:List Int)(_:Option Z4)(_:List Z9):Option ((List Z2)×Bool) :=
 ((fT c e f).bind fun k =>
 some (k,j))
theorem ew{v:List Z2}{q:Bool}{x:Option Z1}{z A:Int}{B C D:Int}{E:Option Nat}{c:List Int}{f:List Z2}{j:List Int}{k:Option Z4}{I:List Z9}{m:(List Z2)×Bool}(h:bT v q x z A B C D E c f j k I=some m):
  ff Tryz.prog 20 [.adr 0 0 14 0] (gh v q x z A B C D E c f j k I) (.agg [.p false (.slice Y9) m.1,.bo m.2]) (gh v q x z A B C D E c f j k I):=by
 refine OB Tryz.func20 (fun Bw w0=> ?_);unfold bT at h;refine G (af (GN a0 [(1,1,⟨∃e,Tryz.prog.underlying 53=some (.pointer e),⟨_,rfl⟩⟩)] (mu rfl (ae (ab ?_)))));obtain⟨J,L,h⟩:=aj h;have u:=(yr false false false L);refine GD ⟨[],[(9,(oP u))]⟩ [(9,9,oc u)] (ao ?_);obtain rfl:=sI h;exact RO [some F8] [] [0,1,2] [(2,.adr 2 0 2 0)] (KN v q x z A B C D E c f j k I J q) 3 2
def dq(m p q u v:Int)(x:Option Nat)(z:List Z2)(A:Bool)(f3:Option Z1)(B C D E I:Int)(J:Option Nat)(e:List Int)(f:List Z2)(j:List Int)(k:Option Z4)(o1:List Z9):Option (Int×(List Z2)×Bool×Int×Int×Int×Int×Int×(Option Nat)×(List Int)×(List Z2)×(List Int)×(Option Z4)×List Z9) :=
 ((cU m p q u v x).bind fun L =>
 (if(!L)=true then some (40,z,A,B,C,D,E,I,J,e,f,j,k,o1)
 else(if((m == B) && ((p == C) && ((q == D) && ((u == E) && ((v == I) && (Jn x J))))))=true then some (0,z,A,B,C,D,E,I,J,e,f,j,k,o1)
 else((bQ e z A f3 m p q u v x e f j k ([]:List Z9)).bind fun(M,N,O,R,V,X,Y,Z) =>
 some (M,N,O,m,p,q,u,v,x,R,V,X,Y,Z)))))
theorem ta{I J:Int}{L M N:Int}{O:Option Nat}{u:List Z2}{v:Bool}{q:Option Z1}{x z:Int}{A B C:Int}{D:Option Nat}{f:List Int}{j:List Z2}{k:List Int}{m:Option Z4}{E:List Z9}{c:Int×(List Z2)×Bool×Int×Int×Int×Int×Int×(Option Nat)×(List Int)×(List Z2)×(List Int)×(Option Z4)×List Z9}(h:dq I J L M N O u v q x z A B C D f j k m E=some c):
  ff Tryz.prog 16 [.adr 0 0 14 0,.agg [.i64 I,.i64 J,.u8 L,.i64 M,.i64 N,.p false .flt O]] (gh u v q x z A B C D f j k m E) (.i64 c.1) (gh c.2.1 c.2.2.1 q c.2.2.2.1 c.2.2.2.2.1 c.2.2.2.2.2.1 c.2.2.2.2.2.2.1 c.2.2.2.2.2.2.2.1 c.2.2.2.2.2.2.2.2.1 c.2.2.2.2.2.2.2.2.2.1 c.2.2.2.2.2.2.2.2.2.2.1 c.2.2.2.2.2.2.2.2.2.2.2.1 c.2.2.2.2.2.2.2.2.2.2.2.2.1 c.2.2.2.2.2.2.2.2.2.2.2.2.2):=by
 refine OB Tryz.func16 (fun Bw w0=> ?_);unfold dq at h;refine G (af (GN a0 [(1,1,⟨∃e,Tryz.prog.underlying 53=some (.pointer e),⟨_,rfl⟩⟩)] (mu rfl (ae (ab (af ?_))))));obtain⟨a4,q6,h⟩:=aj h;refine GP 1 (qB q6) (aA h (fun B4 h=> ?_) (fun B4 h=> ?_))
 ·refine G (ao (ah ?_));obtain rfl:=sI h;exact RO [some (.int .i64)] [] [0,1] [(4,.i64 40)] (gh u v q x z A B C D f j k m E) 2 2
 refine ae (ab (af (GD a0 [(5,5,oc LO)] (aA h (fun B5 h=> ?_) (fun B5 h=> ?_)))))
 ·refine G (ao (ah ?_));obtain rfl:=sI h;exact RO [some (.int .i64)] [] [0,1] [(4,.i64 0)] (gh u v q x z A B C D f j k m E) 2 2
 refine ae (ab (G (G ?_)));obtain⟨⟨R,V,X,Y,Z,a1,a2,a3⟩,q8,h⟩:=aj h;refine GO 5 [0,1] (ju q8) (ao ?_);obtain rfl:=sI h;exact RO [some (.int .i64)] [] [0,1] [(4,.i64 R)] (gh V X q I J L M N O Y Z a1 a2 a3) 2 2
def fQ(_ s2 s3:Int)(_:List Int)(L M N O R:Int)(c:Option Nat)(_:Int)(_:Bool)(_ _:Int)(V:List Z2)(X:Bool)(Y:Option Z1)(Z f5 f6 f7 f8:Int)(f9:Option Nat)(e:List Int)(f:List Z2)(j:List Int)(k:Option Z4)(o1:List Z9)(_ _ _ _:Int)(_:Bool):Option ((List Z2)×Bool×Int×Int×Int×Int×Int×(Option Nat)×(List Int)×(List Z2)×(List Int)×(Option Z4)×(List Z9)×Int) :=
 ((dq L M N O R c V X Y Z f5 f6 f7 f8 f9 e f j k o1).bind fun(m,p,q,u,v,x,z,A,B,C,D,E,I,J) =>
 some (p,q,u,v,x,z,A,B,C,D,E,I,J,m))
theorem rP(E:Bool){s1 s2 s3:Int}{s4:List Int}{s5 s6:Int}{s7 s8 s9:Int}{e:Option Nat}{f:Int}{j:Bool}{k m:Int}{f1:List Z2}{f2:Bool}{z:Option Z1}{f4 f5:Int}{f6 f7 f8:Int}{f9:Option Nat}{q:List Int}{u:List Z2}{v:List Int}{x:Option Z4}{o1:List Z9}{a1 A:Int}{B C:Int}{D:Bool}{c:(List Z2)×Bool×Int×Int×Int×Int×Int×(Option Nat)×(List Int)×(List Z2)×(List Int)×(Option Z4)×(List Z9)×Int}(h:fQ s1 s2 s3 s4 s5 s6 s7 s8 s9 e f j k m f1 f2 z f4 f5 f6 f7 f8 f9 q u v x o1 a1 A B C D=some c):
  ff Tryz.prog 43 [.adr 0 0 14 0,.agg [.i64 s1,.i64 s2,.i64 s3,.p E (.slice (.int .u8)) s4,.i64 s5,.i64 s6,.u8 s7,.i64 s8,.i64 s9,.p false .flt e,.i64 f,.bo j,.i64 k,.i64 m],.adr 2 0 6 0] (og f1 f2 z f4 f5 f6 f7 f8 f9 q u v x o1 a1 A B C D) (.tup []) (og c.1 c.2.1 z c.2.2.1 c.2.2.2.1 c.2.2.2.2.1 c.2.2.2.2.2.1 c.2.2.2.2.2.2.1 c.2.2.2.2.2.2.2.1 c.2.2.2.2.2.2.2.2.1 c.2.2.2.2.2.2.2.2.2.1 c.2.2.2.2.2.2.2.2.2.2.1 c.2.2.2.2.2.2.2.2.2.2.2.1 c.2.2.2.2.2.2.2.2.2.2.2.2.1 c.2.2.2.2.2.2.2.2.2.2.2.2.2 A B C D):=by
 refine OB Tryz.func43 (fun Bw w0=> ?_);unfold fQ at h;refine G ?_;obtain⟨⟨I,J,L,M,N,O,R,V,X,Y,Z,a6,a7,a8⟩,q4,h⟩:=aj h;refine kO 4 [0,1] (ta q4) ?_;obtain rfl:=sI h;exact(RO [] [] [0,1,2] [] (og J L z M N O R V X Y Z a6 a7 a8 I A B C D) 3 3).normal
def fu(c:Option Z4):Option (Int) :=
 (if c.isSome=true then(if(decide ((((c.getD (Ty.zero (.prod eO fO))).1.1).length:Int) > 0))=true then(if c.isSome=true then(if 0≤(i64.wrap ((((c.getD (Ty.zero (.prod eO fO))).1.1).length:Int) - 1))∧(i64.wrap ((((c.getD (Ty.zero (.prod eO fO))).1.1).length:Int) - 1))<(((c.getD (Ty.zero (.prod eO fO))).1.1).length:Int)then(if c.isSome=true then(if 0≤(i64.wrap ((((c.getD (Ty.zero (.prod eO fO))).1.1).length:Int) - 1))∧(i64.wrap ((((c.getD (Ty.zero (.prod eO fO))).1.1).length:Int) - 1))<(((c.getD (Ty.zero (.prod eO fO))).1.1).length:Int)then some (i64.wrap (((((c.getD (Ty.zero (.prod eO fO))).1.1).getD ((i64.wrap ((((c.getD (Ty.zero (.prod eO fO))).1.1).length:Int) - 1)).toNat) (0,0,0,0)).1)+((((c.getD (Ty.zero (.prod eO fO))).1.1).getD ((i64.wrap ((((c.getD (Ty.zero (.prod eO fO))).1.1).length:Int) - 1)).toNat) (0,0,0,0)).2.1)))else none)else none)else none)else none)
 else some 0)else none)
theorem mG(e:Bool){j:Option Z4}{c:Int}(h:fu j=some c):
  Pure Tryz.prog 61 [.p e (.ptr (.prod eO fO)) j] (aG (aU false [⟨(.int .i64),c⟩])):=by
 refine PB Tryz.func61 (fun Bw w0=> ?_);unfold fu at h;refine G (af (GC 1 h (fun h=>G (aA h (fun k h=> ?_) (fun k h=> ?_)))))
 ·obtain⟨m,q,u,f,h⟩:=g4 h;refine GD a0 [(1,1,oc m),(7,7,oc q),(11,11,oc u),(17,17,oc f)] (ao (ah ?_));obtain rfl:=sI h;exact RI [(.int .i64)]
 refine ae (ab (G (ao ?_)));obtain rfl:=sI h;exact RI [(.int .i64)]
def jk(c e _ _ f:Int):Option (Bool) :=
 some (decide ((i64.wrap (c+e)) > f))
theorem qk{e f:Int}{j k m:Int}{c:Bool}(h:jk e f j k m=some c):
  Pure Tryz.prog 63 [.agg [.i64 e,.i64 f,.i64 j,.u8 k],.fad true [.i64 m] 0] (aG (aU false [⟨.bool,c⟩])):=by
 refine PB Tryz.func63 (fun Bw w0=> ?_);unfold jk at h;refine G (G (ao ?_));obtain rfl:=sI h;exact RI [.bool]
def fm(c f:Int)(e:List Z2):Option (Bool) :=
 (if 0≤c∧c<(e.length:Int)then((jk ((e.getD c.toNat (0,0,0,0)).1) ((e.getD c.toNat (0,0,0,0)).2.1) ((e.getD c.toNat (0,0,0,0)).2.2.1) ((e.getD c.toNat (0,0,0,0)).2.2.2) f).bind fun j =>
 some j)else none)
theorem tT(f:Bool){j k:Int}{m:List Z2}{c:Bool}(h:fm j k m=some c):
  Pure Tryz.prog 93 [.i64 j,.fad true [.fn 63 [.fad true [.i64 k] 0]] 0,.fad true [.p f (.slice Y9) m] 0] (aG (aU false [⟨.bool,c⟩])):=by
 refine PB Tryz.func93 (fun Bw w0=> ?_);unfold fm at h;refine G ?_;obtain⟨q,h⟩:=aD h;obtain⟨v,u,h⟩:=aj h;have e:=(qk u);refine GD ⟨[],[(5,(oP e))]⟩ [(3,3,oc q),(5,5,oc e)] (ao ?_);obtain rfl:=sI h;exact RI [.bool]
def iZ(f:Int)(j:List Z2):(Int×Int)→Option ((Int×Int)⊕(Int)):=fun(c,e) =>
 (if(decide (c<e))=true then(if 0≤(1:Int)then((fm (i64.wrap (Int.fdiv (u64.wrap (i64.wrap (c+e))) (2 ^ (min (1:Int).toNat u64.bits)))) f j).bind fun k =>
 (if(!k)=true then some (Sum.inl ((i64.wrap ((i64.wrap (Int.fdiv (u64.wrap (i64.wrap (c+e))) (2 ^ (min (1:Int).toNat u64.bits))))+1)),e))
 else some (Sum.inl (c,(i64.wrap (Int.fdiv (u64.wrap (i64.wrap (c+e))) (2 ^ (min (1:Int).toNat u64.bits))))))))else none)
 else some (Sum.inr c))
def iC(c e:Int)(f:List Z2):Option (Int) :=
 ((iter (iZ e f) (0,c)).bind fun j=>some j)
theorem sU(c:Bool){k f:Int}{j:List Z2}{e:Int}(h:iC k f j=some e):
  Pure Tryz.prog 92 [.i64 k,.fn 93 [.fad true [.fn 63 [.fad true [.i64 f] 0]] 0,.fad true [.p c (.slice Y9) j] 0]] (aG (aU false [⟨(.int .i64),e⟩])):=by
 refine PB Tryz.func92 (fun Bw w0=> ?_);unfold iC at h;refine G (G (af (ak (cd h (fun(m,q)=>ay [(1,.fn 93 [.fad true [.fn 63 [.fad true [.i64 f] 0]] 0,.fad true [.p c (.slice Y9) j] 0]),(5,.i64 m),(6,.i64 q)] [] 0) 0 (fun u=>ay [(5,.i64 u)] [] 0) (gg [] []) (fun y o h=> ?_) (fun u h=> ?_)))))
 ·obtain⟨m,q⟩:=y;unfold iZ at h;refine af (G (aA h (fun v h=> ?_) (fun v h=> ?_)))
  ·refine ae (ab (ak (GC 4 h (fun h=> ?_))));obtain⟨A,x,h⟩:=aj h;refine GP 2 (tT c x) (aA h (fun z h=> ?_) (fun z h=> ?_))
   ·refine Ge (au ?_);exact eB h (gg [] [])
   refine Ge (au ?_);exact eB h (gg [] [])
  refine aq (aL ?_);exact eX h (gg [] [])
 refine av (ab (G (ao ?_)));obtain rfl:=sI h;exact RI [(.int .i64)]
def jW(e:List Z2)(c:Int):Option (Int) :=
 ((iC (e.length:Int) c e).bind fun f =>
 some f)
theorem wI(c:Bool){j:List Z2}{e f:Int}(h:jW j e=some f):
  Pure Tryz.prog 62 [.p c (.slice Y9) j,.fn 63 [.fad true [.i64 e] 0]] (aG (aU false [⟨(.int .i64),f⟩])):=by
 refine PB Tryz.func62 (fun Bw w0=> ?_);unfold jW at h;refine G ?_;obtain⟨m,k,h⟩:=aj h;refine GP 3 (sU c k) (ao ?_);obtain rfl:=sI h;exact RI [(.int .i64)]
def jm(f c _ _ e:Int):Option (Bool) :=
 some (decide (c > e))
theorem qb{e f:Int}{j k m:Int}{c:Bool}(h:jm e f j k m=some c):
  Pure Tryz.prog 65 [.agg [.i64 e,.i64 f,.i64 j,.u8 k],.fad true [.i64 m] 0] (aG (aU false [⟨.bool,c⟩])):=by
 refine PB Tryz.func65 (fun Bw w0=> ?_);unfold jm at h;refine G (G (ao ?_));obtain rfl:=sI h;exact RI [.bool]
def jn(c f:Int)(e:List Z2):Option (Bool) :=
 (if 0≤c∧c<(e.length:Int)then((jm ((e.getD c.toNat (0,0,0,0)).1) ((e.getD c.toNat (0,0,0,0)).2.1) ((e.getD c.toNat (0,0,0,0)).2.2.1) ((e.getD c.toNat (0,0,0,0)).2.2.2) f).bind fun j =>
 some j)else none)
theorem yk(f:Bool){j k:Int}{m:List Z2}{c:Bool}(h:jn j k m=some c):
  Pure Tryz.prog 94 [.i64 j,.fad true [.fn 65 [.fad true [.i64 k] 0]] 0,.fad true [.p f (.slice Y9) m] 0] (aG (aU false [⟨.bool,c⟩])):=by
 refine PB Tryz.func94 (fun Bw w0=> ?_);unfold jn at h;refine G ?_;obtain⟨q,h⟩:=aD h;obtain⟨v,u,h⟩:=aj h;have e:=(qb u);refine GD ⟨[],[(5,(oP e))]⟩ [(3,3,oc q),(5,5,oc e)] (ao ?_);obtain rfl:=sI h;exact RI [.bool]
def iM(f:Int)(j:List Z2):(Int×Int)→Option ((Int×Int)⊕(Int)):=fun(c,e) =>
 (if(decide (c<e))=true then(if 0≤(1:Int)then((jn (i64.wrap (Int.fdiv (u64.wrap (i64.wrap (c+e))) (2 ^ (min (1:Int).toNat u64.bits)))) f j).bind fun k =>
 (if(!k)=true then some (Sum.inl ((i64.wrap ((i64.wrap (Int.fdiv (u64.wrap (i64.wrap (c+e))) (2 ^ (min (1:Int).toNat u64.bits))))+1)),e))
 else some (Sum.inl (c,(i64.wrap (Int.fdiv (u64.wrap (i64.wrap (c+e))) (2 ^ (min (1:Int).toNat u64.bits))))))))else none)
 else some (Sum.inr c))
def iK(c e:Int)(f:List Z2):Option (Int) :=
 ((iter (iM e f) (0,c)).bind fun j=>some j)
theorem sN(c:Bool){k f:Int}{j:List Z2}{e:Int}(h:iK k f j=some e):
  Pure Tryz.prog 92 [.i64 k,.fn 94 [.fad true [.fn 65 [.fad true [.i64 f] 0]] 0,.fad true [.p c (.slice Y9) j] 0]] (aG (aU false [⟨(.int .i64),e⟩])):=by
 refine PB Tryz.func92 (fun Bw w0=> ?_);unfold iK at h;refine G (G (af (ak (cd h (fun(m,q)=>ay [(1,.fn 94 [.fad true [.fn 65 [.fad true [.i64 f] 0]] 0,.fad true [.p c (.slice Y9) j] 0]),(5,.i64 m),(6,.i64 q)] [] 0) 0 (fun u=>ay [(5,.i64 u)] [] 0) (gg [] []) (fun y o h=> ?_) (fun u h=> ?_)))))
 ·obtain⟨m,q⟩:=y;unfold iM at h;refine af (G (aA h (fun v h=> ?_) (fun v h=> ?_)))
  ·refine ae (ab (ak (GC 4 h (fun h=> ?_))));obtain⟨A,x,h⟩:=aj h;refine GP 2 (yk c x) (aA h (fun z h=> ?_) (fun z h=> ?_))
   ·refine Ge (au ?_);exact eB h (gg [] [])
   refine Ge (au ?_);exact eB h (gg [] [])
  refine aq (aL ?_);exact eX h (gg [] [])
 refine av (ab (G (ao ?_)));obtain rfl:=sI h;exact RI [(.int .i64)]
def jL(e:List Z2)(c:Int):Option (Int) :=
 ((iK (e.length:Int) c e).bind fun f =>
 some f)
theorem vP(c:Bool){j:List Z2}{e f:Int}(h:jL j e=some f):
  Pure Tryz.prog 64 [.p c (.slice Y9) j,.fn 65 [.fad true [.i64 e] 0]] (aG (aU false [⟨(.int .i64),f⟩])):=by
 refine PB Tryz.func64 (fun Bw w0=> ?_);unfold jL at h;refine G ?_;obtain⟨m,k,h⟩:=aj h;refine GP 3 (sN c k) (ao ?_);obtain rfl:=sI h;exact RI [(.int .i64)]
def eL(c:Option Z4)(k:Int)(m:Bool):Option ((Int×Int)×Int) :=
 (if c.isNone=true then some ((0,0),1)
 else(((if(decide (k<0))=true then some (true)
 else((fu c).bind fun p =>
 some ((decide (k > p)))))).bind fun v1=>(if v1=true then some ((0,0),2)
 else(if c.isSome=true then((jW ((c.getD (Ty.zero (.prod eO fO))).1.1) k).bind fun j =>
 (if c.isSome=true then((jL ((c.getD (Ty.zero (.prod eO fO))).2.1) j).bind fun f =>
 (((if c.isSome=true then(if(f == (((c.getD (Ty.zero (.prod eO fO))).2.1).length:Int))=true then some (true)
 else(if m=true then(if(decide (f > 0))=true then(if c.isSome=true then(if 0≤f∧f<(((c.getD (Ty.zero (.prod eO fO))).2.1).length:Int)then some ((((((c.getD (Ty.zero (.prod eO fO))).2.1).getD f.toNat (0,0,0,0)).1) == j))else none)else none)
 else some (false))
 else some (false)))else none)).bind fun q=>(((if q=true then some ((i64.wrap (f - 1)))
 else some (f))).bind fun e=>(if c.isSome=true then(if 0≤e∧e<(((c.getD (Ty.zero (.prod eO fO))).2.2).length:Int)then(if c.isSome=true then(if 0≤e∧e<(((c.getD (Ty.zero (.prod eO fO))).2.1).length:Int)then(if 0≤(i64.wrap (j - ((((c.getD (Ty.zero (.prod eO fO))).2.1).getD e.toNat (0,0,0,0)).1)))∧(i64.wrap (j - ((((c.getD (Ty.zero (.prod eO fO))).2.1).getD e.toNat (0,0,0,0)).1)))<((((c.getD (Ty.zero (.prod eO fO))).2.2).getD e.toNat []).length:Int)then some ((e,((((c.getD (Ty.zero (.prod eO fO))).2.2).getD e.toNat []).getD ((i64.wrap (j - ((((c.getD (Ty.zero (.prod eO fO))).2.1).getD e.toNat (0,0,0,0)).1))).toNat) 0)),0)else none)else none)else none)else none)else none))))else none))else none))))
theorem rI(k:Bool){x:Option Z4}{z:Int}{A:Bool}{u:(Int×Int)×Int}(h:eL x z A=some u):
  Pure Tryz.prog 36 [.p k (.ptr (.prod eO fO)) x,.i64 z,.bo A] (aG (aU false [⟨Y2,u.1⟩,⟨(.int .i64),u.2⟩])):=by
 refine PB Tryz.func36 (fun Bw w0=> ?_);unfold eL at h;refine G (af (GN a0 [(1,1,⟨∃e,Tryz.prog.underlying 119=some (.pointer e),⟨_,rfl⟩⟩)] (aA h (fun V h=> ?_) (fun V h=> ?_))))
 ·refine G (ao (ah ?_));obtain rfl:=sI h;exact RI [Y2,(.int .i64)]
 refine ae (ab (af (af (bg h (fun v1=>ay [(0,.p k (.ptr (.prod eO fO)) x),(2,.bo A),(4,.adr 0 0 1 0),(6,.adr 1 0 2 0),(20,.bo v1)] [(0,.box [.i64 z]),(1,.box [.i64 0,.i64 0])] 2) (fun v1 h=> ?_) (fun v1 h=> ?_)))))
 ·rcases aF h with⟨v,h⟩ | ⟨v,h⟩
  ·exact jC ⟨[(2,true),(7,true)],[]⟩ [(3,7,oc v)] (eN h (gg [] [0,8]))
  obtain⟨r3,X,h⟩:=aj h;have j:=(mG k X);exact jC ⟨[(2,false),(7,false)],[(5,(oP j))]⟩ [(3,4,an v),(5,5,oc (And.intro v j)),(6,6,an v),(7,7,oc v)] (eN h (gg [] [0,8]))
 refine ab (aA h (fun Y h=> ?_) (fun Y h=> ?_))
 ·refine G (ao (ah ?_));obtain rfl:=sI h;exact RI [Y2,(.int .i64)]
 refine ae (ab ?_);obtain⟨Z,h⟩:=aD h;obtain⟨R,q5,h⟩:=aj h;have j:=(wI k q5);refine GN ⟨[],[(6,(oP j))]⟩ [(1,1,oc Z),(6,6,oc j)] ?_;obtain⟨c4,h⟩:=aD h;obtain⟨r7,q7,h⟩:=aj h;have j:=(vP k q7);refine GN ⟨[],[(5,(oP j))]⟩ [(1,1,oc c4),(5,5,oc j)] (af (af (bg h (fun B=>ay [(0,.p k (.ptr (.prod eO fO)) x),(6,.adr 0 0 2 0),(8,.adr 1 0 1 0),(9,.i64 r7),(60,.bo B)] [(0,.box [.i64 0,.i64 0]),(1,.box [.i64 R])] 2) (fun B h=> ?_) (fun B h=> ?_))))
 ·obtain⟨q,h⟩:=aD h;rcases aF h with⟨c,h⟩ | ⟨c,h⟩
  ·exact jC ⟨[(7,true),(25,true)],[]⟩ [(2,2,oc q),(8,9,oc c),(12,13,oc c),(24,25,oc c)] (eN h (gg [] [1,58]))
  rcases aF h with⟨m,h⟩ | ⟨m,h⟩
  ·rcases aF h with⟨f,h⟩ | ⟨f,h⟩
   ·obtain⟨C,D,h⟩:=g2 h;exact jC ⟨[(7,false),(9,true),(12,true),(13,true),(24,true),(25,false)],[]⟩ [(2,2,oc q),(8,9,an c),(10,11,an m),(12,12,oc (And.intro c m)),(13,13,an c),(14,14,an f),(15,15,oc (And.intro f C)),(16,18,an f),(19,19,oc (And.intro f D)),(20,23,an f),(24,24,oc (And.intro c f)),(25,25,oc c)] (eN h (gg [] [1,58]))
   exact jC ⟨[(7,false),(9,true),(12,true),(13,false),(24,false),(25,false)],[]⟩ [(2,2,oc q),(8,9,an c),(10,11,an m),(12,12,oc (And.intro c m)),(13,13,an c),(14,23,oc f),(24,24,oc (And.intro c f)),(25,25,oc c)] (eN h (gg [] [1,58]))
  exact jC ⟨[(7,false),(9,false),(12,false),(25,false)],[]⟩ [(2,2,oc q),(8,9,an c),(10,11,oc m),(12,12,oc (And.intro c m)),(13,13,an c),(24,24,an c),(25,25,oc c)] (eN h (gg [] [1,58]))
 refine ab (bg h (fun E=>ay [(0,.p k (.ptr (.prod eO fO)) x),(6,.adr 0 0 2 0),(8,.adr 1 0 1 0),(9,.i64 E)] [(0,.box [.i64 0,.i64 0]),(1,.box [.i64 R])] 2) (fun E h=> ?_) (fun E h=> ?_))
 ·refine aA h (fun I h=> ?_) (fun I h=> ?_)
  ·exact Ge (eN h (gg [] [0,1]))
  exact ae (eN h (gg [] [0,1]))
 refine ab ?_;obtain⟨J,L,M,N,h⟩:=g4 h;obtain⟨O,h⟩:=aD h;refine GD a0 [(2,2,oc J),(6,6,oc L),(10,10,oc M),(14,14,oc N),(18,18,oc O)] (ao ?_);obtain rfl:=sI h;exact RI [Y2,(.int .i64)]
def fX(e:Int)(c:Bool)(_:List Z2)(_:Bool)(_:Option Z1)(_ _ _ _ _:Int)(_:Option Nat)(_:List Int)(_:List Z2)(_:List Int)(f:Option Z4)(_:List Z9):Option ((Int×Int)×Int) :=
 ((eL f e c).bind fun(k,j) =>
 some ((k.1,k.2),j))
theorem ss{q:Int}{c:Bool}{u:List Z2}{v:Bool}{x:Option Z1}{z A:Int}{B C D:Int}{E:Option Nat}{f:List Int}{j:List Z2}{k:List Int}{m:Option Z4}{I:List Z9}{p:(Int×Int)×Int}(h:fX q c u v x z A B C D E f j k m I=some p):
  ff Tryz.prog 17 [.adr 0 0 14 0,.i64 q,.bo c] (gh u v x z A B C D E f j k m I) (.tup [.agg [.i64 p.1.1,.i64 p.1.2],.i64 p.2]) (gh u v x z A B C D E f j k m I):=by
 refine OB Tryz.func17 (fun Bw w0=> ?_);unfold fX at h;refine G (af (GN a0 [(1,1,⟨∃e,Tryz.prog.underlying 53=some (.pointer e),⟨_,rfl⟩⟩)] (mu rfl (ae (ab ?_)))));obtain⟨⟨L,J⟩,M,h⟩:=aj h;refine GP 6 (rI false M) (ao ?_);obtain rfl:=sI h;exact RO [some Y2,some (.int .i64)] [] [0,1,2] [(6,.adr 2 0 2 0),(7,.i64 J)] (Lf u v x z A B C D E f j k m I L.1 L.2) 3 2
def fS(_ J L:Int)(_:List Int)(_ _ _ _ _:Int)(_:Option Nat)(c:Int)(e:Bool)(_ _:Int)(q:List Z2)(u:Bool)(v:Option Z1)(x z A B C:Int)(D:Option Nat)(f:List Int)(j:List Z2)(k:List Int)(m:Option Z4)(E:List Z9)(_ _ _ _:Int)(_:Bool):Option eD :=
 ((fX c e q u v x z A B C D f j k m E).bind fun(p,I) =>
 some (I,p.1,p.2))
theorem sG(R:Bool){V X Y:Int}{Z:List Int}{s5 s6:Int}{s7 s8 s9:Int}{m:Option Nat}{q:Int}{u:Bool}{v x:Int}{z:List Z2}{A:Bool}{B:Option Z1}{C D:Int}{E I J:Int}{L:Option Nat}{c:List Int}{e:List Z2}{f:List Int}{j:Option Z4}{M:List Z9}{a1 a2:Int}{a3 N:Int}{O:Bool}{k:Int×Int×Int}(h:fS V X Y Z s5 s6 s7 s8 s9 m q u v x z A B C D E I J L c e f j M a1 a2 a3 N O=some k):
  ff Tryz.prog 44 [.adr 0 0 14 0,.agg [.i64 V,.i64 X,.i64 Y,.p R (.slice (.int .u8)) Z,.i64 s5,.i64 s6,.u8 s7,.i64 s8,.i64 s9,.p false .flt m,.i64 q,.bo u,.i64 v,.i64 x],.adr 2 0 6 0] (og z A B C D E I J L c e f j M a1 a2 a3 N O) (.tup []) (og z A B C D E I J L c e f j M k.1 k.2.1 k.2.2 N O):=by
 refine OB Tryz.func44 (fun Bw w0=> ?_);unfold fS at h;refine G ?_;obtain⟨⟨r7,r8⟩,q4,h⟩:=aj h;refine kO 7 [0,1] (ss q4) ?_;obtain rfl:=sI h;exact(RO [] [] [0,1,2] [] (og z A B C D E I J L c e f j M r8 r7.1 r7.2 N O) 3 3).normal
def js(c _ e:Int):Option (Bool) :=
 some (decide (c > e))
theorem qj{c f j:Int}{e:Bool}(h:js c f j=some e):
  Pure Tryz.prog 67 [.i64 c,.fad true [.i64 f,.i64 j] 0] (aG (aU false [⟨.bool,e⟩])):=by
 refine PB Tryz.func67 (fun Bw w0=> ?_);unfold js at h;refine G (G (ao ?_));obtain rfl:=sI h;exact RI [.bool]
def dv(c f j:Int)(e:List Int):Option (Bool) :=
 (if 0≤c∧c<(e.length:Int)then((js (e.getD c.toNat 0) f j).bind fun m =>
 some m)else none)
theorem o6(f:Bool){j k m:Int}{q:List Int}{c:Bool}(h:dv j k m q=some c):
  Pure Tryz.prog 95 [.i64 j,.fad true [.fn 67 [.fad true [.i64 k,.i64 m] 0]] 0,.fad true [.p f (.slice (.int .i64)) q] 0] (aG (aU false [⟨.bool,c⟩])):=by
 refine PB Tryz.func95 (fun Bw w0=> ?_);unfold dv at h;refine G ?_;obtain⟨u,h⟩:=aD h;obtain⟨x,v,h⟩:=aj h;have e:=(qj v);refine GD ⟨[],[(5,(oP e))]⟩ [(3,3,oc u),(5,5,oc e)] (ao ?_);obtain rfl:=sI h;exact RI [.bool]
def iV(f j:Int)(k:List Int):(Int×Int)→Option ((Int×Int)⊕(Int)):=fun(c,e) =>
 (if(decide (c<e))=true then(if 0≤(1:Int)then((dv (i64.wrap (Int.fdiv (u64.wrap (i64.wrap (c+e))) (2 ^ (min (1:Int).toNat u64.bits)))) f j k).bind fun m =>
 (if(!m)=true then some (Sum.inl ((i64.wrap ((i64.wrap (Int.fdiv (u64.wrap (i64.wrap (c+e))) (2 ^ (min (1:Int).toNat u64.bits))))+1)),e))
 else some (Sum.inl (c,(i64.wrap (Int.fdiv (u64.wrap (i64.wrap (c+e))) (2 ^ (min (1:Int).toNat u64.bits))))))))else none)
 else some (Sum.inr c))
def iQ(c e f:Int)(j:List Int):Option (Int) :=
 ((iter (iV e f j) (0,c)).bind fun m=>some m)
theorem sE(c:Bool){m f j:Int}{k:List Int}{e:Int}(h:iQ m f j k=some e):
  Pure Tryz.prog 92 [.i64 m,.fn 95 [.fad true [.fn 67 [.fad true [.i64 f,.i64 j] 0]] 0,.fad true [.p c (.slice (.int .i64)) k] 0]] (aG (aU false [⟨(.int .i64),e⟩])):=by
 refine PB Tryz.func92 (fun Bw w0=> ?_);unfold iQ at h;refine G (G (af (ak (cd h (fun(q,u)=>ay [(1,.fn 95 [.fad true [.fn 67 [.fad true [.i64 f,.i64 j] 0]] 0,.fad true [.p c (.slice (.int .i64)) k] 0]),(5,.i64 q),(6,.i64 u)] [] 0) 0 (fun v=>ay [(5,.i64 v)] [] 0) (gg [] []) (fun y o h=> ?_) (fun v h=> ?_)))))
 ·obtain⟨q,u⟩:=y;unfold iV at h;refine af (G (aA h (fun x h=> ?_) (fun x h=> ?_)))
  ·refine ae (ab (ak (GC 4 h (fun h=> ?_))));obtain⟨B,z,h⟩:=aj h;refine GP 2 (o6 c z) (aA h (fun A h=> ?_) (fun A h=> ?_))
   ·refine Ge (au ?_);exact eB h (gg [] [])
   refine Ge (au ?_);exact eB h (gg [] [])
  refine aq (aL ?_);exact eX h (gg [] [])
 refine av (ab (G (ao ?_)));obtain rfl:=sI h;exact RI [(.int .i64)]
def fg(f:List Int)(c e:Int):Option (Int) :=
 ((iQ (f.length:Int) c e f).bind fun j =>
 some j)
theorem qH(c:Bool){k:List Int}{e f j:Int}(h:fg k e f=some j):
  Pure Tryz.prog 66 [.p c (.slice (.int .i64)) k,.fn 67 [.fad true [.i64 e,.i64 f] 0]] (aG (aU false [⟨(.int .i64),j⟩])):=by
 refine PB Tryz.func66 (fun Bw w0=> ?_);unfold fg at h;refine G ?_;obtain⟨q,m,h⟩:=aj h;refine GP 3 (sE c m) (ao ?_);obtain rfl:=sI h;exact RI [(.int .i64)]
def fh(c:Option Z4)(e:Int):Option (Int) :=
 (if c.isSome=true then(if(decide (e<(((c.getD (Ty.zero (.prod eO fO))).1.1).length:Int)))=true then(if c.isSome=true then(if 0≤e∧e<(((c.getD (Ty.zero (.prod eO fO))).1.1).length:Int)then some (((c.getD (Ty.zero (.prod eO fO))).1.1).getD e.toNat (0,0,0,0)).1 else none)else none)
 else((fu c).bind fun f =>
 some f))else none)
theorem qO(c:Bool){f:Option Z4}{j e:Int}(h:fh f j=some e):
  Pure Tryz.prog 68 [.p c (.ptr (.prod eO fO)) f,.i64 j] (aG (aU false [⟨(.int .i64),e⟩])):=by
 refine PB Tryz.func68 (fun Bw w0=> ?_);unfold fh at h;refine G (af (GC 2 h (fun h=>aA h (fun k h=> ?_) (fun k h=> ?_))))
 ·obtain⟨m,q,h⟩:=g2 h;refine GN a0 [(1,1,oc m),(6,6,oc q)] (ao (ah ?_));obtain rfl:=sI h;exact RI [(.int .i64)]
 refine ae (ab ?_);obtain⟨v,u,h⟩:=aj h;refine GP 1 (mG c u) (ao ?_);obtain rfl:=sI h;exact RI [(.int .i64)]
def cC(e:Option Z4)(f j:Int):(Int)→Option ((Int)⊕(Int)):=fun c =>
 (((if(decide (c > 0))=true then(if 0≤(i64.wrap (c - 1))∧(i64.wrap (c - 1))<((((e.getD (Ty.zero (.prod eO fO))).2.2).getD f.toNat []).length:Int)then(if 0≤c∧c<((((e.getD (Ty.zero (.prod eO fO))).2.2).getD f.toNat []).length:Int)then(if(((((e.getD (Ty.zero (.prod eO fO))).2.2).getD f.toNat []).getD ((i64.wrap (c - 1)).toNat) 0) == ((((e.getD (Ty.zero (.prod eO fO))).2.2).getD f.toNat []).getD c.toNat 0))=true then(if 0≤c∧c<((((e.getD (Ty.zero (.prod eO fO))).2.2).getD f.toNat []).length:Int)then some ((((((e.getD (Ty.zero (.prod eO fO))).2.2).getD f.toNat []).getD c.toNat 0) == j))else none)
 else some (false))else none)else none)
 else some (false))).bind fun k=>(if k=true then some (Sum.inl (i64.wrap (c - 1)))
 else some (Sum.inr c)))
def eI(c:Option Z4)(e f:Int):Option (Int×Int) :=
 (if c.isNone=true then some (0,1)
 else(((if(decide (e<0))=true then some (true)
 else(if c.isSome=true then(if(decide (e≥(((c.getD (Ty.zero (.prod eO fO))).2.1).length:Int)))=true then some (true)
 else some ((decide (f<0))))else none))).bind fun v1=>(if v1=true then some (0,2)
 else(if c.isSome=true then(if 0≤e∧e<(((c.getD (Ty.zero (.prod eO fO))).2.1).length:Int)then(if c.isSome=true then(if 0≤e∧e<(((c.getD (Ty.zero (.prod eO fO))).2.2).length:Int)then((fg (((c.getD (Ty.zero (.prod eO fO))).2.2).getD e.toNat []) e f).bind fun j =>
 ((iter (cC c e f) (i64.wrap (j - 1))).bind fun v6=>((fh c (i64.wrap (((((c.getD (Ty.zero (.prod eO fO))).2.1).getD e.toNat (0,0,0,0)).1)+v6))).bind fun m =>
 some (m,0))))else none)else none)else none)else none))))
theorem sW(j:Bool){f:Option Z4}{k v:Int}{u:Int×Int}(h:eI f k v=some u):
  Pure Tryz.prog 37 [.p j (.ptr (.prod eO fO)) f,.agg [.i64 k,.i64 v]] (aG (aU false [⟨(.int .i64),u.1⟩,⟨(.int .i64),u.2⟩])):=by
 refine PB Tryz.func37 (fun Bw w0=> ?_);unfold eI at h;refine G (af (GN a0 [(1,1,⟨∃e,Tryz.prog.underlying 119=some (.pointer e),⟨_,rfl⟩⟩)] (aA h (fun M h=> ?_) (fun M h=> ?_))))
 ·refine G (ao (ah ?_));obtain rfl:=sI h;exact RI [(.int .i64),(.int .i64)]
 refine ae (ab (af (af (bg h (fun v1=>ay [(0,.p j (.ptr (.prod eO fO)) f),(3,.adr 0 0 2 0),(28,.bo v1)] [(0,.box [.i64 k,.i64 v])] 1) (fun v1 h=> ?_) (fun v1 h=> ?_)))))
 ·rcases aF h with⟨q,h⟩ | ⟨q,h⟩
  ·exact jC ⟨[(3,true),(12,true)],[]⟩ [(4,12,oc q)] (eN h (gg [] [0]))
  obtain⟨L,h⟩:=aD h;rcases aF h with⟨A,h⟩ | ⟨A,h⟩
  ·exact jC ⟨[(3,false),(12,false),(13,true),(17,true)],[]⟩ [(4,6,an q),(7,7,oc (And.intro q L)),(8,11,an q),(12,12,oc q),(14,17,oc A)] (eN h (gg [] [0]))
  exact jC ⟨[(3,false),(12,false),(13,false),(17,false)],[]⟩ [(4,6,an q),(7,7,oc (And.intro q L)),(8,11,an q),(12,12,oc q),(14,16,an A),(17,17,oc A)] (eN h (gg [] [0]))
 refine ab (aA h (fun N h=> ?_) (fun N h=> ?_))
 ·refine G (ao (ah ?_));obtain rfl:=sI h;exact RI [(.int .i64),(.int .i64)]
 refine ae (ab ?_);obtain⟨O,R,B,C,h⟩:=g4 h;refine GD a0 [(1,1,oc O),(6,6,oc R),(9,9,oc B),(14,14,oc C)] ?_;obtain⟨Y,V,h⟩:=aj h;refine GP 2 (qH j V) (af (ak ?_));refine cd h (fun D=>ay [(0,.p j (.ptr (.prod eO fO)) f),(3,.adr 0 0 2 0),(6,.adr 1 0 4 0),(7,.p j (.slice (.int .i64)) (((f.getD (Ty.zero (.prod eO fO))).2.2).getD k.toNat [])),(8,.i64 D)] (Jm k v ((((f.getD (Ty.zero (.prod eO fO))).2.1).getD k.toNat (0,0,0,0)).1) ((((f.getD (Ty.zero (.prod eO fO))).2.1).getD k.toNat (0,0,0,0)).2.1) ((((f.getD (Ty.zero (.prod eO fO))).2.1).getD k.toNat (0,0,0,0)).2.2.1) ((((f.getD (Ty.zero (.prod eO fO))).2.1).getD k.toNat (0,0,0,0)).2.2.2)) 2) 0 (fun v6=>ay [(0,.p j (.ptr (.prod eO fO)) f),(6,.adr 0 0 4 0),(8,.i64 v6)] [(0,.box [.i64 ((((f.getD (Ty.zero (.prod eO fO))).2.1).getD k.toNat (0,0,0,0)).1),.i64 ((((f.getD (Ty.zero (.prod eO fO))).2.1).getD k.toNat (0,0,0,0)).2.1),.i64 ((((f.getD (Ty.zero (.prod eO fO))).2.1).getD k.toNat (0,0,0,0)).2.2.1),.u8 ((((f.getD (Ty.zero (.prod eO fO))).2.1).getD k.toNat (0,0,0,0)).2.2.2)])] 1) (gg [] [0,129]) (fun D o h=> ?_) (fun v6 h=> ?_)
 ·unfold cC at h;refine af (af (bg h (fun E=>ay [(0,.p j (.ptr (.prod eO fO)) f),(3,.adr 0 0 2 0),(6,.adr 1 0 4 0),(7,.p j (.slice (.int .i64)) (((f.getD (Ty.zero (.prod eO fO))).2.2).getD k.toNat [])),(8,.i64 D),(71,.bo E)] (Jm k v ((((f.getD (Ty.zero (.prod eO fO))).2.1).getD k.toNat (0,0,0,0)).1) ((((f.getD (Ty.zero (.prod eO fO))).2.1).getD k.toNat (0,0,0,0)).2.1) ((((f.getD (Ty.zero (.prod eO fO))).2.1).getD k.toNat (0,0,0,0)).2.2.1) ((((f.getD (Ty.zero (.prod eO fO))).2.1).getD k.toNat (0,0,0,0)).2.2.2)) 2) (fun E h=> ?_) (fun E h=> ?_)))
  ·rcases aF h with⟨c,h⟩ | ⟨c,h⟩
   ·obtain⟨x,z,h⟩:=g2 h;rcases aF h with⟨m,h⟩ | ⟨m,h⟩
    ·obtain⟨I,h⟩:=aD h;exact jC ⟨[(2,true),(13,true),(14,true),(22,true)],[]⟩ [(3,5,an c),(6,6,oc (And.intro c x)),(7,9,an c),(10,10,oc (And.intro c z)),(11,12,an c),(13,13,oc c),(15,16,an m),(17,17,oc (And.intro m I)),(18,21,an m),(22,22,oc m)] (eN h (gg [] [0,1]))
    exact jC ⟨[(2,true),(13,true),(14,false),(22,false)],[]⟩ [(3,5,an c),(6,6,oc (And.intro c x)),(7,9,an c),(10,10,oc (And.intro c z)),(11,12,an c),(13,13,oc c),(15,22,oc m)] (eN h (gg [] [0,1]))
   exact jC ⟨[(2,false),(13,false)],[]⟩ [(3,13,oc c)] (eN h (gg [] [0,1]))
  refine ab (aA h (fun J h=> ?_) (fun J h=> ?_))
  ·refine ae (ab (ak (Ge (au ?_))));exact eB h (gg [] [0,1])
  refine aq (aL ?_);exact eX h (gg [] [1])
 refine av (ab ?_);obtain⟨Z,X,h⟩:=aj h;refine GP 5 (qO j X) (ao ?_);obtain rfl:=sI h;exact RI [(.int .i64),(.int .i64)]
def gr(f j:Int)(_:List Z2)(_:Bool)(_:Option Z1)(_ _ _ _ _:Int)(_:Option Nat)(_:List Int)(_:List Z2)(_:List Int)(c:Option Z4)(_:List Z9):Option (Int×Int) :=
 ((eI c f j).bind fun(k,e) =>
 some (k,e))
theorem rW{J L:Int}{q:List Z2}{u:Bool}{v:Option Z1}{x z:Int}{A B C:Int}{D:Option Nat}{c:List Int}{f:List Z2}{j:List Int}{k:Option Z4}{E:List Z9}{m:Int×Int}(h:gr J L q u v x z A B C D c f j k E=some m):
  ff Tryz.prog 18 [.adr 0 0 14 0,.agg [.i64 J,.i64 L]] (gh q u v x z A B C D c f j k E) (.tup [.i64 m.1,.i64 m.2]) (gh q u v x z A B C D c f j k E):=by
 refine OB Tryz.func18 (fun Bw w0=> ?_);unfold gr at h;refine G (af (GN a0 [(1,1,⟨∃e,Tryz.prog.underlying 53=some (.pointer e),⟨_,rfl⟩⟩)] (mu rfl (ae (ab ?_)))));obtain⟨⟨M,I⟩,N,h⟩:=aj h;have p:=(sW false N);refine GD ⟨[],[(5,(oP p))]⟩ [(5,5,oc p)] (ao ?_);obtain rfl:=sI h;exact RO [some (.int .i64),some (.int .i64)] [] [0,1] [(4,.i64 M),(5,.i64 I)] (gh q u v x z A B C D c f j k E) 2 2
def ga(_ J L:Int)(_:List Int)(_ _ _ _ _:Int)(_:Option Nat)(_:Int)(_:Bool)(c e:Int)(p:List Z2)(q:Bool)(u:Option Z1)(v x z A B:Int)(C:Option Nat)(f:List Int)(j:List Z2)(k:List Int)(m:Option Z4)(D:List Z9)(_ _ _ _:Int)(_:Bool):Option (Int×Int) :=
 ((gr c e p q u v x z A B C f j k m D).bind fun(E,I) =>
 some (I,E))
theorem su(V:Bool){X Y Z:Int}{s4:List Int}{s5 s6:Int}{s7 s8 s9:Int}{m:Option Nat}{q:Int}{u:Bool}{v x:Int}{z:List Z2}{A:Bool}{B:Option Z1}{C D:Int}{E I J:Int}{L:Option Nat}{c:List Int}{e:List Z2}{f:List Int}{j:Option Z4}{M:List Z9}{a1 N:Int}{O a4:Int}{R:Bool}{k:Int×Int}(h:ga X Y Z s4 s5 s6 s7 s8 s9 m q u v x z A B C D E I J L c e f j M a1 N O a4 R=some k):
  ff Tryz.prog 45 [.adr 0 0 14 0,.agg [.i64 X,.i64 Y,.i64 Z,.p V (.slice (.int .u8)) s4,.i64 s5,.i64 s6,.u8 s7,.i64 s8,.i64 s9,.p false .flt m,.i64 q,.bo u,.i64 v,.i64 x],.adr 2 0 6 0] (og z A B C D E I J L c e f j M a1 N O a4 R) (.tup []) (og z A B C D E I J L c e f j M k.1 N O k.2 R):=by
 refine OB Tryz.func45 (fun Bw w0=> ?_);unfold ga at h;refine G ?_;obtain⟨⟨r7,r8⟩,q4,h⟩:=aj h;refine kO 5 [0,1] (rW q4) ?_;obtain rfl:=sI h;exact(RO [] [] [0,1,2] [] (og z A B C D E I J L c e f j M r8 N O r7 R) 3 3).normal
end
end Go.Proofs.YtmcemnfjddoejaaGreatDoor.T
