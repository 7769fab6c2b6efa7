import Derived.Test.YtflahpmlcfhpcaaGreatDoorTvT20d0
import Derived.Test.YtflahpmlcfhpcaaGreatDoorTvT20da2
namespace Go.Proofs.YtflahpmlcfhpcaaGreatDoor.T
open Go Go.Tv Go.Proofs
open Go.IntKind (i32 i64 u32 u64)
noncomputable section
set_option maxRecDepth 100000
set_option maxHeartbeats 4000000
def gY(f:XK):(Int)→Option ((Int)⊕(Int)):=fun e =>
 (((if(decide (e<(f.length:Int)))=true then(if 0≤e∧e<(f.length:Int)then((jr ((f.getD e.toNat (0,0,0)).1)).bind fun j =>
 some ((!j)))else none)
 else some (false))).bind fun v30=>(if v30=true then some (Sum.inl (i64.wrap (e+1)))
 else some (Sum.inr e)))
def p0(q:XK):((List Z8)×(List Z8)×Int)→Option (((List Z8)×(List Z8)×Int)⊕(((List Z8)×List Z8)⊕(((List Z8)×List Z8)×Int×Int))):=fun(v20,j,e) =>
 (if(decide (e<(q.length:Int)))=true then(if 0≤e∧e<(q.length:Int)then((jr ((q.getD e.toNat (0,0,0)).1)).bind fun u =>
 (if u=true then some (Sum.inl (v20,j,(i64.wrap (e+1))))
 else((iter (gY q) e).bind fun p=>(if 0≤e∧e<(q.length:Int)then(if(decide ((i64.wrap ((v20.length:Int)+(j.length:Int)))≥256))=true then some (Sum.inr (Sum.inr ((([]:List Z8),([]:List Z8)),24,(q.getD e.toNat (0,0,0)).2.1)))
 else(if 0≤e∧e≤p∧p≤p∧p≤(q.length:Int)then((ry ((q.take p.toNat).drop e.toNat)).bind fun(f,v) =>
 (if(!v)=true then some (Sum.inr (Sum.inr ((([]:List Z8),([]:List Z8)),30,(q.getD e.toNat (0,0,0)).2.1)))
 else((hI ((q.take p.toNat).drop e.toNat)).bind fun x =>
 (((if(!x)=true then(if(v20.length+([(f.1,f.2)]:List Z8).length)*48≤140737488355328∧v20.length+([(f.1,f.2)]:List Z8).length≤9223372036854775807 then some ((Sum.inl ((v20++([(f.1,f.2)]:List Z8)),j)))else none)
 else((lO j f.1 f.2).bind fun z =>
 (if z=true then some ((Sum.inr ((([]:List Z8),([]:List Z8)),23,(q.getD e.toNat (0,0,0)).2.1)))
 else(if(j.length+([(f.1,f.2)]:List Z8).length)*48≤140737488355328∧j.length+([(f.1,f.2)]:List Z8).length≤9223372036854775807 then some ((Sum.inl (v20,(j++([(f.1,f.2)]:List Z8)))))else none))))).bind fun(A:(((List Z8)×List Z8)⊕(((List Z8)×List Z8)×Int×Int)))=>match A with
 | .inl (B,C)=>some (Sum.inl (B,C,p))
 | .inr ((D,E))=>some (Sum.inr (Sum.inr (D,E)))))))else none))else none))))else none)
 else some (Sum.inr (Sum.inl (v20,j))))
def nF(u:QX):Option (((List Z8)×List Z8)×Int×Int) :=
 (if(decide ((u.length:Int) > 4096))=true then some ((([]:List Z8),([]:List Z8)),24,4096)
 else((mJ (bX u)).bind fun v =>
 ((iter (p0 v) (([]:List Z8),([]:List Z8),0)).bind fun(e:(((List Z8)×List Z8)⊕(((List Z8)×List Z8)×Int×Int)))=>match e with
 | .inl (f,j)=>some ((f,j),0,0)
 | .inr ((p,q))=>some (p,q))))
theorem wX{d1:QX}{v:((List Z8)×List Z8)×Int×Int}(h:nF d1=some v):
  Pure Tryz.prog 55 [.st d1] (aL (bh false [⟨Ig,v.1⟩,⟨Y2,v.2⟩])):=by
 refine PB Tryz.func55 (fun Bw w0=>?_);unfold nF at h;refine G (G (ag (G (aC h (fun B1 h=>?_) (fun B1 h=>?_)))))
 ·refine G (aw (ai ?_));obtain rfl:=sI h;exact RI [Ig,Y2]
 refine ae (ab ?_);obtain⟨B,q2,h⟩:=aj h;refine GP 2 (tZ false q2) (ag (G (ak (kF h (fun(v20,j,q)=>aA [(2,.adr 0 0 2 0),(3,.adr 1 0 2 0),(4,.adr 2 0 2 0),(5,.p false (.slice (.prod (.int .i32) Y2)) B),(6,.i64 q)] (Et 0 (0:Int) v20 j) 5) (dz (fp Tryz.f55.ntmps 0 (fun(C,D)=>aA [(2,.adr 0 0 2 0),(3,.adr 1 0 2 0),(4,.adr 2 0 2 0)] (Et 0 (0:Int) C D) 5)) (gv tb Tryz.f55.results.toList (fun(E,I)=>[⟨Ig,E⟩,⟨Y2,I⟩]))) (gg [.nilC 16 0 88 210 qB,.nilC 16 1 89 210 qB] [0,8,16,88,89]) (fun y o h=>?_) (fun X h e σ' J=>?_)))))
 ·obtain⟨v20,j,q⟩:=y;unfold p0 at h;refine ag (G (aC h (fun Y h=>?_) (fun Y h=>?_)))
  ·refine ae (ab (ak (ag ?_)));obtain⟨Z,h⟩:=aE h;obtain⟨ax,a1,h⟩:=aj h;have u:=(pW a1);refine GN ⟨[],[(5,(oP u))]⟩ [(2,2,oc Z),(5,5,oc u)] (aC h (fun a2 h=>?_) (fun a2 h=>?_))
   ·refine G (au (aP (av ?_)));exact eB h (gg [] [0,1,2,3,4])
   refine ae (ab (G (ag (ak (cI h (fun x=>aA [(2,.adr 0 0 2 0),(3,.adr 1 0 2 0),(4,.adr 2 0 2 0),(5,.p false (.slice (.prod (.int .i32) Y2)) B),(6,.i64 q),(7,.i64 x)] (Et 0 (0:Int) v20 j) 5) 2 (fun z=>aA [(2,.adr 0 0 2 0),(3,.adr 1 0 2 0),(4,.adr 2 0 2 0),(5,.p false (.slice (.prod (.int .i32) Y2)) B),(6,.i64 q),(7,.i64 z)] (Et 0 (0:Int) v20 j) 5) (gg [] [0,1,2,3,4]) (fun x o h=>?_) (fun z h=>?_))))))
   ·unfold gY at h;refine ag (ag (bB h (fun v30=>aA [(2,.adr 0 0 2 0),(3,.adr 1 0 2 0),(4,.adr 2 0 2 0),(5,.p false (.slice (.prod (.int .i32) Y2)) B),(6,.i64 q),(7,.i64 x),(45,.bo v30)] (Et 0 (0:Int) v20 j) 5) (fun v30 h=>?_) (fun v30 h=>?_)))
    ·rcases aM h with⟨f,h⟩ | ⟨f,h⟩
     ·obtain⟨a3,h⟩:=aE h;obtain⟨b1,a4,h⟩:=aj h;have u:=(pW a4);exact bC ⟨[(4,true),(12,true)],[(10,(oP u))]⟩ [(5,6,an f),(7,7,oc (And.intro f a3)),(8,9,an f),(10,10,oc (And.intro f u)),(11,11,an f),(12,12,oc f)] (eN h (gg [] [0,1,2,3,4]))
     exact bC ⟨[(4,false),(12,false)],[]⟩ [(5,12,oc f)] (eN h (gg [] [0,1,2,3,4]))
    refine ab (aC h (fun a5 h=>?_) (fun a5 h=>?_))
    ·refine ae (ab (ak (Ge (ay ?_))));exact eB h (gg [] [0,1,2,3,4])
    refine au (aP ?_);exact eX h (gg [] [0,1,2,3,4])
   refine av (ab (GC 2 h (fun h=>ag (G (aC h (fun a6 h=>?_) (fun a6 h=>?_))))))
   ·refine G (aw ?_);obtain rfl:=sI h;refine ai (az (bL (aK ?_)));exact bK (RI [Ig,Y2])
   refine ae (ab (GC 4 h (fun h=>?_)));obtain⟨⟨b2,b3⟩,a7,h⟩:=aj h;refine GP 1 (BP false a7) (ag (ak (G (aC h (fun a8 h=>?_) (fun a8 h=>?_)))))
   ·refine G (aw ?_);obtain rfl:=sI h;refine az (ai (az (bL (aK ?_))));exact bK (RI [Ig,Y2])
   obtain⟨b4,a9,h⟩:=aj h;refine GP 1 (mU false a9) (C1 h (dz (nV Tryz.f55.ntmps (fun(L,M)=>aA [(2,.adr 0 0 2 0),(3,.adr 1 0 2 0),(4,.adr 2 0 2 0),(5,.p false (.slice (.prod (.int .i32) Y2)) B),(7,.i64 z)] (Et 0 (0:Int) L M) 5)) (gv tb Tryz.f55.results.toList (fun(N,O)=>[⟨Ig,N⟩,⟨Y2,O⟩]))) (fun V h=>?_) (fun V h e σ' J=>?_))
   ·refine aC h (fun aa h=>?_) (fun aa h=>?_)
    ·refine zC 4 h (fun h=>?_);obtain rfl:=sI h;exact bk (cN (gg [] [0,1,2,317,4]))
    obtain⟨b5,ac,h⟩:=aj h;refine GP 3 (wb true false false ac) (aC h (fun ad h=>?_) (fun ad h=>?_))
    ·refine G (aw ?_);obtain rfl:=sI h;exact aK (bK (RI [Ig,Y2]))
    refine zC 4 h (fun h=>?_);obtain rfl:=sI h;exact bk (cN (gg [] [0,1,2,3,357]))
   rcases V with⟨L,M⟩ | ⟨N,O⟩
   ·obtain⟨rfl,A⟩:=J;refine cJ ?_ A;refine ay (ab (Ge (ay ?_)));exact eB h (gg [] [0,1,2,3,4])
   obtain⟨rfl,hr⟩:=J;obtain rfl:=sI h;refine az (ai (az (bL (aK ?_))));exact bK hr
  refine au (aP ?_);obtain rfl:=sI h;refine dN (bk ?_);exact bR (gg [] [0,1,2,3,4])
 rcases X with⟨C,D⟩ | ⟨E,I⟩
 ·obtain⟨rfl,A⟩:=J;refine cJ ?_ A;refine av (ab (G (lF [.frzC 0 0,.frzC 0 1] (by kernel_rfl) (aw ?_))));obtain rfl:=sI h;exact RI [Ig,Y2]
 obtain⟨rfl,hr⟩:=J;refine az (ai ?_);obtain rfl:=sI h;exact hr
def sn(f:XK):Option XK:=(if f.isEmpty=true then some []else(if(([]:XK).length+f.length)*16≤140737488355328∧([]:XK).length+f.length≤9223372036854775807 then some (([]:XK)++f)else none))
theorem yX(q:Bool){f j:XK}(h:sn f=some j):
  Pure Tryz.prog 56 [.p q (.slice (.prod (.int .i32) Y1)) f] (aL (bh false [⟨(.slice (.prod (.int .i32) Y1)),j⟩])):=by
 refine PB Tryz.func56 (fun Bw w0=>?_);unfold sn at h;refine G (ag (Ju iY (d:=3) (e:=4) (A:=(.prod (.int .i32) Y1)) (xs:=f) (el:=115) (β:=q) rfl rfl rfl rfl rfl (by kernel_rfl) (by kernel_rfl) (by kernel_rfl) (fun b hb=>?_)));cases b with
 | true =>
  obtain rfl:=hb rfl;obtain rfl:=sI h;exact zz rfl (G (aw (ai (RI [(.slice (.prod (.int .i32) Y1))]))))
 | false =>
  replace h:(if(([]:XK).length+f.length)*16≤140737488355328∧([]:XK).length+f.length≤9223372036854775807 then some (([]:XK)++f)else none)=some j:=by cases f <;> simpa using h
  refine HO rfl (ae (ab (GC 2 h (fun h=>aw ?_))));obtain rfl:=sI h;exact RI [(.slice (.prod (.int .i32) Y1))]
def kx(u:List Z8)(q:Int):((List Nd)×Int×Int)→Option (((List Nd)×Int×Int)⊕((List Nd)×Int)):=fun(f,e,p) =>
 (if(decide (p<(((u.getD q.toNat ([],([]:QK))).1).length:Int)))=true then(if 0≤p∧p<(((u.getD q.toNat ([],([]:QK))).1).length:Int)then(if e.toNat<f.length then(if 0≤e∧e<(f.length:Int)then(((if(!((aW (α:=Int) (.int .i32) ((f.getD e.toNat Nd.z).2.1) (((u.getD q.toNat ([],([]:QK))).1).getD p.toNat 0)).isSome))=true then(if e.toNat<(ja f e.toNat).length then(if 0≤e∧e<((ja f e.toNat).length:Int)then(((if(!(((ja f e.toNat).getD e.toNat Nd.z).1))=true then(if 0≤e∧e<((ja (ja f e.toNat) e.toNat).length:Int)then(if e.toNat<(ja (ja f e.toNat) e.toNat).length then some (((ja (ja f e.toNat) e.toNat).set e.toNat (true,([]:Qq),((ja (ja f e.toNat) e.toNat).getD e.toNat Nd.z).2.2)))else none)else none)
 else some ((ja (ja f e.toNat) e.toNat)))).bind fun j=>(if e.toNat<j.length then(if 0≤e∧e<(j.length:Int)then(if(j.getD e.toNat Nd.z).1=true then(if((j.set e.toNat (true,(cm (α:=Int) (.int .i32) ((j.getD e.toNat Nd.z).2.1) (((u.getD q.toNat ([],([]:QK))).1).getD p.toNat 0) ((ja f e.toNat).length:Int)),(j.getD e.toNat Nd.z).2.2)).length+1)*32≤140737488355328∧(j.set e.toNat (true,(cm (α:=Int) (.int .i32) ((j.getD e.toNat Nd.z).2.1) (((u.getD q.toNat ([],([]:QK))).1).getD p.toNat 0) ((ja f e.toNat).length:Int)),(j.getD e.toNat Nd.z).2.2)).length+1≤9223372036854775807 then some ((((j.set e.toNat (true,(cm (α:=Int) (.int .i32) ((j.getD e.toNat Nd.z).2.1) (((u.getD q.toNat ([],([]:QK))).1).getD p.toNat 0) ((ja f e.toNat).length:Int)),(j.getD e.toNat Nd.z).2.2))++[Nd.z]),((ja f e.toNat).length:Int)))else none)else none)else none)else none))else none)else none)
 else some (((ja f e.toNat),((aW (α:=Int) (.int .i32) ((f.getD e.toNat Nd.z).2.1) (((u.getD q.toNat ([],([]:QK))).1).getD p.toNat 0)).getD 0))))).bind fun(v,x)=>some (Sum.inl (v,x,(i64.wrap (p+1)))))else none)else none)else none)
 else some (Sum.inr (f,e)))
def ku(u:List Z8)(q e:Int):((List Nd)×Int)→Option (((List Nd)×Int)⊕(List Nd)):=fun(j,f) =>
 (if(decide (f<(((u.getD q.toNat ([],([]:QK))).2).length:Int)))=true then(if 0≤f∧f<(((u.getD q.toNat ([],([]:QK))).2).length:Int)then(if e.toNat<j.length then(((if(decide (f≥(((j.getD e.toNat Nd.z).2.2).length:Int)))=true then(if e.toNat<(ja j e.toNat).length then(if((((ja j e.toNat).getD e.toNat Nd.z).2.2).length+([0]:QK).length)*1≤140737488355328∧(((ja j e.toNat).getD e.toNat Nd.z).2.2).length+([0]:QK).length≤9223372036854775807 then some (((ja j e.toNat).set e.toNat (((ja j e.toNat).getD e.toNat Nd.z).1,((ja j e.toNat).getD e.toNat Nd.z).2.1,((((ja j e.toNat).getD e.toNat Nd.z).2.2)++([0]:QK)))))else none)else none)
 else some ((ja j e.toNat)))).bind fun p=>(if e.toNat<p.length then(if 0≤f∧f<(((p.getD e.toNat Nd.z).2.2).length:Int)then(if f.toNat<((p.getD e.toNat Nd.z).2.2).length then(if 0≤f∧f<(((p.getD e.toNat Nd.z).2.2).length:Int)then(if f.toNat<((p.getD e.toNat Nd.z).2.2).length then some (Sum.inl ((p.set e.toNat ((p.getD e.toNat Nd.z).1,(p.getD e.toNat Nd.z).2.1,(((p.getD e.toNat Nd.z).2.2).set f.toNat (max (((p.getD e.toNat Nd.z).2.2).getD f.toNat 0) (((u.getD q.toNat ([],([]:QK))).2).getD f.toNat 0))))),(i64.wrap (f+1))))else none)else none)else none)else none)else none))else none)else none)
 else some (Sum.inr j))
def rO(q:List Z8):((List Nd)×Int)→Option (((List Nd)×Int)⊕(List Nd)):=fun(j,e) =>
 (if(decide (e<(q.length:Int)))=true then(if 0≤e∧e<(q.length:Int)then((iter (kx q e) (j,0,0)).bind fun(p,f)=>(if 0≤f∧f<(p.length:Int)then((iter (ku q e f) (p,0)).bind fun u=>some (Sum.inl (u,(i64.wrap (e+1)))))else none))else none)
 else some (Sum.inr j))
def pD(f:List Z8):Option (Option HC) :=
 (if 0≤(1:Int)∧(1:Int)≤1∧32*(1:Int)≤281474976710656∧(1:Int)≤9223372036854775807 then((iter (rO f) ((List.replicate (1:Int).toNat Nd.z),0)).bind fun e=>some (some ((e.map (·.2)),()):Option HC))else none)
theorem yT(f:Bool){j:List Z8}{C:Option HC}(h:pD j=some C):
  Pure Tryz.prog 57 [.p f (.slice qB) j] (aL (bh false [⟨(.ptr sR),C⟩])):=by
 refine PB Tryz.func57 (fun Bw w0=>?_);unfold pD at h;refine G ?_;obtain⟨c2,h⟩:=aE h;refine GN ⟨[],[(0,⟨.unk,[],false,[],[],[],none⟩)]⟩ [(0,0,oc c2)] (ag (G (ak (cI h (fun(D,e)=>aA [(3,.adr 0 0 1 0),(17,.p f (.slice qB) j),(18,.i64 (j.length:Int)),(19,.i64 e)] [(0,.box [.sl 1]),(1,.nds 222 5 D none)] 2) 0 (fun E=>aA [(3,.adr 0 0 1 0)] [(0,.box [.sl 1]),(1,.nds 222 5 E none)] 2) (gg [] [24,8]) (fun y o h=>?_) (fun E h=>?_)))))
 ·obtain⟨D,e⟩:=y;unfold rO at h;refine G (ag (aC h (fun b2 h=>?_) (fun b2 h=>?_)))
  ·refine ae (ab (ag (ak (GC 0 h (fun h=>G (ag (G (ak ?_))))))));refine cI h (fun(z,u,v)=>aA [(3,.adr 0 0 1 0),(5,.adr 2 0 2 0),(6,.i64 u),(17,.p f (.slice qB) j),(18,.i64 (j.length:Int)),(19,.i64 e),(24,.p f (.slice (.int .i32)) ((j.getD e.toNat ([],([]:QK))).1)),(25,.i64 (((j.getD e.toNat ([],([]:QK))).1).length:Int)),(26,.i64 v)] (Ik z f ((j.getD e.toNat ([],([]:QK))).1) f ((j.getD e.toNat ([],([]:QK))).2)) 3) 2 (fun(I,q)=>aA [(3,.adr 0 0 1 0),(5,.adr 2 0 2 0),(6,.i64 q),(17,.p f (.slice qB) j),(18,.i64 (j.length:Int)),(19,.i64 e)] (Ik I f ((j.getD e.toNat ([],([]:QK))).1) f ((j.getD e.toNat ([],([]:QK))).2)) 3) (gg [] [0,1,26]) (fun y o h=>?_) (fun b3 h=>?_)
   ·obtain⟨z,u,v⟩:=y;unfold kx at h;refine G (ag (aC h (fun b4 h=>?_) (fun b4 h=>?_)))
    ·refine ae (ab (ag (ak (GC 0 h (fun h=>ag ?_)))));obtain⟨J,h⟩:=aE h;refine xC 1 u.toNat false J (by kernel_rfl) ?_;obtain⟨L,h⟩:=aE h;refine bC a0 [(5,5,oc L),(7,7,⟨u.toNat=u.toNat,rfl⟩)] (ab (ag (ag (lF [.shut 1] (by kernel_rfl) (Ge (ab (bB h (fun(M,N)=>aA [(3,.adr 0 0 1 0),(5,.adr 2 0 2 0),(9,.i64 N),(17,.p f (.slice qB) j),(18,.i64 (j.length:Int)),(19,.i64 e),(24,.p f (.slice (.int .i32)) ((j.getD e.toNat ([],([]:QK))).1)),(25,.i64 (((j.getD e.toNat ([],([]:QK))).1).length:Int)),(26,.i64 v)] (Ik M f ((j.getD e.toNat ([],([]:QK))).1) f ((j.getD e.toNat ([],([]:QK))).2)) 3) (fun O h=>?_) (fun O h=>?_))))))))
     ·refine aC h (fun b5 h=>?_) (fun b5 h=>?_)
      ·refine G (ag (ag ?_));obtain⟨V,h⟩:=aE h;refine xC 1 u.toNat false V (by kernel_rfl) ?_;obtain⟨X,h⟩:=aE h;refine bC a0 [(5,5,oc X),(7,7,⟨u.toNat=u.toNat,rfl⟩)] (ab (bB h (fun A=>aA [(3,.adr 0 0 1 0),(5,.adr 2 0 2 0),(6,.i64 u),(8,.i32 (((j.getD e.toNat ([],([]:QK))).1).getD v.toNat 0)),(9,.i64 ((ja z u.toNat).length:Int)),(17,.p f (.slice qB) j),(18,.i64 (j.length:Int)),(19,.i64 e),(24,.p f (.slice (.int .i32)) ((j.getD e.toNat ([],([]:QK))).1)),(25,.i64 (((j.getD e.toNat ([],([]:QK))).1).length:Int)),(26,.i64 v)] (Ik A f ((j.getD e.toNat ([],([]:QK))).1) f ((j.getD e.toNat ([],([]:QK))).2)) 3) (fun A h=>?_) (fun A h=>?_)))
       ·refine aC h (fun b6 h=>?_) (fun b6 h=>?_)
        ·refine lF [.shut 1] (by kernel_rfl) ?_;obtain⟨Y,Z,h⟩:=g2 h;exact bC a0 [(6,6,oc Y),(8,8,oc Z)] (eN h (gg [.shut 1] [0,1,2]))
        exact ae (eN h (gg [.shut 1] [0,1,2]))
       refine ab (ag ?_);obtain⟨a1,h⟩:=aE h;refine xC 1 u.toNat false a1 (by kernel_rfl) ?_;obtain⟨a2,a3,h⟩:=g2 h;refine bC a0 [(5,5,oc a2),(7,7,⟨u.toNat=u.toNat,rfl⟩),(10,10,oc a3)] (ab (lF [.shut 1] (by kernel_rfl) ?_));obtain⟨a4,h⟩:=aE h;exact bC ⟨[],[(6,⟨.unk,[],false,[],[],[],none⟩)]⟩ [(7,7,oc a4)] (eN h (gg [] [0,148,2]))
      exact ae (eN h (gg [] [0,1,2]))
     obtain⟨M,N⟩:=O;refine ab (Ge (ay (ab (Ge ?_))));exact eB h (gg [] [0,1,2])
    refine au (aP ?_);exact eX h (gg [] [0,1,2])
   obtain⟨I,q⟩:=b3;refine av (ab (GC 5 h (fun h=>G (ak (cI h (fun(a5,x)=>aA [(3,.adr 0 0 1 0),(11,.adr 1 q.toNat 2 0),(17,.p f (.slice qB) j),(18,.i64 (j.length:Int)),(19,.i64 e),(96,.p f (.slice (.int .u8)) ((j.getD e.toNat ([],([]:QK))).2)),(97,.i64 (((j.getD e.toNat ([],([]:QK))).2).length:Int)),(98,.i64 x)] [(0,.box [.sl 1]),(1,.nds 222 5 a5 none)] 2) 4 (fun a6=>aA [(3,.adr 0 0 1 0),(17,.p f (.slice qB) j),(18,.i64 (j.length:Int)),(19,.i64 e)] [(0,.box [.sl 1]),(1,.nds 222 5 a6 none)] 2) (gg [] [0,1]) (fun y o h=>?_) (fun a6 h=>?_))))))
   ·obtain⟨a5,x⟩:=y;unfold ku at h;refine G (ag (aC h (fun b7 h=>?_) (fun b7 h=>?_)))
    ·refine ae (ab (ag (ak (GC 1 h (fun h=>ag (ag ?_))))));obtain⟨a7,h⟩:=aE h;refine xC 1 q.toNat true a7 (by kernel_rfl) (bC a0 [(4,4,⟨q.toNat=q.toNat,rfl⟩)] (ab (bB h (fun B=>aA [(3,.adr 0 0 1 0),(11,.adr 1 q.toNat 2 0),(12,.i64 x),(13,.u8 (((j.getD e.toNat ([],([]:QK))).2).getD x.toNat 0)),(17,.p f (.slice qB) j),(18,.i64 (j.length:Int)),(19,.i64 e),(96,.p f (.slice (.int .u8)) ((j.getD e.toNat ([],([]:QK))).2)),(97,.i64 (((j.getD e.toNat ([],([]:QK))).2).length:Int)),(98,.i64 x)] [(0,.box [.sl 1]),(1,.nds 222 5 B none)] 2) (fun B h=>?_) (fun B h=>?_))))
     ·refine aC h (fun b8 h=>?_) (fun b8 h=>?_)
      ·refine lF [.shut 1] (by kernel_rfl) ?_;obtain⟨a8,h⟩:=aE h;refine xC 1 q.toNat true a8 (by kernel_rfl) ?_;obtain⟨a9,h⟩:=aE h;exact bC a0 [(4,4,⟨q.toNat=q.toNat,rfl⟩),(6,6,oc a9),(9,9,⟨q.toNat=q.toNat∧true=true,⟨rfl,rfl⟩⟩)] (eN h (gg [.shut 1] [0,1]))
      exact ae (eN h (gg [.shut 1] [0,1]))
     refine ab ?_;obtain⟨aa,h⟩:=aE h;refine xC 1 q.toNat true aa (by kernel_rfl) ?_;obtain⟨ac,ad,ax,b1,h⟩:=g4 h;refine nT a0 [(3,3,⟨q.toNat=q.toNat,rfl⟩),(8,8,⟨q.toNat=q.toNat,rfl⟩),(10,10,oc ac),(11,11,oc ad),(14,14,oc ax),(15,15,oc b1)] (ay (ab (lF [.shut 1] (by kernel_rfl) (Ge ?_))));exact eB h (gg [] [0,1])
    refine au (aP ?_);exact eX h (gg [] [0,1])
   refine av (ay (ab (Ge ?_)));exact eB h (gg [] [0,1])
  refine au (aP ?_);exact eX h (gg [] [0,1])
 refine av (ab (G (lF [.frzC 0 0] (by kernel_rfl) (aw ?_))));obtain rfl:=sI h;exact RI [(.ptr sR)]
def mD(p:QX)(e:XK)(j f:Int):Option ((Option Z3)×Int×Int) :=
 ((nt e).bind fun x =>
 (if(!x)=true then some ((none:Option Z3),10,0)
 else(((if(decide (j<1))=true then some (true)
 else(if(decide (f<1))=true then some (true)
 else(if(decide (j > 24))=true then some (true)
 else some ((decide (f > 24))))))).bind fun v1=>(if v1=true then some ((none:Option Z3),40,0)
 else((nF p).bind fun(v,q) =>
 (if(q.1 != 0)=true then some ((none:Option Z3),q.1,q.2)
 else((sn e).bind fun z =>
 ((pD v.1).bind fun u =>
 some ((some (z,u,v.2,j,f):Option Z3),0,0)))))))))
theorem Bt(u:Bool){j:QX}{e:XK}{q f:Int}{z:(Option Z3)×Int×Int}(h:mD j e q f=some z):
  Pure Tryz.prog 27 [.st j,.p u (.slice (.prod (.int .i32) Y1)) e,.i64 q,.i64 f] (aL (bh false [⟨(.ptr mY),z.1⟩,⟨Y2,z.2⟩])):=by
 refine PB Tryz.func27 (fun Bw w0=>?_);unfold mD at h;refine G (ag ?_);obtain⟨V,I,h⟩:=aj h;refine GP 1 (wP u I) (aC h (fun J h=>?_) (fun J h=>?_))
 ·refine G (aw (ai ?_));obtain rfl:=sI h;exact RI [(.ptr mY),Y2]
 refine ae (ab (ag (ag (bB h (fun v1=>aA [(0,.st j),(1,.p u (.slice (.prod (.int .i32) Y1)) e),(2,.i64 q),(3,.i64 f),(9,.adr 0 0 2 0),(29,.bo v1)] [(0,.box [.i64 0,.i64 0])] 1) (fun v1 h=>?_) (fun v1 h=>?_)))))
 ·rcases aM h with⟨x,h⟩ | ⟨x,h⟩
  ·exact bC ⟨[(2,true),(5,true)],[]⟩ [(3,5,oc x)] (eN h (gg [] [8]))
  rcases aM h with⟨A,h⟩ | ⟨A,h⟩
  ·exact bC ⟨[(2,false),(5,false),(6,true),(9,true)],[]⟩ [(3,4,an x),(5,5,oc x),(7,9,oc A)] (eN h (gg [] [8]))
  rcases aM h with⟨v,h⟩ | ⟨v,h⟩
  ·exact bC ⟨[(2,false),(5,false),(6,false),(9,false),(10,true),(13,true)],[]⟩ [(3,4,an x),(5,5,oc x),(7,8,an A),(9,9,oc A),(11,13,oc v)] (eN h (gg [] [8]))
  exact bC ⟨[(2,false),(5,false),(6,false),(9,false),(10,false),(13,false)],[]⟩ [(3,4,an x),(5,5,oc x),(7,8,an A),(9,9,oc A),(11,12,an v),(13,13,oc v)] (eN h (gg [] [8]))
 refine ab (aC h (fun D h=>?_) (fun D h=>?_))
 ·refine G (aw (ai ?_));obtain rfl:=sI h;exact RI [(.ptr mY),Y2]
 refine ae (ab ?_);obtain⟨⟨X,Y⟩,L,h⟩:=aj h;refine GP 1 (wX L) (ag (G (aC h (fun E h=>?_) (fun E h=>?_))))
 ·refine GD a0 [] (aw (ai ?_));obtain rfl:=sI h;exact RI [(.ptr mY),Y2]
 refine ae (ab ?_);obtain⟨Z,M,h⟩:=aj h;obtain⟨N,O,h⟩:=aj h;have B:=(yX u M);have C:=(yT false O);refine GD ⟨[],[(1,(oP B)),(4,(oP C))]⟩ [(1,1,oc B),(4,4,oc C)] (aw ?_);obtain rfl:=sI h;exact RI [(.ptr mY),Y2]
def jS(I J L M:XK)(N O V:QX)(X Y:Int):Option ((Option Z1)×Int×Int) :=
 ((iI N).bind fun(D,q) =>
 (if(q.1 != 0)=true then some ((none:Option Z1),q.1,q.2)
 else((iI O).bind fun(E,u) =>
 (if(u.1 != 0)=true then some ((none:Option Z1),u.1,u.2)
 else((cq D).bind fun v =>
 ((cq E).bind fun x =>
 (if 0≤(0:Int)∧0<((3:Nat):Int)then((fU I v).bind fun(z,f) =>
 (if(f != 0)=true then some ((none:Option Z1),f,0)
 else(if 0≤(1:Int)∧1<((3:Nat):Int)then((fU J x).bind fun(A,j) =>
 (if(j != 0)=true then some ((none:Option Z1),j,0)
 else(if 0≤(2:Int)∧2<((3:Nat):Int)then((fU L 3).bind fun(B,p) =>
 (if(p != 0)=true then some ((none:Option Z1),p,0)
 else((mD V M X Y).bind fun(C,e) =>
 (if(e.1 != 0)=true then some ((none:Option Z1),e.1,e.2)
 else some ((some (D,E,z,A,B,C):Option Z1),0,0)))))else none)))else none)))else none)))))))
theorem tY(f j q u:Bool){D E I J:XK}{L M N:QX}{O V:Int}{e:(Option Z1)×Int×Int}(h:jS D E I J L M N O V=some e):
  Pure Tryz.prog 10 [.agg [.p f (.slice (.prod (.int .i32) Y1)) D,.p j (.slice (.prod (.int .i32) Y1)) E,.p q (.slice (.prod (.int .i32) Y1)) I,.p u (.slice (.prod (.int .i32) Y1)) J,.st L,.st M,.st N,.i64 O,.i64 V]] (aL (bh false [⟨(.ptr zD),e.1⟩,⟨Y2,e.2⟩])):=by
 refine PB Tryz.func10 (fun Bw w0=>?_);unfold jS at h;refine G (G (G (ag ?_)));obtain⟨⟨r3,r4⟩,X,h⟩:=aj h;refine GP 3 (sZ X) (G (aC h (fun Y h=>?_) (fun Y h=>?_)))
 ·refine GD a0 [] (aw (ai ?_));obtain rfl:=sI h;exact RI [(.ptr zD),Y2]
 refine ae (ab (ag ?_));obtain⟨⟨r7,r8⟩,Z,h⟩:=aj h;refine GP 3 (sZ Z) (G (aC h (fun B2 h=>?_) (fun B2 h=>?_)))
 ·refine GD a0 [] (aw (ai ?_));obtain rfl:=sI h;exact RI [(.ptr zD),Y2]
 refine ae (ab (ag ?_));obtain⟨a1,q7,h⟩:=aj h;obtain⟨a2,q8,h⟩:=aj h;have v:=(iQ false q7);have x:=(iQ false q8);refine GD ⟨[],[(9,(oP v)),(20,(oP x))]⟩ [(9,9,oc v),(20,20,oc x)] (ak (Gk 9 (G (ag (zz rfl (ae (ab (ag (ak (GC 0 h (fun h=>?_)))))))))));obtain⟨⟨a3,a4⟩,z,h⟩:=aj h;refine GP 4 (na f z) (ag (G (aC h (fun B3 h=>?_) (fun B3 h=>?_))))
 ·refine G (aw (ai (az (ai (Cx (az (ai ?_)))))));obtain rfl:=sI h;exact RI [(.ptr zD),Y2]
 refine ae (ab (Ge (ay (ab (Ge (F0 (G (ag (zz rfl (ae (ab (ag (ak (GC 0 h (fun h=>?_)))))))))))))));obtain⟨⟨a5,a6⟩,A,h⟩:=aj h;refine GP 4 (na j A) (ag (G (aC h (fun B4 h=>?_) (fun B4 h=>?_))))
 ·refine G (aw (ai (az (ai (Cx (az (ai ?_)))))));obtain rfl:=sI h;exact RI [(.ptr zD),Y2]
 refine ae (ab (Ge (ay (ab (Ge (F0 (G (ag (zz rfl (ae (ab (ag (ak (GC 0 h (fun h=>?_)))))))))))))));obtain⟨⟨a7,a8⟩,B,h⟩:=aj h;refine GP 4 (na q B) (ag (G (aC h (fun B5 h=>?_) (fun B5 h=>?_))))
 ·refine G (aw (ai (az (ai (Cx (az (ai ?_)))))));obtain rfl:=sI h;exact RI [(.ptr zD),Y2]
 refine ae (ab (Ge (ay (ab (Ge (F0 (G (ag (HO rfl (au (aP (MG (av (ab (ag ?_)))))))))))))));obtain⟨⟨a9,aa⟩,C,h⟩:=aj h;refine GP 9 (Bt u C) (G (aC h (fun B6 h=>?_) (fun B6 h=>?_)))
 ·refine GD a0 [] (aw (ai ?_));obtain rfl:=sI h;exact RI [(.ptr zD),Y2]
 refine ae (ab (G (aw ?_)));obtain rfl:=sI h;exact RI [(.ptr zD),Y2]
def ik(e f q j p:Int)(u:QJ):Option (Bool) :=
 (((if(decide (e≥1))=true then(if(decide (e≤1048576))=true then(if(decide (f≥1))=true then(if(decide (f≤64))=true then(if(decide (q≤1))=true then(if(decide (j≥0))=true then(if(decide (j≤1048576))=true then(if(decide (p≥0))=true then some ((decide (p≤1048576)))
 else some (false))
 else some (false))
 else some (false))
 else some (false))
 else some (false))
 else some (false))
 else some (false))
 else some (false))).bind fun v1=>some v1)
theorem wO{B C D E I:Int}{J:QJ}{A:Bool}(h:ik B C D E I J=some A):
  Pure Tryz.prog 46 [.agg [.i64 B,.i64 C,.u8 D,.i64 E,.i64 I,.p false .flt J]] (aL (bh false [⟨.bool,A⟩])):=by
 refine PB Tryz.func46 (fun Bw w0=>?_);unfold ik at h;refine G (ag (bB h (fun v1=>aA [(2,.bo v1)] [] 0) (fun v1 h=>?_) (fun v1 h=>?_)))
 ·rcases aM h with⟨e,h⟩ | ⟨e,h⟩
  ·rcases aM h with⟨f,h⟩ | ⟨f,h⟩
   ·rcases aM h with⟨j,h⟩ | ⟨j,h⟩
    ·rcases aM h with⟨q,h⟩ | ⟨q,h⟩
     ·rcases aM h with⟨u,h⟩ | ⟨u,h⟩
      ·rcases aM h with⟨v,h⟩ | ⟨v,h⟩
       ·rcases aM h with⟨x,h⟩ | ⟨x,h⟩
        ·rcases aM h with⟨z,h⟩ | ⟨z,h⟩
         ·exact bC ⟨[(3,true),(7,true),(8,true),(12,true),(13,true),(17,true),(18,true),(22,true),(23,true),(27,true),(28,true),(32,true),(33,true),(37,true),(38,true),(42,true)],[]⟩ [(4,6,an e),(7,7,oc e),(9,11,an f),(12,12,oc f),(14,16,an j),(17,17,oc j),(19,21,an q),(22,22,oc q),(24,26,an u),(27,27,oc u),(29,31,an v),(32,32,oc v),(34,36,an x),(37,37,oc x),(39,41,an z),(42,42,oc z)] (eN h (gg [] []))
         exact bC ⟨[(3,true),(7,true),(8,true),(12,true),(13,true),(17,true),(18,true),(22,true),(23,true),(27,true),(28,true),(32,true),(33,true),(37,true),(38,false),(42,false)],[]⟩ [(4,6,an e),(7,7,oc e),(9,11,an f),(12,12,oc f),(14,16,an j),(17,17,oc j),(19,21,an q),(22,22,oc q),(24,26,an u),(27,27,oc u),(29,31,an v),(32,32,oc v),(34,36,an x),(37,37,oc x),(39,42,oc z)] (eN h (gg [] []))
        exact bC ⟨[(3,true),(7,true),(8,true),(12,true),(13,true),(17,true),(18,true),(22,true),(23,true),(27,true),(28,true),(32,true),(33,false),(37,false)],[]⟩ [(4,6,an e),(7,7,oc e),(9,11,an f),(12,12,oc f),(14,16,an j),(17,17,oc j),(19,21,an q),(22,22,oc q),(24,26,an u),(27,27,oc u),(29,31,an v),(32,32,oc v),(34,37,oc x)] (eN h (gg [] []))
       exact bC ⟨[(3,true),(7,true),(8,true),(12,true),(13,true),(17,true),(18,true),(22,true),(23,true),(27,true),(28,false),(32,false)],[]⟩ [(4,6,an e),(7,7,oc e),(9,11,an f),(12,12,oc f),(14,16,an j),(17,17,oc j),(19,21,an q),(22,22,oc q),(24,26,an u),(27,27,oc u),(29,32,oc v)] (eN h (gg [] []))
      exact bC ⟨[(3,true),(7,true),(8,true),(12,true),(13,true),(17,true),(18,true),(22,true),(23,false),(27,false)],[]⟩ [(4,6,an e),(7,7,oc e),(9,11,an f),(12,12,oc f),(14,16,an j),(17,17,oc j),(19,21,an q),(22,22,oc q),(24,27,oc u)] (eN h (gg [] []))
     exact bC ⟨[(3,true),(7,true),(8,true),(12,true),(13,true),(17,true),(18,false),(22,false)],[]⟩ [(4,6,an e),(7,7,oc e),(9,11,an f),(12,12,oc f),(14,16,an j),(17,17,oc j),(19,22,oc q)] (eN h (gg [] []))
    exact bC ⟨[(3,true),(7,true),(8,true),(12,true),(13,false),(17,false)],[]⟩ [(4,6,an e),(7,7,oc e),(9,11,an f),(12,12,oc f),(14,17,oc j)] (eN h (gg [] []))
   exact bC ⟨[(3,true),(7,true),(8,false),(12,false)],[]⟩ [(4,6,an e),(7,7,oc e),(9,12,oc f)] (eN h (gg [] []))
  exact bC ⟨[(3,false),(7,false)],[]⟩ [(4,7,oc e)] (eN h (gg [] []))
 refine ab (aw ?_);obtain rfl:=sI h;exact RI [.bool]
def bf(f:Option y5)(e:Int):Option (Int) :=
 (((if f.isNone=true then some (true)
 else(if(decide (e<0))=true then some (true)
 else some ((decide (e > 1114111)))))).bind fun v1=>(if v1=true then some 0
 else(if f.isSome=true then(if 0≤(8:Int)then(if f.isSome=true then(if 0≤(Int.fdiv e (2 ^ (min (8:Int).toNat i32.bits)))∧(Int.fdiv e (2 ^ (min (8:Int).toNat i32.bits)))<((4352:Nat):Int)then(if 0≤(fy ((f.getD (Ty.zero vp)).1) (Int.fdiv e (2 ^ (min (8:Int).toNat i32.bits))).toNat)∧(fy ((f.getD (Ty.zero vp)).1) (Int.fdiv e (2 ^ (min (8:Int).toNat i32.bits))).toNat)<(((f.getD (Ty.zero vp)).2).length:Int)then(if 0≤(bitsOf .and .i32 e 255)∧(bitsOf .and .i32 e 255)<((256:Nat):Int)then some (i64.wrap (fy (((f.getD (Ty.zero vp)).2).getD ((fy ((f.getD (Ty.zero vp)).1) (Int.fdiv e (2 ^ (min (8:Int).toNat i32.bits))).toNat).toNat) (dq 256)) (bitsOf .and .i32 e 255).toNat))else none)else none)else none)else none)else none)else none)))
theorem mF(j:Bool){v:Option y5}{x q:Int}(h:bf v x=some q):
  Pure Tryz.prog 70 [.p j (.ptr vp) v,.i32 x] (aL (bh false [⟨(.int .i64),q⟩])):=by
 refine PB Tryz.func70 (fun Bw w0=>?_);unfold bf at h;refine G (ag (ag (bB h (fun v1=>aA [(0,.p j (.ptr vp) v),(1,.i32 x),(14,.bo v1)] [] 0) (fun v1 h=>?_) (fun v1 h=>?_))))
 ·rcases aM h with⟨f,h⟩ | ⟨f,h⟩
  ·exact bC ⟨[(2,true),(5,true)],[]⟩ [(1,1,⟨∃e,Tryz.prog.underlying 99=some (.pointer e),⟨_,rfl⟩⟩),(3,5,oc f)] (eN h (gg [] []))
  rcases aM h with⟨u,h⟩ | ⟨u,h⟩
  ·exact bC ⟨[(2,false),(5,false),(6,true),(9,true)],[]⟩ [(1,1,⟨∃e,Tryz.prog.underlying 99=some (.pointer e),⟨_,rfl⟩⟩),(3,4,an f),(5,5,oc f),(7,9,oc u)] (eN h (gg [] []))
  exact bC ⟨[(2,false),(5,false),(6,false),(9,false)],[]⟩ [(1,1,⟨∃e,Tryz.prog.underlying 99=some (.pointer e),⟨_,rfl⟩⟩),(3,4,an f),(5,5,oc f),(7,8,an u),(9,9,oc u)] (eN h (gg [] []))
 refine ab (aC h (fun C h=>?_) (fun C h=>?_))
 ·refine G (aw (ai ?_));obtain rfl:=sI h;exact RI [(.int .i64)]
 refine ae (ab ?_);obtain⟨D,E,I,z,h⟩:=g4 h;obtain⟨A,B,h⟩:=g2 h;refine GD a0 [(1,1,oc D),(6,6,oc E),(7,7,oc I),(9,9,oc z),(13,13,oc A),(14,14,oc B)] (aw ?_);obtain rfl:=sI h;exact RI [(.int .i64)]
def dh(p:Option y5)(j:XK):uE→Option (uE⊕QK):=fun(e,f) =>
 (if(decide (f<(j.length:Int)))=true then(if 0≤f∧f<(j.length:Int)then((bf p ((j.getD f.toNat (0,0,0)).1)).bind fun q =>
 (if 0≤f∧f<(e.length:Int)then(if f.toNat<e.length then some (Sum.inl ((e.set f.toNat q),(i64.wrap (f+1))))else none)else none))else none)
 else some (Sum.inr e))
def cD(j:Option y5)(e:XK):Option QK :=
 (if 0≤(e.length:Int)∧(e.length:Int)≤(e.length:Int)∧8*(e.length:Int)≤281474976710656∧(e.length:Int)≤9223372036854775807 then((iter (dh j e) ((List.replicate (e.length:Int).toNat (0:Int)),0)).bind fun f=>some f)else none)
theorem kV(j q:Bool){z:Option y5}{x:XK}{u:QK}(h:cD z x=some u):
  Pure Tryz.prog 39 [.p j (.ptr vp) z,.p q (.slice (.prod (.int .i32) Y2)) x] (aL (bh false [⟨(.slice (.int .i64)),u⟩])):=by
 refine PB Tryz.func39 (fun Bw w0=>?_);unfold cD at h;refine G (GC 2 h (fun h=>ag (G (ak (cI h (fun(e,C)=>aA [(0,.p j (.ptr vp) z),(5,.sl 0),(11,.p q (.slice (.prod (.int .i32) Y2)) x),(12,.i64 (x.length:Int)),(13,.i64 C)] [(0,.arr 3 (.int .i64) e)] 1) 0 (fun f=>aA [(5,.sl 0)] [(0,.arr 3 (.int .i64) f)] 1) (gg [] [24]) (fun y o h=>?_) (fun f h=>?_))))))
 ·obtain⟨e,C⟩:=y;unfold dh at h;refine G (ag (aC h (fun D h=>?_) (fun D h=>?_)))
  ·refine ae (ab (ag (ak (GC 1 h (fun h=>?_)))));obtain⟨I,E,h⟩:=aj h;obtain⟨A,B,h⟩:=g2 h;have v:=(mF j E);refine bC ⟨[],[(5,(oP v))]⟩ [(5,5,oc v),(6,6,oc A),(7,7,oc B)] (ay (ab (Ge ?_)));exact eB h (gg [] [0])
  refine au (aP ?_);exact eX h (gg [] [0])
 refine av (ab (G (aw ?_)));obtain rfl:=sI h;exact RI [(.slice (.int .i64))]
def jK(p:QZ)(e:QK):(QK×Int×Int)→Option ((QK×Int×Int)⊕QK):=fun(f,j,v4) =>
 (if(decide (v4<(e.length:Int)))=true then(if 0≤v4∧v4<(e.length:Int)then(((if(decide ((e.getD v4.toNat 0)<0))=true then some (true)
 else(if 0≤j∧j<(p.length:Int)then some ((decide ((e.getD v4.toNat 0)≥((p.getD j.toNat []).length:Int))))else none))).bind fun q=>(if q=true then some (Sum.inr f)
 else(if 0≤j∧j<(p.length:Int)then(if 0≤(e.getD v4.toNat 0)∧(e.getD v4.toNat 0)<((p.getD j.toNat []).length:Int)then(if(f.length+([((p.getD j.toNat []).getD ((e.getD v4.toNat 0).toNat) 0)]:QK).length)*8≤140737488355328∧f.length+([((p.getD j.toNat []).getD ((e.getD v4.toNat 0).toNat) 0)]:QK).length≤9223372036854775807 then some (Sum.inl ((f++([((p.getD j.toNat []).getD ((e.getD v4.toNat 0).toNat) 0)]:QK)),((p.getD j.toNat []).getD ((e.getD v4.toNat 0).toNat) 0),(i64.wrap (v4+1))))else none)else none)else none)))else none)
 else some (Sum.inr f))
def mv(j:QZ)(p e:QK):Option QK :=
 (if((j.length:Int) == 0)=true then some ([]:QK)
 else((iter (jK j e) (([0]:QK),0,0)).bind fun f=>some f))
theorem tP(u v x:Bool){A:QZ}{B e z:QK}(h:mv A B e=some z):
  Pure Tryz.prog 67 [.agg [.p u (.slice (.slice (.int .i64))) A,.p v (.slice (.int .u32)) B],.p x (.slice (.int .i64)) e] (aL (bh false [⟨(.slice (.int .i64)),z⟩])):=by
 refine PB Tryz.func67 (fun Bw w0=>?_);unfold mv at h;refine G (ag (G (aC h (fun N h=>?_) (fun N h=>?_))))
 ·refine G (aw (ai ?_));obtain rfl:=sI h;exact RI [(.slice (.int .i64))]
 refine ae (ab (G (G (ag (G (ak (cI h (fun(j,C,v4)=>aA [(2,.adr 0 0 2 0),(5,.sl 1),(6,.i64 C),(14,.p x (.slice (.int .i64)) e),(15,.i64 (e.length:Int)),(16,.i64 v4)] (Ln u A v B j) 2) 0 (fun q=>aA [(5,.sl 0)] [(0,.arr 3 (.int .i64) q)] 1) (gg [] [0,48]) (fun y o h=>?_) (fun q h=>?_))))))))
 ·obtain⟨j,C,v4⟩:=y;unfold jK at h;refine G (ag (aC h (fun D h=>?_) (fun D h=>?_)))
  ·refine ae (ab (ag (ak (GC 0 h (fun h=>ag (ag (bB h (fun E=>aA [(2,.adr 0 0 2 0),(5,.sl 1),(6,.i64 C),(8,.i64 (e.getD v4.toNat 0)),(14,.p x (.slice (.int .i64)) e),(15,.i64 (e.length:Int)),(16,.i64 v4),(31,.bo E)] (Ln u A v B j) 2) (fun E h=>?_) (fun E h=>?_))))))))
   ·rcases aM h with⟨f,h⟩ | ⟨f,h⟩
    ·exact bC ⟨[(2,true),(11,true)],[]⟩ [(3,11,oc f)] (eN h (gg [] [0,1]))
    obtain⟨I,h⟩:=aE h;exact bC ⟨[(2,false),(11,false)],[]⟩ [(3,6,an f),(7,7,oc (And.intro f I)),(8,10,an f),(11,11,oc f)] (eN h (gg [] [0,1]))
   refine ab (aC h (fun J h=>?_) (fun J h=>?_))
   ·refine au (aP (jv rfl (aP ?_)));exact eX h (gg [] [1])
   refine ae (ab ?_);obtain⟨L,M,h⟩:=g2 h;refine GN a0 [(3,3,oc L),(6,6,oc M)] (zC 3 h (fun h=>ay (ab (Ge ?_))));exact eB h (gg [] [0,98])
  refine au (aP ?_);exact eX h (gg [] [1])
 refine av (ab (G (aw ?_)));obtain rfl:=sI h;exact RI [(.slice (.int .i64))]
def bO  : (QK×Int×Int)→Option ((QK×Int×Int)⊕QK):=fun(e,f,j) =>
 (if(decide (f<j))=true then(if 0≤j∧j<(e.length:Int)then(if j.toNat<e.length then(if 0≤f∧f<(e.length:Int)then(if f.toNat<e.length then(if 0≤f∧f<(e.length:Int)then(if f.toNat<e.length then(if 0≤j∧j<((e.set f.toNat (e.getD j.toNat 0)).length:Int)then(if j.toNat<(e.set f.toNat (e.getD j.toNat 0)).length then some (Sum.inl (((e.set f.toNat (e.getD j.toNat 0)).set j.toNat (e.getD f.toNat 0)),(i64.wrap (f+1)),(i64.wrap (j - 1))))else none)else none)else none)else none)else none)else none)else none)else none)
 else some (Sum.inr e))
def cj(e:QK):Option QK :=
 ((iter (bO) (e,0,(i64.wrap ((e.length:Int) - 1)))).bind fun f=>some f)
theorem jX{B e:QK}(h:cj B=some e):
  jo Tryz.prog 68 [.sl 0] [(0,.arr 3 (.int .i64) B)] (.tup []) [(0,.arr 3 (.int .i64) e)]:=by
 refine OB Tryz.func68 (fun Bw w0=>?_);unfold cj at h;refine G (ak (cI h (fun(C,D,E)=>aA [(0,.sl 0),(2,.i64 D),(3,.i64 E)] [(0,.arr 3 (.int .i64) C)] 1 1) 0 (fun f=>aA [] [(0,.arr 3 (.int .i64) f)] 1 1) (gg [] [0]) (fun y o h=>?_) (fun f h=>?_)))
 ·obtain⟨C,D,E⟩:=y;unfold bO at h;refine ag (G (aC h (fun I h=>?_) (fun I h=>?_)))
  ·refine ae (ab (ag (ak ?_)));obtain⟨j,p,q,u,h⟩:=g4 h;obtain⟨v,x,z,A,h⟩:=g4 h;refine nT a0 [(6,6,oc j),(7,7,oc p),(10,10,oc q),(11,11,oc u),(12,12,oc v),(13,13,oc x),(14,14,oc z),(15,15,oc A)] (ay (ab (Ge ?_)));exact eB h (gg [] [0])
  refine au (aP ?_);exact eX h (gg [] [0])
 refine av ?_;obtain rfl:=sI h;exact(RO [] [] [0] [] [(0,.arr 3 (.int .i64) f)] 1 1).normal
def gn(e:Int):Option (Int):=some (pJ e)
theorem lq(x:Int)(w:World)(hl:tC Tryz.prog w):Calls Tryz.prog 69 #[.int .u32 x] w fun e f=>e = .returned (.int .i64 (pJ x))∧f=w:=by
 have hc:w.cell? ⟨0,(bits BinOp.and u32 x (-x % 4294967296)*125613361 % 4294967296 / 134217728).toNat,none⟩=some (.int .u8 (I4.getD (bits BinOp.and u32 x (-x % 4294967296)*125613361 % 4294967296 / 134217728).toNat 0)):=hl 0 (by kernel_rfl) _ (HA _);go_enter Tryz.func69,Tryz.ntmps69;go_wp2
 ·rename_i h;go_ret
  exact⟨by rw[EA h];rfl,rfl⟩
 rename_i h;go_ret
 exact⟨by rw[←FW h,List.getD_eq_getElem?_getD];rfl,rfl⟩
theorem mN{f e:Int}(h:gn f=some e):
  Pure Tryz.prog 69 [.u32 f] (aL (bh false [⟨(.int .i64),e⟩])):=by
 obtain rfl:=sI h;exact Pure.KM Tryz.func69 (by kernel_rfl) rfl (fun w=>lq _ w)
def dc(j:Option Z5)(p:QK):(QK×QK×Bool×Int)→Option ((QK×QK×Bool×Int)⊕Z8):=fun(v10,v11,q,e) =>
 (if(decide (e<(p.length:Int)))=true then(if 0≤e∧e<(p.length:Int)then(((if(decide ((p.getD e.toNat 0)<0))=true then some (true)
 else(if j.isSome=true then some ((decide ((p.getD e.toNat 0)≥(((j.getD (Ty.zero mR)).1.1).length:Int))))else none))).bind fun u=>(((if u=true then some (0)
 else some ((p.getD e.toNat 0)))).bind fun f=>(((if q=true then(if j.isSome=true then(if 0≤f then some (((bitsOf .and .u32 (Int.fdiv ((j.getD (Ty.zero mR)).1.2.1) (2 ^ (min f.toNat u32.bits))) (1:Int)) == 1))else none)else none)
 else some (false))).bind fun v=>(if v=true then some (Sum.inl (v10,v11,q,(i64.wrap (e+1))))
 else(if j.isSome=true then(if 0≤f then(if(v10.length+([e]:QK).length)*8≤140737488355328∧v10.length+([e]:QK).length≤9223372036854775807 then(if j.isSome=true then(if 0≤f∧f<(((j.getD (Ty.zero mR)).1.2.2.2.1).length:Int)then(if(v11.length+([(((j.getD (Ty.zero mR)).1.2.2.2.1).getD f.toNat 0)]:QK).length)*8≤140737488355328∧v11.length+([(((j.getD (Ty.zero mR)).1.2.2.2.1).getD f.toNat 0)]:QK).length≤9223372036854775807 then some (Sum.inl ((v10++([e]:QK)),(v11++([(((j.getD (Ty.zero mR)).1.2.2.2.1).getD f.toNat 0)]:QK)),((bitsOf .and .u32 (Int.fdiv ((j.getD (Ty.zero mR)).1.2.2.1) (2 ^ (min f.toNat u32.bits))) (1:Int)) == 1),(i64.wrap (e+1))))else none)else none)else none)else none)else none)else none)))))else none)
 else some (Sum.inr (v10,v11)))
def da(p:Option Z5)(f u x:QK):uE→Option (uE⊕QK):=fun(j,e) =>
 (if(decide (e<(f.length:Int)))=true then(if p.isSome=true then(if 0≤e∧e<(u.length:Int)then(if 0≤(u.getD e.toNat 0)∧(u.getD e.toNat 0)<(((p.getD (Ty.zero mR)).2.1.2).length:Int)then(if p.isSome=true then(if 0≤(i64.wrap ((f.length:Int) - e))∧(i64.wrap ((f.length:Int) - e))<(x.length:Int)then(if 0≤(x.getD ((i64.wrap ((f.length:Int) - e)).toNat) 0)∧(x.getD ((i64.wrap ((f.length:Int) - e)).toNat) 0)<(((p.getD (Ty.zero mR)).2.2.2).length:Int)then(if 0≤e∧e<(f.length:Int)then(if e.toNat<f.length then(if 0≤(f.getD e.toNat 0)∧(f.getD e.toNat 0)<(j.length:Int)then(if(f.getD e.toNat 0).toNat<j.length then(((if((bitsOf .and .u32 (((p.getD (Ty.zero mR)).2.1.2).getD ((u.getD e.toNat 0).toNat) 0) (((p.getD (Ty.zero mR)).2.2.2).getD ((x.getD ((i64.wrap ((f.length:Int) - e)).toNat) 0).toNat) 0)) != 0)=true then(if 0≤e∧e<(f.length:Int)then(if e.toNat<f.length then(if p.isSome=true then((gn (bitsOf .and .u32 (((p.getD (Ty.zero mR)).2.1.2).getD ((u.getD e.toNat 0).toNat) 0) (((p.getD (Ty.zero mR)).2.2.2).getD ((x.getD ((i64.wrap ((f.length:Int) - e)).toNat) 0).toNat) 0))).bind fun q =>
 (if 0≤q∧q<(((p.getD (Ty.zero mR)).1.2.2.2.2).length:Int)then(if 0≤(f.getD e.toNat 0)∧(f.getD e.toNat 0)<((j.set ((f.getD e.toNat 0).toNat) 1).length:Int)then(if(f.getD e.toNat 0).toNat<(j.set ((f.getD e.toNat 0).toNat) 1).length then some (((j.set ((f.getD e.toNat 0).toNat) 1).set ((f.getD e.toNat 0).toNat) ((((p.getD (Ty.zero mR)).1.2.2.2.2).getD q.toNat (0,(Tree.node 0 0 []),(Tree.node 0 0 []))).1)))else none)else none)else none))else none)else none)else none)
 else some ((j.set ((f.getD e.toNat 0).toNat) 1)))).bind fun z=>some (Sum.inl (z,(i64.wrap (e+1)))))else none)else none)else none)else none)else none)else none)else none)else none)else none)else none)
 else some (Sum.inr j))
def eE(f:Option Z5)(e:QK):Option QK :=
 (if 0≤(i64.wrap ((e.length:Int)+1))∧(i64.wrap ((e.length:Int)+1))≤(i64.wrap ((e.length:Int)+1))∧1*(i64.wrap ((e.length:Int)+1))≤281474976710656∧(i64.wrap ((e.length:Int)+1))≤9223372036854775807 then(if 0≤(e.length:Int)∧(e.length:Int)<((List.replicate (i64.wrap ((e.length:Int)+1)).toNat (0:Int)).length:Int)then(if(e.length:Int).toNat<(List.replicate (i64.wrap ((e.length:Int)+1)).toNat (0:Int)).length then(if f.isNone=true then some ((List.replicate (i64.wrap ((e.length:Int)+1)).toNat (0:Int)).set ((e.length:Int).toNat) 2)
 else((iter (dc f e) (([]:QK),([]:QK),false,0)).bind fun(p,j)=>(if f.isSome=true then((mv ((f.getD (Ty.zero mR)).2.1.1) ((f.getD (Ty.zero mR)).2.1.2) j).bind fun u =>
 ((cj j).bind fun v =>
 (if f.isSome=true then((mv ((f.getD (Ty.zero mR)).2.2.1) ((f.getD (Ty.zero mR)).2.2.2) v).bind fun x =>
 ((iter (da f p u x) (((List.replicate (i64.wrap ((e.length:Int)+1)).toNat (0:Int)).set ((e.length:Int).toNat) 2),1)).bind fun q=>some q))else none)))else none)))else none)else none)else none)
theorem kP(f z:Bool){B:Option Z5}{j M:QK}(h:eE B j=some M):
  Pure Tryz.prog 38 [.p f (.ptr mR) B,.p z (.slice (.int .i64)) j] (aL (bh false [⟨(.slice (.int .u8)),M⟩])):=by
 refine PB Tryz.func38 (fun Bw w0=>?_);unfold eE at h;refine G (GC 3 h (fun h=>?_));obtain⟨c5,c6,h⟩:=g2 h;refine GN a0 [(3,3,oc c5),(4,4,oc c6)] (ag (GN a0 [(1,1,⟨∃e,Tryz.prog.underlying 98=some (.pointer e),⟨_,rfl⟩⟩)] (aC h (fun B1 h=>?_) (fun B1 h=>?_))))
 ·refine G (aw (ai ?_));obtain rfl:=sI h;exact RI [(.slice (.int .u8))]
 refine ae (ab (G (G (ag (G (ak (cI h (fun(v10,v11,A,q)=>aA [(0,.p f (.ptr mR) B),(5,.sl 0),(6,.sl 1),(7,.sl 2),(8,.bo A),(26,.p z (.slice (.int .i64)) j),(27,.i64 (j.length:Int)),(28,.i64 q)] (Ft ((List.replicate (i64.wrap ((j.length:Int)+1)).toNat (0:Int)).set ((j.length:Int).toNat) 2) v10 v11) 3) 0 (fun(C,N)=>aA [(0,.p f (.ptr mR) B),(5,.sl 0),(6,.sl 1),(7,.sl 2)] (Ft ((List.replicate (i64.wrap ((j.length:Int)+1)).toNat (0:Int)).set ((j.length:Int).toNat) 2) C N) 3) (gg [.nilS 6 152 3 (.int .i64),.nilS 7 153 3 (.int .i64)] [32,152,153]) (fun y o h=>?_) (fun r1 h=>?_))))))))
 ·obtain⟨v10,v11,A,q⟩:=y;unfold dc at h;refine G (ag (aC h (fun b1 h=>?_) (fun b1 h=>?_)))
  ·refine ae (ab (ag (ak (GC 1 h (fun h=>ag (ag (bB h (fun E=>aA [(0,.p f (.ptr mR) B),(5,.sl 0),(6,.sl 1),(7,.sl 2),(8,.bo A),(9,.i64 q),(10,.i64 (j.getD q.toNat 0)),(26,.p z (.slice (.int .i64)) j),(27,.i64 (j.length:Int)),(28,.i64 q),(44,.bo E)] (Ft ((List.replicate (i64.wrap ((j.length:Int)+1)).toNat (0:Int)).set ((j.length:Int).toNat) 2) v10 v11) 3) (fun E h=>?_) (fun E h=>?_))))))))
   ·rcases aM h with⟨x,h⟩ | ⟨x,h⟩
    ·exact bC ⟨[(2,true),(11,true)],[]⟩ [(3,11,oc x)] (eN h (gg [] [0,1,2]))
    obtain⟨b2,h⟩:=aE h;exact bC ⟨[(2,false),(11,false)],[]⟩ [(3,4,an x),(5,5,oc (And.intro x b2)),(6,10,an x),(11,11,oc x)] (eN h (gg [] [0,1,2]))
   refine ab (bB h (fun D=>aA [(0,.p f (.ptr mR) B),(5,.sl 0),(6,.sl 1),(7,.sl 2),(8,.bo A),(9,.i64 q),(10,.i64 D),(26,.p z (.slice (.int .i64)) j),(27,.i64 (j.length:Int)),(28,.i64 q)] (Ft ((List.replicate (i64.wrap ((j.length:Int)+1)).toNat (0:Int)).set ((j.length:Int).toNat) 2) v10 v11) 3) (fun D h=>?_) (fun D h=>?_))
   ·refine aC h (fun b3 h=>?_) (fun b3 h=>?_)
    ·exact Ge (eN h (gg [] [0,1,2]))
    exact ae (eN h (gg [] [0,1,2]))
   refine ab (ag (ag (bB h (fun I=>aA [(0,.p f (.ptr mR) B),(5,.sl 0),(6,.sl 1),(7,.sl 2),(8,.bo A),(9,.i64 q),(10,.i64 D),(26,.p z (.slice (.int .i64)) j),(27,.i64 (j.length:Int)),(28,.i64 q),(56,.bo I)] (Ft ((List.replicate (i64.wrap ((j.length:Int)+1)).toNat (0:Int)).set ((j.length:Int).toNat) 2) v10 v11) 3) (fun I h=>?_) (fun I h=>?_))))
   ·rcases aM h with⟨u,h⟩ | ⟨u,h⟩
    ·obtain⟨b4,b5,h⟩:=g2 h;exact bC ⟨[(1,true),(11,true)],[]⟩ [(2,2,an u),(3,3,oc (And.intro u b4)),(4,7,an u),(8,8,oc (And.intro u b5)),(9,10,an u),(11,11,oc u)] (eN h (gg [] [0,1,2]))
    exact bC ⟨[(1,false),(11,false)],[]⟩ [(2,11,oc u)] (eN h (gg [] [0,1,2]))
   refine ab (aC h (fun b6 h=>?_) (fun b6 h=>?_))
   ·refine au (aP (av (ab (Ge ?_))));exact eB h (gg [] [0,1,2])
   refine ae (ab ?_);obtain⟨b7,b8,h⟩:=g2 h;refine GN a0 [(1,1,oc b7),(6,6,oc b8)] ?_;obtain⟨b9,be,bi,bs,h⟩:=g4 h;refine nT a0 [(3,3,oc b9),(6,6,oc be),(11,11,oc bi),(14,14,oc bs)] (ay (ab (Ge ?_)));exact eB h (gg [] [0,107,195])
  refine au (aP ?_);exact eX h (gg [] [0,1,2])
 obtain⟨C,N⟩:=r1;refine av (ab ?_);obtain⟨bv,h⟩:=aE h;obtain⟨r3,q2,h⟩:=aj h;have v:=(tP f f true q2);refine GN ⟨[],[(5,(oP v))]⟩ [(1,1,oc bv),(5,5,oc v)] ?_;obtain⟨r5,q4,h⟩:=aj h;refine GO 1 [2] (jX q4) ?_;obtain⟨bx,h⟩:=aE h;obtain⟨r7,q6,h⟩:=aj h;have v:=(tP f f true q6);refine GN ⟨[],[(5,(oP v))]⟩ [(1,1,oc bx),(5,5,oc v)] (ag (G (ak (cI h (fun(O,J)=>aA [(0,.p f (.ptr mR) B),(5,.sl 0),(6,.sl 1),(11,.p false (.slice (.int .i64)) r3),(12,.p false (.slice (.int .i64)) r7),(13,.i64 J)] [(0,.arr 91 (.int .u8) O),(1,.arr 3 (.int .i64) C)] 2) 2 (fun V=>aA [(5,.sl 0)] [(0,.arr 91 (.int .u8) V)] 1) (gg [] [0,1]) (fun y o h=>?_) (fun V h=>?_)))))
 ·obtain⟨O,J⟩:=y;unfold da at h;refine ag (G (aC h (fun c1 h=>?_) (fun c1 h=>?_)))
  ·refine ae (ab (ag (ak ?_)));obtain⟨X,Y,Z,a1,h⟩:=g4 h;obtain⟨a2,a3,h⟩:=g2 h;refine GD a0 [(1,1,oc X),(7,7,oc Y),(9,9,oc Z),(12,12,oc a1),(21,21,oc a2),(23,23,oc a3)] ?_;obtain⟨a4,a5,a6,a7,h⟩:=g4 h;refine GN a0 [(3,3,oc a4),(4,4,oc a5),(5,5,oc a6),(6,6,oc a7)] (G (bB h (fun L=>aA [(0,.p f (.ptr mR) B),(5,.sl 0),(6,.sl 1),(11,.p false (.slice (.int .i64)) r3),(12,.p false (.slice (.int .i64)) r7),(13,.i64 J)] [(0,.arr 91 (.int .u8) L),(1,.arr 3 (.int .i64) C)] 2) (fun L h=>?_) (fun L h=>?_)))
   ·refine aC h (fun c2 h=>?_) (fun c2 h=>?_)
    ·obtain⟨a8,a9,aa,h⟩:=g3 h;obtain⟨c4,c3,h⟩:=aj h;obtain⟨ac,ad,ax,h⟩:=g3 h;have v:=(mN c3);exact nT ⟨[],[(11,(oP v))]⟩ [(3,3,oc a8),(4,4,oc a9),(6,6,oc aa),(11,11,oc v),(12,12,oc ac),(15,15,oc ad),(16,16,oc ax)] (eN h (gg [] [0,1]))
    exact ae (eN h (gg [] [0,1]))
   refine ay (ab (Ge ?_));exact eB h (gg [] [0,1])
  refine au (aP ?_);exact eX h (gg [] [0])
 refine av (ab (G (aw ?_)));obtain rfl:=sI h;exact RI [(.slice (.int .u8))]
def dZ(e:Int)(f:Option Z3)(j:Int):Option (Bool) :=
 (if f.isSome=true then(if 0≤e∧e<(((f.getD (Ty.zero mY)).1).length:Int)then some (decide (((((f.getD (Ty.zero mY)).1).getD e.toNat (0,0,0)).2.1)≥j))else none)else none)
theorem mg(f:Bool){j:Int}{q:Option Z3}{u:Int}{e:Bool}(h:dZ j q u=some e):
  Pure Tryz.prog 107 [.i64 j,.fad true [.p f (.ptr mY) q] 0,.fad true [.i32 u] 0] (aL (bh false [⟨.bool,e⟩])):=by
 refine PB Tryz.func107 (fun Bw w0=>?_);unfold dZ at h;refine G ?_;obtain⟨v,x,h⟩:=g2 h;refine GD a0 [(1,1,oc v),(5,5,oc x)] (aw ?_);obtain rfl:=sI h;exact RI [.bool]
def oh(j:Option Z3)(p:Int):(Int×Int)→Option ((Int×Int)⊕(Int)):=fun(e,f) =>
 (if(decide (e<f))=true then(if 0≤(1:Int)then((dZ (i64.wrap (Int.fdiv (u64.wrap (i64.wrap (e+f))) (2 ^ (min (1:Int).toNat u64.bits)))) j p).bind fun q =>
 (if(!q)=true then some (Sum.inl ((i64.wrap ((i64.wrap (Int.fdiv (u64.wrap (i64.wrap (e+f))) (2 ^ (min (1:Int).toNat u64.bits))))+1)),f))
 else some (Sum.inl (e,(i64.wrap (Int.fdiv (u64.wrap (i64.wrap (e+f))) (2 ^ (min (1:Int).toNat u64.bits))))))))else none)
 else some (Sum.inr e))
def oV(e:Int)(f:Option Z3)(j:Int):Option (Int) :=
 ((iter (oh f j) (0,e)).bind fun p=>some p)
theorem wE(e:Bool){u:Int}{j:Option Z3}{q f:Int}(h:oV u j q=some f):
  Pure Tryz.prog 106 [.i64 u,.fn 107 [.fad true [.p e (.ptr mY) j] 0,.fad true [.i32 q] 0]] (aL (bh false [⟨(.int .i64),f⟩])):=by
 refine PB Tryz.func106 (fun Bw w0=>?_);unfold oV at h;refine G (G (ag (ak (cI h (fun(v,x)=>aA [(1,.fn 107 [.fad true [.p e (.ptr mY) j] 0,.fad true [.i32 q] 0]),(5,.i64 v),(6,.i64 x)] [] 0) 0 (fun z=>aA [(5,.i64 z)] [] 0) (gg [] []) (fun y o h=>?_) (fun z h=>?_)))))
 ·obtain⟨v,x⟩:=y;unfold oh at h;refine ag (G (aC h (fun A h=>?_) (fun A h=>?_)))
  ·refine ae (ab (ak (GC 4 h (fun h=>?_))));obtain⟨D,B,h⟩:=aj h;refine GP 2 (mg e B) (aC h (fun C h=>?_) (fun C h=>?_))
   ·refine Ge (ay ?_);exact eB h (gg [] [])
   refine Ge (ay ?_);exact eB h (gg [] [])
  refine au (aP ?_);exact eX h (gg [] [])
 refine av (ab (G (aw ?_)));obtain rfl:=sI h;exact RI [(.int .i64)]
def dJ(e:Option Z3)(j:Int):Option (Int×Bool) :=
 (if e.isNone=true then some (0,false)
 else(if e.isSome=true then((oV (((e.getD (Ty.zero mY)).1).length:Int) e j).bind fun f =>
 (((if e.isSome=true then(if(f == (((e.getD (Ty.zero mY)).1).length:Int))=true then some (true)
 else(if e.isSome=true then(if 0≤f∧f<(((e.getD (Ty.zero mY)).1).length:Int)then some ((decide (((((e.getD (Ty.zero mY)).1).getD f.toNat (0,0,0)).1) > j)))else none)else none))else none)).bind fun v1=>(if v1=true then some (0,false)
 else(if e.isSome=true then(if 0≤f∧f<(((e.getD (Ty.zero mY)).1).length:Int)then(if e.isSome=true then(if 0≤f∧f<(((e.getD (Ty.zero mY)).1).length:Int)then some ((i32.wrap ((i32.wrap ((i32.wrap ((((e.getD (Ty.zero mY)).1).getD f.toNat (0,0,0)).2.2))+j)) - ((((e.getD (Ty.zero mY)).1).getD f.toNat (0,0,0)).1))),true)else none)else none)else none)else none))))else none))
theorem mX(j:Bool){v:Option Z3}{x:Int}{q:Int×Bool}(h:dJ v x=some q):
  Pure Tryz.prog 71 [.p j (.ptr mY) v,.i32 x] (aL (bh false [⟨(.int .i32),q.1⟩,⟨.bool,q.2⟩])):=by
 refine PB Tryz.func71 (fun Bw w0=>?_);unfold dJ at h;refine G (ag (GN a0 [(1,1,⟨∃e,Tryz.prog.underlying 100=some (.pointer e),⟨_,rfl⟩⟩)] (aC h (fun J h=>?_) (fun J h=>?_))))
 ·refine G (aw (ai ?_));obtain rfl:=sI h;exact RI [(.int .i32),.bool]
 refine ae (ab ?_);obtain⟨L,h⟩:=aE h;obtain⟨M,N,h⟩:=aj h;have u:=(wE j N);refine GN ⟨[],[(6,(oP u))]⟩ [(1,1,oc L),(6,6,oc u)] (ag (ag (bB h (fun v1=>aA [(2,.adr 0 0 1 0),(3,.adr 1 0 1 0),(6,.i64 M),(34,.bo v1)] [(0,.box [.p j (.ptr mY) v]),(1,.box [.i32 x])] 2) (fun v1 h=>?_) (fun v1 h=>?_))))
 ·obtain⟨I,h⟩:=aE h;rcases aM h with⟨f,h⟩ | ⟨f,h⟩
  ·exact nT ⟨[(7,true),(18,true)],[]⟩ [(2,2,oc I),(8,18,oc f)] (eN h (gg [] [0,8]))
  obtain⟨z,A,h⟩:=g2 h;exact nT ⟨[(7,false),(18,false)],[]⟩ [(2,2,oc I),(8,8,an f),(9,9,oc (And.intro f z)),(10,12,an f),(13,13,oc (And.intro f A)),(14,17,an f),(18,18,oc f)] (eN h (gg [] [0,8]))
 refine ab (aC h (fun O h=>?_) (fun O h=>?_))
 ·refine G (aw (ai ?_));obtain rfl:=sI h;exact RI [(.int .i32),.bool]
 refine ae (ab ?_);obtain⟨B,C,D,E,h⟩:=g4 h;refine GD a0 [(1,1,oc B),(5,5,oc C),(12,12,oc D),(16,16,oc E)] (aw ?_);obtain rfl:=sI h;exact RI [(.int .i32),.bool]
def kf(v:Option HC)(j p:Int):uE→Option (uE⊕QK):=fun(f,e) =>
 (if(decide (e<(((((v.getD (Ty.zero sR)).1).getD p.toNat ([],([]:QK))).2).length:Int)))=true then(if 0≤e∧e<(((((v.getD (Ty.zero sR)).1).getD p.toNat ([],([]:QK))).2).length:Int)then(((if(decide ((i64.wrap ((i64.wrap (j+e)) - 1))≥0))=true then some ((decide ((i64.wrap ((i64.wrap (j+e)) - 1))<(f.length:Int))))
 else some (false))).bind fun q=>(((if q=true then(if 0≤(i64.wrap ((i64.wrap (j+e)) - 1))∧(i64.wrap ((i64.wrap (j+e)) - 1))<(f.length:Int)then(if(i64.wrap ((i64.wrap (j+e)) - 1)).toNat<f.length then(if 0≤(i64.wrap ((i64.wrap (j+e)) - 1))∧(i64.wrap ((i64.wrap (j+e)) - 1))<(f.length:Int)then(if(i64.wrap ((i64.wrap (j+e)) - 1)).toNat<f.length then some ((f.set ((i64.wrap ((i64.wrap (j+e)) - 1)).toNat) (max (f.getD ((i64.wrap ((i64.wrap (j+e)) - 1)).toNat) 0) (((((v.getD (Ty.zero sR)).1).getD p.toNat ([],([]:QK))).2).getD e.toNat 0))))else none)else none)else none)else none)
 else some (f))).bind fun u=>some (Sum.inl (u,(i64.wrap (e+1))))))else none)
 else some (Sum.inr f))
def kb(p:Option HC)(q:QK)(v:Int):(QK×Int×Int)→Option ((QK×Int×Int)⊕QK):=fun(u,e,f) =>
 (if p.isSome=true then(if 0≤e∧e<(((p.getD (Ty.zero sR)).1).length:Int)then((iter (kf p v e) (u,0)).bind fun j=>(if(f == (((([46]:QK)++q)++([46]:QK)).length:Int))=true then some (Sum.inr j)
 else(if p.isSome=true then(if 0≤e∧e<(((p.getD (Ty.zero sR)).1).length:Int)then(if 0≤f∧f<(((([46]:QK)++q)++([46]:QK)).length:Int)then(if f.toNat<((([46]:QK)++q)++([46]:QK)).length then(if(!((aW (α:=Int) (.int .i32) ((((p.getD (Ty.zero sR)).1).getD e.toNat ([],([]:QK))).1) (((([46]:QK)++q)++([46]:QK)).getD f.toNat 0)).isSome))=true then some (Sum.inr j)
 else some (Sum.inl (j,((aW (α:=Int) (.int .i32) ((((p.getD (Ty.zero sR)).1).getD e.toNat ([],([]:QK))).1) (((([46]:QK)++q)++([46]:QK)).getD f.toNat 0)).getD 0),(i64.wrap (f+1)))))else none)else none)else none)else none)))else none)else none)
def ka(q:Option HC)(p:QK):uE→Option (uE⊕QK):=fun(f,e) =>
 (if(decide (e<(((([46]:QK)++p)++([46]:QK)).length:Int)))=true then((iter (kb q p e) (f,0,e)).bind fun j=>some (Sum.inl (j,(i64.wrap (e+1)))))
 else some (Sum.inr f))
def fh(j:Option HC)(e:QK):Option QK :=
 (if 0≤(i64.wrap ((e.length:Int)+1))∧(i64.wrap ((e.length:Int)+1))≤(i64.wrap ((e.length:Int)+1))∧1*(i64.wrap ((e.length:Int)+1))≤281474976710656∧(i64.wrap ((e.length:Int)+1))≤9223372036854775807 then(if j.isNone=true then some (List.replicate (i64.wrap ((e.length:Int)+1)).toNat (0:Int))
 else(if(([46]:QK).length+e.length)*4≤140737488355328∧([46]:QK).length+e.length≤9223372036854775807 then(if((([46]:QK)++e).length+([46]:QK).length)*4≤140737488355328∧(([46]:QK)++e).length+([46]:QK).length≤9223372036854775807 then((iter (ka j e) ((List.replicate (i64.wrap ((e.length:Int)+1)).toNat (0:Int)),0)).bind fun f=>some f)else none)else none))else none)
theorem pI(q ac:Bool){x:Option HC}{z L:QK}(h:fh x z=some L):
  Pure Tryz.prog 108 [.p q (.ptr sR) x,.p ac (.slice (.int .i32)) z] (aL (bh false [⟨(.slice (.int .u8)),L⟩])):=by
 refine PB Tryz.func108 (fun Bw w0=>?_);unfold fh at h;refine G (GC 3 h (fun h=>ag (GN a0 [(1,1,⟨∃e,Tryz.prog.underlying 160=some (.pointer e),⟨_,rfl⟩⟩)] (aC h (fun B1 h=>?_) (fun B1 h=>?_)))))
 ·refine G (aw (ai ?_));obtain rfl:=sI h;exact RI [(.slice (.int .u8))]
 refine ae (ab ?_);obtain⟨c5,c6,h⟩:=g2 h;refine GN a0 [(2,2,oc c5),(4,4,oc c6)] (ag (G (ak (cI h (fun(M,j)=>aA [(0,.p q (.ptr sR) x),(5,.sl 0),(6,.sl 1),(28,.i64 (((([46]:QK)++z)++([46]:QK)).length:Int)),(29,.i64 j)] [(0,.arr 5 (.int .u8) M),(1,.arr 21 (.int .i32) ((([46]:QK)++z)++([46]:QK)))] 2) 0 (fun N=>aA [(5,.sl 0)] [(0,.arr 5 (.int .u8) N)] 1) (gg [] [32,96]) (fun y o h=>?_) (fun N h=>?_)))))
 ·obtain⟨M,j⟩:=y;unfold ka at h;refine G (ag (aC h (fun O h=>?_) (fun O h=>?_)))
  ·refine ae (ab (ag (ak (G (G (G (ak (cI h (fun(E,f,u)=>aA [(0,.p q (.ptr sR) x),(5,.sl 0),(6,.sl 1),(7,.i64 j),(8,.i64 f),(9,.i64 u),(28,.i64 (((([46]:QK)++z)++([46]:QK)).length:Int)),(29,.i64 j)] [(0,.arr 5 (.int .u8) E),(1,.arr 21 (.int .i32) ((([46]:QK)++z)++([46]:QK)))] 2) 2 (fun I=>aA [(0,.p q (.ptr sR) x),(5,.sl 0),(6,.sl 1),(28,.i64 (((([46]:QK)++z)++([46]:QK)).length:Int)),(29,.i64 j)] [(0,.arr 5 (.int .u8) I),(1,.arr 21 (.int .i32) ((([46]:QK)++z)++([46]:QK)))] 2) (gg [] [0,1]) (fun y o h=>?_) (fun I h=>?_)))))))))
   ·obtain⟨E,f,u⟩:=y;unfold kb at h;refine ag (ak (ag ?_));obtain⟨V,X,h⟩:=g2 h;refine GN a0 [(1,1,oc V),(5,5,oc X)] (ak ?_);refine cI h (fun(B,v)=>aA [(0,.p q (.ptr sR) x),(5,.sl 0),(6,.sl 1),(7,.i64 j),(8,.i64 f),(9,.i64 u),(28,.i64 (((([46]:QK)++z)++([46]:QK)).length:Int)),(29,.i64 j),(42,.p q (.slice (.int .u8)) ((((x.getD (Ty.zero sR)).1).getD f.toNat ([],([]:QK))).2)),(43,.i64 (((((x.getD (Ty.zero sR)).1).getD f.toNat ([],([]:QK))).2).length:Int)),(44,.i64 v)] [(0,.arr 5 (.int .u8) B),(1,.arr 21 (.int .i32) ((([46]:QK)++z)++([46]:QK)))] 2) 4 (fun J=>aA [(0,.p q (.ptr sR) x),(5,.sl 0),(6,.sl 1),(7,.i64 j),(8,.i64 f),(9,.i64 u),(28,.i64 (((([46]:QK)++z)++([46]:QK)).length:Int)),(29,.i64 j)] [(0,.arr 5 (.int .u8) J),(1,.arr 21 (.int .i32) ((([46]:QK)++z)++([46]:QK)))] 2) (gg [] [0,1]) (fun y o h=>?_) (fun J h=>?_)
    ·obtain⟨B,v⟩:=y;unfold kf at h;refine G (ag (aC h (fun Y h=>?_) (fun Y h=>?_)))
     ·refine ae (ab (ag (ak (GC 1 h (fun h=>G (ag ?_))))));refine bB h (fun C=>aA [(0,.p q (.ptr sR) x),(5,.sl 0),(6,.sl 1),(7,.i64 j),(8,.i64 f),(9,.i64 u),(11,.u8 (((((x.getD (Ty.zero sR)).1).getD f.toNat ([],([]:QK))).2).getD v.toNat 0)),(12,.i64 (i64.wrap ((i64.wrap (j+v)) - 1))),(28,.i64 (((([46]:QK)++z)++([46]:QK)).length:Int)),(29,.i64 j),(42,.p q (.slice (.int .u8)) ((((x.getD (Ty.zero sR)).1).getD f.toNat ([],([]:QK))).2)),(43,.i64 (((((x.getD (Ty.zero sR)).1).getD f.toNat ([],([]:QK))).2).length:Int)),(44,.i64 v),(60,.bo C)] [(0,.arr 5 (.int .u8) B),(1,.arr 21 (.int .i32) ((([46]:QK)++z)++([46]:QK)))] 2) (fun C h=>?_) (fun C h=>?_)
      ·rcases aM h with⟨A,h⟩ | ⟨A,h⟩
       ·exact bC ⟨[(2,true),(7,true)],[]⟩ [(3,6,an A),(7,7,oc A)] (eN h (gg [] [0,1]))
       exact bC ⟨[(2,false),(7,false)],[]⟩ [(3,7,oc A)] (eN h (gg [] [0,1]))
      refine ab (bB h (fun D=>aA [(0,.p q (.ptr sR) x),(5,.sl 0),(6,.sl 1),(7,.i64 j),(8,.i64 f),(9,.i64 u),(28,.i64 (((([46]:QK)++z)++([46]:QK)).length:Int)),(29,.i64 j),(42,.p q (.slice (.int .u8)) ((((x.getD (Ty.zero sR)).1).getD f.toNat ([],([]:QK))).2)),(43,.i64 (((((x.getD (Ty.zero sR)).1).getD f.toNat ([],([]:QK))).2).length:Int)),(44,.i64 v)] [(0,.arr 5 (.int .u8) D),(1,.arr 21 (.int .i32) ((([46]:QK)++z)++([46]:QK)))] 2) (fun D h=>?_) (fun D h=>?_))
      ·refine aC h (fun Z h=>?_) (fun Z h=>?_)
       ·obtain⟨a1,a2,a3,a4,h⟩:=g4 h;exact bC a0 [(4,4,oc a1),(5,5,oc a2),(8,8,oc a3),(9,9,oc a4)] (eN h (gg [] [0,1]))
       exact ae (eN h (gg [] [0,1]))
      refine ay (ab (Ge ?_));exact eB h (gg [] [0,1])
     refine au (aP ?_);exact eX h (gg [] [0,1])
    refine av (ab (ag (G (aC h (fun a5 h=>?_) (fun a5 h=>?_)))))
    ·refine au (aP (jv rfl (aP ?_)));exact eX h (gg [] [0,1])
    refine ae (ab ?_);obtain⟨a6,a7,a8,a9,h⟩:=g4 h;refine GD a0 [(1,1,oc a6),(5,5,oc a7),(10,10,oc a8),(11,11,oc a9)] (ag (G (aC h (fun aa h=>?_) (fun aa h=>?_))))
    ·refine au (aP (jv rfl (aP ?_)));exact eX h (gg [] [0,1])
    refine ae (ab (Ge (ay (ab (Ge ?_)))));exact eB h (gg [] [0,1])
   refine av (ay (ab (Ge ?_)));exact eB h (gg [] [0,1])
  refine au (aP ?_);exact eX h (gg [] [0])
 refine av (ab (G (aw ?_)));obtain rfl:=sI h;exact RI [(.slice (.int .u8))]
def gP(e p f:QK):Option (Bool) :=
 ((cw e f).bind fun j =>
 some j)
theorem nr(e q f:Bool){u v x:QK}{j:Bool}(h:gP u v x=some j):
  Pure Tryz.prog 110 [.agg [.p e (.slice (.int .i32)) u,.p q (.slice (.int .u8)) v],.fad true [.p f (.slice (.int .i32)) x] 0] (aL (bh false [⟨.bool,j⟩])):=by
 refine PB Tryz.func110 (fun Bw w0=>?_);unfold gP at h;refine G ?_;obtain⟨A,z,h⟩:=aj h;refine GP 3 (fZ e f z) (aw ?_);obtain rfl:=sI h;exact RI [.bool]
def l8(f:List Z8)(j:QK):(Int)→Option ((Int)⊕((Unit)⊕(Int))):=fun e =>
 (if(decide (e<(f.length:Int)))=true then(if 0≤e∧e<(f.length:Int)then((gP ((f.getD e.toNat ([],([]:QK))).1) ((f.getD e.toNat ([],([]:QK))).2) j).bind fun p =>
 (if p=true then some (Sum.inr (Sum.inr e))
 else some (Sum.inl (i64.wrap (e+1)))))else none)
 else some (Sum.inr (Sum.inl ())))
def iL(e:List Z8)(f:QK):Option (Int) :=
 ((iter (l8 e f) (0:Int)).bind fun(j:((Unit)⊕(Int)))=>match j with
 | .inl _=>some (-1:Int)
 | .inr (p)=>some p)
theorem qD(f j:Bool){v:List Z8}{x:QK}{q:Int}(h:iL v x=some q):
  Pure Tryz.prog 109 [.p f (.slice qB) v,.fn 110 [.fad true [.p j (.slice (.int .i32)) x] 0]] (aL (bh false [⟨(.int .i64),q⟩])):=by
 refine PB Tryz.func109 (fun Bw w0=>?_);unfold iL at h;refine G (ag (G (ak (kF h (fun A=>aA [(0,.p f (.slice qB) v),(1,.fn 110 [.fad true [.p j (.slice (.int .i32)) x] 0]),(7,.i64 (v.length:Int)),(8,.i64 A)] [] 0) (dz (fp Tryz.f109.ntmps 0 (fun _=>aA [] [] 0)) (gv tb Tryz.f109.results.toList (fun B=>[⟨(.int .i64),B⟩]))) (gg [] []) (fun A o h=>?_) (fun D h e σ' C=>?_)))))
 ·unfold l8 at h;refine G (ag (aC h (fun E h=>?_) (fun E h=>?_)))
  ·refine ae (ab (ag (ak (G ?_))));obtain⟨I,h⟩:=aE h;obtain⟨N,J,h⟩:=aj h;have u:=(nr f f j J);refine GN ⟨[],[(5,(oP u))]⟩ [(3,3,oc I),(5,5,oc u)] (aC h (fun L h=>?_) (fun L h=>?_))
   ·refine G (aw ?_);obtain rfl:=sI h;refine az (ai (bL (aK ?_)));exact bK (RI [(.int .i64)])
   refine ae (ay (ab (Ge ?_)));exact eB h (gg [] [])
  refine au (aP ?_);obtain rfl:=sI h;refine dN (bk ?_);exact bR (gg [] [])
 rcases D with _ | B
 ·obtain⟨rfl,z⟩:=C;refine cJ ?_ z;refine av (ab (G (aw ?_)));obtain rfl:=sI h;exact RI [(.int .i64)]
 obtain⟨rfl,M⟩:=C;refine az (ai ?_);obtain rfl:=sI h;exact M
def gw(q:Option Z3)(p e:QK):((List Bool)×Int)→Option (((List Bool)×Int)⊕(List Bool)):=fun(f,j) =>
 (if q.isSome=true then(if(decide (j≤(i64.wrap ((p.length:Int) - ((q.getD (Ty.zero mY)).2.2.2.2)))))=true then(if 0≤j∧j<(e.length:Int)then(if ¬(2:Int)=0 then(if 0≤j∧j<(f.length:Int)then(if j.toNat<f.length then some (Sum.inl ((f.set j.toNat ((Int.tmod (e.getD j.toNat 0) (2:Int)) == 1)),(i64.wrap (j+1))))else none)else none)else none)else none)
 else some (Sum.inr f))else none)
def eQ(f:Option Z3)(e:QK):Option (List Bool) :=
 (if 0≤(i64.wrap ((e.length:Int)+1))∧(i64.wrap ((e.length:Int)+1))≤(i64.wrap ((e.length:Int)+1))∧1*(i64.wrap ((e.length:Int)+1))≤281474976710656∧(i64.wrap ((e.length:Int)+1))≤9223372036854775807 then(if f.isNone=true then some (List.replicate (i64.wrap ((e.length:Int)+1)).toNat false)
 else(if f.isSome=true then((fh ((f.getD (Ty.zero mY)).2.1) e).bind fun u =>
 (if f.isSome=true then((iL ((f.getD (Ty.zero mY)).2.2.1) e).bind fun q =>
 (((if(decide (q≥0))=true then(if f.isSome=true then(if 0≤q∧q<(((f.getD (Ty.zero mY)).2.2.1).length:Int)then some ((((f.getD (Ty.zero mY)).2.2.1).getD q.toNat ([],([]:QK))).2)else none)else none)
 else some (u))).bind fun j=>(if f.isSome=true then((iter (gw f e j) ((List.replicate (i64.wrap ((e.length:Int)+1)).toNat false),(f.getD (Ty.zero mY)).2.2.2.1)).bind fun p=>some p)else none)))else none))else none))else none)
theorem oq(q:Bool){A:Option Z3}{j:QK}{z:List Bool}(h:eQ A j=some z):
  Pure Tryz.prog 72 [.p false (.ptr mY) A,.p q (.slice (.int .i32)) j] (aL (bh false [⟨(.slice .bool),z⟩])):=by
 refine PB Tryz.func72 (fun Bw w0=>?_);unfold eQ at h;refine G (GC 3 h (fun h=>ag (GN a0 [(1,1,⟨∃e,Tryz.prog.underlying 100=some (.pointer e),⟨_,rfl⟩⟩)] (aC h (fun N h=>?_) (fun N h=>?_)))))
 ·refine G (aw (ai ?_));obtain rfl:=sI h;exact RI [(.slice .bool)]
 refine ae (ab ?_);obtain⟨O,h⟩:=aE h;obtain⟨r2,V,h⟩:=aj h;have u:=(pI false q V);refine GD ⟨[],[(5,(oP u))]⟩ [(1,1,oc O),(5,5,oc u)] (ag ?_);obtain⟨X,h⟩:=aE h;obtain⟨r4,Y,h⟩:=aj h;have u:=(qD false q Y);refine GN ⟨[],[(5,(oP u))]⟩ [(1,1,oc X),(5,5,oc u)] (G (bB h (fun f=>aA [(0,.p false (.ptr mY) A),(3,.adr 0 0 1 0),(5,.sl 1),(6,.p false (.slice (.int .u8)) f)] (KJ q j (List.replicate (i64.wrap ((j.length:Int)+1)).toNat false)) 2) (fun f h=>?_) (fun f h=>?_)))
 ·refine aC h (fun Z h=>?_) (fun Z h=>?_)
  ·obtain⟨B,C,h⟩:=g2 h;exact bC a0 [(1,1,oc B),(5,5,oc C)] (eN h (gg [] [0,40]))
  exact ae (eN h (gg [] [0,40]))
 refine ab (ag (GC 1 h (fun h=>ak (cI h (fun(v,M)=>aA [(0,.p false (.ptr mY) A),(3,.adr 0 0 1 0),(5,.sl 1),(6,.p false (.slice (.int .u8)) f),(8,.i64 M)] (KJ q j v) 2) 0 (fun x=>aA [(5,.sl 0)] [(0,.arr 4 .bool x)] 1) (gg [] [0,1]) (fun y o h=>?_) (fun x h=>?_)))))
 ·obtain⟨v,M⟩:=y;unfold gw at h;refine ag ?_;obtain⟨D,h⟩:=aE h;refine GD a0 [(4,4,oc D)] (aC h (fun B6 h=>?_) (fun B6 h=>?_))
  ·refine ae (ab (ag (ak ?_)));obtain⟨E,I,J,L,h⟩:=g4 h;refine bC a0 [(4,4,oc E),(6,6,oc I),(8,8,oc J),(9,9,oc L)] (ay (ab (Ge ?_)));exact eB h (gg [] [0,1])
  refine au (aP ?_);exact eX h (gg [] [1])
 refine av (ab (G (aw ?_)));obtain rfl:=sI h;exact RI [(.slice .bool)]
def iX(u:Option Z3)(p:XK):(Int×QK)→Option ((Int×QK)⊕(Int×QK)):=fun(f,e) =>
 (if(decide (f<(p.length:Int)))=true then(if 0≤f∧f<(p.length:Int)then((dJ u ((p.getD f.toNat (0,0,0)).1)).bind fun(j,q) =>
 (if(!q)=true then some (Sum.inr (f,e))
 else(if(e.length+([j]:QK).length)*4≤140737488355328∧e.length+([j]:QK).length≤9223372036854775807 then some (Sum.inl ((i64.wrap (f+1)),(e++([j]:QK))))else none)))else none)
 else some (Sum.inr (f,e)))
def iJ(q:Option Z3)(u:XK):((List Bool)×Int)→Option (((List Bool)×Int)⊕(List Bool)):=fun(f,i8) =>
 (if(decide (i8<(u.length:Int)))=true then((iter (iX q u) (i8,([]:QK))).bind fun(p,e)=>(if 0≤i8∧i8≤(f.length:Int)then((eQ q e).bind fun j =>
 (if 0≤(0:Int)∧0≤(e.length:Int)∧(e.length:Int)≤(j.length:Int)then some (Sum.inl ((f.take i8.toNat++(((j.take (e.length:Int).toNat).drop (0:Int).toNat).take (f.length - i8.toNat)++f.drop (i8.toNat+((j.take (e.length:Int).toNat).drop (0:Int).toNat).length))),(i64.wrap (p+1))))else none))else none))
 else some (Sum.inr f))
def dG(j:Option Z3)(e:XK):Option (List Bool) :=
 (if 0≤(i64.wrap ((e.length:Int)+1))∧(i64.wrap ((e.length:Int)+1))≤(i64.wrap ((e.length:Int)+1))∧1*(i64.wrap ((e.length:Int)+1))≤281474976710656∧(i64.wrap ((e.length:Int)+1))≤9223372036854775807 then((iter (iJ j e) ((List.replicate (i64.wrap ((e.length:Int)+1)).toNat false),0)).bind fun f=>some f)else none)
theorem nq(u:Bool){v:Option Z3}{z:XK}{A:List Bool}(h:dG v z=some A):
  Pure Tryz.prog 40 [.p false (.ptr mY) v,.p u (.slice (.prod (.int .i32) Y2)) z] (aL (bh false [⟨(.slice .bool),A⟩])):=by
 refine PB Tryz.func40 (fun Bw w0=>?_);unfold dG at h;refine G (GC 3 h (fun h=>G (ag (G (ak (cI h (fun(e,i8)=>aA [(0,.p false (.ptr mY) v),(1,.p u (.slice (.prod (.int .i32) Y2)) z),(5,.sl 0),(6,.bfn 71 [.p false (.ptr mY) v]),(7,.i64 i8)] [(0,.arr 4 .bool e)] 1) 0 (fun x=>aA [(5,.sl 0)] [(0,.arr 4 .bool x)] 1) (gg [] [32]) (fun y o h=>?_) (fun x h=>?_)))))))
 ·obtain⟨e,i8⟩:=y;unfold iJ at h;refine ag (G (aC h (fun D h=>?_) (fun D h=>?_)))
  ·refine ae (ab (ag (ak (G (G (ag (ak (cI h (fun(B,f)=>aA [(0,.p false (.ptr mY) v),(1,.p u (.slice (.prod (.int .i32) Y2)) z),(5,.sl 0),(6,.bfn 71 [.p false (.ptr mY) v]),(7,.i64 B),(8,.sl 1),(9,.i64 i8)] [(0,.arr 4 .bool e),(1,.arr 21 (.int .i32) f)] 2) 2 (fun(C,j)=>aA [(0,.p false (.ptr mY) v),(1,.p u (.slice (.prod (.int .i32) Y2)) z),(5,.sl 0),(6,.bfn 71 [.p false (.ptr mY) v]),(7,.i64 C),(8,.sl 1),(9,.i64 i8)] [(0,.arr 4 .bool e),(1,.arr 21 (.int .i32) j)] 2) (gg [.nilS 8 57 21 (.int .i32)] [0,57]) (fun y o h=>?_) (fun E h=>?_)))))))))
   ·obtain⟨B,f⟩:=y;unfold iX at h;refine ag (G (aC h (fun I h=>?_) (fun I h=>?_)))
    ·refine ae (ab (ag (ak ?_)));obtain⟨J,h⟩:=aE h;obtain⟨⟨X,Y⟩,L,h⟩:=aj h;have q:=(mX false L);refine GN ⟨[],[(6,(oP q))]⟩ [(3,3,oc J),(6,6,oc q)] (ag (G (aC h (fun M h=>?_) (fun M h=>?_))))
     ·refine au (aP (jv rfl (aP ?_)));exact eX h (gg [] [0,1])
     refine ae (ab (zC 3 h (fun h=>ay (ab (Ge ?_)))));exact eB h (gg [] [0,170])
    refine au (aP ?_);exact eX h (gg [] [0,1])
   obtain⟨C,j⟩:=E;refine av (ab ?_);obtain⟨N,h⟩:=aE h;obtain⟨Z,O,h⟩:=aj h;obtain⟨V,h⟩:=aE h;have q:=(oq true O);refine nT ⟨[],[(5,(oP q))]⟩ [(2,2,oc N),(5,5,oc q),(8,8,oc V)] (ay (ab (Ge ?_)));exact eB h (gg [] [0])
  refine au (aP ?_);exact eX h (gg [] [0])
 refine av (ab (G (aw ?_)));obtain rfl:=sI h;exact RI [(.slice .bool)]
def lf(e:Int):Option (Int) :=
 (if(e == 32)=true then some 1
 else(if(e == 9)=true then some 2
 else some 0))
theorem wR{f e:Int}(h:lf f=some e):
  Pure Tryz.prog 105 [.i32 f] (aL (bh false [⟨(.int .u8),e⟩])):=by
 refine PB Tryz.func105 (fun Bw w0=>?_);unfold lf at h;refine G (ag (G (ak (G (aC h (fun j h=>?_) (fun j h=>?_))))))
 ·refine G (aw (az (ai ?_)));obtain rfl:=sI h;exact RI [(.int .u8)]
 refine G (aC h (fun p h=>?_) (fun p h=>?_))
 ·refine G (aw (az (ai ?_)));obtain rfl:=sI h;exact RI [(.int .u8)]
 refine ae (ay (ab (G (aw ?_))));obtain rfl:=sI h;exact RI [(.int .u8)]
def dr(p:XK)(z:QK)(C:Option y5):(Qv×QK×Int)→Option ((Qv×QK×Int)⊕(Qv×QK)):=fun(q,u,f) =>
 (if(decide (f<(p.length:Int)))=true then(if 0≤f∧f<(p.length:Int)then(((if(f == 0)=true then some (true)
 else(if(decide (f<(z.length:Int)))=true then(if 0≤f∧f<(z.length:Int)then some (((z.getD f.toNat 0) != 0))else none)
 else some (false)))).bind fun A=>(((if A=true then((lf ((p.getD f.toNat (0,0,0)).1)).bind fun v =>
 (if(q.length+([((p.getD f.toNat (0,0,0)).2.1,0,0,v)]:Qv).length)*32≤140737488355328∧q.length+([((p.getD f.toNat (0,0,0)).2.1,0,0,v)]:Qv).length≤9223372036854775807 then(if(u.length+([f]:QK).length)*8≤140737488355328∧u.length+([f]:QK).length≤9223372036854775807 then some (((q++([((p.getD f.toNat (0,0,0)).2.1,0,0,v)]:Qv)),(u++([f]:QK))))else none)else none))
 else some ((q,u)))).bind fun(e,j)=>(if 0≤(i64.wrap ((e.length:Int) - 1))∧(i64.wrap ((e.length:Int) - 1))<(e.length:Int)then(if 0≤(i64.wrap ((j.length:Int) - 1))∧(i64.wrap ((j.length:Int) - 1))<(j.length:Int)then(if(i64.wrap ((j.length:Int) - 1)).toNat<j.length then(((if((j.getD ((i64.wrap ((j.length:Int) - 1)).toNat) 0) != f)=true then(if(i64.wrap ((e.length:Int) - 1)).toNat<e.length then some ((e.set ((i64.wrap ((e.length:Int) - 1)).toNat) ((e.getD ((i64.wrap ((e.length:Int) - 1)).toNat) (0,0,0,0)).1,(e.getD ((i64.wrap ((e.length:Int) - 1)).toNat) (0,0,0,0)).2.1,(e.getD ((i64.wrap ((e.length:Int) - 1)).toNat) (0,0,0,0)).2.2.1,0)))else none)
 else some (e))).bind fun v20=>(if(i64.wrap ((e.length:Int) - 1)).toNat<v20.length then(if(i64.wrap ((e.length:Int) - 1)).toNat<v20.length then(if(i64.wrap ((e.length:Int) - 1)).toNat<(v20.set ((i64.wrap ((e.length:Int) - 1)).toNat) ((v20.getD ((i64.wrap ((e.length:Int) - 1)).toNat) (0,0,0,0)).1,(i64.wrap (((v20.getD ((i64.wrap ((e.length:Int) - 1)).toNat) (0,0,0,0)).2.1)+((p.getD f.toNat (0,0,0)).2.2))),(v20.getD ((i64.wrap ((e.length:Int) - 1)).toNat) (0,0,0,0)).2.2.1,(v20.getD ((i64.wrap ((e.length:Int) - 1)).toNat) (0,0,0,0)).2.2.2)).length then((bf C ((p.getD f.toNat (0,0,0)).1)).bind fun B =>
 (if(i64.wrap ((e.length:Int) - 1)).toNat<(v20.set ((i64.wrap ((e.length:Int) - 1)).toNat) ((v20.getD ((i64.wrap ((e.length:Int) - 1)).toNat) (0,0,0,0)).1,(i64.wrap (((v20.getD ((i64.wrap ((e.length:Int) - 1)).toNat) (0,0,0,0)).2.1)+((p.getD f.toNat (0,0,0)).2.2))),(v20.getD ((i64.wrap ((e.length:Int) - 1)).toNat) (0,0,0,0)).2.2.1,(v20.getD ((i64.wrap ((e.length:Int) - 1)).toNat) (0,0,0,0)).2.2.2)).length then some (Sum.inl (((v20.set ((i64.wrap ((e.length:Int) - 1)).toNat) ((v20.getD ((i64.wrap ((e.length:Int) - 1)).toNat) (0,0,0,0)).1,(i64.wrap (((v20.getD ((i64.wrap ((e.length:Int) - 1)).toNat) (0,0,0,0)).2.1)+((p.getD f.toNat (0,0,0)).2.2))),(v20.getD ((i64.wrap ((e.length:Int) - 1)).toNat) (0,0,0,0)).2.2.1,(v20.getD ((i64.wrap ((e.length:Int) - 1)).toNat) (0,0,0,0)).2.2.2)).set ((i64.wrap ((e.length:Int) - 1)).toNat) (((v20.set ((i64.wrap ((e.length:Int) - 1)).toNat) ((v20.getD ((i64.wrap ((e.length:Int) - 1)).toNat) (0,0,0,0)).1,(i64.wrap (((v20.getD ((i64.wrap ((e.length:Int) - 1)).toNat) (0,0,0,0)).2.1)+((p.getD f.toNat (0,0,0)).2.2))),(v20.getD ((i64.wrap ((e.length:Int) - 1)).toNat) (0,0,0,0)).2.2.1,(v20.getD ((i64.wrap ((e.length:Int) - 1)).toNat) (0,0,0,0)).2.2.2)).getD ((i64.wrap ((e.length:Int) - 1)).toNat) (0,0,0,0)).1,((v20.set ((i64.wrap ((e.length:Int) - 1)).toNat) ((v20.getD ((i64.wrap ((e.length:Int) - 1)).toNat) (0,0,0,0)).1,(i64.wrap (((v20.getD ((i64.wrap ((e.length:Int) - 1)).toNat) (0,0,0,0)).2.1)+((p.getD f.toNat (0,0,0)).2.2))),(v20.getD ((i64.wrap ((e.length:Int) - 1)).toNat) (0,0,0,0)).2.2.1,(v20.getD ((i64.wrap ((e.length:Int) - 1)).toNat) (0,0,0,0)).2.2.2)).getD ((i64.wrap ((e.length:Int) - 1)).toNat) (0,0,0,0)).2.1,(max (((v20.set ((i64.wrap ((e.length:Int) - 1)).toNat) ((v20.getD ((i64.wrap ((e.length:Int) - 1)).toNat) (0,0,0,0)).1,(i64.wrap (((v20.getD ((i64.wrap ((e.length:Int) - 1)).toNat) (0,0,0,0)).2.1)+((p.getD f.toNat (0,0,0)).2.2))),(v20.getD ((i64.wrap ((e.length:Int) - 1)).toNat) (0,0,0,0)).2.2.1,(v20.getD ((i64.wrap ((e.length:Int) - 1)).toNat) (0,0,0,0)).2.2.2)).getD ((i64.wrap ((e.length:Int) - 1)).toNat) (0,0,0,0)).2.2.1) (min B 2)),((v20.set ((i64.wrap ((e.length:Int) - 1)).toNat) ((v20.getD ((i64.wrap ((e.length:Int) - 1)).toNat) (0,0,0,0)).1,(i64.wrap (((v20.getD ((i64.wrap ((e.length:Int) - 1)).toNat) (0,0,0,0)).2.1)+((p.getD f.toNat (0,0,0)).2.2))),(v20.getD ((i64.wrap ((e.length:Int) - 1)).toNat) (0,0,0,0)).2.2.1,(v20.getD ((i64.wrap ((e.length:Int) - 1)).toNat) (0,0,0,0)).2.2.2)).getD ((i64.wrap ((e.length:Int) - 1)).toNat) (0,0,0,0)).2.2.2)),j,(i64.wrap (f+1))))else none))else none)else none)else none))else none)else none)else none)))else none)
 else some (Sum.inr (q,u)))
def kT(f:XK)(p:QK)(q:Option y5):Option (Qv×QK) :=
 ((iter (dr f p q) (([]:Qv),([]:QK),0)).bind fun(j,e)=>(if(e.length+([(f.length:Int)]:QK).length)*8≤140737488355328∧e.length+([(f.length:Int)]:QK).length≤9223372036854775807 then some (j,(e++([(f.length:Int)]:QK)))else none))
theorem wQ(j x v:Bool){f:XK}{J:QK}{L:Option y5}{A:Qv×QK}(h:kT f J L=some A):
  Pure Tryz.prog 66 [.p j (.slice (.prod (.int .i32) Y2)) f,.p x (.slice (.int .u8)) J,.p v (.ptr vp) L] (aL (bh false [⟨(.slice fF),A.1⟩,⟨(.slice (.int .i64)),A.2⟩])):=by
 refine PB Tryz.func66 (fun Bw w0=>?_);unfold kT at h;refine G (G (G (ag (G (ak (cI h (fun(B,C,e)=>aA [(0,.p j (.slice (.prod (.int .i32) Y2)) f),(1,.p x (.slice (.int .u8)) J),(2,.p v (.ptr vp) L),(8,.sl 0),(9,.sl 1),(13,.p j (.slice (.prod (.int .i32) Y2)) f),(14,.i64 (f.length:Int)),(15,.i64 e)] [(0,.arr 90 fF B),(1,.arr 3 (.int .i64) C)] 2) 0 (fun(M,N)=>aA [(0,.p j (.slice (.prod (.int .i32) Y2)) f),(8,.sl 0),(9,.sl 1)] [(0,.arr 90 fF M),(1,.arr 3 (.int .i64) N)] 2) (gg [.nilS 8 56 90 fF,.nilS 9 57 3 (.int .i64)] [56,57]) (fun y o h=>?_) (fun V h=>?_)))))))
 ·obtain⟨B,C,e⟩:=y;unfold dr at h;refine G (ag (aC h (fun X h=>?_) (fun X h=>?_)))
  ·refine ae (ab (ag (ak (GC 1 h (fun h=>ag (ag (bB h (fun D=>aA [(0,.p j (.slice (.prod (.int .i32) Y2)) f),(1,.p x (.slice (.int .u8)) J),(2,.p v (.ptr vp) L),(8,.sl 0),(9,.sl 1),(10,.i64 e),(11,.adr 2 0 3 0),(13,.p j (.slice (.prod (.int .i32) Y2)) f),(14,.i64 (f.length:Int)),(15,.i64 e),(34,.bo D)] (Jr B C ((f.getD e.toNat (0,0,0)).1) ((f.getD e.toNat (0,0,0)).2.1) ((f.getD e.toNat (0,0,0)).2.2)) 3) (fun D h=>?_) (fun D h=>?_))))))))
   ·rcases aM h with⟨q,h⟩ | ⟨q,h⟩
    ·exact bC ⟨[(2,true),(14,true)],[]⟩ [(3,7,oc q),(13,14,oc q)] (eN h (gg [] [0,1,34]))
    rcases aM h with⟨u,h⟩ | ⟨u,h⟩
    ·obtain⟨Y,h⟩:=aE h;exact bC ⟨[(2,false),(7,true),(13,true),(14,false)],[]⟩ [(3,7,an q),(8,9,an u),(10,10,oc (And.intro u Y)),(11,12,an u),(13,13,oc (And.intro q u)),(14,14,oc q)] (eN h (gg [] [0,1,34]))
    exact bC ⟨[(2,false),(7,false),(13,false),(14,false)],[]⟩ [(3,7,an q),(8,12,oc u),(13,13,oc (And.intro q u)),(14,14,oc q)] (eN h (gg [] [0,1,34]))
   refine ab (bB h (fun(E,I)=>aA [(0,.p j (.slice (.prod (.int .i32) Y2)) f),(1,.p x (.slice (.int .u8)) J),(2,.p v (.ptr vp) L),(8,.sl 0),(9,.sl 1),(10,.i64 e),(11,.adr 2 0 3 0),(13,.p j (.slice (.prod (.int .i32) Y2)) f),(14,.i64 (f.length:Int)),(15,.i64 e)] (Jr E I ((f.getD e.toNat (0,0,0)).1) ((f.getD e.toNat (0,0,0)).2.1) ((f.getD e.toNat (0,0,0)).2.2)) 3) (fun O h=>?_) (fun O h=>?_))
   ·refine aC h (fun Z h=>?_) (fun Z h=>?_)
    ·obtain⟨ac,a1,h⟩:=aj h;obtain⟨a2,h⟩:=aE h;have z:=(wR a1);refine GD ⟨[],[(5,(oP z))]⟩ [(5,5,oc z),(8,8,oc a2)] (zC 3 h (fun h=>?_));exact eN h (gg [] [67,107,2])
    exact ae (eN h (gg [] [0,1,2]))
   obtain⟨E,I⟩:=O;refine ab (GC 4 h (fun h=>ag ?_));obtain⟨a3,a4,h⟩:=g2 h;refine GN a0 [(4,4,oc a3),(5,5,oc a4)] (bB h (fun v20=>aA [(0,.p j (.slice (.prod (.int .i32) Y2)) f),(1,.p x (.slice (.int .u8)) J),(2,.p v (.ptr vp) L),(8,.sl 0),(9,.sl 1),(11,.adr 2 0 3 0),(12,.adr 0 ((i64.wrap ((E.length:Int) - 1)).toNat) 4 0),(13,.p j (.slice (.prod (.int .i32) Y2)) f),(14,.i64 (f.length:Int)),(15,.i64 e)] (Jr v20 I ((f.getD e.toNat (0,0,0)).1) ((f.getD e.toNat (0,0,0)).2.1) ((f.getD e.toNat (0,0,0)).2.2)) 3) (fun v20 h=>?_) (fun v20 h=>?_))
   ·refine aC h (fun a5 h=>?_) (fun a5 h=>?_)
    ·refine zC 3 h (fun h=>?_);exact eN h (gg [] [0,1,2])
    exact ae (eN h (gg [] [0,1,2]))
   refine ab ?_;obtain⟨a6,a7,h⟩:=g2 h;refine GD a0 [(3,3,oc a6),(9,9,oc a7)] ?_;obtain⟨a8,h⟩:=aE h;obtain⟨ad,a9,h⟩:=aj h;obtain⟨aa,h⟩:=aE h;have z:=(mF v a9);refine nT ⟨[],[(8,(oP z))]⟩ [(4,4,oc a8),(8,8,oc z),(13,13,oc aa)] (ay (ab (Ge ?_)));exact eB h (gg [] [0,1])
  refine au (aP ?_);exact eX h (gg [] [0,1])
 obtain⟨M,N⟩:=V;refine av (ab (GC 5 h (fun h=>aw ?_)));obtain rfl:=sI h;exact RI [(.slice fF),(.slice (.int .i64))]
def cy(x:XK)(p:QK)(q:List Bool)(j:QK):uE→Option (uE⊕QK):=fun(f,e) =>
 (if(decide (e<(j.length:Int)))=true then(if 0≤e∧e<(j.length:Int)then(((if((j.getD e.toNat 0) == (x.length:Int))=true then(if(f.length+([2]:QK).length)*1≤140737488355328∧f.length+([2]:QK).length≤9223372036854775807 then some ((f++([2]:QK)))else none)
 else(((if((j.getD e.toNat 0) == 0)=true then some (true)
 else some ((decide ((j.getD e.toNat 0)≥(p.length:Int)))))).bind fun u=>(if u=true then(if(f.length+([0]:QK).length)*1≤140737488355328∧f.length+([0]:QK).length≤9223372036854775807 then some ((f++([0]:QK)))else none)
 else(((if 0≤(j.getD e.toNat 0)∧(j.getD e.toNat 0)<(p.length:Int)then(if((p.getD ((j.getD e.toNat 0).toNat) 0) == 0)=true then(if(decide ((j.getD e.toNat 0)<(q.length:Int)))=true then(if 0≤(j.getD e.toNat 0)∧(j.getD e.toNat 0)<(q.length:Int)then some ((q.getD ((j.getD e.toNat 0).toNat) false))else none)
 else some (false))
 else some (false))else none)).bind fun v20=>(if v20=true then(if(f.length+([3]:QK).length)*1≤140737488355328∧f.length+([3]:QK).length≤9223372036854775807 then some ((f++([3]:QK)))else none)
 else(if 0≤(j.getD e.toNat 0)∧(j.getD e.toNat 0)<(p.length:Int)then(if(f.length+([(p.getD ((j.getD e.toNat 0).toNat) 0)]:QK).length)*1≤140737488355328∧f.length+([(p.getD ((j.getD e.toNat 0).toNat) 0)]:QK).length≤9223372036854775807 then some ((f++([(p.getD ((j.getD e.toNat 0).toNat) 0)]:QK)))else none)else none))))))).bind fun v=>some (Sum.inl (v,(i64.wrap (e+1)))))else none)
 else some (Sum.inr f))
def gr(f:XK)(j p:QK)(q:List Bool)(u:Option y5):Option (Qv×QK) :=
 ((kT f j u).bind fun(v,x) =>
 ((iter (cy f p q x) (([]:QK),0)).bind fun e=>some (v,e)))
theorem xu(f L u v M:Bool){E:XK}{i1 I:QK}{J:List Bool}{x3:Option y5}{N:Qv×QK}(h:gr E i1 I J x3=some N):
  Pure Tryz.prog 37 [.p f (.slice (.prod (.int .i32) Y2)) E,.p L (.slice (.int .u8)) i1,.p u (.slice (.int .u8)) I,.p v (.slice .bool) J,.p M (.ptr vp) x3] (aL (bh false [⟨JT,N⟩])):=by
 refine PB Tryz.func37 (fun Bw w0=>?_);unfold gr at h;refine G ?_;obtain⟨⟨O,x⟩,q2,h⟩:=aj h;refine GP 3 (wQ f L M q2) (G (ag (G (ak (cI h (fun(z,e)=>aA [(0,.p f (.slice (.prod (.int .i32) Y2)) E),(2,.p u (.slice (.int .u8)) I),(3,.p v (.slice .bool) J),(10,.adr 0 0 2 0),(13,.adr 1 0 2 0),(25,.p false (.slice (.int .i64)) x),(26,.i64 (x.length:Int)),(27,.i64 e)] (FD O z) 3) 0 (fun V=>aA [(10,.adr 0 0 2 0),(13,.adr 1 0 2 0)] (FD O V) 3) (gg [.nilC 96 1 136 91 (.int .u8)] [0,96,136]) (fun y o h=>?_) (fun V h=>?_))))))
 ·obtain⟨z,e⟩:=y;unfold cy at h;refine G (ag (aC h (fun Z h=>?_) (fun Z h=>?_)))
  ·refine ae (ab (ag (ak (GC 0 h (fun h=>ak (G (bB h (fun B=>aA [(0,.p f (.slice (.prod (.int .i32) Y2)) E),(2,.p u (.slice (.int .u8)) I),(3,.p v (.slice .bool) J),(10,.adr 0 0 2 0),(13,.adr 1 0 2 0),(25,.p false (.slice (.int .i64)) x),(26,.i64 (x.length:Int)),(27,.i64 e)] (FD O B) 3) (fun B h=>?_) (fun B h=>?_))))))))
   ·refine aC h (fun a1 h=>?_) (fun a1 h=>?_)
    ·refine zC 3 h (fun h=>?_);exact eN h (gg [] [0,1,99])
    refine ag (bB h (fun C=>aA [(0,.p f (.slice (.prod (.int .i32) Y2)) E),(2,.p u (.slice (.int .u8)) I),(3,.p v (.slice .bool) J),(10,.adr 0 0 2 0),(13,.adr 1 0 2 0),(15,.i64 (x.getD e.toNat 0)),(25,.p false (.slice (.int .i64)) x),(26,.i64 (x.length:Int)),(27,.i64 e),(50,.bo C)] (FD O z) 3) (fun C h=>?_) (fun C h=>?_))
    ·rcases aM h with⟨A,h⟩ | ⟨A,h⟩
     ·exact bC ⟨[(2,true),(7,true)],[]⟩ [(3,7,oc A)] (eN h (gg [] [0,1,2]))
     exact bC ⟨[(2,false),(7,false)],[]⟩ [(3,6,an A),(7,7,oc A)] (eN h (gg [] [0,1,2]))
    refine ab (aC h (fun a2 h=>?_) (fun a2 h=>?_))
    ·refine zC 3 h (fun h=>?_);exact eN h (gg [] [0,1,27])
    refine ag (bB h (fun v20=>aA [(0,.p f (.slice (.prod (.int .i32) Y2)) E),(2,.p u (.slice (.int .u8)) I),(3,.p v (.slice .bool) J),(10,.adr 0 0 2 0),(13,.adr 1 0 2 0),(15,.i64 (x.getD e.toNat 0)),(25,.p false (.slice (.int .i64)) x),(26,.i64 (x.length:Int)),(27,.i64 e),(64,.bo v20)] (FD O z) 3) (fun v20 h=>?_) (fun v20 h=>?_))
    ·obtain⟨D,h⟩:=aE h;rcases aM h with⟨j,h⟩ | ⟨j,h⟩
     ·rcases aM h with⟨q,h⟩ | ⟨q,h⟩
      ·obtain⟨a3,h⟩:=aE h;exact bC ⟨[(5,true),(10,true),(11,true),(16,true)],[]⟩ [(2,2,oc D),(6,9,an j),(10,10,oc j),(12,13,an q),(14,14,oc (And.intro q a3)),(15,15,an q),(16,16,oc q)] (eN h (gg [] [0,1,2]))
      exact bC ⟨[(5,true),(10,true),(11,false),(16,false)],[]⟩ [(2,2,oc D),(6,9,an j),(10,10,oc j),(12,16,oc q)] (eN h (gg [] [0,1,2]))
     exact bC ⟨[(5,false),(10,false)],[]⟩ [(2,2,oc D),(6,10,oc j)] (eN h (gg [] [0,1,2]))
    refine ab (aC h (fun a4 h=>?_) (fun a4 h=>?_))
    ·refine zC 3 h (fun h=>?_);exact eN h (gg [] [0,1,27])
    obtain⟨X,Y,h⟩:=g2 h;exact nT a0 [(4,4,oc X),(7,7,oc Y)] (eN h (gg [] [0,1,59]))
   refine ay (ay (ab (Ge ?_)));exact eB h (gg [] [0,1,2])
  refine au (aP ?_);exact eX h (gg [] [0,1,2])
 refine av (ab (G (lF [.frzC 0 1] (by kernel_rfl) (aw ?_))));obtain rfl:=sI h;exact RI [JT]
def bc(e:Option Z1)(f:QK):Option ((Qv×QK)×Int) :=
 (if e.isNone=true then some ((([]:Qv),([]:QK)),1)
 else(if(decide ((f.length:Int) > 4096))=true then some ((([]:Qv),([]:QK)),3)
 else((mJ f).bind fun p =>
 (if e.isSome=true then(if e.isSome=true then((cD ((e.getD (Ty.zero zD)).2.2.1) p).bind fun z =>
 ((eE ((e.getD (Ty.zero zD)).1) z).bind fun q =>
 (if e.isSome=true then(if e.isSome=true then((cD ((e.getD (Ty.zero zD)).2.2.2.1) p).bind fun u =>
 ((eE ((e.getD (Ty.zero zD)).2.1) u).bind fun v =>
 (if e.isSome=true then((dG ((e.getD (Ty.zero zD)).2.2.2.2.2) p).bind fun x =>
 (if e.isSome=true then((gr p q v x ((e.getD (Ty.zero zD)).2.2.2.2.1)).bind fun j =>
 some ((j.1,j.2),0))else none))else none)))else none)else none)))else none)else none))))
theorem lI(q:Bool){O:Option Z1}{f:QK}{j:(Qv×QK)×Int}(h:bc O f=some j):
  Pure Tryz.prog 14 [.p false (.ptr zD) O,.p q (.slice (.int .u8)) f] (aL (bh false [⟨JT,j.1⟩,⟨(.int .i64),j.2⟩])):=by
 refine PB Tryz.func14 (fun Bw w0=>?_);unfold bc at h;refine G (ag (GN a0 [(1,1,⟨∃e,Tryz.prog.underlying 29=some (.pointer e),⟨_,rfl⟩⟩)] (aC h (fun V h=>?_) (fun V h=>?_))))
 ·refine G (aw (ai ?_));obtain rfl:=sI h;exact RI [JT,(.int .i64)]
 refine ae (ab (ag (G (aC h (fun X h=>?_) (fun X h=>?_)))))
 ·refine G (aw (ai ?_));obtain rfl:=sI h;exact RI [JT,(.int .i64)]
 refine ae (ab ?_);obtain⟨r2,Y,h⟩:=aj h;refine GP 1 (tZ q Y) ?_;obtain⟨Z,c8,h⟩:=g2 h;obtain⟨r9,q9,h⟩:=aj h;obtain⟨a1,C,h⟩:=aj h;obtain⟨c9,D,h⟩:=g2 h;obtain⟨a2,E,h⟩:=aj h;obtain⟨a3,I,h⟩:=aj h;obtain⟨J,h⟩:=aE h;obtain⟨a4,L,h⟩:=aj h;obtain⟨M,h⟩:=aE h;obtain⟨a5,N,h⟩:=aj h;have u:=(kV false false q9);have v:=(kP false false C);have x:=(kV false false E);have z:=(kP false false I);have A:=(nq false L);have B:=(xu false false false false false N);refine GD ⟨[],[(10,(oP u)),(11,(oP v)),(21,(oP x)),(22,(oP z)),(28,(oP A)),(33,(oP B))]⟩ [(2,2,oc Z),(6,6,oc c8),(10,10,oc u),(11,11,oc v),(13,13,oc c9),(17,17,oc D),(21,21,oc x),(22,22,oc z),(24,24,oc J),(28,28,oc A),(30,30,oc M),(33,33,oc B)] (aw ?_);obtain rfl:=sI h;exact RI [JT,(.int .i64)]
def fq(p:QK):uE→Option (uE⊕QK):=fun(e,f) =>
 (if(decide (f<(p.length:Int)))=true then(if 0≤f∧f<(p.length:Int)then(((if((p.getD f.toNat 0) == 2)=true then(if(e.length+([f]:QK).length)*8≤140737488355328∧e.length+([f]:QK).length≤9223372036854775807 then some ((e++([f]:QK)))else none)
 else some (e))).bind fun j=>some (Sum.inl (j,(i64.wrap (f+1)))))else none)
 else some (Sum.inr e))
def lS(j:Qv)(f:QK):Option QK :=
 ((iter (fq f) (([]:QK),0)).bind fun e=>some e)
theorem vu(x q:Bool){A:Qv}{u v:QK}(h:lS A u=some v):
  Pure Tryz.prog 80 [.agg [.p x (.slice fF) A,.p q (.slice (.int .u8)) u]] (aL (bh false [⟨(.slice (.int .i64)),v⟩])):=by
 refine PB Tryz.func80 (fun Bw w0=>?_);unfold lS at h;refine G (G (ag (G (ak (cI h (fun(f,z)=>aA [(3,.sl 0),(7,.p q (.slice (.int .u8)) u),(8,.i64 (u.length:Int)),(9,.i64 z)] [(0,.arr 3 (.int .i64) f)] 1) 0 (fun j=>aA [(3,.sl 0)] [(0,.arr 3 (.int .i64) j)] 1) (gg [.nilS 3 56 3 (.int .i64)] [56]) (fun y o h=>?_) (fun j h=>?_))))))
 ·obtain⟨f,z⟩:=y;unfold fq at h;refine G (ag (aC h (fun B h=>?_) (fun B h=>?_)))
  ·refine ae (ab (ag (ak (GC 1 h (fun h=>G (bB h (fun e=>aA [(3,.sl 0),(7,.p q (.slice (.int .u8)) u),(8,.i64 (u.length:Int)),(9,.i64 z)] [(0,.arr 3 (.int .i64) e)] 1) (fun e h=>?_) (fun e h=>?_)))))))
   ·refine aC h (fun C h=>?_) (fun C h=>?_)
    ·refine zC 3 h (fun h=>?_);exact eN h (gg [] [89])
    exact ae (eN h (gg [] [0]))
   refine ay (ab (Ge ?_));exact eB h (gg [] [0])
  refine au (aP ?_);exact eX h (gg [] [0])
 refine av (ab (G (aw ?_)));obtain rfl:=sI h;exact RI [(.slice (.int .i64))]
def jl(q u j p e f:Int):Option (Int) :=
 (if(p == 2)=true then(if ¬f=0 then some (i64.wrap ((i64.wrap (e+f)) - (Int.tmod e f)))else none)
 else some (i64.wrap (e+j)))
theorem nw{p q u v e f j:Int}(h:jl p q u v e f=some j):
  Pure Tryz.prog 178 [.agg [.i64 p,.i64 q,.i64 u,.u8 v],.i64 e,.i64 f] (aL (bh false [⟨(.int .i64),j⟩])):=by
 refine PB Tryz.func178 (fun Bw w0=>?_);unfold jl at h;refine G (ag (G (aC h (fun x h=>?_) (fun x h=>?_))))
 ·refine GC 5 h (fun h=>aw (ai ?_));obtain rfl:=sI h;exact RI [(.int .i64)]
 refine ae (ab (G (aw ?_)));obtain rfl:=sI h;exact RI [(.int .i64)]
def lv(j p f e:Int):Option (Bool) :=
 (((if(e == 1)=true then some (true)
 else(if(e == 0)=true then some ((f == 0))
 else some (false)))).bind fun v1=>some v1)
theorem xa{p q u v:Int}{f:Bool}(h:lv p q u v=some f):
  Pure Tryz.prog 193 [.agg [.i64 p,.i64 q,.i64 u,.u8 v]] (aL (bh false [⟨.bool,f⟩])):=by
 refine PB Tryz.func193 (fun Bw w0=>?_);unfold lv at h;refine G (ag (bB h (fun v1=>aA [(2,.bo v1)] [] 0) (fun v1 h=>?_) (fun v1 h=>?_)))
 ·rcases aM h with⟨e,h⟩ | ⟨e,h⟩
  ·exact bC ⟨[(3,true),(12,true)],[]⟩ [(4,7,oc e),(11,12,oc e)] (eN h (gg [] []))
  rcases aM h with⟨j,h⟩ | ⟨j,h⟩
  ·exact bC ⟨[(3,false),(7,true),(11,true),(12,false)],[]⟩ [(4,7,an e),(8,10,an j),(11,11,oc (And.intro e j)),(12,12,oc e)] (eN h (gg [] []))
  exact bC ⟨[(3,false),(7,false),(11,false),(12,false)],[]⟩ [(4,7,an e),(8,10,oc j),(11,11,oc (And.intro e j)),(12,12,oc e)] (eN h (gg [] []))
 refine ab (aw ?_);obtain rfl:=sI h;exact RI [.bool]
def eH(j:Qv)(f:Int):(Int)→Option ((Int)⊕(Int)):=fun e =>
 (((if(decide (e > f))=true then(if 0≤(i64.wrap (e - 1))∧(i64.wrap (e - 1))<(j.length:Int)then((lv ((j.getD ((i64.wrap (e - 1)).toNat) (0,0,0,0)).1) ((j.getD ((i64.wrap (e - 1)).toNat) (0,0,0,0)).2.1) ((j.getD ((i64.wrap (e - 1)).toNat) (0,0,0,0)).2.2.1) ((j.getD ((i64.wrap (e - 1)).toNat) (0,0,0,0)).2.2.2)).bind fun p =>
 some (p))else none)
 else some (false))).bind fun q=>(if q=true then some (Sum.inl (i64.wrap (e - 1)))
 else some (Sum.inr e)))
def fS(p:Qv)(q:QK)(e f:Int):Option (Int) :=
 ((iter (eH p e) f).bind fun j=>some j)
theorem m9(j q:Bool){B:Qv}{C:QK}{e v x:Int}(h:fS B C e v=some x):
  Pure Tryz.prog 179 [.agg [.p j (.slice fF) B,.p q (.slice (.int .u8)) C],.i64 e,.i64 v] (aL (bh false [⟨(.int .i64),x⟩])):=by
 refine PB Tryz.func179 (fun Bw w0=>?_);unfold fS at h;refine G (ag (ak (cI h (fun u=>aA [(1,.i64 e),(2,.i64 u),(3,.adr 0 0 2 0)] (KE j B q C) 1) 0 (fun z=>aA [(2,.i64 z)] [] 0) (gg [] [0]) (fun u o h=>?_) (fun z h=>?_))))
 ·unfold eH at h;refine ag (ag (bB h (fun D=>aA [(1,.i64 e),(2,.i64 u),(3,.adr 0 0 2 0),(18,.bo D)] (KE j B q C) 1) (fun D h=>?_) (fun D h=>?_)))
  ·rcases aM h with⟨f,h⟩ | ⟨f,h⟩
   ·obtain⟨I,h⟩:=aE h;obtain⟨L,J,h⟩:=aj h;have A:=(xa J);exact bC ⟨[(3,true),(11,true)],[(10,(oP A))]⟩ [(4,7,an f),(8,8,oc (And.intro f I)),(9,9,an f),(10,10,oc (And.intro f A)),(11,11,oc f)] (eN h (gg [] [0]))
   exact bC ⟨[(3,false),(11,false)],[]⟩ [(4,11,oc f)] (eN h (gg [] [0]))
  refine ab (aC h (fun E h=>?_) (fun E h=>?_))
  ·refine ae (ab (ak (Ge (ay ?_))));exact eB h (gg [] [0])
  refine au (aP ?_);exact eX h (gg [] [])
 refine av (ab (G (aw ?_)));obtain rfl:=sI h;exact RI [(.int .i64)]
def kG(j:Qv)(f:QK)(e:Int):Option (Int×Bool) :=
 (if 0≤e∧e<(f.length:Int)then(if 0≤e∧e<(f.length:Int)then some ((f.getD e.toNat 0),((f.getD e.toNat 0) != 0))else none)else none)
theorem qN(j q:Bool){u:Qv}{v:QK}{f:Int}{e:Int×Bool}(h:kG u v f=some e):
  Pure Tryz.prog 180 [.agg [.p j (.slice fF) u,.p q (.slice (.int .u8)) v],.i64 f] (aL (bh false [⟨(.int .u8),e.1⟩,⟨.bool,e.2⟩])):=by
 refine PB Tryz.func180 (fun Bw w0=>?_);unfold kG at h;refine G ?_;obtain⟨x,z,h⟩:=g2 h;refine GD a0 [(3,3,oc x),(8,8,oc z)] (aw ?_);obtain rfl:=sI h;exact RI [(.int .u8),.bool]
def rB(e f:Int):Option QJ :=
 some (bW .quo (ofInt e) (ofInt f))
theorem AP{e f:Int}{j:QJ}(h:rB e f=some j):
  Pure Tryz.prog 194 [.i64 e,.i64 f] (aL (bh false [⟨.flt,j⟩])):=by
 refine PB Tryz.func194 (fun Bw w0=>?_);unfold rB at h;refine G (G (aw ?_));obtain rfl:=sI h;exact RI [.flt]
def nc(f e:QJ):Option (Bool) :=
 some (!(Lv f e))
theorem xh{j e:QJ}{f:Bool}(h:nc j e=some f):
  Pure Tryz.prog 195 [.p false .flt j,.p false .flt e] (aL (bh false [⟨.bool,f⟩])):=by
 refine PB Tryz.func195 (fun Bw w0=>?_);unfold nc at h;refine G (G (aw ?_));obtain rfl:=sI h;exact RI [.bool]
def ng(e:QJ):Option (Bool) :=
 some (!(Jj e e))
theorem xA{f:QJ}{e:Bool}(h:ng f=some e):
  Pure Tryz.prog 205 [.p false .flt f] (aL (bh false [⟨.bool,e⟩])):=by
 refine PB Tryz.func205 (fun Bw w0=>?_);unfold ng at h;refine G (G (aw ?_));obtain rfl:=sI h;exact RI [.bool]
def vA(e:QJ):Option QJ:=some (vM e)
theorem vb(b:Nat)(w:World):
  Calls Tryz.prog 206 #[.float .f64 b] w fun e f=>e = .returned (.float .f64 (b % 9223372036854775808))∧f=w:=by
 have j:∀w,(callFunc 207 #[.float .f64 b]).run Tryz.prog w = .ok (.value (.int .u64 b)) w:=fun w=>by rw[run_callFunc_extern (fn:=Tryz.f207) (e:=Extern.MathFloatBits.float64bits) Tryz.func207 (by kernel_rfl) rfl (by kernel_rfl) (by kernel_rfl)];rfl
 have p:∀(n:Int) w,(callFunc 210 #[.int .u64 n]).run Tryz.prog w = .ok (.value (.float .f64 n.toNat)) w:=fun n w=>by rw[run_callFunc_extern (fn:=Tryz.f210) (e:=Extern.MathFloatBits.float64frombits) Tryz.func210 (by kernel_rfl) rfl (by kernel_rfl) (by kernel_rfl)];rfl
 go_enter Tryz.func206,Tryz.ntmps206;go_wp2
 go_ret
 exact⟨by rw[←Hg];rfl,rfl⟩
theorem AV{f e:QJ}(h:vA f=some e):
  Pure Tryz.prog 206 [.p false .flt f] (aL (bh false [⟨.flt,e⟩])):=by
 obtain rfl:=sI h;exact Pure.JA Tryz.func206 (by kernel_rfl) rfl (fun b w=>vb b w)
def gX(f:QJ):Option (Int) :=
 ((ng f).bind fun j =>
 (if j=true then some 0
 else((vA f).bind fun e =>
 (if(!(JQ (bW .mul (bW .mul (bW .mul (eA 4636737291354636288) e) e) e) (eA 4666723172467343360)))=true then some 10000
 else(if(n6 (bW .mul (bW .mul (bW .mul (eA 4636737291354636288) e) e) e)).isSome=true∧i64.min≤(n6 (bW .mul (bW .mul (bW .mul (eA 4636737291354636288) e) e) e)).getD 0∧(n6 (bW .mul (bW .mul (bW .mul (eA 4636737291354636288) e) e) e)).getD 0≤i64.max then some ((n6 (bW .mul (bW .mul (bW .mul (eA 4636737291354636288) e) e) e)).getD 0)else none)))))
theorem sv{f:QJ}{e:Int}(h:gX f=some e):
  Pure Tryz.prog 196 [.p false .flt f] (aL (bh false [⟨(.int .i64),e⟩])):=by
 refine PB Tryz.func196 (fun Bw w0=>?_);unfold gX at h;refine G (ag ?_);obtain⟨x,j,h⟩:=aj h;refine GP 1 (xA j) (aC h (fun q h=>?_) (fun q h=>?_))
 ·refine G (aw (ai ?_));obtain rfl:=sI h;exact RI [(.int .i64)]
 refine ae (ab ?_);obtain⟨z,u,h⟩:=aj h;refine GP 1 (AV u) (G (ag (G (aC h (fun v h=>?_) (fun v h=>?_)))))
 ·refine G (aw (ai ?_));obtain rfl:=sI h;exact RI [(.int .i64)]
 refine ae (ab (GC 1 h (fun h=>aw ?_)));obtain rfl:=sI h;exact RI [(.int .i64)]
def eW(N:Qv)(B:QK)(f u C j:Int)(p:Bool)(D O V E I:Int)(J:QJ):Option (Int×Bool) :=
 (if(decide (C > D))=true then some (0,false)
 else(((if(!p)=true then((rB (i64.wrap (D - C)) j).bind fun v =>
 ((nc v J).bind fun x =>
 (if(!x)=true then some ((Sum.inr (0,false)))
 else((gX v).bind fun z =>
 some ((Sum.inl z))))))
 else some ((Sum.inl 0)))).bind fun(A:((Int)⊕(Int×Bool)))=>match A with
 | .inl e=>(((if(u == 3)=true then(if 0≤f∧f<(B.length:Int)then(if((B.getD f.toNat 0) == 3)=true then some ((i64.wrap ((i64.wrap ((i64.wrap ((i64.wrap (10+e))*(i64.wrap (10+e))))+E))+I)))
 else some ((i64.wrap ((i64.wrap ((i64.wrap (10+e))*(i64.wrap (10+e))))+E))))else none)
 else some ((i64.wrap ((i64.wrap (10+e))*(i64.wrap (10+e))))))).bind fun q=>some (q,true))
 | .inr ((L,M))=>some (L,M)))
theorem wM(A B:Bool){D:Qv}{E:QK}{f q Z u:Int}{v:Bool}{I J L M N:Int}{O:QJ}{z:Int×Bool}(h:eW D E f q Z u v I J L M N O=some z):
  Pure Tryz.prog 181 [.agg [.p A (.slice fF) D,.p B (.slice (.int .u8)) E],.i64 f,.u8 q,.i64 Z,.i64 u,.bo v,.agg [.i64 I,.i64 J,.u8 L,.i64 M,.i64 N,.p false .flt O]] (aL (bh false [⟨(.int .i64),z.1⟩,⟨.bool,z.2⟩])):=by
 refine PB Tryz.func181 (fun Bw w0=>?_);unfold eW at h;refine G (ag (G (aC h (fun B1 h=>?_) (fun B1 h=>?_))))
 ·refine G (aw (ai ?_));obtain rfl:=sI h;exact RI [(.int .i64),.bool]
 refine ae (ab (G (ag (G (C1 h (dz (nV Tryz.f181.ntmps (fun x=>aA [(1,.i64 f),(2,.u8 q),(7,.adr 0 0 2 0),(13,.adr 1 0 6 0),(16,.i64 x)] (K3 A D B E I J L M N O) 2)) (gv tb Tryz.f181.results.toList (fun(r7,r8)=>[⟨(.int .i64),r7⟩,⟨.bool,r8⟩]))) (fun C h=>?_) (fun C h e σ' hq=>?_))))))
 ·refine aC h (fun B4 h=>?_) (fun B4 h=>?_)
  ·obtain⟨a1,q8,h⟩:=aj h;refine GP 5 (AP q8) (ag ?_);obtain⟨a2,V,h⟩:=aj h;refine GP 3 (xh V) (aC h (fun B5 h=>?_) (fun B5 h=>?_))
   ·refine G (aw ?_);obtain rfl:=sI h;refine ai (aK ?_);exact bK (RI [(.int .i64),.bool])
   refine ae (ab ?_);obtain⟨a3,X,h⟩:=aj h;refine LB 1 (sv X) ?_;obtain rfl:=sI h;exact bk (cN (gg [] [0,8]))
  refine ae ?_;obtain rfl:=sI h;exact bk (cN (gg [] [0,8]))
 rcases C with x | ⟨r7,r8⟩
 ·obtain⟨rfl,Y⟩:=hq;refine cJ ?_ Y;refine ab (G (ag (G (bB h (fun j=>aA [(18,.i64 j)] [] 0) (fun j h=>?_) (fun j h=>?_)))))
  ·refine aC h (fun B8 h=>?_) (fun B8 h=>?_)
   ·refine G (GC 3 h (fun h=>aC h (fun B9 h=>?_) (fun B9 h=>?_)))
    ·exact Ge (eN h (gg [] []))
    exact ae (eN h (gg [] []))
   exact ae (eN h (gg [] []))
  refine ab (G (aw ?_));obtain rfl:=sI h;exact RI [(.int .i64),.bool]
 obtain⟨rfl,hr⟩:=hq;refine ai ?_;obtain rfl:=sI h;exact hr
def eS(p:Qv)(D:QK)(i1 x E:Int)(C:Qq)(x4 x5 x6 x7 x8:Int)(x9:QJ):(Int×Int×Int×Int×Int×Int×Int)→Option ((Int×Int×Int×Int×Int×Int×Int)⊕(Int×Int)):=fun(e,f,I,J,z,L,v30) =>
 (if(decide (v30≤E))=true then(if 0≤(i64.wrap (v30 - 1))∧(i64.wrap (v30 - 1))<(p.length:Int)then((jl ((p.getD ((i64.wrap (v30 - 1)).toNat) (0,0,0,0)).1) ((p.getD ((i64.wrap (v30 - 1)).toNat) (0,0,0,0)).2.1) ((p.getD ((i64.wrap (v30 - 1)).toNat) (0,0,0,0)).2.2.1) ((p.getD ((i64.wrap (v30 - 1)).toNat) (0,0,0,0)).2.2.2) I x5).bind fun q =>
 (((if(((p.getD ((i64.wrap (v30 - 1)).toNat) (0,0,0,0)).2.2.2) == 1)=true then some ((i64.wrap (z+1)))
 else some (z))).bind fun u=>((fS p D (i64.wrap (v30 - 1)) v30).bind fun M =>
 (((if(M == v30)=true then some ((q,u))
 else some ((J,L)))).bind fun(j,v)=>(if(decide (j > x4))=true then some (Sum.inr (e,f))
 else((kG p D v30).bind fun(A,N) =>
 (if 0≤(i64.wrap (v30 - x))∧(i64.wrap (v30 - x))<(C.length:Int)then(((if(!N)=true then some (true)
 else(if(decide (v30<E))=true then some ((decide (((C.getD ((i64.wrap (v30 - x)).toNat) (0,0)).2)<0)))
 else some (false)))).bind fun O=>(if O=true then some (Sum.inl (e,f,q,j,u,v,(i64.wrap (v30+1))))
 else(((if(A == 3)=true then some ((i64.wrap (j+1)))
 else some (j))).bind fun V=>((eW p D i1 A V v (v30 == E) x4 x5 x6 x7 x8 x9).bind fun(B,X) =>
 (((if X=true then(if(decide (f<0))=true then some (true)
 else some ((decide ((i64.wrap (B+((C.getD ((i64.wrap (v30 - x)).toNat) (0,0)).1)))<e))))
 else some (false))).bind fun Y=>(((if Y=true then some (((i64.wrap (B+((C.getD ((i64.wrap (v30 - x)).toNat) (0,0)).1))),v30))
 else some ((e,f)))).bind fun(Z,a1)=>some (Sum.inl (Z,a1,q,j,u,v,(i64.wrap (v30+1))))))))))else none)))))))else none)
 else some (Sum.inr (e,f)))
def mM(p:Qv)(q:QK)(j u v:Int)(x:Qq)(z A B C D:Int)(E:QJ):Option (Int×Int) :=
 ((iter (eS p q j u v x z A B C D E) (0,(-1:Int),0,0,0,0,(i64.wrap (j+1)))).bind fun(e,f)=>some (e,f))
theorem zA(e f u:Bool){L:Qv}{M:QK}{N x O:Int}{z:Qq}{V X Y Z x8:Int}{x9:QJ}{a6:Int×Int}(h:mM L M N x O z V X Y Z x8 x9=some a6):
  Pure Tryz.prog 155 [.agg [.p e (.slice fF) L,.p f (.slice (.int .u8)) M],.i64 N,.i64 x,.i64 O,.p u (.slice Y2) z,.agg [.i64 V,.i64 X,.u8 Y,.i64 Z,.i64 x8,.p false .flt x9]] (aL (bh false [⟨Y2,a6⟩])):=by
 refine PB Tryz.func155 (fun Bw w0=>?_);unfold mM at h;refine G (G (G (ag (G (ak (cI h (fun(A,B,a7,a1,a8,a2,v30)=>aA [(1,.i64 N),(2,.i64 x),(3,.i64 O),(4,.p u (.slice Y2) z),(6,.adr 0 0 2 0),(11,.adr 1 0 6 0),(12,.adr 2 0 2 0),(13,.adr 3 0 2 0),(14,.i64 a7),(15,.i64 a1),(16,.i64 a8),(17,.i64 a2),(18,.i64 v30)] (H5 e L f M V X Y Z x8 x9 0 (0:Int) A B) 4) 0 (fun(a9,aa)=>aA [(12,.adr 0 0 2 0),(13,.adr 1 0 2 0)] (Md 0 (0:Int) a9 aa) 2) (gg [] [0,8,16,32]) (fun y o h=>?_) (fun b3 h=>?_)))))))
 ·obtain⟨A,B,a7,a1,a8,a2,v30⟩:=y;unfold eS at h;refine ag (G (aC h (fun b4 h=>?_) (fun b4 h=>?_)))
  ·refine ae (ab (ag (ak (GC 4 h (fun h=>?_)))));obtain⟨C,b5,h⟩:=aj h;refine GP 4 (nw b5) (ag (G (bB h (fun v=>aA [(1,.i64 N),(2,.i64 x),(3,.i64 O),(4,.p u (.slice Y2) z),(6,.adr 0 0 2 0),(11,.adr 1 0 6 0),(12,.adr 2 0 2 0),(13,.adr 3 0 2 0),(14,.i64 C),(15,.i64 a1),(16,.i64 v),(17,.i64 a2),(18,.i64 v30)] (H5 e L f M V X Y Z x8 x9 0 (0:Int) A B) 4) (fun v h=>?_) (fun v h=>?_))))
   ·refine aC h (fun b6 h=>?_) (fun b6 h=>?_)
    ·exact Ge (eN h (gg [] [0,1,2,3]))
    exact ae (eN h (gg [] [0,1,2,3]))
   refine ab (ag ?_);obtain⟨c2,b7,h⟩:=aj h;refine GP 4 (m9 e f b7) (bB h (fun(D,E)=>aA [(1,.i64 N),(2,.i64 x),(3,.i64 O),(4,.p u (.slice Y2) z),(6,.adr 0 0 2 0),(11,.adr 1 0 6 0),(12,.adr 2 0 2 0),(13,.adr 3 0 2 0),(14,.i64 C),(15,.i64 D),(16,.i64 v),(17,.i64 E),(18,.i64 v30)] (H5 e L f M V X Y Z x8 x9 0 (0:Int) A B) 4) (fun ac h=>?_) (fun ac h=>?_))
   ·refine aC h (fun b8 h=>?_) (fun b8 h=>?_)
    ·exact Ge (eN h (gg [] [0,1,2,3]))
    exact ae (eN h (gg [] [0,1,2,3]))
   obtain⟨D,E⟩:=ac;refine ab (ag (G (aC h (fun b9 h=>?_) (fun b9 h=>?_))))
   ·refine au (aP (jv rfl (aP ?_)));exact eX h (gg [] [2,3])
   refine ae (ab ?_);obtain⟨⟨ad,c3⟩,be,h⟩:=aj h;refine GP 2 (qN e f be) (GC 4 h (fun h=>ag (ag (bB h (fun a3=>aA [(1,.i64 N),(2,.i64 x),(3,.i64 O),(4,.p u (.slice Y2) z),(6,.adr 0 0 2 0),(11,.adr 1 0 6 0),(12,.adr 2 0 2 0),(13,.adr 3 0 2 0),(14,.i64 C),(15,.i64 D),(16,.i64 v),(17,.i64 E),(18,.i64 v30),(20,.u8 ad),(22,.adr 4 0 2 0),(86,.bo a3)] (JJ e L f M V X Y Z x8 x9 0 (0:Int) A B ((z.getD ((i64.wrap (v30 - x)).toNat) (0,0)).1) ((z.getD ((i64.wrap (v30 - x)).toNat) (0,0)).2)) 5) (fun a3 h=>?_) (fun a3 h=>?_)))))
   ·rcases aM h with⟨j,h⟩ | ⟨j,h⟩
    ·exact bC ⟨[(2,true),(11,true)],[]⟩ [(3,6,oc j),(10,11,oc j)] (eN h (gg [] [0,1,2,3,148]))
    rcases aM h with⟨I,h⟩ | ⟨I,h⟩
    ·exact bC ⟨[(2,false),(6,true),(10,true),(11,false)],[]⟩ [(3,6,an j),(7,9,an I),(10,10,oc (And.intro j I)),(11,11,oc j)] (eN h (gg [] [0,1,2,3,148]))
    exact bC ⟨[(2,false),(6,false),(10,false),(11,false)],[]⟩ [(3,6,an j),(7,9,oc I),(10,10,oc (And.intro j I)),(11,11,oc j)] (eN h (gg [] [0,1,2,3,148]))
   refine ab (aC h (fun bi h=>?_) (fun bi h=>?_))
   ·refine au (aP (av (ab (Ge ?_))));exact eB h (gg [] [0,1,2,3])
   refine ae (ab (G (ag (G (bB h (fun a4=>aA [(1,.i64 N),(2,.i64 x),(3,.i64 O),(4,.p u (.slice Y2) z),(6,.adr 0 0 2 0),(11,.adr 1 0 6 0),(12,.adr 2 0 2 0),(13,.adr 3 0 2 0),(14,.i64 C),(15,.i64 D),(16,.i64 v),(17,.i64 E),(18,.i64 v30),(20,.u8 ad),(22,.adr 4 0 2 0),(23,.i64 a4)] (JJ e L f M V X Y Z x8 x9 0 (0:Int) A B ((z.getD ((i64.wrap (v30 - x)).toNat) (0,0)).1) ((z.getD ((i64.wrap (v30 - x)).toNat) (0,0)).2)) 5) (fun a4 h=>?_) (fun a4 h=>?_))))))
   ·refine aC h (fun bs h=>?_) (fun bs h=>?_)
    ·exact Ge (eN h (gg [] [0,1,2,3,4]))
    exact ae (eN h (gg [] [0,1,2,3,4]))
   refine ab ?_;obtain⟨⟨bv,c4⟩,bx,h⟩:=aj h;refine GP 9 (wM e f bx) (ag (bB h (fun a5=>aA [(1,.i64 N),(2,.i64 x),(3,.i64 O),(4,.p u (.slice Y2) z),(6,.adr 0 0 2 0),(11,.adr 1 0 6 0),(12,.adr 2 0 2 0),(13,.adr 3 0 2 0),(14,.i64 C),(15,.i64 D),(16,.i64 v),(17,.i64 E),(18,.i64 v30),(22,.adr 4 0 2 0),(24,.i64 bv),(119,.bo a5)] (JJ e L f M V X Y Z x8 x9 0 (0:Int) A B ((z.getD ((i64.wrap (v30 - x)).toNat) (0,0)).1) ((z.getD ((i64.wrap (v30 - x)).toNat) (0,0)).2)) 5) (fun a5 h=>?_) (fun a5 h=>?_)))
   ·rcases aM h with⟨q,h⟩ | ⟨q,h⟩
    ·rcases aM h with⟨J,h⟩ | ⟨J,h⟩
     ·exact bC ⟨[(1,true),(5,true),(13,true),(14,true)],[]⟩ [(2,5,an q),(6,12,oc J),(13,13,oc (And.intro q J)),(14,14,oc q)] (eN h (gg [] [0,1,2,3,4]))
     exact bC ⟨[(1,true),(5,false),(13,false),(14,true)],[]⟩ [(2,5,an q),(6,12,an J),(13,13,oc (And.intro q J)),(14,14,oc q)] (eN h (gg [] [0,1,2,3,4]))
    exact bC ⟨[(1,false),(14,false)],[]⟩ [(2,5,oc q),(13,14,oc q)] (eN h (gg [] [0,1,2,3,4]))
   refine ab (bB h (fun(ax,b1)=>aA [(1,.i64 N),(2,.i64 x),(3,.i64 O),(4,.p u (.slice Y2) z),(6,.adr 0 0 2 0),(11,.adr 1 0 6 0),(12,.adr 2 0 2 0),(13,.adr 3 0 2 0),(14,.i64 C),(15,.i64 D),(16,.i64 v),(17,.i64 E),(18,.i64 v30)] (H5 e L f M V X Y Z x8 x9 0 (0:Int) ax b1) 4) (fun b2 h=>?_) (fun b2 h=>?_))
   ·refine aC h (fun c1 h=>?_) (fun c1 h=>?_)
    ·exact Ge (eN h (gg [] [0,1,2,3]))
    exact ae (eN h (gg [] [0,1,2,3]))
   obtain⟨ax,b1⟩:=b2;refine ay (ab (Ge ?_));exact eB h (gg [] [0,1,2,3])
  refine au (aP ?_);exact eX h (gg [] [2,3])
 obtain⟨a9,aa⟩:=b3;refine av (ab (G (aw ?_)));obtain rfl:=sI h;exact RI [Y2]
end
end Go.Proofs.YtflahpmlcfhpcaaGreatDoor.T
