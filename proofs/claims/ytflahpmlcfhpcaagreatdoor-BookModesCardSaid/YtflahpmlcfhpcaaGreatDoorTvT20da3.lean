import Derived.Test.YtflahpmlcfhpcaaGreatDoorTvT20d0
import Derived.Test.YtflahpmlcfhpcaaGreatDoorTvT20da2
namespace Go.Proofs.YtflahpmlcfhpcaaGreatDoor.T
open Go Go.Tv Go.Proofs
open Go.IntKind (i32 i64 u32 u64)
noncomputable section
set_option maxRecDepth 100000
set_option maxHeartbeats 4000000
def hU(f:XK):(Int)→Option ((Int)⊕(Int)):=fun e =>
 (((if(decide (e<(f.length:Int)))=true then(if 0≤e∧e<(f.length:Int)then((jj ((f.getD e.toNat (0,0,0)).1)).bind fun j =>
 some ((!j)))else none)
 else some (false))).bind fun v30=>(if v30=true then some (Sum.inl (i64.wrap (e+1)))
 else some (Sum.inr e)))
def pI(q:XK):((List Z8)×(List Z8)×Int)→Option (((List Z8)×(List Z8)×Int)⊕(((List Z8)×List Z8)⊕(((List Z8)×List Z8)×Int×Int))):=fun(v20,j,e) =>
 (if(decide (e<(q.length:Int)))=true then(if 0≤e∧e<(q.length:Int)then((jj ((q.getD e.toNat (0,0,0)).1)).bind fun u =>
 (if u=true then some (Sum.inl (v20,j,(i64.wrap (e+1))))
 else((iter (hU q) e).bind fun p=>(if 0≤e∧e<(q.length:Int)then(if(decide ((i64.wrap ((v20.length:Int)+(j.length:Int)))≥256))=true then some (Sum.inr (Sum.inr ((([]:List Z8),([]:List Z8)),24,(q.getD e.toNat (0,0,0)).2.1)))
 else(if 0≤e∧e≤p∧p≤p∧p≤(q.length:Int)then((rK ((q.take p.toNat).drop e.toNat)).bind fun(f,v) =>
 (if(!v)=true then some (Sum.inr (Sum.inr ((([]:List Z8),([]:List Z8)),30,(q.getD e.toNat (0,0,0)).2.1)))
 else((gY ((q.take p.toNat).drop e.toNat)).bind fun x =>
 (((if(!x)=true then(if(v20.length+([(f.1,f.2)]:List Z8).length)*48≤140737488355328∧v20.length+([(f.1,f.2)]:List Z8).length≤9223372036854775807 then some ((Sum.inl ((v20++([(f.1,f.2)]:List Z8)),j)))else none)
 else((lL j f.1 f.2).bind fun z =>
 (if z=true then some ((Sum.inr ((([]:List Z8),([]:List Z8)),23,(q.getD e.toNat (0,0,0)).2.1)))
 else(if(j.length+([(f.1,f.2)]:List Z8).length)*48≤140737488355328∧j.length+([(f.1,f.2)]:List Z8).length≤9223372036854775807 then some ((Sum.inl (v20,(j++([(f.1,f.2)]:List Z8)))))else none))))).bind fun(A:(((List Z8)×List Z8)⊕(((List Z8)×List Z8)×Int×Int)))=>match A with
 | .inl (B,C)=>some (Sum.inl (B,C,p))
 | .inr ((D,E))=>some (Sum.inr (Sum.inr (D,E)))))))else none))else none))))else none)
 else some (Sum.inr (Sum.inl (v20,j))))
def nM(u:QX):Option (((List Z8)×List Z8)×Int×Int) :=
 (if(decide ((u.length:Int) > 4096))=true then some ((([]:List Z8),([]:List Z8)),24,4096)
 else((mA (bZ u)).bind fun v =>
 ((iter (pI v) (([]:List Z8),([]:List Z8),0)).bind fun(e:(((List Z8)×List Z8)⊕(((List Z8)×List Z8)×Int×Int)))=>match e with
 | .inl (f,j)=>some ((f,j),0,0)
 | .inr ((p,q))=>some (p,q))))
theorem xk{d1:QX}{v:((List Z8)×List Z8)×Int×Int}(h:nM d1=some v):
  Pure Tryz.prog 55 [.st d1] (aK (bf false [⟨Ib,v.1⟩,⟨Y2,v.2⟩])):=by
 refine PB Tryz.func55 (fun Bw w0=>?_);unfold nM at h;refine G (G (ag (G (aC h (fun B1 h=>?_) (fun B1 h=>?_)))))
 ·refine G (av (ai ?_));obtain rfl:=sI h;exact RI [Ib,Y2]
 refine ae (ab ?_);obtain⟨B,q2,h⟩:=aj h;refine GP 2 (tg false q2) (ag (G (ak (kr h (fun(v20,j,q)=>aA [(2,.adr 0 0 2 0),(3,.adr 1 0 2 0),(4,.adr 2 0 2 0),(5,.p false (.slice (.prod (.int .i32) Y2)) B),(6,.i64 q)] (EU 0 (0:Int) v20 j) 5) (dx (fg Tryz.f55.ntmps 0 (fun(C,D)=>aA [(2,.adr 0 0 2 0),(3,.adr 1 0 2 0),(4,.adr 2 0 2 0)] (EU 0 (0:Int) C D) 5)) (gm tb Tryz.f55.results.toList (fun(E,I)=>[⟨Ib,E⟩,⟨Y2,I⟩]))) (gg [.nilC 16 0 88 210 qt,.nilC 16 1 89 210 qt] [0,8,16,88,89]) (fun y o h=>?_) (fun X h e σ' J=>?_)))))
 ·obtain⟨v20,j,q⟩:=y;unfold pI at h;refine ag (G (aC h (fun Y h=>?_) (fun Y h=>?_)))
  ·refine ae (ab (ak (ag ?_)));obtain⟨Z,h⟩:=aE h;obtain⟨ax,a1,h⟩:=aj h;have u:=(pQ a1);refine GN ⟨[],[(5,(oP u))]⟩ [(2,2,oc Z),(5,5,oc u)] (aC h (fun a2 h=>?_) (fun a2 h=>?_))
   ·refine G (au (aP (aw ?_)));exact eB h (gg [] [0,1,2,3,4])
   refine ae (ab (G (ag (ak (cC h (fun x=>aA [(2,.adr 0 0 2 0),(3,.adr 1 0 2 0),(4,.adr 2 0 2 0),(5,.p false (.slice (.prod (.int .i32) Y2)) B),(6,.i64 q),(7,.i64 x)] (EU 0 (0:Int) v20 j) 5) 2 (fun z=>aA [(2,.adr 0 0 2 0),(3,.adr 1 0 2 0),(4,.adr 2 0 2 0),(5,.p false (.slice (.prod (.int .i32) Y2)) B),(6,.i64 q),(7,.i64 z)] (EU 0 (0:Int) v20 j) 5) (gg [] [0,1,2,3,4]) (fun x o h=>?_) (fun z h=>?_))))))
   ·unfold hU at h;refine ag (ag (bA h (fun v30=>aA [(2,.adr 0 0 2 0),(3,.adr 1 0 2 0),(4,.adr 2 0 2 0),(5,.p false (.slice (.prod (.int .i32) Y2)) B),(6,.i64 q),(7,.i64 x),(45,.bo v30)] (EU 0 (0:Int) v20 j) 5) (fun v30 h=>?_) (fun v30 h=>?_)))
    ·rcases aM h with⟨f,h⟩ | ⟨f,h⟩
     ·obtain⟨a3,h⟩:=aE h;obtain⟨b1,a4,h⟩:=aj h;have u:=(pQ a4);exact bB ⟨[(4,true),(12,true)],[(10,(oP u))]⟩ [(5,6,an f),(7,7,oc (And.intro f a3)),(8,9,an f),(10,10,oc (And.intro f u)),(11,11,an f),(12,12,oc f)] (eN h (gg [] [0,1,2,3,4]))
     exact bB ⟨[(4,false),(12,false)],[]⟩ [(5,12,oc f)] (eN h (gg [] [0,1,2,3,4]))
    refine ab (aC h (fun a5 h=>?_) (fun a5 h=>?_))
    ·refine ae (ab (ak (Ge (ay ?_))));exact eB h (gg [] [0,1,2,3,4])
    refine au (aP ?_);exact eX h (gg [] [0,1,2,3,4])
   refine aw (ab (GC 2 h (fun h=>ag (G (aC h (fun a6 h=>?_) (fun a6 h=>?_))))))
   ·refine G (av ?_);obtain rfl:=sI h;refine ai (az (bL (aL ?_)));exact bK (RI [Ib,Y2])
   refine ae (ab (GC 4 h (fun h=>?_)));obtain⟨⟨b2,b3⟩,a7,h⟩:=aj h;refine GP 1 (Ac false a7) (ag (ak (G (aC h (fun a8 h=>?_) (fun a8 h=>?_)))))
   ·refine G (av ?_);obtain rfl:=sI h;refine az (ai (az (bL (aL ?_))));exact bK (RI [Ib,Y2])
   obtain⟨b4,a9,h⟩:=aj h;refine GP 1 (mN false a9) (Cs h (dx (nV Tryz.f55.ntmps (fun(L,M)=>aA [(2,.adr 0 0 2 0),(3,.adr 1 0 2 0),(4,.adr 2 0 2 0),(5,.p false (.slice (.prod (.int .i32) Y2)) B),(7,.i64 z)] (EU 0 (0:Int) L M) 5)) (gm tb Tryz.f55.results.toList (fun(N,O)=>[⟨Ib,N⟩,⟨Y2,O⟩]))) (fun V h=>?_) (fun V h e σ' J=>?_))
   ·refine aC h (fun aa h=>?_) (fun aa h=>?_)
    ·refine zw 4 h (fun h=>?_);obtain rfl:=sI h;exact bk (cR (gg [] [0,1,2,317,4]))
    obtain⟨b5,ac,h⟩:=aj h;refine GP 3 (vw true false false ac) (aC h (fun ad h=>?_) (fun ad h=>?_))
    ·refine G (av ?_);obtain rfl:=sI h;exact aL (bK (RI [Ib,Y2]))
    refine zw 4 h (fun h=>?_);obtain rfl:=sI h;exact bk (cR (gg [] [0,1,2,3,357]))
   rcases V with⟨L,M⟩ | ⟨N,O⟩
   ·obtain⟨rfl,A⟩:=J;refine cJ ?_ A;refine ay (ab (Ge (ay ?_)));exact eB h (gg [] [0,1,2,3,4])
   obtain⟨rfl,hr⟩:=J;obtain rfl:=sI h;refine az (ai (az (bL (aL ?_))));exact bK hr
  refine au (aP ?_);obtain rfl:=sI h;refine dK (bk ?_);exact bT (gg [] [0,1,2,3,4])
 rcases X with⟨C,D⟩ | ⟨E,I⟩
 ·obtain⟨rfl,A⟩:=J;refine cJ ?_ A;refine aw (ab (G (lE [.frzC 0 0,.frzC 0 1] (by kernel_rfl) (av ?_))));obtain rfl:=sI h;exact RI [Ib,Y2]
 obtain⟨rfl,hr⟩:=J;refine az (ai ?_);obtain rfl:=sI h;exact hr
def so(f:XK):Option XK:=(if f.isEmpty=true then some []else(if(([]:XK).length+f.length)*16≤140737488355328∧([]:XK).length+f.length≤9223372036854775807 then some (([]:XK)++f)else none))
theorem yW(q:Bool){f j:XK}(h:so f=some j):
  Pure Tryz.prog 56 [.p q (.slice (.prod (.int .i32) Y1)) f] (aK (bf false [⟨(.slice (.prod (.int .i32) Y1)),j⟩])):=by
 refine PB Tryz.func56 (fun Bw w0=>?_);unfold so at h;refine G (ag (JZ iR (d:=3) (e:=4) (A:=(.prod (.int .i32) Y1)) (xs:=f) (el:=115) (β:=q) rfl rfl rfl rfl rfl (by kernel_rfl) (by kernel_rfl) (by kernel_rfl) (fun b hb=>?_)));cases b with
 | true =>
  obtain rfl:=hb rfl;obtain rfl:=sI h;exact yv rfl (G (av (ai (RI [(.slice (.prod (.int .i32) Y1))]))))
 | false =>
  replace h:(if(([]:XK).length+f.length)*16≤140737488355328∧([]:XK).length+f.length≤9223372036854775807 then some (([]:XK)++f)else none)=some j:=by cases f <;> simpa using h
  refine Iw rfl (ae (ab (GC 2 h (fun h=>av ?_))));obtain rfl:=sI h;exact RI [(.slice (.prod (.int .i32) Y1))]
def kH(u:List Z8)(q:Int):((List Nd)×Int×Int)→Option (((List Nd)×Int×Int)⊕((List Nd)×Int)):=fun(f,e,p) =>
 (if(decide (p<(((u.getD q.toNat ([],([]:QK))).1).length:Int)))=true then(if 0≤p∧p<(((u.getD q.toNat ([],([]:QK))).1).length:Int)then(if e.toNat<f.length then(if 0≤e∧e<(f.length:Int)then(((if(!((bg (α:=Int) (.int .i32) ((f.getD e.toNat Nd.z).2.1) (((u.getD q.toNat ([],([]:QK))).1).getD p.toNat 0)).isSome))=true then(if e.toNat<(jb f e.toNat).length then(if 0≤e∧e<((jb f e.toNat).length:Int)then(((if(!(((jb f e.toNat).getD e.toNat Nd.z).1))=true then(if 0≤e∧e<((jb (jb f e.toNat) e.toNat).length:Int)then(if e.toNat<(jb (jb f e.toNat) e.toNat).length then some (((jb (jb f e.toNat) e.toNat).set e.toNat (true,([]:Qq),((jb (jb f e.toNat) e.toNat).getD e.toNat Nd.z).2.2)))else none)else none)
 else some ((jb (jb f e.toNat) e.toNat)))).bind fun j=>(if e.toNat<j.length then(if 0≤e∧e<(j.length:Int)then(if(j.getD e.toNat Nd.z).1=true then(if((j.set e.toNat (true,(cI (α:=Int) (.int .i32) ((j.getD e.toNat Nd.z).2.1) (((u.getD q.toNat ([],([]:QK))).1).getD p.toNat 0) ((jb f e.toNat).length:Int)),(j.getD e.toNat Nd.z).2.2)).length+1)*32≤140737488355328∧(j.set e.toNat (true,(cI (α:=Int) (.int .i32) ((j.getD e.toNat Nd.z).2.1) (((u.getD q.toNat ([],([]:QK))).1).getD p.toNat 0) ((jb f e.toNat).length:Int)),(j.getD e.toNat Nd.z).2.2)).length+1≤9223372036854775807 then some ((((j.set e.toNat (true,(cI (α:=Int) (.int .i32) ((j.getD e.toNat Nd.z).2.1) (((u.getD q.toNat ([],([]:QK))).1).getD p.toNat 0) ((jb f e.toNat).length:Int)),(j.getD e.toNat Nd.z).2.2))++[Nd.z]),((jb f e.toNat).length:Int)))else none)else none)else none)else none))else none)else none)
 else some (((jb f e.toNat),((bg (α:=Int) (.int .i32) ((f.getD e.toNat Nd.z).2.1) (((u.getD q.toNat ([],([]:QK))).1).getD p.toNat 0)).getD 0))))).bind fun(v,x)=>some (Sum.inl (v,x,(i64.wrap (p+1)))))else none)else none)else none)
 else some (Sum.inr (f,e)))
def kG(u:List Z8)(q e:Int):((List Nd)×Int)→Option (((List Nd)×Int)⊕(List Nd)):=fun(j,f) =>
 (if(decide (f<(((u.getD q.toNat ([],([]:QK))).2).length:Int)))=true then(if 0≤f∧f<(((u.getD q.toNat ([],([]:QK))).2).length:Int)then(if e.toNat<j.length then(((if(decide (f≥(((j.getD e.toNat Nd.z).2.2).length:Int)))=true then(if e.toNat<(jb j e.toNat).length then(if((((jb j e.toNat).getD e.toNat Nd.z).2.2).length+([0]:QK).length)*1≤140737488355328∧(((jb j e.toNat).getD e.toNat Nd.z).2.2).length+([0]:QK).length≤9223372036854775807 then some (((jb j e.toNat).set e.toNat (((jb j e.toNat).getD e.toNat Nd.z).1,((jb j e.toNat).getD e.toNat Nd.z).2.1,((((jb j e.toNat).getD e.toNat Nd.z).2.2)++([0]:QK)))))else none)else none)
 else some ((jb j e.toNat)))).bind fun p=>(if e.toNat<p.length then(if 0≤f∧f<(((p.getD e.toNat Nd.z).2.2).length:Int)then(if f.toNat<((p.getD e.toNat Nd.z).2.2).length then(if 0≤f∧f<(((p.getD e.toNat Nd.z).2.2).length:Int)then(if f.toNat<((p.getD e.toNat Nd.z).2.2).length then some (Sum.inl ((p.set e.toNat ((p.getD e.toNat Nd.z).1,(p.getD e.toNat Nd.z).2.1,(((p.getD e.toNat Nd.z).2.2).set f.toNat (max (((p.getD e.toNat Nd.z).2.2).getD f.toNat 0) (((u.getD q.toNat ([],([]:QK))).2).getD f.toNat 0))))),(i64.wrap (f+1))))else none)else none)else none)else none)else none))else none)else none)
 else some (Sum.inr j))
def rJ(q:List Z8):((List Nd)×Int)→Option (((List Nd)×Int)⊕(List Nd)):=fun(j,e) =>
 (if(decide (e<(q.length:Int)))=true then(if 0≤e∧e<(q.length:Int)then((iter (kH q e) (j,0,0)).bind fun(p,f)=>(if 0≤f∧f<(p.length:Int)then((iter (kG q e f) (p,0)).bind fun u=>some (Sum.inl (u,(i64.wrap (e+1)))))else none))else none)
 else some (Sum.inr j))
def pg(f:List Z8):Option (Option G1) :=
 (if 0≤(1:Int)∧(1:Int)≤1∧32*(1:Int)≤281474976710656∧(1:Int)≤9223372036854775807 then((iter (rJ f) ((List.replicate (1:Int).toNat Nd.z),0)).bind fun e=>some (some ((e.map (·.2)),()):Option G1))else none)
theorem yD(f:Bool){j:List Z8}{C:Option G1}(h:pg j=some C):
  Pure Tryz.prog 57 [.p f (.slice qt) j] (aK (bf false [⟨(.ptr sR),C⟩])):=by
 refine PB Tryz.func57 (fun Bw w0=>?_);unfold pg at h;refine G ?_;obtain⟨c2,h⟩:=aE h;refine GN ⟨[],[(0,⟨.unk,[],false,[],[],[],none⟩)]⟩ [(0,0,oc c2)] (ag (G (ak (cC h (fun(D,e)=>aA [(3,.adr 0 0 1 0),(17,.p f (.slice qt) j),(18,.i64 (j.length:Int)),(19,.i64 e)] [(0,.box [.sl 1]),(1,.nds 222 5 D none)] 2) 0 (fun E=>aA [(3,.adr 0 0 1 0)] [(0,.box [.sl 1]),(1,.nds 222 5 E none)] 2) (gg [] [24,8]) (fun y o h=>?_) (fun E h=>?_)))))
 ·obtain⟨D,e⟩:=y;unfold rJ at h;refine G (ag (aC h (fun b2 h=>?_) (fun b2 h=>?_)))
  ·refine ae (ab (ag (ak (GC 0 h (fun h=>G (ag (G (ak ?_))))))));refine cC h (fun(z,u,v)=>aA [(3,.adr 0 0 1 0),(5,.adr 2 0 2 0),(6,.i64 u),(17,.p f (.slice qt) j),(18,.i64 (j.length:Int)),(19,.i64 e),(24,.p f (.slice (.int .i32)) ((j.getD e.toNat ([],([]:QK))).1)),(25,.i64 (((j.getD e.toNat ([],([]:QK))).1).length:Int)),(26,.i64 v)] (HC z f ((j.getD e.toNat ([],([]:QK))).1) f ((j.getD e.toNat ([],([]:QK))).2)) 3) 2 (fun(I,q)=>aA [(3,.adr 0 0 1 0),(5,.adr 2 0 2 0),(6,.i64 q),(17,.p f (.slice qt) j),(18,.i64 (j.length:Int)),(19,.i64 e)] (HC I f ((j.getD e.toNat ([],([]:QK))).1) f ((j.getD e.toNat ([],([]:QK))).2)) 3) (gg [] [0,1,26]) (fun y o h=>?_) (fun b3 h=>?_)
   ·obtain⟨z,u,v⟩:=y;unfold kH at h;refine G (ag (aC h (fun b4 h=>?_) (fun b4 h=>?_)))
    ·refine ae (ab (ag (ak (GC 0 h (fun h=>ag ?_)))));obtain⟨J,h⟩:=aE h;refine yf 1 u.toNat false J (by kernel_rfl) ?_;obtain⟨L,h⟩:=aE h;refine bB a0 [(5,5,oc L),(7,7,⟨u.toNat=u.toNat,rfl⟩)] (ab (ag (ag (lE [.shut 1] (by kernel_rfl) (Ge (ab (bA h (fun(M,N)=>aA [(3,.adr 0 0 1 0),(5,.adr 2 0 2 0),(9,.i64 N),(17,.p f (.slice qt) j),(18,.i64 (j.length:Int)),(19,.i64 e),(24,.p f (.slice (.int .i32)) ((j.getD e.toNat ([],([]:QK))).1)),(25,.i64 (((j.getD e.toNat ([],([]:QK))).1).length:Int)),(26,.i64 v)] (HC M f ((j.getD e.toNat ([],([]:QK))).1) f ((j.getD e.toNat ([],([]:QK))).2)) 3) (fun O h=>?_) (fun O h=>?_))))))))
     ·refine aC h (fun b5 h=>?_) (fun b5 h=>?_)
      ·refine G (ag (ag ?_));obtain⟨V,h⟩:=aE h;refine yf 1 u.toNat false V (by kernel_rfl) ?_;obtain⟨X,h⟩:=aE h;refine bB a0 [(5,5,oc X),(7,7,⟨u.toNat=u.toNat,rfl⟩)] (ab (bA h (fun A=>aA [(3,.adr 0 0 1 0),(5,.adr 2 0 2 0),(6,.i64 u),(8,.i32 (((j.getD e.toNat ([],([]:QK))).1).getD v.toNat 0)),(9,.i64 ((jb z u.toNat).length:Int)),(17,.p f (.slice qt) j),(18,.i64 (j.length:Int)),(19,.i64 e),(24,.p f (.slice (.int .i32)) ((j.getD e.toNat ([],([]:QK))).1)),(25,.i64 (((j.getD e.toNat ([],([]:QK))).1).length:Int)),(26,.i64 v)] (HC A f ((j.getD e.toNat ([],([]:QK))).1) f ((j.getD e.toNat ([],([]:QK))).2)) 3) (fun A h=>?_) (fun A h=>?_)))
       ·refine aC h (fun b6 h=>?_) (fun b6 h=>?_)
        ·refine lE [.shut 1] (by kernel_rfl) ?_;obtain⟨Y,Z,h⟩:=g2 h;exact bB a0 [(6,6,oc Y),(8,8,oc Z)] (eN h (gg [.shut 1] [0,1,2]))
        exact ae (eN h (gg [.shut 1] [0,1,2]))
       refine ab (ag ?_);obtain⟨a1,h⟩:=aE h;refine yf 1 u.toNat false a1 (by kernel_rfl) ?_;obtain⟨a2,a3,h⟩:=g2 h;refine bB a0 [(5,5,oc a2),(7,7,⟨u.toNat=u.toNat,rfl⟩),(10,10,oc a3)] (ab (lE [.shut 1] (by kernel_rfl) ?_));obtain⟨a4,h⟩:=aE h;exact bB ⟨[],[(6,⟨.unk,[],false,[],[],[],none⟩)]⟩ [(7,7,oc a4)] (eN h (gg [] [0,148,2]))
      exact ae (eN h (gg [] [0,1,2]))
     obtain⟨M,N⟩:=O;refine ab (Ge (ay (ab (Ge ?_))));exact eB h (gg [] [0,1,2])
    refine au (aP ?_);exact eX h (gg [] [0,1,2])
   obtain⟨I,q⟩:=b3;refine aw (ab (GC 5 h (fun h=>G (ak (cC h (fun(a5,x)=>aA [(3,.adr 0 0 1 0),(11,.adr 1 q.toNat 2 0),(17,.p f (.slice qt) j),(18,.i64 (j.length:Int)),(19,.i64 e),(96,.p f (.slice (.int .u8)) ((j.getD e.toNat ([],([]:QK))).2)),(97,.i64 (((j.getD e.toNat ([],([]:QK))).2).length:Int)),(98,.i64 x)] [(0,.box [.sl 1]),(1,.nds 222 5 a5 none)] 2) 4 (fun a6=>aA [(3,.adr 0 0 1 0),(17,.p f (.slice qt) j),(18,.i64 (j.length:Int)),(19,.i64 e)] [(0,.box [.sl 1]),(1,.nds 222 5 a6 none)] 2) (gg [] [0,1]) (fun y o h=>?_) (fun a6 h=>?_))))))
   ·obtain⟨a5,x⟩:=y;unfold kG at h;refine G (ag (aC h (fun b7 h=>?_) (fun b7 h=>?_)))
    ·refine ae (ab (ag (ak (GC 1 h (fun h=>ag (ag ?_))))));obtain⟨a7,h⟩:=aE h;refine yf 1 q.toNat true a7 (by kernel_rfl) (bB a0 [(4,4,⟨q.toNat=q.toNat,rfl⟩)] (ab (bA h (fun B=>aA [(3,.adr 0 0 1 0),(11,.adr 1 q.toNat 2 0),(12,.i64 x),(13,.u8 (((j.getD e.toNat ([],([]:QK))).2).getD x.toNat 0)),(17,.p f (.slice qt) j),(18,.i64 (j.length:Int)),(19,.i64 e),(96,.p f (.slice (.int .u8)) ((j.getD e.toNat ([],([]:QK))).2)),(97,.i64 (((j.getD e.toNat ([],([]:QK))).2).length:Int)),(98,.i64 x)] [(0,.box [.sl 1]),(1,.nds 222 5 B none)] 2) (fun B h=>?_) (fun B h=>?_))))
     ·refine aC h (fun b8 h=>?_) (fun b8 h=>?_)
      ·refine lE [.shut 1] (by kernel_rfl) ?_;obtain⟨a8,h⟩:=aE h;refine yf 1 q.toNat true a8 (by kernel_rfl) ?_;obtain⟨a9,h⟩:=aE h;exact bB a0 [(4,4,⟨q.toNat=q.toNat,rfl⟩),(6,6,oc a9),(9,9,⟨q.toNat=q.toNat∧true=true,⟨rfl,rfl⟩⟩)] (eN h (gg [.shut 1] [0,1]))
      exact ae (eN h (gg [.shut 1] [0,1]))
     refine ab ?_;obtain⟨aa,h⟩:=aE h;refine yf 1 q.toNat true aa (by kernel_rfl) ?_;obtain⟨ac,ad,ax,b1,h⟩:=g4 h;refine nQ a0 [(3,3,⟨q.toNat=q.toNat,rfl⟩),(8,8,⟨q.toNat=q.toNat,rfl⟩),(10,10,oc ac),(11,11,oc ad),(14,14,oc ax),(15,15,oc b1)] (ay (ab (lE [.shut 1] (by kernel_rfl) (Ge ?_))));exact eB h (gg [] [0,1])
    refine au (aP ?_);exact eX h (gg [] [0,1])
   refine aw (ay (ab (Ge ?_)));exact eB h (gg [] [0,1])
  refine au (aP ?_);exact eX h (gg [] [0,1])
 refine aw (ab (G (lE [.frzC 0 0] (by kernel_rfl) (av ?_))));obtain rfl:=sI h;exact RI [(.ptr sR)]
def mQ(p:QX)(e:XK)(j f:Int):Option ((Option Z3)×Int×Int) :=
 ((nB e).bind fun x =>
 (if(!x)=true then some ((none:Option Z3),10,0)
 else(((if(decide (j<1))=true then some (true)
 else(if(decide (f<1))=true then some (true)
 else(if(decide (j > 24))=true then some (true)
 else some ((decide (f > 24))))))).bind fun v1=>(if v1=true then some ((none:Option Z3),40,0)
 else((nM p).bind fun(v,q) =>
 (if(q.1 != 0)=true then some ((none:Option Z3),q.1,q.2)
 else((so e).bind fun z =>
 ((pg v.1).bind fun u =>
 some ((some (z,u,v.2,j,f):Option Z3),0,0)))))))))
theorem Bh(u:Bool){j:QX}{e:XK}{q f:Int}{z:(Option Z3)×Int×Int}(h:mQ j e q f=some z):
  Pure Tryz.prog 27 [.st j,.p u (.slice (.prod (.int .i32) Y1)) e,.i64 q,.i64 f] (aK (bf false [⟨(.ptr nG),z.1⟩,⟨Y2,z.2⟩])):=by
 refine PB Tryz.func27 (fun Bw w0=>?_);unfold mQ at h;refine G (ag ?_);obtain⟨V,I,h⟩:=aj h;refine GP 1 (xw u I) (aC h (fun J h=>?_) (fun J h=>?_))
 ·refine G (av (ai ?_));obtain rfl:=sI h;exact RI [(.ptr nG),Y2]
 refine ae (ab (ag (ag (bA h (fun v1=>aA [(0,.st j),(1,.p u (.slice (.prod (.int .i32) Y1)) e),(2,.i64 q),(3,.i64 f),(9,.adr 0 0 2 0),(29,.bo v1)] [(0,.box [.i64 0,.i64 0])] 1) (fun v1 h=>?_) (fun v1 h=>?_)))))
 ·rcases aM h with⟨x,h⟩ | ⟨x,h⟩
  ·exact bB ⟨[(2,true),(5,true)],[]⟩ [(3,5,oc x)] (eN h (gg [] [8]))
  rcases aM h with⟨A,h⟩ | ⟨A,h⟩
  ·exact bB ⟨[(2,false),(5,false),(6,true),(9,true)],[]⟩ [(3,4,an x),(5,5,oc x),(7,9,oc A)] (eN h (gg [] [8]))
  rcases aM h with⟨v,h⟩ | ⟨v,h⟩
  ·exact bB ⟨[(2,false),(5,false),(6,false),(9,false),(10,true),(13,true)],[]⟩ [(3,4,an x),(5,5,oc x),(7,8,an A),(9,9,oc A),(11,13,oc v)] (eN h (gg [] [8]))
  exact bB ⟨[(2,false),(5,false),(6,false),(9,false),(10,false),(13,false)],[]⟩ [(3,4,an x),(5,5,oc x),(7,8,an A),(9,9,oc A),(11,12,an v),(13,13,oc v)] (eN h (gg [] [8]))
 refine ab (aC h (fun D h=>?_) (fun D h=>?_))
 ·refine G (av (ai ?_));obtain rfl:=sI h;exact RI [(.ptr nG),Y2]
 refine ae (ab ?_);obtain⟨⟨X,Y⟩,L,h⟩:=aj h;refine GP 1 (xk L) (ag (G (aC h (fun E h=>?_) (fun E h=>?_))))
 ·refine GD a0 [] (av (ai ?_));obtain rfl:=sI h;exact RI [(.ptr nG),Y2]
 refine ae (ab ?_);obtain⟨Z,M,h⟩:=aj h;obtain⟨N,O,h⟩:=aj h;have B:=(yW u M);have C:=(yD false O);refine GD ⟨[],[(1,(oP B)),(4,(oP C))]⟩ [(1,1,oc B),(4,4,oc C)] (av ?_);obtain rfl:=sI h;exact RI [(.ptr nG),Y2]
def jX(I J L M:XK)(N O V:QX)(X Y:Int):Option ((Option Z1)×Int×Int) :=
 ((iI N).bind fun(D,q) =>
 (if(q.1 != 0)=true then some ((none:Option Z1),q.1,q.2)
 else((iI O).bind fun(E,u) =>
 (if(u.1 != 0)=true then some ((none:Option Z1),u.1,u.2)
 else((cj D).bind fun v =>
 ((cj E).bind fun x =>
 (if 0≤(0:Int)∧0<((3:Nat):Int)then((fS I v).bind fun(z,f) =>
 (if(f != 0)=true then some ((none:Option Z1),f,0)
 else(if 0≤(1:Int)∧1<((3:Nat):Int)then((fS J x).bind fun(A,j) =>
 (if(j != 0)=true then some ((none:Option Z1),j,0)
 else(if 0≤(2:Int)∧2<((3:Nat):Int)then((fS L 3).bind fun(B,p) =>
 (if(p != 0)=true then some ((none:Option Z1),p,0)
 else((mQ V M X Y).bind fun(C,e) =>
 (if(e.1 != 0)=true then some ((none:Option Z1),e.1,e.2)
 else some ((some (D,E,z,A,B,C):Option Z1),0,0)))))else none)))else none)))else none)))))))
theorem tR(f j q u:Bool){D E I J:XK}{L M N:QX}{O V:Int}{e:(Option Z1)×Int×Int}(h:jX D E I J L M N O V=some e):
  Pure Tryz.prog 10 [.agg [.p f (.slice (.prod (.int .i32) Y1)) D,.p j (.slice (.prod (.int .i32) Y1)) E,.p q (.slice (.prod (.int .i32) Y1)) I,.p u (.slice (.prod (.int .i32) Y1)) J,.st L,.st M,.st N,.i64 O,.i64 V]] (aK (bf false [⟨(.ptr zA),e.1⟩,⟨Y2,e.2⟩])):=by
 refine PB Tryz.func10 (fun Bw w0=>?_);unfold jX at h;refine G (G (G (ag ?_)));obtain⟨⟨r3,r4⟩,X,h⟩:=aj h;refine GP 3 (sV X) (G (aC h (fun Y h=>?_) (fun Y h=>?_)))
 ·refine GD a0 [] (av (ai ?_));obtain rfl:=sI h;exact RI [(.ptr zA),Y2]
 refine ae (ab (ag ?_));obtain⟨⟨r7,r8⟩,Z,h⟩:=aj h;refine GP 3 (sV Z) (G (aC h (fun B2 h=>?_) (fun B2 h=>?_)))
 ·refine GD a0 [] (av (ai ?_));obtain rfl:=sI h;exact RI [(.ptr zA),Y2]
 refine ae (ab (ag ?_));obtain⟨a1,q7,h⟩:=aj h;obtain⟨a2,q8,h⟩:=aj h;have v:=(iP false q7);have x:=(iP false q8);refine GD ⟨[],[(9,(oP v)),(20,(oP x))]⟩ [(9,9,oc v),(20,20,oc x)] (ak (Hc 9 (G (ag (yv rfl (ae (ab (ag (ak (GC 0 h (fun h=>?_)))))))))));obtain⟨⟨a3,a4⟩,z,h⟩:=aj h;refine GP 4 (nA f z) (ag (G (aC h (fun B3 h=>?_) (fun B3 h=>?_))))
 ·refine G (av (ai (az (ai (BP (az (ai ?_)))))));obtain rfl:=sI h;exact RI [(.ptr zA),Y2]
 refine ae (ab (Ge (ay (ab (Ge (Ff (G (ag (yv rfl (ae (ab (ag (ak (GC 0 h (fun h=>?_)))))))))))))));obtain⟨⟨a5,a6⟩,A,h⟩:=aj h;refine GP 4 (nA j A) (ag (G (aC h (fun B4 h=>?_) (fun B4 h=>?_))))
 ·refine G (av (ai (az (ai (BP (az (ai ?_)))))));obtain rfl:=sI h;exact RI [(.ptr zA),Y2]
 refine ae (ab (Ge (ay (ab (Ge (Ff (G (ag (yv rfl (ae (ab (ag (ak (GC 0 h (fun h=>?_)))))))))))))));obtain⟨⟨a7,a8⟩,B,h⟩:=aj h;refine GP 4 (nA q B) (ag (G (aC h (fun B5 h=>?_) (fun B5 h=>?_))))
 ·refine G (av (ai (az (ai (BP (az (ai ?_)))))));obtain rfl:=sI h;exact RI [(.ptr zA),Y2]
 refine ae (ab (Ge (ay (ab (Ge (Ff (G (ag (Iw rfl (au (aP (Mh (aw (ab (ag ?_)))))))))))))));obtain⟨⟨a9,aa⟩,C,h⟩:=aj h;refine GP 9 (Bh u C) (G (aC h (fun B6 h=>?_) (fun B6 h=>?_)))
 ·refine GD a0 [] (av (ai ?_));obtain rfl:=sI h;exact RI [(.ptr zA),Y2]
 refine ae (ab (G (av ?_)));obtain rfl:=sI h;exact RI [(.ptr zA),Y2]
def im(e f q j p:Int)(u:QJ):Option (Bool) :=
 (((if(decide (e≥1))=true then(if(decide (e≤1048576))=true then(if(decide (f≥1))=true then(if(decide (f≤64))=true then(if(decide (q≤1))=true then(if(decide (j≥0))=true then(if(decide (j≤1048576))=true then(if(decide (p≥0))=true then some ((decide (p≤1048576)))
 else some (false))
 else some (false))
 else some (false))
 else some (false))
 else some (false))
 else some (false))
 else some (false))
 else some (false))).bind fun v1=>some v1)
theorem xj{B C D E I:Int}{J:QJ}{A:Bool}(h:im B C D E I J=some A):
  Pure Tryz.prog 46 [.agg [.i64 B,.i64 C,.u8 D,.i64 E,.i64 I,.p false .flt J]] (aK (bf false [⟨.bool,A⟩])):=by
 refine PB Tryz.func46 (fun Bw w0=>?_);unfold im at h;refine G (ag (bA h (fun v1=>aA [(2,.bo v1)] [] 0) (fun v1 h=>?_) (fun v1 h=>?_)))
 ·rcases aM h with⟨e,h⟩ | ⟨e,h⟩
  ·rcases aM h with⟨f,h⟩ | ⟨f,h⟩
   ·rcases aM h with⟨j,h⟩ | ⟨j,h⟩
    ·rcases aM h with⟨q,h⟩ | ⟨q,h⟩
     ·rcases aM h with⟨u,h⟩ | ⟨u,h⟩
      ·rcases aM h with⟨v,h⟩ | ⟨v,h⟩
       ·rcases aM h with⟨x,h⟩ | ⟨x,h⟩
        ·rcases aM h with⟨z,h⟩ | ⟨z,h⟩
         ·exact bB ⟨[(3,true),(7,true),(8,true),(12,true),(13,true),(17,true),(18,true),(22,true),(23,true),(27,true),(28,true),(32,true),(33,true),(37,true),(38,true),(42,true)],[]⟩ [(4,6,an e),(7,7,oc e),(9,11,an f),(12,12,oc f),(14,16,an j),(17,17,oc j),(19,21,an q),(22,22,oc q),(24,26,an u),(27,27,oc u),(29,31,an v),(32,32,oc v),(34,36,an x),(37,37,oc x),(39,41,an z),(42,42,oc z)] (eN h (gg [] []))
         exact bB ⟨[(3,true),(7,true),(8,true),(12,true),(13,true),(17,true),(18,true),(22,true),(23,true),(27,true),(28,true),(32,true),(33,true),(37,true),(38,false),(42,false)],[]⟩ [(4,6,an e),(7,7,oc e),(9,11,an f),(12,12,oc f),(14,16,an j),(17,17,oc j),(19,21,an q),(22,22,oc q),(24,26,an u),(27,27,oc u),(29,31,an v),(32,32,oc v),(34,36,an x),(37,37,oc x),(39,42,oc z)] (eN h (gg [] []))
        exact bB ⟨[(3,true),(7,true),(8,true),(12,true),(13,true),(17,true),(18,true),(22,true),(23,true),(27,true),(28,true),(32,true),(33,false),(37,false)],[]⟩ [(4,6,an e),(7,7,oc e),(9,11,an f),(12,12,oc f),(14,16,an j),(17,17,oc j),(19,21,an q),(22,22,oc q),(24,26,an u),(27,27,oc u),(29,31,an v),(32,32,oc v),(34,37,oc x)] (eN h (gg [] []))
       exact bB ⟨[(3,true),(7,true),(8,true),(12,true),(13,true),(17,true),(18,true),(22,true),(23,true),(27,true),(28,false),(32,false)],[]⟩ [(4,6,an e),(7,7,oc e),(9,11,an f),(12,12,oc f),(14,16,an j),(17,17,oc j),(19,21,an q),(22,22,oc q),(24,26,an u),(27,27,oc u),(29,32,oc v)] (eN h (gg [] []))
      exact bB ⟨[(3,true),(7,true),(8,true),(12,true),(13,true),(17,true),(18,true),(22,true),(23,false),(27,false)],[]⟩ [(4,6,an e),(7,7,oc e),(9,11,an f),(12,12,oc f),(14,16,an j),(17,17,oc j),(19,21,an q),(22,22,oc q),(24,27,oc u)] (eN h (gg [] []))
     exact bB ⟨[(3,true),(7,true),(8,true),(12,true),(13,true),(17,true),(18,false),(22,false)],[]⟩ [(4,6,an e),(7,7,oc e),(9,11,an f),(12,12,oc f),(14,16,an j),(17,17,oc j),(19,22,oc q)] (eN h (gg [] []))
    exact bB ⟨[(3,true),(7,true),(8,true),(12,true),(13,false),(17,false)],[]⟩ [(4,6,an e),(7,7,oc e),(9,11,an f),(12,12,oc f),(14,17,oc j)] (eN h (gg [] []))
   exact bB ⟨[(3,true),(7,true),(8,false),(12,false)],[]⟩ [(4,6,an e),(7,7,oc e),(9,12,oc f)] (eN h (gg [] []))
  exact bB ⟨[(3,false),(7,false)],[]⟩ [(4,7,oc e)] (eN h (gg [] []))
 refine ab (av ?_);obtain rfl:=sI h;exact RI [.bool]
def bd(f:Option yU)(e:Int):Option (Int) :=
 (((if f.isNone=true then some (true)
 else(if(decide (e<0))=true then some (true)
 else some ((decide (e > 1114111)))))).bind fun v1=>(if v1=true then some 0
 else(if f.isSome=true then(if 0≤(8:Int)then(if f.isSome=true then(if 0≤(Int.fdiv e (2 ^ (min (8:Int).toNat i32.bits)))∧(Int.fdiv e (2 ^ (min (8:Int).toNat i32.bits)))<((4352:Nat):Int)then(if 0≤(fq ((f.getD (Ty.zero vK)).1) (Int.fdiv e (2 ^ (min (8:Int).toNat i32.bits))).toNat)∧(fq ((f.getD (Ty.zero vK)).1) (Int.fdiv e (2 ^ (min (8:Int).toNat i32.bits))).toNat)<(((f.getD (Ty.zero vK)).2).length:Int)then(if 0≤(bitsOf .and .i32 e 255)∧(bitsOf .and .i32 e 255)<((256:Nat):Int)then some (i64.wrap (fq (((f.getD (Ty.zero vK)).2).getD ((fq ((f.getD (Ty.zero vK)).1) (Int.fdiv e (2 ^ (min (8:Int).toNat i32.bits))).toNat).toNat) (dp 256)) (bitsOf .and .i32 e 255).toNat))else none)else none)else none)else none)else none)else none)))
theorem mS(j:Bool){v:Option yU}{x q:Int}(h:bd v x=some q):
  Pure Tryz.prog 70 [.p j (.ptr vK) v,.i32 x] (aK (bf false [⟨(.int .i64),q⟩])):=by
 refine PB Tryz.func70 (fun Bw w0=>?_);unfold bd at h;refine G (ag (ag (bA h (fun v1=>aA [(0,.p j (.ptr vK) v),(1,.i32 x),(14,.bo v1)] [] 0) (fun v1 h=>?_) (fun v1 h=>?_))))
 ·rcases aM h with⟨f,h⟩ | ⟨f,h⟩
  ·exact bB ⟨[(2,true),(5,true)],[]⟩ [(1,1,⟨∃e,Tryz.prog.underlying 99=some (.pointer e),⟨_,rfl⟩⟩),(3,5,oc f)] (eN h (gg [] []))
  rcases aM h with⟨u,h⟩ | ⟨u,h⟩
  ·exact bB ⟨[(2,false),(5,false),(6,true),(9,true)],[]⟩ [(1,1,⟨∃e,Tryz.prog.underlying 99=some (.pointer e),⟨_,rfl⟩⟩),(3,4,an f),(5,5,oc f),(7,9,oc u)] (eN h (gg [] []))
  exact bB ⟨[(2,false),(5,false),(6,false),(9,false)],[]⟩ [(1,1,⟨∃e,Tryz.prog.underlying 99=some (.pointer e),⟨_,rfl⟩⟩),(3,4,an f),(5,5,oc f),(7,8,an u),(9,9,oc u)] (eN h (gg [] []))
 refine ab (aC h (fun C h=>?_) (fun C h=>?_))
 ·refine G (av (ai ?_));obtain rfl:=sI h;exact RI [(.int .i64)]
 refine ae (ab ?_);obtain⟨D,E,I,z,h⟩:=g4 h;obtain⟨A,B,h⟩:=g2 h;refine GD a0 [(1,1,oc D),(6,6,oc E),(7,7,oc I),(9,9,oc z),(13,13,oc A),(14,14,oc B)] (av ?_);obtain rfl:=sI h;exact RI [(.int .i64)]
def dg(p:Option yU)(j:XK):tG→Option (tG⊕QK):=fun(e,f) =>
 (if(decide (f<(j.length:Int)))=true then(if 0≤f∧f<(j.length:Int)then((bd p ((j.getD f.toNat (0,0,0)).1)).bind fun q =>
 (if 0≤f∧f<(e.length:Int)then(if f.toNat<e.length then some (Sum.inl ((e.set f.toNat q),(i64.wrap (f+1))))else none)else none))else none)
 else some (Sum.inr e))
def cy(j:Option yU)(e:XK):Option QK :=
 (if 0≤(e.length:Int)∧(e.length:Int)≤(e.length:Int)∧8*(e.length:Int)≤281474976710656∧(e.length:Int)≤9223372036854775807 then((iter (dg j e) ((List.replicate (e.length:Int).toNat (0:Int)),0)).bind fun f=>some f)else none)
theorem kU(j q:Bool){z:Option yU}{x:XK}{u:QK}(h:cy z x=some u):
  Pure Tryz.prog 39 [.p j (.ptr vK) z,.p q (.slice (.prod (.int .i32) Y2)) x] (aK (bf false [⟨(.slice (.int .i64)),u⟩])):=by
 refine PB Tryz.func39 (fun Bw w0=>?_);unfold cy at h;refine G (GC 2 h (fun h=>ag (G (ak (cC h (fun(e,C)=>aA [(0,.p j (.ptr vK) z),(5,.sl 0),(11,.p q (.slice (.prod (.int .i32) Y2)) x),(12,.i64 (x.length:Int)),(13,.i64 C)] [(0,.arr 3 (.int .i64) e)] 1) 0 (fun f=>aA [(5,.sl 0)] [(0,.arr 3 (.int .i64) f)] 1) (gg [] [24]) (fun y o h=>?_) (fun f h=>?_))))))
 ·obtain⟨e,C⟩:=y;unfold dg at h;refine G (ag (aC h (fun D h=>?_) (fun D h=>?_)))
  ·refine ae (ab (ag (ak (GC 1 h (fun h=>?_)))));obtain⟨I,E,h⟩:=aj h;obtain⟨A,B,h⟩:=g2 h;have v:=(mS j E);refine bB ⟨[],[(5,(oP v))]⟩ [(5,5,oc v),(6,6,oc A),(7,7,oc B)] (ay (ab (Ge ?_)));exact eB h (gg [] [0])
  refine au (aP ?_);exact eX h (gg [] [0])
 refine aw (ab (G (av ?_)));obtain rfl:=sI h;exact RI [(.slice (.int .i64))]
def jU(p:QZ)(e:QK):(QK×Int×Int)→Option ((QK×Int×Int)⊕QK):=fun(f,j,v4) =>
 (if(decide (v4<(e.length:Int)))=true then(if 0≤v4∧v4<(e.length:Int)then(((if(decide ((e.getD v4.toNat 0)<0))=true then some (true)
 else(if 0≤j∧j<(p.length:Int)then some ((decide ((e.getD v4.toNat 0)≥((p.getD j.toNat []).length:Int))))else none))).bind fun q=>(if q=true then some (Sum.inr f)
 else(if 0≤j∧j<(p.length:Int)then(if 0≤(e.getD v4.toNat 0)∧(e.getD v4.toNat 0)<((p.getD j.toNat []).length:Int)then(if(f.length+([((p.getD j.toNat []).getD ((e.getD v4.toNat 0).toNat) 0)]:QK).length)*8≤140737488355328∧f.length+([((p.getD j.toNat []).getD ((e.getD v4.toNat 0).toNat) 0)]:QK).length≤9223372036854775807 then some (Sum.inl ((f++([((p.getD j.toNat []).getD ((e.getD v4.toNat 0).toNat) 0)]:QK)),((p.getD j.toNat []).getD ((e.getD v4.toNat 0).toNat) 0),(i64.wrap (v4+1))))else none)else none)else none)))else none)
 else some (Sum.inr f))
def mM(j:QZ)(p e:QK):Option QK :=
 (if((j.length:Int) == 0)=true then some ([]:QK)
 else((iter (jU j e) (([0]:QK),0,0)).bind fun f=>some f))
theorem tp(u v x:Bool){A:QZ}{B e z:QK}(h:mM A B e=some z):
  Pure Tryz.prog 67 [.agg [.p u (.slice (.slice (.int .i64))) A,.p v (.slice (.int .u32)) B],.p x (.slice (.int .i64)) e] (aK (bf false [⟨(.slice (.int .i64)),z⟩])):=by
 refine PB Tryz.func67 (fun Bw w0=>?_);unfold mM at h;refine G (ag (G (aC h (fun N h=>?_) (fun N h=>?_))))
 ·refine G (av (ai ?_));obtain rfl:=sI h;exact RI [(.slice (.int .i64))]
 refine ae (ab (G (G (ag (G (ak (cC h (fun(j,C,v4)=>aA [(2,.adr 0 0 2 0),(5,.sl 1),(6,.i64 C),(14,.p x (.slice (.int .i64)) e),(15,.i64 (e.length:Int)),(16,.i64 v4)] (KG u A v B j) 2) 0 (fun q=>aA [(5,.sl 0)] [(0,.arr 3 (.int .i64) q)] 1) (gg [] [0,48]) (fun y o h=>?_) (fun q h=>?_))))))))
 ·obtain⟨j,C,v4⟩:=y;unfold jU at h;refine G (ag (aC h (fun D h=>?_) (fun D h=>?_)))
  ·refine ae (ab (ag (ak (GC 0 h (fun h=>ag (ag (bA h (fun E=>aA [(2,.adr 0 0 2 0),(5,.sl 1),(6,.i64 C),(8,.i64 (e.getD v4.toNat 0)),(14,.p x (.slice (.int .i64)) e),(15,.i64 (e.length:Int)),(16,.i64 v4),(31,.bo E)] (KG u A v B j) 2) (fun E h=>?_) (fun E h=>?_))))))))
   ·rcases aM h with⟨f,h⟩ | ⟨f,h⟩
    ·exact bB ⟨[(2,true),(11,true)],[]⟩ [(3,11,oc f)] (eN h (gg [] [0,1]))
    obtain⟨I,h⟩:=aE h;exact bB ⟨[(2,false),(11,false)],[]⟩ [(3,6,an f),(7,7,oc (And.intro f I)),(8,10,an f),(11,11,oc f)] (eN h (gg [] [0,1]))
   refine ab (aC h (fun J h=>?_) (fun J h=>?_))
   ·refine au (aP (jo rfl (aP ?_)));exact eX h (gg [] [1])
   refine ae (ab ?_);obtain⟨L,M,h⟩:=g2 h;refine GN a0 [(3,3,oc L),(6,6,oc M)] (zw 3 h (fun h=>ay (ab (Ge ?_))));exact eB h (gg [] [0,98])
  refine au (aP ?_);exact eX h (gg [] [1])
 refine aw (ab (G (av ?_)));obtain rfl:=sI h;exact RI [(.slice (.int .i64))]
def bO  : (QK×Int×Int)→Option ((QK×Int×Int)⊕QK):=fun(e,f,j) =>
 (if(decide (f<j))=true then(if 0≤j∧j<(e.length:Int)then(if j.toNat<e.length then(if 0≤f∧f<(e.length:Int)then(if f.toNat<e.length then(if 0≤f∧f<(e.length:Int)then(if f.toNat<e.length then(if 0≤j∧j<((e.set f.toNat (e.getD j.toNat 0)).length:Int)then(if j.toNat<(e.set f.toNat (e.getD j.toNat 0)).length then some (Sum.inl (((e.set f.toNat (e.getD j.toNat 0)).set j.toNat (e.getD f.toNat 0)),(i64.wrap (f+1)),(i64.wrap (j - 1))))else none)else none)else none)else none)else none)else none)else none)else none)
 else some (Sum.inr e))
def cg(e:QK):Option QK :=
 ((iter (bO) (e,0,(i64.wrap ((e.length:Int) - 1)))).bind fun f=>some f)
theorem j3{B e:QK}(h:cg B=some e):
  jh Tryz.prog 68 [.sl 0] [(0,.arr 3 (.int .i64) B)] (.tup []) [(0,.arr 3 (.int .i64) e)]:=by
 refine OB Tryz.func68 (fun Bw w0=>?_);unfold cg at h;refine G (ak (cC h (fun(C,D,E)=>aA [(0,.sl 0),(2,.i64 D),(3,.i64 E)] [(0,.arr 3 (.int .i64) C)] 1 1) 0 (fun f=>aA [] [(0,.arr 3 (.int .i64) f)] 1 1) (gg [] [0]) (fun y o h=>?_) (fun f h=>?_)))
 ·obtain⟨C,D,E⟩:=y;unfold bO at h;refine ag (G (aC h (fun I h=>?_) (fun I h=>?_)))
  ·refine ae (ab (ag (ak ?_)));obtain⟨j,p,q,u,h⟩:=g4 h;obtain⟨v,x,z,A,h⟩:=g4 h;refine nQ a0 [(6,6,oc j),(7,7,oc p),(10,10,oc q),(11,11,oc u),(12,12,oc v),(13,13,oc x),(14,14,oc z),(15,15,oc A)] (ay (ab (Ge ?_)));exact eB h (gg [] [0])
  refine au (aP ?_);exact eX h (gg [] [0])
 refine aw ?_;obtain rfl:=sI h;exact(RO [] [] [0] [] [(0,.arr 3 (.int .i64) f)] 1 1).normal
def gr(e:Int):Option (Int):=some (pA e)
theorem kZ(x:Int)(w:World)(hl:tV Tryz.prog w):Calls Tryz.prog 69 #[.int .u32 x] w fun e f=>e = .returned (.int .i64 (pA x))∧f=w:=by
 have hc:w.cell? ⟨0,(bits BinOp.and u32 x (-x % 4294967296)*125613361 % 4294967296 / 134217728).toNat,none⟩=some (.int .u8 (I0.getD (bits BinOp.and u32 x (-x % 4294967296)*125613361 % 4294967296 / 134217728).toNat 0)):=hl 0 (by kernel_rfl) _ (Fu _);go_enter Tryz.func69,Tryz.ntmps69;go_wp2
 ·rename_i h;go_ret
  exact⟨by rw[E0 h];rfl,rfl⟩
 rename_i h;go_ret
 exact⟨by rw[←G3 h,List.getD_eq_getElem?_getD];rfl,rfl⟩
theorem mC{f e:Int}(h:gr f=some e):
  Pure Tryz.prog 69 [.u32 f] (aK (bf false [⟨(.int .i64),e⟩])):=by
 obtain rfl:=sI h;exact Pure.Kp Tryz.func69 (by kernel_rfl) rfl (fun w=>kZ _ w)
def dc(j:Option Z5)(p:QK):(QK×QK×Bool×Int)→Option ((QK×QK×Bool×Int)⊕Z8):=fun(v10,v11,q,e) =>
 (if(decide (e<(p.length:Int)))=true then(if 0≤e∧e<(p.length:Int)then(((if(decide ((p.getD e.toNat 0)<0))=true then some (true)
 else(if j.isSome=true then some ((decide ((p.getD e.toNat 0)≥(((j.getD (Ty.zero mu)).1.1).length:Int))))else none))).bind fun u=>(((if u=true then some (0)
 else some ((p.getD e.toNat 0)))).bind fun f=>(((if q=true then(if j.isSome=true then(if 0≤f then some (((bitsOf .and .u32 (Int.fdiv ((j.getD (Ty.zero mu)).1.2.1) (2 ^ (min f.toNat u32.bits))) (1:Int)) == 1))else none)else none)
 else some (false))).bind fun v=>(if v=true then some (Sum.inl (v10,v11,q,(i64.wrap (e+1))))
 else(if j.isSome=true then(if 0≤f then(if(v10.length+([e]:QK).length)*8≤140737488355328∧v10.length+([e]:QK).length≤9223372036854775807 then(if j.isSome=true then(if 0≤f∧f<(((j.getD (Ty.zero mu)).1.2.2.2.1).length:Int)then(if(v11.length+([(((j.getD (Ty.zero mu)).1.2.2.2.1).getD f.toNat 0)]:QK).length)*8≤140737488355328∧v11.length+([(((j.getD (Ty.zero mu)).1.2.2.2.1).getD f.toNat 0)]:QK).length≤9223372036854775807 then some (Sum.inl ((v10++([e]:QK)),(v11++([(((j.getD (Ty.zero mu)).1.2.2.2.1).getD f.toNat 0)]:QK)),((bitsOf .and .u32 (Int.fdiv ((j.getD (Ty.zero mu)).1.2.2.1) (2 ^ (min f.toNat u32.bits))) (1:Int)) == 1),(i64.wrap (e+1))))else none)else none)else none)else none)else none)else none)))))else none)
 else some (Sum.inr (v10,v11)))
def dn(p:Option Z5)(f u x:QK):tG→Option (tG⊕QK):=fun(j,e) =>
 (if(decide (e<(f.length:Int)))=true then(if p.isSome=true then(if 0≤e∧e<(u.length:Int)then(if 0≤(u.getD e.toNat 0)∧(u.getD e.toNat 0)<(((p.getD (Ty.zero mu)).2.1.2).length:Int)then(if p.isSome=true then(if 0≤(i64.wrap ((f.length:Int) - e))∧(i64.wrap ((f.length:Int) - e))<(x.length:Int)then(if 0≤(x.getD ((i64.wrap ((f.length:Int) - e)).toNat) 0)∧(x.getD ((i64.wrap ((f.length:Int) - e)).toNat) 0)<(((p.getD (Ty.zero mu)).2.2.2).length:Int)then(if 0≤e∧e<(f.length:Int)then(if e.toNat<f.length then(if 0≤(f.getD e.toNat 0)∧(f.getD e.toNat 0)<(j.length:Int)then(if(f.getD e.toNat 0).toNat<j.length then(((if((bitsOf .and .u32 (((p.getD (Ty.zero mu)).2.1.2).getD ((u.getD e.toNat 0).toNat) 0) (((p.getD (Ty.zero mu)).2.2.2).getD ((x.getD ((i64.wrap ((f.length:Int) - e)).toNat) 0).toNat) 0)) != 0)=true then(if 0≤e∧e<(f.length:Int)then(if e.toNat<f.length then(if p.isSome=true then((gr (bitsOf .and .u32 (((p.getD (Ty.zero mu)).2.1.2).getD ((u.getD e.toNat 0).toNat) 0) (((p.getD (Ty.zero mu)).2.2.2).getD ((x.getD ((i64.wrap ((f.length:Int) - e)).toNat) 0).toNat) 0))).bind fun q =>
 (if 0≤q∧q<(((p.getD (Ty.zero mu)).1.2.2.2.2).length:Int)then(if 0≤(f.getD e.toNat 0)∧(f.getD e.toNat 0)<((j.set ((f.getD e.toNat 0).toNat) 1).length:Int)then(if(f.getD e.toNat 0).toNat<(j.set ((f.getD e.toNat 0).toNat) 1).length then some (((j.set ((f.getD e.toNat 0).toNat) 1).set ((f.getD e.toNat 0).toNat) ((((p.getD (Ty.zero mu)).1.2.2.2.2).getD q.toNat (0,(Tree.node 0 0 []),(Tree.node 0 0 []))).1)))else none)else none)else none))else none)else none)else none)
 else some ((j.set ((f.getD e.toNat 0).toNat) 1)))).bind fun z=>some (Sum.inl (z,(i64.wrap (e+1)))))else none)else none)else none)else none)else none)else none)else none)else none)else none)else none)
 else some (Sum.inr j))
def eE(f:Option Z5)(e:QK):Option QK :=
 (if 0≤(i64.wrap ((e.length:Int)+1))∧(i64.wrap ((e.length:Int)+1))≤(i64.wrap ((e.length:Int)+1))∧1*(i64.wrap ((e.length:Int)+1))≤281474976710656∧(i64.wrap ((e.length:Int)+1))≤9223372036854775807 then(if 0≤(e.length:Int)∧(e.length:Int)<((List.replicate (i64.wrap ((e.length:Int)+1)).toNat (0:Int)).length:Int)then(if(e.length:Int).toNat<(List.replicate (i64.wrap ((e.length:Int)+1)).toNat (0:Int)).length then(if f.isNone=true then some ((List.replicate (i64.wrap ((e.length:Int)+1)).toNat (0:Int)).set ((e.length:Int).toNat) 2)
 else((iter (dc f e) (([]:QK),([]:QK),false,0)).bind fun(p,j)=>(if f.isSome=true then((mM ((f.getD (Ty.zero mu)).2.1.1) ((f.getD (Ty.zero mu)).2.1.2) j).bind fun u =>
 ((cg j).bind fun v =>
 (if f.isSome=true then((mM ((f.getD (Ty.zero mu)).2.2.1) ((f.getD (Ty.zero mu)).2.2.2) v).bind fun x =>
 ((iter (dn f p u x) (((List.replicate (i64.wrap ((e.length:Int)+1)).toNat (0:Int)).set ((e.length:Int).toNat) 2),1)).bind fun q=>some q))else none)))else none)))else none)else none)else none)
theorem lB(f z:Bool){B:Option Z5}{j M:QK}(h:eE B j=some M):
  Pure Tryz.prog 38 [.p f (.ptr mu) B,.p z (.slice (.int .i64)) j] (aK (bf false [⟨(.slice (.int .u8)),M⟩])):=by
 refine PB Tryz.func38 (fun Bw w0=>?_);unfold eE at h;refine G (GC 3 h (fun h=>?_));obtain⟨c5,c6,h⟩:=g2 h;refine GN a0 [(3,3,oc c5),(4,4,oc c6)] (ag (GN a0 [(1,1,⟨∃e,Tryz.prog.underlying 98=some (.pointer e),⟨_,rfl⟩⟩)] (aC h (fun B1 h=>?_) (fun B1 h=>?_))))
 ·refine G (av (ai ?_));obtain rfl:=sI h;exact RI [(.slice (.int .u8))]
 refine ae (ab (G (G (ag (G (ak (cC h (fun(v10,v11,A,q)=>aA [(0,.p f (.ptr mu) B),(5,.sl 0),(6,.sl 1),(7,.sl 2),(8,.bo A),(26,.p z (.slice (.int .i64)) j),(27,.i64 (j.length:Int)),(28,.i64 q)] (F9 ((List.replicate (i64.wrap ((j.length:Int)+1)).toNat (0:Int)).set ((j.length:Int).toNat) 2) v10 v11) 3) 0 (fun(C,N)=>aA [(0,.p f (.ptr mu) B),(5,.sl 0),(6,.sl 1),(7,.sl 2)] (F9 ((List.replicate (i64.wrap ((j.length:Int)+1)).toNat (0:Int)).set ((j.length:Int).toNat) 2) C N) 3) (gg [.nilS 6 152 3 (.int .i64),.nilS 7 153 3 (.int .i64)] [32,152,153]) (fun y o h=>?_) (fun r1 h=>?_))))))))
 ·obtain⟨v10,v11,A,q⟩:=y;unfold dc at h;refine G (ag (aC h (fun b1 h=>?_) (fun b1 h=>?_)))
  ·refine ae (ab (ag (ak (GC 1 h (fun h=>ag (ag (bA h (fun E=>aA [(0,.p f (.ptr mu) B),(5,.sl 0),(6,.sl 1),(7,.sl 2),(8,.bo A),(9,.i64 q),(10,.i64 (j.getD q.toNat 0)),(26,.p z (.slice (.int .i64)) j),(27,.i64 (j.length:Int)),(28,.i64 q),(44,.bo E)] (F9 ((List.replicate (i64.wrap ((j.length:Int)+1)).toNat (0:Int)).set ((j.length:Int).toNat) 2) v10 v11) 3) (fun E h=>?_) (fun E h=>?_))))))))
   ·rcases aM h with⟨x,h⟩ | ⟨x,h⟩
    ·exact bB ⟨[(2,true),(11,true)],[]⟩ [(3,11,oc x)] (eN h (gg [] [0,1,2]))
    obtain⟨b2,h⟩:=aE h;exact bB ⟨[(2,false),(11,false)],[]⟩ [(3,4,an x),(5,5,oc (And.intro x b2)),(6,10,an x),(11,11,oc x)] (eN h (gg [] [0,1,2]))
   refine ab (bA h (fun D=>aA [(0,.p f (.ptr mu) B),(5,.sl 0),(6,.sl 1),(7,.sl 2),(8,.bo A),(9,.i64 q),(10,.i64 D),(26,.p z (.slice (.int .i64)) j),(27,.i64 (j.length:Int)),(28,.i64 q)] (F9 ((List.replicate (i64.wrap ((j.length:Int)+1)).toNat (0:Int)).set ((j.length:Int).toNat) 2) v10 v11) 3) (fun D h=>?_) (fun D h=>?_))
   ·refine aC h (fun b3 h=>?_) (fun b3 h=>?_)
    ·exact Ge (eN h (gg [] [0,1,2]))
    exact ae (eN h (gg [] [0,1,2]))
   refine ab (ag (ag (bA h (fun I=>aA [(0,.p f (.ptr mu) B),(5,.sl 0),(6,.sl 1),(7,.sl 2),(8,.bo A),(9,.i64 q),(10,.i64 D),(26,.p z (.slice (.int .i64)) j),(27,.i64 (j.length:Int)),(28,.i64 q),(56,.bo I)] (F9 ((List.replicate (i64.wrap ((j.length:Int)+1)).toNat (0:Int)).set ((j.length:Int).toNat) 2) v10 v11) 3) (fun I h=>?_) (fun I h=>?_))))
   ·rcases aM h with⟨u,h⟩ | ⟨u,h⟩
    ·obtain⟨b4,b5,h⟩:=g2 h;exact bB ⟨[(1,true),(11,true)],[]⟩ [(2,2,an u),(3,3,oc (And.intro u b4)),(4,7,an u),(8,8,oc (And.intro u b5)),(9,10,an u),(11,11,oc u)] (eN h (gg [] [0,1,2]))
    exact bB ⟨[(1,false),(11,false)],[]⟩ [(2,11,oc u)] (eN h (gg [] [0,1,2]))
   refine ab (aC h (fun b6 h=>?_) (fun b6 h=>?_))
   ·refine au (aP (aw (ab (Ge ?_))));exact eB h (gg [] [0,1,2])
   refine ae (ab ?_);obtain⟨b7,b8,h⟩:=g2 h;refine GN a0 [(1,1,oc b7),(6,6,oc b8)] ?_;obtain⟨b9,be,bi,bs,h⟩:=g4 h;refine nQ a0 [(3,3,oc b9),(6,6,oc be),(11,11,oc bi),(14,14,oc bs)] (ay (ab (Ge ?_)));exact eB h (gg [] [0,107,195])
  refine au (aP ?_);exact eX h (gg [] [0,1,2])
 obtain⟨C,N⟩:=r1;refine aw (ab ?_);obtain⟨bv,h⟩:=aE h;obtain⟨r3,q2,h⟩:=aj h;have v:=(tp f f true q2);refine GN ⟨[],[(5,(oP v))]⟩ [(1,1,oc bv),(5,5,oc v)] ?_;obtain⟨r5,q4,h⟩:=aj h;refine GO 1 [2] (j3 q4) ?_;obtain⟨bx,h⟩:=aE h;obtain⟨r7,q6,h⟩:=aj h;have v:=(tp f f true q6);refine GN ⟨[],[(5,(oP v))]⟩ [(1,1,oc bx),(5,5,oc v)] (ag (G (ak (cC h (fun(O,J)=>aA [(0,.p f (.ptr mu) B),(5,.sl 0),(6,.sl 1),(11,.p false (.slice (.int .i64)) r3),(12,.p false (.slice (.int .i64)) r7),(13,.i64 J)] [(0,.arr 91 (.int .u8) O),(1,.arr 3 (.int .i64) C)] 2) 2 (fun V=>aA [(5,.sl 0)] [(0,.arr 91 (.int .u8) V)] 1) (gg [] [0,1]) (fun y o h=>?_) (fun V h=>?_)))))
 ·obtain⟨O,J⟩:=y;unfold dn at h;refine ag (G (aC h (fun c1 h=>?_) (fun c1 h=>?_)))
  ·refine ae (ab (ag (ak ?_)));obtain⟨X,Y,Z,a1,h⟩:=g4 h;obtain⟨a2,a3,h⟩:=g2 h;refine GD a0 [(1,1,oc X),(7,7,oc Y),(9,9,oc Z),(12,12,oc a1),(21,21,oc a2),(23,23,oc a3)] ?_;obtain⟨a4,a5,a6,a7,h⟩:=g4 h;refine GN a0 [(3,3,oc a4),(4,4,oc a5),(5,5,oc a6),(6,6,oc a7)] (G (bA h (fun L=>aA [(0,.p f (.ptr mu) B),(5,.sl 0),(6,.sl 1),(11,.p false (.slice (.int .i64)) r3),(12,.p false (.slice (.int .i64)) r7),(13,.i64 J)] [(0,.arr 91 (.int .u8) L),(1,.arr 3 (.int .i64) C)] 2) (fun L h=>?_) (fun L h=>?_)))
   ·refine aC h (fun c2 h=>?_) (fun c2 h=>?_)
    ·obtain⟨a8,a9,aa,h⟩:=g3 h;obtain⟨c4,c3,h⟩:=aj h;obtain⟨ac,ad,ax,h⟩:=g3 h;have v:=(mC c3);exact nQ ⟨[],[(11,(oP v))]⟩ [(3,3,oc a8),(4,4,oc a9),(6,6,oc aa),(11,11,oc v),(12,12,oc ac),(15,15,oc ad),(16,16,oc ax)] (eN h (gg [] [0,1]))
    exact ae (eN h (gg [] [0,1]))
   refine ay (ab (Ge ?_));exact eB h (gg [] [0,1])
  refine au (aP ?_);exact eX h (gg [] [0])
 refine aw (ab (G (av ?_)));obtain rfl:=sI h;exact RI [(.slice (.int .u8))]
def ez(e:Int)(f:Option Z3)(j:Int):Option (Bool) :=
 (if f.isSome=true then(if 0≤e∧e<(((f.getD (Ty.zero nG)).1).length:Int)then some (decide (((((f.getD (Ty.zero nG)).1).getD e.toNat (0,0,0)).2.1)≥j))else none)else none)
theorem ml(f:Bool){j:Int}{q:Option Z3}{u:Int}{e:Bool}(h:ez j q u=some e):
  Pure Tryz.prog 107 [.i64 j,.fad true [.p f (.ptr nG) q] 0,.fad true [.i32 u] 0] (aK (bf false [⟨.bool,e⟩])):=by
 refine PB Tryz.func107 (fun Bw w0=>?_);unfold ez at h;refine G ?_;obtain⟨v,x,h⟩:=g2 h;refine GD a0 [(1,1,oc v),(5,5,oc x)] (av ?_);obtain rfl:=sI h;exact RI [.bool]
def n9(j:Option Z3)(p:Int):(Int×Int)→Option ((Int×Int)⊕(Int)):=fun(e,f) =>
 (if(decide (e<f))=true then(if 0≤(1:Int)then((ez (i64.wrap (Int.fdiv (u64.wrap (i64.wrap (e+f))) (2 ^ (min (1:Int).toNat u64.bits)))) j p).bind fun q =>
 (if(!q)=true then some (Sum.inl ((i64.wrap ((i64.wrap (Int.fdiv (u64.wrap (i64.wrap (e+f))) (2 ^ (min (1:Int).toNat u64.bits))))+1)),f))
 else some (Sum.inl (e,(i64.wrap (Int.fdiv (u64.wrap (i64.wrap (e+f))) (2 ^ (min (1:Int).toNat u64.bits))))))))else none)
 else some (Sum.inr e))
def oG(e:Int)(f:Option Z3)(j:Int):Option (Int) :=
 ((iter (n9 f j) (0,e)).bind fun p=>some p)
theorem vv(e:Bool){u:Int}{j:Option Z3}{q f:Int}(h:oG u j q=some f):
  Pure Tryz.prog 106 [.i64 u,.fn 107 [.fad true [.p e (.ptr nG) j] 0,.fad true [.i32 q] 0]] (aK (bf false [⟨(.int .i64),f⟩])):=by
 refine PB Tryz.func106 (fun Bw w0=>?_);unfold oG at h;refine G (G (ag (ak (cC h (fun(v,x)=>aA [(1,.fn 107 [.fad true [.p e (.ptr nG) j] 0,.fad true [.i32 q] 0]),(5,.i64 v),(6,.i64 x)] [] 0) 0 (fun z=>aA [(5,.i64 z)] [] 0) (gg [] []) (fun y o h=>?_) (fun z h=>?_)))))
 ·obtain⟨v,x⟩:=y;unfold n9 at h;refine ag (G (aC h (fun A h=>?_) (fun A h=>?_)))
  ·refine ae (ab (ak (GC 4 h (fun h=>?_))));obtain⟨D,B,h⟩:=aj h;refine GP 2 (ml e B) (aC h (fun C h=>?_) (fun C h=>?_))
   ·refine Ge (ay ?_);exact eB h (gg [] [])
   refine Ge (ay ?_);exact eB h (gg [] [])
  refine au (aP ?_);exact eX h (gg [] [])
 refine aw (ab (G (av ?_)));obtain rfl:=sI h;exact RI [(.int .i64)]
def dJ(e:Option Z3)(j:Int):Option (Int×Bool) :=
 (if e.isNone=true then some (0,false)
 else(if e.isSome=true then((oG (((e.getD (Ty.zero nG)).1).length:Int) e j).bind fun f =>
 (((if e.isSome=true then(if(f == (((e.getD (Ty.zero nG)).1).length:Int))=true then some (true)
 else(if e.isSome=true then(if 0≤f∧f<(((e.getD (Ty.zero nG)).1).length:Int)then some ((decide (((((e.getD (Ty.zero nG)).1).getD f.toNat (0,0,0)).1) > j)))else none)else none))else none)).bind fun v1=>(if v1=true then some (0,false)
 else(if e.isSome=true then(if 0≤f∧f<(((e.getD (Ty.zero nG)).1).length:Int)then(if e.isSome=true then(if 0≤f∧f<(((e.getD (Ty.zero nG)).1).length:Int)then some ((i32.wrap ((i32.wrap ((i32.wrap ((((e.getD (Ty.zero nG)).1).getD f.toNat (0,0,0)).2.2))+j)) - ((((e.getD (Ty.zero nG)).1).getD f.toNat (0,0,0)).1))),true)else none)else none)else none)else none))))else none))
theorem nm(j:Bool){v:Option Z3}{x:Int}{q:Int×Bool}(h:dJ v x=some q):
  Pure Tryz.prog 71 [.p j (.ptr nG) v,.i32 x] (aK (bf false [⟨(.int .i32),q.1⟩,⟨.bool,q.2⟩])):=by
 refine PB Tryz.func71 (fun Bw w0=>?_);unfold dJ at h;refine G (ag (GN a0 [(1,1,⟨∃e,Tryz.prog.underlying 100=some (.pointer e),⟨_,rfl⟩⟩)] (aC h (fun J h=>?_) (fun J h=>?_))))
 ·refine G (av (ai ?_));obtain rfl:=sI h;exact RI [(.int .i32),.bool]
 refine ae (ab ?_);obtain⟨L,h⟩:=aE h;obtain⟨M,N,h⟩:=aj h;have u:=(vv j N);refine GN ⟨[],[(6,(oP u))]⟩ [(1,1,oc L),(6,6,oc u)] (ag (ag (bA h (fun v1=>aA [(2,.adr 0 0 1 0),(3,.adr 1 0 1 0),(6,.i64 M),(34,.bo v1)] [(0,.box [.p j (.ptr nG) v]),(1,.box [.i32 x])] 2) (fun v1 h=>?_) (fun v1 h=>?_))))
 ·obtain⟨I,h⟩:=aE h;rcases aM h with⟨f,h⟩ | ⟨f,h⟩
  ·exact nQ ⟨[(7,true),(18,true)],[]⟩ [(2,2,oc I),(8,18,oc f)] (eN h (gg [] [0,8]))
  obtain⟨z,A,h⟩:=g2 h;exact nQ ⟨[(7,false),(18,false)],[]⟩ [(2,2,oc I),(8,8,an f),(9,9,oc (And.intro f z)),(10,12,an f),(13,13,oc (And.intro f A)),(14,17,an f),(18,18,oc f)] (eN h (gg [] [0,8]))
 refine ab (aC h (fun O h=>?_) (fun O h=>?_))
 ·refine G (av (ai ?_));obtain rfl:=sI h;exact RI [(.int .i32),.bool]
 refine ae (ab ?_);obtain⟨B,C,D,E,h⟩:=g4 h;refine GD a0 [(1,1,oc B),(5,5,oc C),(12,12,oc D),(16,16,oc E)] (av ?_);obtain rfl:=sI h;exact RI [(.int .i32),.bool]
def kj(v:Option G1)(j p:Int):tG→Option (tG⊕QK):=fun(f,e) =>
 (if(decide (e<(((((v.getD (Ty.zero sR)).1).getD p.toNat ([],([]:QK))).2).length:Int)))=true then(if 0≤e∧e<(((((v.getD (Ty.zero sR)).1).getD p.toNat ([],([]:QK))).2).length:Int)then(((if(decide ((i64.wrap ((i64.wrap (j+e)) - 1))≥0))=true then some ((decide ((i64.wrap ((i64.wrap (j+e)) - 1))<(f.length:Int))))
 else some (false))).bind fun q=>(((if q=true then(if 0≤(i64.wrap ((i64.wrap (j+e)) - 1))∧(i64.wrap ((i64.wrap (j+e)) - 1))<(f.length:Int)then(if(i64.wrap ((i64.wrap (j+e)) - 1)).toNat<f.length then(if 0≤(i64.wrap ((i64.wrap (j+e)) - 1))∧(i64.wrap ((i64.wrap (j+e)) - 1))<(f.length:Int)then(if(i64.wrap ((i64.wrap (j+e)) - 1)).toNat<f.length then some ((f.set ((i64.wrap ((i64.wrap (j+e)) - 1)).toNat) (max (f.getD ((i64.wrap ((i64.wrap (j+e)) - 1)).toNat) 0) (((((v.getD (Ty.zero sR)).1).getD p.toNat ([],([]:QK))).2).getD e.toNat 0))))else none)else none)else none)else none)
 else some (f))).bind fun u=>some (Sum.inl (u,(i64.wrap (e+1))))))else none)
 else some (Sum.inr f))
def kq(p:Option G1)(q:QK)(v:Int):(QK×Int×Int)→Option ((QK×Int×Int)⊕QK):=fun(u,e,f) =>
 (if p.isSome=true then(if 0≤e∧e<(((p.getD (Ty.zero sR)).1).length:Int)then((iter (kj p v e) (u,0)).bind fun j=>(if(f == (((([46]:QK)++q)++([46]:QK)).length:Int))=true then some (Sum.inr j)
 else(if p.isSome=true then(if 0≤e∧e<(((p.getD (Ty.zero sR)).1).length:Int)then(if 0≤f∧f<(((([46]:QK)++q)++([46]:QK)).length:Int)then(if f.toNat<((([46]:QK)++q)++([46]:QK)).length then(if(!((bg (α:=Int) (.int .i32) ((((p.getD (Ty.zero sR)).1).getD e.toNat ([],([]:QK))).1) (((([46]:QK)++q)++([46]:QK)).getD f.toNat 0)).isSome))=true then some (Sum.inr j)
 else some (Sum.inl (j,((bg (α:=Int) (.int .i32) ((((p.getD (Ty.zero sR)).1).getD e.toNat ([],([]:QK))).1) (((([46]:QK)++q)++([46]:QK)).getD f.toNat 0)).getD 0),(i64.wrap (f+1)))))else none)else none)else none)else none)))else none)else none)
def ke(q:Option G1)(p:QK):tG→Option (tG⊕QK):=fun(f,e) =>
 (if(decide (e<(((([46]:QK)++p)++([46]:QK)).length:Int)))=true then((iter (kq q p e) (f,0,e)).bind fun j=>some (Sum.inl (j,(i64.wrap (e+1)))))
 else some (Sum.inr f))
def fm(j:Option G1)(e:QK):Option QK :=
 (if 0≤(i64.wrap ((e.length:Int)+1))∧(i64.wrap ((e.length:Int)+1))≤(i64.wrap ((e.length:Int)+1))∧1*(i64.wrap ((e.length:Int)+1))≤281474976710656∧(i64.wrap ((e.length:Int)+1))≤9223372036854775807 then(if j.isNone=true then some (List.replicate (i64.wrap ((e.length:Int)+1)).toNat (0:Int))
 else(if(([46]:QK).length+e.length)*4≤140737488355328∧([46]:QK).length+e.length≤9223372036854775807 then(if((([46]:QK)++e).length+([46]:QK).length)*4≤140737488355328∧(([46]:QK)++e).length+([46]:QK).length≤9223372036854775807 then((iter (ke j e) ((List.replicate (i64.wrap ((e.length:Int)+1)).toNat (0:Int)),0)).bind fun f=>some f)else none)else none))else none)
theorem pB(q ac:Bool){x:Option G1}{z L:QK}(h:fm x z=some L):
  Pure Tryz.prog 108 [.p q (.ptr sR) x,.p ac (.slice (.int .i32)) z] (aK (bf false [⟨(.slice (.int .u8)),L⟩])):=by
 refine PB Tryz.func108 (fun Bw w0=>?_);unfold fm at h;refine G (GC 3 h (fun h=>ag (GN a0 [(1,1,⟨∃e,Tryz.prog.underlying 160=some (.pointer e),⟨_,rfl⟩⟩)] (aC h (fun B1 h=>?_) (fun B1 h=>?_)))))
 ·refine G (av (ai ?_));obtain rfl:=sI h;exact RI [(.slice (.int .u8))]
 refine ae (ab ?_);obtain⟨c5,c6,h⟩:=g2 h;refine GN a0 [(2,2,oc c5),(4,4,oc c6)] (ag (G (ak (cC h (fun(M,j)=>aA [(0,.p q (.ptr sR) x),(5,.sl 0),(6,.sl 1),(28,.i64 (((([46]:QK)++z)++([46]:QK)).length:Int)),(29,.i64 j)] [(0,.arr 5 (.int .u8) M),(1,.arr 21 (.int .i32) ((([46]:QK)++z)++([46]:QK)))] 2) 0 (fun N=>aA [(5,.sl 0)] [(0,.arr 5 (.int .u8) N)] 1) (gg [] [32,96]) (fun y o h=>?_) (fun N h=>?_)))))
 ·obtain⟨M,j⟩:=y;unfold ke at h;refine G (ag (aC h (fun O h=>?_) (fun O h=>?_)))
  ·refine ae (ab (ag (ak (G (G (G (ak (cC h (fun(E,f,u)=>aA [(0,.p q (.ptr sR) x),(5,.sl 0),(6,.sl 1),(7,.i64 j),(8,.i64 f),(9,.i64 u),(28,.i64 (((([46]:QK)++z)++([46]:QK)).length:Int)),(29,.i64 j)] [(0,.arr 5 (.int .u8) E),(1,.arr 21 (.int .i32) ((([46]:QK)++z)++([46]:QK)))] 2) 2 (fun I=>aA [(0,.p q (.ptr sR) x),(5,.sl 0),(6,.sl 1),(28,.i64 (((([46]:QK)++z)++([46]:QK)).length:Int)),(29,.i64 j)] [(0,.arr 5 (.int .u8) I),(1,.arr 21 (.int .i32) ((([46]:QK)++z)++([46]:QK)))] 2) (gg [] [0,1]) (fun y o h=>?_) (fun I h=>?_)))))))))
   ·obtain⟨E,f,u⟩:=y;unfold kq at h;refine ag (ak (ag ?_));obtain⟨V,X,h⟩:=g2 h;refine GN a0 [(1,1,oc V),(5,5,oc X)] (ak ?_);refine cC h (fun(B,v)=>aA [(0,.p q (.ptr sR) x),(5,.sl 0),(6,.sl 1),(7,.i64 j),(8,.i64 f),(9,.i64 u),(28,.i64 (((([46]:QK)++z)++([46]:QK)).length:Int)),(29,.i64 j),(42,.p q (.slice (.int .u8)) ((((x.getD (Ty.zero sR)).1).getD f.toNat ([],([]:QK))).2)),(43,.i64 (((((x.getD (Ty.zero sR)).1).getD f.toNat ([],([]:QK))).2).length:Int)),(44,.i64 v)] [(0,.arr 5 (.int .u8) B),(1,.arr 21 (.int .i32) ((([46]:QK)++z)++([46]:QK)))] 2) 4 (fun J=>aA [(0,.p q (.ptr sR) x),(5,.sl 0),(6,.sl 1),(7,.i64 j),(8,.i64 f),(9,.i64 u),(28,.i64 (((([46]:QK)++z)++([46]:QK)).length:Int)),(29,.i64 j)] [(0,.arr 5 (.int .u8) J),(1,.arr 21 (.int .i32) ((([46]:QK)++z)++([46]:QK)))] 2) (gg [] [0,1]) (fun y o h=>?_) (fun J h=>?_)
    ·obtain⟨B,v⟩:=y;unfold kj at h;refine G (ag (aC h (fun Y h=>?_) (fun Y h=>?_)))
     ·refine ae (ab (ag (ak (GC 1 h (fun h=>G (ag ?_))))));refine bA h (fun C=>aA [(0,.p q (.ptr sR) x),(5,.sl 0),(6,.sl 1),(7,.i64 j),(8,.i64 f),(9,.i64 u),(11,.u8 (((((x.getD (Ty.zero sR)).1).getD f.toNat ([],([]:QK))).2).getD v.toNat 0)),(12,.i64 (i64.wrap ((i64.wrap (j+v)) - 1))),(28,.i64 (((([46]:QK)++z)++([46]:QK)).length:Int)),(29,.i64 j),(42,.p q (.slice (.int .u8)) ((((x.getD (Ty.zero sR)).1).getD f.toNat ([],([]:QK))).2)),(43,.i64 (((((x.getD (Ty.zero sR)).1).getD f.toNat ([],([]:QK))).2).length:Int)),(44,.i64 v),(60,.bo C)] [(0,.arr 5 (.int .u8) B),(1,.arr 21 (.int .i32) ((([46]:QK)++z)++([46]:QK)))] 2) (fun C h=>?_) (fun C h=>?_)
      ·rcases aM h with⟨A,h⟩ | ⟨A,h⟩
       ·exact bB ⟨[(2,true),(7,true)],[]⟩ [(3,6,an A),(7,7,oc A)] (eN h (gg [] [0,1]))
       exact bB ⟨[(2,false),(7,false)],[]⟩ [(3,7,oc A)] (eN h (gg [] [0,1]))
      refine ab (bA h (fun D=>aA [(0,.p q (.ptr sR) x),(5,.sl 0),(6,.sl 1),(7,.i64 j),(8,.i64 f),(9,.i64 u),(28,.i64 (((([46]:QK)++z)++([46]:QK)).length:Int)),(29,.i64 j),(42,.p q (.slice (.int .u8)) ((((x.getD (Ty.zero sR)).1).getD f.toNat ([],([]:QK))).2)),(43,.i64 (((((x.getD (Ty.zero sR)).1).getD f.toNat ([],([]:QK))).2).length:Int)),(44,.i64 v)] [(0,.arr 5 (.int .u8) D),(1,.arr 21 (.int .i32) ((([46]:QK)++z)++([46]:QK)))] 2) (fun D h=>?_) (fun D h=>?_))
      ·refine aC h (fun Z h=>?_) (fun Z h=>?_)
       ·obtain⟨a1,a2,a3,a4,h⟩:=g4 h;exact bB a0 [(4,4,oc a1),(5,5,oc a2),(8,8,oc a3),(9,9,oc a4)] (eN h (gg [] [0,1]))
       exact ae (eN h (gg [] [0,1]))
      refine ay (ab (Ge ?_));exact eB h (gg [] [0,1])
     refine au (aP ?_);exact eX h (gg [] [0,1])
    refine aw (ab (ag (G (aC h (fun a5 h=>?_) (fun a5 h=>?_)))))
    ·refine au (aP (jo rfl (aP ?_)));exact eX h (gg [] [0,1])
    refine ae (ab ?_);obtain⟨a6,a7,a8,a9,h⟩:=g4 h;refine GD a0 [(1,1,oc a6),(5,5,oc a7),(10,10,oc a8),(11,11,oc a9)] (ag (G (aC h (fun aa h=>?_) (fun aa h=>?_))))
    ·refine au (aP (jo rfl (aP ?_)));exact eX h (gg [] [0,1])
    refine ae (ab (Ge (ay (ab (Ge ?_)))));exact eB h (gg [] [0,1])
   refine aw (ay (ab (Ge ?_)));exact eB h (gg [] [0,1])
  refine au (aP ?_);exact eX h (gg [] [0])
 refine aw (ab (G (av ?_)));obtain rfl:=sI h;exact RI [(.slice (.int .u8))]
def gN(e p f:QK):Option (Bool) :=
 ((cw e f).bind fun j =>
 some j)
theorem nD(e q f:Bool){u v x:QK}{j:Bool}(h:gN u v x=some j):
  Pure Tryz.prog 110 [.agg [.p e (.slice (.int .i32)) u,.p q (.slice (.int .u8)) v],.fad true [.p f (.slice (.int .i32)) x] 0] (aK (bf false [⟨.bool,j⟩])):=by
 refine PB Tryz.func110 (fun Bw w0=>?_);unfold gN at h;refine G ?_;obtain⟨A,z,h⟩:=aj h;refine GP 3 (fX e f z) (av ?_);obtain rfl:=sI h;exact RI [.bool]
def lY(f:List Z8)(j:QK):(Int)→Option ((Int)⊕((Unit)⊕(Int))):=fun e =>
 (if(decide (e<(f.length:Int)))=true then(if 0≤e∧e<(f.length:Int)then((gN ((f.getD e.toNat ([],([]:QK))).1) ((f.getD e.toNat ([],([]:QK))).2) j).bind fun p =>
 (if p=true then some (Sum.inr (Sum.inr e))
 else some (Sum.inl (i64.wrap (e+1)))))else none)
 else some (Sum.inr (Sum.inl ())))
def iX(e:List Z8)(f:QK):Option (Int) :=
 ((iter (lY e f) (0:Int)).bind fun(j:((Unit)⊕(Int)))=>match j with
 | .inl _=>some (-1:Int)
 | .inr (p)=>some p)
theorem rE(f j:Bool){v:List Z8}{x:QK}{q:Int}(h:iX v x=some q):
  Pure Tryz.prog 109 [.p f (.slice qt) v,.fn 110 [.fad true [.p j (.slice (.int .i32)) x] 0]] (aK (bf false [⟨(.int .i64),q⟩])):=by
 refine PB Tryz.func109 (fun Bw w0=>?_);unfold iX at h;refine G (ag (G (ak (kr h (fun A=>aA [(0,.p f (.slice qt) v),(1,.fn 110 [.fad true [.p j (.slice (.int .i32)) x] 0]),(7,.i64 (v.length:Int)),(8,.i64 A)] [] 0) (dx (fg Tryz.f109.ntmps 0 (fun _=>aA [] [] 0)) (gm tb Tryz.f109.results.toList (fun B=>[⟨(.int .i64),B⟩]))) (gg [] []) (fun A o h=>?_) (fun D h e σ' C=>?_)))))
 ·unfold lY at h;refine G (ag (aC h (fun E h=>?_) (fun E h=>?_)))
  ·refine ae (ab (ag (ak (G ?_))));obtain⟨I,h⟩:=aE h;obtain⟨N,J,h⟩:=aj h;have u:=(nD f f j J);refine GN ⟨[],[(5,(oP u))]⟩ [(3,3,oc I),(5,5,oc u)] (aC h (fun L h=>?_) (fun L h=>?_))
   ·refine G (av ?_);obtain rfl:=sI h;refine az (ai (bL (aL ?_)));exact bK (RI [(.int .i64)])
   refine ae (ay (ab (Ge ?_)));exact eB h (gg [] [])
  refine au (aP ?_);obtain rfl:=sI h;refine dK (bk ?_);exact bT (gg [] [])
 rcases D with _ | B
 ·obtain⟨rfl,z⟩:=C;refine cJ ?_ z;refine aw (ab (G (av ?_)));obtain rfl:=sI h;exact RI [(.int .i64)]
 obtain⟨rfl,M⟩:=C;refine az (ai ?_);obtain rfl:=sI h;exact M
def gn(q:Option Z3)(p e:QK):((List Bool)×Int)→Option (((List Bool)×Int)⊕(List Bool)):=fun(f,j) =>
 (if q.isSome=true then(if(decide (j≤(i64.wrap ((p.length:Int) - ((q.getD (Ty.zero nG)).2.2.2.2)))))=true then(if 0≤j∧j<(e.length:Int)then(if ¬(2:Int)=0 then(if 0≤j∧j<(f.length:Int)then(if j.toNat<f.length then some (Sum.inl ((f.set j.toNat ((Int.tmod (e.getD j.toNat 0) (2:Int)) == 1)),(i64.wrap (j+1))))else none)else none)else none)else none)
 else some (Sum.inr f))else none)
def eL(f:Option Z3)(e:QK):Option (List Bool) :=
 (if 0≤(i64.wrap ((e.length:Int)+1))∧(i64.wrap ((e.length:Int)+1))≤(i64.wrap ((e.length:Int)+1))∧1*(i64.wrap ((e.length:Int)+1))≤281474976710656∧(i64.wrap ((e.length:Int)+1))≤9223372036854775807 then(if f.isNone=true then some (List.replicate (i64.wrap ((e.length:Int)+1)).toNat false)
 else(if f.isSome=true then((fm ((f.getD (Ty.zero nG)).2.1) e).bind fun u =>
 (if f.isSome=true then((iX ((f.getD (Ty.zero nG)).2.2.1) e).bind fun q =>
 (((if(decide (q≥0))=true then(if f.isSome=true then(if 0≤q∧q<(((f.getD (Ty.zero nG)).2.2.1).length:Int)then some ((((f.getD (Ty.zero nG)).2.2.1).getD q.toNat ([],([]:QK))).2)else none)else none)
 else some (u))).bind fun j=>(if f.isSome=true then((iter (gn f e j) ((List.replicate (i64.wrap ((e.length:Int)+1)).toNat false),(f.getD (Ty.zero nG)).2.2.2.1)).bind fun p=>some p)else none)))else none))else none))else none)
theorem o5(q:Bool){A:Option Z3}{j:QK}{z:List Bool}(h:eL A j=some z):
  Pure Tryz.prog 72 [.p false (.ptr nG) A,.p q (.slice (.int .i32)) j] (aK (bf false [⟨(.slice .bool),z⟩])):=by
 refine PB Tryz.func72 (fun Bw w0=>?_);unfold eL at h;refine G (GC 3 h (fun h=>ag (GN a0 [(1,1,⟨∃e,Tryz.prog.underlying 100=some (.pointer e),⟨_,rfl⟩⟩)] (aC h (fun N h=>?_) (fun N h=>?_)))))
 ·refine G (av (ai ?_));obtain rfl:=sI h;exact RI [(.slice .bool)]
 refine ae (ab ?_);obtain⟨O,h⟩:=aE h;obtain⟨r2,V,h⟩:=aj h;have u:=(pB false q V);refine GD ⟨[],[(5,(oP u))]⟩ [(1,1,oc O),(5,5,oc u)] (ag ?_);obtain⟨X,h⟩:=aE h;obtain⟨r4,Y,h⟩:=aj h;have u:=(rE false q Y);refine GN ⟨[],[(5,(oP u))]⟩ [(1,1,oc X),(5,5,oc u)] (G (bA h (fun f=>aA [(0,.p false (.ptr nG) A),(3,.adr 0 0 1 0),(5,.sl 1),(6,.p false (.slice (.int .u8)) f)] (KF q j (List.replicate (i64.wrap ((j.length:Int)+1)).toNat false)) 2) (fun f h=>?_) (fun f h=>?_)))
 ·refine aC h (fun Z h=>?_) (fun Z h=>?_)
  ·obtain⟨B,C,h⟩:=g2 h;exact bB a0 [(1,1,oc B),(5,5,oc C)] (eN h (gg [] [0,40]))
  exact ae (eN h (gg [] [0,40]))
 refine ab (ag (GC 1 h (fun h=>ak (cC h (fun(v,M)=>aA [(0,.p false (.ptr nG) A),(3,.adr 0 0 1 0),(5,.sl 1),(6,.p false (.slice (.int .u8)) f),(8,.i64 M)] (KF q j v) 2) 0 (fun x=>aA [(5,.sl 0)] [(0,.arr 4 .bool x)] 1) (gg [] [0,1]) (fun y o h=>?_) (fun x h=>?_)))))
 ·obtain⟨v,M⟩:=y;unfold gn at h;refine ag ?_;obtain⟨D,h⟩:=aE h;refine GD a0 [(4,4,oc D)] (aC h (fun B6 h=>?_) (fun B6 h=>?_))
  ·refine ae (ab (ag (ak ?_)));obtain⟨E,I,J,L,h⟩:=g4 h;refine bB a0 [(4,4,oc E),(6,6,oc I),(8,8,oc J),(9,9,oc L)] (ay (ab (Ge ?_)));exact eB h (gg [] [0,1])
  refine au (aP ?_);exact eX h (gg [] [1])
 refine aw (ab (G (av ?_)));obtain rfl:=sI h;exact RI [(.slice .bool)]
def iV(u:Option Z3)(p:XK):(Int×QK)→Option ((Int×QK)⊕(Int×QK)):=fun(f,e) =>
 (if(decide (f<(p.length:Int)))=true then(if 0≤f∧f<(p.length:Int)then((dJ u ((p.getD f.toNat (0,0,0)).1)).bind fun(j,q) =>
 (if(!q)=true then some (Sum.inr (f,e))
 else(if(e.length+([j]:QK).length)*4≤140737488355328∧e.length+([j]:QK).length≤9223372036854775807 then some (Sum.inl ((i64.wrap (f+1)),(e++([j]:QK))))else none)))else none)
 else some (Sum.inr (f,e)))
def iU(q:Option Z3)(u:XK):((List Bool)×Int)→Option (((List Bool)×Int)⊕(List Bool)):=fun(f,i8) =>
 (if(decide (i8<(u.length:Int)))=true then((iter (iV q u) (i8,([]:QK))).bind fun(p,e)=>(if 0≤i8∧i8≤(f.length:Int)then((eL q e).bind fun j =>
 (if 0≤(0:Int)∧0≤(e.length:Int)∧(e.length:Int)≤(j.length:Int)then some (Sum.inl ((f.take i8.toNat++(((j.take (e.length:Int).toNat).drop (0:Int).toNat).take (f.length - i8.toNat)++f.drop (i8.toNat+((j.take (e.length:Int).toNat).drop (0:Int).toNat).length))),(i64.wrap (p+1))))else none))else none))
 else some (Sum.inr f))
def dF(j:Option Z3)(e:XK):Option (List Bool) :=
 (if 0≤(i64.wrap ((e.length:Int)+1))∧(i64.wrap ((e.length:Int)+1))≤(i64.wrap ((e.length:Int)+1))∧1*(i64.wrap ((e.length:Int)+1))≤281474976710656∧(i64.wrap ((e.length:Int)+1))≤9223372036854775807 then((iter (iU j e) ((List.replicate (i64.wrap ((e.length:Int)+1)).toNat false),0)).bind fun f=>some f)else none)
theorem nJ(u:Bool){v:Option Z3}{z:XK}{A:List Bool}(h:dF v z=some A):
  Pure Tryz.prog 40 [.p false (.ptr nG) v,.p u (.slice (.prod (.int .i32) Y2)) z] (aK (bf false [⟨(.slice .bool),A⟩])):=by
 refine PB Tryz.func40 (fun Bw w0=>?_);unfold dF at h;refine G (GC 3 h (fun h=>G (ag (G (ak (cC h (fun(e,i8)=>aA [(0,.p false (.ptr nG) v),(1,.p u (.slice (.prod (.int .i32) Y2)) z),(5,.sl 0),(6,.bfn 71 [.p false (.ptr nG) v]),(7,.i64 i8)] [(0,.arr 4 .bool e)] 1) 0 (fun x=>aA [(5,.sl 0)] [(0,.arr 4 .bool x)] 1) (gg [] [32]) (fun y o h=>?_) (fun x h=>?_)))))))
 ·obtain⟨e,i8⟩:=y;unfold iU at h;refine ag (G (aC h (fun D h=>?_) (fun D h=>?_)))
  ·refine ae (ab (ag (ak (G (G (ag (ak (cC h (fun(B,f)=>aA [(0,.p false (.ptr nG) v),(1,.p u (.slice (.prod (.int .i32) Y2)) z),(5,.sl 0),(6,.bfn 71 [.p false (.ptr nG) v]),(7,.i64 B),(8,.sl 1),(9,.i64 i8)] [(0,.arr 4 .bool e),(1,.arr 21 (.int .i32) f)] 2) 2 (fun(C,j)=>aA [(0,.p false (.ptr nG) v),(1,.p u (.slice (.prod (.int .i32) Y2)) z),(5,.sl 0),(6,.bfn 71 [.p false (.ptr nG) v]),(7,.i64 C),(8,.sl 1),(9,.i64 i8)] [(0,.arr 4 .bool e),(1,.arr 21 (.int .i32) j)] 2) (gg [.nilS 8 57 21 (.int .i32)] [0,57]) (fun y o h=>?_) (fun E h=>?_)))))))))
   ·obtain⟨B,f⟩:=y;unfold iV at h;refine ag (G (aC h (fun I h=>?_) (fun I h=>?_)))
    ·refine ae (ab (ag (ak ?_)));obtain⟨J,h⟩:=aE h;obtain⟨⟨X,Y⟩,L,h⟩:=aj h;have q:=(nm false L);refine GN ⟨[],[(6,(oP q))]⟩ [(3,3,oc J),(6,6,oc q)] (ag (G (aC h (fun M h=>?_) (fun M h=>?_))))
     ·refine au (aP (jo rfl (aP ?_)));exact eX h (gg [] [0,1])
     refine ae (ab (zw 3 h (fun h=>ay (ab (Ge ?_)))));exact eB h (gg [] [0,170])
    refine au (aP ?_);exact eX h (gg [] [0,1])
   obtain⟨C,j⟩:=E;refine aw (ab ?_);obtain⟨N,h⟩:=aE h;obtain⟨Z,O,h⟩:=aj h;obtain⟨V,h⟩:=aE h;have q:=(o5 true O);refine nQ ⟨[],[(5,(oP q))]⟩ [(2,2,oc N),(5,5,oc q),(8,8,oc V)] (ay (ab (Ge ?_)));exact eB h (gg [] [0])
  refine au (aP ?_);exact eX h (gg [] [0])
 refine aw (ab (G (av ?_)));obtain rfl:=sI h;exact RI [(.slice .bool)]
def kS(e:Int):Option (Int) :=
 (if(e == 32)=true then some 1
 else(if(e == 9)=true then some 2
 else some 0))
theorem wG{f e:Int}(h:kS f=some e):
  Pure Tryz.prog 105 [.i32 f] (aK (bf false [⟨(.int .u8),e⟩])):=by
 refine PB Tryz.func105 (fun Bw w0=>?_);unfold kS at h;refine G (ag (G (ak (G (aC h (fun j h=>?_) (fun j h=>?_))))))
 ·refine G (av (az (ai ?_)));obtain rfl:=sI h;exact RI [(.int .u8)]
 refine G (aC h (fun p h=>?_) (fun p h=>?_))
 ·refine G (av (az (ai ?_)));obtain rfl:=sI h;exact RI [(.int .u8)]
 refine ae (ay (ab (G (av ?_))));obtain rfl:=sI h;exact RI [(.int .u8)]
def dw(p:XK)(z:QK)(C:Option yU):(Qj×QK×Int)→Option ((Qj×QK×Int)⊕(Qj×QK)):=fun(q,u,f) =>
 (if(decide (f<(p.length:Int)))=true then(if 0≤f∧f<(p.length:Int)then(((if(f == 0)=true then some (true)
 else(if(decide (f<(z.length:Int)))=true then(if 0≤f∧f<(z.length:Int)then some (((z.getD f.toNat 0) != 0))else none)
 else some (false)))).bind fun A=>(((if A=true then((kS ((p.getD f.toNat (0,0,0)).1)).bind fun v =>
 (if(q.length+([((p.getD f.toNat (0,0,0)).2.1,0,0,v)]:Qj).length)*32≤140737488355328∧q.length+([((p.getD f.toNat (0,0,0)).2.1,0,0,v)]:Qj).length≤9223372036854775807 then(if(u.length+([f]:QK).length)*8≤140737488355328∧u.length+([f]:QK).length≤9223372036854775807 then some (((q++([((p.getD f.toNat (0,0,0)).2.1,0,0,v)]:Qj)),(u++([f]:QK))))else none)else none))
 else some ((q,u)))).bind fun(e,j)=>(if 0≤(i64.wrap ((e.length:Int) - 1))∧(i64.wrap ((e.length:Int) - 1))<(e.length:Int)then(if 0≤(i64.wrap ((j.length:Int) - 1))∧(i64.wrap ((j.length:Int) - 1))<(j.length:Int)then(if(i64.wrap ((j.length:Int) - 1)).toNat<j.length then(((if((j.getD ((i64.wrap ((j.length:Int) - 1)).toNat) 0) != f)=true then(if(i64.wrap ((e.length:Int) - 1)).toNat<e.length then some ((e.set ((i64.wrap ((e.length:Int) - 1)).toNat) ((e.getD ((i64.wrap ((e.length:Int) - 1)).toNat) (0,0,0,0)).1,(e.getD ((i64.wrap ((e.length:Int) - 1)).toNat) (0,0,0,0)).2.1,(e.getD ((i64.wrap ((e.length:Int) - 1)).toNat) (0,0,0,0)).2.2.1,0)))else none)
 else some (e))).bind fun v20=>(if(i64.wrap ((e.length:Int) - 1)).toNat<v20.length then(if(i64.wrap ((e.length:Int) - 1)).toNat<v20.length then(if(i64.wrap ((e.length:Int) - 1)).toNat<(v20.set ((i64.wrap ((e.length:Int) - 1)).toNat) ((v20.getD ((i64.wrap ((e.length:Int) - 1)).toNat) (0,0,0,0)).1,(i64.wrap (((v20.getD ((i64.wrap ((e.length:Int) - 1)).toNat) (0,0,0,0)).2.1)+((p.getD f.toNat (0,0,0)).2.2))),(v20.getD ((i64.wrap ((e.length:Int) - 1)).toNat) (0,0,0,0)).2.2.1,(v20.getD ((i64.wrap ((e.length:Int) - 1)).toNat) (0,0,0,0)).2.2.2)).length then((bd C ((p.getD f.toNat (0,0,0)).1)).bind fun B =>
 (if(i64.wrap ((e.length:Int) - 1)).toNat<(v20.set ((i64.wrap ((e.length:Int) - 1)).toNat) ((v20.getD ((i64.wrap ((e.length:Int) - 1)).toNat) (0,0,0,0)).1,(i64.wrap (((v20.getD ((i64.wrap ((e.length:Int) - 1)).toNat) (0,0,0,0)).2.1)+((p.getD f.toNat (0,0,0)).2.2))),(v20.getD ((i64.wrap ((e.length:Int) - 1)).toNat) (0,0,0,0)).2.2.1,(v20.getD ((i64.wrap ((e.length:Int) - 1)).toNat) (0,0,0,0)).2.2.2)).length then some (Sum.inl (((v20.set ((i64.wrap ((e.length:Int) - 1)).toNat) ((v20.getD ((i64.wrap ((e.length:Int) - 1)).toNat) (0,0,0,0)).1,(i64.wrap (((v20.getD ((i64.wrap ((e.length:Int) - 1)).toNat) (0,0,0,0)).2.1)+((p.getD f.toNat (0,0,0)).2.2))),(v20.getD ((i64.wrap ((e.length:Int) - 1)).toNat) (0,0,0,0)).2.2.1,(v20.getD ((i64.wrap ((e.length:Int) - 1)).toNat) (0,0,0,0)).2.2.2)).set ((i64.wrap ((e.length:Int) - 1)).toNat) (((v20.set ((i64.wrap ((e.length:Int) - 1)).toNat) ((v20.getD ((i64.wrap ((e.length:Int) - 1)).toNat) (0,0,0,0)).1,(i64.wrap (((v20.getD ((i64.wrap ((e.length:Int) - 1)).toNat) (0,0,0,0)).2.1)+((p.getD f.toNat (0,0,0)).2.2))),(v20.getD ((i64.wrap ((e.length:Int) - 1)).toNat) (0,0,0,0)).2.2.1,(v20.getD ((i64.wrap ((e.length:Int) - 1)).toNat) (0,0,0,0)).2.2.2)).getD ((i64.wrap ((e.length:Int) - 1)).toNat) (0,0,0,0)).1,((v20.set ((i64.wrap ((e.length:Int) - 1)).toNat) ((v20.getD ((i64.wrap ((e.length:Int) - 1)).toNat) (0,0,0,0)).1,(i64.wrap (((v20.getD ((i64.wrap ((e.length:Int) - 1)).toNat) (0,0,0,0)).2.1)+((p.getD f.toNat (0,0,0)).2.2))),(v20.getD ((i64.wrap ((e.length:Int) - 1)).toNat) (0,0,0,0)).2.2.1,(v20.getD ((i64.wrap ((e.length:Int) - 1)).toNat) (0,0,0,0)).2.2.2)).getD ((i64.wrap ((e.length:Int) - 1)).toNat) (0,0,0,0)).2.1,(max (((v20.set ((i64.wrap ((e.length:Int) - 1)).toNat) ((v20.getD ((i64.wrap ((e.length:Int) - 1)).toNat) (0,0,0,0)).1,(i64.wrap (((v20.getD ((i64.wrap ((e.length:Int) - 1)).toNat) (0,0,0,0)).2.1)+((p.getD f.toNat (0,0,0)).2.2))),(v20.getD ((i64.wrap ((e.length:Int) - 1)).toNat) (0,0,0,0)).2.2.1,(v20.getD ((i64.wrap ((e.length:Int) - 1)).toNat) (0,0,0,0)).2.2.2)).getD ((i64.wrap ((e.length:Int) - 1)).toNat) (0,0,0,0)).2.2.1) (min B 2)),((v20.set ((i64.wrap ((e.length:Int) - 1)).toNat) ((v20.getD ((i64.wrap ((e.length:Int) - 1)).toNat) (0,0,0,0)).1,(i64.wrap (((v20.getD ((i64.wrap ((e.length:Int) - 1)).toNat) (0,0,0,0)).2.1)+((p.getD f.toNat (0,0,0)).2.2))),(v20.getD ((i64.wrap ((e.length:Int) - 1)).toNat) (0,0,0,0)).2.2.1,(v20.getD ((i64.wrap ((e.length:Int) - 1)).toNat) (0,0,0,0)).2.2.2)).getD ((i64.wrap ((e.length:Int) - 1)).toNat) (0,0,0,0)).2.2.2)),j,(i64.wrap (f+1))))else none))else none)else none)else none))else none)else none)else none)))else none)
 else some (Sum.inr (q,u)))
def lu(f:XK)(p:QK)(q:Option yU):Option (Qj×QK) :=
 ((iter (dw f p q) (([]:Qj),([]:QK),0)).bind fun(j,e)=>(if(e.length+([(f.length:Int)]:QK).length)*8≤140737488355328∧e.length+([(f.length:Int)]:QK).length≤9223372036854775807 then some (j,(e++([(f.length:Int)]:QK)))else none))
theorem w7(j x v:Bool){f:XK}{J:QK}{L:Option yU}{A:Qj×QK}(h:lu f J L=some A):
  Pure Tryz.prog 66 [.p j (.slice (.prod (.int .i32) Y2)) f,.p x (.slice (.int .u8)) J,.p v (.ptr vK) L] (aK (bf false [⟨(.slice fR),A.1⟩,⟨(.slice (.int .i64)),A.2⟩])):=by
 refine PB Tryz.func66 (fun Bw w0=>?_);unfold lu at h;refine G (G (G (ag (G (ak (cC h (fun(B,C,e)=>aA [(0,.p j (.slice (.prod (.int .i32) Y2)) f),(1,.p x (.slice (.int .u8)) J),(2,.p v (.ptr vK) L),(8,.sl 0),(9,.sl 1),(13,.p j (.slice (.prod (.int .i32) Y2)) f),(14,.i64 (f.length:Int)),(15,.i64 e)] [(0,.arr 90 fR B),(1,.arr 3 (.int .i64) C)] 2) 0 (fun(M,N)=>aA [(0,.p j (.slice (.prod (.int .i32) Y2)) f),(8,.sl 0),(9,.sl 1)] [(0,.arr 90 fR M),(1,.arr 3 (.int .i64) N)] 2) (gg [.nilS 8 56 90 fR,.nilS 9 57 3 (.int .i64)] [56,57]) (fun y o h=>?_) (fun V h=>?_)))))))
 ·obtain⟨B,C,e⟩:=y;unfold dw at h;refine G (ag (aC h (fun X h=>?_) (fun X h=>?_)))
  ·refine ae (ab (ag (ak (GC 1 h (fun h=>ag (ag (bA h (fun D=>aA [(0,.p j (.slice (.prod (.int .i32) Y2)) f),(1,.p x (.slice (.int .u8)) J),(2,.p v (.ptr vK) L),(8,.sl 0),(9,.sl 1),(10,.i64 e),(11,.adr 2 0 3 0),(13,.p j (.slice (.prod (.int .i32) Y2)) f),(14,.i64 (f.length:Int)),(15,.i64 e),(34,.bo D)] (Jj B C ((f.getD e.toNat (0,0,0)).1) ((f.getD e.toNat (0,0,0)).2.1) ((f.getD e.toNat (0,0,0)).2.2)) 3) (fun D h=>?_) (fun D h=>?_))))))))
   ·rcases aM h with⟨q,h⟩ | ⟨q,h⟩
    ·exact bB ⟨[(2,true),(14,true)],[]⟩ [(3,7,oc q),(13,14,oc q)] (eN h (gg [] [0,1,34]))
    rcases aM h with⟨u,h⟩ | ⟨u,h⟩
    ·obtain⟨Y,h⟩:=aE h;exact bB ⟨[(2,false),(7,true),(13,true),(14,false)],[]⟩ [(3,7,an q),(8,9,an u),(10,10,oc (And.intro u Y)),(11,12,an u),(13,13,oc (And.intro q u)),(14,14,oc q)] (eN h (gg [] [0,1,34]))
    exact bB ⟨[(2,false),(7,false),(13,false),(14,false)],[]⟩ [(3,7,an q),(8,12,oc u),(13,13,oc (And.intro q u)),(14,14,oc q)] (eN h (gg [] [0,1,34]))
   refine ab (bA h (fun(E,I)=>aA [(0,.p j (.slice (.prod (.int .i32) Y2)) f),(1,.p x (.slice (.int .u8)) J),(2,.p v (.ptr vK) L),(8,.sl 0),(9,.sl 1),(10,.i64 e),(11,.adr 2 0 3 0),(13,.p j (.slice (.prod (.int .i32) Y2)) f),(14,.i64 (f.length:Int)),(15,.i64 e)] (Jj E I ((f.getD e.toNat (0,0,0)).1) ((f.getD e.toNat (0,0,0)).2.1) ((f.getD e.toNat (0,0,0)).2.2)) 3) (fun O h=>?_) (fun O h=>?_))
   ·refine aC h (fun Z h=>?_) (fun Z h=>?_)
    ·obtain⟨ac,a1,h⟩:=aj h;obtain⟨a2,h⟩:=aE h;have z:=(wG a1);refine GD ⟨[],[(5,(oP z))]⟩ [(5,5,oc z),(8,8,oc a2)] (zw 3 h (fun h=>?_));exact eN h (gg [] [67,107,2])
    exact ae (eN h (gg [] [0,1,2]))
   obtain⟨E,I⟩:=O;refine ab (GC 4 h (fun h=>ag ?_));obtain⟨a3,a4,h⟩:=g2 h;refine GN a0 [(4,4,oc a3),(5,5,oc a4)] (bA h (fun v20=>aA [(0,.p j (.slice (.prod (.int .i32) Y2)) f),(1,.p x (.slice (.int .u8)) J),(2,.p v (.ptr vK) L),(8,.sl 0),(9,.sl 1),(11,.adr 2 0 3 0),(12,.adr 0 ((i64.wrap ((E.length:Int) - 1)).toNat) 4 0),(13,.p j (.slice (.prod (.int .i32) Y2)) f),(14,.i64 (f.length:Int)),(15,.i64 e)] (Jj v20 I ((f.getD e.toNat (0,0,0)).1) ((f.getD e.toNat (0,0,0)).2.1) ((f.getD e.toNat (0,0,0)).2.2)) 3) (fun v20 h=>?_) (fun v20 h=>?_))
   ·refine aC h (fun a5 h=>?_) (fun a5 h=>?_)
    ·refine zw 3 h (fun h=>?_);exact eN h (gg [] [0,1,2])
    exact ae (eN h (gg [] [0,1,2]))
   refine ab ?_;obtain⟨a6,a7,h⟩:=g2 h;refine GD a0 [(3,3,oc a6),(9,9,oc a7)] ?_;obtain⟨a8,h⟩:=aE h;obtain⟨ad,a9,h⟩:=aj h;obtain⟨aa,h⟩:=aE h;have z:=(mS v a9);refine nQ ⟨[],[(8,(oP z))]⟩ [(4,4,oc a8),(8,8,oc z),(13,13,oc aa)] (ay (ab (Ge ?_)));exact eB h (gg [] [0,1])
  refine au (aP ?_);exact eX h (gg [] [0,1])
 obtain⟨M,N⟩:=V;refine aw (ab (GC 5 h (fun h=>av ?_)));obtain rfl:=sI h;exact RI [(.slice fR),(.slice (.int .i64))]
def cu(x:XK)(p:QK)(q:List Bool)(j:QK):tG→Option (tG⊕QK):=fun(f,e) =>
 (if(decide (e<(j.length:Int)))=true then(if 0≤e∧e<(j.length:Int)then(((if((j.getD e.toNat 0) == (x.length:Int))=true then(if(f.length+([2]:QK).length)*1≤140737488355328∧f.length+([2]:QK).length≤9223372036854775807 then some ((f++([2]:QK)))else none)
 else(((if((j.getD e.toNat 0) == 0)=true then some (true)
 else some ((decide ((j.getD e.toNat 0)≥(p.length:Int)))))).bind fun u=>(if u=true then(if(f.length+([0]:QK).length)*1≤140737488355328∧f.length+([0]:QK).length≤9223372036854775807 then some ((f++([0]:QK)))else none)
 else(((if 0≤(j.getD e.toNat 0)∧(j.getD e.toNat 0)<(p.length:Int)then(if((p.getD ((j.getD e.toNat 0).toNat) 0) == 0)=true then(if(decide ((j.getD e.toNat 0)<(q.length:Int)))=true then(if 0≤(j.getD e.toNat 0)∧(j.getD e.toNat 0)<(q.length:Int)then some ((q.getD ((j.getD e.toNat 0).toNat) false))else none)
 else some (false))
 else some (false))else none)).bind fun v20=>(if v20=true then(if(f.length+([3]:QK).length)*1≤140737488355328∧f.length+([3]:QK).length≤9223372036854775807 then some ((f++([3]:QK)))else none)
 else(if 0≤(j.getD e.toNat 0)∧(j.getD e.toNat 0)<(p.length:Int)then(if(f.length+([(p.getD ((j.getD e.toNat 0).toNat) 0)]:QK).length)*1≤140737488355328∧f.length+([(p.getD ((j.getD e.toNat 0).toNat) 0)]:QK).length≤9223372036854775807 then some ((f++([(p.getD ((j.getD e.toNat 0).toNat) 0)]:QK)))else none)else none))))))).bind fun v=>some (Sum.inl (v,(i64.wrap (e+1)))))else none)
 else some (Sum.inr f))
def gw(f:XK)(j p:QK)(q:List Bool)(u:Option yU):Option (Qj×QK) :=
 ((lu f j u).bind fun(v,x) =>
 ((iter (cu f p q x) (([]:QK),0)).bind fun e=>some (v,e)))
theorem xm(f L u v M:Bool){E:XK}{i1 I:QK}{J:List Bool}{x3:Option yU}{N:Qj×QK}(h:gw E i1 I J x3=some N):
  Pure Tryz.prog 37 [.p f (.slice (.prod (.int .i32) Y2)) E,.p L (.slice (.int .u8)) i1,.p u (.slice (.int .u8)) I,.p v (.slice .bool) J,.p M (.ptr vK) x3] (aK (bf false [⟨JH,N⟩])):=by
 refine PB Tryz.func37 (fun Bw w0=>?_);unfold gw at h;refine G ?_;obtain⟨⟨O,x⟩,q2,h⟩:=aj h;refine GP 3 (w7 f L M q2) (G (ag (G (ak (cC h (fun(z,e)=>aA [(0,.p f (.slice (.prod (.int .i32) Y2)) E),(2,.p u (.slice (.int .u8)) I),(3,.p v (.slice .bool) J),(10,.adr 0 0 2 0),(13,.adr 1 0 2 0),(25,.p false (.slice (.int .i64)) x),(26,.i64 (x.length:Int)),(27,.i64 e)] (Fc O z) 3) 0 (fun V=>aA [(10,.adr 0 0 2 0),(13,.adr 1 0 2 0)] (Fc O V) 3) (gg [.nilC 96 1 136 91 (.int .u8)] [0,96,136]) (fun y o h=>?_) (fun V h=>?_))))))
 ·obtain⟨z,e⟩:=y;unfold cu at h;refine G (ag (aC h (fun Z h=>?_) (fun Z h=>?_)))
  ·refine ae (ab (ag (ak (GC 0 h (fun h=>ak (G (bA h (fun B=>aA [(0,.p f (.slice (.prod (.int .i32) Y2)) E),(2,.p u (.slice (.int .u8)) I),(3,.p v (.slice .bool) J),(10,.adr 0 0 2 0),(13,.adr 1 0 2 0),(25,.p false (.slice (.int .i64)) x),(26,.i64 (x.length:Int)),(27,.i64 e)] (Fc O B) 3) (fun B h=>?_) (fun B h=>?_))))))))
   ·refine aC h (fun a1 h=>?_) (fun a1 h=>?_)
    ·refine zw 3 h (fun h=>?_);exact eN h (gg [] [0,1,99])
    refine ag (bA h (fun C=>aA [(0,.p f (.slice (.prod (.int .i32) Y2)) E),(2,.p u (.slice (.int .u8)) I),(3,.p v (.slice .bool) J),(10,.adr 0 0 2 0),(13,.adr 1 0 2 0),(15,.i64 (x.getD e.toNat 0)),(25,.p false (.slice (.int .i64)) x),(26,.i64 (x.length:Int)),(27,.i64 e),(50,.bo C)] (Fc O z) 3) (fun C h=>?_) (fun C h=>?_))
    ·rcases aM h with⟨A,h⟩ | ⟨A,h⟩
     ·exact bB ⟨[(2,true),(7,true)],[]⟩ [(3,7,oc A)] (eN h (gg [] [0,1,2]))
     exact bB ⟨[(2,false),(7,false)],[]⟩ [(3,6,an A),(7,7,oc A)] (eN h (gg [] [0,1,2]))
    refine ab (aC h (fun a2 h=>?_) (fun a2 h=>?_))
    ·refine zw 3 h (fun h=>?_);exact eN h (gg [] [0,1,27])
    refine ag (bA h (fun v20=>aA [(0,.p f (.slice (.prod (.int .i32) Y2)) E),(2,.p u (.slice (.int .u8)) I),(3,.p v (.slice .bool) J),(10,.adr 0 0 2 0),(13,.adr 1 0 2 0),(15,.i64 (x.getD e.toNat 0)),(25,.p false (.slice (.int .i64)) x),(26,.i64 (x.length:Int)),(27,.i64 e),(64,.bo v20)] (Fc O z) 3) (fun v20 h=>?_) (fun v20 h=>?_))
    ·obtain⟨D,h⟩:=aE h;rcases aM h with⟨j,h⟩ | ⟨j,h⟩
     ·rcases aM h with⟨q,h⟩ | ⟨q,h⟩
      ·obtain⟨a3,h⟩:=aE h;exact bB ⟨[(5,true),(10,true),(11,true),(16,true)],[]⟩ [(2,2,oc D),(6,9,an j),(10,10,oc j),(12,13,an q),(14,14,oc (And.intro q a3)),(15,15,an q),(16,16,oc q)] (eN h (gg [] [0,1,2]))
      exact bB ⟨[(5,true),(10,true),(11,false),(16,false)],[]⟩ [(2,2,oc D),(6,9,an j),(10,10,oc j),(12,16,oc q)] (eN h (gg [] [0,1,2]))
     exact bB ⟨[(5,false),(10,false)],[]⟩ [(2,2,oc D),(6,10,oc j)] (eN h (gg [] [0,1,2]))
    refine ab (aC h (fun a4 h=>?_) (fun a4 h=>?_))
    ·refine zw 3 h (fun h=>?_);exact eN h (gg [] [0,1,27])
    obtain⟨X,Y,h⟩:=g2 h;exact nQ a0 [(4,4,oc X),(7,7,oc Y)] (eN h (gg [] [0,1,59]))
   refine ay (ay (ab (Ge ?_)));exact eB h (gg [] [0,1,2])
  refine au (aP ?_);exact eX h (gg [] [0,1,2])
 refine aw (ab (G (lE [.frzC 0 1] (by kernel_rfl) (av ?_))));obtain rfl:=sI h;exact RI [JH]
def bc(e:Option Z1)(f:QK):Option ((Qj×QK)×Int) :=
 (if e.isNone=true then some ((([]:Qj),([]:QK)),1)
 else(if(decide ((f.length:Int) > 4096))=true then some ((([]:Qj),([]:QK)),3)
 else((mA f).bind fun p =>
 (if e.isSome=true then(if e.isSome=true then((cy ((e.getD (Ty.zero zA)).2.2.1) p).bind fun z =>
 ((eE ((e.getD (Ty.zero zA)).1) z).bind fun q =>
 (if e.isSome=true then(if e.isSome=true then((cy ((e.getD (Ty.zero zA)).2.2.2.1) p).bind fun u =>
 ((eE ((e.getD (Ty.zero zA)).2.1) u).bind fun v =>
 (if e.isSome=true then((dF ((e.getD (Ty.zero zA)).2.2.2.2.2) p).bind fun x =>
 (if e.isSome=true then((gw p q v x ((e.getD (Ty.zero zA)).2.2.2.2.1)).bind fun j =>
 some ((j.1,j.2),0))else none))else none)))else none)else none)))else none)else none))))
theorem sd(q:Bool){O:Option Z1}{f:QK}{j:(Qj×QK)×Int}(h:bc O f=some j):
  Pure Tryz.prog 14 [.p false (.ptr zA) O,.p q (.slice (.int .u8)) f] (aK (bf false [⟨JH,j.1⟩,⟨(.int .i64),j.2⟩])):=by
 refine PB Tryz.func14 (fun Bw w0=>?_);unfold bc at h;refine G (ag (GN a0 [(1,1,⟨∃e,Tryz.prog.underlying 29=some (.pointer e),⟨_,rfl⟩⟩)] (aC h (fun V h=>?_) (fun V h=>?_))))
 ·refine G (av (ai ?_));obtain rfl:=sI h;exact RI [JH,(.int .i64)]
 refine ae (ab (ag (G (aC h (fun X h=>?_) (fun X h=>?_)))))
 ·refine G (av (ai ?_));obtain rfl:=sI h;exact RI [JH,(.int .i64)]
 refine ae (ab ?_);obtain⟨r2,Y,h⟩:=aj h;refine GP 1 (tg q Y) ?_;obtain⟨Z,c8,h⟩:=g2 h;obtain⟨r9,q9,h⟩:=aj h;obtain⟨a1,C,h⟩:=aj h;obtain⟨c9,D,h⟩:=g2 h;obtain⟨a2,E,h⟩:=aj h;obtain⟨a3,I,h⟩:=aj h;obtain⟨J,h⟩:=aE h;obtain⟨a4,L,h⟩:=aj h;obtain⟨M,h⟩:=aE h;obtain⟨a5,N,h⟩:=aj h;have u:=(kU false false q9);have v:=(lB false false C);have x:=(kU false false E);have z:=(lB false false I);have A:=(nJ false L);have B:=(xm false false false false false N);refine GD ⟨[],[(10,(oP u)),(11,(oP v)),(21,(oP x)),(22,(oP z)),(28,(oP A)),(33,(oP B))]⟩ [(2,2,oc Z),(6,6,oc c8),(10,10,oc u),(11,11,oc v),(13,13,oc c9),(17,17,oc D),(21,21,oc x),(22,22,oc z),(24,24,oc J),(28,28,oc A),(30,30,oc M),(33,33,oc B)] (av ?_);obtain rfl:=sI h;exact RI [JH,(.int .i64)]
def fp(p:QK):tG→Option (tG⊕QK):=fun(e,f) =>
 (if(decide (f<(p.length:Int)))=true then(if 0≤f∧f<(p.length:Int)then(((if((p.getD f.toNat 0) == 2)=true then(if(e.length+([f]:QK).length)*8≤140737488355328∧e.length+([f]:QK).length≤9223372036854775807 then some ((e++([f]:QK)))else none)
 else some (e))).bind fun j=>some (Sum.inl (j,(i64.wrap (f+1)))))else none)
 else some (Sum.inr e))
def l4(j:Qj)(f:QK):Option QK :=
 ((iter (fp f) (([]:QK),0)).bind fun e=>some e)
theorem uG(x q:Bool){A:Qj}{u v:QK}(h:l4 A u=some v):
  Pure Tryz.prog 80 [.agg [.p x (.slice fR) A,.p q (.slice (.int .u8)) u]] (aK (bf false [⟨(.slice (.int .i64)),v⟩])):=by
 refine PB Tryz.func80 (fun Bw w0=>?_);unfold l4 at h;refine G (G (ag (G (ak (cC h (fun(f,z)=>aA [(3,.sl 0),(7,.p q (.slice (.int .u8)) u),(8,.i64 (u.length:Int)),(9,.i64 z)] [(0,.arr 3 (.int .i64) f)] 1) 0 (fun j=>aA [(3,.sl 0)] [(0,.arr 3 (.int .i64) j)] 1) (gg [.nilS 3 56 3 (.int .i64)] [56]) (fun y o h=>?_) (fun j h=>?_))))))
 ·obtain⟨f,z⟩:=y;unfold fp at h;refine G (ag (aC h (fun B h=>?_) (fun B h=>?_)))
  ·refine ae (ab (ag (ak (GC 1 h (fun h=>G (bA h (fun e=>aA [(3,.sl 0),(7,.p q (.slice (.int .u8)) u),(8,.i64 (u.length:Int)),(9,.i64 z)] [(0,.arr 3 (.int .i64) e)] 1) (fun e h=>?_) (fun e h=>?_)))))))
   ·refine aC h (fun C h=>?_) (fun C h=>?_)
    ·refine zw 3 h (fun h=>?_);exact eN h (gg [] [89])
    exact ae (eN h (gg [] [0]))
   refine ay (ab (Ge ?_));exact eB h (gg [] [0])
  refine au (aP ?_);exact eX h (gg [] [0])
 refine aw (ab (G (av ?_)));obtain rfl:=sI h;exact RI [(.slice (.int .i64))]
def jk(q u j p e f:Int):Option (Int) :=
 (if(p == 2)=true then(if ¬f=0 then some (i64.wrap ((i64.wrap (e+f)) - (Int.tmod e f)))else none)
 else some (i64.wrap (e+j)))
theorem nC{p q u v e f j:Int}(h:jk p q u v e f=some j):
  Pure Tryz.prog 178 [.agg [.i64 p,.i64 q,.i64 u,.u8 v],.i64 e,.i64 f] (aK (bf false [⟨(.int .i64),j⟩])):=by
 refine PB Tryz.func178 (fun Bw w0=>?_);unfold jk at h;refine G (ag (G (aC h (fun x h=>?_) (fun x h=>?_))))
 ·refine GC 5 h (fun h=>av (ai ?_));obtain rfl:=sI h;exact RI [(.int .i64)]
 refine ae (ab (G (av ?_)));obtain rfl:=sI h;exact RI [(.int .i64)]
def kW(j p f e:Int):Option (Bool) :=
 (((if(e == 1)=true then some (true)
 else(if(e == 0)=true then some ((f == 0))
 else some (false)))).bind fun v1=>some v1)
theorem wY{p q u v:Int}{f:Bool}(h:kW p q u v=some f):
  Pure Tryz.prog 193 [.agg [.i64 p,.i64 q,.i64 u,.u8 v]] (aK (bf false [⟨.bool,f⟩])):=by
 refine PB Tryz.func193 (fun Bw w0=>?_);unfold kW at h;refine G (ag (bA h (fun v1=>aA [(2,.bo v1)] [] 0) (fun v1 h=>?_) (fun v1 h=>?_)))
 ·rcases aM h with⟨e,h⟩ | ⟨e,h⟩
  ·exact bB ⟨[(3,true),(12,true)],[]⟩ [(4,7,oc e),(11,12,oc e)] (eN h (gg [] []))
  rcases aM h with⟨j,h⟩ | ⟨j,h⟩
  ·exact bB ⟨[(3,false),(7,true),(11,true),(12,false)],[]⟩ [(4,7,an e),(8,10,an j),(11,11,oc (And.intro e j)),(12,12,oc e)] (eN h (gg [] []))
  exact bB ⟨[(3,false),(7,false),(11,false),(12,false)],[]⟩ [(4,7,an e),(8,10,oc j),(11,11,oc (And.intro e j)),(12,12,oc e)] (eN h (gg [] []))
 refine ab (av ?_);obtain rfl:=sI h;exact RI [.bool]
def eS(j:Qj)(f:Int):(Int)→Option ((Int)⊕(Int)):=fun e =>
 (((if(decide (e > f))=true then(if 0≤(i64.wrap (e - 1))∧(i64.wrap (e - 1))<(j.length:Int)then((kW ((j.getD ((i64.wrap (e - 1)).toNat) (0,0,0,0)).1) ((j.getD ((i64.wrap (e - 1)).toNat) (0,0,0,0)).2.1) ((j.getD ((i64.wrap (e - 1)).toNat) (0,0,0,0)).2.2.1) ((j.getD ((i64.wrap (e - 1)).toNat) (0,0,0,0)).2.2.2)).bind fun p =>
 some (p))else none)
 else some (false))).bind fun q=>(if q=true then some (Sum.inl (i64.wrap (e - 1)))
 else some (Sum.inr e)))
def fM(p:Qj)(q:QK)(e f:Int):Option (Int) :=
 ((iter (eS p e) f).bind fun j=>some j)
theorem mY(j q:Bool){B:Qj}{C:QK}{e v x:Int}(h:fM B C e v=some x):
  Pure Tryz.prog 179 [.agg [.p j (.slice fR) B,.p q (.slice (.int .u8)) C],.i64 e,.i64 v] (aK (bf false [⟨(.int .i64),x⟩])):=by
 refine PB Tryz.func179 (fun Bw w0=>?_);unfold fM at h;refine G (ag (ak (cC h (fun u=>aA [(1,.i64 e),(2,.i64 u),(3,.adr 0 0 2 0)] (KT j B q C) 1) 0 (fun z=>aA [(2,.i64 z)] [] 0) (gg [] [0]) (fun u o h=>?_) (fun z h=>?_))))
 ·unfold eS at h;refine ag (ag (bA h (fun D=>aA [(1,.i64 e),(2,.i64 u),(3,.adr 0 0 2 0),(18,.bo D)] (KT j B q C) 1) (fun D h=>?_) (fun D h=>?_)))
  ·rcases aM h with⟨f,h⟩ | ⟨f,h⟩
   ·obtain⟨I,h⟩:=aE h;obtain⟨L,J,h⟩:=aj h;have A:=(wY J);exact bB ⟨[(3,true),(11,true)],[(10,(oP A))]⟩ [(4,7,an f),(8,8,oc (And.intro f I)),(9,9,an f),(10,10,oc (And.intro f A)),(11,11,oc f)] (eN h (gg [] [0]))
   exact bB ⟨[(3,false),(11,false)],[]⟩ [(4,11,oc f)] (eN h (gg [] [0]))
  refine ab (aC h (fun E h=>?_) (fun E h=>?_))
  ·refine ae (ab (ak (Ge (ay ?_))));exact eB h (gg [] [0])
  refine au (aP ?_);exact eX h (gg [] [])
 refine aw (ab (G (av ?_)));obtain rfl:=sI h;exact RI [(.int .i64)]
def kO(j:Qj)(f:QK)(e:Int):Option (Int×Bool) :=
 (if 0≤e∧e<(f.length:Int)then(if 0≤e∧e<(f.length:Int)then some ((f.getD e.toNat 0),((f.getD e.toNat 0) != 0))else none)else none)
theorem qG(j q:Bool){u:Qj}{v:QK}{f:Int}{e:Int×Bool}(h:kO u v f=some e):
  Pure Tryz.prog 180 [.agg [.p j (.slice fR) u,.p q (.slice (.int .u8)) v],.i64 f] (aK (bf false [⟨(.int .u8),e.1⟩,⟨.bool,e.2⟩])):=by
 refine PB Tryz.func180 (fun Bw w0=>?_);unfold kO at h;refine G ?_;obtain⟨x,z,h⟩:=g2 h;refine GD a0 [(3,3,oc x),(8,8,oc z)] (av ?_);obtain rfl:=sI h;exact RI [(.int .u8),.bool]
def sc(e f:Int):Option QJ :=
 some (ca .quo (ofInt e) (ofInt f))
theorem BC{e f:Int}{j:QJ}(h:sc e f=some j):
  Pure Tryz.prog 194 [.i64 e,.i64 f] (aK (bf false [⟨.flt,j⟩])):=by
 refine PB Tryz.func194 (fun Bw w0=>?_);unfold sc at h;refine G (G (av ?_));obtain rfl:=sI h;exact RI [.flt]
def ny(f e:QJ):Option (Bool) :=
 some (!(Ld f e))
theorem xe{j e:QJ}{f:Bool}(h:ny j e=some f):
  Pure Tryz.prog 195 [.p false .flt j,.p false .flt e] (aK (bf false [⟨.bool,f⟩])):=by
 refine PB Tryz.func195 (fun Bw w0=>?_);unfold ny at h;refine G (G (av ?_));obtain rfl:=sI h;exact RI [.bool]
def nK(e:QJ):Option (Bool) :=
 some (!(J8 e e))
theorem xc{f:QJ}{e:Bool}(h:nK f=some e):
  Pure Tryz.prog 205 [.p false .flt f] (aK (bf false [⟨.bool,e⟩])):=by
 refine PB Tryz.func205 (fun Bw w0=>?_);unfold nK at h;refine G (G (av ?_));obtain rfl:=sI h;exact RI [.bool]
def u5(e:QJ):Option QJ:=some (uP e)
theorem vU(b:Nat)(w:World):
  Calls Tryz.prog 206 #[.float .f64 b] w fun e f=>e = .returned (.float .f64 (b % 9223372036854775808))∧f=w:=by
 have j:∀w,(callFunc 207 #[.float .f64 b]).run Tryz.prog w = .ok (.value (.int .u64 b)) w:=fun w=>by rw[run_callFunc_extern (fn:=Tryz.f207) (e:=Extern.MathFloatBits.float64bits) Tryz.func207 (by kernel_rfl) rfl (by kernel_rfl) (by kernel_rfl)];rfl
 have p:∀(n:Int) w,(callFunc 210 #[.int .u64 n]).run Tryz.prog w = .ok (.value (.float .f64 n.toNat)) w:=fun n w=>by rw[run_callFunc_extern (fn:=Tryz.f210) (e:=Extern.MathFloatBits.float64frombits) Tryz.func210 (by kernel_rfl) rfl (by kernel_rfl) (by kernel_rfl)];rfl
 go_enter Tryz.func206,Tryz.ntmps206;go_wp2
 go_ret
 exact⟨by rw[←FY];rfl,rfl⟩
theorem Bx{f e:QJ}(h:u5 f=some e):
  Pure Tryz.prog 206 [.p false .flt f] (aK (bf false [⟨.flt,e⟩])):=by
 obtain rfl:=sI h;exact Pure.JP Tryz.func206 (by kernel_rfl) rfl (fun b w=>vU b w)
def hD(f:QJ):Option (Int) :=
 ((nK f).bind fun j =>
 (if j=true then some 0
 else((u5 f).bind fun e =>
 (if(!(JI (ca .mul (ca .mul (ca .mul (eA 4636737291354636288) e) e) e) (eA 4666723172467343360)))=true then some 10000
 else(if(n5 (ca .mul (ca .mul (ca .mul (eA 4636737291354636288) e) e) e)).isSome=true∧i64.min≤(n5 (ca .mul (ca .mul (ca .mul (eA 4636737291354636288) e) e) e)).getD 0∧(n5 (ca .mul (ca .mul (ca .mul (eA 4636737291354636288) e) e) e)).getD 0≤i64.max then some ((n5 (ca .mul (ca .mul (ca .mul (eA 4636737291354636288) e) e) e)).getD 0)else none)))))
theorem sN{f:QJ}{e:Int}(h:hD f=some e):
  Pure Tryz.prog 196 [.p false .flt f] (aK (bf false [⟨(.int .i64),e⟩])):=by
 refine PB Tryz.func196 (fun Bw w0=>?_);unfold hD at h;refine G (ag ?_);obtain⟨x,j,h⟩:=aj h;refine GP 1 (xc j) (aC h (fun q h=>?_) (fun q h=>?_))
 ·refine G (av (ai ?_));obtain rfl:=sI h;exact RI [(.int .i64)]
 refine ae (ab ?_);obtain⟨z,u,h⟩:=aj h;refine GP 1 (Bx u) (G (ag (G (aC h (fun v h=>?_) (fun v h=>?_)))))
 ·refine G (av (ai ?_));obtain rfl:=sI h;exact RI [(.int .i64)]
 refine ae (ab (GC 1 h (fun h=>av ?_)));obtain rfl:=sI h;exact RI [(.int .i64)]
def fy(N:Qj)(B:QK)(f u C j:Int)(p:Bool)(D O V E I:Int)(J:QJ):Option (Int×Bool) :=
 (if(decide (C > D))=true then some (0,false)
 else(((if(!p)=true then((sc (i64.wrap (D - C)) j).bind fun v =>
 ((ny v J).bind fun x =>
 (if(!x)=true then some ((Sum.inr (0,false)))
 else((hD v).bind fun z =>
 some ((Sum.inl z))))))
 else some ((Sum.inl 0)))).bind fun(A:((Int)⊕(Int×Bool)))=>match A with
 | .inl e=>(((if(u == 3)=true then(if 0≤f∧f<(B.length:Int)then(if((B.getD f.toNat 0) == 3)=true then some ((i64.wrap ((i64.wrap ((i64.wrap ((i64.wrap (10+e))*(i64.wrap (10+e))))+E))+I)))
 else some ((i64.wrap ((i64.wrap ((i64.wrap (10+e))*(i64.wrap (10+e))))+E))))else none)
 else some ((i64.wrap ((i64.wrap (10+e))*(i64.wrap (10+e))))))).bind fun q=>some (q,true))
 | .inr ((L,M))=>some (L,M)))
theorem wL(A B:Bool){D:Qj}{E:QK}{f q Z u:Int}{v:Bool}{I J L M N:Int}{O:QJ}{z:Int×Bool}(h:fy D E f q Z u v I J L M N O=some z):
  Pure Tryz.prog 181 [.agg [.p A (.slice fR) D,.p B (.slice (.int .u8)) E],.i64 f,.u8 q,.i64 Z,.i64 u,.bo v,.agg [.i64 I,.i64 J,.u8 L,.i64 M,.i64 N,.p false .flt O]] (aK (bf false [⟨(.int .i64),z.1⟩,⟨.bool,z.2⟩])):=by
 refine PB Tryz.func181 (fun Bw w0=>?_);unfold fy at h;refine G (ag (G (aC h (fun B1 h=>?_) (fun B1 h=>?_))))
 ·refine G (av (ai ?_));obtain rfl:=sI h;exact RI [(.int .i64),.bool]
 refine ae (ab (G (ag (G (Cs h (dx (nV Tryz.f181.ntmps (fun x=>aA [(1,.i64 f),(2,.u8 q),(7,.adr 0 0 2 0),(13,.adr 1 0 6 0),(16,.i64 x)] (KX A D B E I J L M N O) 2)) (gm tb Tryz.f181.results.toList (fun(r7,r8)=>[⟨(.int .i64),r7⟩,⟨.bool,r8⟩]))) (fun C h=>?_) (fun C h e σ' hq=>?_))))))
 ·refine aC h (fun B4 h=>?_) (fun B4 h=>?_)
  ·obtain⟨a1,q8,h⟩:=aj h;refine GP 5 (BC q8) (ag ?_);obtain⟨a2,V,h⟩:=aj h;refine GP 3 (xe V) (aC h (fun B5 h=>?_) (fun B5 h=>?_))
   ·refine G (av ?_);obtain rfl:=sI h;refine ai (aL ?_);exact bK (RI [(.int .i64),.bool])
   refine ae (ab ?_);obtain⟨a3,X,h⟩:=aj h;refine Li 1 (sN X) ?_;obtain rfl:=sI h;exact bk (cR (gg [] [0,8]))
  refine ae ?_;obtain rfl:=sI h;exact bk (cR (gg [] [0,8]))
 rcases C with x | ⟨r7,r8⟩
 ·obtain⟨rfl,Y⟩:=hq;refine cJ ?_ Y;refine ab (G (ag (G (bA h (fun j=>aA [(18,.i64 j)] [] 0) (fun j h=>?_) (fun j h=>?_)))))
  ·refine aC h (fun B8 h=>?_) (fun B8 h=>?_)
   ·refine G (GC 3 h (fun h=>aC h (fun B9 h=>?_) (fun B9 h=>?_)))
    ·exact Ge (eN h (gg [] []))
    exact ae (eN h (gg [] []))
   exact ae (eN h (gg [] []))
  refine ab (G (av ?_));obtain rfl:=sI h;exact RI [(.int .i64),.bool]
 obtain⟨rfl,hr⟩:=hq;refine ai ?_;obtain rfl:=sI h;exact hr
def eM(p:Qj)(D:QK)(i1 x E:Int)(C:Qq)(x4 x5 x6 x7 x8:Int)(x9:QJ):(Int×Int×Int×Int×Int×Int×Int)→Option ((Int×Int×Int×Int×Int×Int×Int)⊕(Int×Int)):=fun(e,f,I,J,z,L,v30) =>
 (if(decide (v30≤E))=true then(if 0≤(i64.wrap (v30 - 1))∧(i64.wrap (v30 - 1))<(p.length:Int)then((jk ((p.getD ((i64.wrap (v30 - 1)).toNat) (0,0,0,0)).1) ((p.getD ((i64.wrap (v30 - 1)).toNat) (0,0,0,0)).2.1) ((p.getD ((i64.wrap (v30 - 1)).toNat) (0,0,0,0)).2.2.1) ((p.getD ((i64.wrap (v30 - 1)).toNat) (0,0,0,0)).2.2.2) I x5).bind fun q =>
 (((if(((p.getD ((i64.wrap (v30 - 1)).toNat) (0,0,0,0)).2.2.2) == 1)=true then some ((i64.wrap (z+1)))
 else some (z))).bind fun u=>((fM p D (i64.wrap (v30 - 1)) v30).bind fun M =>
 (((if(M == v30)=true then some ((q,u))
 else some ((J,L)))).bind fun(j,v)=>(if(decide (j > x4))=true then some (Sum.inr (e,f))
 else((kO p D v30).bind fun(A,N) =>
 (if 0≤(i64.wrap (v30 - x))∧(i64.wrap (v30 - x))<(C.length:Int)then(((if(!N)=true then some (true)
 else(if(decide (v30<E))=true then some ((decide (((C.getD ((i64.wrap (v30 - x)).toNat) (0,0)).2)<0)))
 else some (false)))).bind fun O=>(if O=true then some (Sum.inl (e,f,q,j,u,v,(i64.wrap (v30+1))))
 else(((if(A == 3)=true then some ((i64.wrap (j+1)))
 else some (j))).bind fun V=>((fy p D i1 A V v (v30 == E) x4 x5 x6 x7 x8 x9).bind fun(B,X) =>
 (((if X=true then(if(decide (f<0))=true then some (true)
 else some ((decide ((i64.wrap (B+((C.getD ((i64.wrap (v30 - x)).toNat) (0,0)).1)))<e))))
 else some (false))).bind fun Y=>(((if Y=true then some (((i64.wrap (B+((C.getD ((i64.wrap (v30 - x)).toNat) (0,0)).1))),v30))
 else some ((e,f)))).bind fun(Z,a1)=>some (Sum.inl (Z,a1,q,j,u,v,(i64.wrap (v30+1))))))))))else none)))))))else none)
 else some (Sum.inr (e,f)))
def mF(p:Qj)(q:QK)(j u v:Int)(x:Qq)(z A B C D:Int)(E:QJ):Option (Int×Int) :=
 ((iter (eM p q j u v x z A B C D E) (0,(-1:Int),0,0,0,0,(i64.wrap (j+1)))).bind fun(e,f)=>some (e,f))
theorem yE(e f u:Bool){L:Qj}{M:QK}{N x O:Int}{z:Qq}{V X Y Z x8:Int}{x9:QJ}{a6:Int×Int}(h:mF L M N x O z V X Y Z x8 x9=some a6):
  Pure Tryz.prog 155 [.agg [.p e (.slice fR) L,.p f (.slice (.int .u8)) M],.i64 N,.i64 x,.i64 O,.p u (.slice Y2) z,.agg [.i64 V,.i64 X,.u8 Y,.i64 Z,.i64 x8,.p false .flt x9]] (aK (bf false [⟨Y2,a6⟩])):=by
 refine PB Tryz.func155 (fun Bw w0=>?_);unfold mF at h;refine G (G (G (ag (G (ak (cC h (fun(A,B,a7,a1,a8,a2,v30)=>aA [(1,.i64 N),(2,.i64 x),(3,.i64 O),(4,.p u (.slice Y2) z),(6,.adr 0 0 2 0),(11,.adr 1 0 6 0),(12,.adr 2 0 2 0),(13,.adr 3 0 2 0),(14,.i64 a7),(15,.i64 a1),(16,.i64 a8),(17,.i64 a2),(18,.i64 v30)] (HT e L f M V X Y Z x8 x9 0 (0:Int) A B) 4) 0 (fun(a9,aa)=>aA [(12,.adr 0 0 2 0),(13,.adr 1 0 2 0)] (LZ 0 (0:Int) a9 aa) 2) (gg [] [0,8,16,32]) (fun y o h=>?_) (fun b3 h=>?_)))))))
 ·obtain⟨A,B,a7,a1,a8,a2,v30⟩:=y;unfold eM at h;refine ag (G (aC h (fun b4 h=>?_) (fun b4 h=>?_)))
  ·refine ae (ab (ag (ak (GC 4 h (fun h=>?_)))));obtain⟨C,b5,h⟩:=aj h;refine GP 4 (nC b5) (ag (G (bA h (fun v=>aA [(1,.i64 N),(2,.i64 x),(3,.i64 O),(4,.p u (.slice Y2) z),(6,.adr 0 0 2 0),(11,.adr 1 0 6 0),(12,.adr 2 0 2 0),(13,.adr 3 0 2 0),(14,.i64 C),(15,.i64 a1),(16,.i64 v),(17,.i64 a2),(18,.i64 v30)] (HT e L f M V X Y Z x8 x9 0 (0:Int) A B) 4) (fun v h=>?_) (fun v h=>?_))))
   ·refine aC h (fun b6 h=>?_) (fun b6 h=>?_)
    ·exact Ge (eN h (gg [] [0,1,2,3]))
    exact ae (eN h (gg [] [0,1,2,3]))
   refine ab (ag ?_);obtain⟨c2,b7,h⟩:=aj h;refine GP 4 (mY e f b7) (bA h (fun(D,E)=>aA [(1,.i64 N),(2,.i64 x),(3,.i64 O),(4,.p u (.slice Y2) z),(6,.adr 0 0 2 0),(11,.adr 1 0 6 0),(12,.adr 2 0 2 0),(13,.adr 3 0 2 0),(14,.i64 C),(15,.i64 D),(16,.i64 v),(17,.i64 E),(18,.i64 v30)] (HT e L f M V X Y Z x8 x9 0 (0:Int) A B) 4) (fun ac h=>?_) (fun ac h=>?_))
   ·refine aC h (fun b8 h=>?_) (fun b8 h=>?_)
    ·exact Ge (eN h (gg [] [0,1,2,3]))
    exact ae (eN h (gg [] [0,1,2,3]))
   obtain⟨D,E⟩:=ac;refine ab (ag (G (aC h (fun b9 h=>?_) (fun b9 h=>?_))))
   ·refine au (aP (jo rfl (aP ?_)));exact eX h (gg [] [2,3])
   refine ae (ab ?_);obtain⟨⟨ad,c3⟩,be,h⟩:=aj h;refine GP 2 (qG e f be) (GC 4 h (fun h=>ag (ag (bA h (fun a3=>aA [(1,.i64 N),(2,.i64 x),(3,.i64 O),(4,.p u (.slice Y2) z),(6,.adr 0 0 2 0),(11,.adr 1 0 6 0),(12,.adr 2 0 2 0),(13,.adr 3 0 2 0),(14,.i64 C),(15,.i64 D),(16,.i64 v),(17,.i64 E),(18,.i64 v30),(20,.u8 ad),(22,.adr 4 0 2 0),(86,.bo a3)] (J5 e L f M V X Y Z x8 x9 0 (0:Int) A B ((z.getD ((i64.wrap (v30 - x)).toNat) (0,0)).1) ((z.getD ((i64.wrap (v30 - x)).toNat) (0,0)).2)) 5) (fun a3 h=>?_) (fun a3 h=>?_)))))
   ·rcases aM h with⟨j,h⟩ | ⟨j,h⟩
    ·exact bB ⟨[(2,true),(11,true)],[]⟩ [(3,6,oc j),(10,11,oc j)] (eN h (gg [] [0,1,2,3,148]))
    rcases aM h with⟨I,h⟩ | ⟨I,h⟩
    ·exact bB ⟨[(2,false),(6,true),(10,true),(11,false)],[]⟩ [(3,6,an j),(7,9,an I),(10,10,oc (And.intro j I)),(11,11,oc j)] (eN h (gg [] [0,1,2,3,148]))
    exact bB ⟨[(2,false),(6,false),(10,false),(11,false)],[]⟩ [(3,6,an j),(7,9,oc I),(10,10,oc (And.intro j I)),(11,11,oc j)] (eN h (gg [] [0,1,2,3,148]))
   refine ab (aC h (fun bi h=>?_) (fun bi h=>?_))
   ·refine au (aP (aw (ab (Ge ?_))));exact eB h (gg [] [0,1,2,3])
   refine ae (ab (G (ag (G (bA h (fun a4=>aA [(1,.i64 N),(2,.i64 x),(3,.i64 O),(4,.p u (.slice Y2) z),(6,.adr 0 0 2 0),(11,.adr 1 0 6 0),(12,.adr 2 0 2 0),(13,.adr 3 0 2 0),(14,.i64 C),(15,.i64 D),(16,.i64 v),(17,.i64 E),(18,.i64 v30),(20,.u8 ad),(22,.adr 4 0 2 0),(23,.i64 a4)] (J5 e L f M V X Y Z x8 x9 0 (0:Int) A B ((z.getD ((i64.wrap (v30 - x)).toNat) (0,0)).1) ((z.getD ((i64.wrap (v30 - x)).toNat) (0,0)).2)) 5) (fun a4 h=>?_) (fun a4 h=>?_))))))
   ·refine aC h (fun bs h=>?_) (fun bs h=>?_)
    ·exact Ge (eN h (gg [] [0,1,2,3,4]))
    exact ae (eN h (gg [] [0,1,2,3,4]))
   refine ab ?_;obtain⟨⟨bv,c4⟩,bx,h⟩:=aj h;refine GP 9 (wL e f bx) (ag (bA h (fun a5=>aA [(1,.i64 N),(2,.i64 x),(3,.i64 O),(4,.p u (.slice Y2) z),(6,.adr 0 0 2 0),(11,.adr 1 0 6 0),(12,.adr 2 0 2 0),(13,.adr 3 0 2 0),(14,.i64 C),(15,.i64 D),(16,.i64 v),(17,.i64 E),(18,.i64 v30),(22,.adr 4 0 2 0),(24,.i64 bv),(119,.bo a5)] (J5 e L f M V X Y Z x8 x9 0 (0:Int) A B ((z.getD ((i64.wrap (v30 - x)).toNat) (0,0)).1) ((z.getD ((i64.wrap (v30 - x)).toNat) (0,0)).2)) 5) (fun a5 h=>?_) (fun a5 h=>?_)))
   ·rcases aM h with⟨q,h⟩ | ⟨q,h⟩
    ·rcases aM h with⟨J,h⟩ | ⟨J,h⟩
     ·exact bB ⟨[(1,true),(5,true),(13,true),(14,true)],[]⟩ [(2,5,an q),(6,12,oc J),(13,13,oc (And.intro q J)),(14,14,oc q)] (eN h (gg [] [0,1,2,3,4]))
     exact bB ⟨[(1,true),(5,false),(13,false),(14,true)],[]⟩ [(2,5,an q),(6,12,an J),(13,13,oc (And.intro q J)),(14,14,oc q)] (eN h (gg [] [0,1,2,3,4]))
    exact bB ⟨[(1,false),(14,false)],[]⟩ [(2,5,oc q),(13,14,oc q)] (eN h (gg [] [0,1,2,3,4]))
   refine ab (bA h (fun(ax,b1)=>aA [(1,.i64 N),(2,.i64 x),(3,.i64 O),(4,.p u (.slice Y2) z),(6,.adr 0 0 2 0),(11,.adr 1 0 6 0),(12,.adr 2 0 2 0),(13,.adr 3 0 2 0),(14,.i64 C),(15,.i64 D),(16,.i64 v),(17,.i64 E),(18,.i64 v30)] (HT e L f M V X Y Z x8 x9 0 (0:Int) ax b1) 4) (fun b2 h=>?_) (fun b2 h=>?_))
   ·refine aC h (fun c1 h=>?_) (fun c1 h=>?_)
    ·exact Ge (eN h (gg [] [0,1,2,3]))
    exact ae (eN h (gg [] [0,1,2,3]))
   obtain⟨ax,b1⟩:=b2;refine ay (ab (Ge ?_));exact eB h (gg [] [0,1,2,3])
  refine au (aP ?_);exact eX h (gg [] [2,3])
 obtain⟨a9,aa⟩:=b3;refine aw (ab (G (av ?_)));obtain rfl:=sI h;exact RI [Y2]
end
end Go.Proofs.YtflahpmlcfhpcaaGreatDoor.T
