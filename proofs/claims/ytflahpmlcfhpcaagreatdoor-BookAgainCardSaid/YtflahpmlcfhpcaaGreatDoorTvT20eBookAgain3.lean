import Derived.Test.YtflahpmlcfhpcaaGreatDoorTvT20e0
import Derived.Test.YtflahpmlcfhpcaaGreatDoorTvT20eBookAgain2
namespace Go.Proofs.YtflahpmlcfhpcaaGreatDoor.T
open Go Go.Tv Go.Proofs
open Go.IntKind (i32 i64 u32 u64)
noncomputable section
set_option maxRecDepth 100000
set_option maxHeartbeats 4000000
def hD(f:XK):(Int)→Option ((Int)⊕(Int)):=fun e =>
 (((if(decide (e<(f.length:Int)))=true then(if 0≤e∧e<(f.length:Int)then((jw ((f.getD e.toNat (0,0,0)).1)).bind fun j =>
 some ((!j)))else none)
 else some (false))).bind fun v30=>(if v30=true then some (Sum.inl (i64.wrap (e+1)))
 else some (Sum.inr e)))
def pJ(q:XK):((List Z8)×(List Z8)×Int)→Option (((List Z8)×(List Z8)×Int)⊕(((List Z8)×List Z8)⊕(((List Z8)×List Z8)×Int×Int))):=fun(v20,j,e) =>
 (if(decide (e<(q.length:Int)))=true then(if 0≤e∧e<(q.length:Int)then((jw ((q.getD e.toNat (0,0,0)).1)).bind fun u =>
 (if u=true then some (Sum.inl (v20,j,(i64.wrap (e+1))))
 else((iter (hD q) e).bind fun p=>(if 0≤e∧e<(q.length:Int)then(if(decide ((i64.wrap ((v20.length:Int)+(j.length:Int)))≥256))=true then some (Sum.inr (Sum.inr ((([]:List Z8),([]:List Z8)),24,(q.getD e.toNat (0,0,0)).2.1)))
 else(if 0≤e∧e≤p∧p≤p∧p≤(q.length:Int)then((qY ((q.take p.toNat).drop e.toNat)).bind fun(f,v) =>
 (if(!v)=true then some (Sum.inr (Sum.inr ((([]:List Z8),([]:List Z8)),30,(q.getD e.toNat (0,0,0)).2.1)))
 else((hJ ((q.take p.toNat).drop e.toNat)).bind fun x =>
 (((if(!x)=true then(if(v20.length+([(f.1,f.2)]:List Z8).length)*48≤140737488355328∧v20.length+([(f.1,f.2)]:List Z8).length≤9223372036854775807 then some ((Sum.inl ((v20++([(f.1,f.2)]:List Z8)),j)))else none)
 else((l8 j f.1 f.2).bind fun z =>
 (if z=true then some ((Sum.inr ((([]:List Z8),([]:List Z8)),23,(q.getD e.toNat (0,0,0)).2.1)))
 else(if(j.length+([(f.1,f.2)]:List Z8).length)*48≤140737488355328∧j.length+([(f.1,f.2)]:List Z8).length≤9223372036854775807 then some ((Sum.inl (v20,(j++([(f.1,f.2)]:List Z8)))))else none))))).bind fun(A:(((List Z8)×List Z8)⊕(((List Z8)×List Z8)×Int×Int)))=>match A with
 | .inl (B,C)=>some (Sum.inl (B,C,p))
 | .inr ((D,E))=>some (Sum.inr (Sum.inr (D,E)))))))else none))else none))))else none)
 else some (Sum.inr (Sum.inl (v20,j))))
def nf(u:QX):Option (((List Z8)×List Z8)×Int×Int) :=
 (if(decide ((u.length:Int) > 4096))=true then some ((([]:List Z8),([]:List Z8)),24,4096)
 else((mP (cd u)).bind fun v =>
 ((iter (pJ v) (([]:List Z8),([]:List Z8),0)).bind fun(e:(((List Z8)×List Z8)⊕(((List Z8)×List Z8)×Int×Int)))=>match e with
 | .inl (f,j)=>some ((f,j),0,0)
 | .inr ((p,q))=>some (p,q))))
theorem xj{d1:QX}{v:((List Z8)×List Z8)×Int×Int}(h:nf d1=some v):
  Pure Tryz.prog 55 [.st d1] (aM (bk false [⟨Iw,v.1⟩,⟨Y2,v.2⟩])):=by
 refine PB Tryz.func55 (fun Bw w0=>?_);unfold nf at h;refine G (G (af (G (aC h (fun B1 h=>?_) (fun B1 h=>?_)))))
 ·refine G (aw (ai ?_));obtain rfl:=sI h;exact RI [Iw,Y2]
 refine ae (ab ?_);obtain⟨B,q2,h⟩:=aj h;refine GP 2 (tD false q2) (af (G (ak (jT h (fun(v20,j,q)=>aA [(2,.adr 0 0 2 0),(3,.adr 1 0 2 0),(4,.adr 2 0 2 0),(5,.p false (.slice (.prod (.int .i32) Y2)) B),(6,.i64 q)] (Ei 0 (0:Int) v20 j) 5) (dc (eO Tryz.f55.ntmps 0 (fun(C,D)=>aA [(2,.adr 0 0 2 0),(3,.adr 1 0 2 0),(4,.adr 2 0 2 0)] (Ei 0 (0:Int) C D) 5)) (fQ tb Tryz.f55.results.toList (fun(E,I)=>[⟨Iw,E⟩,⟨Y2,I⟩]))) (gg [.nilC 16 0 88 210 qx,.nilC 16 1 89 210 qx] [0,8,16,88,89]) (fun y o h=>?_) (fun X h e σ' J=>?_)))))
 ·obtain⟨v20,j,q⟩:=y;unfold pJ at h;refine af (G (aC h (fun Y h=>?_) (fun Y h=>?_)))
  ·refine ae (ab (ak (af ?_)));obtain⟨Z,h⟩:=aE h;obtain⟨ax,a1,h⟩:=aj h;have u:=(pL a1);refine GN ⟨[],[(5,(oP u))]⟩ [(2,2,oc Z),(5,5,oc u)] (aC h (fun a2 h=>?_) (fun a2 h=>?_))
   ·refine G (au (aO (av ?_)));exact eB h (gg [] [0,1,2,3,4])
   refine ae (ab (G (af (ak (cH h (fun x=>aA [(2,.adr 0 0 2 0),(3,.adr 1 0 2 0),(4,.adr 2 0 2 0),(5,.p false (.slice (.prod (.int .i32) Y2)) B),(6,.i64 q),(7,.i64 x)] (Ei 0 (0:Int) v20 j) 5) 2 (fun z=>aA [(2,.adr 0 0 2 0),(3,.adr 1 0 2 0),(4,.adr 2 0 2 0),(5,.p false (.slice (.prod (.int .i32) Y2)) B),(6,.i64 q),(7,.i64 z)] (Ei 0 (0:Int) v20 j) 5) (gg [] [0,1,2,3,4]) (fun x o h=>?_) (fun z h=>?_))))))
   ·unfold hD at h;refine af (af (bn h (fun v30=>aA [(2,.adr 0 0 2 0),(3,.adr 1 0 2 0),(4,.adr 2 0 2 0),(5,.p false (.slice (.prod (.int .i32) Y2)) B),(6,.i64 q),(7,.i64 x),(45,.bo v30)] (Ei 0 (0:Int) v20 j) 5) (fun v30 h=>?_) (fun v30 h=>?_)))
    ·rcases aL h with⟨f,h⟩ | ⟨f,h⟩
     ·obtain⟨a3,h⟩:=aE h;obtain⟨b1,a4,h⟩:=aj h;have u:=(pL a4);exact bu ⟨[(4,true),(12,true)],[(10,(oP u))]⟩ [(5,6,an f),(7,7,oc (And.intro f a3)),(8,9,an f),(10,10,oc (And.intro f u)),(11,11,an f),(12,12,oc f)] (eN h (gg [] [0,1,2,3,4]))
     exact bu ⟨[(4,false),(12,false)],[]⟩ [(5,12,oc f)] (eN h (gg [] [0,1,2,3,4]))
    refine ab (aC h (fun a5 h=>?_) (fun a5 h=>?_))
    ·refine ae (ab (ak (Ge (ay ?_))));exact eB h (gg [] [0,1,2,3,4])
    refine au (aO ?_);exact eX h (gg [] [0,1,2,3,4])
   refine av (ab (GC 2 h (fun h=>af (G (aC h (fun a6 h=>?_) (fun a6 h=>?_))))))
   ·refine G (aw ?_);obtain rfl:=sI h;refine ai (az (bG (aK ?_)));exact bH (RI [Iw,Y2])
   refine ae (ab (GC 4 h (fun h=>?_)));obtain⟨⟨b2,b3⟩,a7,h⟩:=aj h;refine GP 1 (zP false a7) (af (ak (G (aC h (fun a8 h=>?_) (fun a8 h=>?_)))))
   ·refine G (aw ?_);obtain rfl:=sI h;refine az (ai (az (bG (aK ?_))));exact bH (RI [Iw,Y2])
   obtain⟨b4,a9,h⟩:=aj h;refine GP 1 (mU false a9) (CQ h (dc (nV Tryz.f55.ntmps (fun(L,M)=>aA [(2,.adr 0 0 2 0),(3,.adr 1 0 2 0),(4,.adr 2 0 2 0),(5,.p false (.slice (.prod (.int .i32) Y2)) B),(7,.i64 z)] (Ei 0 (0:Int) L M) 5)) (fQ tb Tryz.f55.results.toList (fun(N,O)=>[⟨Iw,N⟩,⟨Y2,O⟩]))) (fun V h=>?_) (fun V h e σ' J=>?_))
   ·refine aC h (fun aa h=>?_) (fun aa h=>?_)
    ·refine zB 4 h (fun h=>?_);obtain rfl:=sI h;exact bf (cU (gg [] [0,1,2,317,4]))
    obtain⟨b5,ac,h⟩:=aj h;refine GP 3 (vQ true false false ac) (aC h (fun ad h=>?_) (fun ad h=>?_))
    ·refine G (aw ?_);obtain rfl:=sI h;exact aK (bH (RI [Iw,Y2]))
    refine zB 4 h (fun h=>?_);obtain rfl:=sI h;exact bf (cU (gg [] [0,1,2,3,357]))
   rcases V with⟨L,M⟩ | ⟨N,O⟩
   ·obtain⟨rfl,A⟩:=J;refine cz ?_ A;refine ay (ab (Ge (ay ?_)));exact eB h (gg [] [0,1,2,3,4])
   obtain⟨rfl,hr⟩:=J;obtain rfl:=sI h;refine az (ai (az (bG (aK ?_))));exact bH hr
  refine au (aO ?_);obtain rfl:=sI h;refine dI (bf ?_);exact bM (gg [] [0,1,2,3,4])
 rcases X with⟨C,D⟩ | ⟨E,I⟩
 ·obtain⟨rfl,A⟩:=J;refine cz ?_ A;refine av (ab (G (mi [.frzC 0 0,.frzC 0 1] (by kernel_rfl) (aw ?_))));obtain rfl:=sI h;exact RI [Iw,Y2]
 obtain⟨rfl,hr⟩:=J;refine az (ai ?_);obtain rfl:=sI h;exact hr
def sk(f:XK):Option XK:=(if f.isEmpty=true then some []else(if(([]:XK).length+f.length)*16≤140737488355328∧([]:XK).length+f.length≤9223372036854775807 then some (([]:XK)++f)else none))
theorem zd(q:Bool){f j:XK}(h:sk f=some j):
  Pure Tryz.prog 56 [.p q (.slice (.prod (.int .i32) Y1)) f] (aM (bk false [⟨(.slice (.prod (.int .i32) Y1)),j⟩])):=by
 refine PB Tryz.func56 (fun Bw w0=>?_);unfold sk at h;refine G (af (JI iP (d:=3) (e:=4) (A:=(.prod (.int .i32) Y1)) (xs:=f) (el:=115) (β:=q) rfl rfl rfl rfl rfl (by kernel_rfl) (by kernel_rfl) (by kernel_rfl) (fun b hb=>?_)));cases b with
 | true =>
  obtain rfl:=hb rfl;obtain rfl:=sI h;exact zp rfl (G (aw (ai (RI [(.slice (.prod (.int .i32) Y1))]))))
 | false =>
  replace h:(if(([]:XK).length+f.length)*16≤140737488355328∧([]:XK).length+f.length≤9223372036854775807 then some (([]:XK)++f)else none)=some j:=by cases f <;> simpa using h
  refine Ic rfl (ae (ab (GC 2 h (fun h=>aw ?_))));obtain rfl:=sI h;exact RI [(.slice (.prod (.int .i32) Y1))]
def kH(u:List Z8)(q:Int):((List Nd)×Int×Int)→Option (((List Nd)×Int×Int)⊕((List Nd)×Int)):=fun(f,e,p) =>
 (if(decide (p<(((u.getD q.toNat ([],([]:QK))).1).length:Int)))=true then(if 0≤p∧p<(((u.getD q.toNat ([],([]:QK))).1).length:Int)then(if e.toNat<f.length then(if 0≤e∧e<(f.length:Int)then(((if(!((bg (α:=Int) (.int .i32) ((f.getD e.toNat Nd.z).2.1) (((u.getD q.toNat ([],([]:QK))).1).getD p.toNat 0)).isSome))=true then(if e.toNat<(jf f e.toNat).length then(if 0≤e∧e<((jf f e.toNat).length:Int)then(((if(!(((jf f e.toNat).getD e.toNat Nd.z).1))=true then(if 0≤e∧e<((jf (jf f e.toNat) e.toNat).length:Int)then(if e.toNat<(jf (jf f e.toNat) e.toNat).length then some (((jf (jf f e.toNat) e.toNat).set e.toNat (true,([]:Qq),((jf (jf f e.toNat) e.toNat).getD e.toNat Nd.z).2.2)))else none)else none)
 else some ((jf (jf f e.toNat) e.toNat)))).bind fun j=>(if e.toNat<j.length then(if 0≤e∧e<(j.length:Int)then(if(j.getD e.toNat Nd.z).1=true then(if((j.set e.toNat (true,(cO (α:=Int) (.int .i32) ((j.getD e.toNat Nd.z).2.1) (((u.getD q.toNat ([],([]:QK))).1).getD p.toNat 0) ((jf f e.toNat).length:Int)),(j.getD e.toNat Nd.z).2.2)).length+1)*32≤140737488355328∧(j.set e.toNat (true,(cO (α:=Int) (.int .i32) ((j.getD e.toNat Nd.z).2.1) (((u.getD q.toNat ([],([]:QK))).1).getD p.toNat 0) ((jf f e.toNat).length:Int)),(j.getD e.toNat Nd.z).2.2)).length+1≤9223372036854775807 then some ((((j.set e.toNat (true,(cO (α:=Int) (.int .i32) ((j.getD e.toNat Nd.z).2.1) (((u.getD q.toNat ([],([]:QK))).1).getD p.toNat 0) ((jf f e.toNat).length:Int)),(j.getD e.toNat Nd.z).2.2))++[Nd.z]),((jf f e.toNat).length:Int)))else none)else none)else none)else none))else none)else none)
 else some (((jf f e.toNat),((bg (α:=Int) (.int .i32) ((f.getD e.toNat Nd.z).2.1) (((u.getD q.toNat ([],([]:QK))).1).getD p.toNat 0)).getD 0))))).bind fun(v,x)=>some (Sum.inl (v,x,(i64.wrap (p+1)))))else none)else none)else none)
 else some (Sum.inr (f,e)))
def kB(u:List Z8)(q e:Int):((List Nd)×Int)→Option (((List Nd)×Int)⊕(List Nd)):=fun(j,f) =>
 (if(decide (f<(((u.getD q.toNat ([],([]:QK))).2).length:Int)))=true then(if 0≤f∧f<(((u.getD q.toNat ([],([]:QK))).2).length:Int)then(if e.toNat<j.length then(((if(decide (f≥(((j.getD e.toNat Nd.z).2.2).length:Int)))=true then(if e.toNat<(jf j e.toNat).length then(if((((jf j e.toNat).getD e.toNat Nd.z).2.2).length+([0]:QK).length)*1≤140737488355328∧(((jf j e.toNat).getD e.toNat Nd.z).2.2).length+([0]:QK).length≤9223372036854775807 then some (((jf j e.toNat).set e.toNat (((jf j e.toNat).getD e.toNat Nd.z).1,((jf j e.toNat).getD e.toNat Nd.z).2.1,((((jf j e.toNat).getD e.toNat Nd.z).2.2)++([0]:QK)))))else none)else none)
 else some ((jf j e.toNat)))).bind fun p=>(if e.toNat<p.length then(if 0≤f∧f<(((p.getD e.toNat Nd.z).2.2).length:Int)then(if f.toNat<((p.getD e.toNat Nd.z).2.2).length then(if 0≤f∧f<(((p.getD e.toNat Nd.z).2.2).length:Int)then(if f.toNat<((p.getD e.toNat Nd.z).2.2).length then some (Sum.inl ((p.set e.toNat ((p.getD e.toNat Nd.z).1,(p.getD e.toNat Nd.z).2.1,(((p.getD e.toNat Nd.z).2.2).set f.toNat (max (((p.getD e.toNat Nd.z).2.2).getD f.toNat 0) (((u.getD q.toNat ([],([]:QK))).2).getD f.toNat 0))))),(i64.wrap (f+1))))else none)else none)else none)else none)else none))else none)else none)
 else some (Sum.inr j))
def rF(q:List Z8):((List Nd)×Int)→Option (((List Nd)×Int)⊕(List Nd)):=fun(j,e) =>
 (if(decide (e<(q.length:Int)))=true then(if 0≤e∧e<(q.length:Int)then((iter (kH q e) (j,0,0)).bind fun(p,f)=>(if 0≤f∧f<(p.length:Int)then((iter (kB q e f) (p,0)).bind fun u=>some (Sum.inl (u,(i64.wrap (e+1)))))else none))else none)
 else some (Sum.inr j))
def px(f:List Z8):Option (Option FE) :=
 (if 0≤(1:Int)∧(1:Int)≤1∧32*(1:Int)≤281474976710656∧(1:Int)≤9223372036854775807 then((iter (rF f) ((List.replicate (1:Int).toNat Nd.z),0)).bind fun e=>some (some ((e.map (·.2)),()):Option FE))else none)
theorem yv(f:Bool){j:List Z8}{C:Option FE}(h:px j=some C):
  Pure Tryz.prog 57 [.p f (.slice qx) j] (aM (bk false [⟨(.ptr so),C⟩])):=by
 refine PB Tryz.func57 (fun Bw w0=>?_);unfold px at h;refine G ?_;obtain⟨c2,h⟩:=aE h;refine GN ⟨[],[(0,⟨.unk,[],false,[],[],[],none⟩)]⟩ [(0,0,oc c2)] (af (G (ak (cH h (fun(D,e)=>aA [(3,.adr 0 0 1 0),(17,.p f (.slice qx) j),(18,.i64 (j.length:Int)),(19,.i64 e)] [(0,.box [.sl 1]),(1,.nds 222 5 D none)] 2) 0 (fun E=>aA [(3,.adr 0 0 1 0)] [(0,.box [.sl 1]),(1,.nds 222 5 E none)] 2) (gg [] [24,8]) (fun y o h=>?_) (fun E h=>?_)))))
 ·obtain⟨D,e⟩:=y;unfold rF at h;refine G (af (aC h (fun b2 h=>?_) (fun b2 h=>?_)))
  ·refine ae (ab (af (ak (GC 0 h (fun h=>G (af (G (ak ?_))))))));refine cH h (fun(z,u,v)=>aA [(3,.adr 0 0 1 0),(5,.adr 2 0 2 0),(6,.i64 u),(17,.p f (.slice qx) j),(18,.i64 (j.length:Int)),(19,.i64 e),(24,.p f (.slice (.int .i32)) ((j.getD e.toNat ([],([]:QK))).1)),(25,.i64 (((j.getD e.toNat ([],([]:QK))).1).length:Int)),(26,.i64 v)] (Ht z f ((j.getD e.toNat ([],([]:QK))).1) f ((j.getD e.toNat ([],([]:QK))).2)) 3) 2 (fun(I,q)=>aA [(3,.adr 0 0 1 0),(5,.adr 2 0 2 0),(6,.i64 q),(17,.p f (.slice qx) j),(18,.i64 (j.length:Int)),(19,.i64 e)] (Ht I f ((j.getD e.toNat ([],([]:QK))).1) f ((j.getD e.toNat ([],([]:QK))).2)) 3) (gg [] [0,1,26]) (fun y o h=>?_) (fun b3 h=>?_)
   ·obtain⟨z,u,v⟩:=y;unfold kH at h;refine G (af (aC h (fun b4 h=>?_) (fun b4 h=>?_)))
    ·refine ae (ab (af (ak (GC 0 h (fun h=>af ?_)))));obtain⟨J,h⟩:=aE h;refine yp 1 u.toNat false J (by kernel_rfl) ?_;obtain⟨L,h⟩:=aE h;refine bu a0 [(5,5,oc L),(7,7,⟨u.toNat=u.toNat,rfl⟩)] (ab (af (af (mi [.shut 1] (by kernel_rfl) (Ge (ab (bn h (fun(M,N)=>aA [(3,.adr 0 0 1 0),(5,.adr 2 0 2 0),(9,.i64 N),(17,.p f (.slice qx) j),(18,.i64 (j.length:Int)),(19,.i64 e),(24,.p f (.slice (.int .i32)) ((j.getD e.toNat ([],([]:QK))).1)),(25,.i64 (((j.getD e.toNat ([],([]:QK))).1).length:Int)),(26,.i64 v)] (Ht M f ((j.getD e.toNat ([],([]:QK))).1) f ((j.getD e.toNat ([],([]:QK))).2)) 3) (fun O h=>?_) (fun O h=>?_))))))))
     ·refine aC h (fun b5 h=>?_) (fun b5 h=>?_)
      ·refine G (af (af ?_));obtain⟨V,h⟩:=aE h;refine yp 1 u.toNat false V (by kernel_rfl) ?_;obtain⟨X,h⟩:=aE h;refine bu a0 [(5,5,oc X),(7,7,⟨u.toNat=u.toNat,rfl⟩)] (ab (bn h (fun A=>aA [(3,.adr 0 0 1 0),(5,.adr 2 0 2 0),(6,.i64 u),(8,.i32 (((j.getD e.toNat ([],([]:QK))).1).getD v.toNat 0)),(9,.i64 ((jf z u.toNat).length:Int)),(17,.p f (.slice qx) j),(18,.i64 (j.length:Int)),(19,.i64 e),(24,.p f (.slice (.int .i32)) ((j.getD e.toNat ([],([]:QK))).1)),(25,.i64 (((j.getD e.toNat ([],([]:QK))).1).length:Int)),(26,.i64 v)] (Ht A f ((j.getD e.toNat ([],([]:QK))).1) f ((j.getD e.toNat ([],([]:QK))).2)) 3) (fun A h=>?_) (fun A h=>?_)))
       ·refine aC h (fun b6 h=>?_) (fun b6 h=>?_)
        ·refine mi [.shut 1] (by kernel_rfl) ?_;obtain⟨Y,Z,h⟩:=g2 h;exact bu a0 [(6,6,oc Y),(8,8,oc Z)] (eN h (gg [.shut 1] [0,1,2]))
        exact ae (eN h (gg [.shut 1] [0,1,2]))
       refine ab (af ?_);obtain⟨a1,h⟩:=aE h;refine yp 1 u.toNat false a1 (by kernel_rfl) ?_;obtain⟨a2,a3,h⟩:=g2 h;refine bu a0 [(5,5,oc a2),(7,7,⟨u.toNat=u.toNat,rfl⟩),(10,10,oc a3)] (ab (mi [.shut 1] (by kernel_rfl) ?_));obtain⟨a4,h⟩:=aE h;exact bu ⟨[],[(6,⟨.unk,[],false,[],[],[],none⟩)]⟩ [(7,7,oc a4)] (eN h (gg [] [0,148,2]))
      exact ae (eN h (gg [] [0,1,2]))
     obtain⟨M,N⟩:=O;refine ab (Ge (ay (ab (Ge ?_))));exact eB h (gg [] [0,1,2])
    refine au (aO ?_);exact eX h (gg [] [0,1,2])
   obtain⟨I,q⟩:=b3;refine av (ab (GC 5 h (fun h=>G (ak (cH h (fun(a5,x)=>aA [(3,.adr 0 0 1 0),(11,.adr 1 q.toNat 2 0),(17,.p f (.slice qx) j),(18,.i64 (j.length:Int)),(19,.i64 e),(96,.p f (.slice (.int .u8)) ((j.getD e.toNat ([],([]:QK))).2)),(97,.i64 (((j.getD e.toNat ([],([]:QK))).2).length:Int)),(98,.i64 x)] [(0,.box [.sl 1]),(1,.nds 222 5 a5 none)] 2) 4 (fun a6=>aA [(3,.adr 0 0 1 0),(17,.p f (.slice qx) j),(18,.i64 (j.length:Int)),(19,.i64 e)] [(0,.box [.sl 1]),(1,.nds 222 5 a6 none)] 2) (gg [] [0,1]) (fun y o h=>?_) (fun a6 h=>?_))))))
   ·obtain⟨a5,x⟩:=y;unfold kB at h;refine G (af (aC h (fun b7 h=>?_) (fun b7 h=>?_)))
    ·refine ae (ab (af (ak (GC 1 h (fun h=>af (af ?_))))));obtain⟨a7,h⟩:=aE h;refine yp 1 q.toNat true a7 (by kernel_rfl) (bu a0 [(4,4,⟨q.toNat=q.toNat,rfl⟩)] (ab (bn h (fun B=>aA [(3,.adr 0 0 1 0),(11,.adr 1 q.toNat 2 0),(12,.i64 x),(13,.u8 (((j.getD e.toNat ([],([]:QK))).2).getD x.toNat 0)),(17,.p f (.slice qx) j),(18,.i64 (j.length:Int)),(19,.i64 e),(96,.p f (.slice (.int .u8)) ((j.getD e.toNat ([],([]:QK))).2)),(97,.i64 (((j.getD e.toNat ([],([]:QK))).2).length:Int)),(98,.i64 x)] [(0,.box [.sl 1]),(1,.nds 222 5 B none)] 2) (fun B h=>?_) (fun B h=>?_))))
     ·refine aC h (fun b8 h=>?_) (fun b8 h=>?_)
      ·refine mi [.shut 1] (by kernel_rfl) ?_;obtain⟨a8,h⟩:=aE h;refine yp 1 q.toNat true a8 (by kernel_rfl) ?_;obtain⟨a9,h⟩:=aE h;exact bu a0 [(4,4,⟨q.toNat=q.toNat,rfl⟩),(6,6,oc a9),(9,9,⟨q.toNat=q.toNat∧true=true,⟨rfl,rfl⟩⟩)] (eN h (gg [.shut 1] [0,1]))
      exact ae (eN h (gg [.shut 1] [0,1]))
     refine ab ?_;obtain⟨aa,h⟩:=aE h;refine yp 1 q.toNat true aa (by kernel_rfl) ?_;obtain⟨ac,ad,ax,b1,h⟩:=g4 h;refine mZ a0 [(3,3,⟨q.toNat=q.toNat,rfl⟩),(8,8,⟨q.toNat=q.toNat,rfl⟩),(10,10,oc ac),(11,11,oc ad),(14,14,oc ax),(15,15,oc b1)] (ay (ab (mi [.shut 1] (by kernel_rfl) (Ge ?_))));exact eB h (gg [] [0,1])
    refine au (aO ?_);exact eX h (gg [] [0,1])
   refine av (ay (ab (Ge ?_)));exact eB h (gg [] [0,1])
  refine au (aO ?_);exact eX h (gg [] [0,1])
 refine av (ab (G (mi [.frzC 0 0] (by kernel_rfl) (aw ?_))));obtain rfl:=sI h;exact RI [(.ptr so)]
def mY(p:QX)(e:XK)(j f:Int):Option ((Option Z3)×Int×Int) :=
 ((nA e).bind fun x =>
 (if(!x)=true then some ((none:Option Z3),10,0)
 else(((if(decide (j<1))=true then some (true)
 else(if(decide (f<1))=true then some (true)
 else(if(decide (j > 24))=true then some (true)
 else some ((decide (f > 24))))))).bind fun v1=>(if v1=true then some ((none:Option Z3),40,0)
 else((nf p).bind fun(v,q) =>
 (if(q.1 != 0)=true then some ((none:Option Z3),q.1,q.2)
 else((sk e).bind fun z =>
 ((px v.1).bind fun u =>
 some ((some (z,u,v.2,j,f):Option Z3),0,0)))))))))
theorem Aa(u:Bool){j:QX}{e:XK}{q f:Int}{z:(Option Z3)×Int×Int}(h:mY j e q f=some z):
  Pure Tryz.prog 27 [.st j,.p u (.slice (.prod (.int .i32) Y1)) e,.i64 q,.i64 f] (aM (bk false [⟨(.ptr nh),z.1⟩,⟨Y2,z.2⟩])):=by
 refine PB Tryz.func27 (fun Bw w0=>?_);unfold mY at h;refine G (af ?_);obtain⟨V,I,h⟩:=aj h;refine GP 1 (wW u I) (aC h (fun J h=>?_) (fun J h=>?_))
 ·refine G (aw (ai ?_));obtain rfl:=sI h;exact RI [(.ptr nh),Y2]
 refine ae (ab (af (af (bn h (fun v1=>aA [(0,.st j),(1,.p u (.slice (.prod (.int .i32) Y1)) e),(2,.i64 q),(3,.i64 f),(9,.adr 0 0 2 0),(29,.bo v1)] [(0,.box [.i64 0,.i64 0])] 1) (fun v1 h=>?_) (fun v1 h=>?_)))))
 ·rcases aL h with⟨x,h⟩ | ⟨x,h⟩
  ·exact bu ⟨[(2,true),(5,true)],[]⟩ [(3,5,oc x)] (eN h (gg [] [8]))
  rcases aL h with⟨A,h⟩ | ⟨A,h⟩
  ·exact bu ⟨[(2,false),(5,false),(6,true),(9,true)],[]⟩ [(3,4,an x),(5,5,oc x),(7,9,oc A)] (eN h (gg [] [8]))
  rcases aL h with⟨v,h⟩ | ⟨v,h⟩
  ·exact bu ⟨[(2,false),(5,false),(6,false),(9,false),(10,true),(13,true)],[]⟩ [(3,4,an x),(5,5,oc x),(7,8,an A),(9,9,oc A),(11,13,oc v)] (eN h (gg [] [8]))
  exact bu ⟨[(2,false),(5,false),(6,false),(9,false),(10,false),(13,false)],[]⟩ [(3,4,an x),(5,5,oc x),(7,8,an A),(9,9,oc A),(11,12,an v),(13,13,oc v)] (eN h (gg [] [8]))
 refine ab (aC h (fun D h=>?_) (fun D h=>?_))
 ·refine G (aw (ai ?_));obtain rfl:=sI h;exact RI [(.ptr nh),Y2]
 refine ae (ab ?_);obtain⟨⟨X,Y⟩,L,h⟩:=aj h;refine GP 1 (xj L) (af (G (aC h (fun E h=>?_) (fun E h=>?_))))
 ·refine GD a0 [] (aw (ai ?_));obtain rfl:=sI h;exact RI [(.ptr nh),Y2]
 refine ae (ab ?_);obtain⟨Z,M,h⟩:=aj h;obtain⟨N,O,h⟩:=aj h;have B:=(zd u M);have C:=(yv false O);refine GD ⟨[],[(1,(oP B)),(4,(oP C))]⟩ [(1,1,oc B),(4,4,oc C)] (aw ?_);obtain rfl:=sI h;exact RI [(.ptr nh),Y2]
def jO(I J L M:XK)(N O V:QX)(X Y:Int):Option ((Option Z1)×Int×Int) :=
 ((iX N).bind fun(D,q) =>
 (if(q.1 != 0)=true then some ((none:Option Z1),q.1,q.2)
 else((iX O).bind fun(E,u) =>
 (if(u.1 != 0)=true then some ((none:Option Z1),u.1,u.2)
 else((cq D).bind fun v =>
 ((cq E).bind fun x =>
 (if 0≤(0:Int)∧0<((3:Nat):Int)then((fU I v).bind fun(z,f) =>
 (if(f != 0)=true then some ((none:Option Z1),f,0)
 else(if 0≤(1:Int)∧1<((3:Nat):Int)then((fU J x).bind fun(A,j) =>
 (if(j != 0)=true then some ((none:Option Z1),j,0)
 else(if 0≤(2:Int)∧2<((3:Nat):Int)then((fU L 3).bind fun(B,p) =>
 (if(p != 0)=true then some ((none:Option Z1),p,0)
 else((mY V M X Y).bind fun(C,e) =>
 (if(e.1 != 0)=true then some ((none:Option Z1),e.1,e.2)
 else some ((some (D,E,z,A,B,C):Option Z1),0,0)))))else none)))else none)))else none)))))))
theorem tG(f j q u:Bool){D E I J:XK}{L M N:QX}{O V:Int}{e:(Option Z1)×Int×Int}(h:jO D E I J L M N O V=some e):
  Pure Tryz.prog 10 [.agg [.p f (.slice (.prod (.int .i32) Y1)) D,.p j (.slice (.prod (.int .i32) Y1)) E,.p q (.slice (.prod (.int .i32) Y1)) I,.p u (.slice (.prod (.int .i32) Y1)) J,.st L,.st M,.st N,.i64 O,.i64 V]] (aM (bk false [⟨(.ptr tf),e.1⟩,⟨Y2,e.2⟩])):=by
 refine PB Tryz.func10 (fun Bw w0=>?_);unfold jO at h;refine G (G (G (af ?_)));obtain⟨⟨r3,r4⟩,X,h⟩:=aj h;refine GP 3 (sZ X) (G (aC h (fun Y h=>?_) (fun Y h=>?_)))
 ·refine GD a0 [] (aw (ai ?_));obtain rfl:=sI h;exact RI [(.ptr tf),Y2]
 refine ae (ab (af ?_));obtain⟨⟨r7,r8⟩,Z,h⟩:=aj h;refine GP 3 (sZ Z) (G (aC h (fun B2 h=>?_) (fun B2 h=>?_)))
 ·refine GD a0 [] (aw (ai ?_));obtain rfl:=sI h;exact RI [(.ptr tf),Y2]
 refine ae (ab (af ?_));obtain⟨a1,q7,h⟩:=aj h;obtain⟨a2,q8,h⟩:=aj h;have v:=(iW false q7);have x:=(iW false q8);refine GD ⟨[],[(9,(oP v)),(20,(oP x))]⟩ [(9,9,oc v),(20,20,oc x)] (ak (Fo 9 (G (af (zp rfl (ae (ab (af (ak (GC 0 h (fun h=>?_)))))))))));obtain⟨⟨a3,a4⟩,z,h⟩:=aj h;refine GP 4 (nM f z) (af (G (aC h (fun B3 h=>?_) (fun B3 h=>?_))))
 ·refine G (aw (ai (az (ai (CE (az (ai ?_)))))));obtain rfl:=sI h;exact RI [(.ptr tf),Y2]
 refine ae (ab (Ge (ay (ab (Ge (Gh (G (af (zp rfl (ae (ab (af (ak (GC 0 h (fun h=>?_)))))))))))))));obtain⟨⟨a5,a6⟩,A,h⟩:=aj h;refine GP 4 (nM j A) (af (G (aC h (fun B4 h=>?_) (fun B4 h=>?_))))
 ·refine G (aw (ai (az (ai (CE (az (ai ?_)))))));obtain rfl:=sI h;exact RI [(.ptr tf),Y2]
 refine ae (ab (Ge (ay (ab (Ge (Gh (G (af (zp rfl (ae (ab (af (ak (GC 0 h (fun h=>?_)))))))))))))));obtain⟨⟨a7,a8⟩,B,h⟩:=aj h;refine GP 4 (nM q B) (af (G (aC h (fun B5 h=>?_) (fun B5 h=>?_))))
 ·refine G (aw (ai (az (ai (CE (az (ai ?_)))))));obtain rfl:=sI h;exact RI [(.ptr tf),Y2]
 refine ae (ab (Ge (ay (ab (Ge (Gh (G (af (Ic rfl (au (aO (MQ (av (ab (af ?_)))))))))))))));obtain⟨⟨a9,aa⟩,C,h⟩:=aj h;refine GP 9 (Aa u C) (G (aC h (fun B6 h=>?_) (fun B6 h=>?_)))
 ·refine GD a0 [] (aw (ai ?_));obtain rfl:=sI h;exact RI [(.ptr tf),Y2]
 refine ae (ab (G (aw ?_)));obtain rfl:=sI h;exact RI [(.ptr tf),Y2]
def iy(e f q j p:Int)(u:QJ):Option (Bool) :=
 (((if(decide (e≥1))=true then(if(decide (e≤1048576))=true then(if(decide (f≥1))=true then(if(decide (f≤64))=true then(if(decide (q≤1))=true then(if(decide (j≥0))=true then(if(decide (j≤1048576))=true then(if(decide (p≥0))=true then some ((decide (p≤1048576)))
 else some (false))
 else some (false))
 else some (false))
 else some (false))
 else some (false))
 else some (false))
 else some (false))
 else some (false))).bind fun v1=>some v1)
theorem xi{B C D E I:Int}{J:QJ}{A:Bool}(h:iy B C D E I J=some A):
  Pure Tryz.prog 46 [.agg [.i64 B,.i64 C,.u8 D,.i64 E,.i64 I,.p false .flt J]] (aM (bk false [⟨.bool,A⟩])):=by
 refine PB Tryz.func46 (fun Bw w0=>?_);unfold iy at h;refine G (af (bn h (fun v1=>aA [(2,.bo v1)] [] 0) (fun v1 h=>?_) (fun v1 h=>?_)))
 ·rcases aL h with⟨e,h⟩ | ⟨e,h⟩
  ·rcases aL h with⟨f,h⟩ | ⟨f,h⟩
   ·rcases aL h with⟨j,h⟩ | ⟨j,h⟩
    ·rcases aL h with⟨q,h⟩ | ⟨q,h⟩
     ·rcases aL h with⟨u,h⟩ | ⟨u,h⟩
      ·rcases aL h with⟨v,h⟩ | ⟨v,h⟩
       ·rcases aL h with⟨x,h⟩ | ⟨x,h⟩
        ·rcases aL h with⟨z,h⟩ | ⟨z,h⟩
         ·exact bu ⟨[(3,true),(7,true),(8,true),(12,true),(13,true),(17,true),(18,true),(22,true),(23,true),(27,true),(28,true),(32,true),(33,true),(37,true),(38,true),(42,true)],[]⟩ [(4,6,an e),(7,7,oc e),(9,11,an f),(12,12,oc f),(14,16,an j),(17,17,oc j),(19,21,an q),(22,22,oc q),(24,26,an u),(27,27,oc u),(29,31,an v),(32,32,oc v),(34,36,an x),(37,37,oc x),(39,41,an z),(42,42,oc z)] (eN h (gg [] []))
         exact bu ⟨[(3,true),(7,true),(8,true),(12,true),(13,true),(17,true),(18,true),(22,true),(23,true),(27,true),(28,true),(32,true),(33,true),(37,true),(38,false),(42,false)],[]⟩ [(4,6,an e),(7,7,oc e),(9,11,an f),(12,12,oc f),(14,16,an j),(17,17,oc j),(19,21,an q),(22,22,oc q),(24,26,an u),(27,27,oc u),(29,31,an v),(32,32,oc v),(34,36,an x),(37,37,oc x),(39,42,oc z)] (eN h (gg [] []))
        exact bu ⟨[(3,true),(7,true),(8,true),(12,true),(13,true),(17,true),(18,true),(22,true),(23,true),(27,true),(28,true),(32,true),(33,false),(37,false)],[]⟩ [(4,6,an e),(7,7,oc e),(9,11,an f),(12,12,oc f),(14,16,an j),(17,17,oc j),(19,21,an q),(22,22,oc q),(24,26,an u),(27,27,oc u),(29,31,an v),(32,32,oc v),(34,37,oc x)] (eN h (gg [] []))
       exact bu ⟨[(3,true),(7,true),(8,true),(12,true),(13,true),(17,true),(18,true),(22,true),(23,true),(27,true),(28,false),(32,false)],[]⟩ [(4,6,an e),(7,7,oc e),(9,11,an f),(12,12,oc f),(14,16,an j),(17,17,oc j),(19,21,an q),(22,22,oc q),(24,26,an u),(27,27,oc u),(29,32,oc v)] (eN h (gg [] []))
      exact bu ⟨[(3,true),(7,true),(8,true),(12,true),(13,true),(17,true),(18,true),(22,true),(23,false),(27,false)],[]⟩ [(4,6,an e),(7,7,oc e),(9,11,an f),(12,12,oc f),(14,16,an j),(17,17,oc j),(19,21,an q),(22,22,oc q),(24,27,oc u)] (eN h (gg [] []))
     exact bu ⟨[(3,true),(7,true),(8,true),(12,true),(13,true),(17,true),(18,false),(22,false)],[]⟩ [(4,6,an e),(7,7,oc e),(9,11,an f),(12,12,oc f),(14,16,an j),(17,17,oc j),(19,22,oc q)] (eN h (gg [] []))
    exact bu ⟨[(3,true),(7,true),(8,true),(12,true),(13,false),(17,false)],[]⟩ [(4,6,an e),(7,7,oc e),(9,11,an f),(12,12,oc f),(14,17,oc j)] (eN h (gg [] []))
   exact bu ⟨[(3,true),(7,true),(8,false),(12,false)],[]⟩ [(4,6,an e),(7,7,oc e),(9,12,oc f)] (eN h (gg [] []))
  exact bu ⟨[(3,false),(7,false)],[]⟩ [(4,7,oc e)] (eN h (gg [] []))
 refine ab (aw ?_);obtain rfl:=sI h;exact RI [.bool]
def bd(f:Option y4)(e:Int):Option (Int) :=
 (((if f.isNone=true then some (true)
 else(if(decide (e<0))=true then some (true)
 else some ((decide (e > 1114111)))))).bind fun v1=>(if v1=true then some 0
 else(if f.isSome=true then(if 0≤(8:Int)then(if f.isSome=true then(if 0≤(Int.fdiv e (2 ^ (min (8:Int).toNat i32.bits)))∧(Int.fdiv e (2 ^ (min (8:Int).toNat i32.bits)))<((4352:Nat):Int)then(if 0≤(fC ((f.getD (Ty.zero vV)).1) (Int.fdiv e (2 ^ (min (8:Int).toNat i32.bits))).toNat)∧(fC ((f.getD (Ty.zero vV)).1) (Int.fdiv e (2 ^ (min (8:Int).toNat i32.bits))).toNat)<(((f.getD (Ty.zero vV)).2).length:Int)then(if 0≤(bitsOf .and .i32 e 255)∧(bitsOf .and .i32 e 255)<((256:Nat):Int)then some (i64.wrap (fC (((f.getD (Ty.zero vV)).2).getD ((fC ((f.getD (Ty.zero vV)).1) (Int.fdiv e (2 ^ (min (8:Int).toNat i32.bits))).toNat).toNat) (dB 256)) (bitsOf .and .i32 e 255).toNat))else none)else none)else none)else none)else none)else none)))
theorem mJ(j:Bool){v:Option y4}{x q:Int}(h:bd v x=some q):
  Pure Tryz.prog 70 [.p j (.ptr vV) v,.i32 x] (aM (bk false [⟨(.int .i64),q⟩])):=by
 refine PB Tryz.func70 (fun Bw w0=>?_);unfold bd at h;refine G (af (af (bn h (fun v1=>aA [(0,.p j (.ptr vV) v),(1,.i32 x),(14,.bo v1)] [] 0) (fun v1 h=>?_) (fun v1 h=>?_))))
 ·rcases aL h with⟨f,h⟩ | ⟨f,h⟩
  ·exact bu ⟨[(2,true),(5,true)],[]⟩ [(1,1,⟨∃e,Tryz.prog.underlying 99=some (.pointer e),⟨_,rfl⟩⟩),(3,5,oc f)] (eN h (gg [] []))
  rcases aL h with⟨u,h⟩ | ⟨u,h⟩
  ·exact bu ⟨[(2,false),(5,false),(6,true),(9,true)],[]⟩ [(1,1,⟨∃e,Tryz.prog.underlying 99=some (.pointer e),⟨_,rfl⟩⟩),(3,4,an f),(5,5,oc f),(7,9,oc u)] (eN h (gg [] []))
  exact bu ⟨[(2,false),(5,false),(6,false),(9,false)],[]⟩ [(1,1,⟨∃e,Tryz.prog.underlying 99=some (.pointer e),⟨_,rfl⟩⟩),(3,4,an f),(5,5,oc f),(7,8,an u),(9,9,oc u)] (eN h (gg [] []))
 refine ab (aC h (fun C h=>?_) (fun C h=>?_))
 ·refine G (aw (ai ?_));obtain rfl:=sI h;exact RI [(.int .i64)]
 refine ae (ab ?_);obtain⟨D,E,I,z,h⟩:=g4 h;obtain⟨A,B,h⟩:=g2 h;refine GD a0 [(1,1,oc D),(6,6,oc E),(7,7,oc I),(9,9,oc z),(13,13,oc A),(14,14,oc B)] (aw ?_);obtain rfl:=sI h;exact RI [(.int .i64)]
def dA(p:Option y4)(j:XK):tW→Option (tW⊕QK):=fun(e,f) =>
 (if(decide (f<(j.length:Int)))=true then(if 0≤f∧f<(j.length:Int)then((bd p ((j.getD f.toNat (0,0,0)).1)).bind fun q =>
 (if 0≤f∧f<(e.length:Int)then(if f.toNat<e.length then some (Sum.inl ((e.set f.toNat q),(i64.wrap (f+1))))else none)else none))else none)
 else some (Sum.inr e))
def cE(j:Option y4)(e:XK):Option QK :=
 (if 0≤(e.length:Int)∧(e.length:Int)≤(e.length:Int)∧8*(e.length:Int)≤281474976710656∧(e.length:Int)≤9223372036854775807 then((iter (dA j e) ((List.replicate (e.length:Int).toNat (0:Int)),0)).bind fun f=>some f)else none)
theorem kT(j q:Bool){z:Option y4}{x:XK}{u:QK}(h:cE z x=some u):
  Pure Tryz.prog 39 [.p j (.ptr vV) z,.p q (.slice (.prod (.int .i32) Y2)) x] (aM (bk false [⟨(.slice (.int .i64)),u⟩])):=by
 refine PB Tryz.func39 (fun Bw w0=>?_);unfold cE at h;refine G (GC 2 h (fun h=>af (G (ak (cH h (fun(e,C)=>aA [(0,.p j (.ptr vV) z),(5,.sl 0),(11,.p q (.slice (.prod (.int .i32) Y2)) x),(12,.i64 (x.length:Int)),(13,.i64 C)] [(0,.arr 3 (.int .i64) e)] 1) 0 (fun f=>aA [(5,.sl 0)] [(0,.arr 3 (.int .i64) f)] 1) (gg [] [24]) (fun y o h=>?_) (fun f h=>?_))))))
 ·obtain⟨e,C⟩:=y;unfold dA at h;refine G (af (aC h (fun D h=>?_) (fun D h=>?_)))
  ·refine ae (ab (af (ak (GC 1 h (fun h=>?_)))));obtain⟨I,E,h⟩:=aj h;obtain⟨A,B,h⟩:=g2 h;have v:=(mJ j E);refine bu ⟨[],[(5,(oP v))]⟩ [(5,5,oc v),(6,6,oc A),(7,7,oc B)] (ay (ab (Ge ?_)));exact eB h (gg [] [0])
  refine au (aO ?_);exact eX h (gg [] [0])
 refine av (ab (G (aw ?_)));obtain rfl:=sI h;exact RI [(.slice (.int .i64))]
def jI(p:QZ)(e:QK):(QK×Int×Int)→Option ((QK×Int×Int)⊕QK):=fun(f,j,v4) =>
 (if(decide (v4<(e.length:Int)))=true then(if 0≤v4∧v4<(e.length:Int)then(((if(decide ((e.getD v4.toNat 0)<0))=true then some (true)
 else(if 0≤j∧j<(p.length:Int)then some ((decide ((e.getD v4.toNat 0)≥((p.getD j.toNat []).length:Int))))else none))).bind fun q=>(if q=true then some (Sum.inr f)
 else(if 0≤j∧j<(p.length:Int)then(if 0≤(e.getD v4.toNat 0)∧(e.getD v4.toNat 0)<((p.getD j.toNat []).length:Int)then(if(f.length+([((p.getD j.toNat []).getD ((e.getD v4.toNat 0).toNat) 0)]:QK).length)*8≤140737488355328∧f.length+([((p.getD j.toNat []).getD ((e.getD v4.toNat 0).toNat) 0)]:QK).length≤9223372036854775807 then some (Sum.inl ((f++([((p.getD j.toNat []).getD ((e.getD v4.toNat 0).toNat) 0)]:QK)),((p.getD j.toNat []).getD ((e.getD v4.toNat 0).toNat) 0),(i64.wrap (v4+1))))else none)else none)else none)))else none)
 else some (Sum.inr f))
def mX(j:QZ)(p e:QK):Option QK :=
 (if((j.length:Int) == 0)=true then some ([]:QK)
 else((iter (jI j e) (([0]:QK),0,0)).bind fun f=>some f))
theorem tY(u v x:Bool){A:QZ}{B e z:QK}(h:mX A B e=some z):
  Pure Tryz.prog 67 [.agg [.p u (.slice (.slice (.int .i64))) A,.p v (.slice (.int .u32)) B],.p x (.slice (.int .i64)) e] (aM (bk false [⟨(.slice (.int .i64)),z⟩])):=by
 refine PB Tryz.func67 (fun Bw w0=>?_);unfold mX at h;refine G (af (G (aC h (fun N h=>?_) (fun N h=>?_))))
 ·refine G (aw (ai ?_));obtain rfl:=sI h;exact RI [(.slice (.int .i64))]
 refine ae (ab (G (G (af (G (ak (cH h (fun(j,C,v4)=>aA [(2,.adr 0 0 2 0),(5,.sl 1),(6,.i64 C),(14,.p x (.slice (.int .i64)) e),(15,.i64 (e.length:Int)),(16,.i64 v4)] (Li u A v B j) 2) 0 (fun q=>aA [(5,.sl 0)] [(0,.arr 3 (.int .i64) q)] 1) (gg [] [0,48]) (fun y o h=>?_) (fun q h=>?_))))))))
 ·obtain⟨j,C,v4⟩:=y;unfold jI at h;refine G (af (aC h (fun D h=>?_) (fun D h=>?_)))
  ·refine ae (ab (af (ak (GC 0 h (fun h=>af (af (bn h (fun E=>aA [(2,.adr 0 0 2 0),(5,.sl 1),(6,.i64 C),(8,.i64 (e.getD v4.toNat 0)),(14,.p x (.slice (.int .i64)) e),(15,.i64 (e.length:Int)),(16,.i64 v4),(31,.bo E)] (Li u A v B j) 2) (fun E h=>?_) (fun E h=>?_))))))))
   ·rcases aL h with⟨f,h⟩ | ⟨f,h⟩
    ·exact bu ⟨[(2,true),(11,true)],[]⟩ [(3,11,oc f)] (eN h (gg [] [0,1]))
    obtain⟨I,h⟩:=aE h;exact bu ⟨[(2,false),(11,false)],[]⟩ [(3,6,an f),(7,7,oc (And.intro f I)),(8,10,an f),(11,11,oc f)] (eN h (gg [] [0,1]))
   refine ab (aC h (fun J h=>?_) (fun J h=>?_))
   ·refine au (aO (jv rfl (aO ?_)));exact eX h (gg [] [1])
   refine ae (ab ?_);obtain⟨L,M,h⟩:=g2 h;refine GN a0 [(3,3,oc L),(6,6,oc M)] (zB 3 h (fun h=>ay (ab (Ge ?_))));exact eB h (gg [] [0,98])
  refine au (aO ?_);exact eX h (gg [] [1])
 refine av (ab (G (aw ?_)));obtain rfl:=sI h;exact RI [(.slice (.int .i64))]
def bP  : (QK×Int×Int)→Option ((QK×Int×Int)⊕QK):=fun(e,f,j) =>
 (if(decide (f<j))=true then(if 0≤j∧j<(e.length:Int)then(if j.toNat<e.length then(if 0≤f∧f<(e.length:Int)then(if f.toNat<e.length then(if 0≤f∧f<(e.length:Int)then(if f.toNat<e.length then(if 0≤j∧j<((e.set f.toNat (e.getD j.toNat 0)).length:Int)then(if j.toNat<(e.set f.toNat (e.getD j.toNat 0)).length then some (Sum.inl (((e.set f.toNat (e.getD j.toNat 0)).set j.toNat (e.getD f.toNat 0)),(i64.wrap (f+1)),(i64.wrap (j - 1))))else none)else none)else none)else none)else none)else none)else none)else none)
 else some (Sum.inr e))
def cm(e:QK):Option QK :=
 ((iter (bP) (e,0,(i64.wrap ((e.length:Int) - 1)))).bind fun f=>some f)
theorem kb{B e:QK}(h:cm B=some e):
  hY Tryz.prog 68 [.sl 0] [(0,.arr 3 (.int .i64) B)] (.tup []) [(0,.arr 3 (.int .i64) e)]:=by
 refine OB Tryz.func68 (fun Bw w0=>?_);unfold cm at h;refine G (ak (cH h (fun(C,D,E)=>aA [(0,.sl 0),(2,.i64 D),(3,.i64 E)] [(0,.arr 3 (.int .i64) C)] 1 1) 0 (fun f=>aA [] [(0,.arr 3 (.int .i64) f)] 1 1) (gg [] [0]) (fun y o h=>?_) (fun f h=>?_)))
 ·obtain⟨C,D,E⟩:=y;unfold bP at h;refine af (G (aC h (fun I h=>?_) (fun I h=>?_)))
  ·refine ae (ab (af (ak ?_)));obtain⟨j,p,q,u,h⟩:=g4 h;obtain⟨v,x,z,A,h⟩:=g4 h;refine mZ a0 [(6,6,oc j),(7,7,oc p),(10,10,oc q),(11,11,oc u),(12,12,oc v),(13,13,oc x),(14,14,oc z),(15,15,oc A)] (ay (ab (Ge ?_)));exact eB h (gg [] [0])
  refine au (aO ?_);exact eX h (gg [] [0])
 refine av ?_;obtain rfl:=sI h;exact(RO [] [] [0] [] [(0,.arr 3 (.int .i64) f)] 1 1).normal
def gy(e:Int):Option (Int):=some (pE e)
theorem lr(x:Int)(w:World)(hl:sT Tryz.prog w):Calls Tryz.prog 69 #[.int .u32 x] w fun e f=>e = .returned (.int .i64 (pE x))∧f=w:=by
 have hc:w.cell? ⟨0,(bits BinOp.and u32 x (-x % 4294967296)*125613361 % 4294967296 / 134217728).toNat,none⟩=some (.int .u8 (IW.getD (bits BinOp.and u32 x (-x % 4294967296)*125613361 % 4294967296 / 134217728).toNat 0)):=hl 0 (by kernel_rfl) _ (F4 _);go_enter Tryz.func69,Tryz.ntmps69;go_wp2
 ·rename_i h;go_ret
  exact⟨by rw[EU h];rfl,rfl⟩
 rename_i h;go_ret
 exact⟨by rw[←Fg h,List.getD_eq_getElem?_getD];rfl,rfl⟩
theorem mM{f e:Int}(h:gy f=some e):
  Pure Tryz.prog 69 [.u32 f] (aM (bk false [⟨(.int .i64),e⟩])):=by
 obtain rfl:=sI h;exact Pure.Ld Tryz.func69 (by kernel_rfl) rfl (fun w=>lr _ w)
def dv(j:Option Z5)(p:QK):(QK×QK×Bool×Int)→Option ((QK×QK×Bool×Int)⊕Z8):=fun(v10,v11,q,e) =>
 (if(decide (e<(p.length:Int)))=true then(if 0≤e∧e<(p.length:Int)then(((if(decide ((p.getD e.toNat 0)<0))=true then some (true)
 else(if j.isSome=true then some ((decide ((p.getD e.toNat 0)≥(((j.getD (Ty.zero mF)).1.1).length:Int))))else none))).bind fun u=>(((if u=true then some (0)
 else some ((p.getD e.toNat 0)))).bind fun f=>(((if q=true then(if j.isSome=true then(if 0≤f then some (((bitsOf .and .u32 (Int.fdiv ((j.getD (Ty.zero mF)).1.2.1) (2 ^ (min f.toNat u32.bits))) (1:Int)) == 1))else none)else none)
 else some (false))).bind fun v=>(if v=true then some (Sum.inl (v10,v11,q,(i64.wrap (e+1))))
 else(if j.isSome=true then(if 0≤f then(if(v10.length+([e]:QK).length)*8≤140737488355328∧v10.length+([e]:QK).length≤9223372036854775807 then(if j.isSome=true then(if 0≤f∧f<(((j.getD (Ty.zero mF)).1.2.2.2.1).length:Int)then(if(v11.length+([(((j.getD (Ty.zero mF)).1.2.2.2.1).getD f.toNat 0)]:QK).length)*8≤140737488355328∧v11.length+([(((j.getD (Ty.zero mF)).1.2.2.2.1).getD f.toNat 0)]:QK).length≤9223372036854775807 then some (Sum.inl ((v10++([e]:QK)),(v11++([(((j.getD (Ty.zero mF)).1.2.2.2.1).getD f.toNat 0)]:QK)),((bitsOf .and .u32 (Int.fdiv ((j.getD (Ty.zero mF)).1.2.2.1) (2 ^ (min f.toNat u32.bits))) (1:Int)) == 1),(i64.wrap (e+1))))else none)else none)else none)else none)else none)else none)))))else none)
 else some (Sum.inr (v10,v11)))
def dw(p:Option Z5)(f u x:QK):tW→Option (tW⊕QK):=fun(j,e) =>
 (if(decide (e<(f.length:Int)))=true then(if p.isSome=true then(if 0≤e∧e<(u.length:Int)then(if 0≤(u.getD e.toNat 0)∧(u.getD e.toNat 0)<(((p.getD (Ty.zero mF)).2.1.2).length:Int)then(if p.isSome=true then(if 0≤(i64.wrap ((f.length:Int) - e))∧(i64.wrap ((f.length:Int) - e))<(x.length:Int)then(if 0≤(x.getD ((i64.wrap ((f.length:Int) - e)).toNat) 0)∧(x.getD ((i64.wrap ((f.length:Int) - e)).toNat) 0)<(((p.getD (Ty.zero mF)).2.2.2).length:Int)then(if 0≤e∧e<(f.length:Int)then(if e.toNat<f.length then(if 0≤(f.getD e.toNat 0)∧(f.getD e.toNat 0)<(j.length:Int)then(if(f.getD e.toNat 0).toNat<j.length then(((if((bitsOf .and .u32 (((p.getD (Ty.zero mF)).2.1.2).getD ((u.getD e.toNat 0).toNat) 0) (((p.getD (Ty.zero mF)).2.2.2).getD ((x.getD ((i64.wrap ((f.length:Int) - e)).toNat) 0).toNat) 0)) != 0)=true then(if 0≤e∧e<(f.length:Int)then(if e.toNat<f.length then(if p.isSome=true then((gy (bitsOf .and .u32 (((p.getD (Ty.zero mF)).2.1.2).getD ((u.getD e.toNat 0).toNat) 0) (((p.getD (Ty.zero mF)).2.2.2).getD ((x.getD ((i64.wrap ((f.length:Int) - e)).toNat) 0).toNat) 0))).bind fun q =>
 (if 0≤q∧q<(((p.getD (Ty.zero mF)).1.2.2.2.2).length:Int)then(if 0≤(f.getD e.toNat 0)∧(f.getD e.toNat 0)<((j.set ((f.getD e.toNat 0).toNat) 1).length:Int)then(if(f.getD e.toNat 0).toNat<(j.set ((f.getD e.toNat 0).toNat) 1).length then some (((j.set ((f.getD e.toNat 0).toNat) 1).set ((f.getD e.toNat 0).toNat) ((((p.getD (Ty.zero mF)).1.2.2.2.2).getD q.toNat (0,(Tree.node 0 0 []),(Tree.node 0 0 []))).1)))else none)else none)else none))else none)else none)else none)
 else some ((j.set ((f.getD e.toNat 0).toNat) 1)))).bind fun z=>some (Sum.inl (z,(i64.wrap (e+1)))))else none)else none)else none)else none)else none)else none)else none)else none)else none)else none)
 else some (Sum.inr j))
def eJ(f:Option Z5)(e:QK):Option QK :=
 (if 0≤(i64.wrap ((e.length:Int)+1))∧(i64.wrap ((e.length:Int)+1))≤(i64.wrap ((e.length:Int)+1))∧1*(i64.wrap ((e.length:Int)+1))≤281474976710656∧(i64.wrap ((e.length:Int)+1))≤9223372036854775807 then(if 0≤(e.length:Int)∧(e.length:Int)<((List.replicate (i64.wrap ((e.length:Int)+1)).toNat (0:Int)).length:Int)then(if(e.length:Int).toNat<(List.replicate (i64.wrap ((e.length:Int)+1)).toNat (0:Int)).length then(if f.isNone=true then some ((List.replicate (i64.wrap ((e.length:Int)+1)).toNat (0:Int)).set ((e.length:Int).toNat) 2)
 else((iter (dv f e) (([]:QK),([]:QK),false,0)).bind fun(p,j)=>(if f.isSome=true then((mX ((f.getD (Ty.zero mF)).2.1.1) ((f.getD (Ty.zero mF)).2.1.2) j).bind fun u =>
 ((cm j).bind fun v =>
 (if f.isSome=true then((mX ((f.getD (Ty.zero mF)).2.2.1) ((f.getD (Ty.zero mF)).2.2.2) v).bind fun x =>
 ((iter (dw f p u x) (((List.replicate (i64.wrap ((e.length:Int)+1)).toNat (0:Int)).set ((e.length:Int).toNat) 2),1)).bind fun q=>some q))else none)))else none)))else none)else none)else none)
theorem lz(f z:Bool){B:Option Z5}{j M:QK}(h:eJ B j=some M):
  Pure Tryz.prog 38 [.p f (.ptr mF) B,.p z (.slice (.int .i64)) j] (aM (bk false [⟨(.slice (.int .u8)),M⟩])):=by
 refine PB Tryz.func38 (fun Bw w0=>?_);unfold eJ at h;refine G (GC 3 h (fun h=>?_));obtain⟨c5,c6,h⟩:=g2 h;refine GN a0 [(3,3,oc c5),(4,4,oc c6)] (af (GN a0 [(1,1,⟨∃e,Tryz.prog.underlying 98=some (.pointer e),⟨_,rfl⟩⟩)] (aC h (fun B1 h=>?_) (fun B1 h=>?_))))
 ·refine G (aw (ai ?_));obtain rfl:=sI h;exact RI [(.slice (.int .u8))]
 refine ae (ab (G (G (af (G (ak (cH h (fun(v10,v11,A,q)=>aA [(0,.p f (.ptr mF) B),(5,.sl 0),(6,.sl 1),(7,.sl 2),(8,.bo A),(26,.p z (.slice (.int .i64)) j),(27,.i64 (j.length:Int)),(28,.i64 q)] (F8 ((List.replicate (i64.wrap ((j.length:Int)+1)).toNat (0:Int)).set ((j.length:Int).toNat) 2) v10 v11) 3) 0 (fun(C,N)=>aA [(0,.p f (.ptr mF) B),(5,.sl 0),(6,.sl 1),(7,.sl 2)] (F8 ((List.replicate (i64.wrap ((j.length:Int)+1)).toNat (0:Int)).set ((j.length:Int).toNat) 2) C N) 3) (gg [.nilS 6 152 3 (.int .i64),.nilS 7 153 3 (.int .i64)] [32,152,153]) (fun y o h=>?_) (fun r1 h=>?_))))))))
 ·obtain⟨v10,v11,A,q⟩:=y;unfold dv at h;refine G (af (aC h (fun b1 h=>?_) (fun b1 h=>?_)))
  ·refine ae (ab (af (ak (GC 1 h (fun h=>af (af (bn h (fun E=>aA [(0,.p f (.ptr mF) B),(5,.sl 0),(6,.sl 1),(7,.sl 2),(8,.bo A),(9,.i64 q),(10,.i64 (j.getD q.toNat 0)),(26,.p z (.slice (.int .i64)) j),(27,.i64 (j.length:Int)),(28,.i64 q),(44,.bo E)] (F8 ((List.replicate (i64.wrap ((j.length:Int)+1)).toNat (0:Int)).set ((j.length:Int).toNat) 2) v10 v11) 3) (fun E h=>?_) (fun E h=>?_))))))))
   ·rcases aL h with⟨x,h⟩ | ⟨x,h⟩
    ·exact bu ⟨[(2,true),(11,true)],[]⟩ [(3,11,oc x)] (eN h (gg [] [0,1,2]))
    obtain⟨b2,h⟩:=aE h;exact bu ⟨[(2,false),(11,false)],[]⟩ [(3,4,an x),(5,5,oc (And.intro x b2)),(6,10,an x),(11,11,oc x)] (eN h (gg [] [0,1,2]))
   refine ab (bn h (fun D=>aA [(0,.p f (.ptr mF) B),(5,.sl 0),(6,.sl 1),(7,.sl 2),(8,.bo A),(9,.i64 q),(10,.i64 D),(26,.p z (.slice (.int .i64)) j),(27,.i64 (j.length:Int)),(28,.i64 q)] (F8 ((List.replicate (i64.wrap ((j.length:Int)+1)).toNat (0:Int)).set ((j.length:Int).toNat) 2) v10 v11) 3) (fun D h=>?_) (fun D h=>?_))
   ·refine aC h (fun b3 h=>?_) (fun b3 h=>?_)
    ·exact Ge (eN h (gg [] [0,1,2]))
    exact ae (eN h (gg [] [0,1,2]))
   refine ab (af (af (bn h (fun I=>aA [(0,.p f (.ptr mF) B),(5,.sl 0),(6,.sl 1),(7,.sl 2),(8,.bo A),(9,.i64 q),(10,.i64 D),(26,.p z (.slice (.int .i64)) j),(27,.i64 (j.length:Int)),(28,.i64 q),(56,.bo I)] (F8 ((List.replicate (i64.wrap ((j.length:Int)+1)).toNat (0:Int)).set ((j.length:Int).toNat) 2) v10 v11) 3) (fun I h=>?_) (fun I h=>?_))))
   ·rcases aL h with⟨u,h⟩ | ⟨u,h⟩
    ·obtain⟨b4,b5,h⟩:=g2 h;exact bu ⟨[(1,true),(11,true)],[]⟩ [(2,2,an u),(3,3,oc (And.intro u b4)),(4,7,an u),(8,8,oc (And.intro u b5)),(9,10,an u),(11,11,oc u)] (eN h (gg [] [0,1,2]))
    exact bu ⟨[(1,false),(11,false)],[]⟩ [(2,11,oc u)] (eN h (gg [] [0,1,2]))
   refine ab (aC h (fun b6 h=>?_) (fun b6 h=>?_))
   ·refine au (aO (av (ab (Ge ?_))));exact eB h (gg [] [0,1,2])
   refine ae (ab ?_);obtain⟨b7,b8,h⟩:=g2 h;refine GN a0 [(1,1,oc b7),(6,6,oc b8)] ?_;obtain⟨b9,be,bi,bs,h⟩:=g4 h;refine mZ a0 [(3,3,oc b9),(6,6,oc be),(11,11,oc bi),(14,14,oc bs)] (ay (ab (Ge ?_)));exact eB h (gg [] [0,107,195])
  refine au (aO ?_);exact eX h (gg [] [0,1,2])
 obtain⟨C,N⟩:=r1;refine av (ab ?_);obtain⟨bv,h⟩:=aE h;obtain⟨r3,q2,h⟩:=aj h;have v:=(tY f f true q2);refine GN ⟨[],[(5,(oP v))]⟩ [(1,1,oc bv),(5,5,oc v)] ?_;obtain⟨r5,q4,h⟩:=aj h;refine GO 1 [2] (kb q4) ?_;obtain⟨bx,h⟩:=aE h;obtain⟨r7,q6,h⟩:=aj h;have v:=(tY f f true q6);refine GN ⟨[],[(5,(oP v))]⟩ [(1,1,oc bx),(5,5,oc v)] (af (G (ak (cH h (fun(O,J)=>aA [(0,.p f (.ptr mF) B),(5,.sl 0),(6,.sl 1),(11,.p false (.slice (.int .i64)) r3),(12,.p false (.slice (.int .i64)) r7),(13,.i64 J)] [(0,.arr 91 (.int .u8) O),(1,.arr 3 (.int .i64) C)] 2) 2 (fun V=>aA [(5,.sl 0)] [(0,.arr 91 (.int .u8) V)] 1) (gg [] [0,1]) (fun y o h=>?_) (fun V h=>?_)))))
 ·obtain⟨O,J⟩:=y;unfold dw at h;refine af (G (aC h (fun c1 h=>?_) (fun c1 h=>?_)))
  ·refine ae (ab (af (ak ?_)));obtain⟨X,Y,Z,a1,h⟩:=g4 h;obtain⟨a2,a3,h⟩:=g2 h;refine GD a0 [(1,1,oc X),(7,7,oc Y),(9,9,oc Z),(12,12,oc a1),(21,21,oc a2),(23,23,oc a3)] ?_;obtain⟨a4,a5,a6,a7,h⟩:=g4 h;refine GN a0 [(3,3,oc a4),(4,4,oc a5),(5,5,oc a6),(6,6,oc a7)] (G (bn h (fun L=>aA [(0,.p f (.ptr mF) B),(5,.sl 0),(6,.sl 1),(11,.p false (.slice (.int .i64)) r3),(12,.p false (.slice (.int .i64)) r7),(13,.i64 J)] [(0,.arr 91 (.int .u8) L),(1,.arr 3 (.int .i64) C)] 2) (fun L h=>?_) (fun L h=>?_)))
   ·refine aC h (fun c2 h=>?_) (fun c2 h=>?_)
    ·obtain⟨a8,a9,aa,h⟩:=g3 h;obtain⟨c4,c3,h⟩:=aj h;obtain⟨ac,ad,ax,h⟩:=g3 h;have v:=(mM c3);exact mZ ⟨[],[(11,(oP v))]⟩ [(3,3,oc a8),(4,4,oc a9),(6,6,oc aa),(11,11,oc v),(12,12,oc ac),(15,15,oc ad),(16,16,oc ax)] (eN h (gg [] [0,1]))
    exact ae (eN h (gg [] [0,1]))
   refine ay (ab (Ge ?_));exact eB h (gg [] [0,1])
  refine au (aO ?_);exact eX h (gg [] [0])
 refine av (ab (G (aw ?_)));obtain rfl:=sI h;exact RI [(.slice (.int .u8))]
def eD(e:Int)(f:Option Z3)(j:Int):Option (Bool) :=
 (if f.isSome=true then(if 0≤e∧e<(((f.getD (Ty.zero nh)).1).length:Int)then some (decide (((((f.getD (Ty.zero nh)).1).getD e.toNat (0,0,0)).2.1)≥j))else none)else none)
theorem mh(f:Bool){j:Int}{q:Option Z3}{u:Int}{e:Bool}(h:eD j q u=some e):
  Pure Tryz.prog 107 [.i64 j,.fad true [.p f (.ptr nh) q] 0,.fad true [.i32 u] 0] (aM (bk false [⟨.bool,e⟩])):=by
 refine PB Tryz.func107 (fun Bw w0=>?_);unfold eD at h;refine G ?_;obtain⟨v,x,h⟩:=g2 h;refine GD a0 [(1,1,oc v),(5,5,oc x)] (aw ?_);obtain rfl:=sI h;exact RI [.bool]
def pe(j:Option Z3)(p:Int):(Int×Int)→Option ((Int×Int)⊕(Int)):=fun(e,f) =>
 (if(decide (e<f))=true then(if 0≤(1:Int)then((eD (i64.wrap (Int.fdiv (u64.wrap (i64.wrap (e+f))) (2 ^ (min (1:Int).toNat u64.bits)))) j p).bind fun q =>
 (if(!q)=true then some (Sum.inl ((i64.wrap ((i64.wrap (Int.fdiv (u64.wrap (i64.wrap (e+f))) (2 ^ (min (1:Int).toNat u64.bits))))+1)),f))
 else some (Sum.inl (e,(i64.wrap (Int.fdiv (u64.wrap (i64.wrap (e+f))) (2 ^ (min (1:Int).toNat u64.bits))))))))else none)
 else some (Sum.inr e))
def oT(e:Int)(f:Option Z3)(j:Int):Option (Int) :=
 ((iter (pe f j) (0,e)).bind fun p=>some p)
theorem uH(e:Bool){u:Int}{j:Option Z3}{q f:Int}(h:oT u j q=some f):
  Pure Tryz.prog 106 [.i64 u,.fn 107 [.fad true [.p e (.ptr nh) j] 0,.fad true [.i32 q] 0]] (aM (bk false [⟨(.int .i64),f⟩])):=by
 refine PB Tryz.func106 (fun Bw w0=>?_);unfold oT at h;refine G (G (af (ak (cH h (fun(v,x)=>aA [(1,.fn 107 [.fad true [.p e (.ptr nh) j] 0,.fad true [.i32 q] 0]),(5,.i64 v),(6,.i64 x)] [] 0) 0 (fun z=>aA [(5,.i64 z)] [] 0) (gg [] []) (fun y o h=>?_) (fun z h=>?_)))))
 ·obtain⟨v,x⟩:=y;unfold pe at h;refine af (G (aC h (fun A h=>?_) (fun A h=>?_)))
  ·refine ae (ab (ak (GC 4 h (fun h=>?_))));obtain⟨D,B,h⟩:=aj h;refine GP 2 (mh e B) (aC h (fun C h=>?_) (fun C h=>?_))
   ·refine Ge (ay ?_);exact eB h (gg [] [])
   refine Ge (ay ?_);exact eB h (gg [] [])
  refine au (aO ?_);exact eX h (gg [] [])
 refine av (ab (G (aw ?_)));obtain rfl:=sI h;exact RI [(.int .i64)]
def dS(e:Option Z3)(j:Int):Option (Int×Bool) :=
 (if e.isNone=true then some (0,false)
 else(if e.isSome=true then((oT (((e.getD (Ty.zero nh)).1).length:Int) e j).bind fun f =>
 (((if e.isSome=true then(if(f == (((e.getD (Ty.zero nh)).1).length:Int))=true then some (true)
 else(if e.isSome=true then(if 0≤f∧f<(((e.getD (Ty.zero nh)).1).length:Int)then some ((decide (((((e.getD (Ty.zero nh)).1).getD f.toNat (0,0,0)).1) > j)))else none)else none))else none)).bind fun v1=>(if v1=true then some (0,false)
 else(if e.isSome=true then(if 0≤f∧f<(((e.getD (Ty.zero nh)).1).length:Int)then(if e.isSome=true then(if 0≤f∧f<(((e.getD (Ty.zero nh)).1).length:Int)then some ((i32.wrap ((i32.wrap ((i32.wrap ((((e.getD (Ty.zero nh)).1).getD f.toNat (0,0,0)).2.2))+j)) - ((((e.getD (Ty.zero nh)).1).getD f.toNat (0,0,0)).1))),true)else none)else none)else none)else none))))else none))
theorem nJ(j:Bool){v:Option Z3}{x:Int}{q:Int×Bool}(h:dS v x=some q):
  Pure Tryz.prog 71 [.p j (.ptr nh) v,.i32 x] (aM (bk false [⟨(.int .i32),q.1⟩,⟨.bool,q.2⟩])):=by
 refine PB Tryz.func71 (fun Bw w0=>?_);unfold dS at h;refine G (af (GN a0 [(1,1,⟨∃e,Tryz.prog.underlying 100=some (.pointer e),⟨_,rfl⟩⟩)] (aC h (fun J h=>?_) (fun J h=>?_))))
 ·refine G (aw (ai ?_));obtain rfl:=sI h;exact RI [(.int .i32),.bool]
 refine ae (ab ?_);obtain⟨L,h⟩:=aE h;obtain⟨M,N,h⟩:=aj h;have u:=(uH j N);refine GN ⟨[],[(6,(oP u))]⟩ [(1,1,oc L),(6,6,oc u)] (af (af (bn h (fun v1=>aA [(2,.adr 0 0 1 0),(3,.adr 1 0 1 0),(6,.i64 M),(34,.bo v1)] [(0,.box [.p j (.ptr nh) v]),(1,.box [.i32 x])] 2) (fun v1 h=>?_) (fun v1 h=>?_))))
 ·obtain⟨I,h⟩:=aE h;rcases aL h with⟨f,h⟩ | ⟨f,h⟩
  ·exact mZ ⟨[(7,true),(18,true)],[]⟩ [(2,2,oc I),(8,18,oc f)] (eN h (gg [] [0,8]))
  obtain⟨z,A,h⟩:=g2 h;exact mZ ⟨[(7,false),(18,false)],[]⟩ [(2,2,oc I),(8,8,an f),(9,9,oc (And.intro f z)),(10,12,an f),(13,13,oc (And.intro f A)),(14,17,an f),(18,18,oc f)] (eN h (gg [] [0,8]))
 refine ab (aC h (fun O h=>?_) (fun O h=>?_))
 ·refine G (aw (ai ?_));obtain rfl:=sI h;exact RI [(.int .i32),.bool]
 refine ae (ab ?_);obtain⟨B,C,D,E,h⟩:=g4 h;refine GD a0 [(1,1,oc B),(5,5,oc C),(12,12,oc D),(16,16,oc E)] (aw ?_);obtain rfl:=sI h;exact RI [(.int .i32),.bool]
def kj(v:Option FE)(j p:Int):tW→Option (tW⊕QK):=fun(f,e) =>
 (if(decide (e<(((((v.getD (Ty.zero so)).1).getD p.toNat ([],([]:QK))).2).length:Int)))=true then(if 0≤e∧e<(((((v.getD (Ty.zero so)).1).getD p.toNat ([],([]:QK))).2).length:Int)then(((if(decide ((i64.wrap ((i64.wrap (j+e)) - 1))≥0))=true then some ((decide ((i64.wrap ((i64.wrap (j+e)) - 1))<(f.length:Int))))
 else some (false))).bind fun q=>(((if q=true then(if 0≤(i64.wrap ((i64.wrap (j+e)) - 1))∧(i64.wrap ((i64.wrap (j+e)) - 1))<(f.length:Int)then(if(i64.wrap ((i64.wrap (j+e)) - 1)).toNat<f.length then(if 0≤(i64.wrap ((i64.wrap (j+e)) - 1))∧(i64.wrap ((i64.wrap (j+e)) - 1))<(f.length:Int)then(if(i64.wrap ((i64.wrap (j+e)) - 1)).toNat<f.length then some ((f.set ((i64.wrap ((i64.wrap (j+e)) - 1)).toNat) (max (f.getD ((i64.wrap ((i64.wrap (j+e)) - 1)).toNat) 0) (((((v.getD (Ty.zero so)).1).getD p.toNat ([],([]:QK))).2).getD e.toNat 0))))else none)else none)else none)else none)
 else some (f))).bind fun u=>some (Sum.inl (u,(i64.wrap (e+1))))))else none)
 else some (Sum.inr f))
def kg(p:Option FE)(q:QK)(v:Int):(QK×Int×Int)→Option ((QK×Int×Int)⊕QK):=fun(u,e,f) =>
 (if p.isSome=true then(if 0≤e∧e<(((p.getD (Ty.zero so)).1).length:Int)then((iter (kj p v e) (u,0)).bind fun j=>(if(f == (((([46]:QK)++q)++([46]:QK)).length:Int))=true then some (Sum.inr j)
 else(if p.isSome=true then(if 0≤e∧e<(((p.getD (Ty.zero so)).1).length:Int)then(if 0≤f∧f<(((([46]:QK)++q)++([46]:QK)).length:Int)then(if f.toNat<((([46]:QK)++q)++([46]:QK)).length then(if(!((bg (α:=Int) (.int .i32) ((((p.getD (Ty.zero so)).1).getD e.toNat ([],([]:QK))).1) (((([46]:QK)++q)++([46]:QK)).getD f.toNat 0)).isSome))=true then some (Sum.inr j)
 else some (Sum.inl (j,((bg (α:=Int) (.int .i32) ((((p.getD (Ty.zero so)).1).getD e.toNat ([],([]:QK))).1) (((([46]:QK)++q)++([46]:QK)).getD f.toNat 0)).getD 0),(i64.wrap (f+1)))))else none)else none)else none)else none)))else none)else none)
def kh(q:Option FE)(p:QK):tW→Option (tW⊕QK):=fun(f,e) =>
 (if(decide (e<(((([46]:QK)++p)++([46]:QK)).length:Int)))=true then((iter (kg q p e) (f,0,e)).bind fun j=>some (Sum.inl (j,(i64.wrap (e+1)))))
 else some (Sum.inr f))
def fy(j:Option FE)(e:QK):Option QK :=
 (if 0≤(i64.wrap ((e.length:Int)+1))∧(i64.wrap ((e.length:Int)+1))≤(i64.wrap ((e.length:Int)+1))∧1*(i64.wrap ((e.length:Int)+1))≤281474976710656∧(i64.wrap ((e.length:Int)+1))≤9223372036854775807 then(if j.isNone=true then some (List.replicate (i64.wrap ((e.length:Int)+1)).toNat (0:Int))
 else(if(([46]:QK).length+e.length)*4≤140737488355328∧([46]:QK).length+e.length≤9223372036854775807 then(if((([46]:QK)++e).length+([46]:QK).length)*4≤140737488355328∧(([46]:QK)++e).length+([46]:QK).length≤9223372036854775807 then((iter (kh j e) ((List.replicate (i64.wrap ((e.length:Int)+1)).toNat (0:Int)),0)).bind fun f=>some f)else none)else none))else none)
theorem pF(q ac:Bool){x:Option FE}{z L:QK}(h:fy x z=some L):
  Pure Tryz.prog 108 [.p q (.ptr so) x,.p ac (.slice (.int .i32)) z] (aM (bk false [⟨(.slice (.int .u8)),L⟩])):=by
 refine PB Tryz.func108 (fun Bw w0=>?_);unfold fy at h;refine G (GC 3 h (fun h=>af (GN a0 [(1,1,⟨∃e,Tryz.prog.underlying 160=some (.pointer e),⟨_,rfl⟩⟩)] (aC h (fun B1 h=>?_) (fun B1 h=>?_)))))
 ·refine G (aw (ai ?_));obtain rfl:=sI h;exact RI [(.slice (.int .u8))]
 refine ae (ab ?_);obtain⟨c5,c6,h⟩:=g2 h;refine GN a0 [(2,2,oc c5),(4,4,oc c6)] (af (G (ak (cH h (fun(M,j)=>aA [(0,.p q (.ptr so) x),(5,.sl 0),(6,.sl 1),(28,.i64 (((([46]:QK)++z)++([46]:QK)).length:Int)),(29,.i64 j)] [(0,.arr 5 (.int .u8) M),(1,.arr 21 (.int .i32) ((([46]:QK)++z)++([46]:QK)))] 2) 0 (fun N=>aA [(5,.sl 0)] [(0,.arr 5 (.int .u8) N)] 1) (gg [] [32,96]) (fun y o h=>?_) (fun N h=>?_)))))
 ·obtain⟨M,j⟩:=y;unfold kh at h;refine G (af (aC h (fun O h=>?_) (fun O h=>?_)))
  ·refine ae (ab (af (ak (G (G (G (ak (cH h (fun(E,f,u)=>aA [(0,.p q (.ptr so) x),(5,.sl 0),(6,.sl 1),(7,.i64 j),(8,.i64 f),(9,.i64 u),(28,.i64 (((([46]:QK)++z)++([46]:QK)).length:Int)),(29,.i64 j)] [(0,.arr 5 (.int .u8) E),(1,.arr 21 (.int .i32) ((([46]:QK)++z)++([46]:QK)))] 2) 2 (fun I=>aA [(0,.p q (.ptr so) x),(5,.sl 0),(6,.sl 1),(28,.i64 (((([46]:QK)++z)++([46]:QK)).length:Int)),(29,.i64 j)] [(0,.arr 5 (.int .u8) I),(1,.arr 21 (.int .i32) ((([46]:QK)++z)++([46]:QK)))] 2) (gg [] [0,1]) (fun y o h=>?_) (fun I h=>?_)))))))))
   ·obtain⟨E,f,u⟩:=y;unfold kg at h;refine af (ak (af ?_));obtain⟨V,X,h⟩:=g2 h;refine GN a0 [(1,1,oc V),(5,5,oc X)] (ak ?_);refine cH h (fun(B,v)=>aA [(0,.p q (.ptr so) x),(5,.sl 0),(6,.sl 1),(7,.i64 j),(8,.i64 f),(9,.i64 u),(28,.i64 (((([46]:QK)++z)++([46]:QK)).length:Int)),(29,.i64 j),(42,.p q (.slice (.int .u8)) ((((x.getD (Ty.zero so)).1).getD f.toNat ([],([]:QK))).2)),(43,.i64 (((((x.getD (Ty.zero so)).1).getD f.toNat ([],([]:QK))).2).length:Int)),(44,.i64 v)] [(0,.arr 5 (.int .u8) B),(1,.arr 21 (.int .i32) ((([46]:QK)++z)++([46]:QK)))] 2) 4 (fun J=>aA [(0,.p q (.ptr so) x),(5,.sl 0),(6,.sl 1),(7,.i64 j),(8,.i64 f),(9,.i64 u),(28,.i64 (((([46]:QK)++z)++([46]:QK)).length:Int)),(29,.i64 j)] [(0,.arr 5 (.int .u8) J),(1,.arr 21 (.int .i32) ((([46]:QK)++z)++([46]:QK)))] 2) (gg [] [0,1]) (fun y o h=>?_) (fun J h=>?_)
    ·obtain⟨B,v⟩:=y;unfold kj at h;refine G (af (aC h (fun Y h=>?_) (fun Y h=>?_)))
     ·refine ae (ab (af (ak (GC 1 h (fun h=>G (af ?_))))));refine bn h (fun C=>aA [(0,.p q (.ptr so) x),(5,.sl 0),(6,.sl 1),(7,.i64 j),(8,.i64 f),(9,.i64 u),(11,.u8 (((((x.getD (Ty.zero so)).1).getD f.toNat ([],([]:QK))).2).getD v.toNat 0)),(12,.i64 (i64.wrap ((i64.wrap (j+v)) - 1))),(28,.i64 (((([46]:QK)++z)++([46]:QK)).length:Int)),(29,.i64 j),(42,.p q (.slice (.int .u8)) ((((x.getD (Ty.zero so)).1).getD f.toNat ([],([]:QK))).2)),(43,.i64 (((((x.getD (Ty.zero so)).1).getD f.toNat ([],([]:QK))).2).length:Int)),(44,.i64 v),(60,.bo C)] [(0,.arr 5 (.int .u8) B),(1,.arr 21 (.int .i32) ((([46]:QK)++z)++([46]:QK)))] 2) (fun C h=>?_) (fun C h=>?_)
      ·rcases aL h with⟨A,h⟩ | ⟨A,h⟩
       ·exact bu ⟨[(2,true),(7,true)],[]⟩ [(3,6,an A),(7,7,oc A)] (eN h (gg [] [0,1]))
       exact bu ⟨[(2,false),(7,false)],[]⟩ [(3,7,oc A)] (eN h (gg [] [0,1]))
      refine ab (bn h (fun D=>aA [(0,.p q (.ptr so) x),(5,.sl 0),(6,.sl 1),(7,.i64 j),(8,.i64 f),(9,.i64 u),(28,.i64 (((([46]:QK)++z)++([46]:QK)).length:Int)),(29,.i64 j),(42,.p q (.slice (.int .u8)) ((((x.getD (Ty.zero so)).1).getD f.toNat ([],([]:QK))).2)),(43,.i64 (((((x.getD (Ty.zero so)).1).getD f.toNat ([],([]:QK))).2).length:Int)),(44,.i64 v)] [(0,.arr 5 (.int .u8) D),(1,.arr 21 (.int .i32) ((([46]:QK)++z)++([46]:QK)))] 2) (fun D h=>?_) (fun D h=>?_))
      ·refine aC h (fun Z h=>?_) (fun Z h=>?_)
       ·obtain⟨a1,a2,a3,a4,h⟩:=g4 h;exact bu a0 [(4,4,oc a1),(5,5,oc a2),(8,8,oc a3),(9,9,oc a4)] (eN h (gg [] [0,1]))
       exact ae (eN h (gg [] [0,1]))
      refine ay (ab (Ge ?_));exact eB h (gg [] [0,1])
     refine au (aO ?_);exact eX h (gg [] [0,1])
    refine av (ab (af (G (aC h (fun a5 h=>?_) (fun a5 h=>?_)))))
    ·refine au (aO (jv rfl (aO ?_)));exact eX h (gg [] [0,1])
    refine ae (ab ?_);obtain⟨a6,a7,a8,a9,h⟩:=g4 h;refine GD a0 [(1,1,oc a6),(5,5,oc a7),(10,10,oc a8),(11,11,oc a9)] (af (G (aC h (fun aa h=>?_) (fun aa h=>?_))))
    ·refine au (aO (jv rfl (aO ?_)));exact eX h (gg [] [0,1])
    refine ae (ab (Ge (ay (ab (Ge ?_)))));exact eB h (gg [] [0,1])
   refine av (ay (ab (Ge ?_)));exact eB h (gg [] [0,1])
  refine au (aO ?_);exact eX h (gg [] [0])
 refine av (ab (G (aw ?_)));obtain rfl:=sI h;exact RI [(.slice (.int .u8))]
def gW(e p f:QK):Option (Bool) :=
 ((cD e f).bind fun j =>
 some j)
theorem m7(e q f:Bool){u v x:QK}{j:Bool}(h:gW u v x=some j):
  Pure Tryz.prog 110 [.agg [.p e (.slice (.int .i32)) u,.p q (.slice (.int .u8)) v],.fad true [.p f (.slice (.int .i32)) x] 0] (aM (bk false [⟨.bool,j⟩])):=by
 refine PB Tryz.func110 (fun Bw w0=>?_);unfold gW at h;refine G ?_;obtain⟨A,z,h⟩:=aj h;refine GP 3 (gq e f z) (aw ?_);obtain rfl:=sI h;exact RI [.bool]
def lY(f:List Z8)(j:QK):(Int)→Option ((Int)⊕((Unit)⊕(Int))):=fun e =>
 (if(decide (e<(f.length:Int)))=true then(if 0≤e∧e<(f.length:Int)then((gW ((f.getD e.toNat ([],([]:QK))).1) ((f.getD e.toNat ([],([]:QK))).2) j).bind fun p =>
 (if p=true then some (Sum.inr (Sum.inr e))
 else some (Sum.inl (i64.wrap (e+1)))))else none)
 else some (Sum.inr (Sum.inl ())))
def ja(e:List Z8)(f:QK):Option (Int) :=
 ((iter (lY e f) (0:Int)).bind fun(j:((Unit)⊕(Int)))=>match j with
 | .inl _=>some (-1:Int)
 | .inr (p)=>some p)
theorem qN(f j:Bool){v:List Z8}{x:QK}{q:Int}(h:ja v x=some q):
  Pure Tryz.prog 109 [.p f (.slice qx) v,.fn 110 [.fad true [.p j (.slice (.int .i32)) x] 0]] (aM (bk false [⟨(.int .i64),q⟩])):=by
 refine PB Tryz.func109 (fun Bw w0=>?_);unfold ja at h;refine G (af (G (ak (jT h (fun A=>aA [(0,.p f (.slice qx) v),(1,.fn 110 [.fad true [.p j (.slice (.int .i32)) x] 0]),(7,.i64 (v.length:Int)),(8,.i64 A)] [] 0) (dc (eO Tryz.f109.ntmps 0 (fun _=>aA [] [] 0)) (fQ tb Tryz.f109.results.toList (fun B=>[⟨(.int .i64),B⟩]))) (gg [] []) (fun A o h=>?_) (fun D h e σ' C=>?_)))))
 ·unfold lY at h;refine G (af (aC h (fun E h=>?_) (fun E h=>?_)))
  ·refine ae (ab (af (ak (G ?_))));obtain⟨I,h⟩:=aE h;obtain⟨N,J,h⟩:=aj h;have u:=(m7 f f j J);refine GN ⟨[],[(5,(oP u))]⟩ [(3,3,oc I),(5,5,oc u)] (aC h (fun L h=>?_) (fun L h=>?_))
   ·refine G (aw ?_);obtain rfl:=sI h;refine az (ai (bG (aK ?_)));exact bH (RI [(.int .i64)])
   refine ae (ay (ab (Ge ?_)));exact eB h (gg [] [])
  refine au (aO ?_);obtain rfl:=sI h;refine dI (bf ?_);exact bM (gg [] [])
 rcases D with _ | B
 ·obtain⟨rfl,z⟩:=C;refine cz ?_ z;refine av (ab (G (aw ?_)));obtain rfl:=sI h;exact RI [(.int .i64)]
 obtain⟨rfl,M⟩:=C;refine az (ai ?_);obtain rfl:=sI h;exact M
def gr(q:Option Z3)(p e:QK):((List Bool)×Int)→Option (((List Bool)×Int)⊕(List Bool)):=fun(f,j) =>
 (if q.isSome=true then(if(decide (j≤(i64.wrap ((p.length:Int) - ((q.getD (Ty.zero nh)).2.2.2.2)))))=true then(if 0≤j∧j<(e.length:Int)then(if ¬(2:Int)=0 then(if 0≤j∧j<(f.length:Int)then(if j.toNat<f.length then some (Sum.inl ((f.set j.toNat ((Int.tmod (e.getD j.toNat 0) (2:Int)) == 1)),(i64.wrap (j+1))))else none)else none)else none)else none)
 else some (Sum.inr f))else none)
def eS(f:Option Z3)(e:QK):Option (List Bool) :=
 (if 0≤(i64.wrap ((e.length:Int)+1))∧(i64.wrap ((e.length:Int)+1))≤(i64.wrap ((e.length:Int)+1))∧1*(i64.wrap ((e.length:Int)+1))≤281474976710656∧(i64.wrap ((e.length:Int)+1))≤9223372036854775807 then(if f.isNone=true then some (List.replicate (i64.wrap ((e.length:Int)+1)).toNat false)
 else(if f.isSome=true then((fy ((f.getD (Ty.zero nh)).2.1) e).bind fun u =>
 (if f.isSome=true then((ja ((f.getD (Ty.zero nh)).2.2.1) e).bind fun q =>
 (((if(decide (q≥0))=true then(if f.isSome=true then(if 0≤q∧q<(((f.getD (Ty.zero nh)).2.2.1).length:Int)then some ((((f.getD (Ty.zero nh)).2.2.1).getD q.toNat ([],([]:QK))).2)else none)else none)
 else some (u))).bind fun j=>(if f.isSome=true then((iter (gr f e j) ((List.replicate (i64.wrap ((e.length:Int)+1)).toNat false),(f.getD (Ty.zero nh)).2.2.2.1)).bind fun p=>some p)else none)))else none))else none))else none)
theorem ov(q:Bool){A:Option Z3}{j:QK}{z:List Bool}(h:eS A j=some z):
  Pure Tryz.prog 72 [.p false (.ptr nh) A,.p q (.slice (.int .i32)) j] (aM (bk false [⟨(.slice .bool),z⟩])):=by
 refine PB Tryz.func72 (fun Bw w0=>?_);unfold eS at h;refine G (GC 3 h (fun h=>af (GN a0 [(1,1,⟨∃e,Tryz.prog.underlying 100=some (.pointer e),⟨_,rfl⟩⟩)] (aC h (fun N h=>?_) (fun N h=>?_)))))
 ·refine G (aw (ai ?_));obtain rfl:=sI h;exact RI [(.slice .bool)]
 refine ae (ab ?_);obtain⟨O,h⟩:=aE h;obtain⟨r2,V,h⟩:=aj h;have u:=(pF false q V);refine GD ⟨[],[(5,(oP u))]⟩ [(1,1,oc O),(5,5,oc u)] (af ?_);obtain⟨X,h⟩:=aE h;obtain⟨r4,Y,h⟩:=aj h;have u:=(qN false q Y);refine GN ⟨[],[(5,(oP u))]⟩ [(1,1,oc X),(5,5,oc u)] (G (bn h (fun f=>aA [(0,.p false (.ptr nh) A),(3,.adr 0 0 1 0),(5,.sl 1),(6,.p false (.slice (.int .u8)) f)] (KZ q j (List.replicate (i64.wrap ((j.length:Int)+1)).toNat false)) 2) (fun f h=>?_) (fun f h=>?_)))
 ·refine aC h (fun Z h=>?_) (fun Z h=>?_)
  ·obtain⟨B,C,h⟩:=g2 h;exact bu a0 [(1,1,oc B),(5,5,oc C)] (eN h (gg [] [0,40]))
  exact ae (eN h (gg [] [0,40]))
 refine ab (af (GC 1 h (fun h=>ak (cH h (fun(v,M)=>aA [(0,.p false (.ptr nh) A),(3,.adr 0 0 1 0),(5,.sl 1),(6,.p false (.slice (.int .u8)) f),(8,.i64 M)] (KZ q j v) 2) 0 (fun x=>aA [(5,.sl 0)] [(0,.arr 4 .bool x)] 1) (gg [] [0,1]) (fun y o h=>?_) (fun x h=>?_)))))
 ·obtain⟨v,M⟩:=y;unfold gr at h;refine af ?_;obtain⟨D,h⟩:=aE h;refine GD a0 [(4,4,oc D)] (aC h (fun B6 h=>?_) (fun B6 h=>?_))
  ·refine ae (ab (af (ak ?_)));obtain⟨E,I,J,L,h⟩:=g4 h;refine bu a0 [(4,4,oc E),(6,6,oc I),(8,8,oc J),(9,9,oc L)] (ay (ab (Ge ?_)));exact eB h (gg [] [0,1])
  refine au (aO ?_);exact eX h (gg [] [1])
 refine av (ab (G (aw ?_)));obtain rfl:=sI h;exact RI [(.slice .bool)]
def iT(u:Option Z3)(p:XK):(Int×QK)→Option ((Int×QK)⊕(Int×QK)):=fun(f,e) =>
 (if(decide (f<(p.length:Int)))=true then(if 0≤f∧f<(p.length:Int)then((dS u ((p.getD f.toNat (0,0,0)).1)).bind fun(j,q) =>
 (if(!q)=true then some (Sum.inr (f,e))
 else(if(e.length+([j]:QK).length)*4≤140737488355328∧e.length+([j]:QK).length≤9223372036854775807 then some (Sum.inl ((i64.wrap (f+1)),(e++([j]:QK))))else none)))else none)
 else some (Sum.inr (f,e)))
def jd(q:Option Z3)(u:XK):((List Bool)×Int)→Option (((List Bool)×Int)⊕(List Bool)):=fun(f,i8) =>
 (if(decide (i8<(u.length:Int)))=true then((iter (iT q u) (i8,([]:QK))).bind fun(p,e)=>(if 0≤i8∧i8≤(f.length:Int)then((eS q e).bind fun j =>
 (if 0≤(0:Int)∧0≤(e.length:Int)∧(e.length:Int)≤(j.length:Int)then some (Sum.inl ((f.take i8.toNat++(((j.take (e.length:Int).toNat).drop (0:Int).toNat).take (f.length - i8.toNat)++f.drop (i8.toNat+((j.take (e.length:Int).toNat).drop (0:Int).toNat).length))),(i64.wrap (p+1))))else none))else none))
 else some (Sum.inr f))
def dP(j:Option Z3)(e:XK):Option (List Bool) :=
 (if 0≤(i64.wrap ((e.length:Int)+1))∧(i64.wrap ((e.length:Int)+1))≤(i64.wrap ((e.length:Int)+1))∧1*(i64.wrap ((e.length:Int)+1))≤281474976710656∧(i64.wrap ((e.length:Int)+1))≤9223372036854775807 then((iter (jd j e) ((List.replicate (i64.wrap ((e.length:Int)+1)).toNat false),0)).bind fun f=>some f)else none)
theorem np(u:Bool){v:Option Z3}{z:XK}{A:List Bool}(h:dP v z=some A):
  Pure Tryz.prog 40 [.p false (.ptr nh) v,.p u (.slice (.prod (.int .i32) Y2)) z] (aM (bk false [⟨(.slice .bool),A⟩])):=by
 refine PB Tryz.func40 (fun Bw w0=>?_);unfold dP at h;refine G (GC 3 h (fun h=>G (af (G (ak (cH h (fun(e,i8)=>aA [(0,.p false (.ptr nh) v),(1,.p u (.slice (.prod (.int .i32) Y2)) z),(5,.sl 0),(6,.bfn 71 [.p false (.ptr nh) v]),(7,.i64 i8)] [(0,.arr 4 .bool e)] 1) 0 (fun x=>aA [(5,.sl 0)] [(0,.arr 4 .bool x)] 1) (gg [] [32]) (fun y o h=>?_) (fun x h=>?_)))))))
 ·obtain⟨e,i8⟩:=y;unfold jd at h;refine af (G (aC h (fun D h=>?_) (fun D h=>?_)))
  ·refine ae (ab (af (ak (G (G (af (ak (cH h (fun(B,f)=>aA [(0,.p false (.ptr nh) v),(1,.p u (.slice (.prod (.int .i32) Y2)) z),(5,.sl 0),(6,.bfn 71 [.p false (.ptr nh) v]),(7,.i64 B),(8,.sl 1),(9,.i64 i8)] [(0,.arr 4 .bool e),(1,.arr 21 (.int .i32) f)] 2) 2 (fun(C,j)=>aA [(0,.p false (.ptr nh) v),(1,.p u (.slice (.prod (.int .i32) Y2)) z),(5,.sl 0),(6,.bfn 71 [.p false (.ptr nh) v]),(7,.i64 C),(8,.sl 1),(9,.i64 i8)] [(0,.arr 4 .bool e),(1,.arr 21 (.int .i32) j)] 2) (gg [.nilS 8 57 21 (.int .i32)] [0,57]) (fun y o h=>?_) (fun E h=>?_)))))))))
   ·obtain⟨B,f⟩:=y;unfold iT at h;refine af (G (aC h (fun I h=>?_) (fun I h=>?_)))
    ·refine ae (ab (af (ak ?_)));obtain⟨J,h⟩:=aE h;obtain⟨⟨X,Y⟩,L,h⟩:=aj h;have q:=(nJ false L);refine GN ⟨[],[(6,(oP q))]⟩ [(3,3,oc J),(6,6,oc q)] (af (G (aC h (fun M h=>?_) (fun M h=>?_))))
     ·refine au (aO (jv rfl (aO ?_)));exact eX h (gg [] [0,1])
     refine ae (ab (zB 3 h (fun h=>ay (ab (Ge ?_)))));exact eB h (gg [] [0,170])
    refine au (aO ?_);exact eX h (gg [] [0,1])
   obtain⟨C,j⟩:=E;refine av (ab ?_);obtain⟨N,h⟩:=aE h;obtain⟨Z,O,h⟩:=aj h;obtain⟨V,h⟩:=aE h;have q:=(ov true O);refine mZ ⟨[],[(5,(oP q))]⟩ [(2,2,oc N),(5,5,oc q),(8,8,oc V)] (ay (ab (Ge ?_)));exact eB h (gg [] [0])
  refine au (aO ?_);exact eX h (gg [] [0])
 refine av (ab (G (aw ?_)));obtain rfl:=sI h;exact RI [(.slice .bool)]
def lf(e:Int):Option (Int) :=
 (if(e == 32)=true then some 1
 else(if(e == 9)=true then some 2
 else some 0))
theorem xB{f e:Int}(h:lf f=some e):
  Pure Tryz.prog 105 [.i32 f] (aM (bk false [⟨(.int .u8),e⟩])):=by
 refine PB Tryz.func105 (fun Bw w0=>?_);unfold lf at h;refine G (af (G (ak (G (aC h (fun j h=>?_) (fun j h=>?_))))))
 ·refine G (aw (az (ai ?_)));obtain rfl:=sI h;exact RI [(.int .u8)]
 refine G (aC h (fun p h=>?_) (fun p h=>?_))
 ·refine G (aw (az (ai ?_)));obtain rfl:=sI h;exact RI [(.int .u8)]
 refine ae (ay (ab (G (aw ?_))));obtain rfl:=sI h;exact RI [(.int .u8)]
def dC(q:XK)(A:QK)(D:Option y4):(Qj×QK×Int)→Option ((Qj×QK×Int)⊕(Qj×QK)):=fun(u,v,j) =>
 (if(decide (j<(q.length:Int)))=true then(if 0≤j∧j<(q.length:Int)then(((if(j == 0)=true then some (true)
 else(if(decide (j<(A.length:Int)))=true then(if 0≤j∧j<(A.length:Int)then some (((A.getD j.toNat 0) != 0))else none)
 else some (false)))).bind fun B=>(((if B=true then((lf ((q.getD j.toNat (0,0,0)).1)).bind fun z =>
 (if(u.length+([((q.getD j.toNat (0,0,0)).2.1,0,0,z)]:Qj).length)*32≤140737488355328∧u.length+([((q.getD j.toNat (0,0,0)).2.1,0,0,z)]:Qj).length≤9223372036854775807 then(if(v.length+([j]:QK).length)*8≤140737488355328∧v.length+([j]:QK).length≤9223372036854775807 then some (((u++([((q.getD j.toNat (0,0,0)).2.1,0,0,z)]:Qj)),(v++([j]:QK))))else none)else none))
 else some ((u,v)))).bind fun(e,p)=>(if 0≤(i64.wrap ((e.length:Int) - 1))∧(i64.wrap ((e.length:Int) - 1))<(e.length:Int)then(if 0≤(i64.wrap ((p.length:Int) - 1))∧(i64.wrap ((p.length:Int) - 1))<(p.length:Int)then(if(i64.wrap ((p.length:Int) - 1)).toNat<p.length then(((if((p.getD ((i64.wrap ((p.length:Int) - 1)).toNat) 0) != j)=true then(if(i64.wrap ((e.length:Int) - 1)).toNat<e.length then some ((e.set ((i64.wrap ((e.length:Int) - 1)).toNat) ((e.getD ((i64.wrap ((e.length:Int) - 1)).toNat) (0,0,0,0)).1,(e.getD ((i64.wrap ((e.length:Int) - 1)).toNat) (0,0,0,0)).2.1,(e.getD ((i64.wrap ((e.length:Int) - 1)).toNat) (0,0,0,0)).2.2.1,0)))else none)
 else some (e))).bind fun f=>(if(i64.wrap ((e.length:Int) - 1)).toNat<f.length then(if(i64.wrap ((e.length:Int) - 1)).toNat<f.length then(if(i64.wrap ((e.length:Int) - 1)).toNat<(f.set ((i64.wrap ((e.length:Int) - 1)).toNat) ((f.getD ((i64.wrap ((e.length:Int) - 1)).toNat) (0,0,0,0)).1,(i64.wrap (((f.getD ((i64.wrap ((e.length:Int) - 1)).toNat) (0,0,0,0)).2.1)+((q.getD j.toNat (0,0,0)).2.2))),(f.getD ((i64.wrap ((e.length:Int) - 1)).toNat) (0,0,0,0)).2.2.1,(f.getD ((i64.wrap ((e.length:Int) - 1)).toNat) (0,0,0,0)).2.2.2)).length then((bd D ((q.getD j.toNat (0,0,0)).1)).bind fun C =>
 (if(i64.wrap ((e.length:Int) - 1)).toNat<(f.set ((i64.wrap ((e.length:Int) - 1)).toNat) ((f.getD ((i64.wrap ((e.length:Int) - 1)).toNat) (0,0,0,0)).1,(i64.wrap (((f.getD ((i64.wrap ((e.length:Int) - 1)).toNat) (0,0,0,0)).2.1)+((q.getD j.toNat (0,0,0)).2.2))),(f.getD ((i64.wrap ((e.length:Int) - 1)).toNat) (0,0,0,0)).2.2.1,(f.getD ((i64.wrap ((e.length:Int) - 1)).toNat) (0,0,0,0)).2.2.2)).length then some (Sum.inl (((f.set ((i64.wrap ((e.length:Int) - 1)).toNat) ((f.getD ((i64.wrap ((e.length:Int) - 1)).toNat) (0,0,0,0)).1,(i64.wrap (((f.getD ((i64.wrap ((e.length:Int) - 1)).toNat) (0,0,0,0)).2.1)+((q.getD j.toNat (0,0,0)).2.2))),(f.getD ((i64.wrap ((e.length:Int) - 1)).toNat) (0,0,0,0)).2.2.1,(f.getD ((i64.wrap ((e.length:Int) - 1)).toNat) (0,0,0,0)).2.2.2)).set ((i64.wrap ((e.length:Int) - 1)).toNat) (((f.set ((i64.wrap ((e.length:Int) - 1)).toNat) ((f.getD ((i64.wrap ((e.length:Int) - 1)).toNat) (0,0,0,0)).1,(i64.wrap (((f.getD ((i64.wrap ((e.length:Int) - 1)).toNat) (0,0,0,0)).2.1)+((q.getD j.toNat (0,0,0)).2.2))),(f.getD ((i64.wrap ((e.length:Int) - 1)).toNat) (0,0,0,0)).2.2.1,(f.getD ((i64.wrap ((e.length:Int) - 1)).toNat) (0,0,0,0)).2.2.2)).getD ((i64.wrap ((e.length:Int) - 1)).toNat) (0,0,0,0)).1,((f.set ((i64.wrap ((e.length:Int) - 1)).toNat) ((f.getD ((i64.wrap ((e.length:Int) - 1)).toNat) (0,0,0,0)).1,(i64.wrap (((f.getD ((i64.wrap ((e.length:Int) - 1)).toNat) (0,0,0,0)).2.1)+((q.getD j.toNat (0,0,0)).2.2))),(f.getD ((i64.wrap ((e.length:Int) - 1)).toNat) (0,0,0,0)).2.2.1,(f.getD ((i64.wrap ((e.length:Int) - 1)).toNat) (0,0,0,0)).2.2.2)).getD ((i64.wrap ((e.length:Int) - 1)).toNat) (0,0,0,0)).2.1,(max (((f.set ((i64.wrap ((e.length:Int) - 1)).toNat) ((f.getD ((i64.wrap ((e.length:Int) - 1)).toNat) (0,0,0,0)).1,(i64.wrap (((f.getD ((i64.wrap ((e.length:Int) - 1)).toNat) (0,0,0,0)).2.1)+((q.getD j.toNat (0,0,0)).2.2))),(f.getD ((i64.wrap ((e.length:Int) - 1)).toNat) (0,0,0,0)).2.2.1,(f.getD ((i64.wrap ((e.length:Int) - 1)).toNat) (0,0,0,0)).2.2.2)).getD ((i64.wrap ((e.length:Int) - 1)).toNat) (0,0,0,0)).2.2.1) (min C 2)),((f.set ((i64.wrap ((e.length:Int) - 1)).toNat) ((f.getD ((i64.wrap ((e.length:Int) - 1)).toNat) (0,0,0,0)).1,(i64.wrap (((f.getD ((i64.wrap ((e.length:Int) - 1)).toNat) (0,0,0,0)).2.1)+((q.getD j.toNat (0,0,0)).2.2))),(f.getD ((i64.wrap ((e.length:Int) - 1)).toNat) (0,0,0,0)).2.2.1,(f.getD ((i64.wrap ((e.length:Int) - 1)).toNat) (0,0,0,0)).2.2.2)).getD ((i64.wrap ((e.length:Int) - 1)).toNat) (0,0,0,0)).2.2.2)),p,(i64.wrap (j+1))))else none))else none)else none)else none))else none)else none)else none)))else none)
 else some (Sum.inr (u,v)))
def lG(f:XK)(p:QK)(q:Option y4):Option (Qj×QK) :=
 ((iter (dC f p q) (([]:Qj),([]:QK),0)).bind fun(j,e)=>(if(e.length+([(f.length:Int)]:QK).length)*8≤140737488355328∧e.length+([(f.length:Int)]:QK).length≤9223372036854775807 then some (j,(e++([(f.length:Int)]:QK)))else none))
theorem xv(j x v:Bool){f:XK}{N:QK}{O:Option y4}{A:Qj×QK}(h:lG f N O=some A):
  hY Tryz.prog 66 [.p j (.slice (.prod (.int .i32) Y2)) f,.p x (.slice (.int .u8)) N,.p v (.ptr vV) O] [] (.tup [.sl 0,.sl 1]) [(0,.arr 90 db A.1),(1,.arr 3 (.int .i64) A.2)]:=by
 refine OB Tryz.func66 (fun Bw w0=>?_);unfold lG at h;refine G (G (G (af (G (ak (cH h (fun(B,C,e)=>aA [(0,.p j (.slice (.prod (.int .i32) Y2)) f),(1,.p x (.slice (.int .u8)) N),(2,.p v (.ptr vV) O),(8,.sl 0),(9,.sl 1),(13,.p j (.slice (.prod (.int .i32) Y2)) f),(14,.i64 (f.length:Int)),(15,.i64 e)] [(0,.arr 90 db B),(1,.arr 3 (.int .i64) C)] 2) 0 (fun(D,E)=>aA [(0,.p j (.slice (.prod (.int .i32) Y2)) f),(8,.sl 0),(9,.sl 1)] [(0,.arr 90 db D),(1,.arr 3 (.int .i64) E)] 2) (gg [.nilS 8 56 90 db,.nilS 9 57 3 (.int .i64)] [56,57]) (fun y o h=>?_) (fun a6 h=>?_)))))))
 ·obtain⟨B,C,e⟩:=y;unfold dC at h;refine G (af (aC h (fun a7 h=>?_) (fun a7 h=>?_)))
  ·refine ae (ab (af (ak (GC 1 h (fun h=>af (af (bn h (fun I=>aA [(0,.p j (.slice (.prod (.int .i32) Y2)) f),(1,.p x (.slice (.int .u8)) N),(2,.p v (.ptr vV) O),(8,.sl 0),(9,.sl 1),(10,.i64 e),(11,.adr 2 0 3 0),(13,.p j (.slice (.prod (.int .i32) Y2)) f),(14,.i64 (f.length:Int)),(15,.i64 e),(34,.bo I)] (Jh B C ((f.getD e.toNat (0,0,0)).1) ((f.getD e.toNat (0,0,0)).2.1) ((f.getD e.toNat (0,0,0)).2.2)) 3) (fun I h=>?_) (fun I h=>?_))))))))
   ·rcases aL h with⟨q,h⟩ | ⟨q,h⟩
    ·exact bu ⟨[(2,true),(14,true)],[]⟩ [(3,7,oc q),(13,14,oc q)] (eN h (gg [] [0,1,34]))
    rcases aL h with⟨u,h⟩ | ⟨u,h⟩
    ·obtain⟨V,h⟩:=aE h;exact bu ⟨[(2,false),(7,true),(13,true),(14,false)],[]⟩ [(3,7,an q),(8,9,an u),(10,10,oc (And.intro u V)),(11,12,an u),(13,13,oc (And.intro q u)),(14,14,oc q)] (eN h (gg [] [0,1,34]))
    exact bu ⟨[(2,false),(7,false),(13,false),(14,false)],[]⟩ [(3,7,an q),(8,12,oc u),(13,13,oc (And.intro q u)),(14,14,oc q)] (eN h (gg [] [0,1,34]))
   refine ab (bn h (fun(J,L)=>aA [(0,.p j (.slice (.prod (.int .i32) Y2)) f),(1,.p x (.slice (.int .u8)) N),(2,.p v (.ptr vV) O),(8,.sl 0),(9,.sl 1),(10,.i64 e),(11,.adr 2 0 3 0),(13,.p j (.slice (.prod (.int .i32) Y2)) f),(14,.i64 (f.length:Int)),(15,.i64 e)] (Jh J L ((f.getD e.toNat (0,0,0)).1) ((f.getD e.toNat (0,0,0)).2.1) ((f.getD e.toNat (0,0,0)).2.2)) 3) (fun X h=>?_) (fun X h=>?_))
   ·refine aC h (fun a8 h=>?_) (fun a8 h=>?_)
    ·obtain⟨ad,a9,h⟩:=aj h;obtain⟨Y,h⟩:=aE h;have z:=(xB a9);refine GD ⟨[],[(5,(oP z))]⟩ [(5,5,oc z),(8,8,oc Y)] (zB 3 h (fun h=>?_));exact eN h (gg [] [67,107,2])
    exact ae (eN h (gg [] [0,1,2]))
   obtain⟨J,L⟩:=X;refine ab (GC 4 h (fun h=>af ?_));obtain⟨Z,a1,h⟩:=g2 h;refine GN a0 [(4,4,oc Z),(5,5,oc a1)] (bn h (fun M=>aA [(0,.p j (.slice (.prod (.int .i32) Y2)) f),(1,.p x (.slice (.int .u8)) N),(2,.p v (.ptr vV) O),(8,.sl 0),(9,.sl 1),(11,.adr 2 0 3 0),(12,.adr 0 ((i64.wrap ((J.length:Int) - 1)).toNat) 4 0),(13,.p j (.slice (.prod (.int .i32) Y2)) f),(14,.i64 (f.length:Int)),(15,.i64 e)] (Jh M L ((f.getD e.toNat (0,0,0)).1) ((f.getD e.toNat (0,0,0)).2.1) ((f.getD e.toNat (0,0,0)).2.2)) 3) (fun M h=>?_) (fun M h=>?_))
   ·refine aC h (fun aa h=>?_) (fun aa h=>?_)
    ·refine zB 3 h (fun h=>?_);exact eN h (gg [] [0,1,2])
    exact ae (eN h (gg [] [0,1,2]))
   refine ab ?_;obtain⟨a2,a3,h⟩:=g2 h;refine GD a0 [(3,3,oc a2),(9,9,oc a3)] ?_;obtain⟨a4,h⟩:=aE h;obtain⟨ax,ac,h⟩:=aj h;obtain⟨a5,h⟩:=aE h;have z:=(mJ v ac);refine mZ ⟨[],[(8,(oP z))]⟩ [(4,4,oc a4),(8,8,oc z),(13,13,oc a5)] (ay (ab (Ge ?_)));exact eB h (gg [] [0,1])
  refine au (aO ?_);exact eX h (gg [] [0,1])
 obtain⟨D,E⟩:=a6;refine av (ab (GC 5 h (fun h=>aw ?_)));obtain rfl:=sI h;exact RO [none,none] [] [0,42] [(6,.sl 0),(7,.sl 1)] [(0,.arr 90 db D),(1,.arr 3 (.int .i64) (E++([(f.length:Int)]:QK)))] 2 0
def cC(z:XK)(p:QK)(q:List Bool)(j:QK):tW→Option (tW⊕QK):=fun(f,e) =>
 (if(decide (e<(j.length:Int)))=true then(if 0≤e∧e<(j.length:Int)then(if e.toNat<j.length then(((if((j.getD e.toNat 0) == (z.length:Int))=true then(if(f.length+([2]:QK).length)*1≤140737488355328∧f.length+([2]:QK).length≤9223372036854775807 then some ((f++([2]:QK)))else none)
 else(((if((j.getD e.toNat 0) == 0)=true then some (true)
 else some ((decide ((j.getD e.toNat 0)≥(p.length:Int)))))).bind fun u=>(if u=true then(if(f.length+([0]:QK).length)*1≤140737488355328∧f.length+([0]:QK).length≤9223372036854775807 then some ((f++([0]:QK)))else none)
 else(((if 0≤(j.getD e.toNat 0)∧(j.getD e.toNat 0)<(p.length:Int)then(if((p.getD ((j.getD e.toNat 0).toNat) 0) == 0)=true then(if(decide ((j.getD e.toNat 0)<(q.length:Int)))=true then(if 0≤(j.getD e.toNat 0)∧(j.getD e.toNat 0)<(q.length:Int)then some ((q.getD ((j.getD e.toNat 0).toNat) false))else none)
 else some (false))
 else some (false))else none)).bind fun v=>(if v=true then(if(f.length+([3]:QK).length)*1≤140737488355328∧f.length+([3]:QK).length≤9223372036854775807 then some ((f++([3]:QK)))else none)
 else(if 0≤(j.getD e.toNat 0)∧(j.getD e.toNat 0)<(p.length:Int)then(if(f.length+([(p.getD ((j.getD e.toNat 0).toNat) 0)]:QK).length)*1≤140737488355328∧f.length+([(p.getD ((j.getD e.toNat 0).toNat) 0)]:QK).length≤9223372036854775807 then some ((f++([(p.getD ((j.getD e.toNat 0).toNat) 0)]:QK)))else none)else none))))))).bind fun x=>some (Sum.inl (x,(i64.wrap (e+1)))))else none)else none)
 else some (Sum.inr f))
def gz(f:XK)(j p:QK)(q:List Bool)(u:Option y4):Option (Qj×QK) :=
 ((lG f j u).bind fun(v,x) =>
 ((iter (cC f p q x) (([]:QK),0)).bind fun e=>some (v,e)))
theorem xn(u V v x X:Bool){L:XK}{i1 M:QK}{N:List Bool}{x3:Option y4}{C:Qj×QK}(h:gz L i1 M N x3=some C):
  hY Tryz.prog 37 [.p u (.slice (.prod (.int .i32) Y2)) L,.p V (.slice (.int .u8)) i1,.p v (.slice (.int .u8)) M,.p x (.slice .bool) N,.p X (.ptr vV) x3] [] (.agg [.sl 0,.sl 1]) [(0,.arr 90 db C.1),(1,.arr 91 (.int .u8) C.2)]:=by
 refine OB Tryz.func37 (fun Bw w0=>?_);unfold gz at h;refine G ?_;obtain⟨⟨O,A⟩,q4,h⟩:=aj h;refine GO 3 [] (xv u V X q4) (G (af (G (ak (cH h (fun(B,j)=>aA [(0,.p u (.slice (.prod (.int .i32) Y2)) L),(2,.p v (.slice (.int .u8)) M),(3,.p x (.slice .bool) N),(10,.adr 0 0 2 0),(13,.adr 1 0 2 0),(25,.sl 4),(26,.i64 (A.length:Int)),(27,.i64 j)] (H7 O B A) 5) 0 (fun D=>aA [(10,.adr 0 0 2 0),(13,.adr 1 0 2 0)] (Lw O D) 4) (gg [.nilC 96 1 136 91 (.int .u8)] [0,96,32,136,33]) (fun y o h=>?_) (fun D h=>?_))))))
 ·obtain⟨B,j⟩:=y;unfold cC at h;refine G (af (aC h (fun Y h=>?_) (fun Y h=>?_)))
  ·refine ae (ab (af (ak ?_)));obtain⟨Z,a1,h⟩:=g2 h;refine GN a0 [(0,0,oc Z),(1,1,oc a1)] (ak (G (bn h (fun E=>aA [(0,.p u (.slice (.prod (.int .i32) Y2)) L),(2,.p v (.slice (.int .u8)) M),(3,.p x (.slice .bool) N),(10,.adr 0 0 2 0),(13,.adr 1 0 2 0),(25,.sl 4),(26,.i64 (A.length:Int)),(27,.i64 j)] (H7 O E A) 5) (fun E h=>?_) (fun E h=>?_))))
   ·refine aC h (fun a2 h=>?_) (fun a2 h=>?_)
    ·refine zB 3 h (fun h=>?_);exact eN h (gg [] [0,1,2,101,4])
    refine af (bn h (fun I=>aA [(0,.p u (.slice (.prod (.int .i32) Y2)) L),(2,.p v (.slice (.int .u8)) M),(3,.p x (.slice .bool) N),(10,.adr 0 0 2 0),(13,.adr 1 0 2 0),(15,.i64 (A.getD j.toNat 0)),(25,.sl 4),(26,.i64 (A.length:Int)),(27,.i64 j),(50,.bo I)] (H7 O B A) 5) (fun I h=>?_) (fun I h=>?_))
    ·rcases aL h with⟨q,h⟩ | ⟨q,h⟩
     ·exact bu ⟨[(2,true),(7,true)],[]⟩ [(3,7,oc q)] (eN h (gg [] [0,1,2,3,4]))
     exact bu ⟨[(2,false),(7,false)],[]⟩ [(3,6,an q),(7,7,oc q)] (eN h (gg [] [0,1,2,3,4]))
    refine ab (aC h (fun a3 h=>?_) (fun a3 h=>?_))
    ·refine zB 3 h (fun h=>?_);exact eN h (gg [] [0,1,2,29,4])
    refine af (bn h (fun J=>aA [(0,.p u (.slice (.prod (.int .i32) Y2)) L),(2,.p v (.slice (.int .u8)) M),(3,.p x (.slice .bool) N),(10,.adr 0 0 2 0),(13,.adr 1 0 2 0),(15,.i64 (A.getD j.toNat 0)),(25,.sl 4),(26,.i64 (A.length:Int)),(27,.i64 j),(64,.bo J)] (H7 O B A) 5) (fun J h=>?_) (fun J h=>?_))
    ·obtain⟨z,h⟩:=aE h;rcases aL h with⟨e,h⟩ | ⟨e,h⟩
     ·rcases aL h with⟨f,h⟩ | ⟨f,h⟩
      ·obtain⟨a4,h⟩:=aE h;exact bu ⟨[(5,true),(10,true),(11,true),(16,true)],[]⟩ [(2,2,oc z),(6,9,an e),(10,10,oc e),(12,13,an f),(14,14,oc (And.intro f a4)),(15,15,an f),(16,16,oc f)] (eN h (gg [] [0,1,2,3,4]))
      exact bu ⟨[(5,true),(10,true),(11,false),(16,false)],[]⟩ [(2,2,oc z),(6,9,an e),(10,10,oc e),(12,16,oc f)] (eN h (gg [] [0,1,2,3,4]))
     exact bu ⟨[(5,false),(10,false)],[]⟩ [(2,2,oc z),(6,10,oc e)] (eN h (gg [] [0,1,2,3,4]))
    refine ab (aC h (fun a5 h=>?_) (fun a5 h=>?_))
    ·refine zB 3 h (fun h=>?_);exact eN h (gg [] [0,1,2,29,4])
    obtain⟨a6,a7,h⟩:=g2 h;exact mZ a0 [(4,4,oc a6),(7,7,oc a7)] (eN h (gg [] [0,1,2,61,4]))
   refine ay (ay (ab (Ge ?_)));exact eB h (gg [] [0,1,2,3,4])
  refine au (aO ?_);exact eX h (gg [] [0,1,2,3])
 refine av (ab (G (aw ?_)));obtain rfl:=sI h;exact RO [none] [] [2,3,0] [(10,.adr 2 0 2 0)] (K4 O D) 3 0
def aZ(e:Option Z1)(f:QK):Option (((Int)⊕(Int×Qj×QK))) :=
 (if e.isNone=true then some (Sum.inl 1)
 else(if(decide ((f.length:Int) > 4096))=true then some (Sum.inl 3)
 else((mP f).bind fun j =>
 (if e.isSome=true then(if e.isSome=true then((cE ((e.getD (Ty.zero tf)).2.2.1) j).bind fun p =>
 ((eJ ((e.getD (Ty.zero tf)).1) p).bind fun q =>
 (if e.isSome=true then(if e.isSome=true then((cE ((e.getD (Ty.zero tf)).2.2.2.1) j).bind fun u =>
 ((eJ ((e.getD (Ty.zero tf)).2.1) u).bind fun v =>
 (if e.isSome=true then((dP ((e.getD (Ty.zero tf)).2.2.2.2.2) j).bind fun x =>
 (if e.isSome=true then((gz j q v x ((e.getD (Ty.zero tf)).2.2.2.2.1)).bind fun(z,A) =>
 some (Sum.inr (0,z,A)))else none))else none)))else none)else none)))else none)else none))))
theorem dL(u:Bool){b1:Option Z1}{f:QK}{j:((Int)⊕(Int×Qj×QK))}(h:aZ b1 f=some j):
  hY Tryz.prog 14 [.p false (.ptr tf) b1,.p u (.slice (.int .u8)) f] [] (DS (fun(q:Int)=>(.tup [.agg [.nils,.nils],.i64 q],[])) (fun((q,D,E):Int×Qj×QK)=>(.tup [.agg [.sl 0,.sl 1],.i64 q],[(0,.arr 90 db D),(1,.arr 91 (.int .u8) E)])) j).1 (DS (fun(q:Int)=>(.tup [.agg [.nils,.nils],.i64 q],[])) (fun((q,D,E):Int×Qj×QK)=>(.tup [.agg [.sl 0,.sl 1],.i64 q],[(0,.arr 90 db D),(1,.arr 91 (.int .u8) E)])) j).2:=by
 refine OB Tryz.func14 (fun Bw w0=>?_);unfold aZ at h;refine G (af (GN a0 [(1,1,⟨∃e,Tryz.prog.underlying 29=some (.pointer e),⟨_,rfl⟩⟩)] (aC h (fun B3 h=>?_) (fun B3 h=>?_))))
 ·refine G (aw (ai ?_));obtain rfl:=sI h;exact RO [none,some (.int .i64)] [] [0] [(4,.adr 0 0 2 0),(5,.i64 1)] [(0,.box [.nils,.nils])] 1 0
 refine ae (ab (af (G (aC h (fun B4 h=>?_) (fun B4 h=>?_)))))
 ·refine G (aw (ai ?_));obtain rfl:=sI h;exact RO [none,some (.int .i64)] [] [0] [(4,.adr 0 0 2 0),(5,.i64 3)] [(0,.box [.nils,.nils])] 1 0
 refine ae (ab ?_);obtain⟨a6,I,h⟩:=aj h;refine GP 1 (tD u I) ?_;obtain⟨J,L,h⟩:=g2 h;obtain⟨a7,M,h⟩:=aj h;obtain⟨a8,N,h⟩:=aj h;obtain⟨O,V,h⟩:=g2 h;obtain⟨a9,X,h⟩:=aj h;obtain⟨aa,Y,h⟩:=aj h;obtain⟨Z,h⟩:=aE h;obtain⟨ac,a1,h⟩:=aj h;obtain⟨a2,h⟩:=aE h;obtain⟨⟨a3,a4⟩,a5,h⟩:=aj h;have v:=(kT false false M);have x:=(lz false false N);have z:=(kT false false X);have A:=(lz false false Y);have B:=(np false a1);have C:=(xn false false false false false a5);refine GD ⟨[],[(10,(oP v)),(11,(oP x)),(21,(oP z)),(22,(oP A)),(28,(oP B)),(33,(oO C []))]⟩ [(2,2,oc J),(6,6,oc L),(10,10,oc v),(11,11,oc x),(13,13,oc O),(17,17,oc V),(21,21,oc z),(22,22,oc A),(24,24,oc Z),(28,28,oc B),(30,30,oc a2),(33,33,oc C)] (aw ?_);obtain rfl:=sI h;exact RO [none,some (.int .i64)] [] [344,345,0] [(4,.adr 2 0 2 0),(5,.i64 0)] (K4 a3 a4) 3 0
def fB(p:QK):tW→Option (tW⊕QK):=fun(e,f) =>
 (if(decide (f<(p.length:Int)))=true then(if 0≤f∧f<(p.length:Int)then(((if((p.getD f.toNat 0) == 2)=true then(if(e.length+([f]:QK).length)*8≤140737488355328∧e.length+([f]:QK).length≤9223372036854775807 then some ((e++([f]:QK)))else none)
 else some (e))).bind fun j=>some (Sum.inl (j,(i64.wrap (f+1)))))else none)
 else some (Sum.inr e))
def lZ(j:Qj)(f:QK):Option QK :=
 ((iter (fB f) (([]:QK),0)).bind fun e=>some e)
theorem vL(x q:Bool){A:Qj}{u v:QK}(h:lZ A u=some v):
  Pure Tryz.prog 80 [.agg [.p x (.slice db) A,.p q (.slice (.int .u8)) u]] (aM (bk false [⟨(.slice (.int .i64)),v⟩])):=by
 refine PB Tryz.func80 (fun Bw w0=>?_);unfold lZ at h;refine G (G (af (G (ak (cH h (fun(f,z)=>aA [(3,.sl 0),(7,.p q (.slice (.int .u8)) u),(8,.i64 (u.length:Int)),(9,.i64 z)] [(0,.arr 3 (.int .i64) f)] 1) 0 (fun j=>aA [(3,.sl 0)] [(0,.arr 3 (.int .i64) j)] 1) (gg [.nilS 3 56 3 (.int .i64)] [56]) (fun y o h=>?_) (fun j h=>?_))))))
 ·obtain⟨f,z⟩:=y;unfold fB at h;refine G (af (aC h (fun B h=>?_) (fun B h=>?_)))
  ·refine ae (ab (af (ak (GC 1 h (fun h=>G (bn h (fun e=>aA [(3,.sl 0),(7,.p q (.slice (.int .u8)) u),(8,.i64 (u.length:Int)),(9,.i64 z)] [(0,.arr 3 (.int .i64) e)] 1) (fun e h=>?_) (fun e h=>?_)))))))
   ·refine aC h (fun C h=>?_) (fun C h=>?_)
    ·refine zB 3 h (fun h=>?_);exact eN h (gg [] [89])
    exact ae (eN h (gg [] [0]))
   refine ay (ab (Ge ?_));exact eB h (gg [] [0])
  refine au (aO ?_);exact eX h (gg [] [0])
 refine av (ab (G (aw ?_)));obtain rfl:=sI h;exact RI [(.slice (.int .i64))]
def jz(q u j p e f:Int):Option (Int) :=
 (if(p == 2)=true then(if ¬f=0 then some (i64.wrap ((i64.wrap (e+f)) - (Int.tmod e f)))else none)
 else some (i64.wrap (e+j)))
theorem nu{p q u v e f j:Int}(h:jz p q u v e f=some j):
  Pure Tryz.prog 178 [.agg [.i64 p,.i64 q,.i64 u,.u8 v],.i64 e,.i64 f] (aM (bk false [⟨(.int .i64),j⟩])):=by
 refine PB Tryz.func178 (fun Bw w0=>?_);unfold jz at h;refine G (af (G (aC h (fun x h=>?_) (fun x h=>?_))))
 ·refine GC 5 h (fun h=>aw (ai ?_));obtain rfl:=sI h;exact RI [(.int .i64)]
 refine ae (ab (G (aw ?_)));obtain rfl:=sI h;exact RI [(.int .i64)]
def lj(j p f e:Int):Option (Bool) :=
 (((if(e == 1)=true then some (true)
 else(if(e == 0)=true then some ((f == 0))
 else some (false)))).bind fun v1=>some v1)
theorem wT{p q u v:Int}{f:Bool}(h:lj p q u v=some f):
  Pure Tryz.prog 193 [.agg [.i64 p,.i64 q,.i64 u,.u8 v]] (aM (bk false [⟨.bool,f⟩])):=by
 refine PB Tryz.func193 (fun Bw w0=>?_);unfold lj at h;refine G (af (bn h (fun v1=>aA [(2,.bo v1)] [] 0) (fun v1 h=>?_) (fun v1 h=>?_)))
 ·rcases aL h with⟨e,h⟩ | ⟨e,h⟩
  ·exact bu ⟨[(3,true),(12,true)],[]⟩ [(4,7,oc e),(11,12,oc e)] (eN h (gg [] []))
  rcases aL h with⟨j,h⟩ | ⟨j,h⟩
  ·exact bu ⟨[(3,false),(7,true),(11,true),(12,false)],[]⟩ [(4,7,an e),(8,10,an j),(11,11,oc (And.intro e j)),(12,12,oc e)] (eN h (gg [] []))
  exact bu ⟨[(3,false),(7,false),(11,false),(12,false)],[]⟩ [(4,7,an e),(8,10,oc j),(11,11,oc (And.intro e j)),(12,12,oc e)] (eN h (gg [] []))
 refine ab (aw ?_);obtain rfl:=sI h;exact RI [.bool]
def eQ(j:Qj)(f:Int):(Int)→Option ((Int)⊕(Int)):=fun e =>
 (((if(decide (e > f))=true then(if 0≤(i64.wrap (e - 1))∧(i64.wrap (e - 1))<(j.length:Int)then((lj ((j.getD ((i64.wrap (e - 1)).toNat) (0,0,0,0)).1) ((j.getD ((i64.wrap (e - 1)).toNat) (0,0,0,0)).2.1) ((j.getD ((i64.wrap (e - 1)).toNat) (0,0,0,0)).2.2.1) ((j.getD ((i64.wrap (e - 1)).toNat) (0,0,0,0)).2.2.2)).bind fun p =>
 some (p))else none)
 else some (false))).bind fun q=>(if q=true then some (Sum.inl (i64.wrap (e - 1)))
 else some (Sum.inr e)))
def fS(p:Qj)(q:QK)(e f:Int):Option (Int) :=
 ((iter (eQ p e) f).bind fun j=>some j)
theorem ni(j q:Bool){B:Qj}{C:QK}{e v x:Int}(h:fS B C e v=some x):
  Pure Tryz.prog 179 [.agg [.p j (.slice db) B,.p q (.slice (.int .u8)) C],.i64 e,.i64 v] (aM (bk false [⟨(.int .i64),x⟩])):=by
 refine PB Tryz.func179 (fun Bw w0=>?_);unfold fS at h;refine G (af (ak (cH h (fun u=>aA [(1,.i64 e),(2,.i64 u),(3,.adr 0 0 2 0)] (Kw j B q C) 1) 0 (fun z=>aA [(2,.i64 z)] [] 0) (gg [] [0]) (fun u o h=>?_) (fun z h=>?_))))
 ·unfold eQ at h;refine af (af (bn h (fun D=>aA [(1,.i64 e),(2,.i64 u),(3,.adr 0 0 2 0),(18,.bo D)] (Kw j B q C) 1) (fun D h=>?_) (fun D h=>?_)))
  ·rcases aL h with⟨f,h⟩ | ⟨f,h⟩
   ·obtain⟨I,h⟩:=aE h;obtain⟨L,J,h⟩:=aj h;have A:=(wT J);exact bu ⟨[(3,true),(11,true)],[(10,(oP A))]⟩ [(4,7,an f),(8,8,oc (And.intro f I)),(9,9,an f),(10,10,oc (And.intro f A)),(11,11,oc f)] (eN h (gg [] [0]))
   exact bu ⟨[(3,false),(11,false)],[]⟩ [(4,11,oc f)] (eN h (gg [] [0]))
  refine ab (aC h (fun E h=>?_) (fun E h=>?_))
  ·refine ae (ab (ak (Ge (ay ?_))));exact eB h (gg [] [0])
  refine au (aO ?_);exact eX h (gg [] [])
 refine av (ab (G (aw ?_)));obtain rfl:=sI h;exact RI [(.int .i64)]
def kQ(j:Qj)(f:QK)(e:Int):Option (Int×Bool) :=
 (if 0≤e∧e<(f.length:Int)then(if 0≤e∧e<(f.length:Int)then some ((f.getD e.toNat 0),((f.getD e.toNat 0) != 0))else none)else none)
theorem qD(j q:Bool){u:Qj}{v:QK}{f:Int}{e:Int×Bool}(h:kQ u v f=some e):
  Pure Tryz.prog 180 [.agg [.p j (.slice db) u,.p q (.slice (.int .u8)) v],.i64 f] (aM (bk false [⟨(.int .u8),e.1⟩,⟨.bool,e.2⟩])):=by
 refine PB Tryz.func180 (fun Bw w0=>?_);unfold kQ at h;refine G ?_;obtain⟨x,z,h⟩:=g2 h;refine GD a0 [(3,3,oc x),(8,8,oc z)] (aw ?_);obtain rfl:=sI h;exact RI [(.int .u8),.bool]
def rP(e f:Int):Option QJ :=
 some (cb .quo (ofInt e) (ofInt f))
theorem A7{e f:Int}{j:QJ}(h:rP e f=some j):
  Pure Tryz.prog 194 [.i64 e,.i64 f] (aM (bk false [⟨.flt,j⟩])):=by
 refine PB Tryz.func194 (fun Bw w0=>?_);unfold rP at h;refine G (G (aw ?_));obtain rfl:=sI h;exact RI [.flt]
def nL(f e:QJ):Option (Bool) :=
 some (!(Lo f e))
theorem xC{j e:QJ}{f:Bool}(h:nL j e=some f):
  Pure Tryz.prog 195 [.p false .flt j,.p false .flt e] (aM (bk false [⟨.bool,f⟩])):=by
 refine PB Tryz.func195 (fun Bw w0=>?_);unfold nL at h;refine G (G (aw ?_));obtain rfl:=sI h;exact RI [.bool]
def nP(e:QJ):Option (Bool) :=
 some (!(Jw e e))
theorem xa{f:QJ}{e:Bool}(h:nP f=some e):
  Pure Tryz.prog 205 [.p false .flt f] (aM (bk false [⟨.bool,e⟩])):=by
 refine PB Tryz.func205 (fun Bw w0=>?_);unfold nP at h;refine G (G (aw ?_));obtain rfl:=sI h;exact RI [.bool]
def vY(e:QJ):Option QJ:=some (vU e)
theorem wo(b:Nat)(w:World):
  Calls Tryz.prog 206 #[.float .f64 b] w fun e f=>e = .returned (.float .f64 (b % 9223372036854775808))∧f=w:=by
 have j:∀w,(callFunc 207 #[.float .f64 b]).run Tryz.prog w = .ok (.value (.int .u64 b)) w:=fun w=>by rw[run_callFunc_extern (fn:=Tryz.f207) (e:=Extern.MathFloatBits.float64bits) Tryz.func207 (by kernel_rfl) rfl (by kernel_rfl) (by kernel_rfl)];rfl
 have p:∀(n:Int) w,(callFunc 210 #[.int .u64 n]).run Tryz.prog w = .ok (.value (.float .f64 n.toNat)) w:=fun n w=>by rw[run_callFunc_extern (fn:=Tryz.f210) (e:=Extern.MathFloatBits.float64frombits) Tryz.func210 (by kernel_rfl) rfl (by kernel_rfl) (by kernel_rfl)];rfl
 go_enter Tryz.func206,Tryz.ntmps206;go_wp2
 go_ret
 exact⟨by rw[←Fx];rfl,rfl⟩
theorem AT{f e:QJ}(h:vY f=some e):
  Pure Tryz.prog 206 [.p false .flt f] (aM (bk false [⟨.flt,e⟩])):=by
 obtain rfl:=sI h;exact Pure.JT Tryz.func206 (by kernel_rfl) rfl (fun b w=>wo b w)
def ig(f:QJ):Option (Int) :=
 ((nP f).bind fun j =>
 (if j=true then some 0
 else((vY f).bind fun e =>
 (if(!(JV (cb .mul (cb .mul (cb .mul (eG 4636737291354636288) e) e) e) (eG 4666723172467343360)))=true then some 10000
 else(if(n4 (cb .mul (cb .mul (cb .mul (eG 4636737291354636288) e) e) e)).isSome=true∧i64.min≤(n4 (cb .mul (cb .mul (cb .mul (eG 4636737291354636288) e) e) e)).getD 0∧(n4 (cb .mul (cb .mul (cb .mul (eG 4636737291354636288) e) e) e)).getD 0≤i64.max then some ((n4 (cb .mul (cb .mul (cb .mul (eG 4636737291354636288) e) e) e)).getD 0)else none)))))
theorem sQ{f:QJ}{e:Int}(h:ig f=some e):
  Pure Tryz.prog 196 [.p false .flt f] (aM (bk false [⟨(.int .i64),e⟩])):=by
 refine PB Tryz.func196 (fun Bw w0=>?_);unfold ig at h;refine G (af ?_);obtain⟨x,j,h⟩:=aj h;refine GP 1 (xa j) (aC h (fun q h=>?_) (fun q h=>?_))
 ·refine G (aw (ai ?_));obtain rfl:=sI h;exact RI [(.int .i64)]
 refine ae (ab ?_);obtain⟨z,u,h⟩:=aj h;refine GP 1 (AT u) (G (af (G (aC h (fun v h=>?_) (fun v h=>?_)))))
 ·refine G (aw (ai ?_));obtain rfl:=sI h;exact RI [(.int .i64)]
 refine ae (ab (GC 1 h (fun h=>aw ?_)));obtain rfl:=sI h;exact RI [(.int .i64)]
def fJ(N:Qj)(B:QK)(f u C j:Int)(p:Bool)(D O V E I:Int)(J:QJ):Option (Int×Bool) :=
 (if(decide (C > D))=true then some (0,false)
 else(((if(!p)=true then((rP (i64.wrap (D - C)) j).bind fun v =>
 ((nL v J).bind fun x =>
 (if(!x)=true then some ((Sum.inr (0,false)))
 else((ig v).bind fun z =>
 some ((Sum.inl z))))))
 else some ((Sum.inl 0)))).bind fun(A:((Int)⊕(Int×Bool)))=>match A with
 | .inl e=>(((if(u == 3)=true then(if 0≤f∧f<(B.length:Int)then(if((B.getD f.toNat 0) == 3)=true then some ((i64.wrap ((i64.wrap ((i64.wrap ((i64.wrap (10+e))*(i64.wrap (10+e))))+E))+I)))
 else some ((i64.wrap ((i64.wrap ((i64.wrap (10+e))*(i64.wrap (10+e))))+E))))else none)
 else some ((i64.wrap ((i64.wrap (10+e))*(i64.wrap (10+e))))))).bind fun q=>some (q,true))
 | .inr ((L,M))=>some (L,M)))
theorem wN(A B:Bool){D:Qj}{E:QK}{f q Z u:Int}{v:Bool}{I J L M N:Int}{O:QJ}{z:Int×Bool}(h:fJ D E f q Z u v I J L M N O=some z):
  Pure Tryz.prog 181 [.agg [.p A (.slice db) D,.p B (.slice (.int .u8)) E],.i64 f,.u8 q,.i64 Z,.i64 u,.bo v,.agg [.i64 I,.i64 J,.u8 L,.i64 M,.i64 N,.p false .flt O]] (aM (bk false [⟨(.int .i64),z.1⟩,⟨.bool,z.2⟩])):=by
 refine PB Tryz.func181 (fun Bw w0=>?_);unfold fJ at h;refine G (af (G (aC h (fun B1 h=>?_) (fun B1 h=>?_))))
 ·refine G (aw (ai ?_));obtain rfl:=sI h;exact RI [(.int .i64),.bool]
 refine ae (ab (G (af (G (CQ h (dc (nV Tryz.f181.ntmps (fun x=>aA [(1,.i64 f),(2,.u8 q),(7,.adr 0 0 2 0),(13,.adr 1 0 6 0),(16,.i64 x)] (KE A D B E I J L M N O) 2)) (fQ tb Tryz.f181.results.toList (fun(r7,r8)=>[⟨(.int .i64),r7⟩,⟨.bool,r8⟩]))) (fun C h=>?_) (fun C h e σ' hq=>?_))))))
 ·refine aC h (fun B4 h=>?_) (fun B4 h=>?_)
  ·obtain⟨a1,q8,h⟩:=aj h;refine GP 5 (A7 q8) (af ?_);obtain⟨a2,V,h⟩:=aj h;refine GP 3 (xC V) (aC h (fun B5 h=>?_) (fun B5 h=>?_))
   ·refine G (aw ?_);obtain rfl:=sI h;refine ai (aK ?_);exact bH (RI [(.int .i64),.bool])
   refine ae (ab ?_);obtain⟨a3,X,h⟩:=aj h;refine Ll 1 (sQ X) ?_;obtain rfl:=sI h;exact bf (cU (gg [] [0,8]))
  refine ae ?_;obtain rfl:=sI h;exact bf (cU (gg [] [0,8]))
 rcases C with x | ⟨r7,r8⟩
 ·obtain⟨rfl,Y⟩:=hq;refine cz ?_ Y;refine ab (G (af (G (bn h (fun j=>aA [(18,.i64 j)] [] 0) (fun j h=>?_) (fun j h=>?_)))))
  ·refine aC h (fun B8 h=>?_) (fun B8 h=>?_)
   ·refine G (GC 3 h (fun h=>aC h (fun B9 h=>?_) (fun B9 h=>?_)))
    ·exact Ge (eN h (gg [] []))
    exact ae (eN h (gg [] []))
   exact ae (eN h (gg [] []))
  refine ab (G (aw ?_));obtain rfl:=sI h;exact RI [(.int .i64),.bool]
 obtain⟨rfl,hr⟩:=hq;refine ai ?_;obtain rfl:=sI h;exact hr
def eZ(p:Qj)(D:QK)(i1 x E:Int)(C:Qq)(x4 x5 x6 x7 x8:Int)(x9:QJ):(Int×Int×Int×Int×Int×Int×Int)→Option ((Int×Int×Int×Int×Int×Int×Int)⊕(Int×Int)):=fun(e,f,I,J,z,L,v30) =>
 (if(decide (v30≤E))=true then(if 0≤(i64.wrap (v30 - 1))∧(i64.wrap (v30 - 1))<(p.length:Int)then((jz ((p.getD ((i64.wrap (v30 - 1)).toNat) (0,0,0,0)).1) ((p.getD ((i64.wrap (v30 - 1)).toNat) (0,0,0,0)).2.1) ((p.getD ((i64.wrap (v30 - 1)).toNat) (0,0,0,0)).2.2.1) ((p.getD ((i64.wrap (v30 - 1)).toNat) (0,0,0,0)).2.2.2) I x5).bind fun q =>
 (((if(((p.getD ((i64.wrap (v30 - 1)).toNat) (0,0,0,0)).2.2.2) == 1)=true then some ((i64.wrap (z+1)))
 else some (z))).bind fun u=>((fS p D (i64.wrap (v30 - 1)) v30).bind fun M =>
 (((if(M == v30)=true then some ((q,u))
 else some ((J,L)))).bind fun(j,v)=>(if(decide (j > x4))=true then some (Sum.inr (e,f))
 else((kQ p D v30).bind fun(A,N) =>
 (if 0≤(i64.wrap (v30 - x))∧(i64.wrap (v30 - x))<(C.length:Int)then(((if(!N)=true then some (true)
 else(if(decide (v30<E))=true then some ((decide (((C.getD ((i64.wrap (v30 - x)).toNat) (0,0)).2)<0)))
 else some (false)))).bind fun O=>(if O=true then some (Sum.inl (e,f,q,j,u,v,(i64.wrap (v30+1))))
 else(((if(A == 3)=true then some ((i64.wrap (j+1)))
 else some (j))).bind fun V=>((fJ p D i1 A V v (v30 == E) x4 x5 x6 x7 x8 x9).bind fun(B,X) =>
 (((if X=true then(if(decide (f<0))=true then some (true)
 else some ((decide ((i64.wrap (B+((C.getD ((i64.wrap (v30 - x)).toNat) (0,0)).1)))<e))))
 else some (false))).bind fun Y=>(((if Y=true then some (((i64.wrap (B+((C.getD ((i64.wrap (v30 - x)).toNat) (0,0)).1))),v30))
 else some ((e,f)))).bind fun(Z,a1)=>some (Sum.inl (Z,a1,q,j,u,v,(i64.wrap (v30+1))))))))))else none)))))))else none)
 else some (Sum.inr (e,f)))
def mR(p:Qj)(q:QK)(j u v:Int)(x:Qq)(z A B C D:Int)(E:QJ):Option (Int×Int) :=
 ((iter (eZ p q j u v x z A B C D E) (0,(-1:Int),0,0,0,0,(i64.wrap (j+1)))).bind fun(e,f)=>some (e,f))
theorem yD(e f u:Bool){L:Qj}{M:QK}{N x O:Int}{z:Qq}{V X Y Z x8:Int}{x9:QJ}{a6:Int×Int}(h:mR L M N x O z V X Y Z x8 x9=some a6):
  Pure Tryz.prog 155 [.agg [.p e (.slice db) L,.p f (.slice (.int .u8)) M],.i64 N,.i64 x,.i64 O,.p u (.slice Y2) z,.agg [.i64 V,.i64 X,.u8 Y,.i64 Z,.i64 x8,.p false .flt x9]] (aM (bk false [⟨Y2,a6⟩])):=by
 refine PB Tryz.func155 (fun Bw w0=>?_);unfold mR at h;refine G (G (G (af (G (ak (cH h (fun(A,B,a7,a1,a8,a2,v30)=>aA [(1,.i64 N),(2,.i64 x),(3,.i64 O),(4,.p u (.slice Y2) z),(6,.adr 0 0 2 0),(11,.adr 1 0 6 0),(12,.adr 2 0 2 0),(13,.adr 3 0 2 0),(14,.i64 a7),(15,.i64 a1),(16,.i64 a8),(17,.i64 a2),(18,.i64 v30)] (IC e L f M V X Y Z x8 x9 0 (0:Int) A B) 4) 0 (fun(a9,aa)=>aA [(12,.adr 0 0 2 0),(13,.adr 1 0 2 0)] (LU 0 (0:Int) a9 aa) 2) (gg [] [0,8,16,32]) (fun y o h=>?_) (fun b3 h=>?_)))))))
 ·obtain⟨A,B,a7,a1,a8,a2,v30⟩:=y;unfold eZ at h;refine af (G (aC h (fun b4 h=>?_) (fun b4 h=>?_)))
  ·refine ae (ab (af (ak (GC 4 h (fun h=>?_)))));obtain⟨C,b5,h⟩:=aj h;refine GP 4 (nu b5) (af (G (bn h (fun v=>aA [(1,.i64 N),(2,.i64 x),(3,.i64 O),(4,.p u (.slice Y2) z),(6,.adr 0 0 2 0),(11,.adr 1 0 6 0),(12,.adr 2 0 2 0),(13,.adr 3 0 2 0),(14,.i64 C),(15,.i64 a1),(16,.i64 v),(17,.i64 a2),(18,.i64 v30)] (IC e L f M V X Y Z x8 x9 0 (0:Int) A B) 4) (fun v h=>?_) (fun v h=>?_))))
   ·refine aC h (fun b6 h=>?_) (fun b6 h=>?_)
    ·exact Ge (eN h (gg [] [0,1,2,3]))
    exact ae (eN h (gg [] [0,1,2,3]))
   refine ab (af ?_);obtain⟨c2,b7,h⟩:=aj h;refine GP 4 (ni e f b7) (bn h (fun(D,E)=>aA [(1,.i64 N),(2,.i64 x),(3,.i64 O),(4,.p u (.slice Y2) z),(6,.adr 0 0 2 0),(11,.adr 1 0 6 0),(12,.adr 2 0 2 0),(13,.adr 3 0 2 0),(14,.i64 C),(15,.i64 D),(16,.i64 v),(17,.i64 E),(18,.i64 v30)] (IC e L f M V X Y Z x8 x9 0 (0:Int) A B) 4) (fun ac h=>?_) (fun ac h=>?_))
   ·refine aC h (fun b8 h=>?_) (fun b8 h=>?_)
    ·exact Ge (eN h (gg [] [0,1,2,3]))
    exact ae (eN h (gg [] [0,1,2,3]))
   obtain⟨D,E⟩:=ac;refine ab (af (G (aC h (fun b9 h=>?_) (fun b9 h=>?_))))
   ·refine au (aO (jv rfl (aO ?_)));exact eX h (gg [] [2,3])
   refine ae (ab ?_);obtain⟨⟨ad,c3⟩,be,h⟩:=aj h;refine GP 2 (qD e f be) (GC 4 h (fun h=>af (af (bn h (fun a3=>aA [(1,.i64 N),(2,.i64 x),(3,.i64 O),(4,.p u (.slice Y2) z),(6,.adr 0 0 2 0),(11,.adr 1 0 6 0),(12,.adr 2 0 2 0),(13,.adr 3 0 2 0),(14,.i64 C),(15,.i64 D),(16,.i64 v),(17,.i64 E),(18,.i64 v30),(20,.u8 ad),(22,.adr 4 0 2 0),(86,.bo a3)] (Ji e L f M V X Y Z x8 x9 0 (0:Int) A B ((z.getD ((i64.wrap (v30 - x)).toNat) (0,0)).1) ((z.getD ((i64.wrap (v30 - x)).toNat) (0,0)).2)) 5) (fun a3 h=>?_) (fun a3 h=>?_)))))
   ·rcases aL h with⟨j,h⟩ | ⟨j,h⟩
    ·exact bu ⟨[(2,true),(11,true)],[]⟩ [(3,6,oc j),(10,11,oc j)] (eN h (gg [] [0,1,2,3,148]))
    rcases aL h with⟨I,h⟩ | ⟨I,h⟩
    ·exact bu ⟨[(2,false),(6,true),(10,true),(11,false)],[]⟩ [(3,6,an j),(7,9,an I),(10,10,oc (And.intro j I)),(11,11,oc j)] (eN h (gg [] [0,1,2,3,148]))
    exact bu ⟨[(2,false),(6,false),(10,false),(11,false)],[]⟩ [(3,6,an j),(7,9,oc I),(10,10,oc (And.intro j I)),(11,11,oc j)] (eN h (gg [] [0,1,2,3,148]))
   refine ab (aC h (fun bi h=>?_) (fun bi h=>?_))
   ·refine au (aO (av (ab (Ge ?_))));exact eB h (gg [] [0,1,2,3])
   refine ae (ab (G (af (G (bn h (fun a4=>aA [(1,.i64 N),(2,.i64 x),(3,.i64 O),(4,.p u (.slice Y2) z),(6,.adr 0 0 2 0),(11,.adr 1 0 6 0),(12,.adr 2 0 2 0),(13,.adr 3 0 2 0),(14,.i64 C),(15,.i64 D),(16,.i64 v),(17,.i64 E),(18,.i64 v30),(20,.u8 ad),(22,.adr 4 0 2 0),(23,.i64 a4)] (Ji e L f M V X Y Z x8 x9 0 (0:Int) A B ((z.getD ((i64.wrap (v30 - x)).toNat) (0,0)).1) ((z.getD ((i64.wrap (v30 - x)).toNat) (0,0)).2)) 5) (fun a4 h=>?_) (fun a4 h=>?_))))))
   ·refine aC h (fun bs h=>?_) (fun bs h=>?_)
    ·exact Ge (eN h (gg [] [0,1,2,3,4]))
    exact ae (eN h (gg [] [0,1,2,3,4]))
   refine ab ?_;obtain⟨⟨bv,c4⟩,bx,h⟩:=aj h;refine GP 9 (wN e f bx) (af (bn h (fun a5=>aA [(1,.i64 N),(2,.i64 x),(3,.i64 O),(4,.p u (.slice Y2) z),(6,.adr 0 0 2 0),(11,.adr 1 0 6 0),(12,.adr 2 0 2 0),(13,.adr 3 0 2 0),(14,.i64 C),(15,.i64 D),(16,.i64 v),(17,.i64 E),(18,.i64 v30),(22,.adr 4 0 2 0),(24,.i64 bv),(119,.bo a5)] (Ji e L f M V X Y Z x8 x9 0 (0:Int) A B ((z.getD ((i64.wrap (v30 - x)).toNat) (0,0)).1) ((z.getD ((i64.wrap (v30 - x)).toNat) (0,0)).2)) 5) (fun a5 h=>?_) (fun a5 h=>?_)))
   ·rcases aL h with⟨q,h⟩ | ⟨q,h⟩
    ·rcases aL h with⟨J,h⟩ | ⟨J,h⟩
     ·exact bu ⟨[(1,true),(5,true),(13,true),(14,true)],[]⟩ [(2,5,an q),(6,12,oc J),(13,13,oc (And.intro q J)),(14,14,oc q)] (eN h (gg [] [0,1,2,3,4]))
     exact bu ⟨[(1,true),(5,false),(13,false),(14,true)],[]⟩ [(2,5,an q),(6,12,an J),(13,13,oc (And.intro q J)),(14,14,oc q)] (eN h (gg [] [0,1,2,3,4]))
    exact bu ⟨[(1,false),(14,false)],[]⟩ [(2,5,oc q),(13,14,oc q)] (eN h (gg [] [0,1,2,3,4]))
   refine ab (bn h (fun(ax,b1)=>aA [(1,.i64 N),(2,.i64 x),(3,.i64 O),(4,.p u (.slice Y2) z),(6,.adr 0 0 2 0),(11,.adr 1 0 6 0),(12,.adr 2 0 2 0),(13,.adr 3 0 2 0),(14,.i64 C),(15,.i64 D),(16,.i64 v),(17,.i64 E),(18,.i64 v30)] (IC e L f M V X Y Z x8 x9 0 (0:Int) ax b1) 4) (fun b2 h=>?_) (fun b2 h=>?_))
   ·refine aC h (fun c1 h=>?_) (fun c1 h=>?_)
    ·exact Ge (eN h (gg [] [0,1,2,3]))
    exact ae (eN h (gg [] [0,1,2,3]))
   obtain⟨ax,b1⟩:=b2;refine ay (ab (Ge ?_));exact eB h (gg [] [0,1,2,3])
  refine au (aO ?_);exact eX h (gg [] [2,3])
 obtain⟨a9,aa⟩:=b3;refine av (ab (G (aw ?_)));obtain rfl:=sI h;exact RI [Y2]
end
end Go.Proofs.YtflahpmlcfhpcaaGreatDoor.T
