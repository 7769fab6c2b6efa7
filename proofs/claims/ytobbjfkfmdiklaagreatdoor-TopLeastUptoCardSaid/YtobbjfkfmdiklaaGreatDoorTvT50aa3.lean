import Derived.Test.YtobbjfkfmdiklaaGreatDoorTvT50a0
import Derived.Test.YtobbjfkfmdiklaaGreatDoorTvT50aa2
namespace Go.Proofs.YtobbjfkfmdiklaaGreatDoor.T
open Go Go.Tv Go.Proofs
open Go.IntKind (i32 i64 u32 u64)
noncomputable section
set_option maxRecDepth 100000
set_option maxHeartbeats 4000000
def ig(j:XK):(Int)→Option ((Int)⊕(Int)):=fun f =>
 (((if(decide (f<(j.length:Int)))=true then(if 0≤f∧f<(j.length:Int)then((jI ((j.getD f.toNat (0,0,0)).1)).bind fun p =>
 some ((!p)))else none)
 else some (false))).bind fun v30=>(if v30=true then some (Sum.inl (i64.wrap (f+1)))
 else some (Sum.inr f)))
def qg(u:XK):((List Z8)×(List Z8)×Int)→Option (((List Z8)×(List Z8)×Int)⊕(((List Z8)×List Z8)⊕(((List Z8)×List Z8)×Int×Int))):=fun(v20,p,f) =>
 (if(decide (f<(u.length:Int)))=true then(if 0≤f∧f<(u.length:Int)then((jI ((u.getD f.toNat (0,0,0)).1)).bind fun v =>
 (if v=true then some (Sum.inl (v20,p,(i64.wrap (f+1))))
 else((iter (ig u) f).bind fun q=>(if 0≤f∧f<(u.length:Int)then(if(decide ((i64.wrap ((v20.length:Int)+(p.length:Int)))≥256))=true then some (Sum.inr (Sum.inr ((([]:List Z8),([]:List Z8)),24,(u.getD f.toNat (0,0,0)).2.1)))
 else(if 0≤f∧f≤q∧q≤q∧q≤(u.length:Int)then((rB ((u.take q.toNat).drop f.toNat)).bind fun(j,x) =>
 (if(!x)=true then some (Sum.inr (Sum.inr ((([]:List Z8),([]:List Z8)),30,(u.getD f.toNat (0,0,0)).2.1)))
 else((hH ((u.take q.toNat).drop f.toNat)).bind fun z =>
 (((if(!z)=true then(if(v20.length+([(j.1,j.2)]:List Z8).length)*48≤140737488355328∧v20.length+([(j.1,j.2)]:List Z8).length≤9223372036854775807 then some ((Sum.inl ((v20++([(j.1,j.2)]:List Z8)),p)))else none)
 else((mi p j.1 j.2).bind fun A =>
 (if A=true then some ((Sum.inr ((([]:List Z8),([]:List Z8)),23,(u.getD f.toNat (0,0,0)).2.1)))
 else(if(p.length+([(j.1,j.2)]:List Z8).length)*48≤140737488355328∧p.length+([(j.1,j.2)]:List Z8).length≤9223372036854775807 then some ((Sum.inl (v20,(p++([(j.1,j.2)]:List Z8)))))else none))))).bind fun(B:(((List Z8)×List Z8)⊕(((List Z8)×List Z8)×Int×Int)))=>match B with
 | .inl (C,D)=>some (Sum.inl (C,D,q))
 | .inr ((E,I))=>some (Sum.inr (Sum.inr (E,I)))))))else none))else none))))else none)
 else some (Sum.inr (Sum.inl (v20,p))))
def nK(v:QX):Option (((List Z8)×List Z8)×Int×Int) :=
 (if(decide ((v.length:Int) > 4096))=true then some ((([]:List Z8),([]:List Z8)),24,4096)
 else((mS (bZ v)).bind fun x =>
 ((iter (qg x) (([]:List Z8),([]:List Z8),0)).bind fun(f:(((List Z8)×List Z8)⊕(((List Z8)×List Z8)×Int×Int)))=>match f with
 | .inl (j,p)=>some ((j,p),0,0)
 | .inr ((q,u))=>some (q,u))))
theorem xH{d1:QX}{v:((List Z8)×List Z8)×Int×Int}(h:nK d1=some v):
  Pure Tryz.prog 63 [.st d1] (aL (bd false [⟨Iw,v.1⟩,⟨Y2,v.2⟩])):=by
 refine PB Tryz.func63 (fun Bw w0=>?_);unfold nK at h;refine G (G (ag (G (aC h (fun B1 h=>?_) (fun B1 h=>?_)))))
 ·refine G (av (aj ?_));obtain rfl:=sI h;exact RI [Iw,Y2]
 refine ae (ab ?_);obtain⟨B,q2,h⟩:=ai h;refine GP 2 (tJ false q2) (ag (G (ak (kS h (fun(v20,j,q)=>az [(2,.adr 0 0 2 0),(3,.adr 1 0 2 0),(4,.adr 2 0 2 0),(5,.p false (.slice (.prod (.int .i32) Y2)) B),(6,.i64 q)] (FV 0 (0:Int) v20 j) 5) (dz (fD Tryz.f63.ntmps 0 (fun(C,D)=>az [(2,.adr 0 0 2 0),(3,.adr 1 0 2 0),(4,.adr 2 0 2 0)] (FV 0 (0:Int) C D) 5)) (gB tb Tryz.f63.results.toList (fun(E,I)=>[⟨Iw,E⟩,⟨Y2,I⟩]))) (gg [.nilC 16 0 88 199 qU,.nilC 16 1 89 199 qU] [0,8,16,88,89]) (fun y o h=>?_) (fun X h e σ' J=>?_)))))
 ·obtain⟨v20,j,q⟩:=y;unfold qg at h;refine ag (G (aC h (fun Y h=>?_) (fun Y h=>?_)))
  ·refine ae (ab (ak (ag ?_)));obtain⟨Z,h⟩:=aD h;obtain⟨ax,a1,h⟩:=ai h;have u:=(p9 a1);refine GN ⟨[],[(5,(oP u))]⟩ [(2,2,oc Z),(5,5,oc u)] (aC h (fun a2 h=>?_) (fun a2 h=>?_))
   ·refine G (au (aQ (aw ?_)));exact eB h (gg [] [0,1,2,3,4])
   refine ae (ab (G (ag (ak (cz h (fun x=>az [(2,.adr 0 0 2 0),(3,.adr 1 0 2 0),(4,.adr 2 0 2 0),(5,.p false (.slice (.prod (.int .i32) Y2)) B),(6,.i64 q),(7,.i64 x)] (FV 0 (0:Int) v20 j) 5) 2 (fun z=>az [(2,.adr 0 0 2 0),(3,.adr 1 0 2 0),(4,.adr 2 0 2 0),(5,.p false (.slice (.prod (.int .i32) Y2)) B),(6,.i64 q),(7,.i64 z)] (FV 0 (0:Int) v20 j) 5) (gg [] [0,1,2,3,4]) (fun x o h=>?_) (fun z h=>?_))))))
   ·unfold ig at h;refine ag (ag (br h (fun v30=>az [(2,.adr 0 0 2 0),(3,.adr 1 0 2 0),(4,.adr 2 0 2 0),(5,.p false (.slice (.prod (.int .i32) Y2)) B),(6,.i64 q),(7,.i64 x),(45,.bo v30)] (FV 0 (0:Int) v20 j) 5) (fun v30 h=>?_) (fun v30 h=>?_)))
    ·rcases aN h with⟨f,h⟩ | ⟨f,h⟩
     ·obtain⟨a3,h⟩:=aD h;obtain⟨b1,a4,h⟩:=ai h;have u:=(p9 a4);exact bC ⟨[(4,true),(12,true)],[(10,(oP u))]⟩ [(5,6,an f),(7,7,oc (And.intro f a3)),(8,9,an f),(10,10,oc (And.intro f u)),(11,11,an f),(12,12,oc f)] (eN h (gg [] [0,1,2,3,4]))
     exact bC ⟨[(4,false),(12,false)],[]⟩ [(5,12,oc f)] (eN h (gg [] [0,1,2,3,4]))
    refine ab (aC h (fun a5 h=>?_) (fun a5 h=>?_))
    ·refine ae (ab (ak (Ge (ay ?_))));exact eB h (gg [] [0,1,2,3,4])
    refine au (aQ ?_);exact eX h (gg [] [0,1,2,3,4])
   refine aw (ab (GC 2 h (fun h=>ag (G (aC h (fun a6 h=>?_) (fun a6 h=>?_))))))
   ·refine G (av ?_);obtain rfl:=sI h;refine aj (aA (bM (aM ?_)));exact bL (RI [Iw,Y2])
   refine ae (ab (GC 4 h (fun h=>?_)));obtain⟨⟨b2,b3⟩,a7,h⟩:=ai h;refine GP 1 (Cy false a7) (ag (ak (G (aC h (fun a8 h=>?_) (fun a8 h=>?_)))))
   ·refine G (av ?_);obtain rfl:=sI h;refine aA (aj (aA (bM (aM ?_))));exact bL (RI [Iw,Y2])
   obtain⟨b4,a9,h⟩:=ai h;refine GP 1 (mU false a9) (DK h (dz (oa Tryz.f63.ntmps (fun(L,M)=>az [(2,.adr 0 0 2 0),(3,.adr 1 0 2 0),(4,.adr 2 0 2 0),(5,.p false (.slice (.prod (.int .i32) Y2)) B),(7,.i64 z)] (FV 0 (0:Int) L M) 5)) (gB tb Tryz.f63.results.toList (fun(N,O)=>[⟨Iw,N⟩,⟨Y2,O⟩]))) (fun V h=>?_) (fun V h e σ' J=>?_))
   ·refine aC h (fun aa h=>?_) (fun aa h=>?_)
    ·refine Ak 4 h (fun h=>?_);obtain rfl:=sI h;exact bk (cJ (gg [] [0,1,2,317,4]))
    obtain⟨b5,ac,h⟩:=ai h;refine GP 3 (vM true false false ac) (aC h (fun ad h=>?_) (fun ad h=>?_))
    ·refine G (av ?_);obtain rfl:=sI h;exact aM (bL (RI [Iw,Y2]))
    refine Ak 4 h (fun h=>?_);obtain rfl:=sI h;exact bk (cJ (gg [] [0,1,2,3,357]))
   rcases V with⟨L,M⟩ | ⟨N,O⟩
   ·obtain⟨rfl,A⟩:=J;refine cH ?_ A;refine ay (ab (Ge (ay ?_)));exact eB h (gg [] [0,1,2,3,4])
   obtain⟨rfl,hr⟩:=J;obtain rfl:=sI h;refine aA (aj (aA (bM (aM ?_))));exact bL hr
  refine au (aQ ?_);obtain rfl:=sI h;refine dL (bk ?_);exact bT (gg [] [0,1,2,3,4])
 rcases X with⟨C,D⟩ | ⟨E,I⟩
 ·obtain⟨rfl,A⟩:=J;refine cH ?_ A;refine aw (ab (G (lZ [.frzC 0 0,.frzC 0 1] (by kernel_rfl) (av ?_))));obtain rfl:=sI h;exact RI [Iw,Y2]
 obtain⟨rfl,hr⟩:=J;refine aA (aj ?_);obtain rfl:=sI h;exact hr
def tg(f:XK):Option XK:=(if f.isEmpty=true then some []else(if(([]:XK).length+f.length)*16≤140737488355328∧([]:XK).length+f.length≤9223372036854775807 then some (([]:XK)++f)else none))
theorem y5(q:Bool){f j:XK}(h:tg f=some j):
  Pure Tryz.prog 64 [.p q (.slice (.prod (.int .i32) Y1)) f] (aL (bd false [⟨(.slice (.prod (.int .i32) Y1)),j⟩])):=by
 refine PB Tryz.func64 (fun Bw w0=>?_);unfold tg at h;refine G (ag (Kf je (d:=3) (e:=4) (A:=(.prod (.int .i32) Y1)) (xs:=f) (el:=116) (β:=q) rfl rfl rfl rfl rfl (by kernel_rfl) (by kernel_rfl) (by kernel_rfl) (fun b hb=>?_)));cases b with
 | true =>
  obtain rfl:=hb rfl;obtain rfl:=sI h;exact zB rfl (G (av (aj (RI [(.slice (.prod (.int .i32) Y1))]))))
 | false =>
  replace h:(if(([]:XK).length+f.length)*16≤140737488355328∧([]:XK).length+f.length≤9223372036854775807 then some (([]:XK)++f)else none)=some j:=by cases f <;> simpa using h
  refine Jq rfl (ae (ab (GC 2 h (fun h=>av ?_))));obtain rfl:=sI h;exact RI [(.slice (.prod (.int .i32) Y1))]
def kP(v:List Z8)(u:Int):((List Nd)×Int×Int)→Option (((List Nd)×Int×Int)⊕((List Nd)×Int)):=fun(j,f,q) =>
 (if(decide (q<(((v.getD u.toNat ([],([]:QK))).1).length:Int)))=true then(if 0≤q∧q<(((v.getD u.toNat ([],([]:QK))).1).length:Int)then(if f.toNat<j.length then(if 0≤f∧f<(j.length:Int)then(((if(!((bg (α:=Int) (.int .i32) ((j.getD f.toNat Nd.z).2.1) (((v.getD u.toNat ([],([]:QK))).1).getD q.toNat 0)).isSome))=true then(if f.toNat<(jq j f.toNat).length then(if 0≤f∧f<((jq j f.toNat).length:Int)then(((if(!(((jq j f.toNat).getD f.toNat Nd.z).1))=true then(if 0≤f∧f<((jq (jq j f.toNat) f.toNat).length:Int)then(if f.toNat<(jq (jq j f.toNat) f.toNat).length then some (((jq (jq j f.toNat) f.toNat).set f.toNat (true,([]:Qq),((jq (jq j f.toNat) f.toNat).getD f.toNat Nd.z).2.2)))else none)else none)
 else some ((jq (jq j f.toNat) f.toNat)))).bind fun p=>(if f.toNat<p.length then(if 0≤f∧f<(p.length:Int)then(if(p.getD f.toNat Nd.z).1=true then(if((p.set f.toNat (true,(cF (α:=Int) (.int .i32) ((p.getD f.toNat Nd.z).2.1) (((v.getD u.toNat ([],([]:QK))).1).getD q.toNat 0) ((jq j f.toNat).length:Int)),(p.getD f.toNat Nd.z).2.2)).length+1)*32≤140737488355328∧(p.set f.toNat (true,(cF (α:=Int) (.int .i32) ((p.getD f.toNat Nd.z).2.1) (((v.getD u.toNat ([],([]:QK))).1).getD q.toNat 0) ((jq j f.toNat).length:Int)),(p.getD f.toNat Nd.z).2.2)).length+1≤9223372036854775807 then some ((((p.set f.toNat (true,(cF (α:=Int) (.int .i32) ((p.getD f.toNat Nd.z).2.1) (((v.getD u.toNat ([],([]:QK))).1).getD q.toNat 0) ((jq j f.toNat).length:Int)),(p.getD f.toNat Nd.z).2.2))++[Nd.z]),((jq j f.toNat).length:Int)))else none)else none)else none)else none))else none)else none)
 else some (((jq j f.toNat),((bg (α:=Int) (.int .i32) ((j.getD f.toNat Nd.z).2.1) (((v.getD u.toNat ([],([]:QK))).1).getD q.toNat 0)).getD 0))))).bind fun(x,A)=>some (Sum.inl (x,A,(i64.wrap (q+1)))))else none)else none)else none)
 else some (Sum.inr (j,f)))
def kT(v:List Z8)(u f:Int):((List Nd)×Int)→Option (((List Nd)×Int)⊕(List Nd)):=fun(p,j) =>
 (if(decide (j<(((v.getD u.toNat ([],([]:QK))).2).length:Int)))=true then(if 0≤j∧j<(((v.getD u.toNat ([],([]:QK))).2).length:Int)then(if f.toNat<p.length then(((if(decide (j≥(((p.getD f.toNat Nd.z).2.2).length:Int)))=true then(if f.toNat<(jq p f.toNat).length then(if((((jq p f.toNat).getD f.toNat Nd.z).2.2).length+([0]:QK).length)*1≤140737488355328∧(((jq p f.toNat).getD f.toNat Nd.z).2.2).length+([0]:QK).length≤9223372036854775807 then some (((jq p f.toNat).set f.toNat (((jq p f.toNat).getD f.toNat Nd.z).1,((jq p f.toNat).getD f.toNat Nd.z).2.1,((((jq p f.toNat).getD f.toNat Nd.z).2.2)++([0]:QK)))))else none)else none)
 else some ((jq p f.toNat)))).bind fun q=>(if f.toNat<q.length then(if 0≤j∧j<(((q.getD f.toNat Nd.z).2.2).length:Int)then(if j.toNat<((q.getD f.toNat Nd.z).2.2).length then(if 0≤j∧j<(((q.getD f.toNat Nd.z).2.2).length:Int)then(if j.toNat<((q.getD f.toNat Nd.z).2.2).length then some (Sum.inl ((q.set f.toNat ((q.getD f.toNat Nd.z).1,(q.getD f.toNat Nd.z).2.1,(((q.getD f.toNat Nd.z).2.2).set j.toNat (max (((q.getD f.toNat Nd.z).2.2).getD j.toNat 0) (((v.getD u.toNat ([],([]:QK))).2).getD j.toNat 0))))),(i64.wrap (j+1))))else none)else none)else none)else none)else none))else none)else none)
 else some (Sum.inr p))
def ry(u:List Z8):((List Nd)×Int)→Option (((List Nd)×Int)⊕(List Nd)):=fun(p,f) =>
 (if(decide (f<(u.length:Int)))=true then(if 0≤f∧f<(u.length:Int)then((iter (kP u f) (p,0,0)).bind fun(q,j)=>(if 0≤j∧j<(q.length:Int)then((iter (kT u f j) (q,0)).bind fun v=>some (Sum.inl (v,(i64.wrap (f+1)))))else none))else none)
 else some (Sum.inr p))
def pH(j:List Z8):Option (Option HY) :=
 (if 0≤(1:Int)∧(1:Int)≤1∧32*(1:Int)≤281474976710656∧(1:Int)≤9223372036854775807 then((iter (ry j) ((List.replicate (1:Int).toNat Nd.z),0)).bind fun f=>some (some ((f.map (·.2)),()):Option HY))else none)
theorem zI(j:Bool){q:List Z8}{D:Option HY}(h:pH q=some D):
  Pure Tryz.prog 65 [.p j (.slice qU) q] (aL (bd false [⟨(.ptr tn),D⟩])):=by
 refine PB Tryz.func65 (fun Bw w0=>?_);unfold pH at h;refine G ?_;obtain⟨c2,h⟩:=aD h;refine GN ⟨[],[(0,⟨.unk,[],false,[],[],[],none⟩)]⟩ [(0,0,oc c2)] (ag (G (ak (cz h (fun(E,f)=>az [(3,.adr 0 0 1 0),(17,.p j (.slice qU) q),(18,.i64 (q.length:Int)),(19,.i64 f)] [(0,.box [.sl 1]),(1,.nds 229 5 E none)] 2) 0 (fun I=>az [(3,.adr 0 0 1 0)] [(0,.box [.sl 1]),(1,.nds 229 5 I none)] 2) (gg [] [24,8]) (fun y o h=>?_) (fun I h=>?_)))))
 ·obtain⟨E,f⟩:=y;unfold ry at h;refine G (ag (aC h (fun b3 h=>?_) (fun b3 h=>?_)))
  ·refine ae (ab (ag (ak (GC 0 h (fun h=>G (ag (G (ak ?_))))))));refine cz h (fun(A,v,x)=>az [(3,.adr 0 0 1 0),(5,.adr 2 0 2 0),(6,.i64 v),(17,.p j (.slice qU) q),(18,.i64 (q.length:Int)),(19,.i64 f),(24,.p j (.slice (.int .i32)) ((q.getD f.toNat ([],([]:QK))).1)),(25,.i64 (((q.getD f.toNat ([],([]:QK))).1).length:Int)),(26,.i64 x)] (Jx A j ((q.getD f.toNat ([],([]:QK))).1) j ((q.getD f.toNat ([],([]:QK))).2)) 3) 2 (fun(J,u)=>az [(3,.adr 0 0 1 0),(5,.adr 2 0 2 0),(6,.i64 u),(17,.p j (.slice qU) q),(18,.i64 (q.length:Int)),(19,.i64 f)] (Jx J j ((q.getD f.toNat ([],([]:QK))).1) j ((q.getD f.toNat ([],([]:QK))).2)) 3) (gg [] [0,1,26]) (fun y o h=>?_) (fun b4 h=>?_)
   ·obtain⟨A,v,x⟩:=y;unfold kP at h;refine G (ag (aC h (fun b5 h=>?_) (fun b5 h=>?_)))
    ·refine ae (ab (ag (ak (GC 0 h (fun h=>ag ?_)))));obtain⟨L,h⟩:=aD h;refine yc 1 v.toNat false L (by kernel_rfl) ?_;obtain⟨M,h⟩:=aD h;refine bC a0 [(5,5,oc M),(7,7,⟨v.toNat=v.toNat,rfl⟩)] (ab (ag (ag (lZ [.shut 1] (by kernel_rfl) (Ge (ab (br h (fun(N,O)=>az [(3,.adr 0 0 1 0),(5,.adr 2 0 2 0),(9,.i64 O),(17,.p j (.slice qU) q),(18,.i64 (q.length:Int)),(19,.i64 f),(24,.p j (.slice (.int .i32)) ((q.getD f.toNat ([],([]:QK))).1)),(25,.i64 (((q.getD f.toNat ([],([]:QK))).1).length:Int)),(26,.i64 x)] (Jx N j ((q.getD f.toNat ([],([]:QK))).1) j ((q.getD f.toNat ([],([]:QK))).2)) 3) (fun V h=>?_) (fun V h=>?_))))))))
     ·refine aC h (fun b6 h=>?_) (fun b6 h=>?_)
      ·refine G (ag (ag ?_));obtain⟨X,h⟩:=aD h;refine yc 1 v.toNat false X (by kernel_rfl) ?_;obtain⟨Y,h⟩:=aD h;refine bC a0 [(5,5,oc Y),(7,7,⟨v.toNat=v.toNat,rfl⟩)] (ab (br h (fun B=>az [(3,.adr 0 0 1 0),(5,.adr 2 0 2 0),(6,.i64 v),(8,.i32 (((q.getD f.toNat ([],([]:QK))).1).getD x.toNat 0)),(9,.i64 ((jq A v.toNat).length:Int)),(17,.p j (.slice qU) q),(18,.i64 (q.length:Int)),(19,.i64 f),(24,.p j (.slice (.int .i32)) ((q.getD f.toNat ([],([]:QK))).1)),(25,.i64 (((q.getD f.toNat ([],([]:QK))).1).length:Int)),(26,.i64 x)] (Jx B j ((q.getD f.toNat ([],([]:QK))).1) j ((q.getD f.toNat ([],([]:QK))).2)) 3) (fun B h=>?_) (fun B h=>?_)))
       ·refine aC h (fun b7 h=>?_) (fun b7 h=>?_)
        ·refine lZ [.shut 1] (by kernel_rfl) ?_;obtain⟨Z,a1,h⟩:=g2 h;exact bC a0 [(6,6,oc Z),(8,8,oc a1)] (eN h (gg [.shut 1] [0,1,2]))
        exact ae (eN h (gg [.shut 1] [0,1,2]))
       refine ab (ag ?_);obtain⟨a2,h⟩:=aD h;refine yc 1 v.toNat false a2 (by kernel_rfl) ?_;obtain⟨a3,a4,h⟩:=g2 h;refine bC a0 [(5,5,oc a3),(7,7,⟨v.toNat=v.toNat,rfl⟩),(10,10,oc a4)] (ab (lZ [.shut 1] (by kernel_rfl) ?_));obtain⟨a5,h⟩:=aD h;exact bC ⟨[],[(6,⟨.unk,[],false,[],[],[],none⟩)]⟩ [(7,7,oc a5)] (eN h (gg [] [0,148,2]))
      exact ae (eN h (gg [] [0,1,2]))
     obtain⟨N,O⟩:=V;refine ab (Ge (ay (ab (Ge ?_))));exact eB h (gg [] [0,1,2])
    refine au (aQ ?_);exact eX h (gg [] [0,1,2])
   obtain⟨J,u⟩:=b4;refine aw (ab (GC 5 h (fun h=>G (ak (cz h (fun(a6,z)=>az [(3,.adr 0 0 1 0),(11,.adr 1 u.toNat 2 0),(17,.p j (.slice qU) q),(18,.i64 (q.length:Int)),(19,.i64 f),(96,.p j (.slice (.int .u8)) ((q.getD f.toNat ([],([]:QK))).2)),(97,.i64 (((q.getD f.toNat ([],([]:QK))).2).length:Int)),(98,.i64 z)] [(0,.box [.sl 1]),(1,.nds 229 5 a6 none)] 2) 4 (fun a7=>az [(3,.adr 0 0 1 0),(17,.p j (.slice qU) q),(18,.i64 (q.length:Int)),(19,.i64 f)] [(0,.box [.sl 1]),(1,.nds 229 5 a7 none)] 2) (gg [] [0,1]) (fun y o h=>?_) (fun a7 h=>?_))))))
   ·obtain⟨a6,z⟩:=y;unfold kT at h;refine G (ag (aC h (fun b8 h=>?_) (fun b8 h=>?_)))
    ·refine ae (ab (ag (ak (GC 1 h (fun h=>ag (ag ?_))))));obtain⟨a8,h⟩:=aD h;refine yc 1 u.toNat true a8 (by kernel_rfl) (bC a0 [(4,4,⟨u.toNat=u.toNat,rfl⟩)] (ab (br h (fun C=>az [(3,.adr 0 0 1 0),(11,.adr 1 u.toNat 2 0),(12,.i64 z),(13,.u8 (((q.getD f.toNat ([],([]:QK))).2).getD z.toNat 0)),(17,.p j (.slice qU) q),(18,.i64 (q.length:Int)),(19,.i64 f),(96,.p j (.slice (.int .u8)) ((q.getD f.toNat ([],([]:QK))).2)),(97,.i64 (((q.getD f.toNat ([],([]:QK))).2).length:Int)),(98,.i64 z)] [(0,.box [.sl 1]),(1,.nds 229 5 C none)] 2) (fun C h=>?_) (fun C h=>?_))))
     ·refine aC h (fun b9 h=>?_) (fun b9 h=>?_)
      ·refine lZ [.shut 1] (by kernel_rfl) ?_;obtain⟨a9,h⟩:=aD h;refine yc 1 u.toNat true a9 (by kernel_rfl) ?_;obtain⟨aa,h⟩:=aD h;exact bC a0 [(4,4,⟨u.toNat=u.toNat,rfl⟩),(6,6,oc aa),(9,9,⟨u.toNat=u.toNat∧true=true,⟨rfl,rfl⟩⟩)] (eN h (gg [.shut 1] [0,1]))
      exact ae (eN h (gg [.shut 1] [0,1]))
     refine ab ?_;obtain⟨ac,h⟩:=aD h;refine yc 1 u.toNat true ac (by kernel_rfl) ?_;obtain⟨ad,ax,b1,b2,h⟩:=g4 h;refine nj a0 [(3,3,⟨u.toNat=u.toNat,rfl⟩),(8,8,⟨u.toNat=u.toNat,rfl⟩),(10,10,oc ad),(11,11,oc ax),(14,14,oc b1),(15,15,oc b2)] (ay (ab (lZ [.shut 1] (by kernel_rfl) (Ge ?_))));exact eB h (gg [] [0,1])
    refine au (aQ ?_);exact eX h (gg [] [0,1])
   refine aw (ay (ab (Ge ?_)));exact eB h (gg [] [0,1])
  refine au (aQ ?_);exact eX h (gg [] [0,1])
 refine aw (ab (G (lZ [.frzC 0 0] (by kernel_rfl) (av ?_))));obtain rfl:=sI h;exact RI [(.ptr tn)]
def m5(q:QX)(f:XK)(p j:Int):Option ((Option Z3)×Int×Int) :=
 ((nP f).bind fun z =>
 (if(!z)=true then some ((none:Option Z3),10,0)
 else(((if(decide (p<1))=true then some (true)
 else(if(decide (j<1))=true then some (true)
 else(if(decide (p > 24))=true then some (true)
 else some ((decide (j > 24))))))).bind fun v1=>(if v1=true then some ((none:Option Z3),40,0)
 else((nK q).bind fun(x,u) =>
 (if(u.1 != 0)=true then some ((none:Option Z3),u.1,u.2)
 else((tg f).bind fun A =>
 ((pH x.1).bind fun v =>
 some ((some (A,v,x.2,p,j):Option Z3),0,0)))))))))
theorem As(v:Bool){q:QX}{f:XK}{u j:Int}{A:(Option Z3)×Int×Int}(h:m5 q f u j=some A):
  Pure Tryz.prog 39 [.st q,.p v (.slice (.prod (.int .i32) Y1)) f,.i64 u,.i64 j] (aL (bd false [⟨(.ptr nk),A.1⟩,⟨Y2,A.2⟩])):=by
 refine PB Tryz.func39 (fun Bw w0=>?_);unfold m5 at h;refine G (ag ?_);obtain⟨X,J,h⟩:=ai h;refine GP 1 (xJ v J) (aC h (fun L h=>?_) (fun L h=>?_))
 ·refine G (av (aj ?_));obtain rfl:=sI h;exact RI [(.ptr nk),Y2]
 refine ae (ab (ag (ag (br h (fun v1=>az [(0,.st q),(1,.p v (.slice (.prod (.int .i32) Y1)) f),(2,.i64 u),(3,.i64 j),(9,.adr 0 0 2 0),(29,.bo v1)] [(0,.box [.i64 0,.i64 0])] 1) (fun v1 h=>?_) (fun v1 h=>?_)))))
 ·rcases aN h with⟨z,h⟩ | ⟨z,h⟩
  ·exact bC ⟨[(2,true),(5,true)],[]⟩ [(3,5,oc z)] (eN h (gg [] [8]))
  rcases aN h with⟨B,h⟩ | ⟨B,h⟩
  ·exact bC ⟨[(2,false),(5,false),(6,true),(9,true)],[]⟩ [(3,4,an z),(5,5,oc z),(7,9,oc B)] (eN h (gg [] [8]))
  rcases aN h with⟨x,h⟩ | ⟨x,h⟩
  ·exact bC ⟨[(2,false),(5,false),(6,false),(9,false),(10,true),(13,true)],[]⟩ [(3,4,an z),(5,5,oc z),(7,8,an B),(9,9,oc B),(11,13,oc x)] (eN h (gg [] [8]))
  exact bC ⟨[(2,false),(5,false),(6,false),(9,false),(10,false),(13,false)],[]⟩ [(3,4,an z),(5,5,oc z),(7,8,an B),(9,9,oc B),(11,12,an x),(13,13,oc x)] (eN h (gg [] [8]))
 refine ab (aC h (fun E h=>?_) (fun E h=>?_))
 ·refine G (av (aj ?_));obtain rfl:=sI h;exact RI [(.ptr nk),Y2]
 refine ae (ab ?_);obtain⟨⟨Y,Z⟩,M,h⟩:=ai h;refine GP 1 (xH M) (ag (G (aC h (fun I h=>?_) (fun I h=>?_))))
 ·refine GD a0 [] (av (aj ?_));obtain rfl:=sI h;exact RI [(.ptr nk),Y2]
 refine ae (ab ?_);obtain⟨r9,N,h⟩:=ai h;obtain⟨O,V,h⟩:=ai h;have C:=(y5 v N);have D:=(zI false V);refine GD ⟨[],[(1,(oP C)),(4,(oP D))]⟩ [(1,1,oc C),(4,4,oc D)] (av ?_);obtain rfl:=sI h;exact RI [(.ptr nk),Y2]
def jT(J L M N:XK)(O V X:QX)(Y Z:Int):Option ((Option Z1)×Int×Int) :=
 ((ja O).bind fun(E,u) =>
 (if(u.1 != 0)=true then some ((none:Option Z1),u.1,u.2)
 else((ja V).bind fun(I,v) =>
 (if(v.1 != 0)=true then some ((none:Option Z1),v.1,v.2)
 else((ck E).bind fun x =>
 ((ck I).bind fun z =>
 (if 0≤(0:Int)∧0<((3:Nat):Int)then((fX J x).bind fun(A,j) =>
 (if(j != 0)=true then some ((none:Option Z1),j,0)
 else(if 0≤(1:Int)∧1<((3:Nat):Int)then((fX L z).bind fun(B,p) =>
 (if(p != 0)=true then some ((none:Option Z1),p,0)
 else(if 0≤(2:Int)∧2<((3:Nat):Int)then((fX M 3).bind fun(C,q) =>
 (if(q != 0)=true then some ((none:Option Z1),q,0)
 else((m5 X N Y Z).bind fun(D,f) =>
 (if(f.1 != 0)=true then some ((none:Option Z1),f.1,f.2)
 else some ((some (E,I,A,B,C,D):Option Z1),0,0)))))else none)))else none)))else none)))))))
theorem tL(j q u v:Bool){E I J L:XK}{M N O:QX}{V X:Int}{f:(Option Z1)×Int×Int}(h:jT E I J L M N O V X=some f):
  Pure Tryz.prog 18 [.agg [.p j (.slice (.prod (.int .i32) Y1)) E,.p q (.slice (.prod (.int .i32) Y1)) I,.p u (.slice (.prod (.int .i32) Y1)) J,.p v (.slice (.prod (.int .i32) Y1)) L,.st M,.st N,.st O,.i64 V,.i64 X]] (aL (bd false [⟨(.ptr xg),f.1⟩,⟨Y2,f.2⟩])):=by
 refine PB Tryz.func18 (fun Bw w0=>?_);unfold jT at h;refine G (G (G (ag ?_)));obtain⟨⟨r3,r4⟩,Y,h⟩:=ai h;refine GP 3 (ur Y) (G (aC h (fun Z h=>?_) (fun Z h=>?_)))
 ·refine GD a0 [] (av (aj ?_));obtain rfl:=sI h;exact RI [(.ptr xg),Y2]
 refine ae (ab (ag ?_));obtain⟨⟨r7,r8⟩,q4,h⟩:=ai h;refine GP 3 (ur q4) (G (aC h (fun B2 h=>?_) (fun B2 h=>?_)))
 ·refine GD a0 [] (av (aj ?_));obtain rfl:=sI h;exact RI [(.ptr xg),Y2]
 refine ae (ab (ag ?_));obtain⟨a1,q7,h⟩:=ai h;obtain⟨a2,q8,h⟩:=ai h;have x:=(jk false q7);have z:=(jk false q8);refine GD ⟨[],[(9,(oP x)),(20,(oP z))]⟩ [(9,9,oc x),(20,20,oc z)] (ak (HH 9 (G (ag (zB rfl (ae (ab (ag (ak (GC 0 h (fun h=>?_)))))))))));obtain⟨⟨a3,a4⟩,A,h⟩:=ai h;refine GP 4 (nM j A) (ag (G (aC h (fun B3 h=>?_) (fun B3 h=>?_))))
 ·refine G (av (aj (aA (aj (Dd (aA (aj ?_)))))));obtain rfl:=sI h;exact RI [(.ptr xg),Y2]
 refine ae (ab (Ge (ay (ab (Ge (H8 (G (ag (zB rfl (ae (ab (ag (ak (GC 0 h (fun h=>?_)))))))))))))));obtain⟨⟨a5,a6⟩,B,h⟩:=ai h;refine GP 4 (nM q B) (ag (G (aC h (fun B4 h=>?_) (fun B4 h=>?_))))
 ·refine G (av (aj (aA (aj (Dd (aA (aj ?_)))))));obtain rfl:=sI h;exact RI [(.ptr xg),Y2]
 refine ae (ab (Ge (ay (ab (Ge (H8 (G (ag (zB rfl (ae (ab (ag (ak (GC 0 h (fun h=>?_)))))))))))))));obtain⟨⟨a7,a8⟩,C,h⟩:=ai h;refine GP 4 (nM u C) (ag (G (aC h (fun B5 h=>?_) (fun B5 h=>?_))))
 ·refine G (av (aj (aA (aj (Dd (aA (aj ?_)))))));obtain rfl:=sI h;exact RI [(.ptr xg),Y2]
 refine ae (ab (Ge (ay (ab (Ge (H8 (G (ag (Jq rfl (au (aQ (Nz (aw (ab (ag ?_)))))))))))))));obtain⟨⟨a9,aa⟩,D,h⟩:=ai h;refine GP 9 (As v D) (G (aC h (fun B6 h=>?_) (fun B6 h=>?_)))
 ·refine GD a0 [] (av (aj ?_));obtain rfl:=sI h;exact RI [(.ptr xg),Y2]
 refine ae (ab (G (av ?_)));obtain rfl:=sI h;exact RI [(.ptr xg),Y2]
def iA(f j u p q:Int)(v:QJ):Option (Bool) :=
 (((if(decide (f≥1))=true then(if(decide (f≤1048576))=true then(if(decide (j≥1))=true then(if(decide (j≤64))=true then(if(decide (u≤1))=true then(if(decide (p≥0))=true then(if(decide (p≤1048576))=true then(if(decide (q≥0))=true then some ((decide (q≤1048576)))
 else some (false))
 else some (false))
 else some (false))
 else some (false))
 else some (false))
 else some (false))
 else some (false))
 else some (false))).bind fun v1=>some v1)
theorem xx{C D E I J:Int}{L:QJ}{B:Bool}(h:iA C D E I J L=some B):
  Pure Tryz.prog 26 [.agg [.i64 C,.i64 D,.u8 E,.i64 I,.i64 J,.p false .flt L]] (aL (bd false [⟨.bool,B⟩])):=by
 refine PB Tryz.func26 (fun Bw w0=>?_);unfold iA at h;refine G (ag (br h (fun v1=>az [(2,.bo v1)] [] 0) (fun v1 h=>?_) (fun v1 h=>?_)))
 ·rcases aN h with⟨f,h⟩ | ⟨f,h⟩
  ·rcases aN h with⟨j,h⟩ | ⟨j,h⟩
   ·rcases aN h with⟨q,h⟩ | ⟨q,h⟩
    ·rcases aN h with⟨u,h⟩ | ⟨u,h⟩
     ·rcases aN h with⟨v,h⟩ | ⟨v,h⟩
      ·rcases aN h with⟨x,h⟩ | ⟨x,h⟩
       ·rcases aN h with⟨z,h⟩ | ⟨z,h⟩
        ·rcases aN h with⟨A,h⟩ | ⟨A,h⟩
         ·exact bC ⟨[(3,true),(7,true),(8,true),(12,true),(13,true),(17,true),(18,true),(22,true),(23,true),(27,true),(28,true),(32,true),(33,true),(37,true),(38,true),(42,true)],[]⟩ [(4,6,an f),(7,7,oc f),(9,11,an j),(12,12,oc j),(14,16,an q),(17,17,oc q),(19,21,an u),(22,22,oc u),(24,26,an v),(27,27,oc v),(29,31,an x),(32,32,oc x),(34,36,an z),(37,37,oc z),(39,41,an A),(42,42,oc A)] (eN h (gg [] []))
         exact bC ⟨[(3,true),(7,true),(8,true),(12,true),(13,true),(17,true),(18,true),(22,true),(23,true),(27,true),(28,true),(32,true),(33,true),(37,true),(38,false),(42,false)],[]⟩ [(4,6,an f),(7,7,oc f),(9,11,an j),(12,12,oc j),(14,16,an q),(17,17,oc q),(19,21,an u),(22,22,oc u),(24,26,an v),(27,27,oc v),(29,31,an x),(32,32,oc x),(34,36,an z),(37,37,oc z),(39,42,oc A)] (eN h (gg [] []))
        exact bC ⟨[(3,true),(7,true),(8,true),(12,true),(13,true),(17,true),(18,true),(22,true),(23,true),(27,true),(28,true),(32,true),(33,false),(37,false)],[]⟩ [(4,6,an f),(7,7,oc f),(9,11,an j),(12,12,oc j),(14,16,an q),(17,17,oc q),(19,21,an u),(22,22,oc u),(24,26,an v),(27,27,oc v),(29,31,an x),(32,32,oc x),(34,37,oc z)] (eN h (gg [] []))
       exact bC ⟨[(3,true),(7,true),(8,true),(12,true),(13,true),(17,true),(18,true),(22,true),(23,true),(27,true),(28,false),(32,false)],[]⟩ [(4,6,an f),(7,7,oc f),(9,11,an j),(12,12,oc j),(14,16,an q),(17,17,oc q),(19,21,an u),(22,22,oc u),(24,26,an v),(27,27,oc v),(29,32,oc x)] (eN h (gg [] []))
      exact bC ⟨[(3,true),(7,true),(8,true),(12,true),(13,true),(17,true),(18,true),(22,true),(23,false),(27,false)],[]⟩ [(4,6,an f),(7,7,oc f),(9,11,an j),(12,12,oc j),(14,16,an q),(17,17,oc q),(19,21,an u),(22,22,oc u),(24,27,oc v)] (eN h (gg [] []))
     exact bC ⟨[(3,true),(7,true),(8,true),(12,true),(13,true),(17,true),(18,false),(22,false)],[]⟩ [(4,6,an f),(7,7,oc f),(9,11,an j),(12,12,oc j),(14,16,an q),(17,17,oc q),(19,22,oc u)] (eN h (gg [] []))
    exact bC ⟨[(3,true),(7,true),(8,true),(12,true),(13,false),(17,false)],[]⟩ [(4,6,an f),(7,7,oc f),(9,11,an j),(12,12,oc j),(14,17,oc q)] (eN h (gg [] []))
   exact bC ⟨[(3,true),(7,true),(8,false),(12,false)],[]⟩ [(4,6,an f),(7,7,oc f),(9,12,oc j)] (eN h (gg [] []))
  exact bC ⟨[(3,false),(7,false)],[]⟩ [(4,7,oc f)] (eN h (gg [] []))
 refine ab (av ?_);obtain rfl:=sI h;exact RI [.bool]
def bf(j:Option Ae)(f:Int):Option (Int) :=
 (((if j.isNone=true then some (true)
 else(if(decide (f<0))=true then some (true)
 else some ((decide (f > 1114111)))))).bind fun v1=>(if v1=true then some 0
 else(if j.isSome=true then(if 0≤(8:Int)then(if j.isSome=true then(if 0≤(Int.fdiv f (2 ^ (min (8:Int).toNat i32.bits)))∧(Int.fdiv f (2 ^ (min (8:Int).toNat i32.bits)))<((4352:Nat):Int)then(if 0≤(fE ((j.getD (Ty.zero vm)).1) (Int.fdiv f (2 ^ (min (8:Int).toNat i32.bits))).toNat)∧(fE ((j.getD (Ty.zero vm)).1) (Int.fdiv f (2 ^ (min (8:Int).toNat i32.bits))).toNat)<(((j.getD (Ty.zero vm)).2).length:Int)then(if 0≤(bitsOf .and .i32 f 255)∧(bitsOf .and .i32 f 255)<((256:Nat):Int)then some (i64.wrap (fE (((j.getD (Ty.zero vm)).2).getD ((fE ((j.getD (Ty.zero vm)).1) (Int.fdiv f (2 ^ (min (8:Int).toNat i32.bits))).toNat).toNat) (dq 256)) (bitsOf .and .i32 f 255).toNat))else none)else none)else none)else none)else none)else none)))
theorem mP(j:Bool){v:Option Ae}{x q:Int}(h:bf v x=some q):
  Pure Tryz.prog 52 [.p j (.ptr vm) v,.i32 x] (aL (bd false [⟨(.int .i64),q⟩])):=by
 refine PB Tryz.func52 (fun Bw w0=>?_);unfold bf at h;refine G (ag (ag (br h (fun v1=>az [(0,.p j (.ptr vm) v),(1,.i32 x),(14,.bo v1)] [] 0) (fun v1 h=>?_) (fun v1 h=>?_))))
 ·rcases aN h with⟨f,h⟩ | ⟨f,h⟩
  ·exact bC ⟨[(2,true),(5,true)],[]⟩ [(1,1,⟨∃e,Tryz.prog.underlying 92=some (.pointer e),⟨_,rfl⟩⟩),(3,5,oc f)] (eN h (gg [] []))
  rcases aN h with⟨u,h⟩ | ⟨u,h⟩
  ·exact bC ⟨[(2,false),(5,false),(6,true),(9,true)],[]⟩ [(1,1,⟨∃e,Tryz.prog.underlying 92=some (.pointer e),⟨_,rfl⟩⟩),(3,4,an f),(5,5,oc f),(7,9,oc u)] (eN h (gg [] []))
  exact bC ⟨[(2,false),(5,false),(6,false),(9,false)],[]⟩ [(1,1,⟨∃e,Tryz.prog.underlying 92=some (.pointer e),⟨_,rfl⟩⟩),(3,4,an f),(5,5,oc f),(7,8,an u),(9,9,oc u)] (eN h (gg [] []))
 refine ab (aC h (fun C h=>?_) (fun C h=>?_))
 ·refine G (av (aj ?_));obtain rfl:=sI h;exact RI [(.int .i64)]
 refine ae (ab ?_);obtain⟨D,E,I,z,h⟩:=g4 h;obtain⟨A,B,h⟩:=g2 h;refine GD a0 [(1,1,oc D),(6,6,oc E),(7,7,oc I),(9,9,oc z),(13,13,oc A),(14,14,oc B)] (av ?_);obtain rfl:=sI h;exact RI [(.int .i64)]
def dn(q:Option Ae)(p:XK):uU→Option (uU⊕QK):=fun(f,j) =>
 (if(decide (j<(p.length:Int)))=true then(if 0≤j∧j<(p.length:Int)then((bf q ((p.getD j.toNat (0,0,0)).1)).bind fun u =>
 (if 0≤j∧j<(f.length:Int)then(if j.toNat<f.length then some (Sum.inl ((f.set j.toNat u),(i64.wrap (j+1))))else none)else none))else none)
 else some (Sum.inr f))
def cy(p:Option Ae)(f:XK):Option QK :=
 (if 0≤(f.length:Int)∧(f.length:Int)≤(f.length:Int)∧8*(f.length:Int)≤281474976710656∧(f.length:Int)≤9223372036854775807 then((iter (dn p f) ((List.replicate (f.length:Int).toNat (0:Int)),0)).bind fun j=>some j)else none)
theorem lM(q u:Bool){A:Option Ae}{z:XK}{v:QK}(h:cy A z=some v):
  Pure Tryz.prog 31 [.p q (.ptr vm) A,.p u (.slice (.prod (.int .i32) Y2)) z] (aL (bd false [⟨(.slice (.int .i64)),v⟩])):=by
 refine PB Tryz.func31 (fun Bw w0=>?_);unfold cy at h;refine G (GC 2 h (fun h=>ag (G (ak (cz h (fun(f,D)=>az [(0,.p q (.ptr vm) A),(5,.sl 0),(11,.p u (.slice (.prod (.int .i32) Y2)) z),(12,.i64 (z.length:Int)),(13,.i64 D)] [(0,.arr 3 (.int .i64) f)] 1) 0 (fun j=>az [(5,.sl 0)] [(0,.arr 3 (.int .i64) j)] 1) (gg [] [24]) (fun y o h=>?_) (fun j h=>?_))))))
 ·obtain⟨f,D⟩:=y;unfold dn at h;refine G (ag (aC h (fun E h=>?_) (fun E h=>?_)))
  ·refine ae (ab (ag (ak (GC 1 h (fun h=>?_)))));obtain⟨J,I,h⟩:=ai h;obtain⟨B,C,h⟩:=g2 h;have x:=(mP q I);refine bC ⟨[],[(5,(oP x))]⟩ [(5,5,oc x),(6,6,oc B),(7,7,oc C)] (ay (ab (Ge ?_)));exact eB h (gg [] [0])
  refine au (aQ ?_);exact eX h (gg [] [0])
 refine aw (ab (G (av ?_)));obtain rfl:=sI h;exact RI [(.slice (.int .i64))]
def j7(q:QZ)(f:QK):(QK×Int×Int)→Option ((QK×Int×Int)⊕QK):=fun(j,p,v4) =>
 (if(decide (v4<(f.length:Int)))=true then(if 0≤v4∧v4<(f.length:Int)then(((if(decide ((f.getD v4.toNat 0)<0))=true then some (true)
 else(if 0≤p∧p<(q.length:Int)then some ((decide ((f.getD v4.toNat 0)≥((q.getD p.toNat []).length:Int))))else none))).bind fun u=>(if u=true then some (Sum.inr j)
 else(if 0≤p∧p<(q.length:Int)then(if 0≤(f.getD v4.toNat 0)∧(f.getD v4.toNat 0)<((q.getD p.toNat []).length:Int)then(if(j.length+([((q.getD p.toNat []).getD ((f.getD v4.toNat 0).toNat) 0)]:QK).length)*8≤140737488355328∧j.length+([((q.getD p.toNat []).getD ((f.getD v4.toNat 0).toNat) 0)]:QK).length≤9223372036854775807 then some (Sum.inl ((j++([((q.getD p.toNat []).getD ((f.getD v4.toNat 0).toNat) 0)]:QK)),((q.getD p.toNat []).getD ((f.getD v4.toNat 0).toNat) 0),(i64.wrap (v4+1))))else none)else none)else none)))else none)
 else some (Sum.inr j))
def ni(p:QZ)(q f:QK):Option QK :=
 (if((p.length:Int) == 0)=true then some ([]:QK)
 else((iter (j7 p f) (([0]:QK),0,0)).bind fun j=>some j))
theorem ux(v x z:Bool){B:QZ}{C f A:QK}(h:ni B C f=some A):
  Pure Tryz.prog 49 [.agg [.p v (.slice (.slice (.int .i64))) B,.p x (.slice (.int .u32)) C],.p z (.slice (.int .i64)) f] (aL (bd false [⟨(.slice (.int .i64)),A⟩])):=by
 refine PB Tryz.func49 (fun Bw w0=>?_);unfold ni at h;refine G (ag (G (aC h (fun O h=>?_) (fun O h=>?_))))
 ·refine G (av (aj ?_));obtain rfl:=sI h;exact RI [(.slice (.int .i64))]
 refine ae (ab (G (G (ag (G (ak (cz h (fun(q,D,v4)=>az [(2,.adr 0 0 2 0),(5,.sl 1),(6,.i64 D),(14,.p z (.slice (.int .i64)) f),(15,.i64 (f.length:Int)),(16,.i64 v4)] (L8 v B x C q) 2) 0 (fun u=>az [(5,.sl 0)] [(0,.arr 3 (.int .i64) u)] 1) (gg [] [0,48]) (fun y o h=>?_) (fun u h=>?_))))))))
 ·obtain⟨q,D,v4⟩:=y;unfold j7 at h;refine G (ag (aC h (fun E h=>?_) (fun E h=>?_)))
  ·refine ae (ab (ag (ak (GC 0 h (fun h=>ag (ag (br h (fun I=>az [(2,.adr 0 0 2 0),(5,.sl 1),(6,.i64 D),(8,.i64 (f.getD v4.toNat 0)),(14,.p z (.slice (.int .i64)) f),(15,.i64 (f.length:Int)),(16,.i64 v4),(31,.bo I)] (L8 v B x C q) 2) (fun I h=>?_) (fun I h=>?_))))))))
   ·rcases aN h with⟨j,h⟩ | ⟨j,h⟩
    ·exact bC ⟨[(2,true),(11,true)],[]⟩ [(3,11,oc j)] (eN h (gg [] [0,1]))
    obtain⟨J,h⟩:=aD h;exact bC ⟨[(2,false),(11,false)],[]⟩ [(3,6,an j),(7,7,oc (And.intro j J)),(8,10,an j),(11,11,oc j)] (eN h (gg [] [0,1]))
   refine ab (aC h (fun L h=>?_) (fun L h=>?_))
   ·refine au (aQ (jA rfl (aQ ?_)));exact eX h (gg [] [1])
   refine ae (ab ?_);obtain⟨M,N,h⟩:=g2 h;refine GN a0 [(3,3,oc M),(6,6,oc N)] (Ak 3 h (fun h=>ay (ab (Ge ?_))));exact eB h (gg [] [0,98])
  refine au (aQ ?_);exact eX h (gg [] [1])
 refine aw (ab (G (av ?_)));obtain rfl:=sI h;exact RI [(.slice (.int .i64))]
def bP  : (QK×Int×Int)→Option ((QK×Int×Int)⊕QK):=fun(f,j,p) =>
 (if(decide (j<p))=true then(if 0≤p∧p<(f.length:Int)then(if p.toNat<f.length then(if 0≤j∧j<(f.length:Int)then(if j.toNat<f.length then(if 0≤j∧j<(f.length:Int)then(if j.toNat<f.length then(if 0≤p∧p<((f.set j.toNat (f.getD p.toNat 0)).length:Int)then(if p.toNat<(f.set j.toNat (f.getD p.toNat 0)).length then some (Sum.inl (((f.set j.toNat (f.getD p.toNat 0)).set p.toNat (f.getD j.toNat 0)),(i64.wrap (j+1)),(i64.wrap (p - 1))))else none)else none)else none)else none)else none)else none)else none)else none)
 else some (Sum.inr f))
def cg(f:QK):Option QK :=
 ((iter (bP) (f,0,(i64.wrap ((f.length:Int) - 1)))).bind fun j=>some j)
theorem ku{C f:QK}(h:cg C=some f):
  jy Tryz.prog 50 [.sl 0] [(0,.arr 3 (.int .i64) C)] (.tup []) [(0,.arr 3 (.int .i64) f)]:=by
 refine OB Tryz.func50 (fun Bw w0=>?_);unfold cg at h;refine G (ak (cz h (fun(D,E,I)=>az [(0,.sl 0),(2,.i64 E),(3,.i64 I)] [(0,.arr 3 (.int .i64) D)] 1 1) 0 (fun j=>az [] [(0,.arr 3 (.int .i64) j)] 1 1) (gg [] [0]) (fun y o h=>?_) (fun j h=>?_)))
 ·obtain⟨D,E,I⟩:=y;unfold bP at h;refine ag (G (aC h (fun J h=>?_) (fun J h=>?_)))
  ·refine ae (ab (ag (ak ?_)));obtain⟨p,q,u,v,h⟩:=g4 h;obtain⟨x,z,A,B,h⟩:=g4 h;refine nj a0 [(6,6,oc p),(7,7,oc q),(10,10,oc u),(11,11,oc v),(12,12,oc x),(13,13,oc z),(14,14,oc A),(15,15,oc B)] (ay (ab (Ge ?_)));exact eB h (gg [] [0])
  refine au (aQ ?_);exact eX h (gg [] [0])
 refine aw ?_;obtain rfl:=sI h;exact(RO [] [] [0] [] [(0,.arr 3 (.int .i64) j)] 1 1).normal
def gx(f:Int):Option (Int):=some (pX f)
theorem lv(x:Int)(w:World)(hl:tK Tryz.prog w):Calls Tryz.prog 51 #[.int .u32 x] w fun e f=>e = .returned (.int .i64 (pX x))∧f=w:=by
 have hc:w.cell? ⟨1,(bits BinOp.and u32 x (-x % 4294967296)*125613361 % 4294967296 / 134217728).toNat,none⟩=some (.int .u8 (JM.getD (bits BinOp.and u32 x (-x % 4294967296)*125613361 % 4294967296 / 134217728).toNat 0)):=hl 1 (by kernel_rfl) _ (Ih _);go_enter Tryz.func51,Tryz.ntmps51;go_wp2
 ·rename_i h;go_ret
  exact⟨by rw[Ff h];rfl,rfl⟩
 rename_i h;go_ret
 exact⟨by rw[←HB h,List.getD_eq_getElem?_getD];rfl,rfl⟩
theorem mV{j f:Int}(h:gx j=some f):
  Pure Tryz.prog 51 [.u32 j] (aL (bd false [⟨(.int .i64),f⟩])):=by
 obtain rfl:=sI h;exact Pure.LB Tryz.func51 (by kernel_rfl) rfl (fun w=>lv _ w)
def db(p:Option Z5)(q:QK):(QK×QK×Bool×Int)→Option ((QK×QK×Bool×Int)⊕Z8):=fun(v10,v11,u,f) =>
 (if(decide (f<(q.length:Int)))=true then(if 0≤f∧f<(q.length:Int)then(((if(decide ((q.getD f.toNat 0)<0))=true then some (true)
 else(if p.isSome=true then some ((decide ((q.getD f.toNat 0)≥(((p.getD (Ty.zero mO)).1.1).length:Int))))else none))).bind fun v=>(((if v=true then some (0)
 else some ((q.getD f.toNat 0)))).bind fun j=>(((if u=true then(if p.isSome=true then(if 0≤j then some (((bitsOf .and .u32 (Int.fdiv ((p.getD (Ty.zero mO)).1.2.1) (2 ^ (min j.toNat u32.bits))) (1:Int)) == 1))else none)else none)
 else some (false))).bind fun x=>(if x=true then some (Sum.inl (v10,v11,u,(i64.wrap (f+1))))
 else(if p.isSome=true then(if 0≤j then(if(v10.length+([f]:QK).length)*8≤140737488355328∧v10.length+([f]:QK).length≤9223372036854775807 then(if p.isSome=true then(if 0≤j∧j<(((p.getD (Ty.zero mO)).1.2.2.2.1).length:Int)then(if(v11.length+([(((p.getD (Ty.zero mO)).1.2.2.2.1).getD j.toNat 0)]:QK).length)*8≤140737488355328∧v11.length+([(((p.getD (Ty.zero mO)).1.2.2.2.1).getD j.toNat 0)]:QK).length≤9223372036854775807 then some (Sum.inl ((v10++([f]:QK)),(v11++([(((p.getD (Ty.zero mO)).1.2.2.2.1).getD j.toNat 0)]:QK)),((bitsOf .and .u32 (Int.fdiv ((p.getD (Ty.zero mO)).1.2.2.1) (2 ^ (min j.toNat u32.bits))) (1:Int)) == 1),(i64.wrap (f+1))))else none)else none)else none)else none)else none)else none)))))else none)
 else some (Sum.inr (v10,v11)))
def dc(q:Option Z5)(j x z:QK):uU→Option (uU⊕QK):=fun(p,f) =>
 (if(decide (f<(j.length:Int)))=true then(if q.isSome=true then(if 0≤f∧f<(x.length:Int)then(if 0≤(x.getD f.toNat 0)∧(x.getD f.toNat 0)<(((q.getD (Ty.zero mO)).2.1.2).length:Int)then(if q.isSome=true then(if 0≤(i64.wrap ((j.length:Int) - f))∧(i64.wrap ((j.length:Int) - f))<(z.length:Int)then(if 0≤(z.getD ((i64.wrap ((j.length:Int) - f)).toNat) 0)∧(z.getD ((i64.wrap ((j.length:Int) - f)).toNat) 0)<(((q.getD (Ty.zero mO)).2.2.2).length:Int)then(if 0≤f∧f<(j.length:Int)then(if f.toNat<j.length then(if 0≤(j.getD f.toNat 0)∧(j.getD f.toNat 0)<(p.length:Int)then(if(j.getD f.toNat 0).toNat<p.length then(((if((bitsOf .and .u32 (((q.getD (Ty.zero mO)).2.1.2).getD ((x.getD f.toNat 0).toNat) 0) (((q.getD (Ty.zero mO)).2.2.2).getD ((z.getD ((i64.wrap ((j.length:Int) - f)).toNat) 0).toNat) 0)) != 0)=true then(if 0≤f∧f<(j.length:Int)then(if f.toNat<j.length then(if q.isSome=true then((gx (bitsOf .and .u32 (((q.getD (Ty.zero mO)).2.1.2).getD ((x.getD f.toNat 0).toNat) 0) (((q.getD (Ty.zero mO)).2.2.2).getD ((z.getD ((i64.wrap ((j.length:Int) - f)).toNat) 0).toNat) 0))).bind fun u =>
 (if 0≤u∧u<(((q.getD (Ty.zero mO)).1.2.2.2.2).length:Int)then(if 0≤(j.getD f.toNat 0)∧(j.getD f.toNat 0)<((p.set ((j.getD f.toNat 0).toNat) 1).length:Int)then(if(j.getD f.toNat 0).toNat<(p.set ((j.getD f.toNat 0).toNat) 1).length then some (((p.set ((j.getD f.toNat 0).toNat) 1).set ((j.getD f.toNat 0).toNat) ((((q.getD (Ty.zero mO)).1.2.2.2.2).getD u.toNat (0,(Tree.node 0 0 []),(Tree.node 0 0 []))).1)))else none)else none)else none))else none)else none)else none)
 else some ((p.set ((j.getD f.toNat 0).toNat) 1)))).bind fun A=>some (Sum.inl (A,(i64.wrap (f+1)))))else none)else none)else none)else none)else none)else none)else none)else none)else none)else none)
 else some (Sum.inr p))
def eG(j:Option Z5)(f:QK):Option QK :=
 (if 0≤(i64.wrap ((f.length:Int)+1))∧(i64.wrap ((f.length:Int)+1))≤(i64.wrap ((f.length:Int)+1))∧1*(i64.wrap ((f.length:Int)+1))≤281474976710656∧(i64.wrap ((f.length:Int)+1))≤9223372036854775807 then(if 0≤(f.length:Int)∧(f.length:Int)<((List.replicate (i64.wrap ((f.length:Int)+1)).toNat (0:Int)).length:Int)then(if(f.length:Int).toNat<(List.replicate (i64.wrap ((f.length:Int)+1)).toNat (0:Int)).length then(if j.isNone=true then some ((List.replicate (i64.wrap ((f.length:Int)+1)).toNat (0:Int)).set ((f.length:Int).toNat) 2)
 else((iter (db j f) (([]:QK),([]:QK),false,0)).bind fun(q,p)=>(if j.isSome=true then((ni ((j.getD (Ty.zero mO)).2.1.1) ((j.getD (Ty.zero mO)).2.1.2) p).bind fun v =>
 ((cg p).bind fun x =>
 (if j.isSome=true then((ni ((j.getD (Ty.zero mO)).2.2.1) ((j.getD (Ty.zero mO)).2.2.2) x).bind fun z =>
 ((iter (dc j q v z) (((List.replicate (i64.wrap ((f.length:Int)+1)).toNat (0:Int)).set ((f.length:Int).toNat) 2),1)).bind fun u=>some u))else none)))else none)))else none)else none)else none)
theorem lE(f z:Bool){B:Option Z5}{j M:QK}(h:eG B j=some M):
  Pure Tryz.prog 30 [.p f (.ptr mO) B,.p z (.slice (.int .i64)) j] (aL (bd false [⟨(.slice (.int .u8)),M⟩])):=by
 refine PB Tryz.func30 (fun Bw w0=>?_);unfold eG at h;refine G (GC 3 h (fun h=>?_));obtain⟨c5,c6,h⟩:=g2 h;refine GN a0 [(3,3,oc c5),(4,4,oc c6)] (ag (GN a0 [(1,1,⟨∃e,Tryz.prog.underlying 91=some (.pointer e),⟨_,rfl⟩⟩)] (aC h (fun B1 h=>?_) (fun B1 h=>?_))))
 ·refine G (av (aj ?_));obtain rfl:=sI h;exact RI [(.slice (.int .u8))]
 refine ae (ab (G (G (ag (G (ak (cz h (fun(v10,v11,A,q)=>az [(0,.p f (.ptr mO) B),(5,.sl 0),(6,.sl 1),(7,.sl 2),(8,.bo A),(26,.p z (.slice (.int .i64)) j),(27,.i64 (j.length:Int)),(28,.i64 q)] (Hl ((List.replicate (i64.wrap ((j.length:Int)+1)).toNat (0:Int)).set ((j.length:Int).toNat) 2) v10 v11) 3) 0 (fun(C,N)=>az [(0,.p f (.ptr mO) B),(5,.sl 0),(6,.sl 1),(7,.sl 2)] (Hl ((List.replicate (i64.wrap ((j.length:Int)+1)).toNat (0:Int)).set ((j.length:Int).toNat) 2) C N) 3) (gg [.nilS 6 152 3 (.int .i64),.nilS 7 153 3 (.int .i64)] [32,152,153]) (fun y o h=>?_) (fun r1 h=>?_))))))))
 ·obtain⟨v10,v11,A,q⟩:=y;unfold db at h;refine G (ag (aC h (fun b1 h=>?_) (fun b1 h=>?_)))
  ·refine ae (ab (ag (ak (GC 1 h (fun h=>ag (ag (br h (fun E=>az [(0,.p f (.ptr mO) B),(5,.sl 0),(6,.sl 1),(7,.sl 2),(8,.bo A),(9,.i64 q),(10,.i64 (j.getD q.toNat 0)),(26,.p z (.slice (.int .i64)) j),(27,.i64 (j.length:Int)),(28,.i64 q),(44,.bo E)] (Hl ((List.replicate (i64.wrap ((j.length:Int)+1)).toNat (0:Int)).set ((j.length:Int).toNat) 2) v10 v11) 3) (fun E h=>?_) (fun E h=>?_))))))))
   ·rcases aN h with⟨x,h⟩ | ⟨x,h⟩
    ·exact bC ⟨[(2,true),(11,true)],[]⟩ [(3,11,oc x)] (eN h (gg [] [0,1,2]))
    obtain⟨b2,h⟩:=aD h;exact bC ⟨[(2,false),(11,false)],[]⟩ [(3,4,an x),(5,5,oc (And.intro x b2)),(6,10,an x),(11,11,oc x)] (eN h (gg [] [0,1,2]))
   refine ab (br h (fun D=>az [(0,.p f (.ptr mO) B),(5,.sl 0),(6,.sl 1),(7,.sl 2),(8,.bo A),(9,.i64 q),(10,.i64 D),(26,.p z (.slice (.int .i64)) j),(27,.i64 (j.length:Int)),(28,.i64 q)] (Hl ((List.replicate (i64.wrap ((j.length:Int)+1)).toNat (0:Int)).set ((j.length:Int).toNat) 2) v10 v11) 3) (fun D h=>?_) (fun D h=>?_))
   ·refine aC h (fun b3 h=>?_) (fun b3 h=>?_)
    ·exact Ge (eN h (gg [] [0,1,2]))
    exact ae (eN h (gg [] [0,1,2]))
   refine ab (ag (ag (br h (fun I=>az [(0,.p f (.ptr mO) B),(5,.sl 0),(6,.sl 1),(7,.sl 2),(8,.bo A),(9,.i64 q),(10,.i64 D),(26,.p z (.slice (.int .i64)) j),(27,.i64 (j.length:Int)),(28,.i64 q),(56,.bo I)] (Hl ((List.replicate (i64.wrap ((j.length:Int)+1)).toNat (0:Int)).set ((j.length:Int).toNat) 2) v10 v11) 3) (fun I h=>?_) (fun I h=>?_))))
   ·rcases aN h with⟨u,h⟩ | ⟨u,h⟩
    ·obtain⟨b4,b5,h⟩:=g2 h;exact bC ⟨[(1,true),(11,true)],[]⟩ [(2,2,an u),(3,3,oc (And.intro u b4)),(4,7,an u),(8,8,oc (And.intro u b5)),(9,10,an u),(11,11,oc u)] (eN h (gg [] [0,1,2]))
    exact bC ⟨[(1,false),(11,false)],[]⟩ [(2,11,oc u)] (eN h (gg [] [0,1,2]))
   refine ab (aC h (fun b6 h=>?_) (fun b6 h=>?_))
   ·refine au (aQ (aw (ab (Ge ?_))));exact eB h (gg [] [0,1,2])
   refine ae (ab ?_);obtain⟨b7,b8,h⟩:=g2 h;refine GN a0 [(1,1,oc b7),(6,6,oc b8)] ?_;obtain⟨b9,be,bi,bs,h⟩:=g4 h;refine nj a0 [(3,3,oc b9),(6,6,oc be),(11,11,oc bi),(14,14,oc bs)] (ay (ab (Ge ?_)));exact eB h (gg [] [0,107,195])
  refine au (aQ ?_);exact eX h (gg [] [0,1,2])
 obtain⟨C,N⟩:=r1;refine aw (ab ?_);obtain⟨bv,h⟩:=aD h;obtain⟨r3,q2,h⟩:=ai h;have v:=(ux f f true q2);refine GN ⟨[],[(5,(oP v))]⟩ [(1,1,oc bv),(5,5,oc v)] ?_;obtain⟨r5,q4,h⟩:=ai h;refine GO 1 [2] (ku q4) ?_;obtain⟨bx,h⟩:=aD h;obtain⟨r7,q6,h⟩:=ai h;have v:=(ux f f true q6);refine GN ⟨[],[(5,(oP v))]⟩ [(1,1,oc bx),(5,5,oc v)] (ag (G (ak (cz h (fun(O,J)=>az [(0,.p f (.ptr mO) B),(5,.sl 0),(6,.sl 1),(11,.p false (.slice (.int .i64)) r3),(12,.p false (.slice (.int .i64)) r7),(13,.i64 J)] [(0,.arr 60 (.int .u8) O),(1,.arr 3 (.int .i64) C)] 2) 2 (fun V=>az [(5,.sl 0)] [(0,.arr 60 (.int .u8) V)] 1) (gg [] [0,1]) (fun y o h=>?_) (fun V h=>?_)))))
 ·obtain⟨O,J⟩:=y;unfold dc at h;refine ag (G (aC h (fun c1 h=>?_) (fun c1 h=>?_)))
  ·refine ae (ab (ag (ak ?_)));obtain⟨X,Y,Z,a1,h⟩:=g4 h;obtain⟨a2,a3,h⟩:=g2 h;refine GD a0 [(1,1,oc X),(7,7,oc Y),(9,9,oc Z),(12,12,oc a1),(21,21,oc a2),(23,23,oc a3)] ?_;obtain⟨a4,a5,a6,a7,h⟩:=g4 h;refine GN a0 [(3,3,oc a4),(4,4,oc a5),(5,5,oc a6),(6,6,oc a7)] (G (br h (fun L=>az [(0,.p f (.ptr mO) B),(5,.sl 0),(6,.sl 1),(11,.p false (.slice (.int .i64)) r3),(12,.p false (.slice (.int .i64)) r7),(13,.i64 J)] [(0,.arr 60 (.int .u8) L),(1,.arr 3 (.int .i64) C)] 2) (fun L h=>?_) (fun L h=>?_)))
   ·refine aC h (fun c2 h=>?_) (fun c2 h=>?_)
    ·obtain⟨a8,a9,aa,h⟩:=g3 h;obtain⟨c4,c3,h⟩:=ai h;obtain⟨ac,ad,ax,h⟩:=g3 h;have v:=(mV c3);exact nj ⟨[],[(11,(oP v))]⟩ [(3,3,oc a8),(4,4,oc a9),(6,6,oc aa),(11,11,oc v),(12,12,oc ac),(15,15,oc ad),(16,16,oc ax)] (eN h (gg [] [0,1]))
    exact ae (eN h (gg [] [0,1]))
   refine ay (ab (Ge ?_));exact eB h (gg [] [0,1])
  refine au (aQ ?_);exact eX h (gg [] [0])
 refine aw (ab (G (av ?_)));obtain rfl:=sI h;exact RI [(.slice (.int .u8))]
def eg(f:Int)(j:Option Z3)(p:Int):Option (Bool) :=
 (if j.isSome=true then(if 0≤f∧f<(((j.getD (Ty.zero nk)).1).length:Int)then some (decide (((((j.getD (Ty.zero nk)).1).getD f.toNat (0,0,0)).2.1)≥p))else none)else none)
theorem mJ(j:Bool){q:Int}{u:Option Z3}{v:Int}{f:Bool}(h:eg q u v=some f):
  Pure Tryz.prog 75 [.i64 q,.fad true [.p j (.ptr nk) u] 0,.fad true [.i32 v] 0] (aL (bd false [⟨.bool,f⟩])):=by
 refine PB Tryz.func75 (fun Bw w0=>?_);unfold eg at h;refine G ?_;obtain⟨x,z,h⟩:=g2 h;refine GD a0 [(1,1,oc x),(5,5,oc z)] (av ?_);obtain rfl:=sI h;exact RI [.bool]
def oM(p:Option Z3)(q:Int):(Int×Int)→Option ((Int×Int)⊕(Int)):=fun(f,j) =>
 (if(decide (f<j))=true then(if 0≤(1:Int)then((eg (i64.wrap (Int.fdiv (u64.wrap (i64.wrap (f+j))) (2 ^ (min (1:Int).toNat u64.bits)))) p q).bind fun u =>
 (if(!u)=true then some (Sum.inl ((i64.wrap ((i64.wrap (Int.fdiv (u64.wrap (i64.wrap (f+j))) (2 ^ (min (1:Int).toNat u64.bits))))+1)),j))
 else some (Sum.inl (f,(i64.wrap (Int.fdiv (u64.wrap (i64.wrap (f+j))) (2 ^ (min (1:Int).toNat u64.bits))))))))else none)
 else some (Sum.inr f))
def oS(f:Int)(j:Option Z3)(p:Int):Option (Int) :=
 ((iter (oM j p) (0,f)).bind fun q=>some q)
theorem u5(f:Bool){v:Int}{q:Option Z3}{u j:Int}(h:oS v q u=some j):
  Pure Tryz.prog 74 [.i64 v,.fn 75 [.fad true [.p f (.ptr nk) q] 0,.fad true [.i32 u] 0]] (aL (bd false [⟨(.int .i64),j⟩])):=by
 refine PB Tryz.func74 (fun Bw w0=>?_);unfold oS at h;refine G (G (ag (ak (cz h (fun(x,z)=>az [(1,.fn 75 [.fad true [.p f (.ptr nk) q] 0,.fad true [.i32 u] 0]),(5,.i64 x),(6,.i64 z)] [] 0) 0 (fun A=>az [(5,.i64 A)] [] 0) (gg [] []) (fun y o h=>?_) (fun A h=>?_)))))
 ·obtain⟨x,z⟩:=y;unfold oM at h;refine ag (G (aC h (fun B h=>?_) (fun B h=>?_)))
  ·refine ae (ab (ak (GC 4 h (fun h=>?_))));obtain⟨E,C,h⟩:=ai h;refine GP 2 (mJ f C) (aC h (fun D h=>?_) (fun D h=>?_))
   ·refine Ge (ay ?_);exact eB h (gg [] [])
   refine Ge (ay ?_);exact eB h (gg [] [])
  refine au (aQ ?_);exact eX h (gg [] [])
 refine aw (ab (G (av ?_)));obtain rfl:=sI h;exact RI [(.int .i64)]
def dI(h1:Option Z3)(j:Int):Option (Int×Bool) :=
 (if h1.isNone=true then some (0,false)
 else(if h1.isSome=true then((oS (((h1.getD (Ty.zero nk)).1).length:Int) h1 j).bind fun f =>
 (((if h1.isSome=true then(if(f == (((h1.getD (Ty.zero nk)).1).length:Int))=true then some (true)
 else(if h1.isSome=true then(if 0≤f∧f<(((h1.getD (Ty.zero nk)).1).length:Int)then some ((decide (((((h1.getD (Ty.zero nk)).1).getD f.toNat (0,0,0)).1) > j)))else none)else none))else none)).bind fun v1=>(if v1=true then some (0,false)
 else(if h1.isSome=true then(if 0≤f∧f<(((h1.getD (Ty.zero nk)).1).length:Int)then(if h1.isSome=true then(if 0≤f∧f<(((h1.getD (Ty.zero nk)).1).length:Int)then some ((i32.wrap ((i32.wrap ((i32.wrap ((((h1.getD (Ty.zero nk)).1).getD f.toNat (0,0,0)).2.2))+j)) - ((((h1.getD (Ty.zero nk)).1).getD f.toNat (0,0,0)).1))),true)else none)else none)else none)else none))))else none))
theorem nq(j:Bool){h1:Option Z3}{v:Int}{q:Int×Bool}(h:dI h1 v=some q):
  Pure Tryz.prog 53 [.p j (.ptr nk) h1,.i32 v] (aL (bd false [⟨(.int .i32),q.1⟩,⟨.bool,q.2⟩])):=by
 refine PB Tryz.func53 (fun Bw w0=>?_);unfold dI at h;refine G (ag (GN a0 [(1,1,⟨∃e,Tryz.prog.underlying 93=some (.pointer e),⟨_,rfl⟩⟩)] (aC h (fun I h=>?_) (fun I h=>?_))))
 ·refine G (av (aj ?_));obtain rfl:=sI h;exact RI [(.int .i32),.bool]
 refine ae (ab ?_);obtain⟨J,h⟩:=aD h;obtain⟨L,M,h⟩:=ai h;have u:=(u5 j M);refine GN ⟨[],[(6,(oP u))]⟩ [(1,1,oc J),(6,6,oc u)] (ag (ag (br h (fun v1=>az [(2,.adr 0 0 1 0),(3,.adr 1 0 1 0),(6,.i64 L),(34,.bo v1)] [(0,.box [.p j (.ptr nk) h1]),(1,.box [.i32 v])] 2) (fun v1 h=>?_) (fun v1 h=>?_))))
 ·obtain⟨E,h⟩:=aD h;rcases aN h with⟨f,h⟩ | ⟨f,h⟩
  ·exact nj ⟨[(7,true),(18,true)],[]⟩ [(2,2,oc E),(8,18,oc f)] (eN h (gg [] [0,8]))
  obtain⟨x,z,h⟩:=g2 h;exact nj ⟨[(7,false),(18,false)],[]⟩ [(2,2,oc E),(8,8,an f),(9,9,oc (And.intro f x)),(10,12,an f),(13,13,oc (And.intro f z)),(14,17,an f),(18,18,oc f)] (eN h (gg [] [0,8]))
 refine ab (aC h (fun N h=>?_) (fun N h=>?_))
 ·refine G (av (aj ?_));obtain rfl:=sI h;exact RI [(.int .i32),.bool]
 refine ae (ab ?_);obtain⟨A,B,C,D,h⟩:=g4 h;refine GD a0 [(1,1,oc A),(5,5,oc B),(12,12,oc C),(16,16,oc D)] (av ?_);obtain rfl:=sI h;exact RI [(.int .i32),.bool]
def kD(x:Option HY)(p q:Int):uU→Option (uU⊕QK):=fun(j,f) =>
 (if(decide (f<(((((x.getD (Ty.zero tn)).1).getD q.toNat ([],([]:QK))).2).length:Int)))=true then(if 0≤f∧f<(((((x.getD (Ty.zero tn)).1).getD q.toNat ([],([]:QK))).2).length:Int)then(((if(decide ((i64.wrap ((i64.wrap (p+f)) - 1))≥0))=true then some ((decide ((i64.wrap ((i64.wrap (p+f)) - 1))<(j.length:Int))))
 else some (false))).bind fun u=>(((if u=true then(if 0≤(i64.wrap ((i64.wrap (p+f)) - 1))∧(i64.wrap ((i64.wrap (p+f)) - 1))<(j.length:Int)then(if(i64.wrap ((i64.wrap (p+f)) - 1)).toNat<j.length then(if 0≤(i64.wrap ((i64.wrap (p+f)) - 1))∧(i64.wrap ((i64.wrap (p+f)) - 1))<(j.length:Int)then(if(i64.wrap ((i64.wrap (p+f)) - 1)).toNat<j.length then some ((j.set ((i64.wrap ((i64.wrap (p+f)) - 1)).toNat) (max (j.getD ((i64.wrap ((i64.wrap (p+f)) - 1)).toNat) 0) (((((x.getD (Ty.zero tn)).1).getD q.toNat ([],([]:QK))).2).getD f.toNat 0))))else none)else none)else none)else none)
 else some (j))).bind fun v=>some (Sum.inl (v,(i64.wrap (f+1))))))else none)
 else some (Sum.inr j))
def kC(q:Option HY)(u:QK)(x:Int):(QK×Int×Int)→Option ((QK×Int×Int)⊕QK):=fun(v,f,j) =>
 (if q.isSome=true then(if 0≤f∧f<(((q.getD (Ty.zero tn)).1).length:Int)then((iter (kD q x f) (v,0)).bind fun p=>(if(j == (((([46]:QK)++u)++([46]:QK)).length:Int))=true then some (Sum.inr p)
 else(if q.isSome=true then(if 0≤f∧f<(((q.getD (Ty.zero tn)).1).length:Int)then(if 0≤j∧j<(((([46]:QK)++u)++([46]:QK)).length:Int)then(if j.toNat<((([46]:QK)++u)++([46]:QK)).length then(if(!((bg (α:=Int) (.int .i32) ((((q.getD (Ty.zero tn)).1).getD f.toNat ([],([]:QK))).1) (((([46]:QK)++u)++([46]:QK)).getD j.toNat 0)).isSome))=true then some (Sum.inr p)
 else some (Sum.inl (p,((bg (α:=Int) (.int .i32) ((((q.getD (Ty.zero tn)).1).getD f.toNat ([],([]:QK))).1) (((([46]:QK)++u)++([46]:QK)).getD j.toNat 0)).getD 0),(i64.wrap (j+1)))))else none)else none)else none)else none)))else none)else none)
def kA(u:Option HY)(q:QK):uU→Option (uU⊕QK):=fun(j,f) =>
 (if(decide (f<(((([46]:QK)++q)++([46]:QK)).length:Int)))=true then((iter (kC u q f) (j,0,f)).bind fun p=>some (Sum.inl (p,(i64.wrap (f+1)))))
 else some (Sum.inr j))
def fA(p:Option HY)(f:QK):Option QK :=
 (if 0≤(i64.wrap ((f.length:Int)+1))∧(i64.wrap ((f.length:Int)+1))≤(i64.wrap ((f.length:Int)+1))∧1*(i64.wrap ((f.length:Int)+1))≤281474976710656∧(i64.wrap ((f.length:Int)+1))≤9223372036854775807 then(if p.isNone=true then some (List.replicate (i64.wrap ((f.length:Int)+1)).toNat (0:Int))
 else(if(([46]:QK).length+f.length)*4≤140737488355328∧([46]:QK).length+f.length≤9223372036854775807 then(if((([46]:QK)++f).length+([46]:QK).length)*4≤140737488355328∧(([46]:QK)++f).length+([46]:QK).length≤9223372036854775807 then((iter (kA p f) ((List.replicate (i64.wrap ((f.length:Int)+1)).toNat (0:Int)),0)).bind fun j=>some j)else none)else none))else none)
theorem pW(q ac:Bool){x:Option HY}{z L:QK}(h:fA x z=some L):
  Pure Tryz.prog 76 [.p q (.ptr tn) x,.p ac (.slice (.int .i32)) z] (aL (bd false [⟨(.slice (.int .u8)),L⟩])):=by
 refine PB Tryz.func76 (fun Bw w0=>?_);unfold fA at h;refine G (GC 3 h (fun h=>ag (GN a0 [(1,1,⟨∃e,Tryz.prog.underlying 177=some (.pointer e),⟨_,rfl⟩⟩)] (aC h (fun B1 h=>?_) (fun B1 h=>?_)))))
 ·refine G (av (aj ?_));obtain rfl:=sI h;exact RI [(.slice (.int .u8))]
 refine ae (ab ?_);obtain⟨c5,c6,h⟩:=g2 h;refine GN a0 [(2,2,oc c5),(4,4,oc c6)] (ag (G (ak (cz h (fun(M,j)=>az [(0,.p q (.ptr tn) x),(5,.sl 0),(6,.sl 1),(28,.i64 (((([46]:QK)++z)++([46]:QK)).length:Int)),(29,.i64 j)] [(0,.arr 5 (.int .u8) M),(1,.arr 21 (.int .i32) ((([46]:QK)++z)++([46]:QK)))] 2) 0 (fun N=>az [(5,.sl 0)] [(0,.arr 5 (.int .u8) N)] 1) (gg [] [32,96]) (fun y o h=>?_) (fun N h=>?_)))))
 ·obtain⟨M,j⟩:=y;unfold kA at h;refine G (ag (aC h (fun O h=>?_) (fun O h=>?_)))
  ·refine ae (ab (ag (ak (G (G (G (ak (cz h (fun(E,f,u)=>az [(0,.p q (.ptr tn) x),(5,.sl 0),(6,.sl 1),(7,.i64 j),(8,.i64 f),(9,.i64 u),(28,.i64 (((([46]:QK)++z)++([46]:QK)).length:Int)),(29,.i64 j)] [(0,.arr 5 (.int .u8) E),(1,.arr 21 (.int .i32) ((([46]:QK)++z)++([46]:QK)))] 2) 2 (fun I=>az [(0,.p q (.ptr tn) x),(5,.sl 0),(6,.sl 1),(28,.i64 (((([46]:QK)++z)++([46]:QK)).length:Int)),(29,.i64 j)] [(0,.arr 5 (.int .u8) I),(1,.arr 21 (.int .i32) ((([46]:QK)++z)++([46]:QK)))] 2) (gg [] [0,1]) (fun y o h=>?_) (fun I h=>?_)))))))))
   ·obtain⟨E,f,u⟩:=y;unfold kC at h;refine ag (ak (ag ?_));obtain⟨V,X,h⟩:=g2 h;refine GN a0 [(1,1,oc V),(5,5,oc X)] (ak ?_);refine cz h (fun(B,v)=>az [(0,.p q (.ptr tn) x),(5,.sl 0),(6,.sl 1),(7,.i64 j),(8,.i64 f),(9,.i64 u),(28,.i64 (((([46]:QK)++z)++([46]:QK)).length:Int)),(29,.i64 j),(42,.p q (.slice (.int .u8)) ((((x.getD (Ty.zero tn)).1).getD f.toNat ([],([]:QK))).2)),(43,.i64 (((((x.getD (Ty.zero tn)).1).getD f.toNat ([],([]:QK))).2).length:Int)),(44,.i64 v)] [(0,.arr 5 (.int .u8) B),(1,.arr 21 (.int .i32) ((([46]:QK)++z)++([46]:QK)))] 2) 4 (fun J=>az [(0,.p q (.ptr tn) x),(5,.sl 0),(6,.sl 1),(7,.i64 j),(8,.i64 f),(9,.i64 u),(28,.i64 (((([46]:QK)++z)++([46]:QK)).length:Int)),(29,.i64 j)] [(0,.arr 5 (.int .u8) J),(1,.arr 21 (.int .i32) ((([46]:QK)++z)++([46]:QK)))] 2) (gg [] [0,1]) (fun y o h=>?_) (fun J h=>?_)
    ·obtain⟨B,v⟩:=y;unfold kD at h;refine G (ag (aC h (fun Y h=>?_) (fun Y h=>?_)))
     ·refine ae (ab (ag (ak (GC 1 h (fun h=>G (ag ?_))))));refine br h (fun C=>az [(0,.p q (.ptr tn) x),(5,.sl 0),(6,.sl 1),(7,.i64 j),(8,.i64 f),(9,.i64 u),(11,.u8 (((((x.getD (Ty.zero tn)).1).getD f.toNat ([],([]:QK))).2).getD v.toNat 0)),(12,.i64 (i64.wrap ((i64.wrap (j+v)) - 1))),(28,.i64 (((([46]:QK)++z)++([46]:QK)).length:Int)),(29,.i64 j),(42,.p q (.slice (.int .u8)) ((((x.getD (Ty.zero tn)).1).getD f.toNat ([],([]:QK))).2)),(43,.i64 (((((x.getD (Ty.zero tn)).1).getD f.toNat ([],([]:QK))).2).length:Int)),(44,.i64 v),(60,.bo C)] [(0,.arr 5 (.int .u8) B),(1,.arr 21 (.int .i32) ((([46]:QK)++z)++([46]:QK)))] 2) (fun C h=>?_) (fun C h=>?_)
      ·rcases aN h with⟨A,h⟩ | ⟨A,h⟩
       ·exact bC ⟨[(2,true),(7,true)],[]⟩ [(3,6,an A),(7,7,oc A)] (eN h (gg [] [0,1]))
       exact bC ⟨[(2,false),(7,false)],[]⟩ [(3,7,oc A)] (eN h (gg [] [0,1]))
      refine ab (br h (fun D=>az [(0,.p q (.ptr tn) x),(5,.sl 0),(6,.sl 1),(7,.i64 j),(8,.i64 f),(9,.i64 u),(28,.i64 (((([46]:QK)++z)++([46]:QK)).length:Int)),(29,.i64 j),(42,.p q (.slice (.int .u8)) ((((x.getD (Ty.zero tn)).1).getD f.toNat ([],([]:QK))).2)),(43,.i64 (((((x.getD (Ty.zero tn)).1).getD f.toNat ([],([]:QK))).2).length:Int)),(44,.i64 v)] [(0,.arr 5 (.int .u8) D),(1,.arr 21 (.int .i32) ((([46]:QK)++z)++([46]:QK)))] 2) (fun D h=>?_) (fun D h=>?_))
      ·refine aC h (fun Z h=>?_) (fun Z h=>?_)
       ·obtain⟨a1,a2,a3,a4,h⟩:=g4 h;exact bC a0 [(4,4,oc a1),(5,5,oc a2),(8,8,oc a3),(9,9,oc a4)] (eN h (gg [] [0,1]))
       exact ae (eN h (gg [] [0,1]))
      refine ay (ab (Ge ?_));exact eB h (gg [] [0,1])
     refine au (aQ ?_);exact eX h (gg [] [0,1])
    refine aw (ab (ag (G (aC h (fun a5 h=>?_) (fun a5 h=>?_)))))
    ·refine au (aQ (jA rfl (aQ ?_)));exact eX h (gg [] [0,1])
    refine ae (ab ?_);obtain⟨a6,a7,a8,a9,h⟩:=g4 h;refine GD a0 [(1,1,oc a6),(5,5,oc a7),(10,10,oc a8),(11,11,oc a9)] (ag (G (aC h (fun aa h=>?_) (fun aa h=>?_))))
    ·refine au (aQ (jA rfl (aQ ?_)));exact eX h (gg [] [0,1])
    refine ae (ab (Ge (ay (ab (Ge ?_)))));exact eB h (gg [] [0,1])
   refine aw (ay (ab (Ge ?_)));exact eB h (gg [] [0,1])
  refine au (aQ ?_);exact eX h (gg [] [0])
 refine aw (ab (G (av ?_)));obtain rfl:=sI h;exact RI [(.slice (.int .u8))]
def gY(f q j:QK):Option (Bool) :=
 ((cu f j).bind fun p =>
 some p)
theorem nD(f u j:Bool){v x z:QK}{q:Bool}(h:gY v x z=some q):
  Pure Tryz.prog 78 [.agg [.p f (.slice (.int .i32)) v,.p u (.slice (.int .u8)) x],.fad true [.p j (.slice (.int .i32)) z] 0] (aL (bd false [⟨.bool,q⟩])):=by
 refine PB Tryz.func78 (fun Bw w0=>?_);unfold gY at h;refine G ?_;obtain⟨B,A,h⟩:=ai h;refine GP 3 (gr f j A) (av ?_);obtain rfl:=sI h;exact RI [.bool]
def l4(j:List Z8)(p:QK):(Int)→Option ((Int)⊕((Unit)⊕(Int))):=fun f =>
 (if(decide (f<(j.length:Int)))=true then(if 0≤f∧f<(j.length:Int)then((gY ((j.getD f.toNat ([],([]:QK))).1) ((j.getD f.toNat ([],([]:QK))).2) p).bind fun q =>
 (if q=true then some (Sum.inr (Sum.inr f))
 else some (Sum.inl (i64.wrap (f+1)))))else none)
 else some (Sum.inr (Sum.inl ())))
def iZ(f:List Z8)(j:QK):Option (Int) :=
 ((iter (l4 f j) (0:Int)).bind fun(p:((Unit)⊕(Int)))=>match p with
 | .inl _=>some (-1:Int)
 | .inr (q)=>some q)
theorem rR(f j:Bool){v:List Z8}{x:QK}{q:Int}(h:iZ v x=some q):
  Pure Tryz.prog 77 [.p f (.slice qU) v,.fn 78 [.fad true [.p j (.slice (.int .i32)) x] 0]] (aL (bd false [⟨(.int .i64),q⟩])):=by
 refine PB Tryz.func77 (fun Bw w0=>?_);unfold iZ at h;refine G (ag (G (ak (kS h (fun A=>az [(0,.p f (.slice qU) v),(1,.fn 78 [.fad true [.p j (.slice (.int .i32)) x] 0]),(7,.i64 (v.length:Int)),(8,.i64 A)] [] 0) (dz (fD Tryz.f77.ntmps 0 (fun _=>az [] [] 0)) (gB tb Tryz.f77.results.toList (fun B=>[⟨(.int .i64),B⟩]))) (gg [] []) (fun A o h=>?_) (fun D h e σ' C=>?_)))))
 ·unfold l4 at h;refine G (ag (aC h (fun E h=>?_) (fun E h=>?_)))
  ·refine ae (ab (ag (ak (G ?_))));obtain⟨I,h⟩:=aD h;obtain⟨N,J,h⟩:=ai h;have u:=(nD f f j J);refine GN ⟨[],[(5,(oP u))]⟩ [(3,3,oc I),(5,5,oc u)] (aC h (fun L h=>?_) (fun L h=>?_))
   ·refine G (av ?_);obtain rfl:=sI h;refine aA (aj (bM (aM ?_)));exact bL (RI [(.int .i64)])
   refine ae (ay (ab (Ge ?_)));exact eB h (gg [] [])
  refine au (aQ ?_);obtain rfl:=sI h;refine dL (bk ?_);exact bT (gg [] [])
 rcases D with _ | B
 ·obtain⟨rfl,z⟩:=C;refine cH ?_ z;refine aw (ab (G (av ?_)));obtain rfl:=sI h;exact RI [(.int .i64)]
 obtain⟨rfl,M⟩:=C;refine aA (aj ?_);obtain rfl:=sI h;exact M
def gC(h1:Option Z3)(q f:QK):((List Bool)×Int)→Option (((List Bool)×Int)⊕(List Bool)):=fun(j,p) =>
 (if h1.isSome=true then(if(decide (p≤(i64.wrap ((q.length:Int) - ((h1.getD (Ty.zero nk)).2.2.2.2)))))=true then(if 0≤p∧p<(f.length:Int)then(if ¬(2:Int)=0 then(if 0≤p∧p<(j.length:Int)then(if p.toNat<j.length then some (Sum.inl ((j.set p.toNat ((Int.tmod (f.getD p.toNat 0) (2:Int)) == 1)),(i64.wrap (p+1))))else none)else none)else none)else none)
 else some (Sum.inr j))else none)
def eM(h1:Option Z3)(f:QK):Option (List Bool) :=
 (if 0≤(i64.wrap ((f.length:Int)+1))∧(i64.wrap ((f.length:Int)+1))≤(i64.wrap ((f.length:Int)+1))∧1*(i64.wrap ((f.length:Int)+1))≤281474976710656∧(i64.wrap ((f.length:Int)+1))≤9223372036854775807 then(if h1.isNone=true then some (List.replicate (i64.wrap ((f.length:Int)+1)).toNat false)
 else(if h1.isSome=true then((fA ((h1.getD (Ty.zero nk)).2.1) f).bind fun u =>
 (if h1.isSome=true then((iZ ((h1.getD (Ty.zero nk)).2.2.1) f).bind fun q =>
 (((if(decide (q≥0))=true then(if h1.isSome=true then(if 0≤q∧q<(((h1.getD (Ty.zero nk)).2.2.1).length:Int)then some ((((h1.getD (Ty.zero nk)).2.2.1).getD q.toNat ([],([]:QK))).2)else none)else none)
 else some (u))).bind fun j=>(if h1.isSome=true then((iter (gC h1 f j) ((List.replicate (i64.wrap ((f.length:Int)+1)).toNat false),(h1.getD (Ty.zero nk)).2.2.2.1)).bind fun p=>some p)else none)))else none))else none))else none)
theorem oK(q:Bool){h1:Option Z3}{j:QK}{z:List Bool}(h:eM h1 j=some z):
  Pure Tryz.prog 54 [.p false (.ptr nk) h1,.p q (.slice (.int .i32)) j] (aL (bd false [⟨(.slice .bool),z⟩])):=by
 refine PB Tryz.func54 (fun Bw w0=>?_);unfold eM at h;refine G (GC 3 h (fun h=>ag (GN a0 [(1,1,⟨∃e,Tryz.prog.underlying 93=some (.pointer e),⟨_,rfl⟩⟩)] (aC h (fun M h=>?_) (fun M h=>?_)))))
 ·refine G (av (aj ?_));obtain rfl:=sI h;exact RI [(.slice .bool)]
 refine ae (ab ?_);obtain⟨N,h⟩:=aD h;obtain⟨r2,O,h⟩:=ai h;have u:=(pW false q O);refine GD ⟨[],[(5,(oP u))]⟩ [(1,1,oc N),(5,5,oc u)] (ag ?_);obtain⟨V,h⟩:=aD h;obtain⟨r4,X,h⟩:=ai h;have u:=(rR false q X);refine GN ⟨[],[(5,(oP u))]⟩ [(1,1,oc V),(5,5,oc u)] (G (br h (fun f=>az [(0,.p false (.ptr nk) h1),(3,.adr 0 0 1 0),(5,.sl 1),(6,.p false (.slice (.int .u8)) f)] (L2 q j (List.replicate (i64.wrap ((j.length:Int)+1)).toNat false)) 2) (fun f h=>?_) (fun f h=>?_)))
 ·refine aC h (fun Y h=>?_) (fun Y h=>?_)
  ·obtain⟨A,B,h⟩:=g2 h;exact bC a0 [(1,1,oc A),(5,5,oc B)] (eN h (gg [] [0,40]))
  exact ae (eN h (gg [] [0,40]))
 refine ab (ag (GC 1 h (fun h=>ak (cz h (fun(v,L)=>az [(0,.p false (.ptr nk) h1),(3,.adr 0 0 1 0),(5,.sl 1),(6,.p false (.slice (.int .u8)) f),(8,.i64 L)] (L2 q j v) 2) 0 (fun x=>az [(5,.sl 0)] [(0,.arr 4 .bool x)] 1) (gg [] [0,1]) (fun y o h=>?_) (fun x h=>?_)))))
 ·obtain⟨v,L⟩:=y;unfold gC at h;refine ag ?_;obtain⟨C,h⟩:=aD h;refine GD a0 [(4,4,oc C)] (aC h (fun Z h=>?_) (fun Z h=>?_))
  ·refine ae (ab (ag (ak ?_)));obtain⟨D,E,I,J,h⟩:=g4 h;refine bC a0 [(4,4,oc D),(6,6,oc E),(8,8,oc I),(9,9,oc J)] (ay (ab (Ge ?_)));exact eB h (gg [] [0,1])
  refine au (aQ ?_);exact eX h (gg [] [1])
 refine aw (ab (G (av ?_)));obtain rfl:=sI h;exact RI [(.slice .bool)]
def iU(h1:Option Z3)(q:XK):(Int×QK)→Option ((Int×QK)⊕(Int×QK)):=fun(j,f) =>
 (if(decide (j<(q.length:Int)))=true then(if 0≤j∧j<(q.length:Int)then((dI h1 ((q.getD j.toNat (0,0,0)).1)).bind fun(p,u) =>
 (if(!u)=true then some (Sum.inr (j,f))
 else(if(f.length+([p]:QK).length)*4≤140737488355328∧f.length+([p]:QK).length≤9223372036854775807 then some (Sum.inl ((i64.wrap (j+1)),(f++([p]:QK))))else none)))else none)
 else some (Sum.inr (j,f)))
def jh(h1:Option Z3)(u:XK):((List Bool)×Int)→Option (((List Bool)×Int)⊕(List Bool)):=fun(j,i8) =>
 (if(decide (i8<(u.length:Int)))=true then((iter (iU h1 u) (i8,([]:QK))).bind fun(q,f)=>(if 0≤i8∧i8≤(j.length:Int)then((eM h1 f).bind fun p =>
 (if 0≤(0:Int)∧0≤(f.length:Int)∧(f.length:Int)≤(p.length:Int)then some (Sum.inl ((j.take i8.toNat++(((p.take (f.length:Int).toNat).drop (0:Int).toNat).take (j.length - i8.toNat)++j.drop (i8.toNat+((p.take (f.length:Int).toNat).drop (0:Int).toNat).length))),(i64.wrap (q+1))))else none))else none))
 else some (Sum.inr j))
def dF(h1:Option Z3)(f:XK):Option (List Bool) :=
 (if 0≤(i64.wrap ((f.length:Int)+1))∧(i64.wrap ((f.length:Int)+1))≤(i64.wrap ((f.length:Int)+1))∧1*(i64.wrap ((f.length:Int)+1))≤281474976710656∧(i64.wrap ((f.length:Int)+1))≤9223372036854775807 then((iter (jh h1 f) ((List.replicate (i64.wrap ((f.length:Int)+1)).toNat false),0)).bind fun j=>some j)else none)
theorem nY(v:Bool){h1:Option Z3}{z:XK}{A:List Bool}(h:dF h1 z=some A):
  Pure Tryz.prog 32 [.p false (.ptr nk) h1,.p v (.slice (.prod (.int .i32) Y2)) z] (aL (bd false [⟨(.slice .bool),A⟩])):=by
 refine PB Tryz.func32 (fun Bw w0=>?_);unfold dF at h;refine G (GC 3 h (fun h=>G (ag (G (ak (cz h (fun(f,i8)=>az [(0,.p false (.ptr nk) h1),(1,.p v (.slice (.prod (.int .i32) Y2)) z),(5,.sl 0),(6,.bfn 53 [.p false (.ptr nk) h1]),(7,.i64 i8)] [(0,.arr 4 .bool f)] 1) 0 (fun x=>az [(5,.sl 0)] [(0,.arr 4 .bool x)] 1) (gg [] [32]) (fun y o h=>?_) (fun x h=>?_)))))))
 ·obtain⟨f,i8⟩:=y;unfold jh at h;refine ag (G (aC h (fun D h=>?_) (fun D h=>?_)))
  ·refine ae (ab (ag (ak (G (G (ag (ak (cz h (fun(B,j)=>az [(0,.p false (.ptr nk) h1),(1,.p v (.slice (.prod (.int .i32) Y2)) z),(5,.sl 0),(6,.bfn 53 [.p false (.ptr nk) h1]),(7,.i64 B),(8,.sl 1),(9,.i64 i8)] [(0,.arr 4 .bool f),(1,.arr 21 (.int .i32) j)] 2) 2 (fun(C,q)=>az [(0,.p false (.ptr nk) h1),(1,.p v (.slice (.prod (.int .i32) Y2)) z),(5,.sl 0),(6,.bfn 53 [.p false (.ptr nk) h1]),(7,.i64 C),(8,.sl 1),(9,.i64 i8)] [(0,.arr 4 .bool f),(1,.arr 21 (.int .i32) q)] 2) (gg [.nilS 8 57 21 (.int .i32)] [0,57]) (fun y o h=>?_) (fun E h=>?_)))))))))
   ·obtain⟨B,j⟩:=y;unfold iU at h;refine ag (G (aC h (fun I h=>?_) (fun I h=>?_)))
    ·refine ae (ab (ag (ak ?_)));obtain⟨J,h⟩:=aD h;obtain⟨⟨X,Y⟩,L,h⟩:=ai h;have u:=(nq false L);refine GN ⟨[],[(6,(oP u))]⟩ [(3,3,oc J),(6,6,oc u)] (ag (G (aC h (fun M h=>?_) (fun M h=>?_))))
     ·refine au (aQ (jA rfl (aQ ?_)));exact eX h (gg [] [0,1])
     refine ae (ab (Ak 3 h (fun h=>ay (ab (Ge ?_)))));exact eB h (gg [] [0,170])
    refine au (aQ ?_);exact eX h (gg [] [0,1])
   obtain⟨C,q⟩:=E;refine aw (ab ?_);obtain⟨N,h⟩:=aD h;obtain⟨Z,O,h⟩:=ai h;obtain⟨V,h⟩:=aD h;have u:=(oK true O);refine nj ⟨[],[(5,(oP u))]⟩ [(2,2,oc N),(5,5,oc u),(8,8,oc V)] (ay (ab (Ge ?_)));exact eB h (gg [] [0])
  refine au (aQ ?_);exact eX h (gg [] [0])
 refine aw (ab (G (av ?_)));obtain rfl:=sI h;exact RI [(.slice .bool)]
def lG(f:Int):Option (Int) :=
 (if(f == 32)=true then some 1
 else(if(f == 9)=true then some 2
 else some 0))
theorem xE{j f:Int}(h:lG j=some f):
  Pure Tryz.prog 73 [.i32 j] (aL (bd false [⟨(.int .u8),f⟩])):=by
 refine PB Tryz.func73 (fun Bw w0=>?_);unfold lG at h;refine G (ag (G (ak (G (aC h (fun p h=>?_) (fun p h=>?_))))))
 ·refine G (av (aA (aj ?_)));obtain rfl:=sI h;exact RI [(.int .u8)]
 refine G (aC h (fun q h=>?_) (fun q h=>?_))
 ·refine G (av (aA (aj ?_)));obtain rfl:=sI h;exact RI [(.int .u8)]
 refine ae (ay (ab (G (av ?_))));obtain rfl:=sI h;exact RI [(.int .u8)]
def dv(q:XK)(A:QK)(D:Option Ae):(Qj×QK×Int)→Option ((Qj×QK×Int)⊕(Qj×QK)):=fun(u,v,j) =>
 (if(decide (j<(q.length:Int)))=true then(if 0≤j∧j<(q.length:Int)then(((if(j == 0)=true then some (true)
 else(if(decide (j<(A.length:Int)))=true then(if 0≤j∧j<(A.length:Int)then some (((A.getD j.toNat 0) != 0))else none)
 else some (false)))).bind fun B=>(((if B=true then((lG ((q.getD j.toNat (0,0,0)).1)).bind fun z =>
 (if(u.length+([((q.getD j.toNat (0,0,0)).2.1,0,0,z)]:Qj).length)*32≤140737488355328∧u.length+([((q.getD j.toNat (0,0,0)).2.1,0,0,z)]:Qj).length≤9223372036854775807 then(if(v.length+([j]:QK).length)*8≤140737488355328∧v.length+([j]:QK).length≤9223372036854775807 then some (((u++([((q.getD j.toNat (0,0,0)).2.1,0,0,z)]:Qj)),(v++([j]:QK))))else none)else none))
 else some ((u,v)))).bind fun(f,p)=>(if 0≤(i64.wrap ((f.length:Int) - 1))∧(i64.wrap ((f.length:Int) - 1))<(f.length:Int)then(if 0≤(i64.wrap ((p.length:Int) - 1))∧(i64.wrap ((p.length:Int) - 1))<(p.length:Int)then(if(i64.wrap ((p.length:Int) - 1)).toNat<p.length then(((if((p.getD ((i64.wrap ((p.length:Int) - 1)).toNat) 0) != j)=true then(if(i64.wrap ((f.length:Int) - 1)).toNat<f.length then some ((f.set ((i64.wrap ((f.length:Int) - 1)).toNat) ((f.getD ((i64.wrap ((f.length:Int) - 1)).toNat) (0,0,0,0)).1,(f.getD ((i64.wrap ((f.length:Int) - 1)).toNat) (0,0,0,0)).2.1,(f.getD ((i64.wrap ((f.length:Int) - 1)).toNat) (0,0,0,0)).2.2.1,0)))else none)
 else some (f))).bind fun v20=>(if(i64.wrap ((f.length:Int) - 1)).toNat<v20.length then(if(i64.wrap ((f.length:Int) - 1)).toNat<v20.length then(if(i64.wrap ((f.length:Int) - 1)).toNat<(v20.set ((i64.wrap ((f.length:Int) - 1)).toNat) ((v20.getD ((i64.wrap ((f.length:Int) - 1)).toNat) (0,0,0,0)).1,(i64.wrap (((v20.getD ((i64.wrap ((f.length:Int) - 1)).toNat) (0,0,0,0)).2.1)+((q.getD j.toNat (0,0,0)).2.2))),(v20.getD ((i64.wrap ((f.length:Int) - 1)).toNat) (0,0,0,0)).2.2.1,(v20.getD ((i64.wrap ((f.length:Int) - 1)).toNat) (0,0,0,0)).2.2.2)).length then((bf D ((q.getD j.toNat (0,0,0)).1)).bind fun C =>
 (if(i64.wrap ((f.length:Int) - 1)).toNat<(v20.set ((i64.wrap ((f.length:Int) - 1)).toNat) ((v20.getD ((i64.wrap ((f.length:Int) - 1)).toNat) (0,0,0,0)).1,(i64.wrap (((v20.getD ((i64.wrap ((f.length:Int) - 1)).toNat) (0,0,0,0)).2.1)+((q.getD j.toNat (0,0,0)).2.2))),(v20.getD ((i64.wrap ((f.length:Int) - 1)).toNat) (0,0,0,0)).2.2.1,(v20.getD ((i64.wrap ((f.length:Int) - 1)).toNat) (0,0,0,0)).2.2.2)).length then some (Sum.inl (((v20.set ((i64.wrap ((f.length:Int) - 1)).toNat) ((v20.getD ((i64.wrap ((f.length:Int) - 1)).toNat) (0,0,0,0)).1,(i64.wrap (((v20.getD ((i64.wrap ((f.length:Int) - 1)).toNat) (0,0,0,0)).2.1)+((q.getD j.toNat (0,0,0)).2.2))),(v20.getD ((i64.wrap ((f.length:Int) - 1)).toNat) (0,0,0,0)).2.2.1,(v20.getD ((i64.wrap ((f.length:Int) - 1)).toNat) (0,0,0,0)).2.2.2)).set ((i64.wrap ((f.length:Int) - 1)).toNat) (((v20.set ((i64.wrap ((f.length:Int) - 1)).toNat) ((v20.getD ((i64.wrap ((f.length:Int) - 1)).toNat) (0,0,0,0)).1,(i64.wrap (((v20.getD ((i64.wrap ((f.length:Int) - 1)).toNat) (0,0,0,0)).2.1)+((q.getD j.toNat (0,0,0)).2.2))),(v20.getD ((i64.wrap ((f.length:Int) - 1)).toNat) (0,0,0,0)).2.2.1,(v20.getD ((i64.wrap ((f.length:Int) - 1)).toNat) (0,0,0,0)).2.2.2)).getD ((i64.wrap ((f.length:Int) - 1)).toNat) (0,0,0,0)).1,((v20.set ((i64.wrap ((f.length:Int) - 1)).toNat) ((v20.getD ((i64.wrap ((f.length:Int) - 1)).toNat) (0,0,0,0)).1,(i64.wrap (((v20.getD ((i64.wrap ((f.length:Int) - 1)).toNat) (0,0,0,0)).2.1)+((q.getD j.toNat (0,0,0)).2.2))),(v20.getD ((i64.wrap ((f.length:Int) - 1)).toNat) (0,0,0,0)).2.2.1,(v20.getD ((i64.wrap ((f.length:Int) - 1)).toNat) (0,0,0,0)).2.2.2)).getD ((i64.wrap ((f.length:Int) - 1)).toNat) (0,0,0,0)).2.1,(max (((v20.set ((i64.wrap ((f.length:Int) - 1)).toNat) ((v20.getD ((i64.wrap ((f.length:Int) - 1)).toNat) (0,0,0,0)).1,(i64.wrap (((v20.getD ((i64.wrap ((f.length:Int) - 1)).toNat) (0,0,0,0)).2.1)+((q.getD j.toNat (0,0,0)).2.2))),(v20.getD ((i64.wrap ((f.length:Int) - 1)).toNat) (0,0,0,0)).2.2.1,(v20.getD ((i64.wrap ((f.length:Int) - 1)).toNat) (0,0,0,0)).2.2.2)).getD ((i64.wrap ((f.length:Int) - 1)).toNat) (0,0,0,0)).2.2.1) (min C 2)),((v20.set ((i64.wrap ((f.length:Int) - 1)).toNat) ((v20.getD ((i64.wrap ((f.length:Int) - 1)).toNat) (0,0,0,0)).1,(i64.wrap (((v20.getD ((i64.wrap ((f.length:Int) - 1)).toNat) (0,0,0,0)).2.1)+((q.getD j.toNat (0,0,0)).2.2))),(v20.getD ((i64.wrap ((f.length:Int) - 1)).toNat) (0,0,0,0)).2.2.1,(v20.getD ((i64.wrap ((f.length:Int) - 1)).toNat) (0,0,0,0)).2.2.2)).getD ((i64.wrap ((f.length:Int) - 1)).toNat) (0,0,0,0)).2.2.2)),p,(i64.wrap (j+1))))else none))else none)else none)else none))else none)else none)else none)))else none)
 else some (Sum.inr (u,v)))
def lS(j:XK)(q:QK)(u:Option Ae):Option (Qj×QK) :=
 ((iter (dv j q u) (([]:Qj),([]:QK),0)).bind fun(p,f)=>(if(f.length+([(j.length:Int)]:QK).length)*8≤140737488355328∧f.length+([(j.length:Int)]:QK).length≤9223372036854775807 then some (p,(f++([(j.length:Int)]:QK)))else none))
theorem xP(q z x:Bool){j:XK}{L:QK}{M:Option Ae}{B:Qj×QK}(h:lS j L M=some B):
  Pure Tryz.prog 48 [.p q (.slice (.prod (.int .i32) Y2)) j,.p z (.slice (.int .u8)) L,.p x (.ptr vm) M] (aL (bd false [⟨(.slice fb),B.1⟩,⟨(.slice (.int .i64)),B.2⟩])):=by
 refine PB Tryz.func48 (fun Bw w0=>?_);unfold lS at h;refine G (G (G (ag (G (ak (cz h (fun(C,D,f)=>az [(0,.p q (.slice (.prod (.int .i32) Y2)) j),(1,.p z (.slice (.int .u8)) L),(2,.p x (.ptr vm) M),(8,.sl 0),(9,.sl 1),(13,.p q (.slice (.prod (.int .i32) Y2)) j),(14,.i64 (j.length:Int)),(15,.i64 f)] [(0,.arr 125 fb C),(1,.arr 3 (.int .i64) D)] 2) 0 (fun(N,O)=>az [(0,.p q (.slice (.prod (.int .i32) Y2)) j),(8,.sl 0),(9,.sl 1)] [(0,.arr 125 fb N),(1,.arr 3 (.int .i64) O)] 2) (gg [.nilS 8 56 125 fb,.nilS 9 57 3 (.int .i64)] [56,57]) (fun y o h=>?_) (fun X h=>?_)))))))
 ·obtain⟨C,D,f⟩:=y;unfold dv at h;refine G (ag (aC h (fun Y h=>?_) (fun Y h=>?_)))
  ·refine ae (ab (ag (ak (GC 1 h (fun h=>ag (ag (br h (fun E=>az [(0,.p q (.slice (.prod (.int .i32) Y2)) j),(1,.p z (.slice (.int .u8)) L),(2,.p x (.ptr vm) M),(8,.sl 0),(9,.sl 1),(10,.i64 f),(11,.adr 2 0 3 0),(13,.p q (.slice (.prod (.int .i32) Y2)) j),(14,.i64 (j.length:Int)),(15,.i64 f),(34,.bo E)] (Kd C D ((j.getD f.toNat (0,0,0)).1) ((j.getD f.toNat (0,0,0)).2.1) ((j.getD f.toNat (0,0,0)).2.2)) 3) (fun E h=>?_) (fun E h=>?_))))))))
   ·rcases aN h with⟨u,h⟩ | ⟨u,h⟩
    ·exact bC ⟨[(2,true),(14,true)],[]⟩ [(3,7,oc u),(13,14,oc u)] (eN h (gg [] [0,1,34]))
    rcases aN h with⟨v,h⟩ | ⟨v,h⟩
    ·obtain⟨Z,h⟩:=aD h;exact bC ⟨[(2,false),(7,true),(13,true),(14,false)],[]⟩ [(3,7,an u),(8,9,an v),(10,10,oc (And.intro v Z)),(11,12,an v),(13,13,oc (And.intro u v)),(14,14,oc u)] (eN h (gg [] [0,1,34]))
    exact bC ⟨[(2,false),(7,false),(13,false),(14,false)],[]⟩ [(3,7,an u),(8,12,oc v),(13,13,oc (And.intro u v)),(14,14,oc u)] (eN h (gg [] [0,1,34]))
   refine ab (br h (fun(I,J)=>az [(0,.p q (.slice (.prod (.int .i32) Y2)) j),(1,.p z (.slice (.int .u8)) L),(2,.p x (.ptr vm) M),(8,.sl 0),(9,.sl 1),(10,.i64 f),(11,.adr 2 0 3 0),(13,.p q (.slice (.prod (.int .i32) Y2)) j),(14,.i64 (j.length:Int)),(15,.i64 f)] (Kd I J ((j.getD f.toNat (0,0,0)).1) ((j.getD f.toNat (0,0,0)).2.1) ((j.getD f.toNat (0,0,0)).2.2)) 3) (fun V h=>?_) (fun V h=>?_))
   ·refine aC h (fun a1 h=>?_) (fun a1 h=>?_)
    ·obtain⟨ad,a2,h⟩:=ai h;obtain⟨a3,h⟩:=aD h;have A:=(xE a2);refine GD ⟨[],[(5,(oP A))]⟩ [(5,5,oc A),(8,8,oc a3)] (Ak 3 h (fun h=>?_));exact eN h (gg [] [67,107,2])
    exact ae (eN h (gg [] [0,1,2]))
   obtain⟨I,J⟩:=V;refine ab (GC 4 h (fun h=>ag ?_));obtain⟨a4,a5,h⟩:=g2 h;refine GN a0 [(4,4,oc a4),(5,5,oc a5)] (br h (fun v20=>az [(0,.p q (.slice (.prod (.int .i32) Y2)) j),(1,.p z (.slice (.int .u8)) L),(2,.p x (.ptr vm) M),(8,.sl 0),(9,.sl 1),(11,.adr 2 0 3 0),(12,.adr 0 ((i64.wrap ((I.length:Int) - 1)).toNat) 4 0),(13,.p q (.slice (.prod (.int .i32) Y2)) j),(14,.i64 (j.length:Int)),(15,.i64 f)] (Kd v20 J ((j.getD f.toNat (0,0,0)).1) ((j.getD f.toNat (0,0,0)).2.1) ((j.getD f.toNat (0,0,0)).2.2)) 3) (fun v20 h=>?_) (fun v20 h=>?_))
   ·refine aC h (fun a6 h=>?_) (fun a6 h=>?_)
    ·refine Ak 3 h (fun h=>?_);exact eN h (gg [] [0,1,2])
    exact ae (eN h (gg [] [0,1,2]))
   refine ab ?_;obtain⟨a7,a8,h⟩:=g2 h;refine GD a0 [(3,3,oc a7),(9,9,oc a8)] ?_;obtain⟨a9,h⟩:=aD h;obtain⟨ax,aa,h⟩:=ai h;obtain⟨ac,h⟩:=aD h;have A:=(mP x aa);refine nj ⟨[],[(8,(oP A))]⟩ [(4,4,oc a9),(8,8,oc A),(13,13,oc ac)] (ay (ab (Ge ?_)));exact eB h (gg [] [0,1])
  refine au (aQ ?_);exact eX h (gg [] [0,1])
 obtain⟨N,O⟩:=X;refine aw (ab (GC 5 h (fun h=>av ?_)));obtain rfl:=sI h;exact RI [(.slice fb),(.slice (.int .i64))]
def cv(z:XK)(q:QK)(u:List Bool)(p:QK):uU→Option (uU⊕QK):=fun(j,f) =>
 (if(decide (f<(p.length:Int)))=true then(if 0≤f∧f<(p.length:Int)then(((if((p.getD f.toNat 0) == (z.length:Int))=true then(if(j.length+([2]:QK).length)*1≤140737488355328∧j.length+([2]:QK).length≤9223372036854775807 then some ((j++([2]:QK)))else none)
 else(((if((p.getD f.toNat 0) == 0)=true then some (true)
 else some ((decide ((p.getD f.toNat 0)≥(q.length:Int)))))).bind fun v=>(if v=true then(if(j.length+([0]:QK).length)*1≤140737488355328∧j.length+([0]:QK).length≤9223372036854775807 then some ((j++([0]:QK)))else none)
 else(((if 0≤(p.getD f.toNat 0)∧(p.getD f.toNat 0)<(q.length:Int)then(if((q.getD ((p.getD f.toNat 0).toNat) 0) == 0)=true then(if(decide ((p.getD f.toNat 0)<(u.length:Int)))=true then(if 0≤(p.getD f.toNat 0)∧(p.getD f.toNat 0)<(u.length:Int)then some ((u.getD ((p.getD f.toNat 0).toNat) false))else none)
 else some (false))
 else some (false))else none)).bind fun v20=>(if v20=true then(if(j.length+([3]:QK).length)*1≤140737488355328∧j.length+([3]:QK).length≤9223372036854775807 then some ((j++([3]:QK)))else none)
 else(if 0≤(p.getD f.toNat 0)∧(p.getD f.toNat 0)<(q.length:Int)then(if(j.length+([(q.getD ((p.getD f.toNat 0).toNat) 0)]:QK).length)*1≤140737488355328∧j.length+([(q.getD ((p.getD f.toNat 0).toNat) 0)]:QK).length≤9223372036854775807 then some ((j++([(q.getD ((p.getD f.toNat 0).toNat) 0)]:QK)))else none)else none))))))).bind fun x=>some (Sum.inl (x,(i64.wrap (f+1)))))else none)
 else some (Sum.inr j))
def gz(j:XK)(p q:QK)(u:List Bool)(v:Option Ae):Option (Qj×QK) :=
 ((lS j p v).bind fun(x,z) =>
 ((iter (cv j q u z) (([]:QK),0)).bind fun f=>some (x,f)))
theorem xD(j M v x N:Bool){I:XK}{i1 J:QK}{L:List Bool}{x3:Option Ae}{O:Qj×QK}(h:gz I i1 J L x3=some O):
  Pure Tryz.prog 29 [.p j (.slice (.prod (.int .i32) Y2)) I,.p M (.slice (.int .u8)) i1,.p v (.slice (.int .u8)) J,.p x (.slice .bool) L,.p N (.ptr vm) x3] (aL (bd false [⟨Ku,O⟩])):=by
 refine PB Tryz.func29 (fun Bw w0=>?_);unfold gz at h;refine G ?_;obtain⟨⟨V,z⟩,q2,h⟩:=ai h;refine GP 3 (xP j M N q2) (G (ag (G (ak (cz h (fun(A,f)=>az [(0,.p j (.slice (.prod (.int .i32) Y2)) I),(2,.p v (.slice (.int .u8)) J),(3,.p x (.slice .bool) L),(10,.adr 0 0 2 0),(13,.adr 1 0 2 0),(25,.p false (.slice (.int .i64)) z),(26,.i64 (z.length:Int)),(27,.i64 f)] (GK V A) 3) 0 (fun X=>az [(10,.adr 0 0 2 0),(13,.adr 1 0 2 0)] (GK V X) 3) (gg [.nilC 96 1 136 60 (.int .u8)] [0,96,136]) (fun y o h=>?_) (fun X h=>?_))))))
 ·obtain⟨A,f⟩:=y;unfold cv at h;refine G (ag (aC h (fun a1 h=>?_) (fun a1 h=>?_)))
  ·refine ae (ab (ag (ak (GC 0 h (fun h=>ak (G (br h (fun C=>az [(0,.p j (.slice (.prod (.int .i32) Y2)) I),(2,.p v (.slice (.int .u8)) J),(3,.p x (.slice .bool) L),(10,.adr 0 0 2 0),(13,.adr 1 0 2 0),(25,.p false (.slice (.int .i64)) z),(26,.i64 (z.length:Int)),(27,.i64 f)] (GK V C) 3) (fun C h=>?_) (fun C h=>?_))))))))
   ·refine aC h (fun a2 h=>?_) (fun a2 h=>?_)
    ·refine Ak 3 h (fun h=>?_);exact eN h (gg [] [0,1,99])
    refine ag (br h (fun D=>az [(0,.p j (.slice (.prod (.int .i32) Y2)) I),(2,.p v (.slice (.int .u8)) J),(3,.p x (.slice .bool) L),(10,.adr 0 0 2 0),(13,.adr 1 0 2 0),(15,.i64 (z.getD f.toNat 0)),(25,.p false (.slice (.int .i64)) z),(26,.i64 (z.length:Int)),(27,.i64 f),(50,.bo D)] (GK V A) 3) (fun D h=>?_) (fun D h=>?_))
    ·rcases aN h with⟨B,h⟩ | ⟨B,h⟩
     ·exact bC ⟨[(2,true),(7,true)],[]⟩ [(3,7,oc B)] (eN h (gg [] [0,1,2]))
     exact bC ⟨[(2,false),(7,false)],[]⟩ [(3,6,an B),(7,7,oc B)] (eN h (gg [] [0,1,2]))
    refine ab (aC h (fun a3 h=>?_) (fun a3 h=>?_))
    ·refine Ak 3 h (fun h=>?_);exact eN h (gg [] [0,1,27])
    refine ag (br h (fun v20=>az [(0,.p j (.slice (.prod (.int .i32) Y2)) I),(2,.p v (.slice (.int .u8)) J),(3,.p x (.slice .bool) L),(10,.adr 0 0 2 0),(13,.adr 1 0 2 0),(15,.i64 (z.getD f.toNat 0)),(25,.p false (.slice (.int .i64)) z),(26,.i64 (z.length:Int)),(27,.i64 f),(64,.bo v20)] (GK V A) 3) (fun v20 h=>?_) (fun v20 h=>?_))
    ·obtain⟨E,h⟩:=aD h;rcases aN h with⟨q,h⟩ | ⟨q,h⟩
     ·rcases aN h with⟨u,h⟩ | ⟨u,h⟩
      ·obtain⟨a4,h⟩:=aD h;exact bC ⟨[(5,true),(10,true),(11,true),(16,true)],[]⟩ [(2,2,oc E),(6,9,an q),(10,10,oc q),(12,13,an u),(14,14,oc (And.intro u a4)),(15,15,an u),(16,16,oc u)] (eN h (gg [] [0,1,2]))
      exact bC ⟨[(5,true),(10,true),(11,false),(16,false)],[]⟩ [(2,2,oc E),(6,9,an q),(10,10,oc q),(12,16,oc u)] (eN h (gg [] [0,1,2]))
     exact bC ⟨[(5,false),(10,false)],[]⟩ [(2,2,oc E),(6,10,oc q)] (eN h (gg [] [0,1,2]))
    refine ab (aC h (fun a5 h=>?_) (fun a5 h=>?_))
    ·refine Ak 3 h (fun h=>?_);exact eN h (gg [] [0,1,27])
    obtain⟨Y,Z,h⟩:=g2 h;exact nj a0 [(4,4,oc Y),(7,7,oc Z)] (eN h (gg [] [0,1,59]))
   refine ay (ay (ab (Ge ?_)));exact eB h (gg [] [0,1,2])
  refine au (aQ ?_);exact eX h (gg [] [0,1,2])
 refine aw (ab (G (lZ [.frzC 0 1] (by kernel_rfl) (av ?_))));obtain rfl:=sI h;exact RI [Ku]
def aZ(f:Option Z1)(j:QK):Option ((Qj×QK)×Int) :=
 (if f.isNone=true then some ((([]:Qj),([]:QK)),1)
 else(if(decide ((j.length:Int) > 4096))=true then some ((([]:Qj),([]:QK)),3)
 else((mS j).bind fun q =>
 (if f.isSome=true then(if f.isSome=true then((cy ((f.getD (Ty.zero xg)).2.2.1) q).bind fun A =>
 ((eG ((f.getD (Ty.zero xg)).1) A).bind fun u =>
 (if f.isSome=true then(if f.isSome=true then((cy ((f.getD (Ty.zero xg)).2.2.2.1) q).bind fun v =>
 ((eG ((f.getD (Ty.zero xg)).2.1) v).bind fun x =>
 (if f.isSome=true then((dF ((f.getD (Ty.zero xg)).2.2.2.2.2) q).bind fun z =>
 (if f.isSome=true then((gz q u x z ((f.getD (Ty.zero xg)).2.2.2.2.1)).bind fun p =>
 some ((p.1,p.2),0))else none))else none)))else none)else none)))else none)else none))))
theorem mu(q:Bool){O:Option Z1}{f:QK}{j:(Qj×QK)×Int}(h:aZ O f=some j):
  Pure Tryz.prog 13 [.p false (.ptr xg) O,.p q (.slice (.int .u8)) f] (aL (bd false [⟨Ku,j.1⟩,⟨(.int .i64),j.2⟩])):=by
 refine PB Tryz.func13 (fun Bw w0=>?_);unfold aZ at h;refine G (ag (GN a0 [(1,1,⟨∃e,Tryz.prog.underlying 33=some (.pointer e),⟨_,rfl⟩⟩)] (aC h (fun V h=>?_) (fun V h=>?_))))
 ·refine G (av (aj ?_));obtain rfl:=sI h;exact RI [Ku,(.int .i64)]
 refine ae (ab (ag (G (aC h (fun X h=>?_) (fun X h=>?_)))))
 ·refine G (av (aj ?_));obtain rfl:=sI h;exact RI [Ku,(.int .i64)]
 refine ae (ab ?_);obtain⟨r2,Y,h⟩:=ai h;refine GP 1 (tJ q Y) ?_;obtain⟨Z,c8,h⟩:=g2 h;obtain⟨r9,q9,h⟩:=ai h;obtain⟨a1,C,h⟩:=ai h;obtain⟨c9,D,h⟩:=g2 h;obtain⟨a2,E,h⟩:=ai h;obtain⟨a3,I,h⟩:=ai h;obtain⟨J,h⟩:=aD h;obtain⟨a4,L,h⟩:=ai h;obtain⟨M,h⟩:=aD h;obtain⟨a5,N,h⟩:=ai h;have u:=(lM false false q9);have v:=(lE false false C);have x:=(lM false false E);have z:=(lE false false I);have A:=(nY false L);have B:=(xD false false false false false N);refine GD ⟨[],[(10,(oP u)),(11,(oP v)),(21,(oP x)),(22,(oP z)),(28,(oP A)),(33,(oP B))]⟩ [(2,2,oc Z),(6,6,oc c8),(10,10,oc u),(11,11,oc v),(13,13,oc c9),(17,17,oc D),(21,21,oc x),(22,22,oc z),(24,24,oc J),(28,28,oc A),(30,30,oc M),(33,33,oc B)] (av ?_);obtain rfl:=sI h;exact RI [Ku,(.int .i64)]
def fC(q:QK):uU→Option (uU⊕QK):=fun(f,j) =>
 (if(decide (j<(q.length:Int)))=true then(if 0≤j∧j<(q.length:Int)then(((if((q.getD j.toNat 0) == 2)=true then(if(f.length+([j]:QK).length)*8≤140737488355328∧f.length+([j]:QK).length≤9223372036854775807 then some ((f++([j]:QK)))else none)
 else some (f))).bind fun p=>some (Sum.inl (p,(i64.wrap (j+1)))))else none)
 else some (Sum.inr f))
def mw(p:Qj)(j:QK):Option QK :=
 ((iter (fC j) (([]:QK),0)).bind fun f=>some f)
theorem vX(z u:Bool){B:Qj}{v x:QK}(h:mw B v=some x):
  Pure Tryz.prog 33 [.agg [.p z (.slice fb) B,.p u (.slice (.int .u8)) v]] (aL (bd false [⟨(.slice (.int .i64)),x⟩])):=by
 refine PB Tryz.func33 (fun Bw w0=>?_);unfold mw at h;refine G (G (ag (G (ak (cz h (fun(j,A)=>az [(3,.sl 0),(7,.p u (.slice (.int .u8)) v),(8,.i64 (v.length:Int)),(9,.i64 A)] [(0,.arr 3 (.int .i64) j)] 1) 0 (fun q=>az [(3,.sl 0)] [(0,.arr 3 (.int .i64) q)] 1) (gg [.nilS 3 56 3 (.int .i64)] [56]) (fun y o h=>?_) (fun q h=>?_))))))
 ·obtain⟨j,A⟩:=y;unfold fC at h;refine G (ag (aC h (fun C h=>?_) (fun C h=>?_)))
  ·refine ae (ab (ag (ak (GC 1 h (fun h=>G (br h (fun f=>az [(3,.sl 0),(7,.p u (.slice (.int .u8)) v),(8,.i64 (v.length:Int)),(9,.i64 A)] [(0,.arr 3 (.int .i64) f)] 1) (fun f h=>?_) (fun f h=>?_)))))))
   ·refine aC h (fun D h=>?_) (fun D h=>?_)
    ·refine Ak 3 h (fun h=>?_);exact eN h (gg [] [89])
    exact ae (eN h (gg [] [0]))
   refine ay (ab (Ge ?_));exact eB h (gg [] [0])
  refine au (aQ ?_);exact eX h (gg [] [0])
 refine aw (ab (G (av ?_)));obtain rfl:=sI h;exact RI [(.slice (.int .i64))]
def jD(u v p q f j:Int):Option (Int) :=
 (if(q == 2)=true then(if ¬j=0 then some (i64.wrap ((i64.wrap (f+j)) - (Int.tmod f j)))else none)
 else some (i64.wrap (f+p)))
theorem nI{q u v x f j p:Int}(h:jD q u v x f j=some p):
  Pure Tryz.prog 82 [.agg [.i64 q,.i64 u,.i64 v,.u8 x],.i64 f,.i64 j] (aL (bd false [⟨(.int .i64),p⟩])):=by
 refine PB Tryz.func82 (fun Bw w0=>?_);unfold jD at h;refine G (ag (G (aC h (fun z h=>?_) (fun z h=>?_))))
 ·refine GC 5 h (fun h=>av (aj ?_));obtain rfl:=sI h;exact RI [(.int .i64)]
 refine ae (ab (G (av ?_)));obtain rfl:=sI h;exact RI [(.int .i64)]
def lN(p q j f:Int):Option (Bool) :=
 (((if(f == 1)=true then some (true)
 else(if(f == 0)=true then some ((j == 0))
 else some (false)))).bind fun v1=>some v1)
theorem xN{q u v x:Int}{j:Bool}(h:lN q u v x=some j):
  Pure Tryz.prog 83 [.agg [.i64 q,.i64 u,.i64 v,.u8 x]] (aL (bd false [⟨.bool,j⟩])):=by
 refine PB Tryz.func83 (fun Bw w0=>?_);unfold lN at h;refine G (ag (br h (fun v1=>az [(2,.bo v1)] [] 0) (fun v1 h=>?_) (fun v1 h=>?_)))
 ·rcases aN h with⟨f,h⟩ | ⟨f,h⟩
  ·exact bC ⟨[(3,true),(12,true)],[]⟩ [(4,7,oc f),(11,12,oc f)] (eN h (gg [] []))
  rcases aN h with⟨p,h⟩ | ⟨p,h⟩
  ·exact bC ⟨[(3,false),(7,true),(11,true),(12,false)],[]⟩ [(4,7,an f),(8,10,an p),(11,11,oc (And.intro f p)),(12,12,oc f)] (eN h (gg [] []))
  exact bC ⟨[(3,false),(7,false),(11,false),(12,false)],[]⟩ [(4,7,an f),(8,10,oc p),(11,11,oc (And.intro f p)),(12,12,oc f)] (eN h (gg [] []))
 refine ab (av ?_);obtain rfl:=sI h;exact RI [.bool]
def eO(p:Qj)(j:Int):(Int)→Option ((Int)⊕(Int)):=fun f =>
 (((if(decide (f > j))=true then(if 0≤(i64.wrap (f - 1))∧(i64.wrap (f - 1))<(p.length:Int)then((lN ((p.getD ((i64.wrap (f - 1)).toNat) (0,0,0,0)).1) ((p.getD ((i64.wrap (f - 1)).toNat) (0,0,0,0)).2.1) ((p.getD ((i64.wrap (f - 1)).toNat) (0,0,0,0)).2.2.1) ((p.getD ((i64.wrap (f - 1)).toNat) (0,0,0,0)).2.2.2)).bind fun q =>
 some (q))else none)
 else some (false))).bind fun u=>(if u=true then some (Sum.inl (i64.wrap (f - 1)))
 else some (Sum.inr f)))
def fy(q:Qj)(u:QK)(f j:Int):Option (Int) :=
 ((iter (eO q f) j).bind fun p=>some p)
theorem kN(q u:Bool){C:Qj}{D:QK}{f x z:Int}(h:fy C D f x=some z):
  Pure Tryz.prog 58 [.agg [.p q (.slice fb) C,.p u (.slice (.int .u8)) D],.i64 f,.i64 x] (aL (bd false [⟨(.int .i64),z⟩])):=by
 refine PB Tryz.func58 (fun Bw w0=>?_);unfold fy at h;refine G (ag (ak (cz h (fun v=>az [(1,.i64 f),(2,.i64 v),(3,.adr 0 0 2 0)] (Lv q C u D) 1) 0 (fun A=>az [(2,.i64 A)] [] 0) (gg [] [0]) (fun v o h=>?_) (fun A h=>?_))))
 ·unfold eO at h;refine ag (ag (br h (fun E=>az [(1,.i64 f),(2,.i64 v),(3,.adr 0 0 2 0),(18,.bo E)] (Lv q C u D) 1) (fun E h=>?_) (fun E h=>?_)))
  ·rcases aN h with⟨j,h⟩ | ⟨j,h⟩
   ·obtain⟨J,h⟩:=aD h;obtain⟨M,L,h⟩:=ai h;have B:=(xN L);exact bC ⟨[(3,true),(11,true)],[(10,(oP B))]⟩ [(4,7,an j),(8,8,oc (And.intro j J)),(9,9,an j),(10,10,oc (And.intro j B)),(11,11,oc j)] (eN h (gg [] [0]))
   exact bC ⟨[(3,false),(11,false)],[]⟩ [(4,11,oc j)] (eN h (gg [] [0]))
  refine ab (aC h (fun I h=>?_) (fun I h=>?_))
  ·refine ae (ab (ak (Ge (ay ?_))));exact eB h (gg [] [0])
  refine au (aQ ?_);exact eX h (gg [] [])
 refine aw (ab (G (av ?_)));obtain rfl:=sI h;exact RI [(.int .i64)]
def iG(p:Qj)(j:QK)(f:Int):Option (Int×Bool) :=
 (if 0≤f∧f<(j.length:Int)then(if 0≤f∧f<(j.length:Int)then some ((j.getD f.toNat 0),((j.getD f.toNat 0) != 0))else none)else none)
theorem kK(q u:Bool){v:Qj}{x:QK}{j:Int}{f:Int×Bool}(h:iG v x j=some f):
  Pure Tryz.prog 15 [.agg [.p q (.slice fb) v,.p u (.slice (.int .u8)) x],.i64 j] (aL (bd false [⟨(.int .u8),f.1⟩,⟨.bool,f.2⟩])):=by
 refine PB Tryz.func15 (fun Bw w0=>?_);unfold iG at h;refine G ?_;obtain⟨z,A,h⟩:=g2 h;refine GD a0 [(3,3,oc z),(8,8,oc A)] (av ?_);obtain rfl:=sI h;exact RI [(.int .u8),.bool]
def oT(f j:Int):Option QJ :=
 some (bR .quo (ofInt f) (ofInt j))
theorem AN{f j:Int}{p:QJ}(h:oT f j=some p):
  Pure Tryz.prog 69 [.i64 f,.i64 j] (aL (bd false [⟨.flt,p⟩])):=by
 refine PB Tryz.func69 (fun Bw w0=>?_);unfold oT at h;refine G (G (av ?_));obtain rfl:=sI h;exact RI [.flt]
def lA(j f:QJ):Option (Bool) :=
 some (!(Md j f))
theorem xk{q f:QJ}{j:Bool}(h:lA q f=some j):
  Pure Tryz.prog 70 [.p false .flt q,.p false .flt f] (aL (bd false [⟨.bool,j⟩])):=by
 refine PB Tryz.func70 (fun Bw w0=>?_);unfold lA at h;refine G (G (av ?_));obtain rfl:=sI h;exact RI [.bool]
def nz(f:QJ):Option (Bool) :=
 some (!(Lf f f))
theorem xr{j:QJ}{f:Bool}(h:nz j=some f):
  Pure Tryz.prog 96 [.p false .flt j] (aL (bd false [⟨.bool,f⟩])):=by
 refine PB Tryz.func96 (fun Bw w0=>?_);unfold nz at h;refine G (G (av ?_));obtain rfl:=sI h;exact RI [.bool]
def vN(f:QJ):Option QJ:=some (wu f)
theorem u7(b:Nat)(w:World):
  Calls Tryz.prog 97 #[.float .f64 b] w fun e f=>e = .returned (.float .f64 (b % 9223372036854775808))∧f=w:=by
 have h1:∀w,(callFunc 25 #[.float .f64 b]).run Tryz.prog w = .ok (.value (.int .u64 b)) w:=fun w=>by rw[run_callFunc_extern (fn:=Tryz.f25) (e:=Extern.MathFloatBits.float64bits) Tryz.func25 (by kernel_rfl) rfl (by kernel_rfl) (by kernel_rfl)];rfl
 have h2:∀(n:Int) w,(callFunc 24 #[.int .u64 n]).run Tryz.prog w = .ok (.value (.float .f64 n.toNat)) w:=fun n w=>by rw[run_callFunc_extern (fn:=Tryz.f24) (e:=Extern.MathFloatBits.float64frombits) Tryz.func24 (by kernel_rfl) rfl (by kernel_rfl) (by kernel_rfl)];rfl
 go_enter Tryz.func97,Tryz.ntmps97;go_wp2
 go_ret
 exact⟨by rw[←HD];rfl,rfl⟩
theorem Bx{j f:QJ}(h:vN j=some f):
  Pure Tryz.prog 97 [.p false .flt j] (aL (bd false [⟨.flt,f⟩])):=by
 obtain rfl:=sI h;exact Pure.Kj Tryz.func97 (by kernel_rfl) rfl (fun b w=>u7 b w)
def hI(j:QJ):Option (Int) :=
 ((nz j).bind fun p =>
 (if p=true then some 0
 else((vN j).bind fun f =>
 (if(!(KQ (bR .mul (bR .mul (bR .mul (eD 4636737291354636288) f) f) f) (eD 4666723172467343360)))=true then some 10000
 else(if(ox (bR .mul (bR .mul (bR .mul (eD 4636737291354636288) f) f) f)).isSome=true∧i64.min≤(ox (bR .mul (bR .mul (bR .mul (eD 4636737291354636288) f) f) f)).getD 0∧(ox (bR .mul (bR .mul (bR .mul (eD 4636737291354636288) f) f) f)).getD 0≤i64.max then some ((ox (bR .mul (bR .mul (bR .mul (eD 4636737291354636288) f) f) f)).getD 0)else none)))))
theorem sX{j:QJ}{f:Int}(h:hI j=some f):
  Pure Tryz.prog 71 [.p false .flt j] (aL (bd false [⟨(.int .i64),f⟩])):=by
 refine PB Tryz.func71 (fun Bw w0=>?_);unfold hI at h;refine G (ag ?_);obtain⟨z,q,h⟩:=ai h;refine GP 1 (xr q) (aC h (fun u h=>?_) (fun u h=>?_))
 ·refine G (av (aj ?_));obtain rfl:=sI h;exact RI [(.int .i64)]
 refine ae (ab ?_);obtain⟨A,v,h⟩:=ai h;refine GP 1 (Bx v) (G (ag (G (aC h (fun x h=>?_) (fun x h=>?_)))))
 ·refine G (av (aj ?_));obtain rfl:=sI h;exact RI [(.int .i64)]
 refine ae (ab (GC 1 h (fun h=>av ?_)));obtain rfl:=sI h;exact RI [(.int .i64)]
def dE(O:Qj)(C:QK)(j v D p:Int)(q:Bool)(E V X I J:Int)(L:QJ):Option (Int×Bool) :=
 (if(decide (D > E))=true then some (0,false)
 else(((if(!q)=true then((oT (i64.wrap (E - D)) p).bind fun x =>
 ((lA x L).bind fun z =>
 (if(!z)=true then some ((Sum.inr (0,false)))
 else((hI x).bind fun A =>
 some ((Sum.inl A))))))
 else some ((Sum.inl 0)))).bind fun(B:((Int)⊕(Int×Bool)))=>match B with
 | .inl f=>(((if(v == 3)=true then(if 0≤j∧j<(C.length:Int)then(if((C.getD j.toNat 0) == 3)=true then some ((i64.wrap ((i64.wrap ((i64.wrap ((i64.wrap (10+f))*(i64.wrap (10+f))))+I))+J)))
 else some ((i64.wrap ((i64.wrap ((i64.wrap (10+f))*(i64.wrap (10+f))))+I))))else none)
 else some ((i64.wrap ((i64.wrap (10+f))*(i64.wrap (10+f))))))).bind fun u=>some (u,true))
 | .inr ((M,N))=>some (M,N)))
theorem p8(A B:Bool){D:Qj}{E:QK}{f q Z u:Int}{v:Bool}{I J L M N:Int}{O:QJ}{z:Int×Bool}(h:dE D E f q Z u v I J L M N O=some z):
  Pure Tryz.prog 44 [.agg [.p A (.slice fb) D,.p B (.slice (.int .u8)) E],.i64 f,.u8 q,.i64 Z,.i64 u,.bo v,.agg [.i64 I,.i64 J,.u8 L,.i64 M,.i64 N,.p false .flt O]] (aL (bd false [⟨(.int .i64),z.1⟩,⟨.bool,z.2⟩])):=by
 refine PB Tryz.func44 (fun Bw w0=>?_);unfold dE at h;refine G (ag (G (aC h (fun B1 h=>?_) (fun B1 h=>?_))))
 ·refine G (av (aj ?_));obtain rfl:=sI h;exact RI [(.int .i64),.bool]
 refine ae (ab (G (ag (G (DK h (dz (oa Tryz.f44.ntmps (fun x=>az [(1,.i64 f),(2,.u8 q),(7,.adr 0 0 2 0),(13,.adr 1 0 6 0),(16,.i64 x)] (Iy A D B E I J L M N O) 2)) (gB tb Tryz.f44.results.toList (fun(r7,r8)=>[⟨(.int .i64),r7⟩,⟨.bool,r8⟩]))) (fun C h=>?_) (fun C h e σ' hq=>?_))))))
 ·refine aC h (fun B4 h=>?_) (fun B4 h=>?_)
  ·obtain⟨a1,q8,h⟩:=ai h;refine GP 5 (AN q8) (ag ?_);obtain⟨a2,V,h⟩:=ai h;refine GP 3 (xk V) (aC h (fun B5 h=>?_) (fun B5 h=>?_))
   ·refine G (av ?_);obtain rfl:=sI h;refine aj (aM ?_);exact bL (RI [(.int .i64),.bool])
   refine ae (ab ?_);obtain⟨a3,X,h⟩:=ai h;refine Mt 1 (sX X) ?_;obtain rfl:=sI h;exact bk (cJ (gg [] [0,8]))
  refine ae ?_;obtain rfl:=sI h;exact bk (cJ (gg [] [0,8]))
 rcases C with x | ⟨r7,r8⟩
 ·obtain⟨rfl,Y⟩:=hq;refine cH ?_ Y;refine ab (G (ag (G (br h (fun j=>az [(18,.i64 j)] [] 0) (fun j h=>?_) (fun j h=>?_)))))
  ·refine aC h (fun B8 h=>?_) (fun B8 h=>?_)
   ·refine G (GC 3 h (fun h=>aC h (fun B9 h=>?_) (fun B9 h=>?_)))
    ·exact Ge (eN h (gg [] []))
    exact ae (eN h (gg [] []))
   exact ae (eN h (gg [] []))
  refine ab (G (av ?_));obtain rfl:=sI h;exact RI [(.int .i64),.bool]
 obtain⟨rfl,hr⟩:=hq;refine aj ?_;obtain rfl:=sI h;exact hr
def eK(q:Qj)(E:QK)(i1 z I:Int)(D:Qq)(x4 x5 x6 x7 x8:Int)(x9:QJ):(Int×Int×Int×Int×Int×Int×Int)→Option ((Int×Int×Int×Int×Int×Int×Int)⊕(Int×Int)):=fun(f,j,J,L,A,M,v30) =>
 (if(decide (v30≤I))=true then(if 0≤(i64.wrap (v30 - 1))∧(i64.wrap (v30 - 1))<(q.length:Int)then((jD ((q.getD ((i64.wrap (v30 - 1)).toNat) (0,0,0,0)).1) ((q.getD ((i64.wrap (v30 - 1)).toNat) (0,0,0,0)).2.1) ((q.getD ((i64.wrap (v30 - 1)).toNat) (0,0,0,0)).2.2.1) ((q.getD ((i64.wrap (v30 - 1)).toNat) (0,0,0,0)).2.2.2) J x5).bind fun u =>
 (((if(((q.getD ((i64.wrap (v30 - 1)).toNat) (0,0,0,0)).2.2.2) == 1)=true then some ((i64.wrap (A+1)))
 else some (A))).bind fun v=>((fy q E (i64.wrap (v30 - 1)) v30).bind fun N =>
 (((if(N == v30)=true then some ((u,v))
 else some ((L,M)))).bind fun(p,x)=>(if(decide (p > x4))=true then some (Sum.inr (f,j))
 else((iG q E v30).bind fun(B,O) =>
 (if 0≤(i64.wrap (v30 - z))∧(i64.wrap (v30 - z))<(D.length:Int)then(((if(!O)=true then some (true)
 else(if(decide (v30<I))=true then some ((decide (((D.getD ((i64.wrap (v30 - z)).toNat) (0,0)).2)<0)))
 else some (false)))).bind fun V=>(if V=true then some (Sum.inl (f,j,u,p,v,x,(i64.wrap (v30+1))))
 else(((if(B == 3)=true then some ((i64.wrap (p+1)))
 else some (p))).bind fun X=>((dE q E i1 B X x (v30 == I) x4 x5 x6 x7 x8 x9).bind fun(C,Y) =>
 (((if Y=true then(if(decide (j<0))=true then some (true)
 else some ((decide ((i64.wrap (C+((D.getD ((i64.wrap (v30 - z)).toNat) (0,0)).1)))<f))))
 else some (false))).bind fun Z=>(((if Z=true then some (((i64.wrap (C+((D.getD ((i64.wrap (v30 - z)).toNat) (0,0)).1))),v30))
 else some ((f,j)))).bind fun(a1,a2)=>some (Sum.inl (a1,a2,u,p,v,x,(i64.wrap (v30+1))))))))))else none)))))))else none)
 else some (Sum.inr (f,j)))
def mR(q:Qj)(u:QK)(p v x:Int)(z:Qq)(A B C D E:Int)(I:QJ):Option (Int×Int) :=
 ((iter (eK q u p v x z A B C D E I) (0,(-1:Int),0,0,0,0,(i64.wrap (p+1)))).bind fun(f,j)=>some (f,j))
theorem zN(f j v:Bool){M:Qj}{N:QK}{O z V:Int}{A:Qq}{X Y Z x7 x8:Int}{x9:QJ}{a6:Int×Int}(h:mR M N O z V A X Y Z x7 x8 x9=some a6):
  Pure Tryz.prog 80 [.agg [.p f (.slice fb) M,.p j (.slice (.int .u8)) N],.i64 O,.i64 z,.i64 V,.p v (.slice Y2) A,.agg [.i64 X,.i64 Y,.u8 Z,.i64 x7,.i64 x8,.p false .flt x9]] (aL (bd false [⟨Y2,a6⟩])):=by
 refine PB Tryz.func80 (fun Bw w0=>?_);unfold mR at h;refine G (G (G (ag (G (ak (cz h (fun(B,C,a7,a1,a8,a2,v30)=>az [(1,.i64 O),(2,.i64 z),(3,.i64 V),(4,.p v (.slice Y2) A),(6,.adr 0 0 2 0),(11,.adr 1 0 6 0),(12,.adr 2 0 2 0),(13,.adr 3 0 2 0),(14,.i64 a7),(15,.i64 a1),(16,.i64 a8),(17,.i64 a2),(18,.i64 v30)] (Ix f M j N X Y Z x7 x8 x9 0 (0:Int) B C) 4) 0 (fun(a9,aa)=>az [(12,.adr 0 0 2 0),(13,.adr 1 0 2 0)] (MO 0 (0:Int) a9 aa) 2) (gg [] [0,8,16,32]) (fun y o h=>?_) (fun b3 h=>?_)))))))
 ·obtain⟨B,C,a7,a1,a8,a2,v30⟩:=y;unfold eK at h;refine ag (G (aC h (fun b4 h=>?_) (fun b4 h=>?_)))
  ·refine ae (ab (ag (ak (GC 4 h (fun h=>?_)))));obtain⟨D,b5,h⟩:=ai h;refine GP 4 (nI b5) (ag (G (br h (fun x=>az [(1,.i64 O),(2,.i64 z),(3,.i64 V),(4,.p v (.slice Y2) A),(6,.adr 0 0 2 0),(11,.adr 1 0 6 0),(12,.adr 2 0 2 0),(13,.adr 3 0 2 0),(14,.i64 D),(15,.i64 a1),(16,.i64 x),(17,.i64 a2),(18,.i64 v30)] (Ix f M j N X Y Z x7 x8 x9 0 (0:Int) B C) 4) (fun x h=>?_) (fun x h=>?_))))
   ·refine aC h (fun b6 h=>?_) (fun b6 h=>?_)
    ·exact Ge (eN h (gg [] [0,1,2,3]))
    exact ae (eN h (gg [] [0,1,2,3]))
   refine ab (ag ?_);obtain⟨c2,b7,h⟩:=ai h;refine GP 4 (kN f j b7) (br h (fun(E,I)=>az [(1,.i64 O),(2,.i64 z),(3,.i64 V),(4,.p v (.slice Y2) A),(6,.adr 0 0 2 0),(11,.adr 1 0 6 0),(12,.adr 2 0 2 0),(13,.adr 3 0 2 0),(14,.i64 D),(15,.i64 E),(16,.i64 x),(17,.i64 I),(18,.i64 v30)] (Ix f M j N X Y Z x7 x8 x9 0 (0:Int) B C) 4) (fun ac h=>?_) (fun ac h=>?_))
   ·refine aC h (fun b8 h=>?_) (fun b8 h=>?_)
    ·exact Ge (eN h (gg [] [0,1,2,3]))
    exact ae (eN h (gg [] [0,1,2,3]))
   obtain⟨E,I⟩:=ac;refine ab (ag (G (aC h (fun b9 h=>?_) (fun b9 h=>?_))))
   ·refine au (aQ (jA rfl (aQ ?_)));exact eX h (gg [] [2,3])
   refine ae (ab ?_);obtain⟨⟨ad,c3⟩,be,h⟩:=ai h;refine GP 2 (kK f j be) (GC 4 h (fun h=>ag (ag (br h (fun a3=>az [(1,.i64 O),(2,.i64 z),(3,.i64 V),(4,.p v (.slice Y2) A),(6,.adr 0 0 2 0),(11,.adr 1 0 6 0),(12,.adr 2 0 2 0),(13,.adr 3 0 2 0),(14,.i64 D),(15,.i64 E),(16,.i64 x),(17,.i64 I),(18,.i64 v30),(20,.u8 ad),(22,.adr 4 0 2 0),(86,.bo a3)] (J4 f M j N X Y Z x7 x8 x9 0 (0:Int) B C ((A.getD ((i64.wrap (v30 - z)).toNat) (0,0)).1) ((A.getD ((i64.wrap (v30 - z)).toNat) (0,0)).2)) 5) (fun a3 h=>?_) (fun a3 h=>?_)))))
   ·rcases aN h with⟨q,h⟩ | ⟨q,h⟩
    ·exact bC ⟨[(2,true),(11,true)],[]⟩ [(3,6,oc q),(10,11,oc q)] (eN h (gg [] [0,1,2,3,148]))
    rcases aN h with⟨J,h⟩ | ⟨J,h⟩
    ·exact bC ⟨[(2,false),(6,true),(10,true),(11,false)],[]⟩ [(3,6,an q),(7,9,an J),(10,10,oc (And.intro q J)),(11,11,oc q)] (eN h (gg [] [0,1,2,3,148]))
    exact bC ⟨[(2,false),(6,false),(10,false),(11,false)],[]⟩ [(3,6,an q),(7,9,oc J),(10,10,oc (And.intro q J)),(11,11,oc q)] (eN h (gg [] [0,1,2,3,148]))
   refine ab (aC h (fun bi h=>?_) (fun bi h=>?_))
   ·refine au (aQ (aw (ab (Ge ?_))));exact eB h (gg [] [0,1,2,3])
   refine ae (ab (G (ag (G (br h (fun a4=>az [(1,.i64 O),(2,.i64 z),(3,.i64 V),(4,.p v (.slice Y2) A),(6,.adr 0 0 2 0),(11,.adr 1 0 6 0),(12,.adr 2 0 2 0),(13,.adr 3 0 2 0),(14,.i64 D),(15,.i64 E),(16,.i64 x),(17,.i64 I),(18,.i64 v30),(20,.u8 ad),(22,.adr 4 0 2 0),(23,.i64 a4)] (J4 f M j N X Y Z x7 x8 x9 0 (0:Int) B C ((A.getD ((i64.wrap (v30 - z)).toNat) (0,0)).1) ((A.getD ((i64.wrap (v30 - z)).toNat) (0,0)).2)) 5) (fun a4 h=>?_) (fun a4 h=>?_))))))
   ·refine aC h (fun bs h=>?_) (fun bs h=>?_)
    ·exact Ge (eN h (gg [] [0,1,2,3,4]))
    exact ae (eN h (gg [] [0,1,2,3,4]))
   refine ab ?_;obtain⟨⟨bv,c4⟩,bx,h⟩:=ai h;refine GP 9 (p8 f j bx) (ag (br h (fun a5=>az [(1,.i64 O),(2,.i64 z),(3,.i64 V),(4,.p v (.slice Y2) A),(6,.adr 0 0 2 0),(11,.adr 1 0 6 0),(12,.adr 2 0 2 0),(13,.adr 3 0 2 0),(14,.i64 D),(15,.i64 E),(16,.i64 x),(17,.i64 I),(18,.i64 v30),(22,.adr 4 0 2 0),(24,.i64 bv),(119,.bo a5)] (J4 f M j N X Y Z x7 x8 x9 0 (0:Int) B C ((A.getD ((i64.wrap (v30 - z)).toNat) (0,0)).1) ((A.getD ((i64.wrap (v30 - z)).toNat) (0,0)).2)) 5) (fun a5 h=>?_) (fun a5 h=>?_)))
   ·rcases aN h with⟨u,h⟩ | ⟨u,h⟩
    ·rcases aN h with⟨L,h⟩ | ⟨L,h⟩
     ·exact bC ⟨[(1,true),(5,true),(13,true),(14,true)],[]⟩ [(2,5,an u),(6,12,oc L),(13,13,oc (And.intro u L)),(14,14,oc u)] (eN h (gg [] [0,1,2,3,4]))
     exact bC ⟨[(1,true),(5,false),(13,false),(14,true)],[]⟩ [(2,5,an u),(6,12,an L),(13,13,oc (And.intro u L)),(14,14,oc u)] (eN h (gg [] [0,1,2,3,4]))
    exact bC ⟨[(1,false),(14,false)],[]⟩ [(2,5,oc u),(13,14,oc u)] (eN h (gg [] [0,1,2,3,4]))
   refine ab (br h (fun(ax,b1)=>az [(1,.i64 O),(2,.i64 z),(3,.i64 V),(4,.p v (.slice Y2) A),(6,.adr 0 0 2 0),(11,.adr 1 0 6 0),(12,.adr 2 0 2 0),(13,.adr 3 0 2 0),(14,.i64 D),(15,.i64 E),(16,.i64 x),(17,.i64 I),(18,.i64 v30)] (Ix f M j N X Y Z x7 x8 x9 0 (0:Int) ax b1) 4) (fun b2 h=>?_) (fun b2 h=>?_))
   ·refine aC h (fun c1 h=>?_) (fun c1 h=>?_)
    ·exact Ge (eN h (gg [] [0,1,2,3]))
    exact ae (eN h (gg [] [0,1,2,3]))
   obtain⟨ax,b1⟩:=b2;refine ay (ab (Ge ?_));exact eB h (gg [] [0,1,2,3])
  refine au (aQ ?_);exact eX h (gg [] [2,3])
 obtain⟨a9,aa⟩:=b3;refine aw (ab (G (av ?_)));obtain rfl:=sI h;exact RI [Y2]
end
end Go.Proofs.YtobbjfkfmdiklaaGreatDoor.T
