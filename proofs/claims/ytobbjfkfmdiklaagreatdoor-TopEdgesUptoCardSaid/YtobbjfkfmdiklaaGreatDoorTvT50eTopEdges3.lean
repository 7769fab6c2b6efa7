import Derived.Test.YtobbjfkfmdiklaaGreatDoorTvT50e0
import Derived.Test.YtobbjfkfmdiklaaGreatDoorTvT50eTopEdges2
namespace Go.Proofs.YtobbjfkfmdiklaaGreatDoor.T
open Go Go.Tv Go.Proofs
open Go.IntKind (i32 i64 u32 u64)
noncomputable section
set_option maxRecDepth 100000
set_option maxHeartbeats 4000000
def ik(p:XK):(Int)→Option ((Int)⊕(Int)):=fun j =>
 (((if(decide (j<(p.length:Int)))=true then(if 0≤j∧j<(p.length:Int)then((jF ((p.getD j.toNat (0,0,0)).1)).bind fun q =>
 some ((!q)))else none)
 else some (false))).bind fun v30=>(if v30=true then some (Sum.inl (i64.wrap (j+1)))
 else some (Sum.inr j)))
def pY(v:XK):((List Z8)×(List Z8)×Int)→Option (((List Z8)×(List Z8)×Int)⊕(((List Z8)×List Z8)⊕(((List Z8)×List Z8)×Int×Int))):=fun(v20,q,j) =>
 (if(decide (j<(v.length:Int)))=true then(if 0≤j∧j<(v.length:Int)then((jF ((v.getD j.toNat (0,0,0)).1)).bind fun x =>
 (if x=true then some (Sum.inl (v20,q,(i64.wrap (j+1))))
 else((iter (ik v) j).bind fun u=>(if 0≤j∧j<(v.length:Int)then(if(decide ((i64.wrap ((v20.length:Int)+(q.length:Int)))≥256))=true then some (Sum.inr (Sum.inr ((([]:List Z8),([]:List Z8)),24,(v.getD j.toNat (0,0,0)).2.1)))
 else(if 0≤j∧j≤u∧u≤u∧u≤(v.length:Int)then((sw ((v.take u.toNat).drop j.toNat)).bind fun(p,z) =>
 (if(!z)=true then some (Sum.inr (Sum.inr ((([]:List Z8),([]:List Z8)),30,(v.getD j.toNat (0,0,0)).2.1)))
 else((gZ ((v.take u.toNat).drop j.toNat)).bind fun A =>
 (((if(!A)=true then(if(v20.length+([(p.1,p.2)]:List Z8).length)*48≤140737488355328∧v20.length+([(p.1,p.2)]:List Z8).length≤9223372036854775807 then some ((Sum.inl ((v20++([(p.1,p.2)]:List Z8)),q)))else none)
 else((mb q p.1 p.2).bind fun B =>
 (if B=true then some ((Sum.inr ((([]:List Z8),([]:List Z8)),23,(v.getD j.toNat (0,0,0)).2.1)))
 else(if(q.length+([(p.1,p.2)]:List Z8).length)*48≤140737488355328∧q.length+([(p.1,p.2)]:List Z8).length≤9223372036854775807 then some ((Sum.inl (v20,(q++([(p.1,p.2)]:List Z8)))))else none))))).bind fun(C:(((List Z8)×List Z8)⊕(((List Z8)×List Z8)×Int×Int)))=>match C with
 | .inl (D,E)=>some (Sum.inl (D,E,u))
 | .inr ((I,J))=>some (Sum.inr (Sum.inr (I,J)))))))else none))else none))))else none)
 else some (Sum.inr (Sum.inl (v20,q))))
def nD(x:QX):Option (((List Z8)×List Z8)×Int×Int) :=
 (if(decide ((x.length:Int) > 4096))=true then some ((([]:List Z8),([]:List Z8)),24,4096)
 else((mR (bZ x)).bind fun z =>
 ((iter (pY z) (([]:List Z8),([]:List Z8),0)).bind fun(j:(((List Z8)×List Z8)⊕(((List Z8)×List Z8)×Int×Int)))=>match j with
 | .inl (p,q)=>some ((p,q),0,0)
 | .inr ((u,v))=>some (u,v))))
theorem yg{d1:QX}{x:((List Z8)×List Z8)×Int×Int}(h:nD d1=some x):
  Pure Tryz.prog 63 [.st d1] (aK (bd false [⟨Jp,x.1⟩,⟨Y2,x.2⟩])):=by
 refine PB Tryz.func63 (fun Bw w0=>?_);unfold nD at h;refine G (G (af (G (aC h (fun B1 h=>?_) (fun B1 h=>?_)))))
 ·refine G (aw (ah ?_));obtain rfl:=sI h;exact RI [Jp,Y2]
 refine ae (ab ?_);obtain⟨C,q2,h⟩:=aj h;refine GP 2 (tY false q2) (af (G (ak (kg h (fun(v20,q,u)=>aA [(2,.adr 0 0 2 0),(3,.adr 1 0 2 0),(4,.adr 2 0 2 0),(5,.p false (.slice (.prod (.int .i32) Y2)) C),(6,.i64 u)] (FQ 0 (0:Int) v20 q) 5) (dy (fj Tryz.f63.ntmps 0 (fun(D,E)=>aA [(2,.adr 0 0 2 0),(3,.adr 1 0 2 0),(4,.adr 2 0 2 0)] (FQ 0 (0:Int) D E) 5)) (gr tb Tryz.f63.results.toList (fun(I,J)=>[⟨Jp,I⟩,⟨Y2,J⟩]))) (gg [.nilC 16 0 88 199 qM,.nilC 16 1 89 199 qM] [0,8,16,88,89]) (fun y o h=>?_) (fun Y h e σ' L=>?_)))))
 ·obtain⟨v20,q,u⟩:=y;unfold pY at h;refine af (G (aC h (fun Z h=>?_) (fun Z h=>?_)))
  ·refine ae (ab (ak (af ?_)));obtain⟨a1,h⟩:=aD h;obtain⟨b1,a2,h⟩:=aj h;have v:=(p8 a2);refine GN ⟨[],[(5,(oP v))]⟩ [(2,2,oc a1),(5,5,oc v)] (aC h (fun a3 h=>?_) (fun a3 h=>?_))
   ·refine G (av (aP (az ?_)));exact eB h (gg [] [0,1,2,3,4])
   refine ae (ab (G (af (ak (cM h (fun z=>aA [(2,.adr 0 0 2 0),(3,.adr 1 0 2 0),(4,.adr 2 0 2 0),(5,.p false (.slice (.prod (.int .i32) Y2)) C),(6,.i64 u),(7,.i64 z)] (FQ 0 (0:Int) v20 q) 5) 2 (fun A=>aA [(2,.adr 0 0 2 0),(3,.adr 1 0 2 0),(4,.adr 2 0 2 0),(5,.p false (.slice (.prod (.int .i32) Y2)) C),(6,.i64 u),(7,.i64 A)] (FQ 0 (0:Int) v20 q) 5) (gg [] [0,1,2,3,4]) (fun z o h=>?_) (fun A h=>?_))))))
   ·unfold ik at h;refine af (af (bz h (fun v30=>aA [(2,.adr 0 0 2 0),(3,.adr 1 0 2 0),(4,.adr 2 0 2 0),(5,.p false (.slice (.prod (.int .i32) Y2)) C),(6,.i64 u),(7,.i64 z),(45,.bo v30)] (FQ 0 (0:Int) v20 q) 5) (fun v30 h=>?_) (fun v30 h=>?_)))
    ·rcases aM h with⟨j,h⟩ | ⟨j,h⟩
     ·obtain⟨a4,h⟩:=aD h;obtain⟨b2,a5,h⟩:=aj h;have v:=(p8 a5);exact bC ⟨[(4,true),(12,true)],[(10,(oP v))]⟩ [(5,6,an j),(7,7,oc (And.intro j a4)),(8,9,an j),(10,10,oc (And.intro j v)),(11,11,an j),(12,12,oc j)] (eN h (gg [] [0,1,2,3,4]))
     exact bC ⟨[(4,false),(12,false)],[]⟩ [(5,12,oc j)] (eN h (gg [] [0,1,2,3,4]))
    refine ab (aC h (fun a6 h=>?_) (fun a6 h=>?_))
    ·refine ae (ab (ak (Ge (ay ?_))));exact eB h (gg [] [0,1,2,3,4])
    refine av (aP ?_);exact eX h (gg [] [0,1,2,3,4])
   refine az (ab (GC 2 h (fun h=>af (G (aC h (fun a7 h=>?_) (fun a7 h=>?_))))))
   ·refine G (aw ?_);obtain rfl:=sI h;refine ah (au (bK (aL ?_)));exact bH (RI [Jp,Y2])
   refine ae (ab (GC 4 h (fun h=>?_)));obtain⟨⟨b3,b4⟩,a8,h⟩:=aj h;refine GP 1 (Bx false a8) (af (ak (G (aC h (fun a9 h=>?_) (fun a9 h=>?_)))))
   ·refine G (aw ?_);obtain rfl:=sI h;refine au (ah (au (bK (aL ?_))));exact bH (RI [Jp,Y2])
   obtain⟨b5,aa,h⟩:=aj h;refine GP 1 (mL false aa) (DJ h (dy (n9 Tryz.f63.ntmps (fun(M,N)=>aA [(2,.adr 0 0 2 0),(3,.adr 1 0 2 0),(4,.adr 2 0 2 0),(5,.p false (.slice (.prod (.int .i32) Y2)) C),(7,.i64 A)] (FQ 0 (0:Int) M N) 5)) (gr tb Tryz.f63.results.toList (fun(O,V)=>[⟨Jp,O⟩,⟨Y2,V⟩]))) (fun X h=>?_) (fun X h e σ' L=>?_))
   ·refine aC h (fun ac h=>?_) (fun ac h=>?_)
    ·refine xq 4 h (fun h=>?_);obtain rfl:=sI h;exact bk (cV (gg [] [0,1,2,317,4]))
    obtain⟨b6,ad,h⟩:=aj h;refine GP 3 (wb true false false ad) (aC h (fun ax h=>?_) (fun ax h=>?_))
    ·refine G (aw ?_);obtain rfl:=sI h;exact aL (bH (RI [Jp,Y2]))
    refine xq 4 h (fun h=>?_);obtain rfl:=sI h;exact bk (cV (gg [] [0,1,2,3,357]))
   rcases X with⟨M,N⟩ | ⟨O,V⟩
   ·obtain⟨rfl,B⟩:=L;refine cF ?_ B;refine ay (ab (Ge (ay ?_)));exact eB h (gg [] [0,1,2,3,4])
   obtain⟨rfl,hr⟩:=L;obtain rfl:=sI h;refine au (ah (au (bK (aL ?_))));exact bH hr
  refine av (aP ?_);obtain rfl:=sI h;refine dL (bk ?_);exact bS (gg [] [0,1,2,3,4])
 rcases Y with⟨D,E⟩ | ⟨I,J⟩
 ·obtain⟨rfl,B⟩:=L;refine cF ?_ B;refine az (ab (G (lS [.frzC 0 0,.frzC 0 1] (by kernel_rfl) (aw ?_))));obtain rfl:=sI h;exact RI [Jp,Y2]
 obtain⟨rfl,hr⟩:=L;refine au (ah ?_);obtain rfl:=sI h;exact hr
def tg(j:XK):Option XK:=(if j.isEmpty=true then some []else(if(([]:XK).length+j.length)*16≤140737488355328∧([]:XK).length+j.length≤9223372036854775807 then some (([]:XK)++j)else none))
theorem Aa(u:Bool){j q:XK}(h:tg j=some q):
  Pure Tryz.prog 64 [.p u (.slice (.prod (.int .i32) Y1)) j] (aK (bd false [⟨(.slice (.prod (.int .i32) Y1)),q⟩])):=by
 refine PB Tryz.func64 (fun Bw w0=>?_);unfold tg at h;refine G (af (KX iQ (d:=3) (e:=4) (A:=(.prod (.int .i32) Y1)) (xs:=j) (el:=116) (β:=u) rfl rfl rfl rfl rfl (by kernel_rfl) (by kernel_rfl) (by kernel_rfl) (fun b hb=>?_)));cases b with
 | true =>
  obtain rfl:=hb rfl;obtain rfl:=sI h;exact tF rfl (G (aw (ah (RI [(.slice (.prod (.int .i32) Y1))]))))
 | false =>
  replace h:(if(([]:XK).length+j.length)*16≤140737488355328∧([]:XK).length+j.length≤9223372036854775807 then some (([]:XK)++j)else none)=some q:=by cases j <;> simpa using h
  refine HF rfl (ae (ab (GC 2 h (fun h=>aw ?_))));obtain rfl:=sI h;exact RI [(.slice (.prod (.int .i32) Y1))]
def kQ(x:List Z8)(v:Int):((List Nd)×Int×Int)→Option (((List Nd)×Int×Int)⊕((List Nd)×Int)):=fun(p,j,u) =>
 (if(decide (u<(((x.getD v.toNat ([],([]:QK))).1).length:Int)))=true then(if 0≤u∧u<(((x.getD v.toNat ([],([]:QK))).1).length:Int)then(if j.toNat<p.length then(if 0≤j∧j<(p.length:Int)then(((if(!((bh (α:=Int) (.int .i32) ((p.getD j.toNat Nd.z).2.1) (((x.getD v.toNat ([],([]:QK))).1).getD u.toNat 0)).isSome))=true then(if j.toNat<(jq p j.toNat).length then(if 0≤j∧j<((jq p j.toNat).length:Int)then(((if(!(((jq p j.toNat).getD j.toNat Nd.z).1))=true then(if 0≤j∧j<((jq (jq p j.toNat) j.toNat).length:Int)then(if j.toNat<(jq (jq p j.toNat) j.toNat).length then some (((jq (jq p j.toNat) j.toNat).set j.toNat (true,([]:Qq),((jq (jq p j.toNat) j.toNat).getD j.toNat Nd.z).2.2)))else none)else none)
 else some ((jq (jq p j.toNat) j.toNat)))).bind fun q=>(if j.toNat<q.length then(if 0≤j∧j<(q.length:Int)then(if(q.getD j.toNat Nd.z).1=true then(if((q.set j.toNat (true,(cN (α:=Int) (.int .i32) ((q.getD j.toNat Nd.z).2.1) (((x.getD v.toNat ([],([]:QK))).1).getD u.toNat 0) ((jq p j.toNat).length:Int)),(q.getD j.toNat Nd.z).2.2)).length+1)*32≤140737488355328∧(q.set j.toNat (true,(cN (α:=Int) (.int .i32) ((q.getD j.toNat Nd.z).2.1) (((x.getD v.toNat ([],([]:QK))).1).getD u.toNat 0) ((jq p j.toNat).length:Int)),(q.getD j.toNat Nd.z).2.2)).length+1≤9223372036854775807 then some ((((q.set j.toNat (true,(cN (α:=Int) (.int .i32) ((q.getD j.toNat Nd.z).2.1) (((x.getD v.toNat ([],([]:QK))).1).getD u.toNat 0) ((jq p j.toNat).length:Int)),(q.getD j.toNat Nd.z).2.2))++[Nd.z]),((jq p j.toNat).length:Int)))else none)else none)else none)else none))else none)else none)
 else some (((jq p j.toNat),((bh (α:=Int) (.int .i32) ((p.getD j.toNat Nd.z).2.1) (((x.getD v.toNat ([],([]:QK))).1).getD u.toNat 0)).getD 0))))).bind fun(A,B)=>some (Sum.inl (A,B,(i64.wrap (u+1)))))else none)else none)else none)
 else some (Sum.inr (p,j)))
def kO(x:List Z8)(v j:Int):((List Nd)×Int)→Option (((List Nd)×Int)⊕(List Nd)):=fun(q,p) =>
 (if(decide (p<(((x.getD v.toNat ([],([]:QK))).2).length:Int)))=true then(if 0≤p∧p<(((x.getD v.toNat ([],([]:QK))).2).length:Int)then(if j.toNat<q.length then(((if(decide (p≥(((q.getD j.toNat Nd.z).2.2).length:Int)))=true then(if j.toNat<(jq q j.toNat).length then(if((((jq q j.toNat).getD j.toNat Nd.z).2.2).length+([0]:QK).length)*1≤140737488355328∧(((jq q j.toNat).getD j.toNat Nd.z).2.2).length+([0]:QK).length≤9223372036854775807 then some (((jq q j.toNat).set j.toNat (((jq q j.toNat).getD j.toNat Nd.z).1,((jq q j.toNat).getD j.toNat Nd.z).2.1,((((jq q j.toNat).getD j.toNat Nd.z).2.2)++([0]:QK)))))else none)else none)
 else some ((jq q j.toNat)))).bind fun u=>(if j.toNat<u.length then(if 0≤p∧p<(((u.getD j.toNat Nd.z).2.2).length:Int)then(if p.toNat<((u.getD j.toNat Nd.z).2.2).length then(if 0≤p∧p<(((u.getD j.toNat Nd.z).2.2).length:Int)then(if p.toNat<((u.getD j.toNat Nd.z).2.2).length then some (Sum.inl ((u.set j.toNat ((u.getD j.toNat Nd.z).1,(u.getD j.toNat Nd.z).2.1,(((u.getD j.toNat Nd.z).2.2).set p.toNat (max (((u.getD j.toNat Nd.z).2.2).getD p.toNat 0) (((x.getD v.toNat ([],([]:QK))).2).getD p.toNat 0))))),(i64.wrap (p+1))))else none)else none)else none)else none)else none))else none)else none)
 else some (Sum.inr q))
def sr(v:List Z8):((List Nd)×Int)→Option (((List Nd)×Int)⊕(List Nd)):=fun(q,j) =>
 (if(decide (j<(v.length:Int)))=true then(if 0≤j∧j<(v.length:Int)then((iter (kQ v j) (q,0,0)).bind fun(u,p)=>(if 0≤p∧p<(u.length:Int)then((iter (kO v j p) (u,0)).bind fun x=>some (Sum.inl (x,(i64.wrap (j+1)))))else none))else none)
 else some (Sum.inr q))
def pH(p:List Z8):Option (Option Hx) :=
 (if 0≤(1:Int)∧(1:Int)≤1∧32*(1:Int)≤281474976710656∧(1:Int)≤9223372036854775807 then((iter (sr p) ((List.replicate (1:Int).toNat Nd.z),0)).bind fun j=>some (some ((j.map (·.2)),()):Option Hx))else none)
theorem zn(q:Bool){u:List Z8}{E:Option Hx}(h:pH u=some E):
  Pure Tryz.prog 65 [.p q (.slice qM) u] (aK (bd false [⟨(.ptr tq),E⟩])):=by
 refine PB Tryz.func65 (fun Bw w0=>?_);unfold pH at h;refine G ?_;obtain⟨c2,h⟩:=aD h;refine GN ⟨[],[(0,⟨.unk,[],false,[],[],[],none⟩)]⟩ [(0,0,oc c2)] (af (G (ak (cM h (fun(I,j)=>aA [(3,.adr 0 0 1 0),(17,.p q (.slice qM) u),(18,.i64 (u.length:Int)),(19,.i64 j)] [(0,.box [.sl 1]),(1,.nds 229 5 I none)] 2) 0 (fun J=>aA [(3,.adr 0 0 1 0)] [(0,.box [.sl 1]),(1,.nds 229 5 J none)] 2) (gg [] [24,8]) (fun y o h=>?_) (fun J h=>?_)))))
 ·obtain⟨I,j⟩:=y;unfold sr at h;refine G (af (aC h (fun b4 h=>?_) (fun b4 h=>?_)))
  ·refine ae (ab (af (ak (GC 0 h (fun h=>G (af (G (ak ?_))))))));refine cM h (fun(B,x,z)=>aA [(3,.adr 0 0 1 0),(5,.adr 2 0 2 0),(6,.i64 x),(17,.p q (.slice qM) u),(18,.i64 (u.length:Int)),(19,.i64 j),(24,.p q (.slice (.int .i32)) ((u.getD j.toNat ([],([]:QK))).1)),(25,.i64 (((u.getD j.toNat ([],([]:QK))).1).length:Int)),(26,.i64 z)] (I3 B q ((u.getD j.toNat ([],([]:QK))).1) q ((u.getD j.toNat ([],([]:QK))).2)) 3) 2 (fun(L,v)=>aA [(3,.adr 0 0 1 0),(5,.adr 2 0 2 0),(6,.i64 v),(17,.p q (.slice qM) u),(18,.i64 (u.length:Int)),(19,.i64 j)] (I3 L q ((u.getD j.toNat ([],([]:QK))).1) q ((u.getD j.toNat ([],([]:QK))).2)) 3) (gg [] [0,1,26]) (fun y o h=>?_) (fun b5 h=>?_)
   ·obtain⟨B,x,z⟩:=y;unfold kQ at h;refine G (af (aC h (fun b6 h=>?_) (fun b6 h=>?_)))
    ·refine ae (ab (af (ak (GC 0 h (fun h=>af ?_)))));obtain⟨M,h⟩:=aD h;refine yl 1 x.toNat false M (by kernel_rfl) ?_;obtain⟨N,h⟩:=aD h;refine bC a0 [(5,5,oc N),(7,7,⟨x.toNat=x.toNat,rfl⟩)] (ab (af (af (lS [.shut 1] (by kernel_rfl) (Ge (ab (bz h (fun(O,V)=>aA [(3,.adr 0 0 1 0),(5,.adr 2 0 2 0),(9,.i64 V),(17,.p q (.slice qM) u),(18,.i64 (u.length:Int)),(19,.i64 j),(24,.p q (.slice (.int .i32)) ((u.getD j.toNat ([],([]:QK))).1)),(25,.i64 (((u.getD j.toNat ([],([]:QK))).1).length:Int)),(26,.i64 z)] (I3 O q ((u.getD j.toNat ([],([]:QK))).1) q ((u.getD j.toNat ([],([]:QK))).2)) 3) (fun X h=>?_) (fun X h=>?_))))))))
     ·refine aC h (fun b7 h=>?_) (fun b7 h=>?_)
      ·refine G (af (af ?_));obtain⟨Y,h⟩:=aD h;refine yl 1 x.toNat false Y (by kernel_rfl) ?_;obtain⟨Z,h⟩:=aD h;refine bC a0 [(5,5,oc Z),(7,7,⟨x.toNat=x.toNat,rfl⟩)] (ab (bz h (fun C=>aA [(3,.adr 0 0 1 0),(5,.adr 2 0 2 0),(6,.i64 x),(8,.i32 (((u.getD j.toNat ([],([]:QK))).1).getD z.toNat 0)),(9,.i64 ((jq B x.toNat).length:Int)),(17,.p q (.slice qM) u),(18,.i64 (u.length:Int)),(19,.i64 j),(24,.p q (.slice (.int .i32)) ((u.getD j.toNat ([],([]:QK))).1)),(25,.i64 (((u.getD j.toNat ([],([]:QK))).1).length:Int)),(26,.i64 z)] (I3 C q ((u.getD j.toNat ([],([]:QK))).1) q ((u.getD j.toNat ([],([]:QK))).2)) 3) (fun C h=>?_) (fun C h=>?_)))
       ·refine aC h (fun b8 h=>?_) (fun b8 h=>?_)
        ·refine lS [.shut 1] (by kernel_rfl) ?_;obtain⟨a1,a2,h⟩:=g2 h;exact bC a0 [(6,6,oc a1),(8,8,oc a2)] (eN h (gg [.shut 1] [0,1,2]))
        exact ae (eN h (gg [.shut 1] [0,1,2]))
       refine ab (af ?_);obtain⟨a3,h⟩:=aD h;refine yl 1 x.toNat false a3 (by kernel_rfl) ?_;obtain⟨a4,a5,h⟩:=g2 h;refine bC a0 [(5,5,oc a4),(7,7,⟨x.toNat=x.toNat,rfl⟩),(10,10,oc a5)] (ab (lS [.shut 1] (by kernel_rfl) ?_));obtain⟨a6,h⟩:=aD h;exact bC ⟨[],[(6,⟨.unk,[],false,[],[],[],none⟩)]⟩ [(7,7,oc a6)] (eN h (gg [] [0,148,2]))
      exact ae (eN h (gg [] [0,1,2]))
     obtain⟨O,V⟩:=X;refine ab (Ge (ay (ab (Ge ?_))));exact eB h (gg [] [0,1,2])
    refine av (aP ?_);exact eX h (gg [] [0,1,2])
   obtain⟨L,v⟩:=b5;refine az (ab (GC 5 h (fun h=>G (ak (cM h (fun(a7,A)=>aA [(3,.adr 0 0 1 0),(11,.adr 1 v.toNat 2 0),(17,.p q (.slice qM) u),(18,.i64 (u.length:Int)),(19,.i64 j),(96,.p q (.slice (.int .u8)) ((u.getD j.toNat ([],([]:QK))).2)),(97,.i64 (((u.getD j.toNat ([],([]:QK))).2).length:Int)),(98,.i64 A)] [(0,.box [.sl 1]),(1,.nds 229 5 a7 none)] 2) 4 (fun a8=>aA [(3,.adr 0 0 1 0),(17,.p q (.slice qM) u),(18,.i64 (u.length:Int)),(19,.i64 j)] [(0,.box [.sl 1]),(1,.nds 229 5 a8 none)] 2) (gg [] [0,1]) (fun y o h=>?_) (fun a8 h=>?_))))))
   ·obtain⟨a7,A⟩:=y;unfold kO at h;refine G (af (aC h (fun b9 h=>?_) (fun b9 h=>?_)))
    ·refine ae (ab (af (ak (GC 1 h (fun h=>af (af ?_))))));obtain⟨a9,h⟩:=aD h;refine yl 1 v.toNat true a9 (by kernel_rfl) (bC a0 [(4,4,⟨v.toNat=v.toNat,rfl⟩)] (ab (bz h (fun D=>aA [(3,.adr 0 0 1 0),(11,.adr 1 v.toNat 2 0),(12,.i64 A),(13,.u8 (((u.getD j.toNat ([],([]:QK))).2).getD A.toNat 0)),(17,.p q (.slice qM) u),(18,.i64 (u.length:Int)),(19,.i64 j),(96,.p q (.slice (.int .u8)) ((u.getD j.toNat ([],([]:QK))).2)),(97,.i64 (((u.getD j.toNat ([],([]:QK))).2).length:Int)),(98,.i64 A)] [(0,.box [.sl 1]),(1,.nds 229 5 D none)] 2) (fun D h=>?_) (fun D h=>?_))))
     ·refine aC h (fun be h=>?_) (fun be h=>?_)
      ·refine lS [.shut 1] (by kernel_rfl) ?_;obtain⟨aa,h⟩:=aD h;refine yl 1 v.toNat true aa (by kernel_rfl) ?_;obtain⟨ac,h⟩:=aD h;exact bC a0 [(4,4,⟨v.toNat=v.toNat,rfl⟩),(6,6,oc ac),(9,9,⟨v.toNat=v.toNat∧true=true,⟨rfl,rfl⟩⟩)] (eN h (gg [.shut 1] [0,1]))
      exact ae (eN h (gg [.shut 1] [0,1]))
     refine ab ?_;obtain⟨ad,h⟩:=aD h;refine yl 1 v.toNat true ad (by kernel_rfl) ?_;obtain⟨ax,b1,b2,b3,h⟩:=g4 h;refine nf a0 [(3,3,⟨v.toNat=v.toNat,rfl⟩),(8,8,⟨v.toNat=v.toNat,rfl⟩),(10,10,oc ax),(11,11,oc b1),(14,14,oc b2),(15,15,oc b3)] (ay (ab (lS [.shut 1] (by kernel_rfl) (Ge ?_))));exact eB h (gg [] [0,1])
    refine av (aP ?_);exact eX h (gg [] [0,1])
   refine az (ay (ab (Ge ?_)));exact eB h (gg [] [0,1])
  refine av (aP ?_);exact eX h (gg [] [0,1])
 refine az (ab (G (lS [.frzC 0 0] (by kernel_rfl) (aw ?_))));obtain rfl:=sI h;exact RI [(.ptr tq)]
def mZ(u:QX)(j:XK)(q p:Int):Option ((Option Z3)×Int×Int) :=
 ((nL j).bind fun A =>
 (if(!A)=true then some ((none:Option Z3),10,0)
 else(((if(decide (q<1))=true then some (true)
 else(if(decide (p<1))=true then some (true)
 else(if(decide (q > 24))=true then some (true)
 else some ((decide (p > 24))))))).bind fun v1=>(if v1=true then some ((none:Option Z3),40,0)
 else((nD u).bind fun(z,v) =>
 (if(v.1 != 0)=true then some ((none:Option Z3),v.1,v.2)
 else((tg j).bind fun B =>
 ((pH z.1).bind fun x =>
 some ((some (B,x,z.2,q,p):Option Z3),0,0)))))))))
theorem CN(x:Bool){u:QX}{j:XK}{v q:Int}{B:(Option Z3)×Int×Int}(h:mZ u j v q=some B):
  Pure Tryz.prog 39 [.st u,.p x (.slice (.prod (.int .i32) Y1)) j,.i64 v,.i64 q] (aK (bd false [⟨(.ptr nq),B.1⟩,⟨Y2,B.2⟩])):=by
 refine PB Tryz.func39 (fun Bw w0=>?_);unfold mZ at h;refine G (af ?_);obtain⟨Y,L,h⟩:=aj h;refine GP 1 (xE x L) (aC h (fun M h=>?_) (fun M h=>?_))
 ·refine G (aw (ah ?_));obtain rfl:=sI h;exact RI [(.ptr nq),Y2]
 refine ae (ab (af (af (bz h (fun v1=>aA [(0,.st u),(1,.p x (.slice (.prod (.int .i32) Y1)) j),(2,.i64 v),(3,.i64 q),(9,.adr 0 0 2 0),(29,.bo v1)] [(0,.box [.i64 0,.i64 0])] 1) (fun v1 h=>?_) (fun v1 h=>?_)))))
 ·rcases aM h with⟨A,h⟩ | ⟨A,h⟩
  ·exact bC ⟨[(2,true),(5,true)],[]⟩ [(3,5,oc A)] (eN h (gg [] [8]))
  rcases aM h with⟨C,h⟩ | ⟨C,h⟩
  ·exact bC ⟨[(2,false),(5,false),(6,true),(9,true)],[]⟩ [(3,4,an A),(5,5,oc A),(7,9,oc C)] (eN h (gg [] [8]))
  rcases aM h with⟨z,h⟩ | ⟨z,h⟩
  ·exact bC ⟨[(2,false),(5,false),(6,false),(9,false),(10,true),(13,true)],[]⟩ [(3,4,an A),(5,5,oc A),(7,8,an C),(9,9,oc C),(11,13,oc z)] (eN h (gg [] [8]))
  exact bC ⟨[(2,false),(5,false),(6,false),(9,false),(10,false),(13,false)],[]⟩ [(3,4,an A),(5,5,oc A),(7,8,an C),(9,9,oc C),(11,12,an z),(13,13,oc z)] (eN h (gg [] [8]))
 refine ab (aC h (fun I h=>?_) (fun I h=>?_))
 ·refine G (aw (ah ?_));obtain rfl:=sI h;exact RI [(.ptr nq),Y2]
 refine ae (ab ?_);obtain⟨⟨Z,r6⟩,N,h⟩:=aj h;refine GP 1 (yg N) (af (G (aC h (fun J h=>?_) (fun J h=>?_))))
 ·refine GD a0 [] (aw (ah ?_));obtain rfl:=sI h;exact RI [(.ptr nq),Y2]
 refine ae (ab ?_);obtain⟨r9,O,h⟩:=aj h;obtain⟨V,X,h⟩:=aj h;have D:=(Aa x O);have E:=(zn false X);refine GD ⟨[],[(1,(oP D)),(4,(oP E))]⟩ [(1,1,oc D),(4,4,oc E)] (aw ?_);obtain rfl:=sI h;exact RI [(.ptr nq),Y2]
def jS(L M N O:XK)(V X Y:QX)(Z d9:Int):Option ((Option Z1)×Int×Int) :=
 ((iX V).bind fun(I,v) =>
 (if(v.1 != 0)=true then some ((none:Option Z1),v.1,v.2)
 else((iX X).bind fun(J,x) =>
 (if(x.1 != 0)=true then some ((none:Option Z1),x.1,x.2)
 else((cr I).bind fun z =>
 ((cr J).bind fun A =>
 (if 0≤(0:Int)∧0<((3:Nat):Int)then((fW L z).bind fun(B,p) =>
 (if(p != 0)=true then some ((none:Option Z1),p,0)
 else(if 0≤(1:Int)∧1<((3:Nat):Int)then((fW M A).bind fun(C,q) =>
 (if(q != 0)=true then some ((none:Option Z1),q,0)
 else(if 0≤(2:Int)∧2<((3:Nat):Int)then((fW N 3).bind fun(D,u) =>
 (if(u != 0)=true then some ((none:Option Z1),u,0)
 else((mZ Y O Z d9).bind fun(E,j) =>
 (if(j.1 != 0)=true then some ((none:Option Z1),j.1,j.2)
 else some ((some (I,J,B,C,D,E):Option Z1),0,0)))))else none)))else none)))else none)))))))
theorem uA(q u v x:Bool){I J L M:XK}{N O V:QX}{X Y:Int}{j:(Option Z1)×Int×Int}(h:jS I J L M N O V X Y=some j):
  Pure Tryz.prog 18 [.agg [.p q (.slice (.prod (.int .i32) Y1)) I,.p u (.slice (.prod (.int .i32) Y1)) J,.p v (.slice (.prod (.int .i32) Y1)) L,.p x (.slice (.prod (.int .i32) Y1)) M,.st N,.st O,.st V,.i64 X,.i64 Y]] (aK (bd false [⟨(.ptr vk),j.1⟩,⟨Y2,j.2⟩])):=by
 refine PB Tryz.func18 (fun Bw w0=>?_);unfold jS at h;refine G (G (G (af ?_)));obtain⟨⟨r3,r4⟩,Z,h⟩:=aj h;refine GP 3 (ui Z) (G (aC h (fun B1 h=>?_) (fun B1 h=>?_)))
 ·refine GD a0 [] (aw (ah ?_));obtain rfl:=sI h;exact RI [(.ptr vk),Y2]
 refine ae (ab (af ?_));obtain⟨⟨r7,r8⟩,q4,h⟩:=aj h;refine GP 3 (ui q4) (G (aC h (fun B2 h=>?_) (fun B2 h=>?_)))
 ·refine GD a0 [] (aw (ah ?_));obtain rfl:=sI h;exact RI [(.ptr vk),Y2]
 refine ae (ab (af ?_));obtain⟨a1,q7,h⟩:=aj h;obtain⟨a2,q8,h⟩:=aj h;have z:=(ji false q7);have A:=(ji false q8);refine GD ⟨[],[(9,(oP z)),(20,(oP A))]⟩ [(9,9,oc z),(20,20,oc A)] (ak (Be 9 (G (af (tF rfl (ae (ab (af (ak (GC 0 h (fun h=>?_)))))))))));obtain⟨⟨a3,a4⟩,B,h⟩:=aj h;refine GP 4 (nJ q B) (af (G (aC h (fun B3 h=>?_) (fun B3 h=>?_))))
 ·refine G (aw (ah (au (ah (qC (au (ah ?_)))))));obtain rfl:=sI h;exact RI [(.ptr vk),Y2]
 refine ae (ab (Ge (ay (ab (Ge (vX (G (af (tF rfl (ae (ab (af (ak (GC 0 h (fun h=>?_)))))))))))))));obtain⟨⟨a5,a6⟩,C,h⟩:=aj h;refine GP 4 (nJ u C) (af (G (aC h (fun B4 h=>?_) (fun B4 h=>?_))))
 ·refine G (aw (ah (au (ah (qC (au (ah ?_)))))));obtain rfl:=sI h;exact RI [(.ptr vk),Y2]
 refine ae (ab (Ge (ay (ab (Ge (vX (G (af (tF rfl (ae (ab (af (ak (GC 0 h (fun h=>?_)))))))))))))));obtain⟨⟨a7,a8⟩,D,h⟩:=aj h;refine GP 4 (nJ v D) (af (G (aC h (fun B5 h=>?_) (fun B5 h=>?_))))
 ·refine G (aw (ah (au (ah (qC (au (ah ?_)))))));obtain rfl:=sI h;exact RI [(.ptr vk),Y2]
 refine ae (ab (Ge (ay (ab (Ge (vX (G (af (HF rfl (av (aP (NV (az (ab (af ?_)))))))))))))));obtain⟨⟨a9,aa⟩,E,h⟩:=aj h;refine GP 9 (CN x E) (G (aC h (fun B6 h=>?_) (fun B6 h=>?_)))
 ·refine GD a0 [] (aw (ah ?_));obtain rfl:=sI h;exact RI [(.ptr vk),Y2]
 refine ae (ab (G (aw ?_)));obtain rfl:=sI h;exact RI [(.ptr vk),Y2]
def ix(j p v q u:Int)(x:QJ):Option (Bool) :=
 (((if(decide (j≥1))=true then(if(decide (j≤1048576))=true then(if(decide (p≥1))=true then(if(decide (p≤64))=true then(if(decide (v≤1))=true then(if(decide (q≥0))=true then(if(decide (q≤1048576))=true then(if(decide (u≥0))=true then some ((decide (u≤1048576)))
 else some (false))
 else some (false))
 else some (false))
 else some (false))
 else some (false))
 else some (false))
 else some (false))
 else some (false))).bind fun v1=>some v1)
theorem xT{D E I J L:Int}{M:QJ}{C:Bool}(h:ix D E I J L M=some C):
  Pure Tryz.prog 26 [.agg [.i64 D,.i64 E,.u8 I,.i64 J,.i64 L,.p false .flt M]] (aK (bd false [⟨.bool,C⟩])):=by
 refine PB Tryz.func26 (fun Bw w0=>?_);unfold ix at h;refine G (af (bz h (fun v1=>aA [(2,.bo v1)] [] 0) (fun v1 h=>?_) (fun v1 h=>?_)))
 ·rcases aM h with⟨j,h⟩ | ⟨j,h⟩
  ·rcases aM h with⟨q,h⟩ | ⟨q,h⟩
   ·rcases aM h with⟨u,h⟩ | ⟨u,h⟩
    ·rcases aM h with⟨v,h⟩ | ⟨v,h⟩
     ·rcases aM h with⟨x,h⟩ | ⟨x,h⟩
      ·rcases aM h with⟨z,h⟩ | ⟨z,h⟩
       ·rcases aM h with⟨A,h⟩ | ⟨A,h⟩
        ·rcases aM h with⟨B,h⟩ | ⟨B,h⟩
         ·exact bC ⟨[(3,true),(7,true),(8,true),(12,true),(13,true),(17,true),(18,true),(22,true),(23,true),(27,true),(28,true),(32,true),(33,true),(37,true),(38,true),(42,true)],[]⟩ [(4,6,an j),(7,7,oc j),(9,11,an q),(12,12,oc q),(14,16,an u),(17,17,oc u),(19,21,an v),(22,22,oc v),(24,26,an x),(27,27,oc x),(29,31,an z),(32,32,oc z),(34,36,an A),(37,37,oc A),(39,41,an B),(42,42,oc B)] (eN h (gg [] []))
         exact bC ⟨[(3,true),(7,true),(8,true),(12,true),(13,true),(17,true),(18,true),(22,true),(23,true),(27,true),(28,true),(32,true),(33,true),(37,true),(38,false),(42,false)],[]⟩ [(4,6,an j),(7,7,oc j),(9,11,an q),(12,12,oc q),(14,16,an u),(17,17,oc u),(19,21,an v),(22,22,oc v),(24,26,an x),(27,27,oc x),(29,31,an z),(32,32,oc z),(34,36,an A),(37,37,oc A),(39,42,oc B)] (eN h (gg [] []))
        exact bC ⟨[(3,true),(7,true),(8,true),(12,true),(13,true),(17,true),(18,true),(22,true),(23,true),(27,true),(28,true),(32,true),(33,false),(37,false)],[]⟩ [(4,6,an j),(7,7,oc j),(9,11,an q),(12,12,oc q),(14,16,an u),(17,17,oc u),(19,21,an v),(22,22,oc v),(24,26,an x),(27,27,oc x),(29,31,an z),(32,32,oc z),(34,37,oc A)] (eN h (gg [] []))
       exact bC ⟨[(3,true),(7,true),(8,true),(12,true),(13,true),(17,true),(18,true),(22,true),(23,true),(27,true),(28,false),(32,false)],[]⟩ [(4,6,an j),(7,7,oc j),(9,11,an q),(12,12,oc q),(14,16,an u),(17,17,oc u),(19,21,an v),(22,22,oc v),(24,26,an x),(27,27,oc x),(29,32,oc z)] (eN h (gg [] []))
      exact bC ⟨[(3,true),(7,true),(8,true),(12,true),(13,true),(17,true),(18,true),(22,true),(23,false),(27,false)],[]⟩ [(4,6,an j),(7,7,oc j),(9,11,an q),(12,12,oc q),(14,16,an u),(17,17,oc u),(19,21,an v),(22,22,oc v),(24,27,oc x)] (eN h (gg [] []))
     exact bC ⟨[(3,true),(7,true),(8,true),(12,true),(13,true),(17,true),(18,false),(22,false)],[]⟩ [(4,6,an j),(7,7,oc j),(9,11,an q),(12,12,oc q),(14,16,an u),(17,17,oc u),(19,22,oc v)] (eN h (gg [] []))
    exact bC ⟨[(3,true),(7,true),(8,true),(12,true),(13,false),(17,false)],[]⟩ [(4,6,an j),(7,7,oc j),(9,11,an q),(12,12,oc q),(14,17,oc u)] (eN h (gg [] []))
   exact bC ⟨[(3,true),(7,true),(8,false),(12,false)],[]⟩ [(4,6,an j),(7,7,oc j),(9,12,oc q)] (eN h (gg [] []))
  exact bC ⟨[(3,false),(7,false)],[]⟩ [(4,7,oc j)] (eN h (gg [] []))
 refine ab (aw ?_);obtain rfl:=sI h;exact RI [.bool]
def bf(p:Option zr)(j:Int):Option (Int) :=
 (((if p.isNone=true then some (true)
 else(if(decide (j<0))=true then some (true)
 else some ((decide (j > 1114111)))))).bind fun v1=>(if v1=true then some 0
 else(if p.isSome=true then(if 0≤(8:Int)then(if p.isSome=true then(if 0≤(Int.fdiv j (2 ^ (min (8:Int).toNat i32.bits)))∧(Int.fdiv j (2 ^ (min (8:Int).toNat i32.bits)))<((4352:Nat):Int)then(if 0≤(fF ((p.getD (Ty.zero vU)).1) (Int.fdiv j (2 ^ (min (8:Int).toNat i32.bits))).toNat)∧(fF ((p.getD (Ty.zero vU)).1) (Int.fdiv j (2 ^ (min (8:Int).toNat i32.bits))).toNat)<(((p.getD (Ty.zero vU)).2).length:Int)then(if 0≤(bitsOf .and .i32 j 255)∧(bitsOf .and .i32 j 255)<((256:Nat):Int)then some (i64.wrap (fF (((p.getD (Ty.zero vU)).2).getD ((fF ((p.getD (Ty.zero vU)).1) (Int.fdiv j (2 ^ (min (8:Int).toNat i32.bits))).toNat).toNat) (dx 256)) (bitsOf .and .i32 j 255).toNat))else none)else none)else none)else none)else none)else none)))
theorem nb(q:Bool){x:Option zr}{z u:Int}(h:bf x z=some u):
  Pure Tryz.prog 52 [.p q (.ptr vU) x,.i32 z] (aK (bd false [⟨(.int .i64),u⟩])):=by
 refine PB Tryz.func52 (fun Bw w0=>?_);unfold bf at h;refine G (af (af (bz h (fun v1=>aA [(0,.p q (.ptr vU) x),(1,.i32 z),(14,.bo v1)] [] 0) (fun v1 h=>?_) (fun v1 h=>?_))))
 ·rcases aM h with⟨j,h⟩ | ⟨j,h⟩
  ·exact bC ⟨[(2,true),(5,true)],[]⟩ [(1,1,⟨∃e,Tryz.prog.underlying 92=some (.pointer e),⟨_,rfl⟩⟩),(3,5,oc j)] (eN h (gg [] []))
  rcases aM h with⟨v,h⟩ | ⟨v,h⟩
  ·exact bC ⟨[(2,false),(5,false),(6,true),(9,true)],[]⟩ [(1,1,⟨∃e,Tryz.prog.underlying 92=some (.pointer e),⟨_,rfl⟩⟩),(3,4,an j),(5,5,oc j),(7,9,oc v)] (eN h (gg [] []))
  exact bC ⟨[(2,false),(5,false),(6,false),(9,false)],[]⟩ [(1,1,⟨∃e,Tryz.prog.underlying 92=some (.pointer e),⟨_,rfl⟩⟩),(3,4,an j),(5,5,oc j),(7,8,an v),(9,9,oc v)] (eN h (gg [] []))
 refine ab (aC h (fun D h=>?_) (fun D h=>?_))
 ·refine G (aw (ah ?_));obtain rfl:=sI h;exact RI [(.int .i64)]
 refine ae (ab ?_);obtain⟨E,I,J,A,h⟩:=g4 h;obtain⟨B,C,h⟩:=g2 h;refine GD a0 [(1,1,oc E),(6,6,oc I),(7,7,oc J),(9,9,oc A),(13,13,oc B),(14,14,oc C)] (aw ?_);obtain rfl:=sI h;exact RI [(.int .i64)]
def dv(u:Option zr)(q:XK):uZ→Option (uZ⊕QK):=fun(j,p) =>
 (if(decide (p<(q.length:Int)))=true then(if 0≤p∧p<(q.length:Int)then((bf u ((q.getD p.toNat (0,0,0)).1)).bind fun v =>
 (if 0≤p∧p<(j.length:Int)then(if p.toNat<j.length then some (Sum.inl ((j.set p.toNat v),(i64.wrap (p+1))))else none)else none))else none)
 else some (Sum.inr j))
def cD(q:Option zr)(j:XK):Option QK :=
 (if 0≤(j.length:Int)∧(j.length:Int)≤(j.length:Int)∧8*(j.length:Int)≤281474976710656∧(j.length:Int)≤9223372036854775807 then((iter (dv q j) ((List.replicate (j.length:Int).toNat (0:Int)),0)).bind fun p=>some p)else none)
theorem lK(u v:Bool){B:Option zr}{A:XK}{x:QK}(h:cD B A=some x):
  Pure Tryz.prog 31 [.p u (.ptr vU) B,.p v (.slice (.prod (.int .i32) Y2)) A] (aK (bd false [⟨(.slice (.int .i64)),x⟩])):=by
 refine PB Tryz.func31 (fun Bw w0=>?_);unfold cD at h;refine G (GC 2 h (fun h=>af (G (ak (cM h (fun(j,E)=>aA [(0,.p u (.ptr vU) B),(5,.sl 0),(11,.p v (.slice (.prod (.int .i32) Y2)) A),(12,.i64 (A.length:Int)),(13,.i64 E)] [(0,.arr 3 (.int .i64) j)] 1) 0 (fun q=>aA [(5,.sl 0)] [(0,.arr 3 (.int .i64) q)] 1) (gg [] [24]) (fun y o h=>?_) (fun q h=>?_))))))
 ·obtain⟨j,E⟩:=y;unfold dv at h;refine G (af (aC h (fun I h=>?_) (fun I h=>?_)))
  ·refine ae (ab (af (ak (GC 1 h (fun h=>?_)))));obtain⟨L,J,h⟩:=aj h;obtain⟨C,D,h⟩:=g2 h;have z:=(nb u J);refine bC ⟨[],[(5,(oP z))]⟩ [(5,5,oc z),(6,6,oc C),(7,7,oc D)] (ay (ab (Ge ?_)));exact eB h (gg [] [0])
  refine av (aP ?_);exact eX h (gg [] [0])
 refine az (ab (G (aw ?_)));obtain rfl:=sI h;exact RI [(.slice (.int .i64))]
def jT(u:QZ)(j:QK):(QK×Int×Int)→Option ((QK×Int×Int)⊕QK):=fun(p,q,v4) =>
 (if(decide (v4<(j.length:Int)))=true then(if 0≤v4∧v4<(j.length:Int)then(((if(decide ((j.getD v4.toNat 0)<0))=true then some (true)
 else(if 0≤q∧q<(u.length:Int)then some ((decide ((j.getD v4.toNat 0)≥((u.getD q.toNat []).length:Int))))else none))).bind fun v=>(if v=true then some (Sum.inr p)
 else(if 0≤q∧q<(u.length:Int)then(if 0≤(j.getD v4.toNat 0)∧(j.getD v4.toNat 0)<((u.getD q.toNat []).length:Int)then(if(p.length+([((u.getD q.toNat []).getD ((j.getD v4.toNat 0).toNat) 0)]:QK).length)*8≤140737488355328∧p.length+([((u.getD q.toNat []).getD ((j.getD v4.toNat 0).toNat) 0)]:QK).length≤9223372036854775807 then some (Sum.inl ((p++([((u.getD q.toNat []).getD ((j.getD v4.toNat 0).toNat) 0)]:QK)),((u.getD q.toNat []).getD ((j.getD v4.toNat 0).toNat) 0),(i64.wrap (v4+1))))else none)else none)else none)))else none)
 else some (Sum.inr p))
def m8(q:QZ)(u j:QK):Option QK :=
 (if((q.length:Int) == 0)=true then some ([]:QK)
 else((iter (jT q j) (([0]:QK),0,0)).bind fun p=>some p))
theorem tO(x z A:Bool){C:QZ}{D j B:QK}(h:m8 C D j=some B):
  Pure Tryz.prog 49 [.agg [.p x (.slice (.slice (.int .i64))) C,.p z (.slice (.int .u32)) D],.p A (.slice (.int .i64)) j] (aK (bd false [⟨(.slice (.int .i64)),B⟩])):=by
 refine PB Tryz.func49 (fun Bw w0=>?_);unfold m8 at h;refine G (af (G (aC h (fun V h=>?_) (fun V h=>?_))))
 ·refine G (aw (ah ?_));obtain rfl:=sI h;exact RI [(.slice (.int .i64))]
 refine ae (ab (G (G (af (G (ak (cM h (fun(u,E,v4)=>aA [(2,.adr 0 0 2 0),(5,.sl 1),(6,.i64 E),(14,.p A (.slice (.int .i64)) j),(15,.i64 (j.length:Int)),(16,.i64 v4)] (Mn x C z D u) 2) 0 (fun v=>aA [(5,.sl 0)] [(0,.arr 3 (.int .i64) v)] 1) (gg [] [0,48]) (fun y o h=>?_) (fun v h=>?_))))))))
 ·obtain⟨u,E,v4⟩:=y;unfold jT at h;refine G (af (aC h (fun I h=>?_) (fun I h=>?_)))
  ·refine ae (ab (af (ak (GC 0 h (fun h=>af (af (bz h (fun J=>aA [(2,.adr 0 0 2 0),(5,.sl 1),(6,.i64 E),(8,.i64 (j.getD v4.toNat 0)),(14,.p A (.slice (.int .i64)) j),(15,.i64 (j.length:Int)),(16,.i64 v4),(31,.bo J)] (Mn x C z D u) 2) (fun J h=>?_) (fun J h=>?_))))))))
   ·rcases aM h with⟨q,h⟩ | ⟨q,h⟩
    ·exact bC ⟨[(2,true),(11,true)],[]⟩ [(3,11,oc q)] (eN h (gg [] [0,1]))
    obtain⟨L,h⟩:=aD h;exact bC ⟨[(2,false),(11,false)],[]⟩ [(3,6,an q),(7,7,oc (And.intro q L)),(8,10,an q),(11,11,oc q)] (eN h (gg [] [0,1]))
   refine ab (aC h (fun M h=>?_) (fun M h=>?_))
   ·refine av (aP (jG rfl (aP ?_)));exact eX h (gg [] [1])
   refine ae (ab ?_);obtain⟨N,O,h⟩:=g2 h;refine GN a0 [(3,3,oc N),(6,6,oc O)] (xq 3 h (fun h=>ay (ab (Ge ?_))));exact eB h (gg [] [0,98])
  refine av (aP ?_);exact eX h (gg [] [1])
 refine az (ab (G (aw ?_)));obtain rfl:=sI h;exact RI [(.slice (.int .i64))]
def bR  : (QK×Int×Int)→Option ((QK×Int×Int)⊕QK):=fun(j,p,q) =>
 (if(decide (p<q))=true then(if 0≤q∧q<(j.length:Int)then(if q.toNat<j.length then(if 0≤p∧p<(j.length:Int)then(if p.toNat<j.length then(if 0≤p∧p<(j.length:Int)then(if p.toNat<j.length then(if 0≤q∧q<((j.set p.toNat (j.getD q.toNat 0)).length:Int)then(if q.toNat<(j.set p.toNat (j.getD q.toNat 0)).length then some (Sum.inl (((j.set p.toNat (j.getD q.toNat 0)).set q.toNat (j.getD p.toNat 0)),(i64.wrap (p+1)),(i64.wrap (q - 1))))else none)else none)else none)else none)else none)else none)else none)else none)
 else some (Sum.inr j))
def cm(j:QK):Option QK :=
 ((iter (bR) (j,0,(i64.wrap ((j.length:Int) - 1)))).bind fun p=>some p)
theorem km{D j:QK}(h:cm D=some j):
  jD Tryz.prog 50 [.sl 0] [(0,.arr 3 (.int .i64) D)] (.tup []) [(0,.arr 3 (.int .i64) j)]:=by
 refine OB Tryz.func50 (fun Bw w0=>?_);unfold cm at h;refine G (ak (cM h (fun(E,I,J)=>aA [(0,.sl 0),(2,.i64 I),(3,.i64 J)] [(0,.arr 3 (.int .i64) E)] 1 1) 0 (fun p=>aA [] [(0,.arr 3 (.int .i64) p)] 1 1) (gg [] [0]) (fun y o h=>?_) (fun p h=>?_)))
 ·obtain⟨E,I,J⟩:=y;unfold bR at h;refine af (G (aC h (fun L h=>?_) (fun L h=>?_)))
  ·refine ae (ab (af (ak ?_)));obtain⟨q,u,v,x,h⟩:=g4 h;obtain⟨z,A,B,C,h⟩:=g4 h;refine nf a0 [(6,6,oc q),(7,7,oc u),(10,10,oc v),(11,11,oc x),(12,12,oc z),(13,13,oc A),(14,14,oc B),(15,15,oc C)] (ay (ab (Ge ?_)));exact eB h (gg [] [0])
  refine av (aP ?_);exact eX h (gg [] [0])
 refine az ?_;obtain rfl:=sI h;exact(RO [] [] [0] [] [(0,.arr 3 (.int .i64) p)] 1 1).normal
def gC(j:Int):Option (Int):=some (pU j)
theorem lz(x:Int)(w:World)(hl:tM Tryz.prog w):Calls Tryz.prog 51 #[.int .u32 x] w fun e j=>e = .returned (.int .i64 (pU x))∧j=w:=by
 have hc:w.cell? ⟨1,(bits BinOp.and u32 x (-x % 4294967296)*125613361 % 4294967296 / 134217728).toNat,none⟩=some (.int .u8 (Kg.getD (bits BinOp.and u32 x (-x % 4294967296)*125613361 % 4294967296 / 134217728).toNat 0)):=hl 1 (by kernel_rfl) _ (Hq _);go_enter Tryz.func51,Tryz.ntmps51;go_wp2
 ·rename_i h;go_ret
  exact⟨by rw[FF h];rfl,rfl⟩
 rename_i h;go_ret
 exact⟨by rw[←G0 h,List.getD_eq_getElem?_getD];rfl,rfl⟩
theorem mW{p j:Int}(h:gC p=some j):
  Pure Tryz.prog 51 [.u32 p] (aK (bd false [⟨(.int .i64),j⟩])):=by
 obtain rfl:=sI h;exact Pure.MC Tryz.func51 (by kernel_rfl) rfl (fun w=>lz _ w)
def dn(q:Option Z5)(u:QK):(QK×QK×Bool×Int)→Option ((QK×QK×Bool×Int)⊕Z8):=fun(v10,v11,v,j) =>
 (if(decide (j<(u.length:Int)))=true then(if 0≤j∧j<(u.length:Int)then(((if(decide ((u.getD j.toNat 0)<0))=true then some (true)
 else(if q.isSome=true then some ((decide ((u.getD j.toNat 0)≥(((q.getD (Ty.zero mQ)).1.1).length:Int))))else none))).bind fun x=>(((if x=true then some (0)
 else some ((u.getD j.toNat 0)))).bind fun p=>(((if v=true then(if q.isSome=true then(if 0≤p then some (((bitsOf .and .u32 (Int.fdiv ((q.getD (Ty.zero mQ)).1.2.1) (2 ^ (min p.toNat u32.bits))) (1:Int)) == 1))else none)else none)
 else some (false))).bind fun z=>(if z=true then some (Sum.inl (v10,v11,v,(i64.wrap (j+1))))
 else(if q.isSome=true then(if 0≤p then(if(v10.length+([j]:QK).length)*8≤140737488355328∧v10.length+([j]:QK).length≤9223372036854775807 then(if q.isSome=true then(if 0≤p∧p<(((q.getD (Ty.zero mQ)).1.2.2.2.1).length:Int)then(if(v11.length+([(((q.getD (Ty.zero mQ)).1.2.2.2.1).getD p.toNat 0)]:QK).length)*8≤140737488355328∧v11.length+([(((q.getD (Ty.zero mQ)).1.2.2.2.1).getD p.toNat 0)]:QK).length≤9223372036854775807 then some (Sum.inl ((v10++([j]:QK)),(v11++([(((q.getD (Ty.zero mQ)).1.2.2.2.1).getD p.toNat 0)]:QK)),((bitsOf .and .u32 (Int.fdiv ((q.getD (Ty.zero mQ)).1.2.2.1) (2 ^ (min p.toNat u32.bits))) (1:Int)) == 1),(i64.wrap (j+1))))else none)else none)else none)else none)else none)else none)))))else none)
 else some (Sum.inr (v10,v11)))
def dr(u:Option Z5)(p z A:QK):uZ→Option (uZ⊕QK):=fun(q,j) =>
 (if(decide (j<(p.length:Int)))=true then(if u.isSome=true then(if 0≤j∧j<(z.length:Int)then(if 0≤(z.getD j.toNat 0)∧(z.getD j.toNat 0)<(((u.getD (Ty.zero mQ)).2.1.2).length:Int)then(if u.isSome=true then(if 0≤(i64.wrap ((p.length:Int) - j))∧(i64.wrap ((p.length:Int) - j))<(A.length:Int)then(if 0≤(A.getD ((i64.wrap ((p.length:Int) - j)).toNat) 0)∧(A.getD ((i64.wrap ((p.length:Int) - j)).toNat) 0)<(((u.getD (Ty.zero mQ)).2.2.2).length:Int)then(if 0≤j∧j<(p.length:Int)then(if j.toNat<p.length then(if 0≤(p.getD j.toNat 0)∧(p.getD j.toNat 0)<(q.length:Int)then(if(p.getD j.toNat 0).toNat<q.length then(((if((bitsOf .and .u32 (((u.getD (Ty.zero mQ)).2.1.2).getD ((z.getD j.toNat 0).toNat) 0) (((u.getD (Ty.zero mQ)).2.2.2).getD ((A.getD ((i64.wrap ((p.length:Int) - j)).toNat) 0).toNat) 0)) != 0)=true then(if 0≤j∧j<(p.length:Int)then(if j.toNat<p.length then(if u.isSome=true then((gC (bitsOf .and .u32 (((u.getD (Ty.zero mQ)).2.1.2).getD ((z.getD j.toNat 0).toNat) 0) (((u.getD (Ty.zero mQ)).2.2.2).getD ((A.getD ((i64.wrap ((p.length:Int) - j)).toNat) 0).toNat) 0))).bind fun x =>
 (if 0≤x∧x<(((u.getD (Ty.zero mQ)).1.2.2.2.2).length:Int)then(if 0≤(p.getD j.toNat 0)∧(p.getD j.toNat 0)<((q.set ((p.getD j.toNat 0).toNat) 1).length:Int)then(if(p.getD j.toNat 0).toNat<(q.set ((p.getD j.toNat 0).toNat) 1).length then some (((q.set ((p.getD j.toNat 0).toNat) 1).set ((p.getD j.toNat 0).toNat) ((((u.getD (Ty.zero mQ)).1.2.2.2.2).getD x.toNat (0,(Tree.node 0 0 []),(Tree.node 0 0 []))).1)))else none)else none)else none))else none)else none)else none)
 else some ((q.set ((p.getD j.toNat 0).toNat) 1)))).bind fun B=>some (Sum.inl (B,(i64.wrap (j+1)))))else none)else none)else none)else none)else none)else none)else none)else none)else none)else none)
 else some (Sum.inr q))
def eL(p:Option Z5)(j:QK):Option QK :=
 (if 0≤(i64.wrap ((j.length:Int)+1))∧(i64.wrap ((j.length:Int)+1))≤(i64.wrap ((j.length:Int)+1))∧1*(i64.wrap ((j.length:Int)+1))≤281474976710656∧(i64.wrap ((j.length:Int)+1))≤9223372036854775807 then(if 0≤(j.length:Int)∧(j.length:Int)<((List.replicate (i64.wrap ((j.length:Int)+1)).toNat (0:Int)).length:Int)then(if(j.length:Int).toNat<(List.replicate (i64.wrap ((j.length:Int)+1)).toNat (0:Int)).length then(if p.isNone=true then some ((List.replicate (i64.wrap ((j.length:Int)+1)).toNat (0:Int)).set ((j.length:Int).toNat) 2)
 else((iter (dn p j) (([]:QK),([]:QK),false,0)).bind fun(u,q)=>(if p.isSome=true then((m8 ((p.getD (Ty.zero mQ)).2.1.1) ((p.getD (Ty.zero mQ)).2.1.2) q).bind fun x =>
 ((cm q).bind fun z =>
 (if p.isSome=true then((m8 ((p.getD (Ty.zero mQ)).2.2.1) ((p.getD (Ty.zero mQ)).2.2.2) z).bind fun A =>
 ((iter (dr p u x A) (((List.replicate (i64.wrap ((j.length:Int)+1)).toNat (0:Int)).set ((j.length:Int).toNat) 2),1)).bind fun v=>some v))else none)))else none)))else none)else none)else none)
theorem lN(j A:Bool){C:Option Z5}{q N:QK}(h:eL C q=some N):
  Pure Tryz.prog 30 [.p j (.ptr mQ) C,.p A (.slice (.int .i64)) q] (aK (bd false [⟨(.slice (.int .u8)),N⟩])):=by
 refine PB Tryz.func30 (fun Bw w0=>?_);unfold eL at h;refine G (GC 3 h (fun h=>?_));obtain⟨c5,c6,h⟩:=g2 h;refine GN a0 [(3,3,oc c5),(4,4,oc c6)] (af (GN a0 [(1,1,⟨∃e,Tryz.prog.underlying 91=some (.pointer e),⟨_,rfl⟩⟩)] (aC h (fun B1 h=>?_) (fun B1 h=>?_))))
 ·refine G (aw (ah ?_));obtain rfl:=sI h;exact RI [(.slice (.int .u8))]
 refine ae (ab (G (G (af (G (ak (cM h (fun(v10,v11,B,u)=>aA [(0,.p j (.ptr mQ) C),(5,.sl 0),(6,.sl 1),(7,.sl 2),(8,.bo B),(26,.p A (.slice (.int .i64)) q),(27,.i64 (q.length:Int)),(28,.i64 u)] (GZ ((List.replicate (i64.wrap ((q.length:Int)+1)).toNat (0:Int)).set ((q.length:Int).toNat) 2) v10 v11) 3) 0 (fun(D,O)=>aA [(0,.p j (.ptr mQ) C),(5,.sl 0),(6,.sl 1),(7,.sl 2)] (GZ ((List.replicate (i64.wrap ((q.length:Int)+1)).toNat (0:Int)).set ((q.length:Int).toNat) 2) D O) 3) (gg [.nilS 6 152 3 (.int .i64),.nilS 7 153 3 (.int .i64)] [32,152,153]) (fun y o h=>?_) (fun r1 h=>?_))))))))
 ·obtain⟨v10,v11,B,u⟩:=y;unfold dn at h;refine G (af (aC h (fun b2 h=>?_) (fun b2 h=>?_)))
  ·refine ae (ab (af (ak (GC 1 h (fun h=>af (af (bz h (fun I=>aA [(0,.p j (.ptr mQ) C),(5,.sl 0),(6,.sl 1),(7,.sl 2),(8,.bo B),(9,.i64 u),(10,.i64 (q.getD u.toNat 0)),(26,.p A (.slice (.int .i64)) q),(27,.i64 (q.length:Int)),(28,.i64 u),(44,.bo I)] (GZ ((List.replicate (i64.wrap ((q.length:Int)+1)).toNat (0:Int)).set ((q.length:Int).toNat) 2) v10 v11) 3) (fun I h=>?_) (fun I h=>?_))))))))
   ·rcases aM h with⟨z,h⟩ | ⟨z,h⟩
    ·exact bC ⟨[(2,true),(11,true)],[]⟩ [(3,11,oc z)] (eN h (gg [] [0,1,2]))
    obtain⟨b3,h⟩:=aD h;exact bC ⟨[(2,false),(11,false)],[]⟩ [(3,4,an z),(5,5,oc (And.intro z b3)),(6,10,an z),(11,11,oc z)] (eN h (gg [] [0,1,2]))
   refine ab (bz h (fun E=>aA [(0,.p j (.ptr mQ) C),(5,.sl 0),(6,.sl 1),(7,.sl 2),(8,.bo B),(9,.i64 u),(10,.i64 E),(26,.p A (.slice (.int .i64)) q),(27,.i64 (q.length:Int)),(28,.i64 u)] (GZ ((List.replicate (i64.wrap ((q.length:Int)+1)).toNat (0:Int)).set ((q.length:Int).toNat) 2) v10 v11) 3) (fun E h=>?_) (fun E h=>?_))
   ·refine aC h (fun b4 h=>?_) (fun b4 h=>?_)
    ·exact Ge (eN h (gg [] [0,1,2]))
    exact ae (eN h (gg [] [0,1,2]))
   refine ab (af (af (bz h (fun J=>aA [(0,.p j (.ptr mQ) C),(5,.sl 0),(6,.sl 1),(7,.sl 2),(8,.bo B),(9,.i64 u),(10,.i64 E),(26,.p A (.slice (.int .i64)) q),(27,.i64 (q.length:Int)),(28,.i64 u),(56,.bo J)] (GZ ((List.replicate (i64.wrap ((q.length:Int)+1)).toNat (0:Int)).set ((q.length:Int).toNat) 2) v10 v11) 3) (fun J h=>?_) (fun J h=>?_))))
   ·rcases aM h with⟨v,h⟩ | ⟨v,h⟩
    ·obtain⟨b5,b6,h⟩:=g2 h;exact bC ⟨[(1,true),(11,true)],[]⟩ [(2,2,an v),(3,3,oc (And.intro v b5)),(4,7,an v),(8,8,oc (And.intro v b6)),(9,10,an v),(11,11,oc v)] (eN h (gg [] [0,1,2]))
    exact bC ⟨[(1,false),(11,false)],[]⟩ [(2,11,oc v)] (eN h (gg [] [0,1,2]))
   refine ab (aC h (fun b7 h=>?_) (fun b7 h=>?_))
   ·refine av (aP (az (ab (Ge ?_))));exact eB h (gg [] [0,1,2])
   refine ae (ab ?_);obtain⟨b8,b9,h⟩:=g2 h;refine GN a0 [(1,1,oc b8),(6,6,oc b9)] ?_;obtain⟨be,bi,bs,bv,h⟩:=g4 h;refine nf a0 [(3,3,oc be),(6,6,oc bi),(11,11,oc bs),(14,14,oc bv)] (ay (ab (Ge ?_)));exact eB h (gg [] [0,107,195])
  refine av (aP ?_);exact eX h (gg [] [0,1,2])
 obtain⟨D,O⟩:=r1;refine az (ab ?_);obtain⟨bx,h⟩:=aD h;obtain⟨r3,q2,h⟩:=aj h;have x:=(tO j j true q2);refine GN ⟨[],[(5,(oP x))]⟩ [(1,1,oc bx),(5,5,oc x)] ?_;obtain⟨r5,q4,h⟩:=aj h;refine GO 1 [2] (km q4) ?_;obtain⟨c1,h⟩:=aD h;obtain⟨r7,q6,h⟩:=aj h;have x:=(tO j j true q6);refine GN ⟨[],[(5,(oP x))]⟩ [(1,1,oc c1),(5,5,oc x)] (af (G (ak (cM h (fun(V,L)=>aA [(0,.p j (.ptr mQ) C),(5,.sl 0),(6,.sl 1),(11,.p false (.slice (.int .i64)) r3),(12,.p false (.slice (.int .i64)) r7),(13,.i64 L)] [(0,.arr 60 (.int .u8) V),(1,.arr 3 (.int .i64) D)] 2) 2 (fun X=>aA [(5,.sl 0)] [(0,.arr 60 (.int .u8) X)] 1) (gg [] [0,1]) (fun y o h=>?_) (fun X h=>?_)))))
 ·obtain⟨V,L⟩:=y;unfold dr at h;refine af (G (aC h (fun c2 h=>?_) (fun c2 h=>?_)))
  ·refine ae (ab (af (ak ?_)));obtain⟨Y,Z,a1,a2,h⟩:=g4 h;obtain⟨a3,a4,h⟩:=g2 h;refine GD a0 [(1,1,oc Y),(7,7,oc Z),(9,9,oc a1),(12,12,oc a2),(21,21,oc a3),(23,23,oc a4)] ?_;obtain⟨a5,a6,a7,a8,h⟩:=g4 h;refine GN a0 [(3,3,oc a5),(4,4,oc a6),(5,5,oc a7),(6,6,oc a8)] (G (bz h (fun M=>aA [(0,.p j (.ptr mQ) C),(5,.sl 0),(6,.sl 1),(11,.p false (.slice (.int .i64)) r3),(12,.p false (.slice (.int .i64)) r7),(13,.i64 L)] [(0,.arr 60 (.int .u8) M),(1,.arr 3 (.int .i64) D)] 2) (fun M h=>?_) (fun M h=>?_)))
   ·refine aC h (fun c3 h=>?_) (fun c3 h=>?_)
    ·obtain⟨a9,aa,ac,h⟩:=g3 h;obtain⟨c7,c4,h⟩:=aj h;obtain⟨ad,ax,b1,h⟩:=g3 h;have x:=(mW c4);exact nf ⟨[],[(11,(oP x))]⟩ [(3,3,oc a9),(4,4,oc aa),(6,6,oc ac),(11,11,oc x),(12,12,oc ad),(15,15,oc ax),(16,16,oc b1)] (eN h (gg [] [0,1]))
    exact ae (eN h (gg [] [0,1]))
   refine ay (ab (Ge ?_));exact eB h (gg [] [0,1])
  refine av (aP ?_);exact eX h (gg [] [0])
 refine az (ab (G (aw ?_)));obtain rfl:=sI h;exact RI [(.slice (.int .u8))]
def eC(j:Int)(p:Option Z3)(q:Int):Option (Bool) :=
 (if p.isSome=true then(if 0≤j∧j<(((p.getD (Ty.zero nq)).1).length:Int)then some (decide (((((p.getD (Ty.zero nq)).1).getD j.toNat (0,0,0)).2.1)≥q))else none)else none)
theorem mC(q:Bool){u:Int}{v:Option Z3}{x:Int}{j:Bool}(h:eC u v x=some j):
  Pure Tryz.prog 75 [.i64 u,.fad true [.p q (.ptr nq) v] 0,.fad true [.i32 x] 0] (aK (bd false [⟨.bool,j⟩])):=by
 refine PB Tryz.func75 (fun Bw w0=>?_);unfold eC at h;refine G ?_;obtain⟨z,A,h⟩:=g2 h;refine GD a0 [(1,1,oc z),(5,5,oc A)] (aw ?_);obtain rfl:=sI h;exact RI [.bool]
def pg(q:Option Z3)(u:Int):(Int×Int)→Option ((Int×Int)⊕(Int)):=fun(j,p) =>
 (if(decide (j<p))=true then(if 0≤(1:Int)then((eC (i64.wrap (Int.fdiv (u64.wrap (i64.wrap (j+p))) (2 ^ (min (1:Int).toNat u64.bits)))) q u).bind fun v =>
 (if(!v)=true then some (Sum.inl ((i64.wrap ((i64.wrap (Int.fdiv (u64.wrap (i64.wrap (j+p))) (2 ^ (min (1:Int).toNat u64.bits))))+1)),p))
 else some (Sum.inl (j,(i64.wrap (Int.fdiv (u64.wrap (i64.wrap (j+p))) (2 ^ (min (1:Int).toNat u64.bits))))))))else none)
 else some (Sum.inr j))
def oR(j:Int)(p:Option Z3)(q:Int):Option (Int) :=
 ((iter (pg p q) (0,j)).bind fun u=>some u)
theorem wL(j:Bool){x:Int}{u:Option Z3}{v q:Int}(h:oR x u v=some q):
  Pure Tryz.prog 74 [.i64 x,.fn 75 [.fad true [.p j (.ptr nq) u] 0,.fad true [.i32 v] 0]] (aK (bd false [⟨(.int .i64),q⟩])):=by
 refine PB Tryz.func74 (fun Bw w0=>?_);unfold oR at h;refine G (G (af (ak (cM h (fun(z,A)=>aA [(1,.fn 75 [.fad true [.p j (.ptr nq) u] 0,.fad true [.i32 v] 0]),(5,.i64 z),(6,.i64 A)] [] 0) 0 (fun B=>aA [(5,.i64 B)] [] 0) (gg [] []) (fun y o h=>?_) (fun B h=>?_)))))
 ·obtain⟨z,A⟩:=y;unfold pg at h;refine af (G (aC h (fun C h=>?_) (fun C h=>?_)))
  ·refine ae (ab (ak (GC 4 h (fun h=>?_))));obtain⟨I,D,h⟩:=aj h;refine GP 2 (mC j D) (aC h (fun E h=>?_) (fun E h=>?_))
   ·refine Ge (ay ?_);exact eB h (gg [] [])
   refine Ge (ay ?_);exact eB h (gg [] [])
  refine av (aP ?_);exact eX h (gg [] [])
 refine az (ab (G (aw ?_)));obtain rfl:=sI h;exact RI [(.int .i64)]
def dO(h1:Option Z3)(p:Int):Option (Int×Bool) :=
 (if h1.isNone=true then some (0,false)
 else(if h1.isSome=true then((oR (((h1.getD (Ty.zero nq)).1).length:Int) h1 p).bind fun j =>
 (((if h1.isSome=true then(if(j == (((h1.getD (Ty.zero nq)).1).length:Int))=true then some (true)
 else(if h1.isSome=true then(if 0≤j∧j<(((h1.getD (Ty.zero nq)).1).length:Int)then some ((decide (((((h1.getD (Ty.zero nq)).1).getD j.toNat (0,0,0)).1) > p)))else none)else none))else none)).bind fun v1=>(if v1=true then some (0,false)
 else(if h1.isSome=true then(if 0≤j∧j<(((h1.getD (Ty.zero nq)).1).length:Int)then(if h1.isSome=true then(if 0≤j∧j<(((h1.getD (Ty.zero nq)).1).length:Int)then some ((i32.wrap ((i32.wrap ((i32.wrap ((((h1.getD (Ty.zero nq)).1).getD j.toNat (0,0,0)).2.2))+p)) - ((((h1.getD (Ty.zero nq)).1).getD j.toNat (0,0,0)).1))),true)else none)else none)else none)else none))))else none))
theorem nK(q:Bool){h1:Option Z3}{x:Int}{u:Int×Bool}(h:dO h1 x=some u):
  Pure Tryz.prog 53 [.p q (.ptr nq) h1,.i32 x] (aK (bd false [⟨(.int .i32),u.1⟩,⟨.bool,u.2⟩])):=by
 refine PB Tryz.func53 (fun Bw w0=>?_);unfold dO at h;refine G (af (GN a0 [(1,1,⟨∃e,Tryz.prog.underlying 93=some (.pointer e),⟨_,rfl⟩⟩)] (aC h (fun J h=>?_) (fun J h=>?_))))
 ·refine G (aw (ah ?_));obtain rfl:=sI h;exact RI [(.int .i32),.bool]
 refine ae (ab ?_);obtain⟨L,h⟩:=aD h;obtain⟨M,N,h⟩:=aj h;have v:=(wL q N);refine GN ⟨[],[(6,(oP v))]⟩ [(1,1,oc L),(6,6,oc v)] (af (af (bz h (fun v1=>aA [(2,.adr 0 0 1 0),(3,.adr 1 0 1 0),(6,.i64 M),(34,.bo v1)] [(0,.box [.p q (.ptr nq) h1]),(1,.box [.i32 x])] 2) (fun v1 h=>?_) (fun v1 h=>?_))))
 ·obtain⟨I,h⟩:=aD h;rcases aM h with⟨j,h⟩ | ⟨j,h⟩
  ·exact nf ⟨[(7,true),(18,true)],[]⟩ [(2,2,oc I),(8,18,oc j)] (eN h (gg [] [0,8]))
  obtain⟨z,A,h⟩:=g2 h;exact nf ⟨[(7,false),(18,false)],[]⟩ [(2,2,oc I),(8,8,an j),(9,9,oc (And.intro j z)),(10,12,an j),(13,13,oc (And.intro j A)),(14,17,an j),(18,18,oc j)] (eN h (gg [] [0,8]))
 refine ab (aC h (fun O h=>?_) (fun O h=>?_))
 ·refine G (aw (ah ?_));obtain rfl:=sI h;exact RI [(.int .i32),.bool]
 refine ae (ab ?_);obtain⟨B,C,D,E,h⟩:=g4 h;refine GD a0 [(1,1,oc B),(5,5,oc C),(12,12,oc D),(16,16,oc E)] (aw ?_);obtain rfl:=sI h;exact RI [(.int .i32),.bool]
def kz(z:Option Hx)(q u:Int):uZ→Option (uZ⊕QK):=fun(p,j) =>
 (if(decide (j<(((((z.getD (Ty.zero tq)).1).getD u.toNat ([],([]:QK))).2).length:Int)))=true then(if 0≤j∧j<(((((z.getD (Ty.zero tq)).1).getD u.toNat ([],([]:QK))).2).length:Int)then(((if(decide ((i64.wrap ((i64.wrap (q+j)) - 1))≥0))=true then some ((decide ((i64.wrap ((i64.wrap (q+j)) - 1))<(p.length:Int))))
 else some (false))).bind fun v=>(((if v=true then(if 0≤(i64.wrap ((i64.wrap (q+j)) - 1))∧(i64.wrap ((i64.wrap (q+j)) - 1))<(p.length:Int)then(if(i64.wrap ((i64.wrap (q+j)) - 1)).toNat<p.length then(if 0≤(i64.wrap ((i64.wrap (q+j)) - 1))∧(i64.wrap ((i64.wrap (q+j)) - 1))<(p.length:Int)then(if(i64.wrap ((i64.wrap (q+j)) - 1)).toNat<p.length then some ((p.set ((i64.wrap ((i64.wrap (q+j)) - 1)).toNat) (max (p.getD ((i64.wrap ((i64.wrap (q+j)) - 1)).toNat) 0) (((((z.getD (Ty.zero tq)).1).getD u.toNat ([],([]:QK))).2).getD j.toNat 0))))else none)else none)else none)else none)
 else some (p))).bind fun x=>some (Sum.inl (x,(i64.wrap (j+1))))))else none)
 else some (Sum.inr p))
def kD(u:Option Hx)(v:QK)(z:Int):(QK×Int×Int)→Option ((QK×Int×Int)⊕QK):=fun(x,j,p) =>
 (if u.isSome=true then(if 0≤j∧j<(((u.getD (Ty.zero tq)).1).length:Int)then((iter (kz u z j) (x,0)).bind fun q=>(if(p == (((([46]:QK)++v)++([46]:QK)).length:Int))=true then some (Sum.inr q)
 else(if u.isSome=true then(if 0≤j∧j<(((u.getD (Ty.zero tq)).1).length:Int)then(if 0≤p∧p<(((([46]:QK)++v)++([46]:QK)).length:Int)then(if p.toNat<((([46]:QK)++v)++([46]:QK)).length then(if(!((bh (α:=Int) (.int .i32) ((((u.getD (Ty.zero tq)).1).getD j.toNat ([],([]:QK))).1) (((([46]:QK)++v)++([46]:QK)).getD p.toNat 0)).isSome))=true then some (Sum.inr q)
 else some (Sum.inl (q,((bh (α:=Int) (.int .i32) ((((u.getD (Ty.zero tq)).1).getD j.toNat ([],([]:QK))).1) (((([46]:QK)++v)++([46]:QK)).getD p.toNat 0)).getD 0),(i64.wrap (p+1)))))else none)else none)else none)else none)))else none)else none)
def ky(v:Option Hx)(u:QK):uZ→Option (uZ⊕QK):=fun(p,j) =>
 (if(decide (j<(((([46]:QK)++u)++([46]:QK)).length:Int)))=true then((iter (kD v u j) (p,0,j)).bind fun q=>some (Sum.inl (q,(i64.wrap (j+1)))))
 else some (Sum.inr p))
def fu(q:Option Hx)(j:QK):Option QK :=
 (if 0≤(i64.wrap ((j.length:Int)+1))∧(i64.wrap ((j.length:Int)+1))≤(i64.wrap ((j.length:Int)+1))∧1*(i64.wrap ((j.length:Int)+1))≤281474976710656∧(i64.wrap ((j.length:Int)+1))≤9223372036854775807 then(if q.isNone=true then some (List.replicate (i64.wrap ((j.length:Int)+1)).toNat (0:Int))
 else(if(([46]:QK).length+j.length)*4≤140737488355328∧([46]:QK).length+j.length≤9223372036854775807 then(if((([46]:QK)++j).length+([46]:QK).length)*4≤140737488355328∧(([46]:QK)++j).length+([46]:QK).length≤9223372036854775807 then((iter (ky q j) ((List.replicate (i64.wrap ((j.length:Int)+1)).toNat (0:Int)),0)).bind fun p=>some p)else none)else none))else none)
theorem pQ(u ad:Bool){z:Option Hx}{A M:QK}(h:fu z A=some M):
  Pure Tryz.prog 76 [.p u (.ptr tq) z,.p ad (.slice (.int .i32)) A] (aK (bd false [⟨(.slice (.int .u8)),M⟩])):=by
 refine PB Tryz.func76 (fun Bw w0=>?_);unfold fu at h;refine G (GC 3 h (fun h=>af (GN a0 [(1,1,⟨∃e,Tryz.prog.underlying 177=some (.pointer e),⟨_,rfl⟩⟩)] (aC h (fun B1 h=>?_) (fun B1 h=>?_)))))
 ·refine G (aw (ah ?_));obtain rfl:=sI h;exact RI [(.slice (.int .u8))]
 refine ae (ab ?_);obtain⟨c5,c6,h⟩:=g2 h;refine GN a0 [(2,2,oc c5),(4,4,oc c6)] (af (G (ak (cM h (fun(N,q)=>aA [(0,.p u (.ptr tq) z),(5,.sl 0),(6,.sl 1),(28,.i64 (((([46]:QK)++A)++([46]:QK)).length:Int)),(29,.i64 q)] [(0,.arr 5 (.int .u8) N),(1,.arr 21 (.int .i32) ((([46]:QK)++A)++([46]:QK)))] 2) 0 (fun O=>aA [(5,.sl 0)] [(0,.arr 5 (.int .u8) O)] 1) (gg [] [32,96]) (fun y o h=>?_) (fun O h=>?_)))))
 ·obtain⟨N,q⟩:=y;unfold ky at h;refine G (af (aC h (fun V h=>?_) (fun V h=>?_)))
  ·refine ae (ab (af (ak (G (G (G (ak (cM h (fun(I,j,v)=>aA [(0,.p u (.ptr tq) z),(5,.sl 0),(6,.sl 1),(7,.i64 q),(8,.i64 j),(9,.i64 v),(28,.i64 (((([46]:QK)++A)++([46]:QK)).length:Int)),(29,.i64 q)] [(0,.arr 5 (.int .u8) I),(1,.arr 21 (.int .i32) ((([46]:QK)++A)++([46]:QK)))] 2) 2 (fun J=>aA [(0,.p u (.ptr tq) z),(5,.sl 0),(6,.sl 1),(28,.i64 (((([46]:QK)++A)++([46]:QK)).length:Int)),(29,.i64 q)] [(0,.arr 5 (.int .u8) J),(1,.arr 21 (.int .i32) ((([46]:QK)++A)++([46]:QK)))] 2) (gg [] [0,1]) (fun y o h=>?_) (fun J h=>?_)))))))))
   ·obtain⟨I,j,v⟩:=y;unfold kD at h;refine af (ak (af ?_));obtain⟨X,Y,h⟩:=g2 h;refine GN a0 [(1,1,oc X),(5,5,oc Y)] (ak ?_);refine cM h (fun(C,x)=>aA [(0,.p u (.ptr tq) z),(5,.sl 0),(6,.sl 1),(7,.i64 q),(8,.i64 j),(9,.i64 v),(28,.i64 (((([46]:QK)++A)++([46]:QK)).length:Int)),(29,.i64 q),(42,.p u (.slice (.int .u8)) ((((z.getD (Ty.zero tq)).1).getD j.toNat ([],([]:QK))).2)),(43,.i64 (((((z.getD (Ty.zero tq)).1).getD j.toNat ([],([]:QK))).2).length:Int)),(44,.i64 x)] [(0,.arr 5 (.int .u8) C),(1,.arr 21 (.int .i32) ((([46]:QK)++A)++([46]:QK)))] 2) 4 (fun L=>aA [(0,.p u (.ptr tq) z),(5,.sl 0),(6,.sl 1),(7,.i64 q),(8,.i64 j),(9,.i64 v),(28,.i64 (((([46]:QK)++A)++([46]:QK)).length:Int)),(29,.i64 q)] [(0,.arr 5 (.int .u8) L),(1,.arr 21 (.int .i32) ((([46]:QK)++A)++([46]:QK)))] 2) (gg [] [0,1]) (fun y o h=>?_) (fun L h=>?_)
    ·obtain⟨C,x⟩:=y;unfold kz at h;refine G (af (aC h (fun Z h=>?_) (fun Z h=>?_)))
     ·refine ae (ab (af (ak (GC 1 h (fun h=>G (af ?_))))));refine bz h (fun D=>aA [(0,.p u (.ptr tq) z),(5,.sl 0),(6,.sl 1),(7,.i64 q),(8,.i64 j),(9,.i64 v),(11,.u8 (((((z.getD (Ty.zero tq)).1).getD j.toNat ([],([]:QK))).2).getD x.toNat 0)),(12,.i64 (i64.wrap ((i64.wrap (q+x)) - 1))),(28,.i64 (((([46]:QK)++A)++([46]:QK)).length:Int)),(29,.i64 q),(42,.p u (.slice (.int .u8)) ((((z.getD (Ty.zero tq)).1).getD j.toNat ([],([]:QK))).2)),(43,.i64 (((((z.getD (Ty.zero tq)).1).getD j.toNat ([],([]:QK))).2).length:Int)),(44,.i64 x),(60,.bo D)] [(0,.arr 5 (.int .u8) C),(1,.arr 21 (.int .i32) ((([46]:QK)++A)++([46]:QK)))] 2) (fun D h=>?_) (fun D h=>?_)
      ·rcases aM h with⟨B,h⟩ | ⟨B,h⟩
       ·exact bC ⟨[(2,true),(7,true)],[]⟩ [(3,6,an B),(7,7,oc B)] (eN h (gg [] [0,1]))
       exact bC ⟨[(2,false),(7,false)],[]⟩ [(3,7,oc B)] (eN h (gg [] [0,1]))
      refine ab (bz h (fun E=>aA [(0,.p u (.ptr tq) z),(5,.sl 0),(6,.sl 1),(7,.i64 q),(8,.i64 j),(9,.i64 v),(28,.i64 (((([46]:QK)++A)++([46]:QK)).length:Int)),(29,.i64 q),(42,.p u (.slice (.int .u8)) ((((z.getD (Ty.zero tq)).1).getD j.toNat ([],([]:QK))).2)),(43,.i64 (((((z.getD (Ty.zero tq)).1).getD j.toNat ([],([]:QK))).2).length:Int)),(44,.i64 x)] [(0,.arr 5 (.int .u8) E),(1,.arr 21 (.int .i32) ((([46]:QK)++A)++([46]:QK)))] 2) (fun E h=>?_) (fun E h=>?_))
      ·refine aC h (fun a1 h=>?_) (fun a1 h=>?_)
       ·obtain⟨a2,a3,a4,a5,h⟩:=g4 h;exact bC a0 [(4,4,oc a2),(5,5,oc a3),(8,8,oc a4),(9,9,oc a5)] (eN h (gg [] [0,1]))
       exact ae (eN h (gg [] [0,1]))
      refine ay (ab (Ge ?_));exact eB h (gg [] [0,1])
     refine av (aP ?_);exact eX h (gg [] [0,1])
    refine az (ab (af (G (aC h (fun a6 h=>?_) (fun a6 h=>?_)))))
    ·refine av (aP (jG rfl (aP ?_)));exact eX h (gg [] [0,1])
    refine ae (ab ?_);obtain⟨a7,a8,a9,aa,h⟩:=g4 h;refine GD a0 [(1,1,oc a7),(5,5,oc a8),(10,10,oc a9),(11,11,oc aa)] (af (G (aC h (fun ac h=>?_) (fun ac h=>?_))))
    ·refine av (aP (jG rfl (aP ?_)));exact eX h (gg [] [0,1])
    refine ae (ab (Ge (ay (ab (Ge ?_)))));exact eB h (gg [] [0,1])
   refine az (ay (ab (Ge ?_)));exact eB h (gg [] [0,1])
  refine av (aP ?_);exact eX h (gg [] [0])
 refine az (ab (G (aw ?_)));obtain rfl:=sI h;exact RI [(.slice (.int .u8))]
def gV(j u p:QK):Option (Bool) :=
 ((cy j p).bind fun q =>
 some q)
theorem nC(j v q:Bool){x z A:QK}{u:Bool}(h:gV x z A=some u):
  Pure Tryz.prog 78 [.agg [.p j (.slice (.int .i32)) x,.p v (.slice (.int .u8)) z],.fad true [.p q (.slice (.int .i32)) A] 0] (aK (bd false [⟨.bool,u⟩])):=by
 refine PB Tryz.func78 (fun Bw w0=>?_);unfold gV at h;refine G ?_;obtain⟨C,B,h⟩:=aj h;refine GP 3 (gn j q B) (aw ?_);obtain rfl:=sI h;exact RI [.bool]
def lX(p:List Z8)(q:QK):(Int)→Option ((Int)⊕((Unit)⊕(Int))):=fun j =>
 (if(decide (j<(p.length:Int)))=true then(if 0≤j∧j<(p.length:Int)then((gV ((p.getD j.toNat ([],([]:QK))).1) ((p.getD j.toNat ([],([]:QK))).2) q).bind fun u =>
 (if u=true then some (Sum.inr (Sum.inr j))
 else some (Sum.inl (i64.wrap (j+1)))))else none)
 else some (Sum.inr (Sum.inl ())))
def iU(j:List Z8)(p:QK):Option (Int) :=
 ((iter (lX j p) (0:Int)).bind fun(q:((Unit)⊕(Int)))=>match q with
 | .inl _=>some (-1:Int)
 | .inr (u)=>some u)
theorem rM(j q:Bool){x:List Z8}{z:QK}{u:Int}(h:iU x z=some u):
  Pure Tryz.prog 77 [.p j (.slice qM) x,.fn 78 [.fad true [.p q (.slice (.int .i32)) z] 0]] (aK (bd false [⟨(.int .i64),u⟩])):=by
 refine PB Tryz.func77 (fun Bw w0=>?_);unfold iU at h;refine G (af (G (ak (kg h (fun B=>aA [(0,.p j (.slice qM) x),(1,.fn 78 [.fad true [.p q (.slice (.int .i32)) z] 0]),(7,.i64 (x.length:Int)),(8,.i64 B)] [] 0) (dy (fj Tryz.f77.ntmps 0 (fun _=>aA [] [] 0)) (gr tb Tryz.f77.results.toList (fun C=>[⟨(.int .i64),C⟩]))) (gg [] []) (fun B o h=>?_) (fun E h e σ' D=>?_)))))
 ·unfold lX at h;refine G (af (aC h (fun I h=>?_) (fun I h=>?_)))
  ·refine ae (ab (af (ak (G ?_))));obtain⟨J,h⟩:=aD h;obtain⟨O,L,h⟩:=aj h;have v:=(nC j j q L);refine GN ⟨[],[(5,(oP v))]⟩ [(3,3,oc J),(5,5,oc v)] (aC h (fun M h=>?_) (fun M h=>?_))
   ·refine G (aw ?_);obtain rfl:=sI h;refine au (ah (bK (aL ?_)));exact bH (RI [(.int .i64)])
   refine ae (ay (ab (Ge ?_)));exact eB h (gg [] [])
  refine av (aP ?_);obtain rfl:=sI h;refine dL (bk ?_);exact bS (gg [] [])
 rcases E with _ | C
 ·obtain⟨rfl,A⟩:=D;refine cF ?_ A;refine az (ab (G (aw ?_)));obtain rfl:=sI h;exact RI [(.int .i64)]
 obtain⟨rfl,N⟩:=D;refine au (ah ?_);obtain rfl:=sI h;exact N
def gE(h1:Option Z3)(u j:QK):((List Bool)×Int)→Option (((List Bool)×Int)⊕(List Bool)):=fun(p,q) =>
 (if h1.isSome=true then(if(decide (q≤(i64.wrap ((u.length:Int) - ((h1.getD (Ty.zero nq)).2.2.2.2)))))=true then(if 0≤q∧q<(j.length:Int)then(if ¬(2:Int)=0 then(if 0≤q∧q<(p.length:Int)then(if q.toNat<p.length then some (Sum.inl ((p.set q.toNat ((Int.tmod (j.getD q.toNat 0) (2:Int)) == 1)),(i64.wrap (q+1))))else none)else none)else none)else none)
 else some (Sum.inr p))else none)
def fc(h1:Option Z3)(j:QK):Option (List Bool) :=
 (if 0≤(i64.wrap ((j.length:Int)+1))∧(i64.wrap ((j.length:Int)+1))≤(i64.wrap ((j.length:Int)+1))∧1*(i64.wrap ((j.length:Int)+1))≤281474976710656∧(i64.wrap ((j.length:Int)+1))≤9223372036854775807 then(if h1.isNone=true then some (List.replicate (i64.wrap ((j.length:Int)+1)).toNat false)
 else(if h1.isSome=true then((fu ((h1.getD (Ty.zero nq)).2.1) j).bind fun v =>
 (if h1.isSome=true then((iU ((h1.getD (Ty.zero nq)).2.2.1) j).bind fun u =>
 (((if(decide (u≥0))=true then(if h1.isSome=true then(if 0≤u∧u<(((h1.getD (Ty.zero nq)).2.2.1).length:Int)then some ((((h1.getD (Ty.zero nq)).2.2.1).getD u.toNat ([],([]:QK))).2)else none)else none)
 else some (v))).bind fun p=>(if h1.isSome=true then((iter (gE h1 j p) ((List.replicate (i64.wrap ((j.length:Int)+1)).toNat false),(h1.getD (Ty.zero nq)).2.2.2.1)).bind fun q=>some q)else none)))else none))else none))else none)
theorem oZ(u:Bool){h1:Option Z3}{q:QK}{A:List Bool}(h:fc h1 q=some A):
  Pure Tryz.prog 54 [.p false (.ptr nq) h1,.p u (.slice (.int .i32)) q] (aK (bd false [⟨(.slice .bool),A⟩])):=by
 refine PB Tryz.func54 (fun Bw w0=>?_);unfold fc at h;refine G (GC 3 h (fun h=>af (GN a0 [(1,1,⟨∃e,Tryz.prog.underlying 93=some (.pointer e),⟨_,rfl⟩⟩)] (aC h (fun N h=>?_) (fun N h=>?_)))))
 ·refine G (aw (ah ?_));obtain rfl:=sI h;exact RI [(.slice .bool)]
 refine ae (ab ?_);obtain⟨O,h⟩:=aD h;obtain⟨r2,V,h⟩:=aj h;have v:=(pQ false u V);refine GD ⟨[],[(5,(oP v))]⟩ [(1,1,oc O),(5,5,oc v)] (af ?_);obtain⟨X,h⟩:=aD h;obtain⟨r4,Y,h⟩:=aj h;have v:=(rM false u Y);refine GN ⟨[],[(5,(oP v))]⟩ [(1,1,oc X),(5,5,oc v)] (G (bz h (fun j=>aA [(0,.p false (.ptr nq) h1),(3,.adr 0 0 1 0),(5,.sl 1),(6,.p false (.slice (.int .u8)) j)] (LY u q (List.replicate (i64.wrap ((q.length:Int)+1)).toNat false)) 2) (fun j h=>?_) (fun j h=>?_)))
 ·refine aC h (fun Z h=>?_) (fun Z h=>?_)
  ·obtain⟨B,C,h⟩:=g2 h;exact bC a0 [(1,1,oc B),(5,5,oc C)] (eN h (gg [] [0,40]))
  exact ae (eN h (gg [] [0,40]))
 refine ab (af (GC 1 h (fun h=>ak (cM h (fun(x,M)=>aA [(0,.p false (.ptr nq) h1),(3,.adr 0 0 1 0),(5,.sl 1),(6,.p false (.slice (.int .u8)) j),(8,.i64 M)] (LY u q x) 2) 0 (fun z=>aA [(5,.sl 0)] [(0,.arr 4 .bool z)] 1) (gg [] [0,1]) (fun y o h=>?_) (fun z h=>?_)))))
 ·obtain⟨x,M⟩:=y;unfold gE at h;refine af ?_;obtain⟨D,h⟩:=aD h;refine GD a0 [(4,4,oc D)] (aC h (fun B6 h=>?_) (fun B6 h=>?_))
  ·refine ae (ab (af (ak ?_)));obtain⟨E,I,J,L,h⟩:=g4 h;refine bC a0 [(4,4,oc E),(6,6,oc I),(8,8,oc J),(9,9,oc L)] (ay (ab (Ge ?_)));exact eB h (gg [] [0,1])
  refine av (aP ?_);exact eX h (gg [] [1])
 refine az (ab (G (aw ?_)));obtain rfl:=sI h;exact RI [(.slice .bool)]
def iW(h1:Option Z3)(u:XK):(Int×QK)→Option ((Int×QK)⊕(Int×QK)):=fun(p,j) =>
 (if(decide (p<(u.length:Int)))=true then(if 0≤p∧p<(u.length:Int)then((dO h1 ((u.getD p.toNat (0,0,0)).1)).bind fun(q,v) =>
 (if(!v)=true then some (Sum.inr (p,j))
 else(if(j.length+([q]:QK).length)*4≤140737488355328∧j.length+([q]:QK).length≤9223372036854775807 then some (Sum.inl ((i64.wrap (p+1)),(j++([q]:QK))))else none)))else none)
 else some (Sum.inr (p,j)))
def jj(h1:Option Z3)(v:XK):((List Bool)×Int)→Option (((List Bool)×Int)⊕(List Bool)):=fun(p,i8) =>
 (if(decide (i8<(v.length:Int)))=true then((iter (iW h1 v) (i8,([]:QK))).bind fun(u,j)=>(if 0≤i8∧i8≤(p.length:Int)then((fc h1 j).bind fun q =>
 (if 0≤(0:Int)∧0≤(j.length:Int)∧(j.length:Int)≤(q.length:Int)then some (Sum.inl ((p.take i8.toNat++(((q.take (j.length:Int).toNat).drop (0:Int).toNat).take (p.length - i8.toNat)++p.drop (i8.toNat+((q.take (j.length:Int).toNat).drop (0:Int).toNat).length))),(i64.wrap (u+1))))else none))else none))
 else some (Sum.inr p))
def dQ(h1:Option Z3)(j:XK):Option (List Bool) :=
 (if 0≤(i64.wrap ((j.length:Int)+1))∧(i64.wrap ((j.length:Int)+1))≤(i64.wrap ((j.length:Int)+1))∧1*(i64.wrap ((j.length:Int)+1))≤281474976710656∧(i64.wrap ((j.length:Int)+1))≤9223372036854775807 then((iter (jj h1 j) ((List.replicate (i64.wrap ((j.length:Int)+1)).toNat false),0)).bind fun p=>some p)else none)
theorem nT(x:Bool){h1:Option Z3}{A:XK}{B:List Bool}(h:dQ h1 A=some B):
  Pure Tryz.prog 32 [.p false (.ptr nq) h1,.p x (.slice (.prod (.int .i32) Y2)) A] (aK (bd false [⟨(.slice .bool),B⟩])):=by
 refine PB Tryz.func32 (fun Bw w0=>?_);unfold dQ at h;refine G (GC 3 h (fun h=>G (af (G (ak (cM h (fun(j,i8)=>aA [(0,.p false (.ptr nq) h1),(1,.p x (.slice (.prod (.int .i32) Y2)) A),(5,.sl 0),(6,.bfn 53 [.p false (.ptr nq) h1]),(7,.i64 i8)] [(0,.arr 4 .bool j)] 1) 0 (fun z=>aA [(5,.sl 0)] [(0,.arr 4 .bool z)] 1) (gg [] [32]) (fun y o h=>?_) (fun z h=>?_)))))))
 ·obtain⟨j,i8⟩:=y;unfold jj at h;refine af (G (aC h (fun E h=>?_) (fun E h=>?_)))
  ·refine ae (ab (af (ak (G (G (af (ak (cM h (fun(C,q)=>aA [(0,.p false (.ptr nq) h1),(1,.p x (.slice (.prod (.int .i32) Y2)) A),(5,.sl 0),(6,.bfn 53 [.p false (.ptr nq) h1]),(7,.i64 C),(8,.sl 1),(9,.i64 i8)] [(0,.arr 4 .bool j),(1,.arr 21 (.int .i32) q)] 2) 2 (fun(D,u)=>aA [(0,.p false (.ptr nq) h1),(1,.p x (.slice (.prod (.int .i32) Y2)) A),(5,.sl 0),(6,.bfn 53 [.p false (.ptr nq) h1]),(7,.i64 D),(8,.sl 1),(9,.i64 i8)] [(0,.arr 4 .bool j),(1,.arr 21 (.int .i32) u)] 2) (gg [.nilS 8 57 21 (.int .i32)] [0,57]) (fun y o h=>?_) (fun I h=>?_)))))))))
   ·obtain⟨C,q⟩:=y;unfold iW at h;refine af (G (aC h (fun J h=>?_) (fun J h=>?_)))
    ·refine ae (ab (af (ak ?_)));obtain⟨L,h⟩:=aD h;obtain⟨⟨Y,Z⟩,M,h⟩:=aj h;have v:=(nK false M);refine GN ⟨[],[(6,(oP v))]⟩ [(3,3,oc L),(6,6,oc v)] (af (G (aC h (fun N h=>?_) (fun N h=>?_))))
     ·refine av (aP (jG rfl (aP ?_)));exact eX h (gg [] [0,1])
     refine ae (ab (xq 3 h (fun h=>ay (ab (Ge ?_)))));exact eB h (gg [] [0,170])
    refine av (aP ?_);exact eX h (gg [] [0,1])
   obtain⟨D,u⟩:=I;refine az (ab ?_);obtain⟨O,h⟩:=aD h;obtain⟨a1,V,h⟩:=aj h;obtain⟨X,h⟩:=aD h;have v:=(oZ true V);refine nf ⟨[],[(5,(oP v))]⟩ [(2,2,oc O),(5,5,oc v),(8,8,oc X)] (ay (ab (Ge ?_)));exact eB h (gg [] [0])
  refine av (aP ?_);exact eX h (gg [] [0])
 refine az (ab (G (aw ?_)));obtain rfl:=sI h;exact RI [(.slice .bool)]
def lq(j:Int):Option (Int) :=
 (if(j == 32)=true then some 1
 else(if(j == 9)=true then some 2
 else some 0))
theorem yf{p j:Int}(h:lq p=some j):
  Pure Tryz.prog 73 [.i32 p] (aK (bd false [⟨(.int .u8),j⟩])):=by
 refine PB Tryz.func73 (fun Bw w0=>?_);unfold lq at h;refine G (af (G (ak (G (aC h (fun q h=>?_) (fun q h=>?_))))))
 ·refine G (aw (au (ah ?_)));obtain rfl:=sI h;exact RI [(.int .u8)]
 refine G (aC h (fun u h=>?_) (fun u h=>?_))
 ·refine G (aw (au (ah ?_)));obtain rfl:=sI h;exact RI [(.int .u8)]
 refine ae (ay (ab (G (aw ?_))));obtain rfl:=sI h;exact RI [(.int .u8)]
def dz(u:XK)(B:QK)(E:Option zr):(Qj×QK×Int)→Option ((Qj×QK×Int)⊕(Qj×QK)):=fun(v,z,p) =>
 (if(decide (p<(u.length:Int)))=true then(if 0≤p∧p<(u.length:Int)then(((if(p == 0)=true then some (true)
 else(if(decide (p<(B.length:Int)))=true then(if 0≤p∧p<(B.length:Int)then some (((B.getD p.toNat 0) != 0))else none)
 else some (false)))).bind fun C=>(((if C=true then((lq ((u.getD p.toNat (0,0,0)).1)).bind fun A =>
 (if(v.length+([((u.getD p.toNat (0,0,0)).2.1,0,0,A)]:Qj).length)*32≤140737488355328∧v.length+([((u.getD p.toNat (0,0,0)).2.1,0,0,A)]:Qj).length≤9223372036854775807 then(if(z.length+([p]:QK).length)*8≤140737488355328∧z.length+([p]:QK).length≤9223372036854775807 then some (((v++([((u.getD p.toNat (0,0,0)).2.1,0,0,A)]:Qj)),(z++([p]:QK))))else none)else none))
 else some ((v,z)))).bind fun(j,q)=>(if 0≤(i64.wrap ((j.length:Int) - 1))∧(i64.wrap ((j.length:Int) - 1))<(j.length:Int)then(if 0≤(i64.wrap ((q.length:Int) - 1))∧(i64.wrap ((q.length:Int) - 1))<(q.length:Int)then(if(i64.wrap ((q.length:Int) - 1)).toNat<q.length then(((if((q.getD ((i64.wrap ((q.length:Int) - 1)).toNat) 0) != p)=true then(if(i64.wrap ((j.length:Int) - 1)).toNat<j.length then some ((j.set ((i64.wrap ((j.length:Int) - 1)).toNat) ((j.getD ((i64.wrap ((j.length:Int) - 1)).toNat) (0,0,0,0)).1,(j.getD ((i64.wrap ((j.length:Int) - 1)).toNat) (0,0,0,0)).2.1,(j.getD ((i64.wrap ((j.length:Int) - 1)).toNat) (0,0,0,0)).2.2.1,0)))else none)
 else some (j))).bind fun v20=>(if(i64.wrap ((j.length:Int) - 1)).toNat<v20.length then(if(i64.wrap ((j.length:Int) - 1)).toNat<v20.length then(if(i64.wrap ((j.length:Int) - 1)).toNat<(v20.set ((i64.wrap ((j.length:Int) - 1)).toNat) ((v20.getD ((i64.wrap ((j.length:Int) - 1)).toNat) (0,0,0,0)).1,(i64.wrap (((v20.getD ((i64.wrap ((j.length:Int) - 1)).toNat) (0,0,0,0)).2.1)+((u.getD p.toNat (0,0,0)).2.2))),(v20.getD ((i64.wrap ((j.length:Int) - 1)).toNat) (0,0,0,0)).2.2.1,(v20.getD ((i64.wrap ((j.length:Int) - 1)).toNat) (0,0,0,0)).2.2.2)).length then((bf E ((u.getD p.toNat (0,0,0)).1)).bind fun D =>
 (if(i64.wrap ((j.length:Int) - 1)).toNat<(v20.set ((i64.wrap ((j.length:Int) - 1)).toNat) ((v20.getD ((i64.wrap ((j.length:Int) - 1)).toNat) (0,0,0,0)).1,(i64.wrap (((v20.getD ((i64.wrap ((j.length:Int) - 1)).toNat) (0,0,0,0)).2.1)+((u.getD p.toNat (0,0,0)).2.2))),(v20.getD ((i64.wrap ((j.length:Int) - 1)).toNat) (0,0,0,0)).2.2.1,(v20.getD ((i64.wrap ((j.length:Int) - 1)).toNat) (0,0,0,0)).2.2.2)).length then some (Sum.inl (((v20.set ((i64.wrap ((j.length:Int) - 1)).toNat) ((v20.getD ((i64.wrap ((j.length:Int) - 1)).toNat) (0,0,0,0)).1,(i64.wrap (((v20.getD ((i64.wrap ((j.length:Int) - 1)).toNat) (0,0,0,0)).2.1)+((u.getD p.toNat (0,0,0)).2.2))),(v20.getD ((i64.wrap ((j.length:Int) - 1)).toNat) (0,0,0,0)).2.2.1,(v20.getD ((i64.wrap ((j.length:Int) - 1)).toNat) (0,0,0,0)).2.2.2)).set ((i64.wrap ((j.length:Int) - 1)).toNat) (((v20.set ((i64.wrap ((j.length:Int) - 1)).toNat) ((v20.getD ((i64.wrap ((j.length:Int) - 1)).toNat) (0,0,0,0)).1,(i64.wrap (((v20.getD ((i64.wrap ((j.length:Int) - 1)).toNat) (0,0,0,0)).2.1)+((u.getD p.toNat (0,0,0)).2.2))),(v20.getD ((i64.wrap ((j.length:Int) - 1)).toNat) (0,0,0,0)).2.2.1,(v20.getD ((i64.wrap ((j.length:Int) - 1)).toNat) (0,0,0,0)).2.2.2)).getD ((i64.wrap ((j.length:Int) - 1)).toNat) (0,0,0,0)).1,((v20.set ((i64.wrap ((j.length:Int) - 1)).toNat) ((v20.getD ((i64.wrap ((j.length:Int) - 1)).toNat) (0,0,0,0)).1,(i64.wrap (((v20.getD ((i64.wrap ((j.length:Int) - 1)).toNat) (0,0,0,0)).2.1)+((u.getD p.toNat (0,0,0)).2.2))),(v20.getD ((i64.wrap ((j.length:Int) - 1)).toNat) (0,0,0,0)).2.2.1,(v20.getD ((i64.wrap ((j.length:Int) - 1)).toNat) (0,0,0,0)).2.2.2)).getD ((i64.wrap ((j.length:Int) - 1)).toNat) (0,0,0,0)).2.1,(max (((v20.set ((i64.wrap ((j.length:Int) - 1)).toNat) ((v20.getD ((i64.wrap ((j.length:Int) - 1)).toNat) (0,0,0,0)).1,(i64.wrap (((v20.getD ((i64.wrap ((j.length:Int) - 1)).toNat) (0,0,0,0)).2.1)+((u.getD p.toNat (0,0,0)).2.2))),(v20.getD ((i64.wrap ((j.length:Int) - 1)).toNat) (0,0,0,0)).2.2.1,(v20.getD ((i64.wrap ((j.length:Int) - 1)).toNat) (0,0,0,0)).2.2.2)).getD ((i64.wrap ((j.length:Int) - 1)).toNat) (0,0,0,0)).2.2.1) (min D 2)),((v20.set ((i64.wrap ((j.length:Int) - 1)).toNat) ((v20.getD ((i64.wrap ((j.length:Int) - 1)).toNat) (0,0,0,0)).1,(i64.wrap (((v20.getD ((i64.wrap ((j.length:Int) - 1)).toNat) (0,0,0,0)).2.1)+((u.getD p.toNat (0,0,0)).2.2))),(v20.getD ((i64.wrap ((j.length:Int) - 1)).toNat) (0,0,0,0)).2.2.1,(v20.getD ((i64.wrap ((j.length:Int) - 1)).toNat) (0,0,0,0)).2.2.2)).getD ((i64.wrap ((j.length:Int) - 1)).toNat) (0,0,0,0)).2.2.2)),q,(i64.wrap (p+1))))else none))else none)else none)else none))else none)else none)else none)))else none)
 else some (Sum.inr (v,z)))
def lA(p:XK)(u:QK)(v:Option zr):Option (Qj×QK) :=
 ((iter (dz p u v) (([]:Qj),([]:QK),0)).bind fun(q,j)=>(if(j.length+([(p.length:Int)]:QK).length)*8≤140737488355328∧j.length+([(p.length:Int)]:QK).length≤9223372036854775807 then some (q,(j++([(p.length:Int)]:QK)))else none))
theorem xG(u A z:Bool){q:XK}{M:QK}{N:Option zr}{C:Qj×QK}(h:lA q M N=some C):
  Pure Tryz.prog 48 [.p u (.slice (.prod (.int .i32) Y2)) q,.p A (.slice (.int .u8)) M,.p z (.ptr vU) N] (aK (bd false [⟨(.slice fk),C.1⟩,⟨(.slice (.int .i64)),C.2⟩])):=by
 refine PB Tryz.func48 (fun Bw w0=>?_);unfold lA at h;refine G (G (G (af (G (ak (cM h (fun(D,E,j)=>aA [(0,.p u (.slice (.prod (.int .i32) Y2)) q),(1,.p A (.slice (.int .u8)) M),(2,.p z (.ptr vU) N),(8,.sl 0),(9,.sl 1),(13,.p u (.slice (.prod (.int .i32) Y2)) q),(14,.i64 (q.length:Int)),(15,.i64 j)] [(0,.arr 125 fk D),(1,.arr 3 (.int .i64) E)] 2) 0 (fun(O,V)=>aA [(0,.p u (.slice (.prod (.int .i32) Y2)) q),(8,.sl 0),(9,.sl 1)] [(0,.arr 125 fk O),(1,.arr 3 (.int .i64) V)] 2) (gg [.nilS 8 56 125 fk,.nilS 9 57 3 (.int .i64)] [56,57]) (fun y o h=>?_) (fun Y h=>?_)))))))
 ·obtain⟨D,E,j⟩:=y;unfold dz at h;refine G (af (aC h (fun Z h=>?_) (fun Z h=>?_)))
  ·refine ae (ab (af (ak (GC 1 h (fun h=>af (af (bz h (fun I=>aA [(0,.p u (.slice (.prod (.int .i32) Y2)) q),(1,.p A (.slice (.int .u8)) M),(2,.p z (.ptr vU) N),(8,.sl 0),(9,.sl 1),(10,.i64 j),(11,.adr 2 0 3 0),(13,.p u (.slice (.prod (.int .i32) Y2)) q),(14,.i64 (q.length:Int)),(15,.i64 j),(34,.bo I)] (LB D E ((q.getD j.toNat (0,0,0)).1) ((q.getD j.toNat (0,0,0)).2.1) ((q.getD j.toNat (0,0,0)).2.2)) 3) (fun I h=>?_) (fun I h=>?_))))))))
   ·rcases aM h with⟨v,h⟩ | ⟨v,h⟩
    ·exact bC ⟨[(2,true),(14,true)],[]⟩ [(3,7,oc v),(13,14,oc v)] (eN h (gg [] [0,1,34]))
    rcases aM h with⟨x,h⟩ | ⟨x,h⟩
    ·obtain⟨a1,h⟩:=aD h;exact bC ⟨[(2,false),(7,true),(13,true),(14,false)],[]⟩ [(3,7,an v),(8,9,an x),(10,10,oc (And.intro x a1)),(11,12,an x),(13,13,oc (And.intro v x)),(14,14,oc v)] (eN h (gg [] [0,1,34]))
    exact bC ⟨[(2,false),(7,false),(13,false),(14,false)],[]⟩ [(3,7,an v),(8,12,oc x),(13,13,oc (And.intro v x)),(14,14,oc v)] (eN h (gg [] [0,1,34]))
   refine ab (bz h (fun(J,L)=>aA [(0,.p u (.slice (.prod (.int .i32) Y2)) q),(1,.p A (.slice (.int .u8)) M),(2,.p z (.ptr vU) N),(8,.sl 0),(9,.sl 1),(10,.i64 j),(11,.adr 2 0 3 0),(13,.p u (.slice (.prod (.int .i32) Y2)) q),(14,.i64 (q.length:Int)),(15,.i64 j)] (LB J L ((q.getD j.toNat (0,0,0)).1) ((q.getD j.toNat (0,0,0)).2.1) ((q.getD j.toNat (0,0,0)).2.2)) 3) (fun X h=>?_) (fun X h=>?_))
   ·refine aC h (fun a2 h=>?_) (fun a2 h=>?_)
    ·obtain⟨ax,a3,h⟩:=aj h;obtain⟨a4,h⟩:=aD h;have B:=(yf a3);refine GD ⟨[],[(5,(oP B))]⟩ [(5,5,oc B),(8,8,oc a4)] (xq 3 h (fun h=>?_));exact eN h (gg [] [67,107,2])
    exact ae (eN h (gg [] [0,1,2]))
   obtain⟨J,L⟩:=X;refine ab (GC 4 h (fun h=>af ?_));obtain⟨a5,a6,h⟩:=g2 h;refine GN a0 [(4,4,oc a5),(5,5,oc a6)] (bz h (fun v20=>aA [(0,.p u (.slice (.prod (.int .i32) Y2)) q),(1,.p A (.slice (.int .u8)) M),(2,.p z (.ptr vU) N),(8,.sl 0),(9,.sl 1),(11,.adr 2 0 3 0),(12,.adr 0 ((i64.wrap ((J.length:Int) - 1)).toNat) 4 0),(13,.p u (.slice (.prod (.int .i32) Y2)) q),(14,.i64 (q.length:Int)),(15,.i64 j)] (LB v20 L ((q.getD j.toNat (0,0,0)).1) ((q.getD j.toNat (0,0,0)).2.1) ((q.getD j.toNat (0,0,0)).2.2)) 3) (fun v20 h=>?_) (fun v20 h=>?_))
   ·refine aC h (fun a7 h=>?_) (fun a7 h=>?_)
    ·refine xq 3 h (fun h=>?_);exact eN h (gg [] [0,1,2])
    exact ae (eN h (gg [] [0,1,2]))
   refine ab ?_;obtain⟨a8,a9,h⟩:=g2 h;refine GD a0 [(3,3,oc a8),(9,9,oc a9)] ?_;obtain⟨aa,h⟩:=aD h;obtain⟨b1,ac,h⟩:=aj h;obtain⟨ad,h⟩:=aD h;have B:=(nb z ac);refine nf ⟨[],[(8,(oP B))]⟩ [(4,4,oc aa),(8,8,oc B),(13,13,oc ad)] (ay (ab (Ge ?_)));exact eB h (gg [] [0,1])
  refine av (aP ?_);exact eX h (gg [] [0,1])
 obtain⟨O,V⟩:=Y;refine az (ab (GC 5 h (fun h=>aw ?_)));obtain rfl:=sI h;exact RI [(.slice fk),(.slice (.int .i64))]
def cz(A:XK)(u:QK)(v:List Bool)(q:QK):uZ→Option (uZ⊕QK):=fun(p,j) =>
 (if(decide (j<(q.length:Int)))=true then(if 0≤j∧j<(q.length:Int)then(((if((q.getD j.toNat 0) == (A.length:Int))=true then(if(p.length+([2]:QK).length)*1≤140737488355328∧p.length+([2]:QK).length≤9223372036854775807 then some ((p++([2]:QK)))else none)
 else(((if((q.getD j.toNat 0) == 0)=true then some (true)
 else some ((decide ((q.getD j.toNat 0)≥(u.length:Int)))))).bind fun x=>(if x=true then(if(p.length+([0]:QK).length)*1≤140737488355328∧p.length+([0]:QK).length≤9223372036854775807 then some ((p++([0]:QK)))else none)
 else(((if 0≤(q.getD j.toNat 0)∧(q.getD j.toNat 0)<(u.length:Int)then(if((u.getD ((q.getD j.toNat 0).toNat) 0) == 0)=true then(if(decide ((q.getD j.toNat 0)<(v.length:Int)))=true then(if 0≤(q.getD j.toNat 0)∧(q.getD j.toNat 0)<(v.length:Int)then some ((v.getD ((q.getD j.toNat 0).toNat) false))else none)
 else some (false))
 else some (false))else none)).bind fun v20=>(if v20=true then(if(p.length+([3]:QK).length)*1≤140737488355328∧p.length+([3]:QK).length≤9223372036854775807 then some ((p++([3]:QK)))else none)
 else(if 0≤(q.getD j.toNat 0)∧(q.getD j.toNat 0)<(u.length:Int)then(if(p.length+([(u.getD ((q.getD j.toNat 0).toNat) 0)]:QK).length)*1≤140737488355328∧p.length+([(u.getD ((q.getD j.toNat 0).toNat) 0)]:QK).length≤9223372036854775807 then some ((p++([(u.getD ((q.getD j.toNat 0).toNat) 0)]:QK)))else none)else none))))))).bind fun z=>some (Sum.inl (z,(i64.wrap (j+1)))))else none)
 else some (Sum.inr p))
def gz(p:XK)(q u:QK)(v:List Bool)(x:Option zr):Option (Qj×QK) :=
 ((lA p q x).bind fun(z,A) =>
 ((iter (cz p u v A) (([]:QK),0)).bind fun j=>some (z,j)))
theorem yj(q N x z O:Bool){J:XK}{i1 L:QK}{M:List Bool}{x3:Option zr}{V:Qj×QK}(h:gz J i1 L M x3=some V):
  Pure Tryz.prog 29 [.p q (.slice (.prod (.int .i32) Y2)) J,.p N (.slice (.int .u8)) i1,.p x (.slice (.int .u8)) L,.p z (.slice .bool) M,.p O (.ptr vU) x3] (aK (bd false [⟨KM,V⟩])):=by
 refine PB Tryz.func29 (fun Bw w0=>?_);unfold gz at h;refine G ?_;obtain⟨⟨X,A⟩,q2,h⟩:=aj h;refine GP 3 (xG q N O q2) (G (af (G (ak (cM h (fun(B,j)=>aA [(0,.p q (.slice (.prod (.int .i32) Y2)) J),(2,.p x (.slice (.int .u8)) L),(3,.p z (.slice .bool) M),(10,.adr 0 0 2 0),(13,.adr 1 0 2 0),(25,.p false (.slice (.int .i64)) A),(26,.i64 (A.length:Int)),(27,.i64 j)] (Im X B) 3) 0 (fun Y=>aA [(10,.adr 0 0 2 0),(13,.adr 1 0 2 0)] (Im X Y) 3) (gg [.nilC 96 1 136 60 (.int .u8)] [0,96,136]) (fun y o h=>?_) (fun Y h=>?_))))))
 ·obtain⟨B,j⟩:=y;unfold cz at h;refine G (af (aC h (fun a2 h=>?_) (fun a2 h=>?_)))
  ·refine ae (ab (af (ak (GC 0 h (fun h=>ak (G (bz h (fun D=>aA [(0,.p q (.slice (.prod (.int .i32) Y2)) J),(2,.p x (.slice (.int .u8)) L),(3,.p z (.slice .bool) M),(10,.adr 0 0 2 0),(13,.adr 1 0 2 0),(25,.p false (.slice (.int .i64)) A),(26,.i64 (A.length:Int)),(27,.i64 j)] (Im X D) 3) (fun D h=>?_) (fun D h=>?_))))))))
   ·refine aC h (fun a3 h=>?_) (fun a3 h=>?_)
    ·refine xq 3 h (fun h=>?_);exact eN h (gg [] [0,1,99])
    refine af (bz h (fun E=>aA [(0,.p q (.slice (.prod (.int .i32) Y2)) J),(2,.p x (.slice (.int .u8)) L),(3,.p z (.slice .bool) M),(10,.adr 0 0 2 0),(13,.adr 1 0 2 0),(15,.i64 (A.getD j.toNat 0)),(25,.p false (.slice (.int .i64)) A),(26,.i64 (A.length:Int)),(27,.i64 j),(50,.bo E)] (Im X B) 3) (fun E h=>?_) (fun E h=>?_))
    ·rcases aM h with⟨C,h⟩ | ⟨C,h⟩
     ·exact bC ⟨[(2,true),(7,true)],[]⟩ [(3,7,oc C)] (eN h (gg [] [0,1,2]))
     exact bC ⟨[(2,false),(7,false)],[]⟩ [(3,6,an C),(7,7,oc C)] (eN h (gg [] [0,1,2]))
    refine ab (aC h (fun a4 h=>?_) (fun a4 h=>?_))
    ·refine xq 3 h (fun h=>?_);exact eN h (gg [] [0,1,27])
    refine af (bz h (fun v20=>aA [(0,.p q (.slice (.prod (.int .i32) Y2)) J),(2,.p x (.slice (.int .u8)) L),(3,.p z (.slice .bool) M),(10,.adr 0 0 2 0),(13,.adr 1 0 2 0),(15,.i64 (A.getD j.toNat 0)),(25,.p false (.slice (.int .i64)) A),(26,.i64 (A.length:Int)),(27,.i64 j),(64,.bo v20)] (Im X B) 3) (fun v20 h=>?_) (fun v20 h=>?_))
    ·obtain⟨I,h⟩:=aD h;rcases aM h with⟨u,h⟩ | ⟨u,h⟩
     ·rcases aM h with⟨v,h⟩ | ⟨v,h⟩
      ·obtain⟨a5,h⟩:=aD h;exact bC ⟨[(5,true),(10,true),(11,true),(16,true)],[]⟩ [(2,2,oc I),(6,9,an u),(10,10,oc u),(12,13,an v),(14,14,oc (And.intro v a5)),(15,15,an v),(16,16,oc v)] (eN h (gg [] [0,1,2]))
      exact bC ⟨[(5,true),(10,true),(11,false),(16,false)],[]⟩ [(2,2,oc I),(6,9,an u),(10,10,oc u),(12,16,oc v)] (eN h (gg [] [0,1,2]))
     exact bC ⟨[(5,false),(10,false)],[]⟩ [(2,2,oc I),(6,10,oc u)] (eN h (gg [] [0,1,2]))
    refine ab (aC h (fun a6 h=>?_) (fun a6 h=>?_))
    ·refine xq 3 h (fun h=>?_);exact eN h (gg [] [0,1,27])
    obtain⟨Z,a1,h⟩:=g2 h;exact nf a0 [(4,4,oc Z),(7,7,oc a1)] (eN h (gg [] [0,1,59]))
   refine ay (ay (ab (Ge ?_)));exact eB h (gg [] [0,1,2])
  refine av (aP ?_);exact eX h (gg [] [0,1,2])
 refine az (ab (G (lS [.frzC 0 1] (by kernel_rfl) (aw ?_))));obtain rfl:=sI h;exact RI [KM]
def ba(j:Option Z1)(p:QK):Option ((Qj×QK)×Int) :=
 (if j.isNone=true then some ((([]:Qj),([]:QK)),1)
 else(if(decide ((p.length:Int) > 4096))=true then some ((([]:Qj),([]:QK)),3)
 else((mR p).bind fun u =>
 (if j.isSome=true then(if j.isSome=true then((cD ((j.getD (Ty.zero vk)).2.2.1) u).bind fun B =>
 ((eL ((j.getD (Ty.zero vk)).1) B).bind fun v =>
 (if j.isSome=true then(if j.isSome=true then((cD ((j.getD (Ty.zero vk)).2.2.2.1) u).bind fun x =>
 ((eL ((j.getD (Ty.zero vk)).2.1) x).bind fun z =>
 (if j.isSome=true then((dQ ((j.getD (Ty.zero vk)).2.2.2.2.2) u).bind fun A =>
 (if j.isSome=true then((gz u v z A ((j.getD (Ty.zero vk)).2.2.2.2.1)).bind fun q =>
 some ((q.1,q.2),0))else none))else none)))else none)else none)))else none)else none))))
theorem mw(u:Bool){V:Option Z1}{j:QK}{q:(Qj×QK)×Int}(h:ba V j=some q):
  Pure Tryz.prog 13 [.p false (.ptr vk) V,.p u (.slice (.int .u8)) j] (aK (bd false [⟨KM,q.1⟩,⟨(.int .i64),q.2⟩])):=by
 refine PB Tryz.func13 (fun Bw w0=>?_);unfold ba at h;refine G (af (GN a0 [(1,1,⟨∃e,Tryz.prog.underlying 33=some (.pointer e),⟨_,rfl⟩⟩)] (aC h (fun X h=>?_) (fun X h=>?_))))
 ·refine G (aw (ah ?_));obtain rfl:=sI h;exact RI [KM,(.int .i64)]
 refine ae (ab (af (G (aC h (fun Y h=>?_) (fun Y h=>?_)))))
 ·refine G (aw (ah ?_));obtain rfl:=sI h;exact RI [KM,(.int .i64)]
 refine ae (ab ?_);obtain⟨r2,Z,h⟩:=aj h;refine GP 1 (tY u Z) ?_;obtain⟨c7,c8,h⟩:=g2 h;obtain⟨r9,q9,h⟩:=aj h;obtain⟨a1,D,h⟩:=aj h;obtain⟨c9,E,h⟩:=g2 h;obtain⟨a2,I,h⟩:=aj h;obtain⟨a3,J,h⟩:=aj h;obtain⟨L,h⟩:=aD h;obtain⟨a4,M,h⟩:=aj h;obtain⟨N,h⟩:=aD h;obtain⟨a5,O,h⟩:=aj h;have v:=(lK false false q9);have x:=(lN false false D);have z:=(lK false false I);have A:=(lN false false J);have B:=(nT false M);have C:=(yj false false false false false O);refine GD ⟨[],[(10,(oP v)),(11,(oP x)),(21,(oP z)),(22,(oP A)),(28,(oP B)),(33,(oP C))]⟩ [(2,2,oc c7),(6,6,oc c8),(10,10,oc v),(11,11,oc x),(13,13,oc c9),(17,17,oc E),(21,21,oc z),(22,22,oc A),(24,24,oc L),(28,28,oc B),(30,30,oc N),(33,33,oc C)] (aw ?_);obtain rfl:=sI h;exact RI [KM,(.int .i64)]
def fx(u:QK):uZ→Option (uZ⊕QK):=fun(j,p) =>
 (if(decide (p<(u.length:Int)))=true then(if 0≤p∧p<(u.length:Int)then(((if((u.getD p.toNat 0) == 2)=true then(if(j.length+([p]:QK).length)*8≤140737488355328∧j.length+([p]:QK).length≤9223372036854775807 then some ((j++([p]:QK)))else none)
 else some (j))).bind fun q=>some (Sum.inl (q,(i64.wrap (p+1)))))else none)
 else some (Sum.inr j))
def lW(q:Qj)(p:QK):Option QK :=
 ((iter (fx p) (([]:QK),0)).bind fun j=>some j)
theorem vH(A v:Bool){C:Qj}{x z:QK}(h:lW C x=some z):
  Pure Tryz.prog 33 [.agg [.p A (.slice fk) C,.p v (.slice (.int .u8)) x]] (aK (bd false [⟨(.slice (.int .i64)),z⟩])):=by
 refine PB Tryz.func33 (fun Bw w0=>?_);unfold lW at h;refine G (G (af (G (ak (cM h (fun(q,B)=>aA [(3,.sl 0),(7,.p v (.slice (.int .u8)) x),(8,.i64 (x.length:Int)),(9,.i64 B)] [(0,.arr 3 (.int .i64) q)] 1) 0 (fun u=>aA [(3,.sl 0)] [(0,.arr 3 (.int .i64) u)] 1) (gg [.nilS 3 56 3 (.int .i64)] [56]) (fun y o h=>?_) (fun u h=>?_))))))
 ·obtain⟨q,B⟩:=y;unfold fx at h;refine G (af (aC h (fun D h=>?_) (fun D h=>?_)))
  ·refine ae (ab (af (ak (GC 1 h (fun h=>G (bz h (fun j=>aA [(3,.sl 0),(7,.p v (.slice (.int .u8)) x),(8,.i64 (x.length:Int)),(9,.i64 B)] [(0,.arr 3 (.int .i64) j)] 1) (fun j h=>?_) (fun j h=>?_)))))))
   ·refine aC h (fun E h=>?_) (fun E h=>?_)
    ·refine xq 3 h (fun h=>?_);exact eN h (gg [] [89])
    exact ae (eN h (gg [] [0]))
   refine ay (ab (Ge ?_));exact eB h (gg [] [0])
  refine av (aP ?_);exact eX h (gg [] [0])
 refine az (ab (G (aw ?_)));obtain rfl:=sI h;exact RI [(.slice (.int .i64))]
def jC(v z q u j p:Int):Option (Int) :=
 (if(u == 2)=true then(if ¬p=0 then some (i64.wrap ((i64.wrap (j+p)) - (Int.tmod j p)))else none)
 else some (i64.wrap (j+q)))
theorem nO{u v x z j p q:Int}(h:jC u v x z j p=some q):
  Pure Tryz.prog 82 [.agg [.i64 u,.i64 v,.i64 x,.u8 z],.i64 j,.i64 p] (aK (bd false [⟨(.int .i64),q⟩])):=by
 refine PB Tryz.func82 (fun Bw w0=>?_);unfold jC at h;refine G (af (G (aC h (fun A h=>?_) (fun A h=>?_))))
 ·refine GC 5 h (fun h=>aw (ah ?_));obtain rfl:=sI h;exact RI [(.int .i64)]
 refine ae (ab (G (aw ?_)));obtain rfl:=sI h;exact RI [(.int .i64)]
def lf(q u p j:Int):Option (Bool) :=
 (((if(j == 1)=true then some (true)
 else(if(j == 0)=true then some ((p == 0))
 else some (false)))).bind fun v1=>some v1)
theorem xV{u v x z:Int}{p:Bool}(h:lf u v x z=some p):
  Pure Tryz.prog 83 [.agg [.i64 u,.i64 v,.i64 x,.u8 z]] (aK (bd false [⟨.bool,p⟩])):=by
 refine PB Tryz.func83 (fun Bw w0=>?_);unfold lf at h;refine G (af (bz h (fun v1=>aA [(2,.bo v1)] [] 0) (fun v1 h=>?_) (fun v1 h=>?_)))
 ·rcases aM h with⟨j,h⟩ | ⟨j,h⟩
  ·exact bC ⟨[(3,true),(12,true)],[]⟩ [(4,7,oc j),(11,12,oc j)] (eN h (gg [] []))
  rcases aM h with⟨q,h⟩ | ⟨q,h⟩
  ·exact bC ⟨[(3,false),(7,true),(11,true),(12,false)],[]⟩ [(4,7,an j),(8,10,an q),(11,11,oc (And.intro j q)),(12,12,oc j)] (eN h (gg [] []))
  exact bC ⟨[(3,false),(7,false),(11,false),(12,false)],[]⟩ [(4,7,an j),(8,10,oc q),(11,11,oc (And.intro j q)),(12,12,oc j)] (eN h (gg [] []))
 refine ab (aw ?_);obtain rfl:=sI h;exact RI [.bool]
def eW(q:Qj)(p:Int):(Int)→Option ((Int)⊕(Int)):=fun j =>
 (((if(decide (j > p))=true then(if 0≤(i64.wrap (j - 1))∧(i64.wrap (j - 1))<(q.length:Int)then((lf ((q.getD ((i64.wrap (j - 1)).toNat) (0,0,0,0)).1) ((q.getD ((i64.wrap (j - 1)).toNat) (0,0,0,0)).2.1) ((q.getD ((i64.wrap (j - 1)).toNat) (0,0,0,0)).2.2.1) ((q.getD ((i64.wrap (j - 1)).toNat) (0,0,0,0)).2.2.2)).bind fun u =>
 some (u))else none)
 else some (false))).bind fun v=>(if v=true then some (Sum.inl (i64.wrap (j - 1)))
 else some (Sum.inr j)))
def gf(u:Qj)(v:QK)(j p:Int):Option (Int) :=
 ((iter (eW u j) p).bind fun q=>some q)
theorem nX(u v:Bool){D:Qj}{E:QK}{j z A:Int}(h:gf D E j z=some A):
  Pure Tryz.prog 58 [.agg [.p u (.slice fk) D,.p v (.slice (.int .u8)) E],.i64 j,.i64 z] (aK (bd false [⟨(.int .i64),A⟩])):=by
 refine PB Tryz.func58 (fun Bw w0=>?_);unfold gf at h;refine G (af (ak (cM h (fun x=>aA [(1,.i64 j),(2,.i64 x),(3,.adr 0 0 2 0)] (Mh u D v E) 1) 0 (fun B=>aA [(2,.i64 B)] [] 0) (gg [] [0]) (fun x o h=>?_) (fun B h=>?_))))
 ·unfold eW at h;refine af (af (bz h (fun I=>aA [(1,.i64 j),(2,.i64 x),(3,.adr 0 0 2 0),(18,.bo I)] (Mh u D v E) 1) (fun I h=>?_) (fun I h=>?_)))
  ·rcases aM h with⟨q,h⟩ | ⟨q,h⟩
   ·obtain⟨L,h⟩:=aD h;obtain⟨N,M,h⟩:=aj h;have C:=(xV M);exact bC ⟨[(3,true),(11,true)],[(10,(oP C))]⟩ [(4,7,an q),(8,8,oc (And.intro q L)),(9,9,an q),(10,10,oc (And.intro q C)),(11,11,oc q)] (eN h (gg [] [0]))
   exact bC ⟨[(3,false),(11,false)],[]⟩ [(4,11,oc q)] (eN h (gg [] [0]))
  refine ab (aC h (fun J h=>?_) (fun J h=>?_))
  ·refine ae (ab (ak (Ge (ay ?_))));exact eB h (gg [] [0])
  refine av (aP ?_);exact eX h (gg [] [])
 refine az (ab (G (aw ?_)));obtain rfl:=sI h;exact RI [(.int .i64)]
def kR(q:Qj)(p:QK)(j:Int):Option (Int×Bool) :=
 (if 0≤j∧j<(p.length:Int)then(if 0≤j∧j<(p.length:Int)then some ((p.getD j.toNat 0),((p.getD j.toNat 0) != 0))else none)else none)
theorem rT(u v:Bool){x:Qj}{z:QK}{q:Int}{j:Int×Bool}(h:kR x z q=some j):
  Pure Tryz.prog 15 [.agg [.p u (.slice fk) x,.p v (.slice (.int .u8)) z],.i64 q] (aK (bd false [⟨(.int .u8),j.1⟩,⟨.bool,j.2⟩])):=by
 refine PB Tryz.func15 (fun Bw w0=>?_);unfold kR at h;refine G ?_;obtain⟨A,B,h⟩:=g2 h;refine GD a0 [(3,3,oc A),(8,8,oc B)] (aw ?_);obtain rfl:=sI h;exact RI [(.int .u8),.bool]
def lQ(j p:Int):Option QJ :=
 some (bN .quo (ofInt j) (ofInt p))
theorem Cu{j p:Int}{q:QJ}(h:lQ j p=some q):
  Pure Tryz.prog 69 [.i64 j,.i64 p] (aK (bd false [⟨.flt,q⟩])):=by
 refine PB Tryz.func69 (fun Bw w0=>?_);unfold lQ at h;refine G (G (aw ?_));obtain rfl:=sI h;exact RI [.flt]
def gB(p j:QJ):Option (Bool) :=
 some (!(xP p j))
theorem yd{u j:QJ}{q:Bool}(h:gB u j=some q):
  Pure Tryz.prog 70 [.p false .flt u,.p false .flt j] (aK (bd false [⟨.bool,q⟩])):=by
 refine PB Tryz.func70 (fun Bw w0=>?_);unfold gB at h;refine G (G (aw ?_));obtain rfl:=sI h;exact RI [.bool]
def nA(j:QJ):Option (Bool) :=
 some (!(Lv j j))
theorem ya{q:QJ}{j:Bool}(h:nA q=some j):
  Pure Tryz.prog 96 [.p false .flt q] (aK (bd false [⟨.bool,j⟩])):=by
 refine PB Tryz.func96 (fun Bw w0=>?_);unfold nA at h;refine G (G (aw ?_));obtain rfl:=sI h;exact RI [.bool]
def vb(j:QJ):Option QJ:=some (vg j)
theorem xk(b:Nat)(w:World):
  Calls Tryz.prog 97 #[.float .f64 b] w fun e j=>e = .returned (.float .f64 (b % 9223372036854775808))∧j=w:=by
 have h1:∀w,(callFunc 25 #[.float .f64 b]).run Tryz.prog w = .ok (.value (.int .u64 b)) w:=fun w=>by rw[run_callFunc_extern (fn:=Tryz.f25) (e:=Extern.MathFloatBits.float64bits) Tryz.func25 (by kernel_rfl) rfl (by kernel_rfl) (by kernel_rfl)];rfl
 have h2:∀(n:Int) w,(callFunc 24 #[.int .u64 n]).run Tryz.prog w = .ok (.value (.float .f64 n.toNat)) w:=fun n w=>by rw[run_callFunc_extern (fn:=Tryz.f24) (e:=Extern.MathFloatBits.float64frombits) Tryz.func24 (by kernel_rfl) rfl (by kernel_rfl) (by kernel_rfl)];rfl
 go_enter Tryz.func97,Tryz.ntmps97;go_wp2
 go_ret
 exact⟨by rw[←H6];rfl,rfl⟩
theorem A3{q j:QJ}(h:vb q=some j):
  Pure Tryz.prog 97 [.p false .flt q] (aK (bd false [⟨.flt,j⟩])):=by
 obtain rfl:=sI h;exact Pure.Ly Tryz.func97 (by kernel_rfl) rfl (fun b w=>xk b w)
def ie(p:QJ):Option (Int) :=
 ((nA p).bind fun q =>
 (if q=true then some 0
 else((vb p).bind fun j =>
 (if(!(Lf (bN .mul (bN .mul (bN .mul (cj 4636737291354636288) j) j) j) (cj 4666723172467343360)))=true then some 10000
 else(if(ov (bN .mul (bN .mul (bN .mul (cj 4636737291354636288) j) j) j)).isSome=true∧i64.min≤(ov (bN .mul (bN .mul (bN .mul (cj 4636737291354636288) j) j) j)).getD 0∧(ov (bN .mul (bN .mul (bN .mul (cj 4636737291354636288) j) j) j)).getD 0≤i64.max then some ((ov (bN .mul (bN .mul (bN .mul (cj 4636737291354636288) j) j) j)).getD 0)else none)))))
theorem sU{q:QJ}{j:Int}(h:ie q=some j):
  Pure Tryz.prog 71 [.p false .flt q] (aK (bd false [⟨(.int .i64),j⟩])):=by
 refine PB Tryz.func71 (fun Bw w0=>?_);unfold ie at h;refine G (af ?_);obtain⟨A,u,h⟩:=aj h;refine GP 1 (ya u) (aC h (fun v h=>?_) (fun v h=>?_))
 ·refine G (aw (ah ?_));obtain rfl:=sI h;exact RI [(.int .i64)]
 refine ae (ab ?_);obtain⟨B,x,h⟩:=aj h;refine GP 1 (A3 x) (G (af (G (aC h (fun z h=>?_) (fun z h=>?_)))))
 ·refine G (aw (ah ?_));obtain rfl:=sI h;exact RI [(.int .i64)]
 refine ae (ab (GC 1 h (fun h=>aw ?_)));obtain rfl:=sI h;exact RI [(.int .i64)]
def cR(V:Qj)(D:QK)(p x E q:Int)(u:Bool)(I X Y J L:Int)(M:QJ):Option (Int×Bool) :=
 (if(decide (E > I))=true then some (0,false)
 else(((if(!u)=true then((lQ (i64.wrap (I - E)) q).bind fun z =>
 ((gB z M).bind fun A =>
 (if(!A)=true then some ((Sum.inr (0,false)))
 else((ie z).bind fun B =>
 some ((Sum.inl B))))))
 else some ((Sum.inl 0)))).bind fun(C:((Int)⊕(Int×Bool)))=>match C with
 | .inl j=>(((if(x == 3)=true then(if 0≤p∧p<(D.length:Int)then(if((D.getD p.toNat 0) == 3)=true then some ((i64.wrap ((i64.wrap ((i64.wrap ((i64.wrap (10+j))*(i64.wrap (10+j))))+J))+L)))
 else some ((i64.wrap ((i64.wrap ((i64.wrap (10+j))*(i64.wrap (10+j))))+J))))else none)
 else some ((i64.wrap ((i64.wrap (10+j))*(i64.wrap (10+j))))))).bind fun v=>some (v,true))
 | .inr ((N,O))=>some (N,O)))
theorem xA(B C:Bool){E:Qj}{I:QK}{j u n1 v:Int}{x:Bool}{J L M N O:Int}{V:QJ}{A:Int×Bool}(h:cR E I j u n1 v x J L M N O V=some A):
  Pure Tryz.prog 44 [.agg [.p B (.slice fk) E,.p C (.slice (.int .u8)) I],.i64 j,.u8 u,.i64 n1,.i64 v,.bo x,.agg [.i64 J,.i64 L,.u8 M,.i64 N,.i64 O,.p false .flt V]] (aK (bd false [⟨(.int .i64),A.1⟩,⟨.bool,A.2⟩])):=by
 refine PB Tryz.func44 (fun Bw w0=>?_);unfold cR at h;refine G (af (G (aC h (fun B1 h=>?_) (fun B1 h=>?_))))
 ·refine G (aw (ah ?_));obtain rfl:=sI h;exact RI [(.int .i64),.bool]
 refine ae (ab (G (af (G (DJ h (dy (n9 Tryz.f44.ntmps (fun z=>aA [(1,.i64 j),(2,.u8 u),(7,.adr 0 0 2 0),(13,.adr 1 0 6 0),(16,.i64 z)] (L6 B E C I J L M N O V) 2)) (gr tb Tryz.f44.results.toList (fun(r7,r8)=>[⟨(.int .i64),r7⟩,⟨.bool,r8⟩]))) (fun D h=>?_) (fun D h e σ' hq=>?_))))))
 ·refine aC h (fun B4 h=>?_) (fun B4 h=>?_)
  ·obtain⟨a1,q8,h⟩:=aj h;refine GP 5 (Cu q8) (af ?_);obtain⟨a2,X,h⟩:=aj h;refine GP 3 (yd X) (aC h (fun B5 h=>?_) (fun B5 h=>?_))
   ·refine G (aw ?_);obtain rfl:=sI h;refine ah (aL ?_);exact bH (RI [(.int .i64),.bool])
   refine ae (ab ?_);obtain⟨a3,Y,h⟩:=aj h;refine MR 1 (sU Y) ?_;obtain rfl:=sI h;exact bk (cV (gg [] [0,8]))
  refine ae ?_;obtain rfl:=sI h;exact bk (cV (gg [] [0,8]))
 rcases D with z | ⟨r7,r8⟩
 ·obtain⟨rfl,Z⟩:=hq;refine cF ?_ Z;refine ab (G (af (G (bz h (fun q=>aA [(18,.i64 q)] [] 0) (fun q h=>?_) (fun q h=>?_)))))
  ·refine aC h (fun B8 h=>?_) (fun B8 h=>?_)
   ·refine G (GC 3 h (fun h=>aC h (fun B9 h=>?_) (fun B9 h=>?_)))
    ·exact Ge (eN h (gg [] []))
    exact ae (eN h (gg [] []))
   exact ae (eN h (gg [] []))
  refine ab (G (aw ?_));obtain rfl:=sI h;exact RI [(.int .i64),.bool]
 obtain⟨rfl,hr⟩:=hq;refine ah ?_;obtain rfl:=sI h;exact hr
def eQ(u:Qj)(I:QK)(i1 A J:Int)(E:Qq)(x4 x5 x6 x7 x8:Int)(x9:QJ):(Int×Int×Int×Int×Int×Int×Int)→Option ((Int×Int×Int×Int×Int×Int×Int)⊕(Int×Int)):=fun(j,p,L,M,B,N,v30) =>
 (if(decide (v30≤J))=true then(if 0≤(i64.wrap (v30 - 1))∧(i64.wrap (v30 - 1))<(u.length:Int)then((jC ((u.getD ((i64.wrap (v30 - 1)).toNat) (0,0,0,0)).1) ((u.getD ((i64.wrap (v30 - 1)).toNat) (0,0,0,0)).2.1) ((u.getD ((i64.wrap (v30 - 1)).toNat) (0,0,0,0)).2.2.1) ((u.getD ((i64.wrap (v30 - 1)).toNat) (0,0,0,0)).2.2.2) L x5).bind fun v =>
 (((if(((u.getD ((i64.wrap (v30 - 1)).toNat) (0,0,0,0)).2.2.2) == 1)=true then some ((i64.wrap (B+1)))
 else some (B))).bind fun x=>((gf u I (i64.wrap (v30 - 1)) v30).bind fun O =>
 (((if(O == v30)=true then some ((v,x))
 else some ((M,N)))).bind fun(q,z)=>(if(decide (q > x4))=true then some (Sum.inr (j,p))
 else((kR u I v30).bind fun(C,V) =>
 (if 0≤(i64.wrap (v30 - A))∧(i64.wrap (v30 - A))<(E.length:Int)then(((if(!V)=true then some (true)
 else(if(decide (v30<J))=true then some ((decide (((E.getD ((i64.wrap (v30 - A)).toNat) (0,0)).2)<0)))
 else some (false)))).bind fun X=>(if X=true then some (Sum.inl (j,p,v,q,x,z,(i64.wrap (v30+1))))
 else(((if(C == 3)=true then some ((i64.wrap (q+1)))
 else some (q))).bind fun Y=>((cR u I i1 C Y z (v30 == J) x4 x5 x6 x7 x8 x9).bind fun(D,Z) =>
 (((if Z=true then(if(decide (p<0))=true then some (true)
 else some ((decide ((i64.wrap (D+((E.getD ((i64.wrap (v30 - A)).toNat) (0,0)).1)))<j))))
 else some (false))).bind fun a1=>(((if a1=true then some (((i64.wrap (D+((E.getD ((i64.wrap (v30 - A)).toNat) (0,0)).1))),v30))
 else some ((j,p)))).bind fun(a2,a3)=>some (Sum.inl (a2,a3,v,q,x,z,(i64.wrap (v30+1))))))))))else none)))))))else none)
 else some (Sum.inr (j,p)))
def m6(u:Qj)(v:QK)(q x z:Int)(A:Qq)(B C D E I:Int)(J:QJ):Option (Int×Int) :=
 ((iter (eQ u v q x z A B C D E I J) (0,(-1:Int),0,0,0,0,(i64.wrap (q+1)))).bind fun(j,p)=>some (j,p))
theorem zZ(j q x:Bool){N:Qj}{O:QK}{V A X:Int}{B:Qq}{Y Z x6 x7 x8:Int}{x9:QJ}{a6:Int×Int}(h:m6 N O V A X B Y Z x6 x7 x8 x9=some a6):
  Pure Tryz.prog 80 [.agg [.p j (.slice fk) N,.p q (.slice (.int .u8)) O],.i64 V,.i64 A,.i64 X,.p x (.slice Y2) B,.agg [.i64 Y,.i64 Z,.u8 x6,.i64 x7,.i64 x8,.p false .flt x9]] (aK (bd false [⟨Y2,a6⟩])):=by
 refine PB Tryz.func80 (fun Bw w0=>?_);unfold m6 at h;refine G (G (G (af (G (ak (cM h (fun(C,D,a7,a1,a8,a2,v30)=>aA [(1,.i64 V),(2,.i64 A),(3,.i64 X),(4,.p x (.slice Y2) B),(6,.adr 0 0 2 0),(11,.adr 1 0 6 0),(12,.adr 2 0 2 0),(13,.adr 3 0 2 0),(14,.i64 a7),(15,.i64 a1),(16,.i64 a8),(17,.i64 a2),(18,.i64 v30)] (Ju j N q O Y Z x6 x7 x8 x9 0 (0:Int) C D) 4) 0 (fun(a9,aa)=>aA [(12,.adr 0 0 2 0),(13,.adr 1 0 2 0)] (NF 0 (0:Int) a9 aa) 2) (gg [] [0,8,16,32]) (fun y o h=>?_) (fun b3 h=>?_)))))))
 ·obtain⟨C,D,a7,a1,a8,a2,v30⟩:=y;unfold eQ at h;refine af (G (aC h (fun b4 h=>?_) (fun b4 h=>?_)))
  ·refine ae (ab (af (ak (GC 4 h (fun h=>?_)))));obtain⟨E,b5,h⟩:=aj h;refine GP 4 (nO b5) (af (G (bz h (fun z=>aA [(1,.i64 V),(2,.i64 A),(3,.i64 X),(4,.p x (.slice Y2) B),(6,.adr 0 0 2 0),(11,.adr 1 0 6 0),(12,.adr 2 0 2 0),(13,.adr 3 0 2 0),(14,.i64 E),(15,.i64 a1),(16,.i64 z),(17,.i64 a2),(18,.i64 v30)] (Ju j N q O Y Z x6 x7 x8 x9 0 (0:Int) C D) 4) (fun z h=>?_) (fun z h=>?_))))
   ·refine aC h (fun b6 h=>?_) (fun b6 h=>?_)
    ·exact Ge (eN h (gg [] [0,1,2,3]))
    exact ae (eN h (gg [] [0,1,2,3]))
   refine ab (af ?_);obtain⟨c2,b7,h⟩:=aj h;refine GP 4 (nX j q b7) (bz h (fun(I,J)=>aA [(1,.i64 V),(2,.i64 A),(3,.i64 X),(4,.p x (.slice Y2) B),(6,.adr 0 0 2 0),(11,.adr 1 0 6 0),(12,.adr 2 0 2 0),(13,.adr 3 0 2 0),(14,.i64 E),(15,.i64 I),(16,.i64 z),(17,.i64 J),(18,.i64 v30)] (Ju j N q O Y Z x6 x7 x8 x9 0 (0:Int) C D) 4) (fun ac h=>?_) (fun ac h=>?_))
   ·refine aC h (fun b8 h=>?_) (fun b8 h=>?_)
    ·exact Ge (eN h (gg [] [0,1,2,3]))
    exact ae (eN h (gg [] [0,1,2,3]))
   obtain⟨I,J⟩:=ac;refine ab (af (G (aC h (fun b9 h=>?_) (fun b9 h=>?_))))
   ·refine av (aP (jG rfl (aP ?_)));exact eX h (gg [] [2,3])
   refine ae (ab ?_);obtain⟨⟨ad,c3⟩,be,h⟩:=aj h;refine GP 2 (rT j q be) (GC 4 h (fun h=>af (af (bz h (fun a3=>aA [(1,.i64 V),(2,.i64 A),(3,.i64 X),(4,.p x (.slice Y2) B),(6,.adr 0 0 2 0),(11,.adr 1 0 6 0),(12,.adr 2 0 2 0),(13,.adr 3 0 2 0),(14,.i64 E),(15,.i64 I),(16,.i64 z),(17,.i64 J),(18,.i64 v30),(20,.u8 ad),(22,.adr 4 0 2 0),(86,.bo a3)] (K5 j N q O Y Z x6 x7 x8 x9 0 (0:Int) C D ((B.getD ((i64.wrap (v30 - A)).toNat) (0,0)).1) ((B.getD ((i64.wrap (v30 - A)).toNat) (0,0)).2)) 5) (fun a3 h=>?_) (fun a3 h=>?_)))))
   ·rcases aM h with⟨u,h⟩ | ⟨u,h⟩
    ·exact bC ⟨[(2,true),(11,true)],[]⟩ [(3,6,oc u),(10,11,oc u)] (eN h (gg [] [0,1,2,3,148]))
    rcases aM h with⟨L,h⟩ | ⟨L,h⟩
    ·exact bC ⟨[(2,false),(6,true),(10,true),(11,false)],[]⟩ [(3,6,an u),(7,9,an L),(10,10,oc (And.intro u L)),(11,11,oc u)] (eN h (gg [] [0,1,2,3,148]))
    exact bC ⟨[(2,false),(6,false),(10,false),(11,false)],[]⟩ [(3,6,an u),(7,9,oc L),(10,10,oc (And.intro u L)),(11,11,oc u)] (eN h (gg [] [0,1,2,3,148]))
   refine ab (aC h (fun bi h=>?_) (fun bi h=>?_))
   ·refine av (aP (az (ab (Ge ?_))));exact eB h (gg [] [0,1,2,3])
   refine ae (ab (G (af (G (bz h (fun a4=>aA [(1,.i64 V),(2,.i64 A),(3,.i64 X),(4,.p x (.slice Y2) B),(6,.adr 0 0 2 0),(11,.adr 1 0 6 0),(12,.adr 2 0 2 0),(13,.adr 3 0 2 0),(14,.i64 E),(15,.i64 I),(16,.i64 z),(17,.i64 J),(18,.i64 v30),(20,.u8 ad),(22,.adr 4 0 2 0),(23,.i64 a4)] (K5 j N q O Y Z x6 x7 x8 x9 0 (0:Int) C D ((B.getD ((i64.wrap (v30 - A)).toNat) (0,0)).1) ((B.getD ((i64.wrap (v30 - A)).toNat) (0,0)).2)) 5) (fun a4 h=>?_) (fun a4 h=>?_))))))
   ·refine aC h (fun bs h=>?_) (fun bs h=>?_)
    ·exact Ge (eN h (gg [] [0,1,2,3,4]))
    exact ae (eN h (gg [] [0,1,2,3,4]))
   refine ab ?_;obtain⟨⟨bv,c4⟩,bx,h⟩:=aj h;refine GP 9 (xA j q bx) (af (bz h (fun a5=>aA [(1,.i64 V),(2,.i64 A),(3,.i64 X),(4,.p x (.slice Y2) B),(6,.adr 0 0 2 0),(11,.adr 1 0 6 0),(12,.adr 2 0 2 0),(13,.adr 3 0 2 0),(14,.i64 E),(15,.i64 I),(16,.i64 z),(17,.i64 J),(18,.i64 v30),(22,.adr 4 0 2 0),(24,.i64 bv),(119,.bo a5)] (K5 j N q O Y Z x6 x7 x8 x9 0 (0:Int) C D ((B.getD ((i64.wrap (v30 - A)).toNat) (0,0)).1) ((B.getD ((i64.wrap (v30 - A)).toNat) (0,0)).2)) 5) (fun a5 h=>?_) (fun a5 h=>?_)))
   ·rcases aM h with⟨v,h⟩ | ⟨v,h⟩
    ·rcases aM h with⟨M,h⟩ | ⟨M,h⟩
     ·exact bC ⟨[(1,true),(5,true),(13,true),(14,true)],[]⟩ [(2,5,an v),(6,12,oc M),(13,13,oc (And.intro v M)),(14,14,oc v)] (eN h (gg [] [0,1,2,3,4]))
     exact bC ⟨[(1,true),(5,false),(13,false),(14,true)],[]⟩ [(2,5,an v),(6,12,an M),(13,13,oc (And.intro v M)),(14,14,oc v)] (eN h (gg [] [0,1,2,3,4]))
    exact bC ⟨[(1,false),(14,false)],[]⟩ [(2,5,oc v),(13,14,oc v)] (eN h (gg [] [0,1,2,3,4]))
   refine ab (bz h (fun(ax,b1)=>aA [(1,.i64 V),(2,.i64 A),(3,.i64 X),(4,.p x (.slice Y2) B),(6,.adr 0 0 2 0),(11,.adr 1 0 6 0),(12,.adr 2 0 2 0),(13,.adr 3 0 2 0),(14,.i64 E),(15,.i64 I),(16,.i64 z),(17,.i64 J),(18,.i64 v30)] (Ju j N q O Y Z x6 x7 x8 x9 0 (0:Int) ax b1) 4) (fun b2 h=>?_) (fun b2 h=>?_))
   ·refine aC h (fun c1 h=>?_) (fun c1 h=>?_)
    ·exact Ge (eN h (gg [] [0,1,2,3]))
    exact ae (eN h (gg [] [0,1,2,3]))
   obtain⟨ax,b1⟩:=b2;refine ay (ab (Ge ?_));exact eB h (gg [] [0,1,2,3])
  refine av (aP ?_);exact eX h (gg [] [2,3])
 obtain⟨a9,aa⟩:=b3;refine az (ab (G (aw ?_)));obtain rfl:=sI h;exact RI [Y2]
end
end Go.Proofs.YtobbjfkfmdiklaaGreatDoor.T
