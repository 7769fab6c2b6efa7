import Derived.Test.YtbedjpdfkmfplaaGreatDoorTvT21d0
import Derived.Test.YtbedjpdfkmfplaaGreatDoorTvT21da2
namespace Go.Proofs.YtbedjpdfkmfplaaGreatDoor.T
open Go Go.Tv Go.Proofs
open Go.IntKind (i32 i64 u32 u64 u8)
noncomputable section
set_option maxRecDepth 100000
set_option maxHeartbeats 4000000
def ix(f:XK):(Int)→Option ((Int)⊕(Int)):=fun e =>
 (((if(decide (e<(f.length:Int)))=true then(if 0≤e∧e<(f.length:Int)then((jS ((f.getD e.toNat (0,0,0)).1)).bind fun j =>
 some ((!j)))else none)
 else some (false))).bind fun v30=>(if v30=true then some (Sum.inl (i64.wrap (e+1)))
 else some (Sum.inr e)))
def qV(u:XK):((List Z9)×(List Z9)×Int)→Option (((List Z9)×(List Z9)×Int)⊕(((List Z9)×List Z9)⊕(((List Z9)×List Z9)×Int×Int))):=fun(v20,j,e) =>
 (if(decide (e<(u.length:Int)))=true then(if 0≤e∧e<(u.length:Int)then((jS ((u.getD e.toNat (0,0,0)).1)).bind fun v =>
 (if v=true then some (Sum.inl (v20,j,(i64.wrap (e+1))))
 else((iter (ix u) e).bind fun q=>(if 0≤e∧e<(u.length:Int)then(if(decide ((i64.wrap ((v20.length:Int)+(j.length:Int)))≥256))=true then some (Sum.inr (Sum.inr ((([]:List Z9),([]:List Z9)),24,(u.getD e.toNat (0,0,0)).2.1)))
 else(if 0≤e∧e≤q∧q≤q∧q≤(u.length:Int)then((sA ((u.take q.toNat).drop e.toNat)).bind fun(f,z) =>
 (if(!z)=true then some (Sum.inr (Sum.inr ((([]:List Z9),([]:List Z9)),30,(u.getD e.toNat (0,0,0)).2.1)))
 else((iG ((u.take q.toNat).drop e.toNat)).bind fun A =>
 (((if(!A)=true then(if(v20.length+([(f.1,f.2)]:List Z9).length)*48≤140737488355328∧v20.length+([(f.1,f.2)]:List Z9).length≤9223372036854775807 then some ((Sum.inl ((v20++([(f.1,f.2)]:List Z9)),j)))else none)
 else((mK j f.1 f.2).bind fun B =>
 (if B=true then some ((Sum.inr ((([]:List Z9),([]:List Z9)),23,(u.getD e.toNat (0,0,0)).2.1)))
 else(if(j.length+([(f.1,f.2)]:List Z9).length)*48≤140737488355328∧j.length+([(f.1,f.2)]:List Z9).length≤9223372036854775807 then some ((Sum.inl (v20,(j++([(f.1,f.2)]:List Z9)))))else none))))).bind fun(C:(((List Z9)×List Z9)⊕(((List Z9)×List Z9)×Int×Int)))=>match C with
 | .inl (D,E)=>some (Sum.inl (D,E,q))
 | .inr ((I,J))=>some (Sum.inr (Sum.inr (I,J)))))))else none))else none))))else none)
 else some (Sum.inr (Sum.inl (v20,j))))
def oH(v:QX):Option (((List Z9)×List Z9)×Int×Int) :=
 (if(decide ((v.length:Int) > 4096))=true then some ((([]:List Z9),([]:List Z9)),24,4096)
 else((nb (cf v)).bind fun z =>
 ((iter (qV z) (([]:List Z9),([]:List Z9),0)).bind fun(e:(((List Z9)×List Z9)⊕(((List Z9)×List Z9)×Int×Int)))=>match e with
 | .inl (f,j)=>some ((f,j),0,0)
 | .inr ((q,u))=>some (q,u))))
theorem zk{d1:QX}{v:((List Z9)×List Z9)×Int×Int}(h:oH d1=some v):
  Pure Tryz.prog 55 [.st d1] (aM (bg false [⟨Kv,v.1⟩,⟨Y2,v.2⟩])):=by
 refine PB Tryz.func55 (fun Bw w0=>?_);unfold oH at h;refine G (G (af (G (aC h (fun B1 h=>?_) (fun B1 h=>?_)))))
 ·refine G (au (ah ?_));obtain rfl:=sI h;exact RI [Kv,Y2]
 refine ae (ab ?_);obtain⟨C,q2,h⟩:=aj h;refine GP 2 (u4 false q2) (af (G (ak (kX h (fun(v20,j,q)=>aA [(2,.adr 0 0 2 0),(3,.adr 1 0 2 0),(4,.adr 2 0 2 0),(5,.p false (.slice (.prod (.int .i32) Y2)) C),(6,.i64 q)] (G7 0 (0:Int) v20 j) 5) (dL (fK Tryz.f55.ntmps 0 (fun(D,E)=>aA [(2,.adr 0 0 2 0),(3,.adr 1 0 2 0),(4,.adr 2 0 2 0)] (G7 0 (0:Int) D E) 5)) (gM tb Tryz.f55.results.toList (fun(I,J)=>[⟨Kv,I⟩,⟨Y2,J⟩]))) (gg [.nilC 16 0 88 221 rV,.nilC 16 1 89 221 rV] [0,8,16,88,89]) (fun y o h=>?_) (fun Y h e σ' L=>?_)))))
 ·obtain⟨v20,j,q⟩:=y;unfold qV at h;refine af (G (aC h (fun Z h=>?_) (fun Z h=>?_)))
  ·refine ae (ab (ak (af ?_)));obtain⟨a1,h⟩:=aE h;obtain⟨b1,a2,h⟩:=aj h;have u:=(ri a2);refine GN ⟨[],[(5,(oP u))]⟩ [(2,2,oc a1),(5,5,oc u)] (aC h (fun a3 h=>?_) (fun a3 h=>?_))
   ·refine G (aw (aR (az ?_)));exact eB h (gg [] [0,1,2,3,4])
   refine ae (ab (G (af (ak (cM h (fun z=>aA [(2,.adr 0 0 2 0),(3,.adr 1 0 2 0),(4,.adr 2 0 2 0),(5,.p false (.slice (.prod (.int .i32) Y2)) C),(6,.i64 q),(7,.i64 z)] (G7 0 (0:Int) v20 j) 5) 2 (fun A=>aA [(2,.adr 0 0 2 0),(3,.adr 1 0 2 0),(4,.adr 2 0 2 0),(5,.p false (.slice (.prod (.int .i32) Y2)) C),(6,.i64 q),(7,.i64 A)] (G7 0 (0:Int) v20 j) 5) (gg [] [0,1,2,3,4]) (fun z o h=>?_) (fun A h=>?_))))))
   ·unfold ix at h;refine af (af (bm h (fun v30=>aA [(2,.adr 0 0 2 0),(3,.adr 1 0 2 0),(4,.adr 2 0 2 0),(5,.p false (.slice (.prod (.int .i32) Y2)) C),(6,.i64 q),(7,.i64 z),(45,.bo v30)] (G7 0 (0:Int) v20 j) 5) (fun v30 h=>?_) (fun v30 h=>?_)))
    ·rcases aI h with⟨f,h⟩ | ⟨f,h⟩
     ·obtain⟨a4,h⟩:=aE h;obtain⟨b2,a5,h⟩:=aj h;have u:=(ri a5);exact bq ⟨[(4,true),(12,true)],[(10,(oP u))]⟩ [(5,6,an f),(7,7,oc (And.intro f a4)),(8,9,an f),(10,10,oc (And.intro f u)),(11,11,an f),(12,12,oc f)] (eN h (gg [] [0,1,2,3,4]))
     exact bq ⟨[(4,false),(12,false)],[]⟩ [(5,12,oc f)] (eN h (gg [] [0,1,2,3,4]))
    refine ab (aC h (fun a6 h=>?_) (fun a6 h=>?_))
    ·refine ae (ab (ak (Ge (ay ?_))));exact eB h (gg [] [0,1,2,3,4])
    refine aw (aR ?_);exact eX h (gg [] [0,1,2,3,4])
   refine az (ab (GC 2 h (fun h=>af (G (aC h (fun a7 h=>?_) (fun a7 h=>?_))))))
   ·refine G (au ?_);obtain rfl:=sI h;refine ah (aB (bL (aN ?_)));exact bK (RI [Kv,Y2])
   refine ae (ab (GC 4 h (fun h=>?_)));obtain⟨⟨b3,b4⟩,a8,h⟩:=aj h;refine GP 1 (C6 false a8) (af (ak (G (aC h (fun a9 h=>?_) (fun a9 h=>?_)))))
   ·refine G (au ?_);obtain rfl:=sI h;refine aB (ah (aB (bL (aN ?_))));exact bK (RI [Kv,Y2])
   obtain⟨b5,aa,h⟩:=aj h;refine GP 1 (nA false aa) (EC h (dL (o6 Tryz.f55.ntmps (fun(M,N)=>aA [(2,.adr 0 0 2 0),(3,.adr 1 0 2 0),(4,.adr 2 0 2 0),(5,.p false (.slice (.prod (.int .i32) Y2)) C),(7,.i64 A)] (G7 0 (0:Int) M N) 5)) (gM tb Tryz.f55.results.toList (fun(O,V)=>[⟨Kv,O⟩,⟨Y2,V⟩]))) (fun X h=>?_) (fun X h e σ' L=>?_))
   ·refine aC h (fun ac h=>?_) (fun ac h=>?_)
    ·refine yK 4 h (fun h=>?_);obtain rfl:=sI h;exact bn (cW (gg [] [0,1,2,317,4]))
    obtain⟨b6,ad,h⟩:=aj h;refine GP 3 (xy true false false ad) (aC h (fun ax h=>?_) (fun ax h=>?_))
    ·refine G (au ?_);obtain rfl:=sI h;exact aN (bK (RI [Kv,Y2]))
    refine yK 4 h (fun h=>?_);obtain rfl:=sI h;exact bn (cW (gg [] [0,1,2,3,357]))
   rcases X with⟨M,N⟩ | ⟨O,V⟩
   ·obtain⟨rfl,B⟩:=L;refine cU ?_ B;refine ay (ab (Ge (ay ?_)));exact eB h (gg [] [0,1,2,3,4])
   obtain⟨rfl,hr⟩:=L;obtain rfl:=sI h;refine aB (ah (aB (bL (aN ?_))));exact bK hr
  refine aw (aR ?_);obtain rfl:=sI h;refine eo (bn ?_);exact bT (gg [] [0,1,2,3,4])
 rcases Y with⟨D,E⟩ | ⟨I,J⟩
 ·obtain⟨rfl,B⟩:=L;refine cU ?_ B;refine az (ab (G (kM [.frzC 0 0,.frzC 0 1] (by kernel_rfl) (au ?_))));obtain rfl:=sI h;exact RI [Kv,Y2]
 obtain⟨rfl,hr⟩:=L;refine aB (ah ?_);obtain rfl:=sI h;exact hr
def uI(f:XK):Option XK:=(if f.isEmpty=true then some []else(if(([]:XK).length+f.length)*16≤140737488355328∧([]:XK).length+f.length≤9223372036854775807 then some (([]:XK)++f)else none))
theorem AP(q:Bool){f j:XK}(h:uI f=some j):
  Pure Tryz.prog 56 [.p q (.slice (.prod (.int .i32) Y1)) f] (aM (bg false [⟨(.slice (.prod (.int .i32) Y1)),j⟩])):=by
 refine PB Tryz.func56 (fun Bw w0=>?_);unfold uI at h;refine G (af (EA iB (d:=3) (e:=4) (A:=(.prod (.int .i32) Y1)) (xs:=f) (el:=106) (β:=q) rfl rfl rfl rfl rfl (by kernel_rfl) (by kernel_rfl) (by kernel_rfl) (fun b hb=>?_)));cases b with
 | true =>
  obtain rfl:=hb rfl;obtain rfl:=sI h;exact m8 rfl (G (au (ah (RI [(.slice (.prod (.int .i32) Y1))]))))
 | false =>
  replace h:(if(([]:XK).length+f.length)*16≤140737488355328∧([]:XK).length+f.length≤9223372036854775807 then some (([]:XK)++f)else none)=some j:=by cases f <;> simpa using h
  refine xp rfl (ae (ab (GC 2 h (fun h=>au ?_))));obtain rfl:=sI h;exact RI [(.slice (.prod (.int .i32) Y1))]
def lr(v:List Z9)(u:Int):((List Nd)×Int×Int)→Option (((List Nd)×Int×Int)⊕((List Nd)×Int)):=fun(f,e,q) =>
 (if(decide (q<(((v.getD u.toNat ([],([]:QK))).1).length:Int)))=true then(if 0≤q∧q<(((v.getD u.toNat ([],([]:QK))).1).length:Int)then(if e.toNat<f.length then(if 0≤e∧e<(f.length:Int)then(((if(!((aT (α:=Int) (.int .i32) ((f.getD e.toNat Nd.z).2.1) (((v.getD u.toNat ([],([]:QK))).1).getD q.toNat 0)).isSome))=true then(if e.toNat<(jD f e.toNat).length then(if 0≤e∧e<((jD f e.toNat).length:Int)then(((if(!(((jD f e.toNat).getD e.toNat Nd.z).1))=true then(if 0≤e∧e<((jD (jD f e.toNat) e.toNat).length:Int)then(if e.toNat<(jD (jD f e.toNat) e.toNat).length then some (((jD (jD f e.toNat) e.toNat).set e.toNat (true,([]:Qq),((jD (jD f e.toNat) e.toNat).getD e.toNat Nd.z).2.2)))else none)else none)
 else some ((jD (jD f e.toNat) e.toNat)))).bind fun j=>(if e.toNat<j.length then(if 0≤e∧e<(j.length:Int)then(if(j.getD e.toNat Nd.z).1=true then(if((j.set e.toNat (true,(cq (α:=Int) (.int .i32) ((j.getD e.toNat Nd.z).2.1) (((v.getD u.toNat ([],([]:QK))).1).getD q.toNat 0) ((jD f e.toNat).length:Int)),(j.getD e.toNat Nd.z).2.2)).length+1)*32≤140737488355328∧(j.set e.toNat (true,(cq (α:=Int) (.int .i32) ((j.getD e.toNat Nd.z).2.1) (((v.getD u.toNat ([],([]:QK))).1).getD q.toNat 0) ((jD f e.toNat).length:Int)),(j.getD e.toNat Nd.z).2.2)).length+1≤9223372036854775807 then some ((((j.set e.toNat (true,(cq (α:=Int) (.int .i32) ((j.getD e.toNat Nd.z).2.1) (((v.getD u.toNat ([],([]:QK))).1).getD q.toNat 0) ((jD f e.toNat).length:Int)),(j.getD e.toNat Nd.z).2.2))++[Nd.z]),((jD f e.toNat).length:Int)))else none)else none)else none)else none))else none)else none)
 else some (((jD f e.toNat),((aT (α:=Int) (.int .i32) ((f.getD e.toNat Nd.z).2.1) (((v.getD u.toNat ([],([]:QK))).1).getD q.toNat 0)).getD 0))))).bind fun(A,B)=>some (Sum.inl (A,B,(i64.wrap (q+1)))))else none)else none)else none)
 else some (Sum.inr (f,e)))
def kZ(v:List Z9)(u e:Int):((List Nd)×Int)→Option (((List Nd)×Int)⊕(List Nd)):=fun(j,f) =>
 (if(decide (f<(((v.getD u.toNat ([],([]:QK))).2).length:Int)))=true then(if 0≤f∧f<(((v.getD u.toNat ([],([]:QK))).2).length:Int)then(if e.toNat<j.length then(((if(decide (f≥(((j.getD e.toNat Nd.z).2.2).length:Int)))=true then(if e.toNat<(jD j e.toNat).length then(if((((jD j e.toNat).getD e.toNat Nd.z).2.2).length+([0]:QK).length)*1≤140737488355328∧(((jD j e.toNat).getD e.toNat Nd.z).2.2).length+([0]:QK).length≤9223372036854775807 then some (((jD j e.toNat).set e.toNat (((jD j e.toNat).getD e.toNat Nd.z).1,((jD j e.toNat).getD e.toNat Nd.z).2.1,((((jD j e.toNat).getD e.toNat Nd.z).2.2)++([0]:QK)))))else none)else none)
 else some ((jD j e.toNat)))).bind fun q=>(if e.toNat<q.length then(if 0≤f∧f<(((q.getD e.toNat Nd.z).2.2).length:Int)then(if f.toNat<((q.getD e.toNat Nd.z).2.2).length then(if 0≤f∧f<(((q.getD e.toNat Nd.z).2.2).length:Int)then(if f.toNat<((q.getD e.toNat Nd.z).2.2).length then some (Sum.inl ((q.set e.toNat ((q.getD e.toNat Nd.z).1,(q.getD e.toNat Nd.z).2.1,(((q.getD e.toNat Nd.z).2.2).set f.toNat (max (((q.getD e.toNat Nd.z).2.2).getD f.toNat 0) (((v.getD u.toNat ([],([]:QK))).2).getD f.toNat 0))))),(i64.wrap (f+1))))else none)else none)else none)else none)else none))else none)else none)
 else some (Sum.inr j))
def tf(u:List Z9):((List Nd)×Int)→Option (((List Nd)×Int)⊕(List Nd)):=fun(j,e) =>
 (if(decide (e<(u.length:Int)))=true then(if 0≤e∧e<(u.length:Int)then((iter (lr u e) (j,0,0)).bind fun(q,f)=>(if 0≤f∧f<(q.length:Int)then((iter (kZ u e f) (q,0)).bind fun v=>some (Sum.inl (v,(i64.wrap (e+1)))))else none))else none)
 else some (Sum.inr j))
def qw(f:List Z9):Option (Option I9) :=
 (if 0≤(1:Int)∧(1:Int)≤1∧32*(1:Int)≤281474976710656∧(1:Int)≤9223372036854775807 then((iter (tf f) ((List.replicate (1:Int).toNat Nd.z),0)).bind fun e=>some (some ((e.map (·.2)),()):Option I9))else none)
theorem Aq(f:Bool){j:List Z9}{D:Option I9}(h:qw j=some D):
  Pure Tryz.prog 57 [.p f (.slice rV) j] (aM (bg false [⟨(.ptr ur),D⟩])):=by
 refine PB Tryz.func57 (fun Bw w0=>?_);unfold qw at h;refine G ?_;obtain⟨c2,h⟩:=aE h;refine GN ⟨[],[(0,⟨.unk,[],false,[],[],[],none⟩)]⟩ [(0,0,oc c2)] (af (G (ak (cM h (fun(E,e)=>aA [(3,.adr 0 0 1 0),(17,.p f (.slice rV) j),(18,.i64 (j.length:Int)),(19,.i64 e)] [(0,.box [.sl 1]),(1,.nds 233 5 E none)] 2) 0 (fun I=>aA [(3,.adr 0 0 1 0)] [(0,.box [.sl 1]),(1,.nds 233 5 I none)] 2) (gg [] [24,8]) (fun y o h=>?_) (fun I h=>?_)))))
 ·obtain⟨E,e⟩:=y;unfold tf at h;refine G (af (aC h (fun b3 h=>?_) (fun b3 h=>?_)))
  ·refine ae (ab (af (ak (GC 0 h (fun h=>G (af (G (ak ?_))))))));refine cM h (fun(A,u,v)=>aA [(3,.adr 0 0 1 0),(5,.adr 2 0 2 0),(6,.i64 u),(17,.p f (.slice rV) j),(18,.i64 (j.length:Int)),(19,.i64 e),(24,.p f (.slice (.int .i32)) ((j.getD e.toNat ([],([]:QK))).1)),(25,.i64 (((j.getD e.toNat ([],([]:QK))).1).length:Int)),(26,.i64 v)] (JX A f ((j.getD e.toNat ([],([]:QK))).1) f ((j.getD e.toNat ([],([]:QK))).2)) 3) 2 (fun(J,q)=>aA [(3,.adr 0 0 1 0),(5,.adr 2 0 2 0),(6,.i64 q),(17,.p f (.slice rV) j),(18,.i64 (j.length:Int)),(19,.i64 e)] (JX J f ((j.getD e.toNat ([],([]:QK))).1) f ((j.getD e.toNat ([],([]:QK))).2)) 3) (gg [] [0,1,26]) (fun y o h=>?_) (fun b4 h=>?_)
   ·obtain⟨A,u,v⟩:=y;unfold lr at h;refine G (af (aC h (fun b5 h=>?_) (fun b5 h=>?_)))
    ·refine ae (ab (af (ak (GC 0 h (fun h=>af ?_)))));obtain⟨L,h⟩:=aE h;refine zK 1 u.toNat false L (by kernel_rfl) ?_;obtain⟨M,h⟩:=aE h;refine bq a0 [(5,5,oc M),(7,7,⟨u.toNat=u.toNat,rfl⟩)] (ab (af (af (kM [.shut 1] (by kernel_rfl) (Ge (ab (bm h (fun(N,O)=>aA [(3,.adr 0 0 1 0),(5,.adr 2 0 2 0),(9,.i64 O),(17,.p f (.slice rV) j),(18,.i64 (j.length:Int)),(19,.i64 e),(24,.p f (.slice (.int .i32)) ((j.getD e.toNat ([],([]:QK))).1)),(25,.i64 (((j.getD e.toNat ([],([]:QK))).1).length:Int)),(26,.i64 v)] (JX N f ((j.getD e.toNat ([],([]:QK))).1) f ((j.getD e.toNat ([],([]:QK))).2)) 3) (fun V h=>?_) (fun V h=>?_))))))))
     ·refine aC h (fun b6 h=>?_) (fun b6 h=>?_)
      ·refine G (af (af ?_));obtain⟨X,h⟩:=aE h;refine zK 1 u.toNat false X (by kernel_rfl) ?_;obtain⟨Y,h⟩:=aE h;refine bq a0 [(5,5,oc Y),(7,7,⟨u.toNat=u.toNat,rfl⟩)] (ab (bm h (fun B=>aA [(3,.adr 0 0 1 0),(5,.adr 2 0 2 0),(6,.i64 u),(8,.i32 (((j.getD e.toNat ([],([]:QK))).1).getD v.toNat 0)),(9,.i64 ((jD A u.toNat).length:Int)),(17,.p f (.slice rV) j),(18,.i64 (j.length:Int)),(19,.i64 e),(24,.p f (.slice (.int .i32)) ((j.getD e.toNat ([],([]:QK))).1)),(25,.i64 (((j.getD e.toNat ([],([]:QK))).1).length:Int)),(26,.i64 v)] (JX B f ((j.getD e.toNat ([],([]:QK))).1) f ((j.getD e.toNat ([],([]:QK))).2)) 3) (fun B h=>?_) (fun B h=>?_)))
       ·refine aC h (fun b7 h=>?_) (fun b7 h=>?_)
        ·refine kM [.shut 1] (by kernel_rfl) ?_;obtain⟨Z,a1,h⟩:=g2 h;exact bq a0 [(6,6,oc Z),(8,8,oc a1)] (eN h (gg [.shut 1] [0,1,2]))
        exact ae (eN h (gg [.shut 1] [0,1,2]))
       refine ab (af ?_);obtain⟨a2,h⟩:=aE h;refine zK 1 u.toNat false a2 (by kernel_rfl) ?_;obtain⟨a3,a4,h⟩:=g2 h;refine bq a0 [(5,5,oc a3),(7,7,⟨u.toNat=u.toNat,rfl⟩),(10,10,oc a4)] (ab (kM [.shut 1] (by kernel_rfl) ?_));obtain⟨a5,h⟩:=aE h;exact bq ⟨[],[(6,⟨.unk,[],false,[],[],[],none⟩)]⟩ [(7,7,oc a5)] (eN h (gg [] [0,148,2]))
      exact ae (eN h (gg [] [0,1,2]))
     obtain⟨N,O⟩:=V;refine ab (Ge (ay (ab (Ge ?_))));exact eB h (gg [] [0,1,2])
    refine aw (aR ?_);exact eX h (gg [] [0,1,2])
   obtain⟨J,q⟩:=b4;refine az (ab (GC 5 h (fun h=>G (ak (cM h (fun(a6,z)=>aA [(3,.adr 0 0 1 0),(11,.adr 1 q.toNat 2 0),(17,.p f (.slice rV) j),(18,.i64 (j.length:Int)),(19,.i64 e),(96,.p f (.slice (.int .u8)) ((j.getD e.toNat ([],([]:QK))).2)),(97,.i64 (((j.getD e.toNat ([],([]:QK))).2).length:Int)),(98,.i64 z)] [(0,.box [.sl 1]),(1,.nds 233 5 a6 none)] 2) 4 (fun a7=>aA [(3,.adr 0 0 1 0),(17,.p f (.slice rV) j),(18,.i64 (j.length:Int)),(19,.i64 e)] [(0,.box [.sl 1]),(1,.nds 233 5 a7 none)] 2) (gg [] [0,1]) (fun y o h=>?_) (fun a7 h=>?_))))))
   ·obtain⟨a6,z⟩:=y;unfold kZ at h;refine G (af (aC h (fun b8 h=>?_) (fun b8 h=>?_)))
    ·refine ae (ab (af (ak (GC 1 h (fun h=>af (af ?_))))));obtain⟨a8,h⟩:=aE h;refine zK 1 q.toNat true a8 (by kernel_rfl) (bq a0 [(4,4,⟨q.toNat=q.toNat,rfl⟩)] (ab (bm h (fun C=>aA [(3,.adr 0 0 1 0),(11,.adr 1 q.toNat 2 0),(12,.i64 z),(13,.u8 (((j.getD e.toNat ([],([]:QK))).2).getD z.toNat 0)),(17,.p f (.slice rV) j),(18,.i64 (j.length:Int)),(19,.i64 e),(96,.p f (.slice (.int .u8)) ((j.getD e.toNat ([],([]:QK))).2)),(97,.i64 (((j.getD e.toNat ([],([]:QK))).2).length:Int)),(98,.i64 z)] [(0,.box [.sl 1]),(1,.nds 233 5 C none)] 2) (fun C h=>?_) (fun C h=>?_))))
     ·refine aC h (fun b9 h=>?_) (fun b9 h=>?_)
      ·refine kM [.shut 1] (by kernel_rfl) ?_;obtain⟨a9,h⟩:=aE h;refine zK 1 q.toNat true a9 (by kernel_rfl) ?_;obtain⟨aa,h⟩:=aE h;exact bq a0 [(4,4,⟨q.toNat=q.toNat,rfl⟩),(6,6,oc aa),(9,9,⟨q.toNat=q.toNat∧true=true,⟨rfl,rfl⟩⟩)] (eN h (gg [.shut 1] [0,1]))
      exact ae (eN h (gg [.shut 1] [0,1]))
     refine ab ?_;obtain⟨ac,h⟩:=aE h;refine zK 1 q.toNat true ac (by kernel_rfl) ?_;obtain⟨ad,ax,b1,b2,h⟩:=g4 h;refine mu a0 [(3,3,⟨q.toNat=q.toNat,rfl⟩),(8,8,⟨q.toNat=q.toNat,rfl⟩),(10,10,oc ad),(11,11,oc ax),(14,14,oc b1),(15,15,oc b2)] (ay (ab (kM [.shut 1] (by kernel_rfl) (Ge ?_))));exact eB h (gg [] [0,1])
    refine aw (aR ?_);exact eX h (gg [] [0,1])
   refine az (ay (ab (Ge ?_)));exact eB h (gg [] [0,1])
  refine aw (aR ?_);exact eX h (gg [] [0,1])
 refine az (ab (G (kM [.frzC 0 0] (by kernel_rfl) (au ?_))));obtain rfl:=sI h;exact RI [(.ptr ur)]
def nT(q:QX)(e:XK)(j f:Int):Option ((Option Z3)×Int×Int) :=
 ((oy e).bind fun A =>
 (if(!A)=true then some ((none:Option Z3),10,0)
 else(((if(decide (j<1))=true then some (true)
 else(if(decide (f<1))=true then some (true)
 else(if(decide (j > 24))=true then some (true)
 else some ((decide (f > 24))))))).bind fun v1=>(if v1=true then some ((none:Option Z3),40,0)
 else((oH q).bind fun(z,u) =>
 (if(u.1 != 0)=true then some ((none:Option Z3),u.1,u.2)
 else((uI e).bind fun B =>
 ((qw z.1).bind fun v =>
 some ((some (B,v,z.2,j,f):Option Z3),0,0)))))))))
theorem Cz(u:Bool){j:QX}{e:XK}{q f:Int}{A:(Option Z3)×Int×Int}(h:nT j e q f=some A):
  Pure Tryz.prog 32 [.st j,.p u (.slice (.prod (.int .i32) Y1)) e,.i64 q,.i64 f] (aM (bg false [⟨(.ptr nW),A.1⟩,⟨Y2,A.2⟩])):=by
 refine PB Tryz.func32 (fun Bw w0=>?_);unfold nT at h;refine G (af ?_);obtain⟨X,J,h⟩:=aj h;refine GP 1 (yQ u J) (aC h (fun L h=>?_) (fun L h=>?_))
 ·refine G (au (ah ?_));obtain rfl:=sI h;exact RI [(.ptr nW),Y2]
 refine ae (ab (af (af (bm h (fun v1=>aA [(0,.st j),(1,.p u (.slice (.prod (.int .i32) Y1)) e),(2,.i64 q),(3,.i64 f),(9,.adr 0 0 2 0),(29,.bo v1)] [(0,.box [.i64 0,.i64 0])] 1) (fun v1 h=>?_) (fun v1 h=>?_)))))
 ·rcases aI h with⟨z,h⟩ | ⟨z,h⟩
  ·exact bq ⟨[(2,true),(5,true)],[]⟩ [(3,5,oc z)] (eN h (gg [] [8]))
  rcases aI h with⟨B,h⟩ | ⟨B,h⟩
  ·exact bq ⟨[(2,false),(5,false),(6,true),(9,true)],[]⟩ [(3,4,an z),(5,5,oc z),(7,9,oc B)] (eN h (gg [] [8]))
  rcases aI h with⟨v,h⟩ | ⟨v,h⟩
  ·exact bq ⟨[(2,false),(5,false),(6,false),(9,false),(10,true),(13,true)],[]⟩ [(3,4,an z),(5,5,oc z),(7,8,an B),(9,9,oc B),(11,13,oc v)] (eN h (gg [] [8]))
  exact bq ⟨[(2,false),(5,false),(6,false),(9,false),(10,false),(13,false)],[]⟩ [(3,4,an z),(5,5,oc z),(7,8,an B),(9,9,oc B),(11,12,an v),(13,13,oc v)] (eN h (gg [] [8]))
 refine ab (aC h (fun E h=>?_) (fun E h=>?_))
 ·refine G (au (ah ?_));obtain rfl:=sI h;exact RI [(.ptr nW),Y2]
 refine ae (ab ?_);obtain⟨⟨Y,Z⟩,M,h⟩:=aj h;refine GP 1 (zk M) (af (G (aC h (fun I h=>?_) (fun I h=>?_))))
 ·refine GD a0 [] (au (ah ?_));obtain rfl:=sI h;exact RI [(.ptr nW),Y2]
 refine ae (ab ?_);obtain⟨r9,N,h⟩:=aj h;obtain⟨O,V,h⟩:=aj h;have C:=(AP u N);have D:=(Aq false V);refine GD ⟨[],[(1,(oP C)),(4,(oP D))]⟩ [(1,1,oc C),(4,4,oc D)] (au ?_);obtain rfl:=sI h;exact RI [(.ptr nW),Y2]
def kx(L M N O:XK)(V X Y:QX)(Z d9:Int):Option ((Option Z1)×Int×Int) :=
 ((jk V).bind fun(I,u) =>
 (if(u.1 != 0)=true then some ((none:Option Z1),u.1,u.2)
 else((jk X).bind fun(J,v) =>
 (if(v.1 != 0)=true then some ((none:Option Z1),v.1,v.2)
 else((cr I).bind fun z =>
 ((cr J).bind fun A =>
 (if 0≤(0:Int)∧0<((3:Nat):Int)then((gw L z).bind fun(B,f) =>
 (if(f != 0)=true then some ((none:Option Z1),f,0)
 else(if 0≤(1:Int)∧1<((3:Nat):Int)then((gw M A).bind fun(C,j) =>
 (if(j != 0)=true then some ((none:Option Z1),j,0)
 else(if 0≤(2:Int)∧2<((3:Nat):Int)then((gw N 3).bind fun(D,q) =>
 (if(q != 0)=true then some ((none:Option Z1),q,0)
 else((nT Y O Z d9).bind fun(E,e) =>
 (if(e.1 != 0)=true then some ((none:Option Z1),e.1,e.2)
 else some ((some (I,J,B,C,D,E):Option Z1),0,0)))))else none)))else none)))else none)))))))
theorem vv(f j q u:Bool){E I J L:XK}{M N O:QX}{V X:Int}{e:(Option Z1)×Int×Int}(h:kx E I J L M N O V X=some e):
  Pure Tryz.prog 9 [.agg [.p f (.slice (.prod (.int .i32) Y1)) E,.p j (.slice (.prod (.int .i32) Y1)) I,.p q (.slice (.prod (.int .i32) Y1)) J,.p u (.slice (.prod (.int .i32) Y1)) L,.st M,.st N,.st O,.i64 V,.i64 X]] (aM (bg false [⟨(.ptr wb),e.1⟩,⟨Y2,e.2⟩])):=by
 refine PB Tryz.func9 (fun Bw w0=>?_);unfold kx at h;refine G (G (G (af ?_)));obtain⟨⟨r3,r4⟩,Y,h⟩:=aj h;refine GP 3 (vg Y) (G (aC h (fun Z h=>?_) (fun Z h=>?_)))
 ·refine GD a0 [] (au (ah ?_));obtain rfl:=sI h;exact RI [(.ptr wb),Y2]
 refine ae (ab (af ?_));obtain⟨⟨r7,r8⟩,q4,h⟩:=aj h;refine GP 3 (vg q4) (G (aC h (fun B2 h=>?_) (fun B2 h=>?_)))
 ·refine GD a0 [] (au (ah ?_));obtain rfl:=sI h;exact RI [(.ptr wb),Y2]
 refine ae (ab (af ?_));obtain⟨a1,q7,h⟩:=aj h;obtain⟨a2,q8,h⟩:=aj h;have v:=(js false q7);have z:=(js false q8);refine GD ⟨[],[(9,(oP v)),(20,(oP z))]⟩ [(9,9,oc v),(20,20,oc z)] (ak (yw 9 (G (af (m8 rfl (ae (ab (af (ak (GC 0 h (fun h=>?_)))))))))));obtain⟨⟨a3,a4⟩,A,h⟩:=aj h;refine GP 4 (oS f A) (af (G (aC h (fun B3 h=>?_) (fun B3 h=>?_))))
 ·refine G (au (ah (aB (ah (EO (aB (ah ?_)))))));obtain rfl:=sI h;exact RI [(.ptr wb),Y2]
 refine ae (ab (Ge (ay (ab (Ge (rY (G (af (m8 rfl (ae (ab (af (ak (GC 0 h (fun h=>?_)))))))))))))));obtain⟨⟨a5,a6⟩,B,h⟩:=aj h;refine GP 4 (oS j B) (af (G (aC h (fun B4 h=>?_) (fun B4 h=>?_))))
 ·refine G (au (ah (aB (ah (EO (aB (ah ?_)))))));obtain rfl:=sI h;exact RI [(.ptr wb),Y2]
 refine ae (ab (Ge (ay (ab (Ge (rY (G (af (m8 rfl (ae (ab (af (ak (GC 0 h (fun h=>?_)))))))))))))));obtain⟨⟨a7,a8⟩,C,h⟩:=aj h;refine GP 4 (oS q C) (af (G (aC h (fun B5 h=>?_) (fun B5 h=>?_))))
 ·refine G (au (ah (aB (ah (EO (aB (ah ?_)))))));obtain rfl:=sI h;exact RI [(.ptr wb),Y2]
 refine ae (ab (Ge (ay (ab (Ge (rY (G (af (xp rfl (aw (aR (Ov (az (ab (af ?_)))))))))))))));obtain⟨⟨a9,aa⟩,D,h⟩:=aj h;refine GP 9 (Cz u D) (G (aC h (fun B6 h=>?_) (fun B6 h=>?_)))
 ·refine GD a0 [] (au (ah ?_));obtain rfl:=sI h;exact RI [(.ptr wb),Y2]
 refine ae (ab (G (au ?_)));obtain rfl:=sI h;exact RI [(.ptr wb),Y2]
def dV(e f u j q:Int)(v:QJ):Option (Bool) :=
 (((if(decide (e≥1))=true then(if(decide (e≤1048576))=true then(if(decide (f≥1))=true then(if(decide (f≤64))=true then(if(decide (u≤1))=true then(if(decide (j≥0))=true then(if(decide (j≤1048576))=true then(if(decide (q≥0))=true then some ((decide (q≤1048576)))
 else some (false))
 else some (false))
 else some (false))
 else some (false))
 else some (false))
 else some (false))
 else some (false))
 else some (false))).bind fun v1=>some v1)
theorem yH{C D E I J:Int}{L:QJ}{B:Bool}(h:dV C D E I J L=some B):
  Pure Tryz.prog 38 [.agg [.i64 C,.i64 D,.u8 E,.i64 I,.i64 J,.p false .flt L]] (aM (bg false [⟨.bool,B⟩])):=by
 refine PB Tryz.func38 (fun Bw w0=>?_);unfold dV at h;refine G (af (bm h (fun v1=>aA [(2,.bo v1)] [] 0) (fun v1 h=>?_) (fun v1 h=>?_)))
 ·rcases aI h with⟨e,h⟩ | ⟨e,h⟩
  ·rcases aI h with⟨f,h⟩ | ⟨f,h⟩
   ·rcases aI h with⟨j,h⟩ | ⟨j,h⟩
    ·rcases aI h with⟨q,h⟩ | ⟨q,h⟩
     ·rcases aI h with⟨u,h⟩ | ⟨u,h⟩
      ·rcases aI h with⟨v,h⟩ | ⟨v,h⟩
       ·rcases aI h with⟨z,h⟩ | ⟨z,h⟩
        ·rcases aI h with⟨A,h⟩ | ⟨A,h⟩
         ·exact bq ⟨[(3,true),(7,true),(8,true),(12,true),(13,true),(17,true),(18,true),(22,true),(23,true),(27,true),(28,true),(32,true),(33,true),(37,true),(38,true),(42,true)],[]⟩ [(4,6,an e),(7,7,oc e),(9,11,an f),(12,12,oc f),(14,16,an j),(17,17,oc j),(19,21,an q),(22,22,oc q),(24,26,an u),(27,27,oc u),(29,31,an v),(32,32,oc v),(34,36,an z),(37,37,oc z),(39,41,an A),(42,42,oc A)] (eN h (gg [] []))
         exact bq ⟨[(3,true),(7,true),(8,true),(12,true),(13,true),(17,true),(18,true),(22,true),(23,true),(27,true),(28,true),(32,true),(33,true),(37,true),(38,false),(42,false)],[]⟩ [(4,6,an e),(7,7,oc e),(9,11,an f),(12,12,oc f),(14,16,an j),(17,17,oc j),(19,21,an q),(22,22,oc q),(24,26,an u),(27,27,oc u),(29,31,an v),(32,32,oc v),(34,36,an z),(37,37,oc z),(39,42,oc A)] (eN h (gg [] []))
        exact bq ⟨[(3,true),(7,true),(8,true),(12,true),(13,true),(17,true),(18,true),(22,true),(23,true),(27,true),(28,true),(32,true),(33,false),(37,false)],[]⟩ [(4,6,an e),(7,7,oc e),(9,11,an f),(12,12,oc f),(14,16,an j),(17,17,oc j),(19,21,an q),(22,22,oc q),(24,26,an u),(27,27,oc u),(29,31,an v),(32,32,oc v),(34,37,oc z)] (eN h (gg [] []))
       exact bq ⟨[(3,true),(7,true),(8,true),(12,true),(13,true),(17,true),(18,true),(22,true),(23,true),(27,true),(28,false),(32,false)],[]⟩ [(4,6,an e),(7,7,oc e),(9,11,an f),(12,12,oc f),(14,16,an j),(17,17,oc j),(19,21,an q),(22,22,oc q),(24,26,an u),(27,27,oc u),(29,32,oc v)] (eN h (gg [] []))
      exact bq ⟨[(3,true),(7,true),(8,true),(12,true),(13,true),(17,true),(18,true),(22,true),(23,false),(27,false)],[]⟩ [(4,6,an e),(7,7,oc e),(9,11,an f),(12,12,oc f),(14,16,an j),(17,17,oc j),(19,21,an q),(22,22,oc q),(24,27,oc u)] (eN h (gg [] []))
     exact bq ⟨[(3,true),(7,true),(8,true),(12,true),(13,true),(17,true),(18,false),(22,false)],[]⟩ [(4,6,an e),(7,7,oc e),(9,11,an f),(12,12,oc f),(14,16,an j),(17,17,oc j),(19,22,oc q)] (eN h (gg [] []))
    exact bq ⟨[(3,true),(7,true),(8,true),(12,true),(13,false),(17,false)],[]⟩ [(4,6,an e),(7,7,oc e),(9,11,an f),(12,12,oc f),(14,17,oc j)] (eN h (gg [] []))
   exact bq ⟨[(3,true),(7,true),(8,false),(12,false)],[]⟩ [(4,6,an e),(7,7,oc e),(9,12,oc f)] (eN h (gg [] []))
  exact bq ⟨[(3,false),(7,false)],[]⟩ [(4,7,oc e)] (eN h (gg [] []))
 refine ab (au ?_);obtain rfl:=sI h;exact RI [.bool]
def cd(f:QK):Option QK:=(if f.isEmpty=true then some []else(if(([]:QK).length+f.length)*1≤140737488355328∧([]:QK).length+f.length≤9223372036854775807 then some (([]:QK)++f)else none))
theorem ig(q:Bool){f j:QK}(h:cd f=some j):
  Pure Tryz.prog 40 [.p q (.slice (.int .u8)) f] (aM (bg false [⟨(.slice (.int .u8)),j⟩])):=by
 refine PB Tryz.func40 (fun Bw w0=>?_);unfold cd at h;refine G (af (EA iB (d:=3) (e:=4) (A:=(.int .u8)) (xs:=f) (el:=5) (β:=q) rfl rfl rfl rfl rfl (by kernel_rfl) (by kernel_rfl) (by kernel_rfl) (fun b hb=>?_)));cases b with
 | true =>
  obtain rfl:=hb rfl;obtain rfl:=sI h;exact m8 rfl (G (au (ah (RI [(.slice (.int .u8))]))))
 | false =>
  replace h:(if(([]:QK).length+f.length)*1≤140737488355328∧([]:QK).length+f.length≤9223372036854775807 then some (([]:QK)++f)else none)=some j:=by cases f <;> simpa using h
  refine xp rfl (ae (ab (GC 2 h (fun h=>au ?_))));obtain rfl:=sI h;exact RI [(.slice (.int .u8))]
def bh(f:Option Ay)(e:Int):Option (Int) :=
 (((if f.isNone=true then some (true)
 else(if(decide (e<0))=true then some (true)
 else some ((decide (e > 1114111)))))).bind fun v1=>(if v1=true then some 0
 else(if f.isSome=true then(if 0≤(8:Int)then(if f.isSome=true then(if 0≤(Int.fdiv e (2 ^ (min (8:Int).toNat i32.bits)))∧(Int.fdiv e (2 ^ (min (8:Int).toNat i32.bits)))<((4352:Nat):Int)then(if 0≤(fR ((f.getD (Ty.zero xG)).1) (Int.fdiv e (2 ^ (min (8:Int).toNat i32.bits))).toNat)∧(fR ((f.getD (Ty.zero xG)).1) (Int.fdiv e (2 ^ (min (8:Int).toNat i32.bits))).toNat)<(((f.getD (Ty.zero xG)).2).length:Int)then(if 0≤(bitsOf .and .i32 e 255)∧(bitsOf .and .i32 e 255)<((256:Nat):Int)then some (i64.wrap (fR (((f.getD (Ty.zero xG)).2).getD ((fR ((f.getD (Ty.zero xG)).1) (Int.fdiv e (2 ^ (min (8:Int).toNat i32.bits))).toNat).toNat) (dC 256)) (bitsOf .and .i32 e 255).toNat))else none)else none)else none)else none)else none)else none)))
theorem nR(j:Bool){v:Option Ay}{z q:Int}(h:bh v z=some q):
  Pure Tryz.prog 102 [.p j (.ptr xG) v,.i32 z] (aM (bg false [⟨(.int .i64),q⟩])):=by
 refine PB Tryz.func102 (fun Bw w0=>?_);unfold bh at h;refine G (af (af (bm h (fun v1=>aA [(0,.p j (.ptr xG) v),(1,.i32 z),(14,.bo v1)] [] 0) (fun v1 h=>?_) (fun v1 h=>?_))))
 ·rcases aI h with⟨f,h⟩ | ⟨f,h⟩
  ·exact bq ⟨[(2,true),(5,true)],[]⟩ [(1,1,⟨∃e,Tryz.prog.underlying 90=some (.pointer e),⟨_,rfl⟩⟩),(3,5,oc f)] (eN h (gg [] []))
  rcases aI h with⟨u,h⟩ | ⟨u,h⟩
  ·exact bq ⟨[(2,false),(5,false),(6,true),(9,true)],[]⟩ [(1,1,⟨∃e,Tryz.prog.underlying 90=some (.pointer e),⟨_,rfl⟩⟩),(3,4,an f),(5,5,oc f),(7,9,oc u)] (eN h (gg [] []))
  exact bq ⟨[(2,false),(5,false),(6,false),(9,false)],[]⟩ [(1,1,⟨∃e,Tryz.prog.underlying 90=some (.pointer e),⟨_,rfl⟩⟩),(3,4,an f),(5,5,oc f),(7,8,an u),(9,9,oc u)] (eN h (gg [] []))
 refine ab (aC h (fun D h=>?_) (fun D h=>?_))
 ·refine G (au (ah ?_));obtain rfl:=sI h;exact RI [(.int .i64)]
 refine ae (ab ?_);obtain⟨E,I,J,A,h⟩:=g4 h;obtain⟨B,C,h⟩:=g2 h;refine GD a0 [(1,1,oc E),(6,6,oc I),(7,7,oc J),(9,9,oc A),(13,13,oc B),(14,14,oc C)] (au ?_);obtain rfl:=sI h;exact RI [(.int .i64)]
def dx(q:Option Ay)(j:XK):ua→Option (ua⊕QK):=fun(e,f) =>
 (if(decide (f<(j.length:Int)))=true then(if 0≤f∧f<(j.length:Int)then((bh q ((j.getD f.toNat (0,0,0)).1)).bind fun u =>
 (if 0≤f∧f<(e.length:Int)then(if f.toNat<e.length then some (Sum.inl ((e.set f.toNat u),(i64.wrap (f+1))))else none)else none))else none)
 else some (Sum.inr e))
def cJ(j:Option Ay)(e:XK):Option QK :=
 (if 0≤(e.length:Int)∧(e.length:Int)≤(e.length:Int)∧8*(e.length:Int)≤281474976710656∧(e.length:Int)≤9223372036854775807 then((iter (dx j e) ((List.replicate (e.length:Int).toNat (0:Int)),0)).bind fun f=>some f)else none)
theorem lP(j q:Bool){A:Option Ay}{z:XK}{u:QK}(h:cJ A z=some u):
  Pure Tryz.prog 69 [.p j (.ptr xG) A,.p q (.slice (.prod (.int .i32) Y2)) z] (aM (bg false [⟨(.slice (.int .i64)),u⟩])):=by
 refine PB Tryz.func69 (fun Bw w0=>?_);unfold cJ at h;refine G (GC 2 h (fun h=>af (G (ak (cM h (fun(e,D)=>aA [(0,.p j (.ptr xG) A),(5,.sl 0),(11,.p q (.slice (.prod (.int .i32) Y2)) z),(12,.i64 (z.length:Int)),(13,.i64 D)] [(0,.arr 3 (.int .i64) e)] 1) 0 (fun f=>aA [(5,.sl 0)] [(0,.arr 3 (.int .i64) f)] 1) (gg [] [24]) (fun y o h=>?_) (fun f h=>?_))))))
 ·obtain⟨e,D⟩:=y;unfold dx at h;refine G (af (aC h (fun E h=>?_) (fun E h=>?_)))
  ·refine ae (ab (af (ak (GC 1 h (fun h=>?_)))));obtain⟨J,I,h⟩:=aj h;obtain⟨B,C,h⟩:=g2 h;have v:=(nR j I);refine bq ⟨[],[(5,(oP v))]⟩ [(5,5,oc v),(6,6,oc B),(7,7,oc C)] (ay (ab (Ge ?_)));exact eB h (gg [] [0])
  refine aw (aR ?_);exact eX h (gg [] [0])
 refine az (ab (G (au ?_)));obtain rfl:=sI h;exact RI [(.slice (.int .i64))]
def ku(q:QZ)(e:QK):(QK×Int×Int)→Option ((QK×Int×Int)⊕QK):=fun(f,j,v4) =>
 (if(decide (v4<(e.length:Int)))=true then(if 0≤v4∧v4<(e.length:Int)then(((if(decide ((e.getD v4.toNat 0)<0))=true then some (true)
 else(if 0≤j∧j<(q.length:Int)then some ((decide ((e.getD v4.toNat 0)≥((q.getD j.toNat []).length:Int))))else none))).bind fun u=>(if u=true then some (Sum.inr f)
 else(if 0≤j∧j<(q.length:Int)then(if 0≤(e.getD v4.toNat 0)∧(e.getD v4.toNat 0)<((q.getD j.toNat []).length:Int)then(if(f.length+([((q.getD j.toNat []).getD ((e.getD v4.toNat 0).toNat) 0)]:QK).length)*8≤140737488355328∧f.length+([((q.getD j.toNat []).getD ((e.getD v4.toNat 0).toNat) 0)]:QK).length≤9223372036854775807 then some (Sum.inl ((f++([((q.getD j.toNat []).getD ((e.getD v4.toNat 0).toNat) 0)]:QK)),((q.getD j.toNat []).getD ((e.getD v4.toNat 0).toNat) 0),(i64.wrap (v4+1))))else none)else none)else none)))else none)
 else some (Sum.inr f))
def nB(j:QZ)(q e:QK):Option QK :=
 (if((j.length:Int) == 0)=true then some ([]:QK)
 else((iter (ku j e) (([0]:QK),0,0)).bind fun f=>some f))
theorem vw(u v z:Bool){B:QZ}{C e A:QK}(h:nB B C e=some A):
  Pure Tryz.prog 99 [.agg [.p u (.slice (.slice (.int .i64))) B,.p v (.slice (.int .u32)) C],.p z (.slice (.int .i64)) e] (aM (bg false [⟨(.slice (.int .i64)),A⟩])):=by
 refine PB Tryz.func99 (fun Bw w0=>?_);unfold nB at h;refine G (af (G (aC h (fun O h=>?_) (fun O h=>?_))))
 ·refine G (au (ah ?_));obtain rfl:=sI h;exact RI [(.slice (.int .i64))]
 refine ae (ab (G (G (af (G (ak (cM h (fun(j,D,v4)=>aA [(2,.adr 0 0 2 0),(5,.sl 1),(6,.i64 D),(14,.p z (.slice (.int .i64)) e),(15,.i64 (e.length:Int)),(16,.i64 v4)] (MZ u B v C j) 2) 0 (fun q=>aA [(5,.sl 0)] [(0,.arr 3 (.int .i64) q)] 1) (gg [] [0,48]) (fun y o h=>?_) (fun q h=>?_))))))))
 ·obtain⟨j,D,v4⟩:=y;unfold ku at h;refine G (af (aC h (fun E h=>?_) (fun E h=>?_)))
  ·refine ae (ab (af (ak (GC 0 h (fun h=>af (af (bm h (fun I=>aA [(2,.adr 0 0 2 0),(5,.sl 1),(6,.i64 D),(8,.i64 (e.getD v4.toNat 0)),(14,.p z (.slice (.int .i64)) e),(15,.i64 (e.length:Int)),(16,.i64 v4),(31,.bo I)] (MZ u B v C j) 2) (fun I h=>?_) (fun I h=>?_))))))))
   ·rcases aI h with⟨f,h⟩ | ⟨f,h⟩
    ·exact bq ⟨[(2,true),(11,true)],[]⟩ [(3,11,oc f)] (eN h (gg [] [0,1]))
    obtain⟨J,h⟩:=aE h;exact bq ⟨[(2,false),(11,false)],[]⟩ [(3,6,an f),(7,7,oc (And.intro f J)),(8,10,an f),(11,11,oc f)] (eN h (gg [] [0,1]))
   refine ab (aC h (fun L h=>?_) (fun L h=>?_))
   ·refine aw (aR (jT rfl (aR ?_)));exact eX h (gg [] [1])
   refine ae (ab ?_);obtain⟨M,N,h⟩:=g2 h;refine GN a0 [(3,3,oc M),(6,6,oc N)] (yK 3 h (fun h=>ay (ab (Ge ?_))));exact eB h (gg [] [0,98])
  refine aw (aR ?_);exact eX h (gg [] [1])
 refine az (ab (G (au ?_)));obtain rfl:=sI h;exact RI [(.slice (.int .i64))]
def bP  : (QK×Int×Int)→Option ((QK×Int×Int)⊕QK):=fun(e,f,j) =>
 (if(decide (f<j))=true then(if 0≤j∧j<(e.length:Int)then(if j.toNat<e.length then(if 0≤f∧f<(e.length:Int)then(if f.toNat<e.length then(if 0≤f∧f<(e.length:Int)then(if f.toNat<e.length then(if 0≤j∧j<((e.set f.toNat (e.getD j.toNat 0)).length:Int)then(if j.toNat<(e.set f.toNat (e.getD j.toNat 0)).length then some (Sum.inl (((e.set f.toNat (e.getD j.toNat 0)).set j.toNat (e.getD f.toNat 0)),(i64.wrap (f+1)),(i64.wrap (j - 1))))else none)else none)else none)else none)else none)else none)else none)else none)
 else some (Sum.inr e))
def ck(e:QK):Option QK :=
 ((iter (bP) (e,0,(i64.wrap ((e.length:Int) - 1)))).bind fun f=>some f)
theorem kC{D e:QK}(h:ck D=some e):
  gN Tryz.prog 100 [.sl 0] [(0,.arr 3 (.int .i64) D)] (.tup []) [(0,.arr 3 (.int .i64) e)]:=by
 refine OB Tryz.func100 (fun Bw w0=>?_);unfold ck at h;refine G (ak (cM h (fun(E,I,J)=>aA [(0,.sl 0),(2,.i64 I),(3,.i64 J)] [(0,.arr 3 (.int .i64) E)] 1 1) 0 (fun f=>aA [] [(0,.arr 3 (.int .i64) f)] 1 1) (gg [] [0]) (fun y o h=>?_) (fun f h=>?_)))
 ·obtain⟨E,I,J⟩:=y;unfold bP at h;refine af (G (aC h (fun L h=>?_) (fun L h=>?_)))
  ·refine ae (ab (af (ak ?_)));obtain⟨j,q,u,v,h⟩:=g4 h;obtain⟨z,A,B,C,h⟩:=g4 h;refine mu a0 [(6,6,oc j),(7,7,oc q),(10,10,oc u),(11,11,oc v),(12,12,oc z),(13,13,oc A),(14,14,oc B),(15,15,oc C)] (ay (ab (Ge ?_)));exact eB h (gg [] [0])
  refine aw (aR ?_);exact eX h (gg [] [0])
 refine az ?_;obtain rfl:=sI h;exact(RO [] [] [0] [] [(0,.arr 3 (.int .i64) f)] 1 1).normal
def gQ(e:Int):Option (Int):=some (qE e)
theorem lY(x:Int)(w:World)(hl:vu Tryz.prog w):Calls Tryz.prog 101 #[.int .u32 x] w fun e f=>e = .returned (.int .i64 (qE x))∧f=w:=by
 have j:w.cell? ⟨0,(bits BinOp.and u32 x (-x % 4294967296)*125613361 % 4294967296 / 134217728).toNat,none⟩=some (.int .u8 (KY.getD (bits BinOp.and u32 x (-x % 4294967296)*125613361 % 4294967296 / 134217728).toNat 0)):=hl 0 (by kernel_rfl) _ (Jg _);go_enter Tryz.func101,Tryz.ntmps101;go_wp2
 ·rename_i h;go_ret
  exact⟨by rw[GG h];rfl,rfl⟩
 rename_i h;go_ret
 exact⟨by rw[←I1 h,List.getD_eq_getElem?_getD];rfl,rfl⟩
theorem ny{f e:Int}(h:gQ f=some e):
  Pure Tryz.prog 101 [.u32 f] (aM (bg false [⟨(.int .i64),e⟩])):=by
 obtain rfl:=sI h;exact Pure.NB Tryz.func101 (by kernel_rfl) rfl (fun w=>lY _ w)
def dA(j:Option Z5)(q:QK):(QK×QK×Bool×Int)→Option ((QK×QK×Bool×Int)⊕Z9):=fun(v10,v11,u,e) =>
 (if(decide (e<(q.length:Int)))=true then(if 0≤e∧e<(q.length:Int)then(((if(decide ((q.getD e.toNat 0)<0))=true then some (true)
 else(if j.isSome=true then some ((decide ((q.getD e.toNat 0)≥(((j.getD (Ty.zero nw)).1.1).length:Int))))else none))).bind fun v=>(((if v=true then some (0)
 else some ((q.getD e.toNat 0)))).bind fun f=>(((if u=true then(if j.isSome=true then(if 0≤f then some (((bitsOf .and .u32 (Int.fdiv ((j.getD (Ty.zero nw)).1.2.1) (2 ^ (min f.toNat u32.bits))) (1:Int)) == 1))else none)else none)
 else some (false))).bind fun z=>(if z=true then some (Sum.inl (v10,v11,u,(i64.wrap (e+1))))
 else(if j.isSome=true then(if 0≤f then(if(v10.length+([e]:QK).length)*8≤140737488355328∧v10.length+([e]:QK).length≤9223372036854775807 then(if j.isSome=true then(if 0≤f∧f<(((j.getD (Ty.zero nw)).1.2.2.2.1).length:Int)then(if(v11.length+([(((j.getD (Ty.zero nw)).1.2.2.2.1).getD f.toNat 0)]:QK).length)*8≤140737488355328∧v11.length+([(((j.getD (Ty.zero nw)).1.2.2.2.1).getD f.toNat 0)]:QK).length≤9223372036854775807 then some (Sum.inl ((v10++([e]:QK)),(v11++([(((j.getD (Ty.zero nw)).1.2.2.2.1).getD f.toNat 0)]:QK)),((bitsOf .and .u32 (Int.fdiv ((j.getD (Ty.zero nw)).1.2.2.1) (2 ^ (min f.toNat u32.bits))) (1:Int)) == 1),(i64.wrap (e+1))))else none)else none)else none)else none)else none)else none)))))else none)
 else some (Sum.inr (v10,v11)))
def dz(q:Option Z5)(f z A:QK):ua→Option (ua⊕QK):=fun(j,e) =>
 (if(decide (e<(f.length:Int)))=true then(if q.isSome=true then(if 0≤e∧e<(z.length:Int)then(if 0≤(z.getD e.toNat 0)∧(z.getD e.toNat 0)<(((q.getD (Ty.zero nw)).2.1.2).length:Int)then(if q.isSome=true then(if 0≤(i64.wrap ((f.length:Int) - e))∧(i64.wrap ((f.length:Int) - e))<(A.length:Int)then(if 0≤(A.getD ((i64.wrap ((f.length:Int) - e)).toNat) 0)∧(A.getD ((i64.wrap ((f.length:Int) - e)).toNat) 0)<(((q.getD (Ty.zero nw)).2.2.2).length:Int)then(if 0≤e∧e<(f.length:Int)then(if e.toNat<f.length then(if 0≤(f.getD e.toNat 0)∧(f.getD e.toNat 0)<(j.length:Int)then(if(f.getD e.toNat 0).toNat<j.length then(((if((bitsOf .and .u32 (((q.getD (Ty.zero nw)).2.1.2).getD ((z.getD e.toNat 0).toNat) 0) (((q.getD (Ty.zero nw)).2.2.2).getD ((A.getD ((i64.wrap ((f.length:Int) - e)).toNat) 0).toNat) 0)) != 0)=true then(if 0≤e∧e<(f.length:Int)then(if e.toNat<f.length then(if q.isSome=true then((gQ (bitsOf .and .u32 (((q.getD (Ty.zero nw)).2.1.2).getD ((z.getD e.toNat 0).toNat) 0) (((q.getD (Ty.zero nw)).2.2.2).getD ((A.getD ((i64.wrap ((f.length:Int) - e)).toNat) 0).toNat) 0))).bind fun u =>
 (if 0≤u∧u<(((q.getD (Ty.zero nw)).1.2.2.2.2).length:Int)then(if 0≤(f.getD e.toNat 0)∧(f.getD e.toNat 0)<((j.set ((f.getD e.toNat 0).toNat) 1).length:Int)then(if(f.getD e.toNat 0).toNat<(j.set ((f.getD e.toNat 0).toNat) 1).length then some (((j.set ((f.getD e.toNat 0).toNat) 1).set ((f.getD e.toNat 0).toNat) ((((q.getD (Ty.zero nw)).1.2.2.2.2).getD u.toNat (0,(Tree.node 0 0 []),(Tree.node 0 0 []))).1)))else none)else none)else none))else none)else none)else none)
 else some ((j.set ((f.getD e.toNat 0).toNat) 1)))).bind fun B=>some (Sum.inl (B,(i64.wrap (e+1)))))else none)else none)else none)else none)else none)else none)else none)else none)else none)else none)
 else some (Sum.inr j))
def eU(f:Option Z5)(e:QK):Option QK :=
 (if 0≤(i64.wrap ((e.length:Int)+1))∧(i64.wrap ((e.length:Int)+1))≤(i64.wrap ((e.length:Int)+1))∧1*(i64.wrap ((e.length:Int)+1))≤281474976710656∧(i64.wrap ((e.length:Int)+1))≤9223372036854775807 then(if 0≤(e.length:Int)∧(e.length:Int)<((List.replicate (i64.wrap ((e.length:Int)+1)).toNat (0:Int)).length:Int)then(if(e.length:Int).toNat<(List.replicate (i64.wrap ((e.length:Int)+1)).toNat (0:Int)).length then(if f.isNone=true then some ((List.replicate (i64.wrap ((e.length:Int)+1)).toNat (0:Int)).set ((e.length:Int).toNat) 2)
 else((iter (dA f e) (([]:QK),([]:QK),false,0)).bind fun(q,j)=>(if f.isSome=true then((nB ((f.getD (Ty.zero nw)).2.1.1) ((f.getD (Ty.zero nw)).2.1.2) j).bind fun v =>
 ((ck j).bind fun z =>
 (if f.isSome=true then((nB ((f.getD (Ty.zero nw)).2.2.1) ((f.getD (Ty.zero nw)).2.2.2) z).bind fun A =>
 ((iter (dz f q v A) (((List.replicate (i64.wrap ((e.length:Int)+1)).toNat (0:Int)).set ((e.length:Int).toNat) 2),1)).bind fun u=>some u))else none)))else none)))else none)else none)else none)
theorem lZ(f A:Bool){C:Option Z5}{j N:QK}(h:eU C j=some N):
  Pure Tryz.prog 68 [.p f (.ptr nw) C,.p A (.slice (.int .i64)) j] (aM (bg false [⟨(.slice (.int .u8)),N⟩])):=by
 refine PB Tryz.func68 (fun Bw w0=>?_);unfold eU at h;refine G (GC 3 h (fun h=>?_));obtain⟨c5,c6,h⟩:=g2 h;refine GN a0 [(3,3,oc c5),(4,4,oc c6)] (af (GN a0 [(1,1,⟨∃e,Tryz.prog.underlying 89=some (.pointer e),⟨_,rfl⟩⟩)] (aC h (fun B1 h=>?_) (fun B1 h=>?_))))
 ·refine G (au (ah ?_));obtain rfl:=sI h;exact RI [(.slice (.int .u8))]
 refine ae (ab (G (G (af (G (ak (cM h (fun(v10,v11,B,q)=>aA [(0,.p f (.ptr nw) C),(5,.sl 0),(6,.sl 1),(7,.sl 2),(8,.bo B),(26,.p A (.slice (.int .i64)) j),(27,.i64 (j.length:Int)),(28,.i64 q)] (IS ((List.replicate (i64.wrap ((j.length:Int)+1)).toNat (0:Int)).set ((j.length:Int).toNat) 2) v10 v11) 3) 0 (fun(D,O)=>aA [(0,.p f (.ptr nw) C),(5,.sl 0),(6,.sl 1),(7,.sl 2)] (IS ((List.replicate (i64.wrap ((j.length:Int)+1)).toNat (0:Int)).set ((j.length:Int).toNat) 2) D O) 3) (gg [.nilS 6 152 3 (.int .i64),.nilS 7 153 3 (.int .i64)] [32,152,153]) (fun y o h=>?_) (fun r1 h=>?_))))))))
 ·obtain⟨v10,v11,B,q⟩:=y;unfold dA at h;refine G (af (aC h (fun b2 h=>?_) (fun b2 h=>?_)))
  ·refine ae (ab (af (ak (GC 1 h (fun h=>af (af (bm h (fun I=>aA [(0,.p f (.ptr nw) C),(5,.sl 0),(6,.sl 1),(7,.sl 2),(8,.bo B),(9,.i64 q),(10,.i64 (j.getD q.toNat 0)),(26,.p A (.slice (.int .i64)) j),(27,.i64 (j.length:Int)),(28,.i64 q),(44,.bo I)] (IS ((List.replicate (i64.wrap ((j.length:Int)+1)).toNat (0:Int)).set ((j.length:Int).toNat) 2) v10 v11) 3) (fun I h=>?_) (fun I h=>?_))))))))
   ·rcases aI h with⟨z,h⟩ | ⟨z,h⟩
    ·exact bq ⟨[(2,true),(11,true)],[]⟩ [(3,11,oc z)] (eN h (gg [] [0,1,2]))
    obtain⟨b3,h⟩:=aE h;exact bq ⟨[(2,false),(11,false)],[]⟩ [(3,4,an z),(5,5,oc (And.intro z b3)),(6,10,an z),(11,11,oc z)] (eN h (gg [] [0,1,2]))
   refine ab (bm h (fun E=>aA [(0,.p f (.ptr nw) C),(5,.sl 0),(6,.sl 1),(7,.sl 2),(8,.bo B),(9,.i64 q),(10,.i64 E),(26,.p A (.slice (.int .i64)) j),(27,.i64 (j.length:Int)),(28,.i64 q)] (IS ((List.replicate (i64.wrap ((j.length:Int)+1)).toNat (0:Int)).set ((j.length:Int).toNat) 2) v10 v11) 3) (fun E h=>?_) (fun E h=>?_))
   ·refine aC h (fun b4 h=>?_) (fun b4 h=>?_)
    ·exact Ge (eN h (gg [] [0,1,2]))
    exact ae (eN h (gg [] [0,1,2]))
   refine ab (af (af (bm h (fun J=>aA [(0,.p f (.ptr nw) C),(5,.sl 0),(6,.sl 1),(7,.sl 2),(8,.bo B),(9,.i64 q),(10,.i64 E),(26,.p A (.slice (.int .i64)) j),(27,.i64 (j.length:Int)),(28,.i64 q),(56,.bo J)] (IS ((List.replicate (i64.wrap ((j.length:Int)+1)).toNat (0:Int)).set ((j.length:Int).toNat) 2) v10 v11) 3) (fun J h=>?_) (fun J h=>?_))))
   ·rcases aI h with⟨u,h⟩ | ⟨u,h⟩
    ·obtain⟨b5,b6,h⟩:=g2 h;exact bq ⟨[(1,true),(11,true)],[]⟩ [(2,2,an u),(3,3,oc (And.intro u b5)),(4,7,an u),(8,8,oc (And.intro u b6)),(9,10,an u),(11,11,oc u)] (eN h (gg [] [0,1,2]))
    exact bq ⟨[(1,false),(11,false)],[]⟩ [(2,11,oc u)] (eN h (gg [] [0,1,2]))
   refine ab (aC h (fun b7 h=>?_) (fun b7 h=>?_))
   ·refine aw (aR (az (ab (Ge ?_))));exact eB h (gg [] [0,1,2])
   refine ae (ab ?_);obtain⟨b8,b9,h⟩:=g2 h;refine GN a0 [(1,1,oc b8),(6,6,oc b9)] ?_;obtain⟨be,bi,bs,bv,h⟩:=g4 h;refine mu a0 [(3,3,oc be),(6,6,oc bi),(11,11,oc bs),(14,14,oc bv)] (ay (ab (Ge ?_)));exact eB h (gg [] [0,107,195])
  refine aw (aR ?_);exact eX h (gg [] [0,1,2])
 obtain⟨D,O⟩:=r1;refine az (ab ?_);obtain⟨bx,h⟩:=aE h;obtain⟨r3,q2,h⟩:=aj h;have v:=(vw f f true q2);refine GN ⟨[],[(5,(oP v))]⟩ [(1,1,oc bx),(5,5,oc v)] ?_;obtain⟨r5,q4,h⟩:=aj h;refine GO 1 [2] (kC q4) ?_;obtain⟨c1,h⟩:=aE h;obtain⟨r7,q6,h⟩:=aj h;have v:=(vw f f true q6);refine GN ⟨[],[(5,(oP v))]⟩ [(1,1,oc c1),(5,5,oc v)] (af (G (ak (cM h (fun(V,L)=>aA [(0,.p f (.ptr nw) C),(5,.sl 0),(6,.sl 1),(11,.p false (.slice (.int .i64)) r3),(12,.p false (.slice (.int .i64)) r7),(13,.i64 L)] [(0,.arr 71 (.int .u8) V),(1,.arr 3 (.int .i64) D)] 2) 2 (fun X=>aA [(5,.sl 0)] [(0,.arr 71 (.int .u8) X)] 1) (gg [] [0,1]) (fun y o h=>?_) (fun X h=>?_)))))
 ·obtain⟨V,L⟩:=y;unfold dz at h;refine af (G (aC h (fun c2 h=>?_) (fun c2 h=>?_)))
  ·refine ae (ab (af (ak ?_)));obtain⟨Y,Z,a1,a2,h⟩:=g4 h;obtain⟨a3,a4,h⟩:=g2 h;refine GD a0 [(1,1,oc Y),(7,7,oc Z),(9,9,oc a1),(12,12,oc a2),(21,21,oc a3),(23,23,oc a4)] ?_;obtain⟨a5,a6,a7,a8,h⟩:=g4 h;refine GN a0 [(3,3,oc a5),(4,4,oc a6),(5,5,oc a7),(6,6,oc a8)] (G (bm h (fun M=>aA [(0,.p f (.ptr nw) C),(5,.sl 0),(6,.sl 1),(11,.p false (.slice (.int .i64)) r3),(12,.p false (.slice (.int .i64)) r7),(13,.i64 L)] [(0,.arr 71 (.int .u8) M),(1,.arr 3 (.int .i64) D)] 2) (fun M h=>?_) (fun M h=>?_)))
   ·refine aC h (fun c3 h=>?_) (fun c3 h=>?_)
    ·obtain⟨a9,aa,ac,h⟩:=g3 h;obtain⟨c7,c4,h⟩:=aj h;obtain⟨ad,ax,b1,h⟩:=g3 h;have v:=(ny c4);exact mu ⟨[],[(11,(oP v))]⟩ [(3,3,oc a9),(4,4,oc aa),(6,6,oc ac),(11,11,oc v),(12,12,oc ad),(15,15,oc ax),(16,16,oc b1)] (eN h (gg [] [0,1]))
    exact ae (eN h (gg [] [0,1]))
   refine ay (ab (Ge ?_));exact eB h (gg [] [0,1])
  refine aw (aR ?_);exact eX h (gg [] [0])
 refine az (ab (G (au ?_)));obtain rfl:=sI h;exact RI [(.slice (.int .u8))]
def eS(e:Int)(f:Option Z3)(j:Int):Option (Bool) :=
 (if f.isSome=true then(if 0≤e∧e<(((f.getD (Ty.zero nW)).1).length:Int)then some (decide (((((f.getD (Ty.zero nW)).1).getD e.toNat (0,0,0)).2.1)≥j))else none)else none)
theorem mY(f:Bool){j:Int}{q:Option Z3}{u:Int}{e:Bool}(h:eS j q u=some e):
  Pure Tryz.prog 137 [.i64 j,.fad true [.p f (.ptr nW) q] 0,.fad true [.i32 u] 0] (aM (bg false [⟨.bool,e⟩])):=by
 refine PB Tryz.func137 (fun Bw w0=>?_);unfold eS at h;refine G ?_;obtain⟨v,z,h⟩:=g2 h;refine GD a0 [(1,1,oc v),(5,5,oc z)] (au ?_);obtain rfl:=sI h;exact RI [.bool]
def pM(j:Option Z3)(q:Int):(Int×Int)→Option ((Int×Int)⊕(Int)):=fun(e,f) =>
 (if(decide (e<f))=true then(if 0≤(1:Int)then((eS (i64.wrap (Int.fdiv (u64.wrap (i64.wrap (e+f))) (2 ^ (min (1:Int).toNat u64.bits)))) j q).bind fun u =>
 (if(!u)=true then some (Sum.inl ((i64.wrap ((i64.wrap (Int.fdiv (u64.wrap (i64.wrap (e+f))) (2 ^ (min (1:Int).toNat u64.bits))))+1)),f))
 else some (Sum.inl (e,(i64.wrap (Int.fdiv (u64.wrap (i64.wrap (e+f))) (2 ^ (min (1:Int).toNat u64.bits))))))))else none)
 else some (Sum.inr e))
def pT(e:Int)(f:Option Z3)(j:Int):Option (Int) :=
 ((iter (pM f j) (0,e)).bind fun q=>some q)
theorem w9(e:Bool){u:Int}{j:Option Z3}{q f:Int}(h:pT u j q=some f):
  Pure Tryz.prog 105 [.i64 u,.fn 137 [.fad true [.p e (.ptr nW) j] 0,.fad true [.i32 q] 0]] (aM (bg false [⟨(.int .i64),f⟩])):=by
 refine PB Tryz.func105 (fun Bw w0=>?_);unfold pT at h;refine G (G (af (ak (cM h (fun(v,z)=>aA [(1,.fn 137 [.fad true [.p e (.ptr nW) j] 0,.fad true [.i32 q] 0]),(5,.i64 v),(6,.i64 z)] [] 0) 0 (fun A=>aA [(5,.i64 A)] [] 0) (gg [] []) (fun y o h=>?_) (fun A h=>?_)))))
 ·obtain⟨v,z⟩:=y;unfold pM at h;refine af (G (aC h (fun B h=>?_) (fun B h=>?_)))
  ·refine ae (ab (ak (GC 4 h (fun h=>?_))));obtain⟨E,C,h⟩:=aj h;refine GP 2 (mY e C) (aC h (fun D h=>?_) (fun D h=>?_))
   ·refine Ge (ay ?_);exact eB h (gg [] [])
   refine Ge (ay ?_);exact eB h (gg [] [])
  refine aw (aR ?_);exact eX h (gg [] [])
 refine az (ab (G (au ?_)));obtain rfl:=sI h;exact RI [(.int .i64)]
def dZ(e:Option Z3)(j:Int):Option (Int×Bool) :=
 (if e.isNone=true then some (0,false)
 else(if e.isSome=true then((pT (((e.getD (Ty.zero nW)).1).length:Int) e j).bind fun f =>
 (((if e.isSome=true then(if(f == (((e.getD (Ty.zero nW)).1).length:Int))=true then some (true)
 else(if e.isSome=true then(if 0≤f∧f<(((e.getD (Ty.zero nW)).1).length:Int)then some ((decide (((((e.getD (Ty.zero nW)).1).getD f.toNat (0,0,0)).1) > j)))else none)else none))else none)).bind fun v1=>(if v1=true then some (0,false)
 else(if e.isSome=true then(if 0≤f∧f<(((e.getD (Ty.zero nW)).1).length:Int)then(if e.isSome=true then(if 0≤f∧f<(((e.getD (Ty.zero nW)).1).length:Int)then some ((i32.wrap ((i32.wrap ((i32.wrap ((((e.getD (Ty.zero nW)).1).getD f.toNat (0,0,0)).2.2))+j)) - ((((e.getD (Ty.zero nW)).1).getD f.toNat (0,0,0)).1))),true)else none)else none)else none)else none))))else none))
theorem oz(j:Bool){v:Option Z3}{z:Int}{q:Int×Bool}(h:dZ v z=some q):
  Pure Tryz.prog 103 [.p j (.ptr nW) v,.i32 z] (aM (bg false [⟨(.int .i32),q.1⟩,⟨.bool,q.2⟩])):=by
 refine PB Tryz.func103 (fun Bw w0=>?_);unfold dZ at h;refine G (af (GN a0 [(1,1,⟨∃e,Tryz.prog.underlying 91=some (.pointer e),⟨_,rfl⟩⟩)] (aC h (fun L h=>?_) (fun L h=>?_))))
 ·refine G (au (ah ?_));obtain rfl:=sI h;exact RI [(.int .i32),.bool]
 refine ae (ab ?_);obtain⟨M,h⟩:=aE h;obtain⟨N,O,h⟩:=aj h;have u:=(w9 j O);refine GN ⟨[],[(6,(oP u))]⟩ [(1,1,oc M),(6,6,oc u)] (af (af (bm h (fun v1=>aA [(2,.adr 0 0 1 0),(3,.adr 1 0 1 0),(6,.i64 N),(34,.bo v1)] [(0,.box [.p j (.ptr nW) v]),(1,.box [.i32 z])] 2) (fun v1 h=>?_) (fun v1 h=>?_))))
 ·obtain⟨J,h⟩:=aE h;rcases aI h with⟨f,h⟩ | ⟨f,h⟩
  ·exact mu ⟨[(7,true),(18,true)],[]⟩ [(2,2,oc J),(8,18,oc f)] (eN h (gg [] [0,8]))
  obtain⟨A,B,h⟩:=g2 h;exact mu ⟨[(7,false),(18,false)],[]⟩ [(2,2,oc J),(8,8,an f),(9,9,oc (And.intro f A)),(10,12,an f),(13,13,oc (And.intro f B)),(14,17,an f),(18,18,oc f)] (eN h (gg [] [0,8]))
 refine ab (aC h (fun V h=>?_) (fun V h=>?_))
 ·refine G (au (ah ?_));obtain rfl:=sI h;exact RI [(.int .i32),.bool]
 refine ae (ab ?_);obtain⟨C,D,E,I,h⟩:=g4 h;refine GD a0 [(1,1,oc C),(5,5,oc D),(12,12,oc E),(16,16,oc I)] (au ?_);obtain rfl:=sI h;exact RI [(.int .i32),.bool]
def kO(z:Option I9)(j q:Int):ua→Option (ua⊕QK):=fun(f,e) =>
 (if(decide (e<(((((z.getD (Ty.zero ur)).1).getD q.toNat ([],([]:QK))).2).length:Int)))=true then(if 0≤e∧e<(((((z.getD (Ty.zero ur)).1).getD q.toNat ([],([]:QK))).2).length:Int)then(((if(decide ((i64.wrap ((i64.wrap (j+e)) - 1))≥0))=true then some ((decide ((i64.wrap ((i64.wrap (j+e)) - 1))<(f.length:Int))))
 else some (false))).bind fun u=>(((if u=true then(if 0≤(i64.wrap ((i64.wrap (j+e)) - 1))∧(i64.wrap ((i64.wrap (j+e)) - 1))<(f.length:Int)then(if(i64.wrap ((i64.wrap (j+e)) - 1)).toNat<f.length then(if 0≤(i64.wrap ((i64.wrap (j+e)) - 1))∧(i64.wrap ((i64.wrap (j+e)) - 1))<(f.length:Int)then(if(i64.wrap ((i64.wrap (j+e)) - 1)).toNat<f.length then some ((f.set ((i64.wrap ((i64.wrap (j+e)) - 1)).toNat) (max (f.getD ((i64.wrap ((i64.wrap (j+e)) - 1)).toNat) 0) (((((z.getD (Ty.zero ur)).1).getD q.toNat ([],([]:QK))).2).getD e.toNat 0))))else none)else none)else none)else none)
 else some (f))).bind fun v=>some (Sum.inl (v,(i64.wrap (e+1))))))else none)
 else some (Sum.inr f))
def kT(q:Option I9)(u:QK)(z:Int):(QK×Int×Int)→Option ((QK×Int×Int)⊕QK):=fun(v,e,f) =>
 (if q.isSome=true then(if 0≤e∧e<(((q.getD (Ty.zero ur)).1).length:Int)then((iter (kO q z e) (v,0)).bind fun j=>(if(f == (((([46]:QK)++u)++([46]:QK)).length:Int))=true then some (Sum.inr j)
 else(if q.isSome=true then(if 0≤e∧e<(((q.getD (Ty.zero ur)).1).length:Int)then(if 0≤f∧f<(((([46]:QK)++u)++([46]:QK)).length:Int)then(if f.toNat<((([46]:QK)++u)++([46]:QK)).length then(if(!((aT (α:=Int) (.int .i32) ((((q.getD (Ty.zero ur)).1).getD e.toNat ([],([]:QK))).1) (((([46]:QK)++u)++([46]:QK)).getD f.toNat 0)).isSome))=true then some (Sum.inr j)
 else some (Sum.inl (j,((aT (α:=Int) (.int .i32) ((((q.getD (Ty.zero ur)).1).getD e.toNat ([],([]:QK))).1) (((([46]:QK)++u)++([46]:QK)).getD f.toNat 0)).getD 0),(i64.wrap (f+1)))))else none)else none)else none)else none)))else none)else none)
def kV(u:Option I9)(q:QK):ua→Option (ua⊕QK):=fun(f,e) =>
 (if(decide (e<(((([46]:QK)++q)++([46]:QK)).length:Int)))=true then((iter (kT u q e) (f,0,e)).bind fun j=>some (Sum.inl (j,(i64.wrap (e+1)))))
 else some (Sum.inr f))
def fL(j:Option I9)(e:QK):Option QK :=
 (if 0≤(i64.wrap ((e.length:Int)+1))∧(i64.wrap ((e.length:Int)+1))≤(i64.wrap ((e.length:Int)+1))∧1*(i64.wrap ((e.length:Int)+1))≤281474976710656∧(i64.wrap ((e.length:Int)+1))≤9223372036854775807 then(if j.isNone=true then some (List.replicate (i64.wrap ((e.length:Int)+1)).toNat (0:Int))
 else(if(([46]:QK).length+e.length)*4≤140737488355328∧([46]:QK).length+e.length≤9223372036854775807 then(if((([46]:QK)++e).length+([46]:QK).length)*4≤140737488355328∧(([46]:QK)++e).length+([46]:QK).length≤9223372036854775807 then((iter (kV j e) ((List.replicate (i64.wrap ((e.length:Int)+1)).toNat (0:Int)),0)).bind fun f=>some f)else none)else none))else none)
theorem qM(q ad:Bool){z:Option I9}{A M:QK}(h:fL z A=some M):
  Pure Tryz.prog 138 [.p q (.ptr ur) z,.p ad (.slice (.int .i32)) A] (aM (bg false [⟨(.slice (.int .u8)),M⟩])):=by
 refine PB Tryz.func138 (fun Bw w0=>?_);unfold fL at h;refine G (GC 3 h (fun h=>af (GN a0 [(1,1,⟨∃e,Tryz.prog.underlying 164=some (.pointer e),⟨_,rfl⟩⟩)] (aC h (fun B1 h=>?_) (fun B1 h=>?_)))))
 ·refine G (au (ah ?_));obtain rfl:=sI h;exact RI [(.slice (.int .u8))]
 refine ae (ab ?_);obtain⟨c5,c6,h⟩:=g2 h;refine GN a0 [(2,2,oc c5),(4,4,oc c6)] (af (G (ak (cM h (fun(N,j)=>aA [(0,.p q (.ptr ur) z),(5,.sl 0),(6,.sl 1),(28,.i64 (((([46]:QK)++A)++([46]:QK)).length:Int)),(29,.i64 j)] [(0,.arr 5 (.int .u8) N),(1,.arr 21 (.int .i32) ((([46]:QK)++A)++([46]:QK)))] 2) 0 (fun O=>aA [(5,.sl 0)] [(0,.arr 5 (.int .u8) O)] 1) (gg [] [32,96]) (fun y o h=>?_) (fun O h=>?_)))))
 ·obtain⟨N,j⟩:=y;unfold kV at h;refine G (af (aC h (fun V h=>?_) (fun V h=>?_)))
  ·refine ae (ab (af (ak (G (G (G (ak (cM h (fun(I,f,u)=>aA [(0,.p q (.ptr ur) z),(5,.sl 0),(6,.sl 1),(7,.i64 j),(8,.i64 f),(9,.i64 u),(28,.i64 (((([46]:QK)++A)++([46]:QK)).length:Int)),(29,.i64 j)] [(0,.arr 5 (.int .u8) I),(1,.arr 21 (.int .i32) ((([46]:QK)++A)++([46]:QK)))] 2) 2 (fun J=>aA [(0,.p q (.ptr ur) z),(5,.sl 0),(6,.sl 1),(28,.i64 (((([46]:QK)++A)++([46]:QK)).length:Int)),(29,.i64 j)] [(0,.arr 5 (.int .u8) J),(1,.arr 21 (.int .i32) ((([46]:QK)++A)++([46]:QK)))] 2) (gg [] [0,1]) (fun y o h=>?_) (fun J h=>?_)))))))))
   ·obtain⟨I,f,u⟩:=y;unfold kT at h;refine af (ak (af ?_));obtain⟨X,Y,h⟩:=g2 h;refine GN a0 [(1,1,oc X),(5,5,oc Y)] (ak ?_);refine cM h (fun(C,v)=>aA [(0,.p q (.ptr ur) z),(5,.sl 0),(6,.sl 1),(7,.i64 j),(8,.i64 f),(9,.i64 u),(28,.i64 (((([46]:QK)++A)++([46]:QK)).length:Int)),(29,.i64 j),(42,.p q (.slice (.int .u8)) ((((z.getD (Ty.zero ur)).1).getD f.toNat ([],([]:QK))).2)),(43,.i64 (((((z.getD (Ty.zero ur)).1).getD f.toNat ([],([]:QK))).2).length:Int)),(44,.i64 v)] [(0,.arr 5 (.int .u8) C),(1,.arr 21 (.int .i32) ((([46]:QK)++A)++([46]:QK)))] 2) 4 (fun L=>aA [(0,.p q (.ptr ur) z),(5,.sl 0),(6,.sl 1),(7,.i64 j),(8,.i64 f),(9,.i64 u),(28,.i64 (((([46]:QK)++A)++([46]:QK)).length:Int)),(29,.i64 j)] [(0,.arr 5 (.int .u8) L),(1,.arr 21 (.int .i32) ((([46]:QK)++A)++([46]:QK)))] 2) (gg [] [0,1]) (fun y o h=>?_) (fun L h=>?_)
    ·obtain⟨C,v⟩:=y;unfold kO at h;refine G (af (aC h (fun Z h=>?_) (fun Z h=>?_)))
     ·refine ae (ab (af (ak (GC 1 h (fun h=>G (af ?_))))));refine bm h (fun D=>aA [(0,.p q (.ptr ur) z),(5,.sl 0),(6,.sl 1),(7,.i64 j),(8,.i64 f),(9,.i64 u),(11,.u8 (((((z.getD (Ty.zero ur)).1).getD f.toNat ([],([]:QK))).2).getD v.toNat 0)),(12,.i64 (i64.wrap ((i64.wrap (j+v)) - 1))),(28,.i64 (((([46]:QK)++A)++([46]:QK)).length:Int)),(29,.i64 j),(42,.p q (.slice (.int .u8)) ((((z.getD (Ty.zero ur)).1).getD f.toNat ([],([]:QK))).2)),(43,.i64 (((((z.getD (Ty.zero ur)).1).getD f.toNat ([],([]:QK))).2).length:Int)),(44,.i64 v),(60,.bo D)] [(0,.arr 5 (.int .u8) C),(1,.arr 21 (.int .i32) ((([46]:QK)++A)++([46]:QK)))] 2) (fun D h=>?_) (fun D h=>?_)
      ·rcases aI h with⟨B,h⟩ | ⟨B,h⟩
       ·exact bq ⟨[(2,true),(7,true)],[]⟩ [(3,6,an B),(7,7,oc B)] (eN h (gg [] [0,1]))
       exact bq ⟨[(2,false),(7,false)],[]⟩ [(3,7,oc B)] (eN h (gg [] [0,1]))
      refine ab (bm h (fun E=>aA [(0,.p q (.ptr ur) z),(5,.sl 0),(6,.sl 1),(7,.i64 j),(8,.i64 f),(9,.i64 u),(28,.i64 (((([46]:QK)++A)++([46]:QK)).length:Int)),(29,.i64 j),(42,.p q (.slice (.int .u8)) ((((z.getD (Ty.zero ur)).1).getD f.toNat ([],([]:QK))).2)),(43,.i64 (((((z.getD (Ty.zero ur)).1).getD f.toNat ([],([]:QK))).2).length:Int)),(44,.i64 v)] [(0,.arr 5 (.int .u8) E),(1,.arr 21 (.int .i32) ((([46]:QK)++A)++([46]:QK)))] 2) (fun E h=>?_) (fun E h=>?_))
      ·refine aC h (fun a1 h=>?_) (fun a1 h=>?_)
       ·obtain⟨a2,a3,a4,a5,h⟩:=g4 h;exact bq a0 [(4,4,oc a2),(5,5,oc a3),(8,8,oc a4),(9,9,oc a5)] (eN h (gg [] [0,1]))
       exact ae (eN h (gg [] [0,1]))
      refine ay (ab (Ge ?_));exact eB h (gg [] [0,1])
     refine aw (aR ?_);exact eX h (gg [] [0,1])
    refine az (ab (af (G (aC h (fun a6 h=>?_) (fun a6 h=>?_)))))
    ·refine aw (aR (jT rfl (aR ?_)));exact eX h (gg [] [0,1])
    refine ae (ab ?_);obtain⟨a7,a8,a9,aa,h⟩:=g4 h;refine GD a0 [(1,1,oc a7),(5,5,oc a8),(10,10,oc a9),(11,11,oc aa)] (af (G (aC h (fun ac h=>?_) (fun ac h=>?_))))
    ·refine aw (aR (jT rfl (aR ?_)));exact eX h (gg [] [0,1])
    refine ae (ab (Ge (ay (ab (Ge ?_)))));exact eB h (gg [] [0,1])
   refine az (ay (ab (Ge ?_)));exact eB h (gg [] [0,1])
  refine aw (aR ?_);exact eX h (gg [] [0])
 refine az (ab (G (au ?_)));obtain rfl:=sI h;exact RI [(.slice (.int .u8))]
def ik(e q f:QK):Option (Bool) :=
 ((cC e f).bind fun j =>
 some j)
theorem oQ(e q f:Bool){u v z:QK}{j:Bool}(h:ik u v z=some j):
  Pure Tryz.prog 139 [.agg [.p e (.slice (.int .i32)) u,.p q (.slice (.int .u8)) v],.fad true [.p f (.slice (.int .i32)) z] 0] (aM (bg false [⟨.bool,j⟩])):=by
 refine PB Tryz.func139 (fun Bw w0=>?_);unfold ik at h;refine G ?_;obtain⟨B,A,h⟩:=aj h;refine GP 3 (gI e f A) (au ?_);obtain rfl:=sI h;exact RI [.bool]
def my(f:List Z9)(j:QK):(Int)→Option ((Int)⊕((Unit)⊕(Int))):=fun e =>
 (if(decide (e<(f.length:Int)))=true then(if 0≤e∧e<(f.length:Int)then((ik ((f.getD e.toNat ([],([]:QK))).1) ((f.getD e.toNat ([],([]:QK))).2) j).bind fun q =>
 (if q=true then some (Sum.inr (Sum.inr e))
 else some (Sum.inl (i64.wrap (e+1)))))else none)
 else some (Sum.inr (Sum.inl ())))
def jq(e:List Z9)(f:QK):Option (Int) :=
 ((iter (my e f) (0:Int)).bind fun(j:((Unit)⊕(Int)))=>match j with
 | .inl _=>some (-1:Int)
 | .inr (q)=>some q)
theorem rW(f j:Bool){v:List Z9}{z:QK}{q:Int}(h:jq v z=some q):
  Pure Tryz.prog 130 [.p f (.slice rV) v,.fn 139 [.fad true [.p j (.slice (.int .i32)) z] 0]] (aM (bg false [⟨(.int .i64),q⟩])):=by
 refine PB Tryz.func130 (fun Bw w0=>?_);unfold jq at h;refine G (af (G (ak (kX h (fun B=>aA [(0,.p f (.slice rV) v),(1,.fn 139 [.fad true [.p j (.slice (.int .i32)) z] 0]),(7,.i64 (v.length:Int)),(8,.i64 B)] [] 0) (dL (fK Tryz.f130.ntmps 0 (fun _=>aA [] [] 0)) (gM tb Tryz.f130.results.toList (fun C=>[⟨(.int .i64),C⟩]))) (gg [] []) (fun B o h=>?_) (fun E h e σ' D=>?_)))))
 ·unfold my at h;refine G (af (aC h (fun I h=>?_) (fun I h=>?_)))
  ·refine ae (ab (af (ak (G ?_))));obtain⟨J,h⟩:=aE h;obtain⟨O,L,h⟩:=aj h;have u:=(oQ f f j L);refine GN ⟨[],[(5,(oP u))]⟩ [(3,3,oc J),(5,5,oc u)] (aC h (fun M h=>?_) (fun M h=>?_))
   ·refine G (au ?_);obtain rfl:=sI h;refine aB (ah (bL (aN ?_)));exact bK (RI [(.int .i64)])
   refine ae (ay (ab (Ge ?_)));exact eB h (gg [] [])
  refine aw (aR ?_);obtain rfl:=sI h;refine eo (bn ?_);exact bT (gg [] [])
 rcases E with _ | C
 ·obtain⟨rfl,A⟩:=D;refine cU ?_ A;refine az (ab (G (au ?_)));obtain rfl:=sI h;exact RI [(.int .i64)]
 obtain⟨rfl,N⟩:=D;refine aB (ah ?_);obtain rfl:=sI h;exact N
def gT(u:Option Z3)(q e:QK):((List Bool)×Int)→Option (((List Bool)×Int)⊕(List Bool)):=fun(f,j) =>
 (if u.isSome=true then(if(decide (j≤(i64.wrap ((q.length:Int) - ((u.getD (Ty.zero nW)).2.2.2.2)))))=true then(if 0≤j∧j<(e.length:Int)then(if ¬(2:Int)=0 then(if 0≤j∧j<(f.length:Int)then(if j.toNat<f.length then some (Sum.inl ((f.set j.toNat ((Int.tmod (e.getD j.toNat 0) (2:Int)) == 1)),(i64.wrap (j+1))))else none)else none)else none)else none)
 else some (Sum.inr f))else none)
def fg(f:Option Z3)(e:QK):Option (List Bool) :=
 (if 0≤(i64.wrap ((e.length:Int)+1))∧(i64.wrap ((e.length:Int)+1))≤(i64.wrap ((e.length:Int)+1))∧1*(i64.wrap ((e.length:Int)+1))≤281474976710656∧(i64.wrap ((e.length:Int)+1))≤9223372036854775807 then(if f.isNone=true then some (List.replicate (i64.wrap ((e.length:Int)+1)).toNat false)
 else(if f.isSome=true then((fL ((f.getD (Ty.zero nW)).2.1) e).bind fun v =>
 (if f.isSome=true then((jq ((f.getD (Ty.zero nW)).2.2.1) e).bind fun u =>
 (((if(decide (u≥0))=true then(if f.isSome=true then(if 0≤u∧u<(((f.getD (Ty.zero nW)).2.2.1).length:Int)then some ((((f.getD (Ty.zero nW)).2.2.1).getD u.toNat ([],([]:QK))).2)else none)else none)
 else some (v))).bind fun j=>(if f.isSome=true then((iter (gT f e j) ((List.replicate (i64.wrap ((e.length:Int)+1)).toNat false),(f.getD (Ty.zero nW)).2.2.2.1)).bind fun q=>some q)else none)))else none))else none))else none)
theorem pW(q:Bool){B:Option Z3}{j:QK}{A:List Bool}(h:fg B j=some A):
  Pure Tryz.prog 104 [.p false (.ptr nW) B,.p q (.slice (.int .i32)) j] (aM (bg false [⟨(.slice .bool),A⟩])):=by
 refine PB Tryz.func104 (fun Bw w0=>?_);unfold fg at h;refine G (GC 3 h (fun h=>af (GN a0 [(1,1,⟨∃e,Tryz.prog.underlying 91=some (.pointer e),⟨_,rfl⟩⟩)] (aC h (fun O h=>?_) (fun O h=>?_)))))
 ·refine G (au (ah ?_));obtain rfl:=sI h;exact RI [(.slice .bool)]
 refine ae (ab ?_);obtain⟨V,h⟩:=aE h;obtain⟨r2,X,h⟩:=aj h;have u:=(qM false q X);refine GD ⟨[],[(5,(oP u))]⟩ [(1,1,oc V),(5,5,oc u)] (af ?_);obtain⟨Y,h⟩:=aE h;obtain⟨r4,Z,h⟩:=aj h;have u:=(rW false q Z);refine GN ⟨[],[(5,(oP u))]⟩ [(1,1,oc Y),(5,5,oc u)] (G (bm h (fun f=>aA [(0,.p false (.ptr nW) B),(3,.adr 0 0 1 0),(5,.sl 1),(6,.p false (.slice (.int .u8)) f)] (MW q j (List.replicate (i64.wrap ((j.length:Int)+1)).toNat false)) 2) (fun f h=>?_) (fun f h=>?_)))
 ·refine aC h (fun B3 h=>?_) (fun B3 h=>?_)
  ·obtain⟨C,D,h⟩:=g2 h;exact bq a0 [(1,1,oc C),(5,5,oc D)] (eN h (gg [] [0,40]))
  exact ae (eN h (gg [] [0,40]))
 refine ab (af (GC 1 h (fun h=>ak (cM h (fun(v,N)=>aA [(0,.p false (.ptr nW) B),(3,.adr 0 0 1 0),(5,.sl 1),(6,.p false (.slice (.int .u8)) f),(8,.i64 N)] (MW q j v) 2) 0 (fun z=>aA [(5,.sl 0)] [(0,.arr 4 .bool z)] 1) (gg [] [0,1]) (fun y o h=>?_) (fun z h=>?_)))))
 ·obtain⟨v,N⟩:=y;unfold gT at h;refine af ?_;obtain⟨E,h⟩:=aE h;refine GD a0 [(4,4,oc E)] (aC h (fun B6 h=>?_) (fun B6 h=>?_))
  ·refine ae (ab (af (ak ?_)));obtain⟨I,J,L,M,h⟩:=g4 h;refine bq a0 [(4,4,oc I),(6,6,oc J),(8,8,oc L),(9,9,oc M)] (ay (ab (Ge ?_)));exact eB h (gg [] [0,1])
  refine aw (aR ?_);exact eX h (gg [] [1])
 refine az (ab (G (au ?_)));obtain rfl:=sI h;exact RI [(.slice .bool)]
def jn(v:Option Z3)(q:XK):(Int×QK)→Option ((Int×QK)⊕(Int×QK)):=fun(f,e) =>
 (if(decide (f<(q.length:Int)))=true then(if 0≤f∧f<(q.length:Int)then((dZ v ((q.getD f.toNat (0,0,0)).1)).bind fun(j,u) =>
 (if(!u)=true then some (Sum.inr (f,e))
 else(if(e.length+([j]:QK).length)*4≤140737488355328∧e.length+([j]:QK).length≤9223372036854775807 then some (Sum.inl ((i64.wrap (f+1)),(e++([j]:QK))))else none)))else none)
 else some (Sum.inr (f,e)))
def jm(u:Option Z3)(v:XK):((List Bool)×Int)→Option (((List Bool)×Int)⊕(List Bool)):=fun(f,i8) =>
 (if(decide (i8<(v.length:Int)))=true then((iter (jn u v) (i8,([]:QK))).bind fun(q,e)=>(if 0≤i8∧i8≤(f.length:Int)then((fg u e).bind fun j =>
 (if 0≤(0:Int)∧0≤(e.length:Int)∧(e.length:Int)≤(j.length:Int)then some (Sum.inl ((f.take i8.toNat++(((j.take (e.length:Int).toNat).drop (0:Int).toNat).take (f.length - i8.toNat)++f.drop (i8.toNat+((j.take (e.length:Int).toNat).drop (0:Int).toNat).length))),(i64.wrap (q+1))))else none))else none))
 else some (Sum.inr f))
def dW(j:Option Z3)(e:XK):Option (List Bool) :=
 (if 0≤(i64.wrap ((e.length:Int)+1))∧(i64.wrap ((e.length:Int)+1))≤(i64.wrap ((e.length:Int)+1))∧1*(i64.wrap ((e.length:Int)+1))≤281474976710656∧(i64.wrap ((e.length:Int)+1))≤9223372036854775807 then((iter (jm j e) ((List.replicate (i64.wrap ((e.length:Int)+1)).toNat false),0)).bind fun f=>some f)else none)
theorem oK(u:Bool){v:Option Z3}{A:XK}{B:List Bool}(h:dW v A=some B):
  Pure Tryz.prog 70 [.p false (.ptr nW) v,.p u (.slice (.prod (.int .i32) Y2)) A] (aM (bg false [⟨(.slice .bool),B⟩])):=by
 refine PB Tryz.func70 (fun Bw w0=>?_);unfold dW at h;refine G (GC 3 h (fun h=>G (af (G (ak (cM h (fun(e,i8)=>aA [(0,.p false (.ptr nW) v),(1,.p u (.slice (.prod (.int .i32) Y2)) A),(5,.sl 0),(6,.bfn 103 [.p false (.ptr nW) v]),(7,.i64 i8)] [(0,.arr 4 .bool e)] 1) 0 (fun z=>aA [(5,.sl 0)] [(0,.arr 4 .bool z)] 1) (gg [] [32]) (fun y o h=>?_) (fun z h=>?_)))))))
 ·obtain⟨e,i8⟩:=y;unfold jm at h;refine af (G (aC h (fun E h=>?_) (fun E h=>?_)))
  ·refine ae (ab (af (ak (G (G (af (ak (cM h (fun(C,f)=>aA [(0,.p false (.ptr nW) v),(1,.p u (.slice (.prod (.int .i32) Y2)) A),(5,.sl 0),(6,.bfn 103 [.p false (.ptr nW) v]),(7,.i64 C),(8,.sl 1),(9,.i64 i8)] [(0,.arr 4 .bool e),(1,.arr 21 (.int .i32) f)] 2) 2 (fun(D,j)=>aA [(0,.p false (.ptr nW) v),(1,.p u (.slice (.prod (.int .i32) Y2)) A),(5,.sl 0),(6,.bfn 103 [.p false (.ptr nW) v]),(7,.i64 D),(8,.sl 1),(9,.i64 i8)] [(0,.arr 4 .bool e),(1,.arr 21 (.int .i32) j)] 2) (gg [.nilS 8 57 21 (.int .i32)] [0,57]) (fun y o h=>?_) (fun I h=>?_)))))))))
   ·obtain⟨C,f⟩:=y;unfold jn at h;refine af (G (aC h (fun J h=>?_) (fun J h=>?_)))
    ·refine ae (ab (af (ak ?_)));obtain⟨L,h⟩:=aE h;obtain⟨⟨Y,Z⟩,M,h⟩:=aj h;have q:=(oz false M);refine GN ⟨[],[(6,(oP q))]⟩ [(3,3,oc L),(6,6,oc q)] (af (G (aC h (fun N h=>?_) (fun N h=>?_))))
     ·refine aw (aR (jT rfl (aR ?_)));exact eX h (gg [] [0,1])
     refine ae (ab (yK 3 h (fun h=>ay (ab (Ge ?_)))));exact eB h (gg [] [0,170])
    refine aw (aR ?_);exact eX h (gg [] [0,1])
   obtain⟨D,j⟩:=I;refine az (ab ?_);obtain⟨O,h⟩:=aE h;obtain⟨a1,V,h⟩:=aj h;obtain⟨X,h⟩:=aE h;have q:=(pW true V);refine mu ⟨[],[(5,(oP q))]⟩ [(2,2,oc O),(5,5,oc q),(8,8,oc X)] (ay (ab (Ge ?_)));exact eB h (gg [] [0])
  refine aw (aR ?_);exact eX h (gg [] [0])
 refine az (ab (G (au ?_)));obtain rfl:=sI h;exact RI [(.slice .bool)]
def ml(e:Int):Option (Int) :=
 (if(e == 32)=true then some 1
 else(if(e == 9)=true then some 2
 else some 0))
theorem yX{f e:Int}(h:ml f=some e):
  Pure Tryz.prog 136 [.i32 f] (aM (bg false [⟨(.int .u8),e⟩])):=by
 refine PB Tryz.func136 (fun Bw w0=>?_);unfold ml at h;refine G (af (G (ak (G (aC h (fun j h=>?_) (fun j h=>?_))))))
 ·refine G (au (aB (ah ?_)));obtain rfl:=sI h;exact RI [(.int .u8)]
 refine G (aC h (fun q h=>?_) (fun q h=>?_))
 ·refine G (au (aB (ah ?_)));obtain rfl:=sI h;exact RI [(.int .u8)]
 refine ae (ay (ab (G (au ?_))));obtain rfl:=sI h;exact RI [(.int .u8)]
def dG(q:XK)(A:QK)(D:Option Ay):(Qj×QK×Int)→Option ((Qj×QK×Int)⊕(Qj×QK)):=fun(u,v,f) =>
 (if(decide (f<(q.length:Int)))=true then(if 0≤f∧f<(q.length:Int)then(((if(f == 0)=true then some (true)
 else(if(decide (f<(A.length:Int)))=true then(if 0≤f∧f<(A.length:Int)then some (((A.getD f.toNat 0) != 0))else none)
 else some (false)))).bind fun B=>(((if B=true then((ml ((q.getD f.toNat (0,0,0)).1)).bind fun z =>
 (if(u.length+([((q.getD f.toNat (0,0,0)).2.1,0,0,z)]:Qj).length)*32≤140737488355328∧u.length+([((q.getD f.toNat (0,0,0)).2.1,0,0,z)]:Qj).length≤9223372036854775807 then(if(v.length+([f]:QK).length)*8≤140737488355328∧v.length+([f]:QK).length≤9223372036854775807 then some (((u++([((q.getD f.toNat (0,0,0)).2.1,0,0,z)]:Qj)),(v++([f]:QK))))else none)else none))
 else some ((u,v)))).bind fun(e,j)=>(if 0≤(i64.wrap ((e.length:Int) - 1))∧(i64.wrap ((e.length:Int) - 1))<(e.length:Int)then(if 0≤(i64.wrap ((j.length:Int) - 1))∧(i64.wrap ((j.length:Int) - 1))<(j.length:Int)then(if(i64.wrap ((j.length:Int) - 1)).toNat<j.length then(((if((j.getD ((i64.wrap ((j.length:Int) - 1)).toNat) 0) != f)=true then(if(i64.wrap ((e.length:Int) - 1)).toNat<e.length then some ((e.set ((i64.wrap ((e.length:Int) - 1)).toNat) ((e.getD ((i64.wrap ((e.length:Int) - 1)).toNat) (0,0,0,0)).1,(e.getD ((i64.wrap ((e.length:Int) - 1)).toNat) (0,0,0,0)).2.1,(e.getD ((i64.wrap ((e.length:Int) - 1)).toNat) (0,0,0,0)).2.2.1,0)))else none)
 else some (e))).bind fun v20=>(if(i64.wrap ((e.length:Int) - 1)).toNat<v20.length then(if(i64.wrap ((e.length:Int) - 1)).toNat<v20.length then(if(i64.wrap ((e.length:Int) - 1)).toNat<(v20.set ((i64.wrap ((e.length:Int) - 1)).toNat) ((v20.getD ((i64.wrap ((e.length:Int) - 1)).toNat) (0,0,0,0)).1,(i64.wrap (((v20.getD ((i64.wrap ((e.length:Int) - 1)).toNat) (0,0,0,0)).2.1)+((q.getD f.toNat (0,0,0)).2.2))),(v20.getD ((i64.wrap ((e.length:Int) - 1)).toNat) (0,0,0,0)).2.2.1,(v20.getD ((i64.wrap ((e.length:Int) - 1)).toNat) (0,0,0,0)).2.2.2)).length then((bh D ((q.getD f.toNat (0,0,0)).1)).bind fun C =>
 (if(i64.wrap ((e.length:Int) - 1)).toNat<(v20.set ((i64.wrap ((e.length:Int) - 1)).toNat) ((v20.getD ((i64.wrap ((e.length:Int) - 1)).toNat) (0,0,0,0)).1,(i64.wrap (((v20.getD ((i64.wrap ((e.length:Int) - 1)).toNat) (0,0,0,0)).2.1)+((q.getD f.toNat (0,0,0)).2.2))),(v20.getD ((i64.wrap ((e.length:Int) - 1)).toNat) (0,0,0,0)).2.2.1,(v20.getD ((i64.wrap ((e.length:Int) - 1)).toNat) (0,0,0,0)).2.2.2)).length then some (Sum.inl (((v20.set ((i64.wrap ((e.length:Int) - 1)).toNat) ((v20.getD ((i64.wrap ((e.length:Int) - 1)).toNat) (0,0,0,0)).1,(i64.wrap (((v20.getD ((i64.wrap ((e.length:Int) - 1)).toNat) (0,0,0,0)).2.1)+((q.getD f.toNat (0,0,0)).2.2))),(v20.getD ((i64.wrap ((e.length:Int) - 1)).toNat) (0,0,0,0)).2.2.1,(v20.getD ((i64.wrap ((e.length:Int) - 1)).toNat) (0,0,0,0)).2.2.2)).set ((i64.wrap ((e.length:Int) - 1)).toNat) (((v20.set ((i64.wrap ((e.length:Int) - 1)).toNat) ((v20.getD ((i64.wrap ((e.length:Int) - 1)).toNat) (0,0,0,0)).1,(i64.wrap (((v20.getD ((i64.wrap ((e.length:Int) - 1)).toNat) (0,0,0,0)).2.1)+((q.getD f.toNat (0,0,0)).2.2))),(v20.getD ((i64.wrap ((e.length:Int) - 1)).toNat) (0,0,0,0)).2.2.1,(v20.getD ((i64.wrap ((e.length:Int) - 1)).toNat) (0,0,0,0)).2.2.2)).getD ((i64.wrap ((e.length:Int) - 1)).toNat) (0,0,0,0)).1,((v20.set ((i64.wrap ((e.length:Int) - 1)).toNat) ((v20.getD ((i64.wrap ((e.length:Int) - 1)).toNat) (0,0,0,0)).1,(i64.wrap (((v20.getD ((i64.wrap ((e.length:Int) - 1)).toNat) (0,0,0,0)).2.1)+((q.getD f.toNat (0,0,0)).2.2))),(v20.getD ((i64.wrap ((e.length:Int) - 1)).toNat) (0,0,0,0)).2.2.1,(v20.getD ((i64.wrap ((e.length:Int) - 1)).toNat) (0,0,0,0)).2.2.2)).getD ((i64.wrap ((e.length:Int) - 1)).toNat) (0,0,0,0)).2.1,(max (((v20.set ((i64.wrap ((e.length:Int) - 1)).toNat) ((v20.getD ((i64.wrap ((e.length:Int) - 1)).toNat) (0,0,0,0)).1,(i64.wrap (((v20.getD ((i64.wrap ((e.length:Int) - 1)).toNat) (0,0,0,0)).2.1)+((q.getD f.toNat (0,0,0)).2.2))),(v20.getD ((i64.wrap ((e.length:Int) - 1)).toNat) (0,0,0,0)).2.2.1,(v20.getD ((i64.wrap ((e.length:Int) - 1)).toNat) (0,0,0,0)).2.2.2)).getD ((i64.wrap ((e.length:Int) - 1)).toNat) (0,0,0,0)).2.2.1) (min C 2)),((v20.set ((i64.wrap ((e.length:Int) - 1)).toNat) ((v20.getD ((i64.wrap ((e.length:Int) - 1)).toNat) (0,0,0,0)).1,(i64.wrap (((v20.getD ((i64.wrap ((e.length:Int) - 1)).toNat) (0,0,0,0)).2.1)+((q.getD f.toNat (0,0,0)).2.2))),(v20.getD ((i64.wrap ((e.length:Int) - 1)).toNat) (0,0,0,0)).2.2.1,(v20.getD ((i64.wrap ((e.length:Int) - 1)).toNat) (0,0,0,0)).2.2.2)).getD ((i64.wrap ((e.length:Int) - 1)).toNat) (0,0,0,0)).2.2.2)),j,(i64.wrap (f+1))))else none))else none)else none)else none))else none)else none)else none)))else none)
 else some (Sum.inr (u,v)))
def lQ(f:XK)(q:QK)(u:Option Ay):Option (Qj×QK) :=
 ((iter (dG f q u) (([]:Qj),([]:QK),0)).bind fun(j,e)=>(if(e.length+([(f.length:Int)]:QK).length)*8≤140737488355328∧e.length+([(f.length:Int)]:QK).length≤9223372036854775807 then some (j,(e++([(f.length:Int)]:QK)))else none))
theorem yA(j z v:Bool){f:XK}{L:QK}{M:Option Ay}{B:Qj×QK}(h:lQ f L M=some B):
  Pure Tryz.prog 98 [.p j (.slice (.prod (.int .i32) Y2)) f,.p z (.slice (.int .u8)) L,.p v (.ptr xG) M] (aM (bg false [⟨(.slice dg),B.1⟩,⟨(.slice (.int .i64)),B.2⟩])):=by
 refine PB Tryz.func98 (fun Bw w0=>?_);unfold lQ at h;refine G (G (G (af (G (ak (cM h (fun(C,D,e)=>aA [(0,.p j (.slice (.prod (.int .i32) Y2)) f),(1,.p z (.slice (.int .u8)) L),(2,.p v (.ptr xG) M),(8,.sl 0),(9,.sl 1),(13,.p j (.slice (.prod (.int .i32) Y2)) f),(14,.i64 (f.length:Int)),(15,.i64 e)] [(0,.arr 184 dg C),(1,.arr 3 (.int .i64) D)] 2) 0 (fun(N,O)=>aA [(0,.p j (.slice (.prod (.int .i32) Y2)) f),(8,.sl 0),(9,.sl 1)] [(0,.arr 184 dg N),(1,.arr 3 (.int .i64) O)] 2) (gg [.nilS 8 56 184 dg,.nilS 9 57 3 (.int .i64)] [56,57]) (fun y o h=>?_) (fun X h=>?_)))))))
 ·obtain⟨C,D,e⟩:=y;unfold dG at h;refine G (af (aC h (fun Y h=>?_) (fun Y h=>?_)))
  ·refine ae (ab (af (ak (GC 1 h (fun h=>af (af (bm h (fun E=>aA [(0,.p j (.slice (.prod (.int .i32) Y2)) f),(1,.p z (.slice (.int .u8)) L),(2,.p v (.ptr xG) M),(8,.sl 0),(9,.sl 1),(10,.i64 e),(11,.adr 2 0 3 0),(13,.p j (.slice (.prod (.int .i32) Y2)) f),(14,.i64 (f.length:Int)),(15,.i64 e),(34,.bo E)] (My C D ((f.getD e.toNat (0,0,0)).1) ((f.getD e.toNat (0,0,0)).2.1) ((f.getD e.toNat (0,0,0)).2.2)) 3) (fun E h=>?_) (fun E h=>?_))))))))
   ·rcases aI h with⟨q,h⟩ | ⟨q,h⟩
    ·exact bq ⟨[(2,true),(14,true)],[]⟩ [(3,7,oc q),(13,14,oc q)] (eN h (gg [] [0,1,34]))
    rcases aI h with⟨u,h⟩ | ⟨u,h⟩
    ·obtain⟨Z,h⟩:=aE h;exact bq ⟨[(2,false),(7,true),(13,true),(14,false)],[]⟩ [(3,7,an q),(8,9,an u),(10,10,oc (And.intro u Z)),(11,12,an u),(13,13,oc (And.intro q u)),(14,14,oc q)] (eN h (gg [] [0,1,34]))
    exact bq ⟨[(2,false),(7,false),(13,false),(14,false)],[]⟩ [(3,7,an q),(8,12,oc u),(13,13,oc (And.intro q u)),(14,14,oc q)] (eN h (gg [] [0,1,34]))
   refine ab (bm h (fun(I,J)=>aA [(0,.p j (.slice (.prod (.int .i32) Y2)) f),(1,.p z (.slice (.int .u8)) L),(2,.p v (.ptr xG) M),(8,.sl 0),(9,.sl 1),(10,.i64 e),(11,.adr 2 0 3 0),(13,.p j (.slice (.prod (.int .i32) Y2)) f),(14,.i64 (f.length:Int)),(15,.i64 e)] (My I J ((f.getD e.toNat (0,0,0)).1) ((f.getD e.toNat (0,0,0)).2.1) ((f.getD e.toNat (0,0,0)).2.2)) 3) (fun V h=>?_) (fun V h=>?_))
   ·refine aC h (fun a1 h=>?_) (fun a1 h=>?_)
    ·obtain⟨ad,a2,h⟩:=aj h;obtain⟨a3,h⟩:=aE h;have A:=(yX a2);refine GD ⟨[],[(5,(oP A))]⟩ [(5,5,oc A),(8,8,oc a3)] (yK 3 h (fun h=>?_));exact eN h (gg [] [67,107,2])
    exact ae (eN h (gg [] [0,1,2]))
   obtain⟨I,J⟩:=V;refine ab (GC 4 h (fun h=>af ?_));obtain⟨a4,a5,h⟩:=g2 h;refine GN a0 [(4,4,oc a4),(5,5,oc a5)] (bm h (fun v20=>aA [(0,.p j (.slice (.prod (.int .i32) Y2)) f),(1,.p z (.slice (.int .u8)) L),(2,.p v (.ptr xG) M),(8,.sl 0),(9,.sl 1),(11,.adr 2 0 3 0),(12,.adr 0 ((i64.wrap ((I.length:Int) - 1)).toNat) 4 0),(13,.p j (.slice (.prod (.int .i32) Y2)) f),(14,.i64 (f.length:Int)),(15,.i64 e)] (My v20 J ((f.getD e.toNat (0,0,0)).1) ((f.getD e.toNat (0,0,0)).2.1) ((f.getD e.toNat (0,0,0)).2.2)) 3) (fun v20 h=>?_) (fun v20 h=>?_))
   ·refine aC h (fun a6 h=>?_) (fun a6 h=>?_)
    ·refine yK 3 h (fun h=>?_);exact eN h (gg [] [0,1,2])
    exact ae (eN h (gg [] [0,1,2]))
   refine ab ?_;obtain⟨a7,a8,h⟩:=g2 h;refine GD a0 [(3,3,oc a7),(9,9,oc a8)] ?_;obtain⟨a9,h⟩:=aE h;obtain⟨ax,aa,h⟩:=aj h;obtain⟨ac,h⟩:=aE h;have A:=(nR v aa);refine mu ⟨[],[(8,(oP A))]⟩ [(4,4,oc a9),(8,8,oc A),(13,13,oc ac)] (ay (ab (Ge ?_)));exact eB h (gg [] [0,1])
  refine aw (aR ?_);exact eX h (gg [] [0,1])
 obtain⟨N,O⟩:=X;refine az (ab (GC 5 h (fun h=>au ?_)));obtain rfl:=sI h;exact RI [(.slice dg),(.slice (.int .i64))]
def cz(A:XK)(q:QK)(u:List Bool)(j:QK):ua→Option (ua⊕QK):=fun(f,e) =>
 (if(decide (e<(j.length:Int)))=true then(if 0≤e∧e<(j.length:Int)then(((if((j.getD e.toNat 0) == (A.length:Int))=true then(if(f.length+([2]:QK).length)*1≤140737488355328∧f.length+([2]:QK).length≤9223372036854775807 then some ((f++([2]:QK)))else none)
 else(((if((j.getD e.toNat 0) == 0)=true then some (true)
 else some ((decide ((j.getD e.toNat 0)≥(q.length:Int)))))).bind fun v=>(if v=true then(if(f.length+([0]:QK).length)*1≤140737488355328∧f.length+([0]:QK).length≤9223372036854775807 then some ((f++([0]:QK)))else none)
 else(((if 0≤(j.getD e.toNat 0)∧(j.getD e.toNat 0)<(q.length:Int)then(if((q.getD ((j.getD e.toNat 0).toNat) 0) == 0)=true then(if(decide ((j.getD e.toNat 0)<(u.length:Int)))=true then(if 0≤(j.getD e.toNat 0)∧(j.getD e.toNat 0)<(u.length:Int)then some ((u.getD ((j.getD e.toNat 0).toNat) false))else none)
 else some (false))
 else some (false))else none)).bind fun v20=>(if v20=true then(if(f.length+([3]:QK).length)*1≤140737488355328∧f.length+([3]:QK).length≤9223372036854775807 then some ((f++([3]:QK)))else none)
 else(if 0≤(j.getD e.toNat 0)∧(j.getD e.toNat 0)<(q.length:Int)then(if(f.length+([(q.getD ((j.getD e.toNat 0).toNat) 0)]:QK).length)*1≤140737488355328∧f.length+([(q.getD ((j.getD e.toNat 0).toNat) 0)]:QK).length≤9223372036854775807 then some ((f++([(q.getD ((j.getD e.toNat 0).toNat) 0)]:QK)))else none)else none))))))).bind fun z=>some (Sum.inl (z,(i64.wrap (e+1)))))else none)
 else some (Sum.inr f))
def gS(f:XK)(j q:QK)(u:List Bool)(v:Option Ay):Option (Qj×QK) :=
 ((lQ f j v).bind fun(z,A) =>
 ((iter (cz f q u A) (([]:QK),0)).bind fun e=>some (z,e)))
theorem zp(f M u v N:Bool){I:XK}{i1 J:QK}{L:List Bool}{x3:Option Ay}{O:Qj×QK}(h:gS I i1 J L x3=some O):
  Pure Tryz.prog 67 [.p f (.slice (.prod (.int .i32) Y2)) I,.p M (.slice (.int .u8)) i1,.p u (.slice (.int .u8)) J,.p v (.slice .bool) L,.p N (.ptr xG) x3] (aM (bg false [⟨Br,O⟩])):=by
 refine PB Tryz.func67 (fun Bw w0=>?_);unfold gS at h;refine G ?_;obtain⟨⟨V,z⟩,q2,h⟩:=aj h;refine GP 3 (yA f M N q2) (G (af (G (ak (cM h (fun(A,e)=>aA [(0,.p f (.slice (.prod (.int .i32) Y2)) I),(2,.p u (.slice (.int .u8)) J),(3,.p v (.slice .bool) L),(10,.adr 0 0 2 0),(13,.adr 1 0 2 0),(25,.p false (.slice (.int .i64)) z),(26,.i64 (z.length:Int)),(27,.i64 e)] (JH V A) 3) 0 (fun X=>aA [(10,.adr 0 0 2 0),(13,.adr 1 0 2 0)] (JH V X) 3) (gg [.nilC 96 1 136 71 (.int .u8)] [0,96,136]) (fun y o h=>?_) (fun X h=>?_))))))
 ·obtain⟨A,e⟩:=y;unfold cz at h;refine G (af (aC h (fun a1 h=>?_) (fun a1 h=>?_)))
  ·refine ae (ab (af (ak (GC 0 h (fun h=>ak (G (bm h (fun C=>aA [(0,.p f (.slice (.prod (.int .i32) Y2)) I),(2,.p u (.slice (.int .u8)) J),(3,.p v (.slice .bool) L),(10,.adr 0 0 2 0),(13,.adr 1 0 2 0),(25,.p false (.slice (.int .i64)) z),(26,.i64 (z.length:Int)),(27,.i64 e)] (JH V C) 3) (fun C h=>?_) (fun C h=>?_))))))))
   ·refine aC h (fun a2 h=>?_) (fun a2 h=>?_)
    ·refine yK 3 h (fun h=>?_);exact eN h (gg [] [0,1,99])
    refine af (bm h (fun D=>aA [(0,.p f (.slice (.prod (.int .i32) Y2)) I),(2,.p u (.slice (.int .u8)) J),(3,.p v (.slice .bool) L),(10,.adr 0 0 2 0),(13,.adr 1 0 2 0),(15,.i64 (z.getD e.toNat 0)),(25,.p false (.slice (.int .i64)) z),(26,.i64 (z.length:Int)),(27,.i64 e),(50,.bo D)] (JH V A) 3) (fun D h=>?_) (fun D h=>?_))
    ·rcases aI h with⟨B,h⟩ | ⟨B,h⟩
     ·exact bq ⟨[(2,true),(7,true)],[]⟩ [(3,7,oc B)] (eN h (gg [] [0,1,2]))
     exact bq ⟨[(2,false),(7,false)],[]⟩ [(3,6,an B),(7,7,oc B)] (eN h (gg [] [0,1,2]))
    refine ab (aC h (fun a3 h=>?_) (fun a3 h=>?_))
    ·refine yK 3 h (fun h=>?_);exact eN h (gg [] [0,1,27])
    refine af (bm h (fun v20=>aA [(0,.p f (.slice (.prod (.int .i32) Y2)) I),(2,.p u (.slice (.int .u8)) J),(3,.p v (.slice .bool) L),(10,.adr 0 0 2 0),(13,.adr 1 0 2 0),(15,.i64 (z.getD e.toNat 0)),(25,.p false (.slice (.int .i64)) z),(26,.i64 (z.length:Int)),(27,.i64 e),(64,.bo v20)] (JH V A) 3) (fun v20 h=>?_) (fun v20 h=>?_))
    ·obtain⟨E,h⟩:=aE h;rcases aI h with⟨j,h⟩ | ⟨j,h⟩
     ·rcases aI h with⟨q,h⟩ | ⟨q,h⟩
      ·obtain⟨a4,h⟩:=aE h;exact bq ⟨[(5,true),(10,true),(11,true),(16,true)],[]⟩ [(2,2,oc E),(6,9,an j),(10,10,oc j),(12,13,an q),(14,14,oc (And.intro q a4)),(15,15,an q),(16,16,oc q)] (eN h (gg [] [0,1,2]))
      exact bq ⟨[(5,true),(10,true),(11,false),(16,false)],[]⟩ [(2,2,oc E),(6,9,an j),(10,10,oc j),(12,16,oc q)] (eN h (gg [] [0,1,2]))
     exact bq ⟨[(5,false),(10,false)],[]⟩ [(2,2,oc E),(6,10,oc j)] (eN h (gg [] [0,1,2]))
    refine ab (aC h (fun a5 h=>?_) (fun a5 h=>?_))
    ·refine yK 3 h (fun h=>?_);exact eN h (gg [] [0,1,27])
    obtain⟨Y,Z,h⟩:=g2 h;exact mu a0 [(4,4,oc Y),(7,7,oc Z)] (eN h (gg [] [0,1,59]))
   refine ay (ay (ab (Ge ?_)));exact eB h (gg [] [0,1,2])
  refine aw (aR ?_);exact eX h (gg [] [0,1,2])
 refine az (ab (G (kM [.frzC 0 1] (by kernel_rfl) (au ?_))));obtain rfl:=sI h;exact RI [Br]
def aU(e:Option Z1)(f:QK):Option ((Qj×QK)×Int) :=
 (if e.isNone=true then some ((([]:Qj),([]:QK)),1)
 else(if(decide ((f.length:Int) > 4096))=true then some ((([]:Qj),([]:QK)),3)
 else((nb f).bind fun q =>
 (if e.isSome=true then(if e.isSome=true then((cJ ((e.getD (Ty.zero wb)).2.2.1) q).bind fun B =>
 ((eU ((e.getD (Ty.zero wb)).1) B).bind fun u =>
 (if e.isSome=true then(if e.isSome=true then((cJ ((e.getD (Ty.zero wb)).2.2.2.1) q).bind fun v =>
 ((eU ((e.getD (Ty.zero wb)).2.1) v).bind fun z =>
 (if e.isSome=true then((dW ((e.getD (Ty.zero wb)).2.2.2.2.2) q).bind fun A =>
 (if e.isSome=true then((gS q u z A ((e.getD (Ty.zero wb)).2.2.2.2.1)).bind fun j =>
 some ((j.1,j.2),0))else none))else none)))else none)else none)))else none)else none))))
theorem tq(q:Bool){X:Option Z1}{f:QK}{j:(Qj×QK)×Int}(h:aU X f=some j):
  Pure Tryz.prog 45 [.p false (.ptr wb) X,.p q (.slice (.int .u8)) f] (aM (bg false [⟨Br,j.1⟩,⟨(.int .i64),j.2⟩])):=by
 refine PB Tryz.func45 (fun Bw w0=>?_);unfold aU at h;refine G (af (GN a0 [(1,1,⟨∃e,Tryz.prog.underlying 33=some (.pointer e),⟨_,rfl⟩⟩)] (aC h (fun Y h=>?_) (fun Y h=>?_))))
 ·refine G (au (ah ?_));obtain rfl:=sI h;exact RI [Br,(.int .i64)]
 refine ae (ab (af (G (aC h (fun Z h=>?_) (fun Z h=>?_)))))
 ·refine G (au (ah ?_));obtain rfl:=sI h;exact RI [Br,(.int .i64)]
 refine ae (ab ?_);obtain⟨r2,q2,h⟩:=aj h;refine GP 1 (u4 q q2) ?_;obtain⟨c7,c8,h⟩:=g2 h;obtain⟨r9,q9,h⟩:=aj h;obtain⟨a1,E,h⟩:=aj h;obtain⟨c9,I,h⟩:=g2 h;obtain⟨a2,J,h⟩:=aj h;obtain⟨a3,L,h⟩:=aj h;obtain⟨M,h⟩:=aE h;obtain⟨a4,N,h⟩:=aj h;obtain⟨O,h⟩:=aE h;obtain⟨a5,V,h⟩:=aj h;have u:=(lP false false q9);have v:=(lZ false false E);have z:=(lP false false J);have B:=(lZ false false L);have C:=(oK false N);have D:=(zp false false false false false V);refine GD ⟨[],[(10,(oP u)),(11,(oP v)),(21,(oP z)),(22,(oP B)),(28,(oP C)),(33,(oP D))]⟩ [(2,2,oc c7),(6,6,oc c8),(10,10,oc u),(11,11,oc v),(13,13,oc c9),(17,17,oc I),(21,21,oc z),(22,22,oc B),(24,24,oc M),(28,28,oc C),(30,30,oc O),(33,33,oc D)] (au ?_);obtain rfl:=sI h;exact RI [Br,(.int .i64)]
def fN(q:QK):ua→Option (ua⊕QK):=fun(e,f) =>
 (if(decide (f<(q.length:Int)))=true then(if 0≤f∧f<(q.length:Int)then(((if((q.getD f.toNat 0) == 2)=true then(if(e.length+([f]:QK).length)*8≤140737488355328∧e.length+([f]:QK).length≤9223372036854775807 then some ((e++([f]:QK)))else none)
 else some (e))).bind fun j=>some (Sum.inl (j,(i64.wrap (f+1)))))else none)
 else some (Sum.inr e))
def mO(j:Qj)(f:QK):Option QK :=
 ((iter (fN f) (([]:QK),0)).bind fun e=>some e)
theorem xT(z q:Bool){C:Qj}{u v:QK}(h:mO C u=some v):
  Pure Tryz.prog 61 [.agg [.p z (.slice dg) C,.p q (.slice (.int .u8)) u]] (aM (bg false [⟨(.slice (.int .i64)),v⟩])):=by
 refine PB Tryz.func61 (fun Bw w0=>?_);unfold mO at h;refine G (G (af (G (ak (cM h (fun(f,B)=>aA [(3,.sl 0),(7,.p q (.slice (.int .u8)) u),(8,.i64 (u.length:Int)),(9,.i64 B)] [(0,.arr 3 (.int .i64) f)] 1) 0 (fun j=>aA [(3,.sl 0)] [(0,.arr 3 (.int .i64) j)] 1) (gg [.nilS 3 56 3 (.int .i64)] [56]) (fun y o h=>?_) (fun j h=>?_))))))
 ·obtain⟨f,B⟩:=y;unfold fN at h;refine G (af (aC h (fun D h=>?_) (fun D h=>?_)))
  ·refine ae (ab (af (ak (GC 1 h (fun h=>G (bm h (fun e=>aA [(3,.sl 0),(7,.p q (.slice (.int .u8)) u),(8,.i64 (u.length:Int)),(9,.i64 B)] [(0,.arr 3 (.int .i64) e)] 1) (fun e h=>?_) (fun e h=>?_)))))))
   ·refine aC h (fun E h=>?_) (fun E h=>?_)
    ·refine yK 3 h (fun h=>?_);exact eN h (gg [] [89])
    exact ae (eN h (gg [] [0]))
   refine ay (ab (Ge ?_));exact eB h (gg [] [0])
  refine aw (aR ?_);exact eX h (gg [] [0])
 refine az (ab (G (au ?_)));obtain rfl:=sI h;exact RI [(.slice (.int .i64))]
def iV(f:Qj)(j:QK)(u:Int):ua→Option (ua⊕QK):=fun(q,e) =>
 (if(decide (e<u))=true then(if 0≤e∧e<(f.length:Int)then(if 0≤(4:Int)then(if 0≤(i64.wrap (e+1))∧(i64.wrap (e+1))<(j.length:Int)then(if(q.length+([(bitsOf .or .u8 (u8.wrap ((u8.wrap ((f.getD e.toNat (0,0,0,0)).2.2.1))*2 ^ (min (4:Int).toNat u8.bits))) ((f.getD e.toNat (0,0,0,0)).2.2.2)),(j.getD ((i64.wrap (e+1)).toNat) 0)]:QK).length)*1≤140737488355328∧q.length+([(bitsOf .or .u8 (u8.wrap ((u8.wrap ((f.getD e.toNat (0,0,0,0)).2.2.1))*2 ^ (min (4:Int).toNat u8.bits))) ((f.getD e.toNat (0,0,0,0)).2.2.2)),(j.getD ((i64.wrap (e+1)).toNat) 0)]:QK).length≤9223372036854775807 then some (Sum.inl ((q++([(bitsOf .or .u8 (u8.wrap ((u8.wrap ((f.getD e.toNat (0,0,0,0)).2.2.1))*2 ^ (min (4:Int).toNat u8.bits))) ((f.getD e.toNat (0,0,0,0)).2.2.2)),(j.getD ((i64.wrap (e+1)).toNat) 0)]:QK)),(i64.wrap (e+1))))else none)else none)else none)else none)
 else some (Sum.inr q))
def pR(j:Qj)(q:QK)(e f:Int):Option QX :=
 (if 0≤(0:Int)∧0≤(i64.wrap (2*(i64.wrap (f - e))))∧1*(i64.wrap (2*(i64.wrap (f - e))))≤281474976710656∧(i64.wrap (2*(i64.wrap (f - e))))≤9223372036854775807 then((iter (iV j q f) ((List.replicate (0:Int).toNat (0:Int)),e)).bind fun u=>some (bytesOf u))else none)
theorem CA(j q:Bool){v:Qj}{z:QK}{e f:Int}{u:QX}(h:pR v z e f=some u):
  Pure Tryz.prog 62 [.agg [.p j (.slice dg) v,.p q (.slice (.int .u8)) z],.i64 e,.i64 f] (aM (bg false [⟨.str,u⟩])):=by
 refine PB Tryz.func62 (fun Bw w0=>?_);unfold pR at h;refine G (GC 4 h (fun h=>af (G (ak (cM h (fun(E,I)=>aA [(2,.i64 f),(3,.adr 0 0 2 0),(7,.sl 1),(8,.i64 I)] (NW j v q z E) 2) 0 (fun J=>aA [(7,.sl 0)] [(0,.arr 5 (.int .u8) J)] 1) (gg [] [0,48]) (fun y o h=>?_) (fun J h=>?_))))))
 ·obtain⟨E,I⟩:=y;unfold iV at h;refine af (G (aC h (fun L h=>?_) (fun L h=>?_)))
  ·refine ae (ab (af (ak (GC 3 h (fun h=>?_)))));obtain⟨B,C,D,h⟩:=g3 h;refine mu a0 [(4,4,oc B),(12,12,oc C),(15,15,oc D)] (ay (ab (Ge ?_)));exact eB h (gg [] [0,202])
  refine aw (aR ?_);exact eX h (gg [] [1])
 refine az (ab (G (au ?_)));obtain rfl:=sI h;exact RI [.str]
def jP(u v j q e f:Int):Option (Int) :=
 (if(q == 2)=true then(if ¬f=0 then some (i64.wrap ((i64.wrap (e+f)) - (Int.tmod e f)))else none)
 else some (i64.wrap (e+j)))
theorem oR{q u v z e f j:Int}(h:jP q u v z e f=some j):
  Pure Tryz.prog 109 [.agg [.i64 q,.i64 u,.i64 v,.u8 z],.i64 e,.i64 f] (aM (bg false [⟨(.int .i64),j⟩])):=by
 refine PB Tryz.func109 (fun Bw w0=>?_);unfold jP at h;refine G (af (G (aC h (fun A h=>?_) (fun A h=>?_))))
 ·refine GC 5 h (fun h=>au (ah ?_));obtain rfl:=sI h;exact RI [(.int .i64)]
 refine ae (ab (G (au ?_)));obtain rfl:=sI h;exact RI [(.int .i64)]
def l0(j q f e:Int):Option (Bool) :=
 (((if(e == 1)=true then some (true)
 else(if(e == 0)=true then some ((f == 0))
 else some (false)))).bind fun v1=>some v1)
theorem yT{q u v z:Int}{f:Bool}(h:l0 q u v z=some f):
  Pure Tryz.prog 159 [.agg [.i64 q,.i64 u,.i64 v,.u8 z]] (aM (bg false [⟨.bool,f⟩])):=by
 refine PB Tryz.func159 (fun Bw w0=>?_);unfold l0 at h;refine G (af (bm h (fun v1=>aA [(2,.bo v1)] [] 0) (fun v1 h=>?_) (fun v1 h=>?_)))
 ·rcases aI h with⟨e,h⟩ | ⟨e,h⟩
  ·exact bq ⟨[(3,true),(12,true)],[]⟩ [(4,7,oc e),(11,12,oc e)] (eN h (gg [] []))
  rcases aI h with⟨j,h⟩ | ⟨j,h⟩
  ·exact bq ⟨[(3,false),(7,true),(11,true),(12,false)],[]⟩ [(4,7,an e),(8,10,an j),(11,11,oc (And.intro e j)),(12,12,oc e)] (eN h (gg [] []))
  exact bq ⟨[(3,false),(7,false),(11,false),(12,false)],[]⟩ [(4,7,an e),(8,10,oc j),(11,11,oc (And.intro e j)),(12,12,oc e)] (eN h (gg [] []))
 refine ab (au ?_);obtain rfl:=sI h;exact RI [.bool]
def fx(j:Qj)(f:Int):(Int)→Option ((Int)⊕(Int)):=fun e =>
 (((if(decide (e > f))=true then(if 0≤(i64.wrap (e - 1))∧(i64.wrap (e - 1))<(j.length:Int)then((l0 ((j.getD ((i64.wrap (e - 1)).toNat) (0,0,0,0)).1) ((j.getD ((i64.wrap (e - 1)).toNat) (0,0,0,0)).2.1) ((j.getD ((i64.wrap (e - 1)).toNat) (0,0,0,0)).2.2.1) ((j.getD ((i64.wrap (e - 1)).toNat) (0,0,0,0)).2.2.2)).bind fun q =>
 some (q))else none)
 else some (false))).bind fun u=>(if u=true then some (Sum.inl (i64.wrap (e - 1)))
 else some (Sum.inr e)))
def gy(q:Qj)(u:QK)(e f:Int):Option (Int) :=
 ((iter (fx q e) f).bind fun j=>some j)
theorem oE(j q:Bool){C:Qj}{D:QK}{e v z:Int}(h:gy C D e v=some z):
  Pure Tryz.prog 151 [.agg [.p j (.slice dg) C,.p q (.slice (.int .u8)) D],.i64 e,.i64 v] (aM (bg false [⟨(.int .i64),z⟩])):=by
 refine PB Tryz.func151 (fun Bw w0=>?_);unfold gy at h;refine G (af (ak (cM h (fun u=>aA [(1,.i64 e),(2,.i64 u),(3,.adr 0 0 2 0)] (M6 j C q D) 1) 0 (fun A=>aA [(2,.i64 A)] [] 0) (gg [] [0]) (fun u o h=>?_) (fun A h=>?_))))
 ·unfold fx at h;refine af (af (bm h (fun E=>aA [(1,.i64 e),(2,.i64 u),(3,.adr 0 0 2 0),(18,.bo E)] (M6 j C q D) 1) (fun E h=>?_) (fun E h=>?_)))
  ·rcases aI h with⟨f,h⟩ | ⟨f,h⟩
   ·obtain⟨J,h⟩:=aE h;obtain⟨M,L,h⟩:=aj h;have B:=(yT L);exact bq ⟨[(3,true),(11,true)],[(10,(oP B))]⟩ [(4,7,an f),(8,8,oc (And.intro f J)),(9,9,an f),(10,10,oc (And.intro f B)),(11,11,oc f)] (eN h (gg [] [0]))
   exact bq ⟨[(3,false),(11,false)],[]⟩ [(4,11,oc f)] (eN h (gg [] [0]))
  refine ab (aC h (fun I h=>?_) (fun I h=>?_))
  ·refine ae (ab (ak (Ge (ay ?_))));exact eB h (gg [] [0])
  refine aw (aR ?_);exact eX h (gg [] [])
 refine az (ab (G (au ?_)));obtain rfl:=sI h;exact RI [(.int .i64)]
def lG(j:Qj)(f:QK)(e:Int):Option (Int×Bool) :=
 (if 0≤e∧e<(f.length:Int)then(if 0≤e∧e<(f.length:Int)then some ((f.getD e.toNat 0),((f.getD e.toNat 0) != 0))else none)else none)
theorem sf(j q:Bool){u:Qj}{v:QK}{f:Int}{e:Int×Bool}(h:lG u v f=some e):
  Pure Tryz.prog 152 [.agg [.p j (.slice dg) u,.p q (.slice (.int .u8)) v],.i64 f] (aM (bg false [⟨(.int .u8),e.1⟩,⟨.bool,e.2⟩])):=by
 refine PB Tryz.func152 (fun Bw w0=>?_);unfold lG at h;refine G ?_;obtain⟨z,A,h⟩:=g2 h;refine GD a0 [(3,3,oc z),(8,8,oc A)] (au ?_);obtain rfl:=sI h;exact RI [(.int .u8),.bool]
def sc(e f:Int):Option QJ :=
 some (bX .quo (ofInt e) (ofInt f))
theorem Dv{e f:Int}{j:QJ}(h:sc e f=some j):
  Pure Tryz.prog 160 [.i64 e,.i64 f] (aM (bg false [⟨.flt,j⟩])):=by
 refine PB Tryz.func160 (fun Bw w0=>?_);unfold sc at h;refine G (G (au ?_));obtain rfl:=sI h;exact RI [.flt]
def n4(f e:QJ):Option (Bool) :=
 some (!(NU f e))
theorem yM{j e:QJ}{f:Bool}(h:n4 j e=some f):
  Pure Tryz.prog 161 [.p false .flt j,.p false .flt e] (aM (bg false [⟨.bool,f⟩])):=by
 refine PB Tryz.func161 (fun Bw w0=>?_);unfold n4 at h;refine G (G (au ?_));obtain rfl:=sI h;exact RI [.bool]
def nY(e:QJ):Option (Bool) :=
 some (!(L1 e e))
theorem yE{f:QJ}{e:Bool}(h:nY f=some e):
  Pure Tryz.prog 165 [.p false .flt f] (aM (bg false [⟨.bool,e⟩])):=by
 refine PB Tryz.func165 (fun Bw w0=>?_);unfold nY at h;refine G (G (au ?_));obtain rfl:=sI h;exact RI [.bool]
def yk(e:QJ):Option QJ:=some (xC e)
theorem wA(b:Nat)(w:World):
  Calls Tryz.prog 166 #[.float .f64 b] w fun e f=>e = .returned (.float .f64 (b % 9223372036854775808))∧f=w:=by
 have j:∀w,(callFunc 169 #[.float .f64 b]).run Tryz.prog w = .ok (.value (.int .u64 b)) w:=fun w=>by rw[run_callFunc_extern (fn:=Tryz.f169) (e:=Extern.MathFloatBits.float64bits) Tryz.func169 (by kernel_rfl) rfl (by kernel_rfl) (by kernel_rfl)];rfl
 have q:∀(n:Int) w,(callFunc 168 #[.int .u64 n]).run Tryz.prog w = .ok (.value (.float .f64 n.toNat)) w:=fun n w=>by rw[run_callFunc_extern (fn:=Tryz.f168) (e:=Extern.MathFloatBits.float64frombits) Tryz.func168 (by kernel_rfl) rfl (by kernel_rfl) (by kernel_rfl)];rfl
 go_enter Tryz.func166,Tryz.ntmps166;go_wp2
 go_ret
 exact⟨by rw[←Iv];rfl,rfl⟩
theorem Ds{f e:QJ}(h:yk f=some e):
  Pure Tryz.prog 166 [.p false .flt f] (aM (bg false [⟨.flt,e⟩])):=by
 obtain rfl:=sI h;exact Pure.LS Tryz.func166 (by kernel_rfl) rfl (fun b w=>wA b w)
def iz(f:QJ):Option (Int) :=
 ((nY f).bind fun j =>
 (if j=true then some 0
 else((yk f).bind fun e =>
 (if(!(LL (bX .mul (bX .mul (bX .mul (dO 4636737291354636288) e) e) e) (dO 4666723172467343360)))=true then some 10000
 else(if(pf (bX .mul (bX .mul (bX .mul (dO 4636737291354636288) e) e) e)).isSome=true∧i64.min≤(pf (bX .mul (bX .mul (bX .mul (dO 4636737291354636288) e) e) e)).getD 0∧(pf (bX .mul (bX .mul (bX .mul (dO 4636737291354636288) e) e) e)).getD 0≤i64.max then some ((pf (bX .mul (bX .mul (bX .mul (dO 4636737291354636288) e) e) e)).getD 0)else none)))))
theorem uk{f:QJ}{e:Int}(h:iz f=some e):
  Pure Tryz.prog 162 [.p false .flt f] (aM (bg false [⟨(.int .i64),e⟩])):=by
 refine PB Tryz.func162 (fun Bw w0=>?_);unfold iz at h;refine G (af ?_);obtain⟨z,j,h⟩:=aj h;refine GP 1 (yE j) (aC h (fun q h=>?_) (fun q h=>?_))
 ·refine G (au (ah ?_));obtain rfl:=sI h;exact RI [(.int .i64)]
 refine ae (ab ?_);obtain⟨A,u,h⟩:=aj h;refine GP 1 (Ds u) (G (af (G (aC h (fun v h=>?_) (fun v h=>?_)))))
 ·refine G (au (ah ?_));obtain rfl:=sI h;exact RI [(.int .i64)]
 refine ae (ab (GC 1 h (fun h=>au ?_)));obtain rfl:=sI h;exact RI [(.int .i64)]
def fZ(V:Qj)(D:QK)(f v E j:Int)(q:Bool)(I X Y J L:Int)(M:QJ):Option (Int×Bool) :=
 (if(decide (E > I))=true then some (0,false)
 else(((if(!q)=true then((sc (i64.wrap (I - E)) j).bind fun z =>
 ((n4 z M).bind fun A =>
 (if(!A)=true then some ((Sum.inr (0,false)))
 else((iz z).bind fun B =>
 some ((Sum.inl B))))))
 else some ((Sum.inl 0)))).bind fun(C:((Int)⊕(Int×Bool)))=>match C with
 | .inl e=>(((if(v == 3)=true then(if 0≤f∧f<(D.length:Int)then(if((D.getD f.toNat 0) == 3)=true then some ((i64.wrap ((i64.wrap ((i64.wrap ((i64.wrap (10+e))*(i64.wrap (10+e))))+J))+L)))
 else some ((i64.wrap ((i64.wrap ((i64.wrap (10+e))*(i64.wrap (10+e))))+J))))else none)
 else some ((i64.wrap ((i64.wrap (10+e))*(i64.wrap (10+e))))))).bind fun u=>some (u,true))
 | .inr ((N,O))=>some (N,O)))
theorem ze(B C:Bool){E:Qj}{I:QK}{f q n1 u:Int}{v:Bool}{J L M N O:Int}{V:QJ}{A:Int×Bool}(h:fZ E I f q n1 u v J L M N O V=some A):
  Pure Tryz.prog 153 [.agg [.p B (.slice dg) E,.p C (.slice (.int .u8)) I],.i64 f,.u8 q,.i64 n1,.i64 u,.bo v,.agg [.i64 J,.i64 L,.u8 M,.i64 N,.i64 O,.p false .flt V]] (aM (bg false [⟨(.int .i64),A.1⟩,⟨.bool,A.2⟩])):=by
 refine PB Tryz.func153 (fun Bw w0=>?_);unfold fZ at h;refine G (af (G (aC h (fun B1 h=>?_) (fun B1 h=>?_))))
 ·refine G (au (ah ?_));obtain rfl:=sI h;exact RI [(.int .i64),.bool]
 refine ae (ab (G (af (G (EC h (dL (o6 Tryz.f153.ntmps (fun z=>aA [(1,.i64 f),(2,.u8 q),(7,.adr 0 0 2 0),(13,.adr 1 0 6 0),(16,.i64 z)] (NK B E C I J L M N O V) 2)) (gM tb Tryz.f153.results.toList (fun(r7,r8)=>[⟨(.int .i64),r7⟩,⟨.bool,r8⟩]))) (fun D h=>?_) (fun D h e σ' hq=>?_))))))
 ·refine aC h (fun B4 h=>?_) (fun B4 h=>?_)
  ·obtain⟨a1,q8,h⟩:=aj h;refine GP 5 (Dv q8) (af ?_);obtain⟨a2,X,h⟩:=aj h;refine GP 3 (yM X) (aC h (fun B5 h=>?_) (fun B5 h=>?_))
   ·refine G (au ?_);obtain rfl:=sI h;refine ah (aN ?_);exact bK (RI [(.int .i64),.bool])
   refine ae (ab ?_);obtain⟨a3,Y,h⟩:=aj h;refine NR 1 (uk Y) ?_;obtain rfl:=sI h;exact bn (cW (gg [] [0,8]))
  refine ae ?_;obtain rfl:=sI h;exact bn (cW (gg [] [0,8]))
 rcases D with z | ⟨r7,r8⟩
 ·obtain⟨rfl,Z⟩:=hq;refine cU ?_ Z;refine ab (G (af (G (bm h (fun j=>aA [(18,.i64 j)] [] 0) (fun j h=>?_) (fun j h=>?_)))))
  ·refine aC h (fun B8 h=>?_) (fun B8 h=>?_)
   ·refine G (GC 3 h (fun h=>aC h (fun B9 h=>?_) (fun B9 h=>?_)))
    ·exact Ge (eN h (gg [] []))
    exact ae (eN h (gg [] []))
   exact ae (eN h (gg [] []))
  refine ab (G (au ?_));obtain rfl:=sI h;exact RI [(.int .i64),.bool]
 obtain⟨rfl,hr⟩:=hq;refine ah ?_;obtain rfl:=sI h;exact hr
end
end Go.Proofs.YtbedjpdfkmfplaaGreatDoor.T
