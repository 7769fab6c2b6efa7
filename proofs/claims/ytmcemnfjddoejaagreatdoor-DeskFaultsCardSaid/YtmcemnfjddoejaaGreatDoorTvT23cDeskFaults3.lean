import Derived.Test.YtmcemnfjddoejaaGreatDoorTvT23c0
import Derived.Test.YtmcemnfjddoejaaGreatDoorTvT23cDeskFaults2
namespace Go.Proofs.YtmcemnfjddoejaaGreatDoor.T
open Go Go.Tv Go.Proofs
open Go.IntKind (i32 i64 u32 u64 u8)
noncomputable section
set_option maxRecDepth 100000
set_option maxHeartbeats 4000000
def hU(e:XZ):(Int)→Option ((Int)⊕(Int)):=fun c =>
 (((if(decide (c<(e.length:Int)))=true then(if 0≤c∧c<(e.length:Int)then((jy ((e.getD c.toNat (0,0,0)).1)).bind fun f =>
 some ((!f)))else none)
 else some (false))).bind fun v30=>(if v30=true then some (Sum.inl (i64.wrap (c+1)))
 else some (Sum.inr c)))
def qX(p:XZ):((List Z9)×(List Z9)×Int)→Option (((List Z9)×(List Z9)×Int)⊕(((List Z9)×List Z9)⊕(((List Z9)×List Z9)×Int×Int))):=fun(v20,f,c) =>
 (if(decide (c<(p.length:Int)))=true then(if 0≤c∧c<(p.length:Int)then((jy ((p.getD c.toNat (0,0,0)).1)).bind fun q =>
 (if q=true then some (Sum.inl (v20,f,(i64.wrap (c+1))))
 else((iter (hU p) c).bind fun j=>(if 0≤c∧c<(p.length:Int)then(if(decide ((i64.wrap ((v20.length:Int)+(f.length:Int)))≥256))=true then some (Sum.inr (Sum.inr ((([]:List Z9),([]:List Z9)),24,(p.getD c.toNat (0,0,0)).2.1)))
 else(if 0≤c∧c≤j∧j≤j∧j≤(p.length:Int)then((tg ((p.take j.toNat).drop c.toNat)).bind fun(e,u) =>
 (if(!u)=true then some (Sum.inr (Sum.inr ((([]:List Z9),([]:List Z9)),30,(p.getD c.toNat (0,0,0)).2.1)))
 else((hY ((p.take j.toNat).drop c.toNat)).bind fun v =>
 (((if(!v)=true then(if(v20.length+([(e.1,e.2)]:List Z9).length)*48≤140737488355328∧v20.length+([(e.1,e.2)]:List Z9).length≤9223372036854775807 then some ((Sum.inl ((v20++([(e.1,e.2)]:List Z9)),f)))else none)
 else((mz f e.1 e.2).bind fun x =>
 (if x=true then some ((Sum.inr ((([]:List Z9),([]:List Z9)),23,(p.getD c.toNat (0,0,0)).2.1)))
 else(if(f.length+([(e.1,e.2)]:List Z9).length)*48≤140737488355328∧f.length+([(e.1,e.2)]:List Z9).length≤9223372036854775807 then some ((Sum.inl (v20,(f++([(e.1,e.2)]:List Z9)))))else none))))).bind fun(z:(((List Z9)×List Z9)⊕(((List Z9)×List Z9)×Int×Int)))=>match z with
 | .inl (A,B)=>some (Sum.inl (A,B,j))
 | .inr ((C,D))=>some (Sum.inr (Sum.inr (C,D)))))))else none))else none))))else none)
 else some (Sum.inr (Sum.inl (v20,f))))
def nZ(q:QX):Option (((List Z9)×List Z9)×Int×Int) :=
 (if(decide ((q.length:Int) > 4096))=true then some ((([]:List Z9),([]:List Z9)),24,4096)
 else((nc (cR q)).bind fun u =>
 ((iter (qX u) (([]:List Z9),([]:List Z9),0)).bind fun(c:(((List Z9)×List Z9)⊕(((List Z9)×List Z9)×Int×Int)))=>match c with
 | .inl (e,f)=>some ((e,f),0,0)
 | .inr ((j,p))=>some (j,p))))
theorem zo{d1:QX}{u:((List Z9)×List Z9)×Int×Int}(h:nZ d1=some u):
  Pure Tryz.prog 50 [.st d1] (aJ (bc false [⟨Kw,u.1⟩,⟨Y2,u.2⟩])):=by
 refine PB Tryz.func50 (fun Bw w0=>?_);unfold nZ at h;refine G (G (af (G (aC h (fun B1 h=>?_) (fun B1 h=>?_)))))
 ·refine G (au (ah ?_));obtain rfl:=sI h;exact RI [Kw,Y2]
 refine ae (ab ?_);obtain⟨A,q2,h⟩:=aj h;refine GP 2 (u4 false q2) (af (G (ak (kj h (fun(v20,f,j)=>aA [(2,.adr 0 0 2 0),(3,.adr 1 0 2 0),(4,.adr 2 0 2 0),(5,.p false (.slice (.prod (.int .i32) Y2)) A),(6,.i64 j)] (GF 0 (0:Int) v20 f) 5) (dw (fc Tryz.f50.ntmps 0 (fun(B,C)=>aA [(2,.adr 0 0 2 0),(3,.adr 1 0 2 0),(4,.adr 2 0 2 0)] (GF 0 (0:Int) B C) 5)) (gm tb Tryz.f50.results.toList (fun(D,E)=>[⟨Kw,D⟩,⟨Y2,E⟩]))) (gg [.nilC 16 0 88 221 rT,.nilC 16 1 89 221 rT] [0,8,16,88,89]) (fun y o h=>?_) (fun V h e σ' I=>?_)))))
 ·obtain⟨v20,f,j⟩:=y;unfold qX at h;refine af (G (aC h (fun X h=>?_) (fun X h=>?_)))
  ·refine ae (ab (ak (af ?_)));obtain⟨Y,h⟩:=aE h;obtain⟨ad,Z,h⟩:=aj h;have q:=(qV Z);refine GN ⟨[],[(5,(oP q))]⟩ [(2,2,oc Y),(5,5,oc q)] (aC h (fun a1 h=>?_) (fun a1 h=>?_))
   ·refine G (aw (aQ (az ?_)));exact eB h (gg [] [0,1,2,3,4])
   refine ae (ab (G (af (ak (cw h (fun v=>aA [(2,.adr 0 0 2 0),(3,.adr 1 0 2 0),(4,.adr 2 0 2 0),(5,.p false (.slice (.prod (.int .i32) Y2)) A),(6,.i64 j),(7,.i64 v)] (GF 0 (0:Int) v20 f) 5) 2 (fun x=>aA [(2,.adr 0 0 2 0),(3,.adr 1 0 2 0),(4,.adr 2 0 2 0),(5,.p false (.slice (.prod (.int .i32) Y2)) A),(6,.i64 j),(7,.i64 x)] (GF 0 (0:Int) v20 f) 5) (gg [] [0,1,2,3,4]) (fun v o h=>?_) (fun x h=>?_))))))
   ·unfold hU at h;refine af (af (bn h (fun v30=>aA [(2,.adr 0 0 2 0),(3,.adr 1 0 2 0),(4,.adr 2 0 2 0),(5,.p false (.slice (.prod (.int .i32) Y2)) A),(6,.i64 j),(7,.i64 v),(45,.bo v30)] (GF 0 (0:Int) v20 f) 5) (fun v30 h=>?_) (fun v30 h=>?_)))
    ·rcases aI h with⟨c,h⟩ | ⟨c,h⟩
     ·obtain⟨a2,h⟩:=aE h;obtain⟨ax,a3,h⟩:=aj h;have q:=(qV a3);exact bz ⟨[(4,true),(12,true)],[(10,(oP q))]⟩ [(5,6,an c),(7,7,oc (And.intro c a2)),(8,9,an c),(10,10,oc (And.intro c q)),(11,11,an c),(12,12,oc c)] (eN h (gg [] [0,1,2,3,4]))
     exact bz ⟨[(4,false),(12,false)],[]⟩ [(5,12,oc c)] (eN h (gg [] [0,1,2,3,4]))
    refine ab (aC h (fun a4 h=>?_) (fun a4 h=>?_))
    ·refine ae (ab (ak (Ge (ay ?_))));exact eB h (gg [] [0,1,2,3,4])
    refine aw (aQ ?_);exact eX h (gg [] [0,1,2,3,4])
   refine az (ab (GC 2 h (fun h=>af (G (aC h (fun a5 h=>?_) (fun a5 h=>?_))))))
   ·refine G (au ?_);obtain rfl:=sI h;refine ah (aB (bG (aN ?_)));exact bH (RI [Kw,Y2])
   refine ae (ab (GC 4 h (fun h=>?_)));obtain⟨⟨b1,b2⟩,a6,h⟩:=aj h;refine GP 1 (Cx false a6) (af (ak (G (aC h (fun a7 h=>?_) (fun a7 h=>?_)))))
   ·refine G (au ?_);obtain rfl:=sI h;refine aB (ah (aB (bG (aN ?_))));exact bH (RI [Kw,Y2])
   obtain⟨b3,a8,h⟩:=aj h;refine GP 1 (nB false a8) (Ec h (dw (oT Tryz.f50.ntmps (fun(J,L)=>aA [(2,.adr 0 0 2 0),(3,.adr 1 0 2 0),(4,.adr 2 0 2 0),(5,.p false (.slice (.prod (.int .i32) Y2)) A),(7,.i64 x)] (GF 0 (0:Int) J L) 5)) (gm tb Tryz.f50.results.toList (fun(M,N)=>[⟨Kw,M⟩,⟨Y2,N⟩]))) (fun O h=>?_) (fun O h e σ' I=>?_))
   ·refine aC h (fun a9 h=>?_) (fun a9 h=>?_)
    ·refine xg 4 h (fun h=>?_);obtain rfl:=sI h;exact bm (cM (gg [] [0,1,2,317,4]))
    obtain⟨b4,aa,h⟩:=aj h;refine GP 3 (xN true false false aa) (aC h (fun ac h=>?_) (fun ac h=>?_))
    ·refine G (au ?_);obtain rfl:=sI h;exact aN (bH (RI [Kw,Y2]))
    refine xg 4 h (fun h=>?_);obtain rfl:=sI h;exact bm (cM (gg [] [0,1,2,3,357]))
   rcases O with⟨J,L⟩ | ⟨M,N⟩
   ·obtain⟨rfl,z⟩:=I;refine cC ?_ z;refine ay (ab (Ge (ay ?_)));exact eB h (gg [] [0,1,2,3,4])
   obtain⟨rfl,hr⟩:=I;obtain rfl:=sI h;refine aB (ah (aB (bG (aN ?_))));exact bH hr
  refine aw (aQ ?_);obtain rfl:=sI h;refine dJ (bm ?_);exact bN (gg [] [0,1,2,3,4])
 rcases V with⟨B,C⟩ | ⟨D,E⟩
 ·obtain⟨rfl,z⟩:=I;refine cC ?_ z;refine az (ab (G (kr [.frzC 0 0,.frzC 0 1] (by kernel_rfl) (au ?_))));obtain rfl:=sI h;exact RI [Kw,Y2]
 obtain⟨rfl,hr⟩:=I;refine aB (ah ?_);obtain rfl:=sI h;exact hr
def uE(c:XZ):Option XZ:=(if c.isEmpty=true then some []else(if(([]:XZ).length+c.length)*16≤140737488355328∧([]:XZ).length+c.length≤9223372036854775807 then some (([]:XZ)++c)else none))
theorem AE(j:Bool){c f:XZ}(h:uE c=some f):
  Pure Tryz.prog 51 [.p j (.slice (.prod (.int .i32) Y1)) c] (aJ (bc false [⟨(.slice (.prod (.int .i32) Y1)),f⟩])):=by
 refine PB Tryz.func51 (fun Bw w0=>?_);unfold uE at h;refine G (af (EW hH (d:=3) (e:=4) (A:=(.prod (.int .i32) Y1)) (xs:=c) (el:=87) (β:=j) rfl rfl rfl rfl rfl (by kernel_rfl) (by kernel_rfl) (by kernel_rfl) (fun b hb=>?_)));cases b with
 | true =>
  obtain rfl:=hb rfl;obtain rfl:=sI h;exact nY rfl (G (au (ah (RI [(.slice (.prod (.int .i32) Y1))]))))
 | false =>
  replace h:(if(([]:XZ).length+c.length)*16≤140737488355328∧([]:XZ).length+c.length≤9223372036854775807 then some (([]:XZ)++c)else none)=some f:=by cases c <;> simpa using h
  refine oM rfl (ae (ab (GC 2 h (fun h=>au ?_))));obtain rfl:=sI h;exact RI [(.slice (.prod (.int .i32) Y1))]
def kL(q:List Z9)(p:Int):((List Nd)×Int×Int)→Option (((List Nd)×Int×Int)⊕((List Nd)×Int)):=fun(e,c,j) =>
 (if(decide (j<(((q.getD p.toNat ([],([]:QK))).1).length:Int)))=true then(if 0≤j∧j<(((q.getD p.toNat ([],([]:QK))).1).length:Int)then(if c.toNat<e.length then(if 0≤c∧c<(e.length:Int)then(((if(!((aU (α:=Int) (.int .i32) ((e.getD c.toNat Nd.z).2.1) (((q.getD p.toNat ([],([]:QK))).1).getD j.toNat 0)).isSome))=true then(if c.toNat<(jm e c.toNat).length then(if 0≤c∧c<((jm e c.toNat).length:Int)then(((if(!(((jm e c.toNat).getD c.toNat Nd.z).1))=true then(if 0≤c∧c<((jm (jm e c.toNat) c.toNat).length:Int)then(if c.toNat<(jm (jm e c.toNat) c.toNat).length then some (((jm (jm e c.toNat) c.toNat).set c.toNat (true,([]:Qq),((jm (jm e c.toNat) c.toNat).getD c.toNat Nd.z).2.2)))else none)else none)
 else some ((jm (jm e c.toNat) c.toNat)))).bind fun f=>(if c.toNat<f.length then(if 0≤c∧c<(f.length:Int)then(if(f.getD c.toNat Nd.z).1=true then(if((f.set c.toNat (true,(cj (α:=Int) (.int .i32) ((f.getD c.toNat Nd.z).2.1) (((q.getD p.toNat ([],([]:QK))).1).getD j.toNat 0) ((jm e c.toNat).length:Int)),(f.getD c.toNat Nd.z).2.2)).length+1)*32≤140737488355328∧(f.set c.toNat (true,(cj (α:=Int) (.int .i32) ((f.getD c.toNat Nd.z).2.1) (((q.getD p.toNat ([],([]:QK))).1).getD j.toNat 0) ((jm e c.toNat).length:Int)),(f.getD c.toNat Nd.z).2.2)).length+1≤9223372036854775807 then some ((((f.set c.toNat (true,(cj (α:=Int) (.int .i32) ((f.getD c.toNat Nd.z).2.1) (((q.getD p.toNat ([],([]:QK))).1).getD j.toNat 0) ((jm e c.toNat).length:Int)),(f.getD c.toNat Nd.z).2.2))++[Nd.z]),((jm e c.toNat).length:Int)))else none)else none)else none)else none))else none)else none)
 else some (((jm e c.toNat),((aU (α:=Int) (.int .i32) ((e.getD c.toNat Nd.z).2.1) (((q.getD p.toNat ([],([]:QK))).1).getD j.toNat 0)).getD 0))))).bind fun(u,v)=>some (Sum.inl (u,v,(i64.wrap (j+1)))))else none)else none)else none)
 else some (Sum.inr (e,c)))
def kQ(q:List Z9)(p c:Int):((List Nd)×Int)→Option (((List Nd)×Int)⊕(List Nd)):=fun(f,e) =>
 (if(decide (e<(((q.getD p.toNat ([],([]:QK))).2).length:Int)))=true then(if 0≤e∧e<(((q.getD p.toNat ([],([]:QK))).2).length:Int)then(if c.toNat<f.length then(((if(decide (e≥(((f.getD c.toNat Nd.z).2.2).length:Int)))=true then(if c.toNat<(jm f c.toNat).length then(if((((jm f c.toNat).getD c.toNat Nd.z).2.2).length+([0]:QK).length)*1≤140737488355328∧(((jm f c.toNat).getD c.toNat Nd.z).2.2).length+([0]:QK).length≤9223372036854775807 then some (((jm f c.toNat).set c.toNat (((jm f c.toNat).getD c.toNat Nd.z).1,((jm f c.toNat).getD c.toNat Nd.z).2.1,((((jm f c.toNat).getD c.toNat Nd.z).2.2)++([0]:QK)))))else none)else none)
 else some ((jm f c.toNat)))).bind fun j=>(if c.toNat<j.length then(if 0≤e∧e<(((j.getD c.toNat Nd.z).2.2).length:Int)then(if e.toNat<((j.getD c.toNat Nd.z).2.2).length then(if 0≤e∧e<(((j.getD c.toNat Nd.z).2.2).length:Int)then(if e.toNat<((j.getD c.toNat Nd.z).2.2).length then some (Sum.inl ((j.set c.toNat ((j.getD c.toNat Nd.z).1,(j.getD c.toNat Nd.z).2.1,(((j.getD c.toNat Nd.z).2.2).set e.toNat (max (((j.getD c.toNat Nd.z).2.2).getD e.toNat 0) (((q.getD p.toNat ([],([]:QK))).2).getD e.toNat 0))))),(i64.wrap (e+1))))else none)else none)else none)else none)else none))else none)else none)
 else some (Sum.inr f))
def tD(p:List Z9):((List Nd)×Int)→Option (((List Nd)×Int)⊕(List Nd)):=fun(f,c) =>
 (if(decide (c<(p.length:Int)))=true then(if 0≤c∧c<(p.length:Int)then((iter (kL p c) (f,0,0)).bind fun(j,e)=>(if 0≤e∧e<(j.length:Int)then((iter (kQ p c e) (j,0)).bind fun q=>some (Sum.inl (q,(i64.wrap (c+1)))))else none))else none)
 else some (Sum.inr f))
def qk(e:List Z9):Option (Option Ia) :=
 (if 0≤(1:Int)∧(1:Int)≤1∧32*(1:Int)≤281474976710656∧(1:Int)≤9223372036854775807 then((iter (tD e) ((List.replicate (1:Int).toNat Nd.z),0)).bind fun c=>some (some ((c.map (·.2)),()):Option Ia))else none)
theorem Bp(e:Bool){f:List Z9}{B:Option Ia}(h:qk f=some B):
  Pure Tryz.prog 52 [.p e (.slice rT) f] (aJ (bc false [⟨(.ptr uN),B⟩])):=by
 refine PB Tryz.func52 (fun Bw w0=>?_);unfold qk at h;refine G ?_;obtain⟨c2,h⟩:=aE h;refine GN ⟨[],[(0,⟨.unk,[],false,[],[],[],none⟩)]⟩ [(0,0,oc c2)] (af (G (ak (cw h (fun(C,c)=>aA [(3,.adr 0 0 1 0),(17,.p e (.slice rT) f),(18,.i64 (f.length:Int)),(19,.i64 c)] [(0,.box [.sl 1]),(1,.nds 233 5 C none)] 2) 0 (fun D=>aA [(3,.adr 0 0 1 0)] [(0,.box [.sl 1]),(1,.nds 233 5 D none)] 2) (gg [] [24,8]) (fun y o h=>?_) (fun D h=>?_)))))
 ·obtain⟨C,c⟩:=y;unfold tD at h;refine G (af (aC h (fun b1 h=>?_) (fun b1 h=>?_)))
  ·refine ae (ab (af (ak (GC 0 h (fun h=>G (af (G (ak ?_))))))));refine cw h (fun(x,q,u)=>aA [(3,.adr 0 0 1 0),(5,.adr 2 0 2 0),(6,.i64 q),(17,.p e (.slice rT) f),(18,.i64 (f.length:Int)),(19,.i64 c),(24,.p e (.slice (.int .i32)) ((f.getD c.toNat ([],([]:QK))).1)),(25,.i64 (((f.getD c.toNat ([],([]:QK))).1).length:Int)),(26,.i64 u)] (JQ x e ((f.getD c.toNat ([],([]:QK))).1) e ((f.getD c.toNat ([],([]:QK))).2)) 3) 2 (fun(E,j)=>aA [(3,.adr 0 0 1 0),(5,.adr 2 0 2 0),(6,.i64 j),(17,.p e (.slice rT) f),(18,.i64 (f.length:Int)),(19,.i64 c)] (JQ E e ((f.getD c.toNat ([],([]:QK))).1) e ((f.getD c.toNat ([],([]:QK))).2)) 3) (gg [] [0,1,26]) (fun y o h=>?_) (fun b2 h=>?_)
   ·obtain⟨x,q,u⟩:=y;unfold kL at h;refine G (af (aC h (fun b3 h=>?_) (fun b3 h=>?_)))
    ·refine ae (ab (af (ak (GC 0 h (fun h=>af ?_)))));obtain⟨I,h⟩:=aE h;refine zF 1 q.toNat false I (by kernel_rfl) ?_;obtain⟨J,h⟩:=aE h;refine bz a0 [(5,5,oc J),(7,7,⟨q.toNat=q.toNat,rfl⟩)] (ab (af (af (kr [.shut 1] (by kernel_rfl) (Ge (ab (bn h (fun(L,M)=>aA [(3,.adr 0 0 1 0),(5,.adr 2 0 2 0),(9,.i64 M),(17,.p e (.slice rT) f),(18,.i64 (f.length:Int)),(19,.i64 c),(24,.p e (.slice (.int .i32)) ((f.getD c.toNat ([],([]:QK))).1)),(25,.i64 (((f.getD c.toNat ([],([]:QK))).1).length:Int)),(26,.i64 u)] (JQ L e ((f.getD c.toNat ([],([]:QK))).1) e ((f.getD c.toNat ([],([]:QK))).2)) 3) (fun N h=>?_) (fun N h=>?_))))))))
     ·refine aC h (fun b4 h=>?_) (fun b4 h=>?_)
      ·refine G (af (af ?_));obtain⟨O,h⟩:=aE h;refine zF 1 q.toNat false O (by kernel_rfl) ?_;obtain⟨V,h⟩:=aE h;refine bz a0 [(5,5,oc V),(7,7,⟨q.toNat=q.toNat,rfl⟩)] (ab (bn h (fun z=>aA [(3,.adr 0 0 1 0),(5,.adr 2 0 2 0),(6,.i64 q),(8,.i32 (((f.getD c.toNat ([],([]:QK))).1).getD u.toNat 0)),(9,.i64 ((jm x q.toNat).length:Int)),(17,.p e (.slice rT) f),(18,.i64 (f.length:Int)),(19,.i64 c),(24,.p e (.slice (.int .i32)) ((f.getD c.toNat ([],([]:QK))).1)),(25,.i64 (((f.getD c.toNat ([],([]:QK))).1).length:Int)),(26,.i64 u)] (JQ z e ((f.getD c.toNat ([],([]:QK))).1) e ((f.getD c.toNat ([],([]:QK))).2)) 3) (fun z h=>?_) (fun z h=>?_)))
       ·refine aC h (fun b5 h=>?_) (fun b5 h=>?_)
        ·refine kr [.shut 1] (by kernel_rfl) ?_;obtain⟨X,Y,h⟩:=g2 h;exact bz a0 [(6,6,oc X),(8,8,oc Y)] (eN h (gg [.shut 1] [0,1,2]))
        exact ae (eN h (gg [.shut 1] [0,1,2]))
       refine ab (af ?_);obtain⟨Z,h⟩:=aE h;refine zF 1 q.toNat false Z (by kernel_rfl) ?_;obtain⟨a1,a2,h⟩:=g2 h;refine bz a0 [(5,5,oc a1),(7,7,⟨q.toNat=q.toNat,rfl⟩),(10,10,oc a2)] (ab (kr [.shut 1] (by kernel_rfl) ?_));obtain⟨a3,h⟩:=aE h;exact bz ⟨[],[(6,⟨.unk,[],false,[],[],[],none⟩)]⟩ [(7,7,oc a3)] (eN h (gg [] [0,148,2]))
      exact ae (eN h (gg [] [0,1,2]))
     obtain⟨L,M⟩:=N;refine ab (Ge (ay (ab (Ge ?_))));exact eB h (gg [] [0,1,2])
    refine aw (aQ ?_);exact eX h (gg [] [0,1,2])
   obtain⟨E,j⟩:=b2;refine az (ab (GC 5 h (fun h=>G (ak (cw h (fun(a4,v)=>aA [(3,.adr 0 0 1 0),(11,.adr 1 j.toNat 2 0),(17,.p e (.slice rT) f),(18,.i64 (f.length:Int)),(19,.i64 c),(96,.p e (.slice (.int .u8)) ((f.getD c.toNat ([],([]:QK))).2)),(97,.i64 (((f.getD c.toNat ([],([]:QK))).2).length:Int)),(98,.i64 v)] [(0,.box [.sl 1]),(1,.nds 233 5 a4 none)] 2) 4 (fun a5=>aA [(3,.adr 0 0 1 0),(17,.p e (.slice rT) f),(18,.i64 (f.length:Int)),(19,.i64 c)] [(0,.box [.sl 1]),(1,.nds 233 5 a5 none)] 2) (gg [] [0,1]) (fun y o h=>?_) (fun a5 h=>?_))))))
   ·obtain⟨a4,v⟩:=y;unfold kQ at h;refine G (af (aC h (fun b6 h=>?_) (fun b6 h=>?_)))
    ·refine ae (ab (af (ak (GC 1 h (fun h=>af (af ?_))))));obtain⟨a6,h⟩:=aE h;refine zF 1 j.toNat true a6 (by kernel_rfl) (bz a0 [(4,4,⟨j.toNat=j.toNat,rfl⟩)] (ab (bn h (fun A=>aA [(3,.adr 0 0 1 0),(11,.adr 1 j.toNat 2 0),(12,.i64 v),(13,.u8 (((f.getD c.toNat ([],([]:QK))).2).getD v.toNat 0)),(17,.p e (.slice rT) f),(18,.i64 (f.length:Int)),(19,.i64 c),(96,.p e (.slice (.int .u8)) ((f.getD c.toNat ([],([]:QK))).2)),(97,.i64 (((f.getD c.toNat ([],([]:QK))).2).length:Int)),(98,.i64 v)] [(0,.box [.sl 1]),(1,.nds 233 5 A none)] 2) (fun A h=>?_) (fun A h=>?_))))
     ·refine aC h (fun b7 h=>?_) (fun b7 h=>?_)
      ·refine kr [.shut 1] (by kernel_rfl) ?_;obtain⟨a7,h⟩:=aE h;refine zF 1 j.toNat true a7 (by kernel_rfl) ?_;obtain⟨a8,h⟩:=aE h;exact bz a0 [(4,4,⟨j.toNat=j.toNat,rfl⟩),(6,6,oc a8),(9,9,⟨j.toNat=j.toNat∧true=true,⟨rfl,rfl⟩⟩)] (eN h (gg [.shut 1] [0,1]))
      exact ae (eN h (gg [.shut 1] [0,1]))
     refine ab ?_;obtain⟨a9,h⟩:=aE h;refine zF 1 j.toNat true a9 (by kernel_rfl) ?_;obtain⟨aa,ac,ad,ax,h⟩:=g4 h;refine kY a0 [(3,3,⟨j.toNat=j.toNat,rfl⟩),(8,8,⟨j.toNat=j.toNat,rfl⟩),(10,10,oc aa),(11,11,oc ac),(14,14,oc ad),(15,15,oc ax)] (ay (ab (kr [.shut 1] (by kernel_rfl) (Ge ?_))));exact eB h (gg [] [0,1])
    refine aw (aQ ?_);exact eX h (gg [] [0,1])
   refine az (ay (ab (Ge ?_)));exact eB h (gg [] [0,1])
  refine aw (aQ ?_);exact eX h (gg [] [0,1])
 refine az (ab (G (kr [.frzC 0 0] (by kernel_rfl) (au ?_))));obtain rfl:=sI h;exact RI [(.ptr uN)]
def m8(j:QX)(c:XZ)(f e:Int):Option ((Option Z3)×Int×Int) :=
 ((oS c).bind fun v =>
 (if(!v)=true then some ((none:Option Z3),10,0)
 else(((if(decide (f<1))=true then some (true)
 else(if(decide (e<1))=true then some (true)
 else(if(decide (f > 24))=true then some (true)
 else some ((decide (e > 24))))))).bind fun v1=>(if v1=true then some ((none:Option Z3),40,0)
 else((nZ j).bind fun(u,p) =>
 (if(p.1 != 0)=true then some ((none:Option Z3),p.1,p.2)
 else((uE c).bind fun x =>
 ((qk u.1).bind fun q =>
 some ((some (x,q,u.2,f,e):Option Z3),0,0)))))))))
theorem BX(q:Bool){f:QX}{c:XZ}{j e:Int}{x:(Option Z3)×Int×Int}(h:m8 f c j e=some x):
  Pure Tryz.prog 31 [.st f,.p q (.slice (.prod (.int .i32) Y1)) c,.i64 j,.i64 e] (aJ (bc false [⟨(.ptr oF),x.1⟩,⟨Y2,x.2⟩])):=by
 refine PB Tryz.func31 (fun Bw w0=>?_);unfold m8 at h;refine G (af ?_);obtain⟨O,E,h⟩:=aj h;refine GP 1 (zv q E) (aC h (fun I h=>?_) (fun I h=>?_))
 ·refine G (au (ah ?_));obtain rfl:=sI h;exact RI [(.ptr oF),Y2]
 refine ae (ab (af (af (bn h (fun v1=>aA [(0,.st f),(1,.p q (.slice (.prod (.int .i32) Y1)) c),(2,.i64 j),(3,.i64 e),(9,.adr 0 0 2 0),(29,.bo v1)] [(0,.box [.i64 0,.i64 0])] 1) (fun v1 h=>?_) (fun v1 h=>?_)))))
 ·rcases aI h with⟨v,h⟩ | ⟨v,h⟩
  ·exact bz ⟨[(2,true),(5,true)],[]⟩ [(3,5,oc v)] (eN h (gg [] [8]))
  rcases aI h with⟨z,h⟩ | ⟨z,h⟩
  ·exact bz ⟨[(2,false),(5,false),(6,true),(9,true)],[]⟩ [(3,4,an v),(5,5,oc v),(7,9,oc z)] (eN h (gg [] [8]))
  rcases aI h with⟨u,h⟩ | ⟨u,h⟩
  ·exact bz ⟨[(2,false),(5,false),(6,false),(9,false),(10,true),(13,true)],[]⟩ [(3,4,an v),(5,5,oc v),(7,8,an z),(9,9,oc z),(11,13,oc u)] (eN h (gg [] [8]))
  exact bz ⟨[(2,false),(5,false),(6,false),(9,false),(10,false),(13,false)],[]⟩ [(3,4,an v),(5,5,oc v),(7,8,an z),(9,9,oc z),(11,12,an u),(13,13,oc u)] (eN h (gg [] [8]))
 refine ab (aC h (fun C h=>?_) (fun C h=>?_))
 ·refine G (au (ah ?_));obtain rfl:=sI h;exact RI [(.ptr oF),Y2]
 refine ae (ab ?_);obtain⟨⟨V,X⟩,J,h⟩:=aj h;refine GP 1 (zo J) (af (G (aC h (fun D h=>?_) (fun D h=>?_))))
 ·refine GD a0 [] (au (ah ?_));obtain rfl:=sI h;exact RI [(.ptr oF),Y2]
 refine ae (ab ?_);obtain⟨Y,L,h⟩:=aj h;obtain⟨M,N,h⟩:=aj h;have A:=(AE q L);have B:=(Bp false N);refine GD ⟨[],[(1,(oP A)),(4,(oP B))]⟩ [(1,1,oc A),(4,4,oc B)] (au ?_);obtain rfl:=sI h;exact RI [(.ptr oF),Y2]
def j8(E I J L:XZ)(M N O:QX)(V X:Int):Option ((Option Z1)×Int×Int) :=
 ((iY M).bind fun(C,p) =>
 (if(p.1 != 0)=true then some ((none:Option Z1),p.1,p.2)
 else((iY N).bind fun(D,q) =>
 (if(q.1 != 0)=true then some ((none:Option Z1),q.1,q.2)
 else((cg C).bind fun u =>
 ((cg D).bind fun v =>
 (if 0≤(0:Int)∧0<((3:Nat):Int)then((fY E u).bind fun(x,e) =>
 (if(e != 0)=true then some ((none:Option Z1),e,0)
 else(if 0≤(1:Int)∧1<((3:Nat):Int)then((fY I v).bind fun(z,f) =>
 (if(f != 0)=true then some ((none:Option Z1),f,0)
 else(if 0≤(2:Int)∧2<((3:Nat):Int)then((fY J 3).bind fun(A,j) =>
 (if(j != 0)=true then some ((none:Option Z1),j,0)
 else((m8 O L V X).bind fun(B,c) =>
 (if(c.1 != 0)=true then some ((none:Option Z1),c.1,c.2)
 else some ((some (C,D,x,z,A,B):Option Z1),0,0)))))else none)))else none)))else none)))))))
theorem uS(e f j q:Bool){C D:XZ}{E I:XZ}{J L M:QX}{N O:Int}{c:(Option Z1)×Int×Int}(h:j8 C D E I J L M N O=some c):
  Pure Tryz.prog 13 [.agg [.p e (.slice (.prod (.int .i32) Y1)) C,.p f (.slice (.prod (.int .i32) Y1)) D,.p j (.slice (.prod (.int .i32) Y1)) E,.p q (.slice (.prod (.int .i32) Y1)) I,.st J,.st L,.st M,.i64 N,.i64 O]] (aJ (bc false [⟨(.ptr vQ),c.1⟩,⟨Y2,c.2⟩])):=by
 refine PB Tryz.func13 (fun Bw w0=>?_);unfold j8 at h;refine G (G (G (af ?_)));obtain⟨⟨r3,r4⟩,V,h⟩:=aj h;refine GP 3 (u6 V) (G (aC h (fun X h=>?_) (fun X h=>?_)))
 ·refine GD a0 [] (au (ah ?_));obtain rfl:=sI h;exact RI [(.ptr vQ),Y2]
 refine ae (ab (af ?_));obtain⟨⟨r7,r8⟩,Y,h⟩:=aj h;refine GP 3 (u6 Y) (G (aC h (fun Z h=>?_) (fun Z h=>?_)))
 ·refine GD a0 [] (au (ah ?_));obtain rfl:=sI h;exact RI [(.ptr vQ),Y2]
 refine ae (ab (af ?_));obtain⟨a1,q7,h⟩:=aj h;obtain⟨a2,q8,h⟩:=aj h;have u:=(iS false q7);have v:=(iS false q8);refine GD ⟨[],[(9,(oP u)),(20,(oP v))]⟩ [(9,9,oc u),(20,20,oc v)] (ak (yi 9 (G (af (nY rfl (ae (ab (af (ak (GC 0 h (fun h=>?_)))))))))));obtain⟨⟨a3,a4⟩,x,h⟩:=aj h;refine GP 4 (oB e x) (af (G (aC h (fun B3 h=>?_) (fun B3 h=>?_))))
 ·refine G (au (ah (aB (ah (D4 (aB (ah ?_)))))));obtain rfl:=sI h;exact RI [(.ptr vQ),Y2]
 refine ae (ab (Ge (ay (ab (Ge (sf (G (af (nY rfl (ae (ab (af (ak (GC 0 h (fun h=>?_)))))))))))))));obtain⟨⟨a5,a6⟩,z,h⟩:=aj h;refine GP 4 (oB f z) (af (G (aC h (fun B4 h=>?_) (fun B4 h=>?_))))
 ·refine G (au (ah (aB (ah (D4 (aB (ah ?_)))))));obtain rfl:=sI h;exact RI [(.ptr vQ),Y2]
 refine ae (ab (Ge (ay (ab (Ge (sf (G (af (nY rfl (ae (ab (af (ak (GC 0 h (fun h=>?_)))))))))))))));obtain⟨⟨a7,a8⟩,A,h⟩:=aj h;refine GP 4 (oB j A) (af (G (aC h (fun B5 h=>?_) (fun B5 h=>?_))))
 ·refine G (au (ah (aB (ah (D4 (aB (ah ?_)))))));obtain rfl:=sI h;exact RI [(.ptr vQ),Y2]
 refine ae (ab (Ge (ay (ab (Ge (sf (G (af (oM rfl (aw (aQ (Ok (az (ab (af ?_)))))))))))))));obtain⟨⟨a9,aa⟩,B,h⟩:=aj h;refine GP 9 (BX q B) (G (aC h (fun B6 h=>?_) (fun B6 h=>?_)))
 ·refine GD a0 [] (au (ah ?_));obtain rfl:=sI h;exact RI [(.ptr vQ),Y2]
 refine ae (ab (G (au ?_)));obtain rfl:=sI h;exact RI [(.ptr vQ),Y2]
def fJ(e f q j p:Int)(_:QJ):Option (Bool) :=
 (((if(decide (e≥1))=true then(if(decide (e≤1048576))=true then(if(decide (f≥1))=true then(if(decide (f≤64))=true then(if(decide (q≤1))=true then(if(decide (j≥0))=true then(if(decide (j≤1048576))=true then(if(decide (p≥0))=true then some ((decide (p≤1048576)))
 else some (false))
 else some (false))
 else some (false))
 else some (false))
 else some (false))
 else some (false))
 else some (false))
 else some (false))).bind fun v1=>some v1)
theorem yG{A B:Int}{C D E:Int}{I:QJ}{z:Bool}(h:fJ A B C D E I=some z):
  Pure Tryz.prog 32 [.agg [.i64 A,.i64 B,.u8 C,.i64 D,.i64 E,.p false .flt I]] (aJ (bc false [⟨.bool,z⟩])):=by
 refine PB Tryz.func32 (fun Bw w0=>?_);unfold fJ at h;refine G (af (bn h (fun v1=>aA [(2,.bo v1)] [] 0) (fun v1 h=>?_) (fun v1 h=>?_)))
 ·rcases aI h with⟨c,h⟩ | ⟨c,h⟩
  ·rcases aI h with⟨e,h⟩ | ⟨e,h⟩
   ·rcases aI h with⟨f,h⟩ | ⟨f,h⟩
    ·rcases aI h with⟨j,h⟩ | ⟨j,h⟩
     ·rcases aI h with⟨q,h⟩ | ⟨q,h⟩
      ·rcases aI h with⟨u,h⟩ | ⟨u,h⟩
       ·rcases aI h with⟨v,h⟩ | ⟨v,h⟩
        ·rcases aI h with⟨x,h⟩ | ⟨x,h⟩
         ·exact bz ⟨[(3,true),(7,true),(8,true),(12,true),(13,true),(17,true),(18,true),(22,true),(23,true),(27,true),(28,true),(32,true),(33,true),(37,true),(38,true),(42,true)],[]⟩ [(4,6,an c),(7,7,oc c),(9,11,an e),(12,12,oc e),(14,16,an f),(17,17,oc f),(19,21,an j),(22,22,oc j),(24,26,an q),(27,27,oc q),(29,31,an u),(32,32,oc u),(34,36,an v),(37,37,oc v),(39,41,an x),(42,42,oc x)] (eN h (gg [] []))
         exact bz ⟨[(3,true),(7,true),(8,true),(12,true),(13,true),(17,true),(18,true),(22,true),(23,true),(27,true),(28,true),(32,true),(33,true),(37,true),(38,false),(42,false)],[]⟩ [(4,6,an c),(7,7,oc c),(9,11,an e),(12,12,oc e),(14,16,an f),(17,17,oc f),(19,21,an j),(22,22,oc j),(24,26,an q),(27,27,oc q),(29,31,an u),(32,32,oc u),(34,36,an v),(37,37,oc v),(39,42,oc x)] (eN h (gg [] []))
        exact bz ⟨[(3,true),(7,true),(8,true),(12,true),(13,true),(17,true),(18,true),(22,true),(23,true),(27,true),(28,true),(32,true),(33,false),(37,false)],[]⟩ [(4,6,an c),(7,7,oc c),(9,11,an e),(12,12,oc e),(14,16,an f),(17,17,oc f),(19,21,an j),(22,22,oc j),(24,26,an q),(27,27,oc q),(29,31,an u),(32,32,oc u),(34,37,oc v)] (eN h (gg [] []))
       exact bz ⟨[(3,true),(7,true),(8,true),(12,true),(13,true),(17,true),(18,true),(22,true),(23,true),(27,true),(28,false),(32,false)],[]⟩ [(4,6,an c),(7,7,oc c),(9,11,an e),(12,12,oc e),(14,16,an f),(17,17,oc f),(19,21,an j),(22,22,oc j),(24,26,an q),(27,27,oc q),(29,32,oc u)] (eN h (gg [] []))
      exact bz ⟨[(3,true),(7,true),(8,true),(12,true),(13,true),(17,true),(18,true),(22,true),(23,false),(27,false)],[]⟩ [(4,6,an c),(7,7,oc c),(9,11,an e),(12,12,oc e),(14,16,an f),(17,17,oc f),(19,21,an j),(22,22,oc j),(24,27,oc q)] (eN h (gg [] []))
     exact bz ⟨[(3,true),(7,true),(8,true),(12,true),(13,true),(17,true),(18,false),(22,false)],[]⟩ [(4,6,an c),(7,7,oc c),(9,11,an e),(12,12,oc e),(14,16,an f),(17,17,oc f),(19,22,oc j)] (eN h (gg [] []))
    exact bz ⟨[(3,true),(7,true),(8,true),(12,true),(13,false),(17,false)],[]⟩ [(4,6,an c),(7,7,oc c),(9,11,an e),(12,12,oc e),(14,17,oc f)] (eN h (gg [] []))
   exact bz ⟨[(3,true),(7,true),(8,false),(12,false)],[]⟩ [(4,6,an c),(7,7,oc c),(9,12,oc e)] (eN h (gg [] []))
  exact bz ⟨[(3,false),(7,false)],[]⟩ [(4,7,oc c)] (eN h (gg [] []))
 refine ab (au ?_);obtain rfl:=sI h;exact RI [.bool]
def cS(c:QK):Option QK:=(if c.isEmpty=true then some []else(if(([]:QK).length+c.length)*1≤140737488355328∧([]:QK).length+c.length≤9223372036854775807 then some (([]:QK)++c)else none))
theorem l9(j:Bool){c f:QK}(h:cS c=some f):
  Pure Tryz.prog 34 [.p j (.slice (.int .u8)) c] (aJ (bc false [⟨(.slice (.int .u8)),f⟩])):=by
 refine PB Tryz.func34 (fun Bw w0=>?_);unfold cS at h;refine G (af (EW hH (d:=3) (e:=4) (A:=(.int .u8)) (xs:=c) (el:=5) (β:=j) rfl rfl rfl rfl rfl (by kernel_rfl) (by kernel_rfl) (by kernel_rfl) (fun b hb=>?_)));cases b with
 | true =>
  obtain rfl:=hb rfl;obtain rfl:=sI h;exact nY rfl (G (au (ah (RI [(.slice (.int .u8))]))))
 | false =>
  replace h:(if(([]:QK).length+c.length)*1≤140737488355328∧([]:QK).length+c.length≤9223372036854775807 then some (([]:QK)++c)else none)=some f:=by cases c <;> simpa using h
  refine oM rfl (ae (ab (GC 2 h (fun h=>au ?_))));obtain rfl:=sI h;exact RI [(.slice (.int .u8))]
def bh(e:Option AR)(c:Int):Option (Int) :=
 (((if e.isNone=true then some (true)
 else(if(decide (c<0))=true then some (true)
 else some ((decide (c > 1114111)))))).bind fun v1=>(if v1=true then some 0
 else(if e.isSome=true then(if 0≤(8:Int)then(if e.isSome=true then(if 0≤(Int.fdiv c (2 ^ (min (8:Int).toNat i32.bits)))∧(Int.fdiv c (2 ^ (min (8:Int).toNat i32.bits)))<((4352:Nat):Int)then(if 0≤(fA ((e.getD (Ty.zero wC)).1) (Int.fdiv c (2 ^ (min (8:Int).toNat i32.bits))).toNat)∧(fA ((e.getD (Ty.zero wC)).1) (Int.fdiv c (2 ^ (min (8:Int).toNat i32.bits))).toNat)<(((e.getD (Ty.zero wC)).2).length:Int)then(if 0≤(bitsOf .and .i32 c 255)∧(bitsOf .and .i32 c 255)<((256:Nat):Int)then some (i64.wrap (fA (((e.getD (Ty.zero wC)).2).getD ((fA ((e.getD (Ty.zero wC)).1) (Int.fdiv c (2 ^ (min (8:Int).toNat i32.bits))).toNat).toNat) (dv 256)) (bitsOf .and .i32 c 255).toNat))else none)else none)else none)else none)else none)else none)))
theorem nk(f:Bool){u:Option AR}{v j:Int}(h:bh u v=some j):
  Pure Tryz.prog 123 [.p f (.ptr wC) u,.i32 v] (aJ (bc false [⟨(.int .i64),j⟩])):=by
 refine PB Tryz.func123 (fun Bw w0=>?_);unfold bh at h;refine G (af (af (bn h (fun v1=>aA [(0,.p f (.ptr wC) u),(1,.i32 v),(14,.bo v1)] [] 0) (fun v1 h=>?_) (fun v1 h=>?_))))
 ·rcases aI h with⟨c,h⟩ | ⟨c,h⟩
  ·exact bz ⟨[(2,true),(5,true)],[]⟩ [(1,1,⟨∃e,Tryz.prog.underlying 98=some (.pointer e),⟨_,rfl⟩⟩),(3,5,oc c)] (eN h (gg [] []))
  rcases aI h with⟨q,h⟩ | ⟨q,h⟩
  ·exact bz ⟨[(2,false),(5,false),(6,true),(9,true)],[]⟩ [(1,1,⟨∃e,Tryz.prog.underlying 98=some (.pointer e),⟨_,rfl⟩⟩),(3,4,an c),(5,5,oc c),(7,9,oc q)] (eN h (gg [] []))
  exact bz ⟨[(2,false),(5,false),(6,false),(9,false)],[]⟩ [(1,1,⟨∃e,Tryz.prog.underlying 98=some (.pointer e),⟨_,rfl⟩⟩),(3,4,an c),(5,5,oc c),(7,8,an q),(9,9,oc q)] (eN h (gg [] []))
 refine ab (aC h (fun B h=>?_) (fun B h=>?_))
 ·refine G (au (ah ?_));obtain rfl:=sI h;exact RI [(.int .i64)]
 refine ae (ab ?_);obtain⟨C,D,E,x,h⟩:=g4 h;obtain⟨z,A,h⟩:=g2 h;refine GD a0 [(1,1,oc C),(6,6,oc D),(7,7,oc E),(9,9,oc x),(13,13,oc z),(14,14,oc A)] (au ?_);obtain rfl:=sI h;exact RI [(.int .i64)]
def dn(j:Option AR)(f:XZ):vR→Option (vR⊕QK):=fun(c,e) =>
 (if(decide (e<(f.length:Int)))=true then(if 0≤e∧e<(f.length:Int)then((bh j ((f.getD e.toNat (0,0,0)).1)).bind fun p =>
 (if 0≤e∧e<(c.length:Int)then(if e.toNat<c.length then some (Sum.inl ((c.set e.toNat p),(i64.wrap (e+1))))else none)else none))else none)
 else some (Sum.inr c))
def cy(f:Option AR)(c:XZ):Option QK :=
 (if 0≤(c.length:Int)∧(c.length:Int)≤(c.length:Int)∧8*(c.length:Int)≤281474976710656∧(c.length:Int)≤9223372036854775807 then((iter (dn f c) ((List.replicate (c.length:Int).toNat (0:Int)),0)).bind fun e=>some e)else none)
theorem lL(f j:Bool){x:Option AR}{v:XZ}{q:QK}(h:cy x v=some q):
  Pure Tryz.prog 85 [.p f (.ptr wC) x,.p j (.slice (.prod (.int .i32) Y2)) v] (aJ (bc false [⟨(.slice (.int .i64)),q⟩])):=by
 refine PB Tryz.func85 (fun Bw w0=>?_);unfold cy at h;refine G (GC 2 h (fun h=>af (G (ak (cw h (fun(c,B)=>aA [(0,.p f (.ptr wC) x),(5,.sl 0),(11,.p j (.slice (.prod (.int .i32) Y2)) v),(12,.i64 (v.length:Int)),(13,.i64 B)] [(0,.arr 3 (.int .i64) c)] 1) 0 (fun e=>aA [(5,.sl 0)] [(0,.arr 3 (.int .i64) e)] 1) (gg [] [24]) (fun y o h=>?_) (fun e h=>?_))))))
 ·obtain⟨c,B⟩:=y;unfold dn at h;refine G (af (aC h (fun C h=>?_) (fun C h=>?_)))
  ·refine ae (ab (af (ak (GC 1 h (fun h=>?_)))));obtain⟨E,D,h⟩:=aj h;obtain⟨z,A,h⟩:=g2 h;have u:=(nk f D);refine bz ⟨[],[(5,(oP u))]⟩ [(5,5,oc u),(6,6,oc z),(7,7,oc A)] (ay (ab (Ge ?_)));exact eB h (gg [] [0])
  refine aw (aQ ?_);exact eX h (gg [] [0])
 refine az (ab (G (au ?_)));obtain rfl:=sI h;exact RI [(.slice (.int .i64))]
def jS(j:QZ)(c:QK):(QK×Int×Int)→Option ((QK×Int×Int)⊕QK):=fun(e,f,v4) =>
 (if(decide (v4<(c.length:Int)))=true then(if 0≤v4∧v4<(c.length:Int)then(((if(decide ((c.getD v4.toNat 0)<0))=true then some (true)
 else(if 0≤f∧f<(j.length:Int)then some ((decide ((c.getD v4.toNat 0)≥((j.getD f.toNat []).length:Int))))else none))).bind fun p=>(if p=true then some (Sum.inr e)
 else(if 0≤f∧f<(j.length:Int)then(if 0≤(c.getD v4.toNat 0)∧(c.getD v4.toNat 0)<((j.getD f.toNat []).length:Int)then(if(e.length+([((j.getD f.toNat []).getD ((c.getD v4.toNat 0).toNat) 0)]:QK).length)*8≤140737488355328∧e.length+([((j.getD f.toNat []).getD ((c.getD v4.toNat 0).toNat) 0)]:QK).length≤9223372036854775807 then some (Sum.inl ((e++([((j.getD f.toNat []).getD ((c.getD v4.toNat 0).toNat) 0)]:QK)),((j.getD f.toNat []).getD ((c.getD v4.toNat 0).toNat) 0),(i64.wrap (v4+1))))else none)else none)else none)))else none)
 else some (Sum.inr e))
def nf(f:QZ)(_ c:QK):Option QK :=
 (if((f.length:Int) == 0)=true then some ([]:QK)
 else((iter (jS f c) (([0]:QK),0,0)).bind fun e=>some e))
theorem vm(q u v:Bool){z:QZ}{A c x:QK}(h:nf z A c=some x):
  Pure Tryz.prog 120 [.agg [.p q (.slice (.slice (.int .i64))) z,.p u (.slice (.int .u32)) A],.p v (.slice (.int .i64)) c] (aJ (bc false [⟨(.slice (.int .i64)),x⟩])):=by
 refine PB Tryz.func120 (fun Bw w0=>?_);unfold nf at h;refine G (af (G (aC h (fun M h=>?_) (fun M h=>?_))))
 ·refine G (au (ah ?_));obtain rfl:=sI h;exact RI [(.slice (.int .i64))]
 refine ae (ab (G (G (af (G (ak (cw h (fun(f,B,v4)=>aA [(2,.adr 0 0 2 0),(5,.sl 1),(6,.i64 B),(14,.p v (.slice (.int .i64)) c),(15,.i64 (c.length:Int)),(16,.i64 v4)] (MS q z u A f) 2) 0 (fun j=>aA [(5,.sl 0)] [(0,.arr 3 (.int .i64) j)] 1) (gg [] [0,48]) (fun y o h=>?_) (fun j h=>?_))))))))
 ·obtain⟨f,B,v4⟩:=y;unfold jS at h;refine G (af (aC h (fun C h=>?_) (fun C h=>?_)))
  ·refine ae (ab (af (ak (GC 0 h (fun h=>af (af (bn h (fun D=>aA [(2,.adr 0 0 2 0),(5,.sl 1),(6,.i64 B),(8,.i64 (c.getD v4.toNat 0)),(14,.p v (.slice (.int .i64)) c),(15,.i64 (c.length:Int)),(16,.i64 v4),(31,.bo D)] (MS q z u A f) 2) (fun D h=>?_) (fun D h=>?_))))))))
   ·rcases aI h with⟨e,h⟩ | ⟨e,h⟩
    ·exact bz ⟨[(2,true),(11,true)],[]⟩ [(3,11,oc e)] (eN h (gg [] [0,1]))
    obtain⟨E,h⟩:=aE h;exact bz ⟨[(2,false),(11,false)],[]⟩ [(3,6,an e),(7,7,oc (And.intro e E)),(8,10,an e),(11,11,oc e)] (eN h (gg [] [0,1]))
   refine ab (aC h (fun I h=>?_) (fun I h=>?_))
   ·refine aw (aQ (jz rfl (aQ ?_)));exact eX h (gg [] [1])
   refine ae (ab ?_);obtain⟨J,L,h⟩:=g2 h;refine GN a0 [(3,3,oc J),(6,6,oc L)] (xg 3 h (fun h=>ay (ab (Ge ?_))));exact eB h (gg [] [0,98])
  refine aw (aQ ?_);exact eX h (gg [] [1])
 refine az (ab (G (au ?_)));obtain rfl:=sI h;exact RI [(.slice (.int .i64))]
def bM  : (QK×Int×Int)→Option ((QK×Int×Int)⊕QK):=fun(c,e,f) =>
 (if(decide (e<f))=true then(if 0≤f∧f<(c.length:Int)then(if f.toNat<c.length then(if 0≤e∧e<(c.length:Int)then(if e.toNat<c.length then(if 0≤e∧e<(c.length:Int)then(if e.toNat<c.length then(if 0≤f∧f<((c.set e.toNat (c.getD f.toNat 0)).length:Int)then(if f.toNat<(c.set e.toNat (c.getD f.toNat 0)).length then some (Sum.inl (((c.set e.toNat (c.getD f.toNat 0)).set f.toNat (c.getD e.toNat 0)),(i64.wrap (e+1)),(i64.wrap (f - 1))))else none)else none)else none)else none)else none)else none)else none)else none)
 else some (Sum.inr c))
def cb(c:QK):Option QK :=
 ((iter (bM) (c,0,(i64.wrap ((c.length:Int) - 1)))).bind fun e=>some e)
theorem kg{A c:QK}(h:cb A=some c):
  fP Tryz.prog 121 [.sl 0] [(0,.arr 3 (.int .i64) A)] (.tup []) [(0,.arr 3 (.int .i64) c)]:=by
 refine OB Tryz.func121 (fun Bw w0=>?_);unfold cb at h;refine G (ak (cw h (fun(B,C,D)=>aA [(0,.sl 0),(2,.i64 C),(3,.i64 D)] [(0,.arr 3 (.int .i64) B)] 1 1) 0 (fun e=>aA [] [(0,.arr 3 (.int .i64) e)] 1 1) (gg [] [0]) (fun y o h=>?_) (fun e h=>?_)))
 ·obtain⟨B,C,D⟩:=y;unfold bM at h;refine af (G (aC h (fun E h=>?_) (fun E h=>?_)))
  ·refine ae (ab (af (ak ?_)));obtain⟨f,j,p,q,h⟩:=g4 h;obtain⟨u,v,x,z,h⟩:=g4 h;refine kY a0 [(6,6,oc f),(7,7,oc j),(10,10,oc p),(11,11,oc q),(12,12,oc u),(13,13,oc v),(14,14,oc x),(15,15,oc z)] (ay (ab (Ge ?_)));exact eB h (gg [] [0])
  refine aw (aQ ?_);exact eX h (gg [] [0])
 refine az ?_;obtain rfl:=sI h;exact(RO [] [] [0] [] [(0,.arr 3 (.int .i64) e)] 1 1).normal
def gA(c:Int):Option (Int):=some (qy c)
theorem lP(x:Int)(w:World)(hl:vo Tryz.prog w):Calls Tryz.prog 122 #[.int .u32 x] w fun e c=>e = .returned (.int .i64 (qy x))∧c=w:=by
 have f:w.cell? ⟨0,(bits BinOp.and u32 x (-x % 4294967296)*125613361 % 4294967296 / 134217728).toNat,none⟩=some (.int .u8 (K6.getD (bits BinOp.and u32 x (-x % 4294967296)*125613361 % 4294967296 / 134217728).toNat 0)):=hl 0 (by kernel_rfl) _ (Ie _);go_enter Tryz.func122,Tryz.ntmps122;go_wp2
 ·rename_i h;go_ret
  exact⟨by rw[Hd h];rfl,rfl⟩
 rename_i h;go_ret
 exact⟨by rw[←Iz h,List.getD_eq_getElem?_getD];rfl,rfl⟩
theorem m7{e c:Int}(h:gA e=some c):
  Pure Tryz.prog 122 [.u32 e] (aJ (bc false [⟨(.int .i64),c⟩])):=by
 obtain rfl:=sI h;exact Pure.NA Tryz.func122 (by kernel_rfl) rfl (fun w=>lP _ w)
def dh(f:Option Z6)(j:QK):(QK×QK×Bool×Int)→Option ((QK×QK×Bool×Int)⊕Z9):=fun(v10,v11,p,c) =>
 (if(decide (c<(j.length:Int)))=true then(if 0≤c∧c<(j.length:Int)then(((if(decide ((j.getD c.toNat 0)<0))=true then some (true)
 else(if f.isSome=true then some ((decide ((j.getD c.toNat 0)≥(((f.getD (Ty.zero m5)).1.1).length:Int))))else none))).bind fun q=>(((if q=true then some (0)
 else some ((j.getD c.toNat 0)))).bind fun e=>(((if p=true then(if f.isSome=true then(if 0≤e then some (((bitsOf .and .u32 (Int.fdiv ((f.getD (Ty.zero m5)).1.2.1) (2 ^ (min e.toNat u32.bits))) (1:Int)) == 1))else none)else none)
 else some (false))).bind fun u=>(if u=true then some (Sum.inl (v10,v11,p,(i64.wrap (c+1))))
 else(if f.isSome=true then(if 0≤e then(if(v10.length+([c]:QK).length)*8≤140737488355328∧v10.length+([c]:QK).length≤9223372036854775807 then(if f.isSome=true then(if 0≤e∧e<(((f.getD (Ty.zero m5)).1.2.2.2.1).length:Int)then(if(v11.length+([(((f.getD (Ty.zero m5)).1.2.2.2.1).getD e.toNat 0)]:QK).length)*8≤140737488355328∧v11.length+([(((f.getD (Ty.zero m5)).1.2.2.2.1).getD e.toNat 0)]:QK).length≤9223372036854775807 then some (Sum.inl ((v10++([c]:QK)),(v11++([(((f.getD (Ty.zero m5)).1.2.2.2.1).getD e.toNat 0)]:QK)),((bitsOf .and .u32 (Int.fdiv ((f.getD (Ty.zero m5)).1.2.2.1) (2 ^ (min e.toNat u32.bits))) (1:Int)) == 1),(i64.wrap (c+1))))else none)else none)else none)else none)else none)else none)))))else none)
 else some (Sum.inr (v10,v11)))
def dr(j:Option Z6)(e q u:QK):vR→Option (vR⊕QK):=fun(f,c) =>
 (if(decide (c<(e.length:Int)))=true then(if j.isSome=true then(if 0≤c∧c<(q.length:Int)then(if 0≤(q.getD c.toNat 0)∧(q.getD c.toNat 0)<(((j.getD (Ty.zero m5)).2.1.2).length:Int)then(if j.isSome=true then(if 0≤(i64.wrap ((e.length:Int) - c))∧(i64.wrap ((e.length:Int) - c))<(u.length:Int)then(if 0≤(u.getD ((i64.wrap ((e.length:Int) - c)).toNat) 0)∧(u.getD ((i64.wrap ((e.length:Int) - c)).toNat) 0)<(((j.getD (Ty.zero m5)).2.2.2).length:Int)then(if 0≤c∧c<(e.length:Int)then(if c.toNat<e.length then(if 0≤(e.getD c.toNat 0)∧(e.getD c.toNat 0)<(f.length:Int)then(if(e.getD c.toNat 0).toNat<f.length then(((if((bitsOf .and .u32 (((j.getD (Ty.zero m5)).2.1.2).getD ((q.getD c.toNat 0).toNat) 0) (((j.getD (Ty.zero m5)).2.2.2).getD ((u.getD ((i64.wrap ((e.length:Int) - c)).toNat) 0).toNat) 0)) != 0)=true then(if 0≤c∧c<(e.length:Int)then(if c.toNat<e.length then(if j.isSome=true then((gA (bitsOf .and .u32 (((j.getD (Ty.zero m5)).2.1.2).getD ((q.getD c.toNat 0).toNat) 0) (((j.getD (Ty.zero m5)).2.2.2).getD ((u.getD ((i64.wrap ((e.length:Int) - c)).toNat) 0).toNat) 0))).bind fun p =>
 (if 0≤p∧p<(((j.getD (Ty.zero m5)).1.2.2.2.2).length:Int)then(if 0≤(e.getD c.toNat 0)∧(e.getD c.toNat 0)<((f.set ((e.getD c.toNat 0).toNat) 1).length:Int)then(if(e.getD c.toNat 0).toNat<(f.set ((e.getD c.toNat 0).toNat) 1).length then some (((f.set ((e.getD c.toNat 0).toNat) 1).set ((e.getD c.toNat 0).toNat) ((((j.getD (Ty.zero m5)).1.2.2.2.2).getD p.toNat (0,(Tree.node 0 0 []),(Tree.node 0 0 []))).1)))else none)else none)else none))else none)else none)else none)
 else some ((f.set ((e.getD c.toNat 0).toNat) 1)))).bind fun x=>some (Sum.inl (x,(i64.wrap (c+1)))))else none)else none)else none)else none)else none)else none)else none)else none)else none)else none)
 else some (Sum.inr f))
def eD(e:Option Z6)(c:QK):Option QK :=
 (if 0≤(i64.wrap ((c.length:Int)+1))∧(i64.wrap ((c.length:Int)+1))≤(i64.wrap ((c.length:Int)+1))∧1*(i64.wrap ((c.length:Int)+1))≤281474976710656∧(i64.wrap ((c.length:Int)+1))≤9223372036854775807 then(if 0≤(c.length:Int)∧(c.length:Int)<((List.replicate (i64.wrap ((c.length:Int)+1)).toNat (0:Int)).length:Int)then(if(c.length:Int).toNat<(List.replicate (i64.wrap ((c.length:Int)+1)).toNat (0:Int)).length then(if e.isNone=true then some ((List.replicate (i64.wrap ((c.length:Int)+1)).toNat (0:Int)).set ((c.length:Int).toNat) 2)
 else((iter (dh e c) (([]:QK),([]:QK),false,0)).bind fun(j,f)=>(if e.isSome=true then((nf ((e.getD (Ty.zero m5)).2.1.1) ((e.getD (Ty.zero m5)).2.1.2) f).bind fun q =>
 ((cb f).bind fun u =>
 (if e.isSome=true then((nf ((e.getD (Ty.zero m5)).2.2.1) ((e.getD (Ty.zero m5)).2.2.2) u).bind fun v =>
 ((iter (dr e j q v) (((List.replicate (i64.wrap ((c.length:Int)+1)).toNat (0:Int)).set ((c.length:Int).toNat) 2),1)).bind fun p=>some p))else none)))else none)))else none)else none)else none)
theorem lJ(c x:Bool){A:Option Z6}{f L:QK}(h:eD A f=some L):
  Pure Tryz.prog 84 [.p c (.ptr m5) A,.p x (.slice (.int .i64)) f] (aJ (bc false [⟨(.slice (.int .u8)),L⟩])):=by
 refine PB Tryz.func84 (fun Bw w0=>?_);unfold eD at h;refine G (GC 3 h (fun h=>?_));obtain⟨c5,c6,h⟩:=g2 h;refine GN a0 [(3,3,oc c5),(4,4,oc c6)] (af (GN a0 [(1,1,⟨∃e,Tryz.prog.underlying 97=some (.pointer e),⟨_,rfl⟩⟩)] (aC h (fun B1 h=>?_) (fun B1 h=>?_))))
 ·refine G (au (ah ?_));obtain rfl:=sI h;exact RI [(.slice (.int .u8))]
 refine ae (ab (G (G (af (G (ak (cw h (fun(v10,v11,z,j)=>aA [(0,.p c (.ptr m5) A),(5,.sl 0),(6,.sl 1),(7,.sl 2),(8,.bo z),(26,.p x (.slice (.int .i64)) f),(27,.i64 (f.length:Int)),(28,.i64 j)] (JC ((List.replicate (i64.wrap ((f.length:Int)+1)).toNat (0:Int)).set ((f.length:Int).toNat) 2) v10 v11) 3) 0 (fun(B,M)=>aA [(0,.p c (.ptr m5) A),(5,.sl 0),(6,.sl 1),(7,.sl 2)] (JC ((List.replicate (i64.wrap ((f.length:Int)+1)).toNat (0:Int)).set ((f.length:Int).toNat) 2) B M) 3) (gg [.nilS 6 152 3 (.int .i64),.nilS 7 153 3 (.int .i64)] [32,152,153]) (fun y o h=>?_) (fun r1 h=>?_))))))))
 ·obtain⟨v10,v11,z,j⟩:=y;unfold dh at h;refine G (af (aC h (fun ax h=>?_) (fun ax h=>?_)))
  ·refine ae (ab (af (ak (GC 1 h (fun h=>af (af (bn h (fun D=>aA [(0,.p c (.ptr m5) A),(5,.sl 0),(6,.sl 1),(7,.sl 2),(8,.bo z),(9,.i64 j),(10,.i64 (f.getD j.toNat 0)),(26,.p x (.slice (.int .i64)) f),(27,.i64 (f.length:Int)),(28,.i64 j),(44,.bo D)] (JC ((List.replicate (i64.wrap ((f.length:Int)+1)).toNat (0:Int)).set ((f.length:Int).toNat) 2) v10 v11) 3) (fun D h=>?_) (fun D h=>?_))))))))
   ·rcases aI h with⟨v,h⟩ | ⟨v,h⟩
    ·exact bz ⟨[(2,true),(11,true)],[]⟩ [(3,11,oc v)] (eN h (gg [] [0,1,2]))
    obtain⟨b1,h⟩:=aE h;exact bz ⟨[(2,false),(11,false)],[]⟩ [(3,4,an v),(5,5,oc (And.intro v b1)),(6,10,an v),(11,11,oc v)] (eN h (gg [] [0,1,2]))
   refine ab (bn h (fun C=>aA [(0,.p c (.ptr m5) A),(5,.sl 0),(6,.sl 1),(7,.sl 2),(8,.bo z),(9,.i64 j),(10,.i64 C),(26,.p x (.slice (.int .i64)) f),(27,.i64 (f.length:Int)),(28,.i64 j)] (JC ((List.replicate (i64.wrap ((f.length:Int)+1)).toNat (0:Int)).set ((f.length:Int).toNat) 2) v10 v11) 3) (fun C h=>?_) (fun C h=>?_))
   ·refine aC h (fun b2 h=>?_) (fun b2 h=>?_)
    ·exact Ge (eN h (gg [] [0,1,2]))
    exact ae (eN h (gg [] [0,1,2]))
   refine ab (af (af (bn h (fun E=>aA [(0,.p c (.ptr m5) A),(5,.sl 0),(6,.sl 1),(7,.sl 2),(8,.bo z),(9,.i64 j),(10,.i64 C),(26,.p x (.slice (.int .i64)) f),(27,.i64 (f.length:Int)),(28,.i64 j),(56,.bo E)] (JC ((List.replicate (i64.wrap ((f.length:Int)+1)).toNat (0:Int)).set ((f.length:Int).toNat) 2) v10 v11) 3) (fun E h=>?_) (fun E h=>?_))))
   ·rcases aI h with⟨q,h⟩ | ⟨q,h⟩
    ·obtain⟨b3,b4,h⟩:=g2 h;exact bz ⟨[(1,true),(11,true)],[]⟩ [(2,2,an q),(3,3,oc (And.intro q b3)),(4,7,an q),(8,8,oc (And.intro q b4)),(9,10,an q),(11,11,oc q)] (eN h (gg [] [0,1,2]))
    exact bz ⟨[(1,false),(11,false)],[]⟩ [(2,11,oc q)] (eN h (gg [] [0,1,2]))
   refine ab (aC h (fun b5 h=>?_) (fun b5 h=>?_))
   ·refine aw (aQ (az (ab (Ge ?_))));exact eB h (gg [] [0,1,2])
   refine ae (ab ?_);obtain⟨b6,b7,h⟩:=g2 h;refine GN a0 [(1,1,oc b6),(6,6,oc b7)] ?_;obtain⟨b8,b9,be,bi,h⟩:=g4 h;refine kY a0 [(3,3,oc b8),(6,6,oc b9),(11,11,oc be),(14,14,oc bi)] (ay (ab (Ge ?_)));exact eB h (gg [] [0,107,195])
  refine aw (aQ ?_);exact eX h (gg [] [0,1,2])
 obtain⟨B,M⟩:=r1;refine az (ab ?_);obtain⟨bs,h⟩:=aE h;obtain⟨r3,q2,h⟩:=aj h;have u:=(vm c c true q2);refine GN ⟨[],[(5,(oP u))]⟩ [(1,1,oc bs),(5,5,oc u)] ?_;obtain⟨r5,q4,h⟩:=aj h;refine GO 1 [2] (kg q4) ?_;obtain⟨bv,h⟩:=aE h;obtain⟨r7,q6,h⟩:=aj h;have u:=(vm c c true q6);refine GN ⟨[],[(5,(oP u))]⟩ [(1,1,oc bv),(5,5,oc u)] (af (G (ak (cw h (fun(N,I)=>aA [(0,.p c (.ptr m5) A),(5,.sl 0),(6,.sl 1),(11,.p false (.slice (.int .i64)) r3),(12,.p false (.slice (.int .i64)) r7),(13,.i64 I)] [(0,.arr 126 (.int .u8) N),(1,.arr 3 (.int .i64) B)] 2) 2 (fun O=>aA [(5,.sl 0)] [(0,.arr 126 (.int .u8) O)] 1) (gg [] [0,1]) (fun y o h=>?_) (fun O h=>?_)))))
 ·obtain⟨N,I⟩:=y;unfold dr at h;refine af (G (aC h (fun bx h=>?_) (fun bx h=>?_)))
  ·refine ae (ab (af (ak ?_)));obtain⟨V,X,Y,Z,h⟩:=g4 h;obtain⟨a1,a2,h⟩:=g2 h;refine GD a0 [(1,1,oc V),(7,7,oc X),(9,9,oc Y),(12,12,oc Z),(21,21,oc a1),(23,23,oc a2)] ?_;obtain⟨a3,a4,a5,a6,h⟩:=g4 h;refine GN a0 [(3,3,oc a3),(4,4,oc a4),(5,5,oc a5),(6,6,oc a6)] (G (bn h (fun J=>aA [(0,.p c (.ptr m5) A),(5,.sl 0),(6,.sl 1),(11,.p false (.slice (.int .i64)) r3),(12,.p false (.slice (.int .i64)) r7),(13,.i64 I)] [(0,.arr 126 (.int .u8) J),(1,.arr 3 (.int .i64) B)] 2) (fun J h=>?_) (fun J h=>?_)))
   ·refine aC h (fun c1 h=>?_) (fun c1 h=>?_)
    ·obtain⟨a7,a8,a9,h⟩:=g3 h;obtain⟨c3,c2,h⟩:=aj h;obtain⟨aa,ac,ad,h⟩:=g3 h;have u:=(m7 c2);exact kY ⟨[],[(11,(oP u))]⟩ [(3,3,oc a7),(4,4,oc a8),(6,6,oc a9),(11,11,oc u),(12,12,oc aa),(15,15,oc ac),(16,16,oc ad)] (eN h (gg [] [0,1]))
    exact ae (eN h (gg [] [0,1]))
   refine ay (ab (Ge ?_));exact eB h (gg [] [0,1])
  refine aw (aQ ?_);exact eX h (gg [] [0])
 refine az (ab (G (au ?_)));obtain rfl:=sI h;exact RI [(.slice (.int .u8))]
def eo(c:Int)(e:Option Z3)(f:Int):Option (Bool) :=
 (if e.isSome=true then(if 0≤c∧c<(((e.getD (Ty.zero oF)).1).length:Int)then some (decide (((((e.getD (Ty.zero oF)).1).getD c.toNat (0,0,0)).2.1)≥f))else none)else none)
theorem mO(e:Bool){f:Int}{j:Option Z3}{q:Int}{c:Bool}(h:eo f j q=some c):
  Pure Tryz.prog 143 [.i64 f,.fad true [.p e (.ptr oF) j] 0,.fad true [.i32 q] 0] (aJ (bc false [⟨.bool,c⟩])):=by
 refine PB Tryz.func143 (fun Bw w0=>?_);unfold eo at h;refine G ?_;obtain⟨u,v,h⟩:=g2 h;refine GD a0 [(1,1,oc u),(5,5,oc v)] (au ?_);obtain rfl:=sI h;exact RI [.bool]
def qa(f:Option Z3)(j:Int):(Int×Int)→Option ((Int×Int)⊕(Int)):=fun(c,e) =>
 (if(decide (c<e))=true then(if 0≤(1:Int)then((eo (i64.wrap (Int.fdiv (u64.wrap (i64.wrap (c+e))) (2 ^ (min (1:Int).toNat u64.bits)))) f j).bind fun p =>
 (if(!p)=true then some (Sum.inl ((i64.wrap ((i64.wrap (Int.fdiv (u64.wrap (i64.wrap (c+e))) (2 ^ (min (1:Int).toNat u64.bits))))+1)),e))
 else some (Sum.inl (c,(i64.wrap (Int.fdiv (u64.wrap (i64.wrap (c+e))) (2 ^ (min (1:Int).toNat u64.bits))))))))else none)
 else some (Sum.inr c))
def qb(c:Int)(e:Option Z3)(f:Int):Option (Int) :=
 ((iter (qa e f) (0,c)).bind fun j=>some j)
theorem wL(c:Bool){q:Int}{f:Option Z3}{j e:Int}(h:qb q f j=some e):
  Pure Tryz.prog 92 [.i64 q,.fn 143 [.fad true [.p c (.ptr oF) f] 0,.fad true [.i32 j] 0]] (aJ (bc false [⟨(.int .i64),e⟩])):=by
 refine PB Tryz.func92 (fun Bw w0=>?_);unfold qb at h;refine G (G (af (ak (cw h (fun(u,v)=>aA [(1,.fn 143 [.fad true [.p c (.ptr oF) f] 0,.fad true [.i32 j] 0]),(5,.i64 u),(6,.i64 v)] [] 0) 0 (fun x=>aA [(5,.i64 x)] [] 0) (gg [] []) (fun y o h=>?_) (fun x h=>?_)))))
 ·obtain⟨u,v⟩:=y;unfold qa at h;refine af (G (aC h (fun z h=>?_) (fun z h=>?_)))
  ·refine ae (ab (ak (GC 4 h (fun h=>?_))));obtain⟨C,A,h⟩:=aj h;refine GP 2 (mO c A) (aC h (fun B h=>?_) (fun B h=>?_))
   ·refine Ge (ay ?_);exact eB h (gg [] [])
   refine Ge (ay ?_);exact eB h (gg [] [])
  refine aw (aQ ?_);exact eX h (gg [] [])
 refine az (ab (G (au ?_)));obtain rfl:=sI h;exact RI [(.int .i64)]
def dO(c:Option Z3)(f:Int):Option (Int×Bool) :=
 (if c.isNone=true then some (0,false)
 else(if c.isSome=true then((qb (((c.getD (Ty.zero oF)).1).length:Int) c f).bind fun e =>
 (((if c.isSome=true then(if(e == (((c.getD (Ty.zero oF)).1).length:Int))=true then some (true)
 else(if c.isSome=true then(if 0≤e∧e<(((c.getD (Ty.zero oF)).1).length:Int)then some ((decide (((((c.getD (Ty.zero oF)).1).getD e.toNat (0,0,0)).1) > f)))else none)else none))else none)).bind fun v1=>(if v1=true then some (0,false)
 else(if c.isSome=true then(if 0≤e∧e<(((c.getD (Ty.zero oF)).1).length:Int)then(if c.isSome=true then(if 0≤e∧e<(((c.getD (Ty.zero oF)).1).length:Int)then some ((i32.wrap ((i32.wrap ((i32.wrap ((((c.getD (Ty.zero oF)).1).getD e.toNat (0,0,0)).2.2))+f)) - ((((c.getD (Ty.zero oF)).1).getD e.toNat (0,0,0)).1))),true)else none)else none)else none)else none))))else none))
theorem oK(f:Bool){u:Option Z3}{v:Int}{j:Int×Bool}(h:dO u v=some j):
  Pure Tryz.prog 124 [.p f (.ptr oF) u,.i32 v] (aJ (bc false [⟨(.int .i32),j.1⟩,⟨.bool,j.2⟩])):=by
 refine PB Tryz.func124 (fun Bw w0=>?_);unfold dO at h;refine G (af (GN a0 [(1,1,⟨∃e,Tryz.prog.underlying 99=some (.pointer e),⟨_,rfl⟩⟩)] (aC h (fun I h=>?_) (fun I h=>?_))))
 ·refine G (au (ah ?_));obtain rfl:=sI h;exact RI [(.int .i32),.bool]
 refine ae (ab ?_);obtain⟨J,h⟩:=aE h;obtain⟨L,M,h⟩:=aj h;have q:=(wL f M);refine GN ⟨[],[(6,(oP q))]⟩ [(1,1,oc J),(6,6,oc q)] (af (af (bn h (fun v1=>aA [(2,.adr 0 0 1 0),(3,.adr 1 0 1 0),(6,.i64 L),(34,.bo v1)] [(0,.box [.p f (.ptr oF) u]),(1,.box [.i32 v])] 2) (fun v1 h=>?_) (fun v1 h=>?_))))
 ·obtain⟨E,h⟩:=aE h;rcases aI h with⟨c,h⟩ | ⟨c,h⟩
  ·exact kY ⟨[(7,true),(18,true)],[]⟩ [(2,2,oc E),(8,18,oc c)] (eN h (gg [] [0,8]))
  obtain⟨x,z,h⟩:=g2 h;exact kY ⟨[(7,false),(18,false)],[]⟩ [(2,2,oc E),(8,8,an c),(9,9,oc (And.intro c x)),(10,12,an c),(13,13,oc (And.intro c z)),(14,17,an c),(18,18,oc c)] (eN h (gg [] [0,8]))
 refine ab (aC h (fun N h=>?_) (fun N h=>?_))
 ·refine G (au (ah ?_));obtain rfl:=sI h;exact RI [(.int .i32),.bool]
 refine ae (ab ?_);obtain⟨A,B,C,D,h⟩:=g4 h;refine GD a0 [(1,1,oc A),(5,5,oc B),(12,12,oc C),(16,16,oc D)] (au ?_);obtain rfl:=sI h;exact RI [(.int .i32),.bool]
def kA(u:Option Ia)(f j:Int):vR→Option (vR⊕QK):=fun(e,c) =>
 (if(decide (c<(((((u.getD (Ty.zero uN)).1).getD j.toNat ([],([]:QK))).2).length:Int)))=true then(if 0≤c∧c<(((((u.getD (Ty.zero uN)).1).getD j.toNat ([],([]:QK))).2).length:Int)then(((if(decide ((i64.wrap ((i64.wrap (f+c)) - 1))≥0))=true then some ((decide ((i64.wrap ((i64.wrap (f+c)) - 1))<(e.length:Int))))
 else some (false))).bind fun p=>(((if p=true then(if 0≤(i64.wrap ((i64.wrap (f+c)) - 1))∧(i64.wrap ((i64.wrap (f+c)) - 1))<(e.length:Int)then(if(i64.wrap ((i64.wrap (f+c)) - 1)).toNat<e.length then(if 0≤(i64.wrap ((i64.wrap (f+c)) - 1))∧(i64.wrap ((i64.wrap (f+c)) - 1))<(e.length:Int)then(if(i64.wrap ((i64.wrap (f+c)) - 1)).toNat<e.length then some ((e.set ((i64.wrap ((i64.wrap (f+c)) - 1)).toNat) (max (e.getD ((i64.wrap ((i64.wrap (f+c)) - 1)).toNat) 0) (((((u.getD (Ty.zero uN)).1).getD j.toNat ([],([]:QK))).2).getD c.toNat 0))))else none)else none)else none)else none)
 else some (e))).bind fun q=>some (Sum.inl (q,(i64.wrap (c+1))))))else none)
 else some (Sum.inr e))
def kE(j:Option Ia)(p:QK)(u:Int):(QK×Int×Int)→Option ((QK×Int×Int)⊕QK):=fun(q,c,e) =>
 (if j.isSome=true then(if 0≤c∧c<(((j.getD (Ty.zero uN)).1).length:Int)then((iter (kA j u c) (q,0)).bind fun f=>(if(e == (((([46]:QK)++p)++([46]:QK)).length:Int))=true then some (Sum.inr f)
 else(if j.isSome=true then(if 0≤c∧c<(((j.getD (Ty.zero uN)).1).length:Int)then(if 0≤e∧e<(((([46]:QK)++p)++([46]:QK)).length:Int)then(if e.toNat<((([46]:QK)++p)++([46]:QK)).length then(if(!((aU (α:=Int) (.int .i32) ((((j.getD (Ty.zero uN)).1).getD c.toNat ([],([]:QK))).1) (((([46]:QK)++p)++([46]:QK)).getD e.toNat 0)).isSome))=true then some (Sum.inr f)
 else some (Sum.inl (f,((aU (α:=Int) (.int .i32) ((((j.getD (Ty.zero uN)).1).getD c.toNat ([],([]:QK))).1) (((([46]:QK)++p)++([46]:QK)).getD e.toNat 0)).getD 0),(i64.wrap (e+1)))))else none)else none)else none)else none)))else none)else none)
def kF(p:Option Ia)(j:QK):vR→Option (vR⊕QK):=fun(e,c) =>
 (if(decide (c<(((([46]:QK)++j)++([46]:QK)).length:Int)))=true then((iter (kE p j c) (e,0,c)).bind fun f=>some (Sum.inl (f,(i64.wrap (c+1)))))
 else some (Sum.inr e))
def fk(f:Option Ia)(c:QK):Option QK :=
 (if 0≤(i64.wrap ((c.length:Int)+1))∧(i64.wrap ((c.length:Int)+1))≤(i64.wrap ((c.length:Int)+1))∧1*(i64.wrap ((c.length:Int)+1))≤281474976710656∧(i64.wrap ((c.length:Int)+1))≤9223372036854775807 then(if f.isNone=true then some (List.replicate (i64.wrap ((c.length:Int)+1)).toNat (0:Int))
 else(if(([46]:QK).length+c.length)*4≤140737488355328∧([46]:QK).length+c.length≤9223372036854775807 then(if((([46]:QK)++c).length+([46]:QK).length)*4≤140737488355328∧(([46]:QK)++c).length+([46]:QK).length≤9223372036854775807 then((iter (kF f c) ((List.replicate (i64.wrap ((c.length:Int)+1)).toNat (0:Int)),0)).bind fun e=>some e)else none)else none))else none)
theorem qw(j aa:Bool){v:Option Ia}{x J:QK}(h:fk v x=some J):
  Pure Tryz.prog 144 [.p j (.ptr uN) v,.p aa (.slice (.int .i32)) x] (aJ (bc false [⟨(.slice (.int .u8)),J⟩])):=by
 refine PB Tryz.func144 (fun Bw w0=>?_);unfold fk at h;refine G (GC 3 h (fun h=>af (GN a0 [(1,1,⟨∃e,Tryz.prog.underlying 166=some (.pointer e),⟨_,rfl⟩⟩)] (aC h (fun B1 h=>?_) (fun B1 h=>?_)))))
 ·refine G (au (ah ?_));obtain rfl:=sI h;exact RI [(.slice (.int .u8))]
 refine ae (ab ?_);obtain⟨c5,c6,h⟩:=g2 h;refine GN a0 [(2,2,oc c5),(4,4,oc c6)] (af (G (ak (cw h (fun(L,f)=>aA [(0,.p j (.ptr uN) v),(5,.sl 0),(6,.sl 1),(28,.i64 (((([46]:QK)++x)++([46]:QK)).length:Int)),(29,.i64 f)] [(0,.arr 5 (.int .u8) L),(1,.arr 21 (.int .i32) ((([46]:QK)++x)++([46]:QK)))] 2) 0 (fun M=>aA [(5,.sl 0)] [(0,.arr 5 (.int .u8) M)] 1) (gg [] [32,96]) (fun y o h=>?_) (fun M h=>?_)))))
 ·obtain⟨L,f⟩:=y;unfold kF at h;refine G (af (aC h (fun N h=>?_) (fun N h=>?_)))
  ·refine ae (ab (af (ak (G (G (G (ak (cw h (fun(D,c,q)=>aA [(0,.p j (.ptr uN) v),(5,.sl 0),(6,.sl 1),(7,.i64 f),(8,.i64 c),(9,.i64 q),(28,.i64 (((([46]:QK)++x)++([46]:QK)).length:Int)),(29,.i64 f)] [(0,.arr 5 (.int .u8) D),(1,.arr 21 (.int .i32) ((([46]:QK)++x)++([46]:QK)))] 2) 2 (fun E=>aA [(0,.p j (.ptr uN) v),(5,.sl 0),(6,.sl 1),(28,.i64 (((([46]:QK)++x)++([46]:QK)).length:Int)),(29,.i64 f)] [(0,.arr 5 (.int .u8) E),(1,.arr 21 (.int .i32) ((([46]:QK)++x)++([46]:QK)))] 2) (gg [] [0,1]) (fun y o h=>?_) (fun E h=>?_)))))))))
   ·obtain⟨D,c,q⟩:=y;unfold kE at h;refine af (ak (af ?_));obtain⟨O,V,h⟩:=g2 h;refine GN a0 [(1,1,oc O),(5,5,oc V)] (ak ?_);refine cw h (fun(A,u)=>aA [(0,.p j (.ptr uN) v),(5,.sl 0),(6,.sl 1),(7,.i64 f),(8,.i64 c),(9,.i64 q),(28,.i64 (((([46]:QK)++x)++([46]:QK)).length:Int)),(29,.i64 f),(42,.p j (.slice (.int .u8)) ((((v.getD (Ty.zero uN)).1).getD c.toNat ([],([]:QK))).2)),(43,.i64 (((((v.getD (Ty.zero uN)).1).getD c.toNat ([],([]:QK))).2).length:Int)),(44,.i64 u)] [(0,.arr 5 (.int .u8) A),(1,.arr 21 (.int .i32) ((([46]:QK)++x)++([46]:QK)))] 2) 4 (fun I=>aA [(0,.p j (.ptr uN) v),(5,.sl 0),(6,.sl 1),(7,.i64 f),(8,.i64 c),(9,.i64 q),(28,.i64 (((([46]:QK)++x)++([46]:QK)).length:Int)),(29,.i64 f)] [(0,.arr 5 (.int .u8) I),(1,.arr 21 (.int .i32) ((([46]:QK)++x)++([46]:QK)))] 2) (gg [] [0,1]) (fun y o h=>?_) (fun I h=>?_)
    ·obtain⟨A,u⟩:=y;unfold kA at h;refine G (af (aC h (fun X h=>?_) (fun X h=>?_)))
     ·refine ae (ab (af (ak (GC 1 h (fun h=>G (af ?_))))));refine bn h (fun B=>aA [(0,.p j (.ptr uN) v),(5,.sl 0),(6,.sl 1),(7,.i64 f),(8,.i64 c),(9,.i64 q),(11,.u8 (((((v.getD (Ty.zero uN)).1).getD c.toNat ([],([]:QK))).2).getD u.toNat 0)),(12,.i64 (i64.wrap ((i64.wrap (f+u)) - 1))),(28,.i64 (((([46]:QK)++x)++([46]:QK)).length:Int)),(29,.i64 f),(42,.p j (.slice (.int .u8)) ((((v.getD (Ty.zero uN)).1).getD c.toNat ([],([]:QK))).2)),(43,.i64 (((((v.getD (Ty.zero uN)).1).getD c.toNat ([],([]:QK))).2).length:Int)),(44,.i64 u),(60,.bo B)] [(0,.arr 5 (.int .u8) A),(1,.arr 21 (.int .i32) ((([46]:QK)++x)++([46]:QK)))] 2) (fun B h=>?_) (fun B h=>?_)
      ·rcases aI h with⟨z,h⟩ | ⟨z,h⟩
       ·exact bz ⟨[(2,true),(7,true)],[]⟩ [(3,6,an z),(7,7,oc z)] (eN h (gg [] [0,1]))
       exact bz ⟨[(2,false),(7,false)],[]⟩ [(3,7,oc z)] (eN h (gg [] [0,1]))
      refine ab (bn h (fun C=>aA [(0,.p j (.ptr uN) v),(5,.sl 0),(6,.sl 1),(7,.i64 f),(8,.i64 c),(9,.i64 q),(28,.i64 (((([46]:QK)++x)++([46]:QK)).length:Int)),(29,.i64 f),(42,.p j (.slice (.int .u8)) ((((v.getD (Ty.zero uN)).1).getD c.toNat ([],([]:QK))).2)),(43,.i64 (((((v.getD (Ty.zero uN)).1).getD c.toNat ([],([]:QK))).2).length:Int)),(44,.i64 u)] [(0,.arr 5 (.int .u8) C),(1,.arr 21 (.int .i32) ((([46]:QK)++x)++([46]:QK)))] 2) (fun C h=>?_) (fun C h=>?_))
      ·refine aC h (fun Y h=>?_) (fun Y h=>?_)
       ·obtain⟨Z,a1,a2,a3,h⟩:=g4 h;exact bz a0 [(4,4,oc Z),(5,5,oc a1),(8,8,oc a2),(9,9,oc a3)] (eN h (gg [] [0,1]))
       exact ae (eN h (gg [] [0,1]))
      refine ay (ab (Ge ?_));exact eB h (gg [] [0,1])
     refine aw (aQ ?_);exact eX h (gg [] [0,1])
    refine az (ab (af (G (aC h (fun a4 h=>?_) (fun a4 h=>?_)))))
    ·refine aw (aQ (jz rfl (aQ ?_)));exact eX h (gg [] [0,1])
    refine ae (ab ?_);obtain⟨a5,a6,a7,a8,h⟩:=g4 h;refine GD a0 [(1,1,oc a5),(5,5,oc a6),(10,10,oc a7),(11,11,oc a8)] (af (G (aC h (fun a9 h=>?_) (fun a9 h=>?_))))
    ·refine aw (aQ (jz rfl (aQ ?_)));exact eX h (gg [] [0,1])
    refine ae (ab (Ge (ay (ab (Ge ?_)))));exact eB h (gg [] [0,1])
   refine az (ay (ab (Ge ?_)));exact eB h (gg [] [0,1])
  refine aw (aQ ?_);exact eX h (gg [] [0])
 refine az (ab (G (au ?_)));obtain rfl:=sI h;exact RI [(.slice (.int .u8))]
def gX(c _ e:QK):Option (Bool) :=
 ((cq c e).bind fun f =>
 some f)
theorem n5(c j e:Bool){q u v:QK}{f:Bool}(h:gX q u v=some f):
  Pure Tryz.prog 145 [.agg [.p c (.slice (.int .i32)) q,.p j (.slice (.int .u8)) u],.fad true [.p e (.slice (.int .i32)) v] 0] (aJ (bc false [⟨.bool,f⟩])):=by
 refine PB Tryz.func145 (fun Bw w0=>?_);unfold gX at h;refine G ?_;obtain⟨z,x,h⟩:=aj h;refine GP 3 (gq c e x) (au ?_);obtain rfl:=sI h;exact RI [.bool]
def mh(e:List Z9)(f:QK):(Int)→Option ((Int)⊕((Unit)⊕(Int))):=fun c =>
 (if(decide (c<(e.length:Int)))=true then(if 0≤c∧c<(e.length:Int)then((gX ((e.getD c.toNat ([],([]:QK))).1) ((e.getD c.toNat ([],([]:QK))).2) f).bind fun j =>
 (if j=true then some (Sum.inr (Sum.inr c))
 else some (Sum.inl (i64.wrap (c+1)))))else none)
 else some (Sum.inr (Sum.inl ())))
def iR(c:List Z9)(e:QK):Option (Int) :=
 ((iter (mh c e) (0:Int)).bind fun(f:((Unit)⊕(Int)))=>match f with
 | .inl _=>some (-1:Int)
 | .inr (j)=>some j)
theorem tv(c f:Bool){u:List Z9}{v:QK}{j:Int}(h:iR u v=some j):
  Pure Tryz.prog 118 [.p c (.slice rT) u,.fn 145 [.fad true [.p f (.slice (.int .i32)) v] 0]] (aJ (bc false [⟨(.int .i64),j⟩])):=by
 refine PB Tryz.func118 (fun Bw w0=>?_);unfold iR at h;refine G (af (G (ak (kj h (fun z=>aA [(0,.p c (.slice rT) u),(1,.fn 145 [.fad true [.p f (.slice (.int .i32)) v] 0]),(7,.i64 (u.length:Int)),(8,.i64 z)] [] 0) (dw (fc Tryz.f118.ntmps 0 (fun _=>aA [] [] 0)) (gm tb Tryz.f118.results.toList (fun A=>[⟨(.int .i64),A⟩]))) (gg [] []) (fun z o h=>?_) (fun C h e σ' B=>?_)))))
 ·unfold mh at h;refine G (af (aC h (fun D h=>?_) (fun D h=>?_)))
  ·refine ae (ab (af (ak (G ?_))));obtain⟨E,h⟩:=aE h;obtain⟨M,I,h⟩:=aj h;have q:=(n5 c c f I);refine GN ⟨[],[(5,(oP q))]⟩ [(3,3,oc E),(5,5,oc q)] (aC h (fun J h=>?_) (fun J h=>?_))
   ·refine G (au ?_);obtain rfl:=sI h;refine aB (ah (bG (aN ?_)));exact bH (RI [(.int .i64)])
   refine ae (ay (ab (Ge ?_)));exact eB h (gg [] [])
  refine aw (aQ ?_);obtain rfl:=sI h;refine dJ (bm ?_);exact bN (gg [] [])
 rcases C with _ | A
 ·obtain⟨rfl,x⟩:=B;refine cC ?_ x;refine az (ab (G (au ?_)));obtain rfl:=sI h;exact RI [(.int .i64)]
 obtain⟨rfl,L⟩:=B;refine aB (ah ?_);obtain rfl:=sI h;exact L
def gz(p:Option Z3)(j c:QK):((List Bool)×Int)→Option (((List Bool)×Int)⊕(List Bool)):=fun(e,f) =>
 (if p.isSome=true then(if(decide (f≤(i64.wrap ((j.length:Int) - ((p.getD (Ty.zero oF)).2.2.2.2)))))=true then(if 0≤f∧f<(c.length:Int)then(if ¬(2:Int)=0 then(if 0≤f∧f<(e.length:Int)then(if f.toNat<e.length then some (Sum.inl ((e.set f.toNat ((Int.tmod (c.getD f.toNat 0) (2:Int)) == 1)),(i64.wrap (f+1))))else none)else none)else none)else none)
 else some (Sum.inr e))else none)
def eK(e:Option Z3)(c:QK):Option (List Bool) :=
 (if 0≤(i64.wrap ((c.length:Int)+1))∧(i64.wrap ((c.length:Int)+1))≤(i64.wrap ((c.length:Int)+1))∧1*(i64.wrap ((c.length:Int)+1))≤281474976710656∧(i64.wrap ((c.length:Int)+1))≤9223372036854775807 then(if e.isNone=true then some (List.replicate (i64.wrap ((c.length:Int)+1)).toNat false)
 else(if e.isSome=true then((fk ((e.getD (Ty.zero oF)).2.1) c).bind fun q =>
 (if e.isSome=true then((iR ((e.getD (Ty.zero oF)).2.2.1) c).bind fun p =>
 (((if(decide (p≥0))=true then(if e.isSome=true then(if 0≤p∧p<(((e.getD (Ty.zero oF)).2.2.1).length:Int)then some ((((e.getD (Ty.zero oF)).2.2.1).getD p.toNat ([],([]:QK))).2)else none)else none)
 else some (q))).bind fun f=>(if e.isSome=true then((iter (gz e c f) ((List.replicate (i64.wrap ((c.length:Int)+1)).toNat false),(e.getD (Ty.zero oF)).2.2.2.1)).bind fun j=>some j)else none)))else none))else none))else none)
theorem pJ(j:Bool){z:Option Z3}{f:QK}{x:List Bool}(h:eK z f=some x):
  Pure Tryz.prog 125 [.p false (.ptr oF) z,.p j (.slice (.int .i32)) f] (aJ (bc false [⟨(.slice .bool),x⟩])):=by
 refine PB Tryz.func125 (fun Bw w0=>?_);unfold eK at h;refine G (GC 3 h (fun h=>af (GN a0 [(1,1,⟨∃e,Tryz.prog.underlying 99=some (.pointer e),⟨_,rfl⟩⟩)] (aC h (fun M h=>?_) (fun M h=>?_)))))
 ·refine G (au (ah ?_));obtain rfl:=sI h;exact RI [(.slice .bool)]
 refine ae (ab ?_);obtain⟨N,h⟩:=aE h;obtain⟨r2,O,h⟩:=aj h;have q:=(qw false j O);refine GD ⟨[],[(5,(oP q))]⟩ [(1,1,oc N),(5,5,oc q)] (af ?_);obtain⟨V,h⟩:=aE h;obtain⟨r4,X,h⟩:=aj h;have q:=(tv false j X);refine GN ⟨[],[(5,(oP q))]⟩ [(1,1,oc V),(5,5,oc q)] (G (bn h (fun c=>aA [(0,.p false (.ptr oF) z),(3,.adr 0 0 1 0),(5,.sl 1),(6,.p false (.slice (.int .u8)) c)] (ML j f (List.replicate (i64.wrap ((f.length:Int)+1)).toNat false)) 2) (fun c h=>?_) (fun c h=>?_)))
 ·refine aC h (fun Y h=>?_) (fun Y h=>?_)
  ·obtain⟨A,B,h⟩:=g2 h;exact bz a0 [(1,1,oc A),(5,5,oc B)] (eN h (gg [] [0,40]))
  exact ae (eN h (gg [] [0,40]))
 refine ab (af (GC 1 h (fun h=>ak (cw h (fun(u,L)=>aA [(0,.p false (.ptr oF) z),(3,.adr 0 0 1 0),(5,.sl 1),(6,.p false (.slice (.int .u8)) c),(8,.i64 L)] (ML j f u) 2) 0 (fun v=>aA [(5,.sl 0)] [(0,.arr 4 .bool v)] 1) (gg [] [0,1]) (fun y o h=>?_) (fun v h=>?_)))))
 ·obtain⟨u,L⟩:=y;unfold gz at h;refine af ?_;obtain⟨C,h⟩:=aE h;refine GD a0 [(4,4,oc C)] (aC h (fun Z h=>?_) (fun Z h=>?_))
  ·refine ae (ab (af (ak ?_)));obtain⟨D,E,I,J,h⟩:=g4 h;refine bz a0 [(4,4,oc D),(6,6,oc E),(8,8,oc I),(9,9,oc J)] (ay (ab (Ge ?_)));exact eB h (gg [] [0,1])
  refine aw (aQ ?_);exact eX h (gg [] [1])
 refine az (ab (G (au ?_)));obtain rfl:=sI h;exact RI [(.slice .bool)]
def jf(q:Option Z3)(j:XZ):(Int×QK)→Option ((Int×QK)⊕(Int×QK)):=fun(e,c) =>
 (if(decide (e<(j.length:Int)))=true then(if 0≤e∧e<(j.length:Int)then((dO q ((j.getD e.toNat (0,0,0)).1)).bind fun(f,p) =>
 (if(!p)=true then some (Sum.inr (e,c))
 else(if(c.length+([f]:QK).length)*4≤140737488355328∧c.length+([f]:QK).length≤9223372036854775807 then some (Sum.inl ((i64.wrap (e+1)),(c++([f]:QK))))else none)))else none)
 else some (Sum.inr (e,c)))
def je(p:Option Z3)(q:XZ):((List Bool)×Int)→Option (((List Bool)×Int)⊕(List Bool)):=fun(e,i8) =>
 (if(decide (i8<(q.length:Int)))=true then((iter (jf p q) (i8,([]:QK))).bind fun(j,c)=>(if 0≤i8∧i8≤(e.length:Int)then((eK p c).bind fun f =>
 (if 0≤(0:Int)∧0≤(c.length:Int)∧(c.length:Int)≤(f.length:Int)then some (Sum.inl ((e.take i8.toNat++(((f.take (c.length:Int).toNat).drop (0:Int).toNat).take (e.length - i8.toNat)++e.drop (i8.toNat+((f.take (c.length:Int).toNat).drop (0:Int).toNat).length))),(i64.wrap (j+1))))else none))else none))
 else some (Sum.inr e))
def dM(f:Option Z3)(c:XZ):Option (List Bool) :=
 (if 0≤(i64.wrap ((c.length:Int)+1))∧(i64.wrap ((c.length:Int)+1))≤(i64.wrap ((c.length:Int)+1))∧1*(i64.wrap ((c.length:Int)+1))≤281474976710656∧(i64.wrap ((c.length:Int)+1))≤9223372036854775807 then((iter (je f c) ((List.replicate (i64.wrap ((c.length:Int)+1)).toNat false),0)).bind fun e=>some e)else none)
theorem nX(q:Bool){u:Option Z3}{x:XZ}{z:List Bool}(h:dM u x=some z):
  Pure Tryz.prog 86 [.p false (.ptr oF) u,.p q (.slice (.prod (.int .i32) Y2)) x] (aJ (bc false [⟨(.slice .bool),z⟩])):=by
 refine PB Tryz.func86 (fun Bw w0=>?_);unfold dM at h;refine G (GC 3 h (fun h=>G (af (G (ak (cw h (fun(c,i8)=>aA [(0,.p false (.ptr oF) u),(1,.p q (.slice (.prod (.int .i32) Y2)) x),(5,.sl 0),(6,.bfn 124 [.p false (.ptr oF) u]),(7,.i64 i8)] [(0,.arr 4 .bool c)] 1) 0 (fun v=>aA [(5,.sl 0)] [(0,.arr 4 .bool v)] 1) (gg [] [32]) (fun y o h=>?_) (fun v h=>?_)))))))
 ·obtain⟨c,i8⟩:=y;unfold je at h;refine af (G (aC h (fun C h=>?_) (fun C h=>?_)))
  ·refine ae (ab (af (ak (G (G (af (ak (cw h (fun(A,e)=>aA [(0,.p false (.ptr oF) u),(1,.p q (.slice (.prod (.int .i32) Y2)) x),(5,.sl 0),(6,.bfn 124 [.p false (.ptr oF) u]),(7,.i64 A),(8,.sl 1),(9,.i64 i8)] [(0,.arr 4 .bool c),(1,.arr 21 (.int .i32) e)] 2) 2 (fun(B,f)=>aA [(0,.p false (.ptr oF) u),(1,.p q (.slice (.prod (.int .i32) Y2)) x),(5,.sl 0),(6,.bfn 124 [.p false (.ptr oF) u]),(7,.i64 B),(8,.sl 1),(9,.i64 i8)] [(0,.arr 4 .bool c),(1,.arr 21 (.int .i32) f)] 2) (gg [.nilS 8 57 21 (.int .i32)] [0,57]) (fun y o h=>?_) (fun D h=>?_)))))))))
   ·obtain⟨A,e⟩:=y;unfold jf at h;refine af (G (aC h (fun E h=>?_) (fun E h=>?_)))
    ·refine ae (ab (af (ak ?_)));obtain⟨I,h⟩:=aE h;obtain⟨⟨V,X⟩,J,h⟩:=aj h;have j:=(oK false J);refine GN ⟨[],[(6,(oP j))]⟩ [(3,3,oc I),(6,6,oc j)] (af (G (aC h (fun L h=>?_) (fun L h=>?_))))
     ·refine aw (aQ (jz rfl (aQ ?_)));exact eX h (gg [] [0,1])
     refine ae (ab (xg 3 h (fun h=>ay (ab (Ge ?_)))));exact eB h (gg [] [0,170])
    refine aw (aQ ?_);exact eX h (gg [] [0,1])
   obtain⟨B,f⟩:=D;refine az (ab ?_);obtain⟨M,h⟩:=aE h;obtain⟨Y,N,h⟩:=aj h;obtain⟨O,h⟩:=aE h;have j:=(pJ true N);refine kY ⟨[],[(5,(oP j))]⟩ [(2,2,oc M),(5,5,oc j),(8,8,oc O)] (ay (ab (Ge ?_)));exact eB h (gg [] [0])
  refine aw (aQ ?_);exact eX h (gg [] [0])
 refine az (ab (G (au ?_)));obtain rfl:=sI h;exact RI [(.slice .bool)]
def lV(c:Int):Option (Int) :=
 (if(c == 32)=true then some 1
 else(if(c == 9)=true then some 2
 else some 0))
theorem zc{e c:Int}(h:lV e=some c):
  Pure Tryz.prog 142 [.i32 e] (aJ (bc false [⟨(.int .u8),c⟩])):=by
 refine PB Tryz.func142 (fun Bw w0=>?_);unfold lV at h;refine G (af (G (ak (G (aC h (fun f h=>?_) (fun f h=>?_))))))
 ·refine G (au (aB (ah ?_)));obtain rfl:=sI h;exact RI [(.int .u8)]
 refine G (aC h (fun j h=>?_) (fun j h=>?_))
 ·refine G (au (aB (ah ?_)));obtain rfl:=sI h;exact RI [(.int .u8)]
 refine ae (ay (ab (G (au ?_))));obtain rfl:=sI h;exact RI [(.int .u8)]
def dz(j:XZ)(v:QK)(B:Option AR):(Qj×QK×Int)→Option ((Qj×QK×Int)⊕(Qj×QK)):=fun(p,q,e) =>
 (if(decide (e<(j.length:Int)))=true then(if 0≤e∧e<(j.length:Int)then(((if(e == 0)=true then some (true)
 else(if(decide (e<(v.length:Int)))=true then(if 0≤e∧e<(v.length:Int)then some (((v.getD e.toNat 0) != 0))else none)
 else some (false)))).bind fun z=>(((if z=true then((lV ((j.getD e.toNat (0,0,0)).1)).bind fun u =>
 (if(p.length+([((j.getD e.toNat (0,0,0)).2.1,0,0,u)]:Qj).length)*32≤140737488355328∧p.length+([((j.getD e.toNat (0,0,0)).2.1,0,0,u)]:Qj).length≤9223372036854775807 then(if(q.length+([e]:QK).length)*8≤140737488355328∧q.length+([e]:QK).length≤9223372036854775807 then some (((p++([((j.getD e.toNat (0,0,0)).2.1,0,0,u)]:Qj)),(q++([e]:QK))))else none)else none))
 else some ((p,q)))).bind fun(c,f)=>(if 0≤(i64.wrap ((c.length:Int) - 1))∧(i64.wrap ((c.length:Int) - 1))<(c.length:Int)then(if 0≤(i64.wrap ((f.length:Int) - 1))∧(i64.wrap ((f.length:Int) - 1))<(f.length:Int)then(if(i64.wrap ((f.length:Int) - 1)).toNat<f.length then(((if((f.getD ((i64.wrap ((f.length:Int) - 1)).toNat) 0) != e)=true then(if(i64.wrap ((c.length:Int) - 1)).toNat<c.length then some ((c.set ((i64.wrap ((c.length:Int) - 1)).toNat) ((c.getD ((i64.wrap ((c.length:Int) - 1)).toNat) (0,0,0,0)).1,(c.getD ((i64.wrap ((c.length:Int) - 1)).toNat) (0,0,0,0)).2.1,(c.getD ((i64.wrap ((c.length:Int) - 1)).toNat) (0,0,0,0)).2.2.1,0)))else none)
 else some (c))).bind fun v20=>(if(i64.wrap ((c.length:Int) - 1)).toNat<v20.length then(if(i64.wrap ((c.length:Int) - 1)).toNat<v20.length then(if(i64.wrap ((c.length:Int) - 1)).toNat<(v20.set ((i64.wrap ((c.length:Int) - 1)).toNat) ((v20.getD ((i64.wrap ((c.length:Int) - 1)).toNat) (0,0,0,0)).1,(i64.wrap (((v20.getD ((i64.wrap ((c.length:Int) - 1)).toNat) (0,0,0,0)).2.1)+((j.getD e.toNat (0,0,0)).2.2))),(v20.getD ((i64.wrap ((c.length:Int) - 1)).toNat) (0,0,0,0)).2.2.1,(v20.getD ((i64.wrap ((c.length:Int) - 1)).toNat) (0,0,0,0)).2.2.2)).length then((bh B ((j.getD e.toNat (0,0,0)).1)).bind fun A =>
 (if(i64.wrap ((c.length:Int) - 1)).toNat<(v20.set ((i64.wrap ((c.length:Int) - 1)).toNat) ((v20.getD ((i64.wrap ((c.length:Int) - 1)).toNat) (0,0,0,0)).1,(i64.wrap (((v20.getD ((i64.wrap ((c.length:Int) - 1)).toNat) (0,0,0,0)).2.1)+((j.getD e.toNat (0,0,0)).2.2))),(v20.getD ((i64.wrap ((c.length:Int) - 1)).toNat) (0,0,0,0)).2.2.1,(v20.getD ((i64.wrap ((c.length:Int) - 1)).toNat) (0,0,0,0)).2.2.2)).length then some (Sum.inl (((v20.set ((i64.wrap ((c.length:Int) - 1)).toNat) ((v20.getD ((i64.wrap ((c.length:Int) - 1)).toNat) (0,0,0,0)).1,(i64.wrap (((v20.getD ((i64.wrap ((c.length:Int) - 1)).toNat) (0,0,0,0)).2.1)+((j.getD e.toNat (0,0,0)).2.2))),(v20.getD ((i64.wrap ((c.length:Int) - 1)).toNat) (0,0,0,0)).2.2.1,(v20.getD ((i64.wrap ((c.length:Int) - 1)).toNat) (0,0,0,0)).2.2.2)).set ((i64.wrap ((c.length:Int) - 1)).toNat) (((v20.set ((i64.wrap ((c.length:Int) - 1)).toNat) ((v20.getD ((i64.wrap ((c.length:Int) - 1)).toNat) (0,0,0,0)).1,(i64.wrap (((v20.getD ((i64.wrap ((c.length:Int) - 1)).toNat) (0,0,0,0)).2.1)+((j.getD e.toNat (0,0,0)).2.2))),(v20.getD ((i64.wrap ((c.length:Int) - 1)).toNat) (0,0,0,0)).2.2.1,(v20.getD ((i64.wrap ((c.length:Int) - 1)).toNat) (0,0,0,0)).2.2.2)).getD ((i64.wrap ((c.length:Int) - 1)).toNat) (0,0,0,0)).1,((v20.set ((i64.wrap ((c.length:Int) - 1)).toNat) ((v20.getD ((i64.wrap ((c.length:Int) - 1)).toNat) (0,0,0,0)).1,(i64.wrap (((v20.getD ((i64.wrap ((c.length:Int) - 1)).toNat) (0,0,0,0)).2.1)+((j.getD e.toNat (0,0,0)).2.2))),(v20.getD ((i64.wrap ((c.length:Int) - 1)).toNat) (0,0,0,0)).2.2.1,(v20.getD ((i64.wrap ((c.length:Int) - 1)).toNat) (0,0,0,0)).2.2.2)).getD ((i64.wrap ((c.length:Int) - 1)).toNat) (0,0,0,0)).2.1,(max (((v20.set ((i64.wrap ((c.length:Int) - 1)).toNat) ((v20.getD ((i64.wrap ((c.length:Int) - 1)).toNat) (0,0,0,0)).1,(i64.wrap (((v20.getD ((i64.wrap ((c.length:Int) - 1)).toNat) (0,0,0,0)).2.1)+((j.getD e.toNat (0,0,0)).2.2))),(v20.getD ((i64.wrap ((c.length:Int) - 1)).toNat) (0,0,0,0)).2.2.1,(v20.getD ((i64.wrap ((c.length:Int) - 1)).toNat) (0,0,0,0)).2.2.2)).getD ((i64.wrap ((c.length:Int) - 1)).toNat) (0,0,0,0)).2.2.1) (min A 2)),((v20.set ((i64.wrap ((c.length:Int) - 1)).toNat) ((v20.getD ((i64.wrap ((c.length:Int) - 1)).toNat) (0,0,0,0)).1,(i64.wrap (((v20.getD ((i64.wrap ((c.length:Int) - 1)).toNat) (0,0,0,0)).2.1)+((j.getD e.toNat (0,0,0)).2.2))),(v20.getD ((i64.wrap ((c.length:Int) - 1)).toNat) (0,0,0,0)).2.2.1,(v20.getD ((i64.wrap ((c.length:Int) - 1)).toNat) (0,0,0,0)).2.2.2)).getD ((i64.wrap ((c.length:Int) - 1)).toNat) (0,0,0,0)).2.2.2)),f,(i64.wrap (e+1))))else none))else none)else none)else none))else none)else none)else none)))else none)
 else some (Sum.inr (p,q)))
def lz(e:XZ)(j:QK)(p:Option AR):Option (Qj×QK) :=
 ((iter (dz e j p) (([]:Qj),([]:QK),0)).bind fun(f,c)=>(if(c.length+([(e.length:Int)]:QK).length)*8≤140737488355328∧c.length+([(e.length:Int)]:QK).length≤9223372036854775807 then some (f,(c++([(e.length:Int)]:QK)))else none))
theorem yL(f v u:Bool){e:XZ}{I:QK}{J:Option AR}{z:Qj×QK}(h:lz e I J=some z):
  Pure Tryz.prog 119 [.p f (.slice (.prod (.int .i32) Y2)) e,.p v (.slice (.int .u8)) I,.p u (.ptr wC) J] (aJ (bc false [⟨(.slice Y9),z.1⟩,⟨(.slice (.int .i64)),z.2⟩])):=by
 refine PB Tryz.func119 (fun Bw w0=>?_);unfold lz at h;refine G (G (G (af (G (ak (cw h (fun(A,B,c)=>aA [(0,.p f (.slice (.prod (.int .i32) Y2)) e),(1,.p v (.slice (.int .u8)) I),(2,.p u (.ptr wC) J),(8,.sl 0),(9,.sl 1),(13,.p f (.slice (.prod (.int .i32) Y2)) e),(14,.i64 (e.length:Int)),(15,.i64 c)] [(0,.arr 185 Y9 A),(1,.arr 3 (.int .i64) B)] 2) 0 (fun(L,M)=>aA [(0,.p f (.slice (.prod (.int .i32) Y2)) e),(8,.sl 0),(9,.sl 1)] [(0,.arr 185 Y9 L),(1,.arr 3 (.int .i64) M)] 2) (gg [.nilS 8 56 185 Y9,.nilS 9 57 3 (.int .i64)] [56,57]) (fun y o h=>?_) (fun O h=>?_)))))))
 ·obtain⟨A,B,c⟩:=y;unfold dz at h;refine G (af (aC h (fun V h=>?_) (fun V h=>?_)))
  ·refine ae (ab (af (ak (GC 1 h (fun h=>af (af (bn h (fun C=>aA [(0,.p f (.slice (.prod (.int .i32) Y2)) e),(1,.p v (.slice (.int .u8)) I),(2,.p u (.ptr wC) J),(8,.sl 0),(9,.sl 1),(10,.i64 c),(11,.adr 2 0 3 0),(13,.p f (.slice (.prod (.int .i32) Y2)) e),(14,.i64 (e.length:Int)),(15,.i64 c),(34,.bo C)] (LS A B ((e.getD c.toNat (0,0,0)).1) ((e.getD c.toNat (0,0,0)).2.1) ((e.getD c.toNat (0,0,0)).2.2)) 3) (fun C h=>?_) (fun C h=>?_))))))))
   ·rcases aI h with⟨j,h⟩ | ⟨j,h⟩
    ·exact bz ⟨[(2,true),(14,true)],[]⟩ [(3,7,oc j),(13,14,oc j)] (eN h (gg [] [0,1,34]))
    rcases aI h with⟨q,h⟩ | ⟨q,h⟩
    ·obtain⟨X,h⟩:=aE h;exact bz ⟨[(2,false),(7,true),(13,true),(14,false)],[]⟩ [(3,7,an j),(8,9,an q),(10,10,oc (And.intro q X)),(11,12,an q),(13,13,oc (And.intro j q)),(14,14,oc j)] (eN h (gg [] [0,1,34]))
    exact bz ⟨[(2,false),(7,false),(13,false),(14,false)],[]⟩ [(3,7,an j),(8,12,oc q),(13,13,oc (And.intro j q)),(14,14,oc j)] (eN h (gg [] [0,1,34]))
   refine ab (bn h (fun(D,E)=>aA [(0,.p f (.slice (.prod (.int .i32) Y2)) e),(1,.p v (.slice (.int .u8)) I),(2,.p u (.ptr wC) J),(8,.sl 0),(9,.sl 1),(10,.i64 c),(11,.adr 2 0 3 0),(13,.p f (.slice (.prod (.int .i32) Y2)) e),(14,.i64 (e.length:Int)),(15,.i64 c)] (LS D E ((e.getD c.toNat (0,0,0)).1) ((e.getD c.toNat (0,0,0)).2.1) ((e.getD c.toNat (0,0,0)).2.2)) 3) (fun N h=>?_) (fun N h=>?_))
   ·refine aC h (fun Y h=>?_) (fun Y h=>?_)
    ·obtain⟨aa,Z,h⟩:=aj h;obtain⟨a1,h⟩:=aE h;have x:=(zc Z);refine GD ⟨[],[(5,(oP x))]⟩ [(5,5,oc x),(8,8,oc a1)] (xg 3 h (fun h=>?_));exact eN h (gg [] [67,107,2])
    exact ae (eN h (gg [] [0,1,2]))
   obtain⟨D,E⟩:=N;refine ab (GC 4 h (fun h=>af ?_));obtain⟨a2,a3,h⟩:=g2 h;refine GN a0 [(4,4,oc a2),(5,5,oc a3)] (bn h (fun v20=>aA [(0,.p f (.slice (.prod (.int .i32) Y2)) e),(1,.p v (.slice (.int .u8)) I),(2,.p u (.ptr wC) J),(8,.sl 0),(9,.sl 1),(11,.adr 2 0 3 0),(12,.adr 0 ((i64.wrap ((D.length:Int) - 1)).toNat) 4 0),(13,.p f (.slice (.prod (.int .i32) Y2)) e),(14,.i64 (e.length:Int)),(15,.i64 c)] (LS v20 E ((e.getD c.toNat (0,0,0)).1) ((e.getD c.toNat (0,0,0)).2.1) ((e.getD c.toNat (0,0,0)).2.2)) 3) (fun v20 h=>?_) (fun v20 h=>?_))
   ·refine aC h (fun a4 h=>?_) (fun a4 h=>?_)
    ·refine xg 3 h (fun h=>?_);exact eN h (gg [] [0,1,2])
    exact ae (eN h (gg [] [0,1,2]))
   refine ab ?_;obtain⟨a5,a6,h⟩:=g2 h;refine GD a0 [(3,3,oc a5),(9,9,oc a6)] ?_;obtain⟨a7,h⟩:=aE h;obtain⟨ac,a8,h⟩:=aj h;obtain⟨a9,h⟩:=aE h;have x:=(nk u a8);refine kY ⟨[],[(8,(oP x))]⟩ [(4,4,oc a7),(8,8,oc x),(13,13,oc a9)] (ay (ab (Ge ?_)));exact eB h (gg [] [0,1])
  refine aw (aQ ?_);exact eX h (gg [] [0,1])
 obtain⟨L,M⟩:=O;refine az (ab (GC 5 h (fun h=>au ?_)));obtain rfl:=sI h;exact RI [(.slice Y9),(.slice (.int .i64))]
def cr(v:XZ)(j:QK)(p:List Bool)(f:QK):vR→Option (vR⊕QK):=fun(e,c) =>
 (if(decide (c<(f.length:Int)))=true then(if 0≤c∧c<(f.length:Int)then(((if((f.getD c.toNat 0) == (v.length:Int))=true then(if(e.length+([2]:QK).length)*1≤140737488355328∧e.length+([2]:QK).length≤9223372036854775807 then some ((e++([2]:QK)))else none)
 else(((if((f.getD c.toNat 0) == 0)=true then some (true)
 else some ((decide ((f.getD c.toNat 0)≥(j.length:Int)))))).bind fun q=>(if q=true then(if(e.length+([0]:QK).length)*1≤140737488355328∧e.length+([0]:QK).length≤9223372036854775807 then some ((e++([0]:QK)))else none)
 else(((if 0≤(f.getD c.toNat 0)∧(f.getD c.toNat 0)<(j.length:Int)then(if((j.getD ((f.getD c.toNat 0).toNat) 0) == 0)=true then(if(decide ((f.getD c.toNat 0)<(p.length:Int)))=true then(if 0≤(f.getD c.toNat 0)∧(f.getD c.toNat 0)<(p.length:Int)then some ((p.getD ((f.getD c.toNat 0).toNat) false))else none)
 else some (false))
 else some (false))else none)).bind fun v20=>(if v20=true then(if(e.length+([3]:QK).length)*1≤140737488355328∧e.length+([3]:QK).length≤9223372036854775807 then some ((e++([3]:QK)))else none)
 else(if 0≤(f.getD c.toNat 0)∧(f.getD c.toNat 0)<(j.length:Int)then(if(e.length+([(j.getD ((f.getD c.toNat 0).toNat) 0)]:QK).length)*1≤140737488355328∧e.length+([(j.getD ((f.getD c.toNat 0).toNat) 0)]:QK).length≤9223372036854775807 then some ((e++([(j.getD ((f.getD c.toNat 0).toNat) 0)]:QK)))else none)else none))))))).bind fun u=>some (Sum.inl (u,(i64.wrap (c+1)))))else none)
 else some (Sum.inr e))
def gC(e:XZ)(f j:QK)(p:List Bool)(q:Option AR):Option (Qj×QK) :=
 ((lz e f q).bind fun(u,v) =>
 ((iter (cr e j p v) (([]:QK),0)).bind fun c=>some (u,c)))
theorem yS(e J q u L:Bool){D:XZ}{i1 E:QK}{I:List Bool}{x3:Option AR}{M:Qj×QK}(h:gC D i1 E I x3=some M):
  Pure Tryz.prog 83 [.p e (.slice (.prod (.int .i32) Y2)) D,.p J (.slice (.int .u8)) i1,.p q (.slice (.int .u8)) E,.p u (.slice .bool) I,.p L (.ptr wC) x3] (aJ (bc false [⟨lQ,M⟩])):=by
 refine PB Tryz.func83 (fun Bw w0=>?_);unfold gC at h;refine G ?_;obtain⟨⟨N,v⟩,q2,h⟩:=aj h;refine GP 3 (yL e J L q2) (G (af (G (ak (cw h (fun(x,c)=>aA [(0,.p e (.slice (.prod (.int .i32) Y2)) D),(2,.p q (.slice (.int .u8)) E),(3,.p u (.slice .bool) I),(10,.adr 0 0 2 0),(13,.adr 1 0 2 0),(25,.p false (.slice (.int .i64)) v),(26,.i64 (v.length:Int)),(27,.i64 c)] (Ix N x) 3) 0 (fun O=>aA [(10,.adr 0 0 2 0),(13,.adr 1 0 2 0)] (Ix N O) 3) (gg [.nilC 96 1 136 126 (.int .u8)] [0,96,136]) (fun y o h=>?_) (fun O h=>?_))))))
 ·obtain⟨x,c⟩:=y;unfold cr at h;refine G (af (aC h (fun Y h=>?_) (fun Y h=>?_)))
  ·refine ae (ab (af (ak (GC 0 h (fun h=>ak (G (bn h (fun A=>aA [(0,.p e (.slice (.prod (.int .i32) Y2)) D),(2,.p q (.slice (.int .u8)) E),(3,.p u (.slice .bool) I),(10,.adr 0 0 2 0),(13,.adr 1 0 2 0),(25,.p false (.slice (.int .i64)) v),(26,.i64 (v.length:Int)),(27,.i64 c)] (Ix N A) 3) (fun A h=>?_) (fun A h=>?_))))))))
   ·refine aC h (fun Z h=>?_) (fun Z h=>?_)
    ·refine xg 3 h (fun h=>?_);exact eN h (gg [] [0,1,99])
    refine af (bn h (fun B=>aA [(0,.p e (.slice (.prod (.int .i32) Y2)) D),(2,.p q (.slice (.int .u8)) E),(3,.p u (.slice .bool) I),(10,.adr 0 0 2 0),(13,.adr 1 0 2 0),(15,.i64 (v.getD c.toNat 0)),(25,.p false (.slice (.int .i64)) v),(26,.i64 (v.length:Int)),(27,.i64 c),(50,.bo B)] (Ix N x) 3) (fun B h=>?_) (fun B h=>?_))
    ·rcases aI h with⟨z,h⟩ | ⟨z,h⟩
     ·exact bz ⟨[(2,true),(7,true)],[]⟩ [(3,7,oc z)] (eN h (gg [] [0,1,2]))
     exact bz ⟨[(2,false),(7,false)],[]⟩ [(3,6,an z),(7,7,oc z)] (eN h (gg [] [0,1,2]))
    refine ab (aC h (fun a1 h=>?_) (fun a1 h=>?_))
    ·refine xg 3 h (fun h=>?_);exact eN h (gg [] [0,1,27])
    refine af (bn h (fun v20=>aA [(0,.p e (.slice (.prod (.int .i32) Y2)) D),(2,.p q (.slice (.int .u8)) E),(3,.p u (.slice .bool) I),(10,.adr 0 0 2 0),(13,.adr 1 0 2 0),(15,.i64 (v.getD c.toNat 0)),(25,.p false (.slice (.int .i64)) v),(26,.i64 (v.length:Int)),(27,.i64 c),(64,.bo v20)] (Ix N x) 3) (fun v20 h=>?_) (fun v20 h=>?_))
    ·obtain⟨C,h⟩:=aE h;rcases aI h with⟨f,h⟩ | ⟨f,h⟩
     ·rcases aI h with⟨j,h⟩ | ⟨j,h⟩
      ·obtain⟨a2,h⟩:=aE h;exact bz ⟨[(5,true),(10,true),(11,true),(16,true)],[]⟩ [(2,2,oc C),(6,9,an f),(10,10,oc f),(12,13,an j),(14,14,oc (And.intro j a2)),(15,15,an j),(16,16,oc j)] (eN h (gg [] [0,1,2]))
      exact bz ⟨[(5,true),(10,true),(11,false),(16,false)],[]⟩ [(2,2,oc C),(6,9,an f),(10,10,oc f),(12,16,oc j)] (eN h (gg [] [0,1,2]))
     exact bz ⟨[(5,false),(10,false)],[]⟩ [(2,2,oc C),(6,10,oc f)] (eN h (gg [] [0,1,2]))
    refine ab (aC h (fun a3 h=>?_) (fun a3 h=>?_))
    ·refine xg 3 h (fun h=>?_);exact eN h (gg [] [0,1,27])
    obtain⟨V,X,h⟩:=g2 h;exact kY a0 [(4,4,oc V),(7,7,oc X)] (eN h (gg [] [0,1,59]))
   refine ay (ay (ab (Ge ?_)));exact eB h (gg [] [0,1,2])
  refine aw (aQ ?_);exact eX h (gg [] [0,1,2])
 refine az (ab (G (kr [.frzC 0 1] (by kernel_rfl) (au ?_))));obtain rfl:=sI h;exact RI [lQ]
def aT(c:Option Z1)(e:QK):Option ((Qj×QK)×Int) :=
 (if c.isNone=true then some ((([]:Qj),([]:QK)),1)
 else(if(decide ((e.length:Int) > 4096))=true then some ((([]:Qj),([]:QK)),3)
 else((nc e).bind fun j =>
 (if c.isSome=true then(if c.isSome=true then((cy ((c.getD (Ty.zero vQ)).2.2.1) j).bind fun x =>
 ((eD ((c.getD (Ty.zero vQ)).1) x).bind fun p =>
 (if c.isSome=true then(if c.isSome=true then((cy ((c.getD (Ty.zero vQ)).2.2.2.1) j).bind fun q =>
 ((eD ((c.getD (Ty.zero vQ)).2.1) q).bind fun u =>
 (if c.isSome=true then((dM ((c.getD (Ty.zero vQ)).2.2.2.2.2) j).bind fun v =>
 (if c.isSome=true then((gC j p u v ((c.getD (Ty.zero vQ)).2.2.2.2.1)).bind fun f =>
 some ((f.1,f.2),0))else none))else none)))else none)else none)))else none)else none))))
theorem sH(j:Bool){O:Option Z1}{c:QK}{f:(Qj×QK)×Int}(h:aT O c=some f):
  Pure Tryz.prog 53 [.p false (.ptr vQ) O,.p j (.slice (.int .u8)) c] (aJ (bc false [⟨lQ,f.1⟩,⟨(.int .i64),f.2⟩])):=by
 refine PB Tryz.func53 (fun Bw w0=>?_);unfold aT at h;refine G (af (GN a0 [(1,1,⟨∃e,Tryz.prog.underlying 50=some (.pointer e),⟨_,rfl⟩⟩)] (aC h (fun V h=>?_) (fun V h=>?_))))
 ·refine G (au (ah ?_));obtain rfl:=sI h;exact RI [lQ,(.int .i64)]
 refine ae (ab (af (G (aC h (fun X h=>?_) (fun X h=>?_)))))
 ·refine G (au (ah ?_));obtain rfl:=sI h;exact RI [lQ,(.int .i64)]
 refine ae (ab ?_);obtain⟨r2,Y,h⟩:=aj h;refine GP 1 (u4 j Y) ?_;obtain⟨Z,c8,h⟩:=g2 h;obtain⟨r9,q9,h⟩:=aj h;obtain⟨a1,C,h⟩:=aj h;obtain⟨c9,D,h⟩:=g2 h;obtain⟨a2,E,h⟩:=aj h;obtain⟨a3,I,h⟩:=aj h;obtain⟨J,h⟩:=aE h;obtain⟨a4,L,h⟩:=aj h;obtain⟨M,h⟩:=aE h;obtain⟨a5,N,h⟩:=aj h;have q:=(lL false false q9);have u:=(lJ false false C);have v:=(lL false false E);have x:=(lJ false false I);have z:=(nX false L);have B:=(yS false false false false false N);refine GD ⟨[],[(10,(oP q)),(11,(oP u)),(21,(oP v)),(22,(oP x)),(28,(oP z)),(33,(oP B))]⟩ [(2,2,oc Z),(6,6,oc c8),(10,10,oc q),(11,11,oc u),(13,13,oc c9),(17,17,oc D),(21,21,oc v),(22,22,oc x),(24,24,oc J),(28,28,oc z),(30,30,oc M),(33,33,oc B)] (au ?_);obtain rfl:=sI h;exact RI [lQ,(.int .i64)]
def fg(j:QK):vR→Option (vR⊕QK):=fun(c,e) =>
 (if(decide (e<(j.length:Int)))=true then(if 0≤e∧e<(j.length:Int)then(((if((j.getD e.toNat 0) == 2)=true then(if(c.length+([e]:QK).length)*8≤140737488355328∧c.length+([e]:QK).length≤9223372036854775807 then some ((c++([e]:QK)))else none)
 else some (c))).bind fun f=>some (Sum.inl (f,(i64.wrap (e+1)))))else none)
 else some (Sum.inr c))
def mF(_:Qj)(e:QK):Option QK :=
 ((iter (fg e) (([]:QK),0)).bind fun c=>some c)
theorem wX(v j:Bool){z:Qj}{q u:QK}(h:mF z q=some u):
  Pure Tryz.prog 54 [.agg [.p v (.slice Y9) z,.p j (.slice (.int .u8)) q]] (aJ (bc false [⟨(.slice (.int .i64)),u⟩])):=by
 refine PB Tryz.func54 (fun Bw w0=>?_);unfold mF at h;refine G (G (af (G (ak (cw h (fun(e,x)=>aA [(3,.sl 0),(7,.p j (.slice (.int .u8)) q),(8,.i64 (q.length:Int)),(9,.i64 x)] [(0,.arr 3 (.int .i64) e)] 1) 0 (fun f=>aA [(3,.sl 0)] [(0,.arr 3 (.int .i64) f)] 1) (gg [.nilS 3 56 3 (.int .i64)] [56]) (fun y o h=>?_) (fun f h=>?_))))))
 ·obtain⟨e,x⟩:=y;unfold fg at h;refine G (af (aC h (fun B h=>?_) (fun B h=>?_)))
  ·refine ae (ab (af (ak (GC 1 h (fun h=>G (bn h (fun c=>aA [(3,.sl 0),(7,.p j (.slice (.int .u8)) q),(8,.i64 (q.length:Int)),(9,.i64 x)] [(0,.arr 3 (.int .i64) c)] 1) (fun c h=>?_) (fun c h=>?_)))))))
   ·refine aC h (fun C h=>?_) (fun C h=>?_)
    ·refine xg 3 h (fun h=>?_);exact eN h (gg [] [89])
    exact ae (eN h (gg [] [0]))
   refine ay (ab (Ge ?_));exact eB h (gg [] [0])
  refine aw (aQ ?_);exact eX h (gg [] [0])
 refine az (ab (G (au ?_)));obtain rfl:=sI h;exact RI [(.slice (.int .i64))]
def iG(e:Qj)(f:QK)(p:Int):vR→Option (vR⊕QK):=fun(j,c) =>
 (if(decide (c<p))=true then(if 0≤c∧c<(e.length:Int)then(if 0≤(4:Int)then(if 0≤(i64.wrap (c+1))∧(i64.wrap (c+1))<(f.length:Int)then(if(j.length+([(bitsOf .or .u8 (u8.wrap ((u8.wrap ((e.getD c.toNat (0,0,0,0)).2.2.1))*2 ^ (min (4:Int).toNat u8.bits))) ((e.getD c.toNat (0,0,0,0)).2.2.2)),(f.getD ((i64.wrap (c+1)).toNat) 0)]:QK).length)*1≤140737488355328∧j.length+([(bitsOf .or .u8 (u8.wrap ((u8.wrap ((e.getD c.toNat (0,0,0,0)).2.2.1))*2 ^ (min (4:Int).toNat u8.bits))) ((e.getD c.toNat (0,0,0,0)).2.2.2)),(f.getD ((i64.wrap (c+1)).toNat) 0)]:QK).length≤9223372036854775807 then some (Sum.inl ((j++([(bitsOf .or .u8 (u8.wrap ((u8.wrap ((e.getD c.toNat (0,0,0,0)).2.2.1))*2 ^ (min (4:Int).toNat u8.bits))) ((e.getD c.toNat (0,0,0,0)).2.2.2)),(f.getD ((i64.wrap (c+1)).toNat) 0)]:QK)),(i64.wrap (c+1))))else none)else none)else none)else none)
 else some (Sum.inr j))
def pf(f:Qj)(j:QK)(c e:Int):Option QX :=
 (if 0≤(0:Int)∧0≤(i64.wrap (2*(i64.wrap (e - c))))∧1*(i64.wrap (2*(i64.wrap (e - c))))≤281474976710656∧(i64.wrap (2*(i64.wrap (e - c))))≤9223372036854775807 then((iter (iG f j e) ((List.replicate (0:Int).toNat (0:Int)),c)).bind fun p=>some (bytesOf p))else none)
theorem C0(f j:Bool){u:Qj}{v:QK}{c e:Int}{q:QX}(h:pf u v c e=some q):
  Pure Tryz.prog 55 [.agg [.p f (.slice Y9) u,.p j (.slice (.int .u8)) v],.i64 c,.i64 e] (aJ (bc false [⟨.str,q⟩])):=by
 refine PB Tryz.func55 (fun Bw w0=>?_);unfold pf at h;refine G (GC 4 h (fun h=>af (G (ak (cw h (fun(C,D)=>aA [(2,.i64 e),(3,.adr 0 0 2 0),(7,.sl 1),(8,.i64 D)] (Ol f u j v C) 2) 0 (fun E=>aA [(7,.sl 0)] [(0,.arr 5 (.int .u8) E)] 1) (gg [] [0,48]) (fun y o h=>?_) (fun E h=>?_))))))
 ·obtain⟨C,D⟩:=y;unfold iG at h;refine af (G (aC h (fun I h=>?_) (fun I h=>?_)))
  ·refine ae (ab (af (ak (GC 3 h (fun h=>?_)))));obtain⟨x,z,B,h⟩:=g3 h;refine kY a0 [(4,4,oc x),(12,12,oc z),(15,15,oc B)] (ay (ab (Ge ?_)));exact eB h (gg [] [0,202])
  refine aw (aQ ?_);exact eX h (gg [] [1])
 refine az (ab (G (au ?_)));obtain rfl:=sI h;exact RI [.str]
def jE(_ _ f j c e:Int):Option (Int) :=
 (if(j == 2)=true then(if ¬e=0 then some (i64.wrap ((i64.wrap (c+e)) - (Int.tmod c e)))else none)
 else some (i64.wrap (c+f)))
theorem nS{j p:Int}{q u:Int}{c e f:Int}(h:jE j p q u c e=some f):
  Pure Tryz.prog 129 [.agg [.i64 j,.i64 p,.i64 q,.u8 u],.i64 c,.i64 e] (aJ (bc false [⟨(.int .i64),f⟩])):=by
 refine PB Tryz.func129 (fun Bw w0=>?_);unfold jE at h;refine G (af (G (aC h (fun v h=>?_) (fun v h=>?_))))
 ·refine GC 5 h (fun h=>au (ah ?_));obtain rfl:=sI h;exact RI [(.int .i64)]
 refine ae (ab (G (au ?_)));obtain rfl:=sI h;exact RI [(.int .i64)]
def lT(_ _ e c:Int):Option (Bool) :=
 (((if(c == 1)=true then some (true)
 else(if(c == 0)=true then some ((e == 0))
 else some (false)))).bind fun v1=>some v1)
theorem yO{j p:Int}{q u:Int}{e:Bool}(h:lT j p q u=some e):
  Pure Tryz.prog 154 [.agg [.i64 j,.i64 p,.i64 q,.u8 u]] (aJ (bc false [⟨.bool,e⟩])):=by
 refine PB Tryz.func154 (fun Bw w0=>?_);unfold lT at h;refine G (af (bn h (fun v1=>aA [(2,.bo v1)] [] 0) (fun v1 h=>?_) (fun v1 h=>?_)))
 ·rcases aI h with⟨c,h⟩ | ⟨c,h⟩
  ·exact bz ⟨[(3,true),(12,true)],[]⟩ [(4,7,oc c),(11,12,oc c)] (eN h (gg [] []))
  rcases aI h with⟨f,h⟩ | ⟨f,h⟩
  ·exact bz ⟨[(3,false),(7,true),(11,true),(12,false)],[]⟩ [(4,7,an c),(8,10,an f),(11,11,oc (And.intro c f)),(12,12,oc c)] (eN h (gg [] []))
  exact bz ⟨[(3,false),(7,false),(11,false),(12,false)],[]⟩ [(4,7,an c),(8,10,oc f),(11,11,oc (And.intro c f)),(12,12,oc c)] (eN h (gg [] []))
 refine ab (au ?_);obtain rfl:=sI h;exact RI [.bool]
def eF(f:Qj)(e:Int):(Int)→Option ((Int)⊕(Int)):=fun c =>
 (((if(decide (c > e))=true then(if 0≤(i64.wrap (c - 1))∧(i64.wrap (c - 1))<(f.length:Int)then((lT ((f.getD ((i64.wrap (c - 1)).toNat) (0,0,0,0)).1) ((f.getD ((i64.wrap (c - 1)).toNat) (0,0,0,0)).2.1) ((f.getD ((i64.wrap (c - 1)).toNat) (0,0,0,0)).2.2.1) ((f.getD ((i64.wrap (c - 1)).toNat) (0,0,0,0)).2.2.2)).bind fun j =>
 some (j))else none)
 else some (false))).bind fun p=>(if p=true then some (Sum.inl (i64.wrap (c - 1)))
 else some (Sum.inr c)))
def fX(j:Qj)(_:QK)(c e:Int):Option (Int) :=
 ((iter (eF j c) e).bind fun f=>some f)
theorem nP(f j:Bool){A:Qj}{B:QK}{c u v:Int}(h:fX A B c u=some v):
  Pure Tryz.prog 146 [.agg [.p f (.slice Y9) A,.p j (.slice (.int .u8)) B],.i64 c,.i64 u] (aJ (bc false [⟨(.int .i64),v⟩])):=by
 refine PB Tryz.func146 (fun Bw w0=>?_);unfold fX at h;refine G (af (ak (cw h (fun q=>aA [(1,.i64 c),(2,.i64 q),(3,.adr 0 0 2 0)] (M6 f A j B) 1) 0 (fun x=>aA [(2,.i64 x)] [] 0) (gg [] [0]) (fun q o h=>?_) (fun x h=>?_))))
 ·unfold eF at h;refine af (af (bn h (fun C=>aA [(1,.i64 c),(2,.i64 q),(3,.adr 0 0 2 0),(18,.bo C)] (M6 f A j B) 1) (fun C h=>?_) (fun C h=>?_)))
  ·rcases aI h with⟨e,h⟩ | ⟨e,h⟩
   ·obtain⟨E,h⟩:=aE h;obtain⟨J,I,h⟩:=aj h;have z:=(yO I);exact bz ⟨[(3,true),(11,true)],[(10,(oP z))]⟩ [(4,7,an e),(8,8,oc (And.intro e E)),(9,9,an e),(10,10,oc (And.intro e z)),(11,11,oc e)] (eN h (gg [] [0]))
   exact bz ⟨[(3,false),(11,false)],[]⟩ [(4,11,oc e)] (eN h (gg [] [0]))
  refine ab (aC h (fun D h=>?_) (fun D h=>?_))
  ·refine ae (ab (ak (Ge (ay ?_))));exact eB h (gg [] [0])
  refine aw (aQ ?_);exact eX h (gg [] [])
 refine az (ab (G (au ?_)));obtain rfl:=sI h;exact RI [(.int .i64)]
def kW(_:Qj)(e:QK)(c:Int):Option (Int×Bool) :=
 (if 0≤c∧c<(e.length:Int)then(if 0≤c∧c<(e.length:Int)then some ((e.getD c.toNat 0),((e.getD c.toNat 0) != 0))else none)else none)
theorem tP(f j:Bool){q:Qj}{u:QK}{e:Int}{c:Int×Bool}(h:kW q u e=some c):
  Pure Tryz.prog 147 [.agg [.p f (.slice Y9) q,.p j (.slice (.int .u8)) u],.i64 e] (aJ (bc false [⟨(.int .u8),c.1⟩,⟨.bool,c.2⟩])):=by
 refine PB Tryz.func147 (fun Bw w0=>?_);unfold kW at h;refine G ?_;obtain⟨v,x,h⟩:=g2 h;refine GD a0 [(3,3,oc v),(8,8,oc x)] (au ?_);obtain rfl:=sI h;exact RI [(.int .u8),.bool]
def tA(c e:Int):Option QJ :=
 some (bW .quo (ofInt c) (ofInt e))
theorem BZ{c e:Int}{f:QJ}(h:tA c e=some f):
  Pure Tryz.prog 155 [.i64 c,.i64 e] (aJ (bc false [⟨.flt,f⟩])):=by
 refine PB Tryz.func155 (fun Bw w0=>?_);unfold tA at h;refine G (G (au ?_));obtain rfl:=sI h;exact RI [.flt]
def ox(e c:QJ):Option (Bool) :=
 some (!(NM e c))
theorem yP{f c:QJ}{e:Bool}(h:ox f c=some e):
  Pure Tryz.prog 156 [.p false .flt f,.p false .flt c] (aJ (bc false [⟨.bool,e⟩])):=by
 refine PB Tryz.func156 (fun Bw w0=>?_);unfold ox at h;refine G (G (au ?_));obtain rfl:=sI h;exact RI [.bool]
def n6(c:QJ):Option (Bool) :=
 some (!(Lq c c))
theorem yK{e:QJ}{c:Bool}(h:n6 e=some c):
  Pure Tryz.prog 160 [.p false .flt e] (aJ (bc false [⟨.bool,c⟩])):=by
 refine PB Tryz.func160 (fun Bw w0=>?_);unfold n6 at h;refine G (G (au ?_));obtain rfl:=sI h;exact RI [.bool]
def wI(c:QJ):Option QJ:=some (yc c)
theorem xv(b:Nat)(w:World):
  Calls Tryz.prog 161 #[.float .f64 b] w fun e c=>e = .returned (.float .f64 (b % 9223372036854775808))∧c=w:=by
 have f:∀w,(callFunc 164 #[.float .f64 b]).run Tryz.prog w = .ok (.value (.int .u64 b)) w:=fun w=>by rw[run_callFunc_extern (fn:=Tryz.f164) (e:=Extern.MathFloatBits.float64bits) Tryz.func164 (by kernel_rfl) rfl (by kernel_rfl) (by kernel_rfl)];rfl
 have j:∀(n:Int) w,(callFunc 163 #[.int .u64 n]).run Tryz.prog w = .ok (.value (.float .f64 n.toNat)) w:=fun n w=>by rw[run_callFunc_extern (fn:=Tryz.f163) (e:=Extern.MathFloatBits.float64frombits) Tryz.func163 (by kernel_rfl) rfl (by kernel_rfl) (by kernel_rfl)];rfl
 go_enter Tryz.func161,Tryz.ntmps161;go_wp2
 go_ret
 exact⟨by rw[←IY];rfl,rfl⟩
theorem CE{e c:QJ}(h:wI e=some c):
  Pure Tryz.prog 161 [.p false .flt e] (aJ (bc false [⟨.flt,c⟩])):=by
 obtain rfl:=sI h;exact Pure.LU Tryz.func161 (by kernel_rfl) rfl (fun b w=>xv b w)
def ig(e:QJ):Option (Int) :=
 ((n6 e).bind fun f =>
 (if f=true then some 0
 else((wI e).bind fun c =>
 (if(!(Lt (bW .mul (bW .mul (bW .mul (dN 4636737291354636288) c) c) c) (dN 4666723172467343360)))=true then some 10000
 else(if(o6 (bW .mul (bW .mul (bW .mul (dN 4636737291354636288) c) c) c)).isSome=true∧i64.min≤(o6 (bW .mul (bW .mul (bW .mul (dN 4636737291354636288) c) c) c)).getD 0∧(o6 (bW .mul (bW .mul (bW .mul (dN 4636737291354636288) c) c) c)).getD 0≤i64.max then some ((o6 (bW .mul (bW .mul (bW .mul (dN 4636737291354636288) c) c) c)).getD 0)else none)))))
theorem uF{e:QJ}{c:Int}(h:ig e=some c):
  Pure Tryz.prog 157 [.p false .flt e] (aJ (bc false [⟨(.int .i64),c⟩])):=by
 refine PB Tryz.func157 (fun Bw w0=>?_);unfold ig at h;refine G (af ?_);obtain⟨v,f,h⟩:=aj h;refine GP 1 (yK f) (aC h (fun j h=>?_) (fun j h=>?_))
 ·refine G (au (ah ?_));obtain rfl:=sI h;exact RI [(.int .i64)]
 refine ae (ab ?_);obtain⟨x,q,h⟩:=aj h;refine GP 1 (CE q) (G (af (G (aC h (fun u h=>?_) (fun u h=>?_)))))
 ·refine G (au (ah ?_));obtain rfl:=sI h;exact RI [(.int .i64)]
 refine ae (ab (GC 1 h (fun h=>au ?_)));obtain rfl:=sI h;exact RI [(.int .i64)]
def fM(_:Qj)(A:QK)(e q B f:Int)(j:Bool)(C _ _ D E:Int)(I:QJ):Option (Int×Bool) :=
 (if(decide (B > C))=true then some (0,false)
 else(((if(!j)=true then((tA (i64.wrap (C - B)) f).bind fun u =>
 ((ox u I).bind fun v =>
 (if(!v)=true then some ((Sum.inr (0,false)))
 else((ig u).bind fun x =>
 some ((Sum.inl x))))))
 else some ((Sum.inl 0)))).bind fun(z:((Int)⊕(Int×Bool)))=>match z with
 | .inl c=>(((if(q == 3)=true then(if 0≤e∧e<(A.length:Int)then(if((A.getD e.toNat 0) == 3)=true then some ((i64.wrap ((i64.wrap ((i64.wrap ((i64.wrap (10+c))*(i64.wrap (10+c))))+D))+E)))
 else some ((i64.wrap ((i64.wrap ((i64.wrap (10+c))*(i64.wrap (10+c))))+D))))else none)
 else some ((i64.wrap ((i64.wrap (10+c))*(i64.wrap (10+c))))))).bind fun p=>some (p,true))
 | .inr ((J,L))=>some (J,L)))
theorem zd(z A:Bool){C:Qj}{D:QK}{c j:Int}{Y q:Int}{u:Bool}{E I:Int}{J L M:Int}{N:QJ}{x:Int×Bool}(h:fM C D c j Y q u E I J L M N=some x):
  Pure Tryz.prog 148 [.agg [.p z (.slice Y9) C,.p A (.slice (.int .u8)) D],.i64 c,.u8 j,.i64 Y,.i64 q,.bo u,.agg [.i64 E,.i64 I,.u8 J,.i64 L,.i64 M,.p false .flt N]] (aJ (bc false [⟨(.int .i64),x.1⟩,⟨.bool,x.2⟩])):=by
 refine PB Tryz.func148 (fun Bw w0=>?_);unfold fM at h;refine G (af (G (aC h (fun B1 h=>?_) (fun B1 h=>?_))))
 ·refine G (au (ah ?_));obtain rfl:=sI h;exact RI [(.int .i64),.bool]
 refine ae (ab (G (af (G (Ec h (dw (oT Tryz.f148.ntmps (fun v=>aA [(1,.i64 c),(2,.u8 j),(7,.adr 0 0 2 0),(13,.adr 1 0 6 0),(16,.i64 v)] (Nh z C A D E I J L M N) 2)) (gm tb Tryz.f148.results.toList (fun(Z,r8)=>[⟨(.int .i64),Z⟩,⟨.bool,r8⟩]))) (fun B h=>?_) (fun B h e σ' hq=>?_))))))
 ·refine aC h (fun B4 h=>?_) (fun B4 h=>?_)
  ·obtain⟨a1,q8,h⟩:=aj h;refine GP 5 (BZ q8) (af ?_);obtain⟨a2,O,h⟩:=aj h;refine GP 3 (yP O) (aC h (fun B5 h=>?_) (fun B5 h=>?_))
   ·refine G (au ?_);obtain rfl:=sI h;refine ah (aN ?_);exact bH (RI [(.int .i64),.bool])
   refine ae (ab ?_);obtain⟨a3,V,h⟩:=aj h;refine NL 1 (uF V) ?_;obtain rfl:=sI h;exact bm (cM (gg [] [0,8]))
  refine ae ?_;obtain rfl:=sI h;exact bm (cM (gg [] [0,8]))
 rcases B with v | ⟨Z,r8⟩
 ·obtain⟨rfl,X⟩:=hq;refine cC ?_ X;refine ab (G (af (G (bn h (fun f=>aA [(18,.i64 f)] [] 0) (fun f h=>?_) (fun f h=>?_)))))
  ·refine aC h (fun B8 h=>?_) (fun B8 h=>?_)
   ·refine G (GC 3 h (fun h=>aC h (fun B9 h=>?_) (fun B9 h=>?_)))
    ·exact Ge (eN h (gg [] []))
    exact ae (eN h (gg [] []))
   exact ae (eN h (gg [] []))
  refine ab (G (au ?_));obtain rfl:=sI h;exact RI [(.int .i64),.bool]
 obtain⟨rfl,hr⟩:=hq;refine ah ?_;obtain rfl:=sI h;exact hr
end
end Go.Proofs.YtmcemnfjddoejaaGreatDoor.T
