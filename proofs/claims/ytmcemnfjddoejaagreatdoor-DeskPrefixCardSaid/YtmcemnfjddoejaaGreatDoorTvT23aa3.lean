/- Functions of the program as functions on data, and that the program's own come to them. -/
import Derived.Test.YtmcemnfjddoejaaGreatDoorTvT23a0
import Derived.Test.YtmcemnfjddoejaaGreatDoorTvT23aa2
namespace Go.Proofs.YtmcemnfjddoejaaGreatDoor.T
open Go Go.Tv Go.Proofs
open Go.IntKind (i32 i64 u32 u64 u8)
noncomputable section
set_option maxRecDepth 100000
set_option maxHeartbeats 4000000
def qo(e:List eD):(Int)→Option ((Int)⊕(Int)):=fun c =>
 (((if(decide (c<(e.length:Int)))=true then(if 0≤c∧c<(e.length:Int)then((nD ((e.getD c.toNat (0,0,0)).1)).bind fun f =>
 some ((!f)))else none)
 else some (false))).bind fun v30=>(if v30=true then some (Sum.inl (i64.wrap (c+1)))
 else some (Sum.inr c)))
def qE(k:List eD):((List jd)×(List jd)×Int)→Option (((List jd)×(List jd)×Int)⊕(((List jd)×List jd)⊕(((List jd)×List jd)×Int×Int))):=fun(v20,f,c) =>
 (if(decide (c<(k.length:Int)))=true then(if 0≤c∧c<(k.length:Int)then((nD ((k.getD c.toNat (0,0,0)).1)).bind fun m =>
 (if m=true then some (Sum.inl (v20,f,(i64.wrap (c+1))))
 else((iter (qo k) c).bind fun j=>(if 0≤c∧c<(k.length:Int)then(if(decide ((i64.wrap ((v20.length:Int)+(f.length:Int)))≥256))=true then some (Sum.inr (Sum.inr ((([]:List jd),([]:List jd)),24,(k.getD c.toNat (0,0,0)).2.1)))
 else(if 0≤c∧c≤j∧j≤j∧j≤(k.length:Int)then((wY ((k.take j.toNat).drop c.toNat)).bind fun(e,p) =>
 (if(!p)=true then some (Sum.inr (Sum.inr ((([]:List jd),([]:List jd)),30,(k.getD c.toNat (0,0,0)).2.1)))
 else((jB ((k.take j.toNat).drop c.toNat)).bind fun q =>
 (((if(!q)=true then(if(v20.length+([(e.1,e.2)]:List jd).length)*48≤140737488355328∧v20.length+([(e.1,e.2)]:List jd).length≤9223372036854775807 then some ((Sum.inl ((v20++([(e.1,e.2)]:List jd)),f)))else none)
 else((oS f e.1 e.2).bind fun u =>
 (if u=true then some ((Sum.inr ((([]:List jd),([]:List jd)),23,(k.getD c.toNat (0,0,0)).2.1)))
 else(if(f.length+([(e.1,e.2)]:List jd).length)*48≤140737488355328∧f.length+([(e.1,e.2)]:List jd).length≤9223372036854775807 then some ((Sum.inl (v20,(f++([(e.1,e.2)]:List jd)))))else none))))).bind fun(v:(((List jd)×List jd)⊕(((List jd)×List jd)×Int×Int)))=>match v with
 | .inl (x,z)=>some (Sum.inl (x,z,j))
 | .inr ((A,B))=>some (Sum.inr (Sum.inr (A,B)))))))else none))else none))))else none)
 else some (Sum.inr (Sum.inl (v20,f))))
def rh(m:List UInt8):Option (((List jd)×List jd)×Int×Int) :=
 (if(decide ((m.length:Int) > 4096))=true then some ((([]:List jd),([]:List jd)),24,4096)
 else((mD (cb m)).bind fun p =>
 ((iter (qE p) (([]:List jd),([]:List jd),0)).bind fun(c:(((List jd)×List jd)⊕(((List jd)×List jd)×Int×Int)))=>match c with
 | .inl (e,f)=>some ((e,f),0,0)
 | .inr ((j,k))=>some (j,k))))
theorem xV{d1:List UInt8}{m:((List jd)×List jd)×Int×Int}(h:rh d1=some m):
  Pure Tryz.prog 50 [.st d1] (aG (aU false [⟨IF,m.1⟩,⟨Y2,m.2⟩])):=by
 refine PB Tryz.func50 (fun Bw w0=> ?_);unfold rh at h;refine G (G (af (G (aA h (fun B1 h=> ?_) (fun B1 h=> ?_)))))
 ·refine G (ao (ah ?_));obtain rfl:=sI h;exact RI [IF,Y2]
 refine ae (ab ?_);obtain⟨x,q2,h⟩:=aj h;refine GP 2 (uK false q2) (af (G (ak (jl h (fun(v20,f,j)=>ay [(2,.adr 0 0 2 0),(3,.adr 1 0 2 0),(4,.adr 2 0 2 0),(5,.p false (.slice (.prod (.int .i32) Y2)) x),(6,.i64 j)] (E5 0 (0:Int) v20 f) 5) (cN (dM Tryz.f50.ntmps 0 (fun(z,A)=>ay [(2,.adr 0 0 2 0),(3,.adr 1 0 2 0),(4,.adr 2 0 2 0)] (E5 0 (0:Int) z A) 5)) (eQ tb Tryz.f50.results.toList (fun(B,C)=>[⟨IF,B⟩,⟨Y2,C⟩]))) (gg [.nilC 16 0 88 221 wS,.nilC 16 1 89 221 wS] [0,8,16,88,89]) (fun y o h=> ?_) (fun N h e σ' D=> ?_)))))
 ·obtain⟨v20,f,j⟩:=y;unfold qE at h;refine af (G (aA h (fun O h=> ?_) (fun O h=> ?_)))
  ·refine ae (ab (ak (af ?_)));obtain⟨R,h⟩:=aD h;obtain⟨a9,V,h⟩:=aj h;have k:=(qt V);refine GN ⟨[],[(5,(oP k))]⟩ [(2,2,oc R),(5,5,oc k)] (aA h (fun X h=> ?_) (fun X h=> ?_))
   ·refine G (aq (aL (av ?_)));exact eB h (gg [] [0,1,2,3,4])
   refine ae (ab (G (af (ak (cd h (fun q=>ay [(2,.adr 0 0 2 0),(3,.adr 1 0 2 0),(4,.adr 2 0 2 0),(5,.p false (.slice (.prod (.int .i32) Y2)) x),(6,.i64 j),(7,.i64 q)] (E5 0 (0:Int) v20 f) 5) 2 (fun u=>ay [(2,.adr 0 0 2 0),(3,.adr 1 0 2 0),(4,.adr 2 0 2 0),(5,.p false (.slice (.prod (.int .i32) Y2)) x),(6,.i64 j),(7,.i64 u)] (E5 0 (0:Int) v20 f) 5) (gg [] [0,1,2,3,4]) (fun q o h=> ?_) (fun u h=> ?_))))))
   ·unfold qo at h;refine af (af (bg h (fun v30=>ay [(2,.adr 0 0 2 0),(3,.adr 1 0 2 0),(4,.adr 2 0 2 0),(5,.p false (.slice (.prod (.int .i32) Y2)) x),(6,.i64 j),(7,.i64 q),(45,.bo v30)] (E5 0 (0:Int) v20 f) 5) (fun v30 h=> ?_) (fun v30 h=> ?_)))
    ·rcases aF h with⟨c,h⟩ | ⟨c,h⟩
     ·obtain⟨Y,h⟩:=aD h;obtain⟨aa,Z,h⟩:=aj h;have k:=(qt Z);exact bq ⟨[(4,true),(12,true)],[(10,(oP k))]⟩ [(5,6,an c),(7,7,oc (And.intro c Y)),(8,9,an c),(10,10,oc (And.intro c k)),(11,11,an c),(12,12,oc c)] (eN h (gg [] [0,1,2,3,4]))
     exact bq ⟨[(4,false),(12,false)],[]⟩ [(5,12,oc c)] (eN h (gg [] [0,1,2,3,4]))
    refine ab (aA h (fun a1 h=> ?_) (fun a1 h=> ?_))
    ·refine ae (ab (ak (Ge (au ?_))));exact eB h (gg [] [0,1,2,3,4])
    refine aq (aL ?_);exact eX h (gg [] [0,1,2,3,4])
   refine av (ab (GC 2 h (fun h=>af (G (aA h (fun a2 h=> ?_) (fun a2 h=> ?_))))))
   ·refine G (ao ?_);obtain rfl:=sI h;refine ah (az (br (aK ?_)));exact bu (RI [IF,Y2])
   refine ae (ab (GC 4 h (fun h=> ?_)));obtain⟨⟨ac,ad⟩,a3,h⟩:=aj h;refine GP 1 (CF false a3) (af (ak (G (aA h (fun a4 h=> ?_) (fun a4 h=> ?_)))))
   ·refine G (ao ?_);obtain rfl:=sI h;refine az (ah (az (br (aK ?_))));exact bu (RI [IF,Y2])
   obtain⟨ax,a5,h⟩:=aj h;refine GP 1 (mv false a5) (Db h (cN (od Tryz.f50.ntmps (fun(E,I)=>ay [(2,.adr 0 0 2 0),(3,.adr 1 0 2 0),(4,.adr 2 0 2 0),(5,.p false (.slice (.prod (.int .i32) Y2)) x),(7,.i64 u)] (E5 0 (0:Int) E I) 5)) (eQ tb Tryz.f50.results.toList (fun(J,L)=>[⟨IF,J⟩,⟨Y2,L⟩]))) (fun M h=> ?_) (fun M h e σ' D=> ?_))
   ·refine aA h (fun a6 h=> ?_) (fun a6 h=> ?_)
    ·refine tq 4 h (fun h=> ?_);obtain rfl:=sI h;exact aX (cu (gg [] [0,1,2,317,4]))
    obtain⟨b1,a7,h⟩:=aj h;refine GP 3 (xd true false false a7) (aA h (fun a8 h=> ?_) (fun a8 h=> ?_))
    ·refine G (ao ?_);obtain rfl:=sI h;exact aK (bu (RI [IF,Y2]))
    refine tq 4 h (fun h=> ?_);obtain rfl:=sI h;exact aX (cu (gg [] [0,1,2,3,357]))
   rcases M with⟨E,I⟩ | ⟨J,L⟩
   ·obtain⟨rfl,v⟩:=D;refine bY ?_ v;refine au (ab (Ge (au ?_)));exact eB h (gg [] [0,1,2,3,4])
   obtain⟨rfl,hr⟩:=D;obtain rfl:=sI h;refine az (ah (az (br (aK ?_))));exact bu hr
  refine aq (aL ?_);obtain rfl:=sI h;refine cR (aX ?_);exact bC (gg [] [0,1,2,3,4])
 rcases N with⟨z,A⟩ | ⟨B,C⟩
 ·obtain⟨rfl,v⟩:=D;refine bY ?_ v;refine av (ab (G (nA [.frzC 0 0,.frzC 0 1] (by kernel_rfl) (ao ?_))));obtain rfl:=sI h;exact RI [IF,Y2]
 obtain⟨rfl,hr⟩:=D;refine az (ah ?_);obtain rfl:=sI h;exact hr
def uk(c:List eD):Option (List eD):=(if c.isEmpty=true then some []else(if(([]:List eD).length+c.length)*16≤140737488355328∧([]:List eD).length+c.length≤9223372036854775807 then some (([]:List eD)++c)else none))
theorem Am(j:Bool){c f:List eD}(h:uk c=some f):
  Pure Tryz.prog 51 [.p j (.slice (.prod (.int .i32) Y1)) c] (aG (aU false [⟨(.slice (.prod (.int .i32) Y1)),f⟩])):=by
 refine PB Tryz.func51 (fun Bw w0=> ?_);unfold uk at h;refine G (af (DP gS (d:=3) (e:=4) (A:=(.prod (.int .i32) Y1)) (xs:=c) (el:=87) (β:=j) rfl rfl rfl rfl rfl (by kernel_rfl) (by kernel_rfl) (by kernel_rfl) (fun b hb=> ?_)));cases b with
 | true =>
  obtain rfl:=hb rfl;obtain rfl:=sI h;exact nQ rfl (G (ao (ah (RI [(.slice (.prod (.int .i32) Y1))]))))
 | false =>
  replace h:(if(([]:List eD).length+c.length)*16≤140737488355328∧([]:List eD).length+c.length≤9223372036854775807 then some (([]:List eD)++c)else none)=some f:=by cases c <;> simpa using h
  refine mu rfl (ae (ab (GC 2 h (fun h=>ao ?_))));obtain rfl:=sI h;exact RI [(.slice (.prod (.int .i32) Y1))]
def rL(c:List jd):(Unit)→Option ((Unit)⊕(Unit)):=fun _ =>
 (if(decide (0<(c.length:Int)))=true then none
 else some (Sum.inr ()))
def uj(c:List jd):Option (Option Iv) :=
 (if 0≤(1:Int)∧(1:Int)≤1∧32*(1:Int)≤281474976710656∧(1:Int)≤9223372036854775807 then((iter (rL c) ()).bind fun _=>some (some ((List.replicate (1:Int).toNat (([]:List (Int×Int)),([]:List Int))),()):Option Iv))else none)
theorem Ah(c:Bool){f:List jd}{e:Option Iv}(h:uj f=some e):
  Pure Tryz.prog 52 [.p c (.slice wS) f] (aG (aU false [⟨(.ptr tZ),e⟩])):=by
 refine PB Tryz.func52 (fun Bw w0=> ?_);unfold uj at h;refine G (GC 0 h (fun h=>af (G (ak (cd h (fun _=>ay [(3,.adr 0 0 1 0),(17,.p c (.slice wS) f),(18,.i64 (f.length:Int)),(19,.i64 0)] [(0,.box [.sl 1]),(1,.arr 233 KL (List.replicate (1:Int).toNat (([]:List (Int×Int)),([]:List Int))))] 2) 0 (fun _=>ay [(3,.adr 0 0 1 0)] [(0,.box [.sl 1]),(1,.arr 233 KL (List.replicate (1:Int).toNat (([]:List (Int×Int)),([]:List Int))))] 2) (gg [] [24,8]) (fun y o h=> ?_) (fun k h=> ?_))))))
 ·unfold rL at h;refine G (af (aA h (fun j h=> ?_) (fun j h=> ?_)))
  ·refine ae (ab (af (ak (af ?_))));cases h
  refine aq (aL ?_);exact eX h (gg [] [0,1])
 refine av (ab (G (nA [.frzC 0 0] (by kernel_rfl) (ao ?_))));obtain rfl:=sI h;exact RI [(.ptr tZ)]
def o5(j:List UInt8)(c:List eD)(f e:Int):Option ((Option Z5)×Int×Int) :=
 ((qK c).bind fun q =>
 (if(!q)=true then some ((none:Option Z5),10,0)
 else(((if(decide (f<1))=true then some (true)
 else(if(decide (e<1))=true then some (true)
 else(if(decide (f > 24))=true then some (true)
 else some ((decide (e > 24))))))).bind fun v1=>(if v1=true then some ((none:Option Z5),40,0)
 else((rh j).bind fun(p,k) =>
 (if(k.1 != 0)=true then some ((none:Option Z5),k.1,k.2)
 else((uk c).bind fun u =>
 ((uj p.1).bind fun m =>
 some ((some (u,m,p.2,f,e):Option Z5),0,0)))))))))
theorem AN(k:Bool){f:List UInt8}{c:List eD}{j e:Int}{u:(Option Z5)×Int×Int}(h:o5 f c j e=some u):
  Pure Tryz.prog 31 [.st f,.p k (.slice (.prod (.int .i32) Y1)) c,.i64 j,.i64 e] (aG (aU false [⟨(.ptr nm),u.1⟩,⟨Y2,u.2⟩])):=by
 refine PB Tryz.func31 (fun Bw w0=> ?_);unfold o5 at h;refine G (af ?_);obtain⟨M,C,h⟩:=aj h;refine GP 1 (yh k C) (aA h (fun D h=> ?_) (fun D h=> ?_))
 ·refine G (ao (ah ?_));obtain rfl:=sI h;exact RI [(.ptr nm),Y2]
 refine ae (ab (af (af (bg h (fun v1=>ay [(0,.st f),(1,.p k (.slice (.prod (.int .i32) Y1)) c),(2,.i64 j),(3,.i64 e),(9,.adr 0 0 2 0),(29,.bo v1)] [(0,.box [.i64 0,.i64 0])] 1) (fun v1 h=> ?_) (fun v1 h=> ?_)))))
 ·rcases aF h with⟨q,h⟩ | ⟨q,h⟩
  ·exact bq ⟨[(2,true),(5,true)],[]⟩ [(3,5,oc q)] (eN h (gg [] [8]))
  rcases aF h with⟨v,h⟩ | ⟨v,h⟩
  ·exact bq ⟨[(2,false),(5,false),(6,true),(9,true)],[]⟩ [(3,4,an q),(5,5,oc q),(7,9,oc v)] (eN h (gg [] [8]))
  rcases aF h with⟨m,h⟩ | ⟨m,h⟩
  ·exact bq ⟨[(2,false),(5,false),(6,false),(9,false),(10,true),(13,true)],[]⟩ [(3,4,an q),(5,5,oc q),(7,8,an v),(9,9,oc v),(11,13,oc m)] (eN h (gg [] [8]))
  exact bq ⟨[(2,false),(5,false),(6,false),(9,false),(10,false),(13,false)],[]⟩ [(3,4,an q),(5,5,oc q),(7,8,an v),(9,9,oc v),(11,12,an m),(13,13,oc m)] (eN h (gg [] [8]))
 refine ab (aA h (fun A h=> ?_) (fun A h=> ?_))
 ·refine G (ao (ah ?_));obtain rfl:=sI h;exact RI [(.ptr nm),Y2]
 refine ae (ab ?_);obtain⟨⟨N,O⟩,E,h⟩:=aj h;refine GP 1 (xV E) (af (G (aA h (fun B h=> ?_) (fun B h=> ?_))))
 ·refine GD a0 [] (ao (ah ?_));obtain rfl:=sI h;exact RI [(.ptr nm),Y2]
 refine ae (ab ?_);obtain⟨R,I,h⟩:=aj h;obtain⟨J,L,h⟩:=aj h;have x:=(Am k I);have z:=(Ah false L);refine GD ⟨[],[(1,(oP x)),(4,(oP z))]⟩ [(1,1,oc x),(4,4,oc z)] (ao ?_);obtain rfl:=sI h;exact RI [(.ptr nm),Y2]
def mJ(C D E I:List eD)(J L M:List UInt8)(N O:Int):Option ((Option Z1)×Int×Int) :=
 ((jJ J).bind fun(A,k) =>
 (if(k.1 != 0)=true then some ((none:Option Z1),k.1,k.2)
 else((jJ L).bind fun(B,m) =>
 (if(m.1 != 0)=true then some ((none:Option Z1),m.1,m.2)
 else((cH A).bind fun p =>
 ((cH B).bind fun q =>
 (if 0≤(0:Int)∧0<((3:Nat):Int)then((gA C p).bind fun(u,e) =>
 (if(e != 0)=true then some ((none:Option Z1),e,0)
 else(if 0≤(1:Int)∧1<((3:Nat):Int)then((gA D q).bind fun(v,f) =>
 (if(f != 0)=true then some ((none:Option Z1),f,0)
 else(if 0≤(2:Int)∧2<((3:Nat):Int)then((gA E 3).bind fun(x,j) =>
 (if(j != 0)=true then some ((none:Option Z1),j,0)
 else((o5 M I N O).bind fun(z,c) =>
 (if(c.1 != 0)=true then some ((none:Option Z1),c.1,c.2)
 else some ((some (A,B,u,v,x,z):Option Z1),0,0)))))else none)))else none)))else none)))))))
theorem Ci(e f j k:Bool){A B:List eD}{C D:List eD}{E I J:List UInt8}{L M:Int}{c:(Option Z1)×Int×Int}(h:mJ A B C D E I J L M=some c):
  Pure Tryz.prog 13 [.agg [.p e (.slice (.prod (.int .i32) Y1)) A,.p f (.slice (.prod (.int .i32) Y1)) B,.p j (.slice (.prod (.int .i32) Y1)) C,.p k (.slice (.prod (.int .i32) Y1)) D,.st E,.st I,.st J,.i64 L,.i64 M]] (aG (aU false [⟨(.ptr u7),c.1⟩,⟨Y2,c.2⟩])):=by
 refine PB Tryz.func13 (fun Bw w0=> ?_);unfold mJ at h;refine G (G (G (af ?_)));obtain⟨⟨r3,r4⟩,N,h⟩:=aj h;refine GP 3 (uq N) (G (aA h (fun O h=> ?_) (fun O h=> ?_)))
 ·refine GD a0 [] (ao (ah ?_));obtain rfl:=sI h;exact RI [(.ptr u7),Y2]
 refine ae (ab (af ?_));obtain⟨⟨r7,r8⟩,R,h⟩:=aj h;refine GP 3 (uq R) (G (aA h (fun V h=> ?_) (fun V h=> ?_)))
 ·refine GD a0 [] (ao (ah ?_));obtain rfl:=sI h;exact RI [(.ptr u7),Y2]
 refine ae (ab (af ?_));obtain⟨X,Y,h⟩:=aj h;obtain⟨Z,q8,h⟩:=aj h;have m:=(iX false Y);have q:=(iX false q8);refine GD ⟨[],[(9,(oP m)),(20,(oP q))]⟩ [(9,9,oc m),(20,20,oc q)] (ak (vH 9 (G (af (nQ rfl (ae (ab (af (ak (GC 0 h (fun h=> ?_)))))))))));obtain⟨⟨a1,a2⟩,u,h⟩:=aj h;refine GP 4 (m5 e u) (af (G (aA h (fun B3 h=> ?_) (fun B3 h=> ?_))))
 ·refine G (ao (ah (az (ah (CV (az (ah ?_)))))));obtain rfl:=sI h;exact RI [(.ptr u7),Y2]
 refine ae (ab (Ge (au (ab (Ge (sY (G (af (nQ rfl (ae (ab (af (ak (GC 0 h (fun h=> ?_)))))))))))))));obtain⟨⟨a3,a4⟩,v,h⟩:=aj h;refine GP 4 (m5 f v) (af (G (aA h (fun B4 h=> ?_) (fun B4 h=> ?_))))
 ·refine G (ao (ah (az (ah (CV (az (ah ?_)))))));obtain rfl:=sI h;exact RI [(.ptr u7),Y2]
 refine ae (ab (Ge (au (ab (Ge (sY (G (af (nQ rfl (ae (ab (af (ak (GC 0 h (fun h=> ?_)))))))))))))));obtain⟨⟨a5,a6⟩,x,h⟩:=aj h;refine GP 4 (m5 j x) (af (G (aA h (fun B5 h=> ?_) (fun B5 h=> ?_))))
 ·refine G (ao (ah (az (ah (CV (az (ah ?_)))))));obtain rfl:=sI h;exact RI [(.ptr u7),Y2]
 refine ae (ab (Ge (au (ab (Ge (sY (G (af (mu rfl (aq (aL (LP (av (ab (af ?_)))))))))))))));obtain⟨⟨a7,a8⟩,z,h⟩:=aj h;refine GP 9 (AN k z) (G (aA h (fun B6 h=> ?_) (fun B6 h=> ?_)))
 ·refine GD a0 [] (ao (ah ?_));obtain rfl:=sI h;exact RI [(.ptr u7),Y2]
 refine ae (ab (G (ao ?_)));obtain rfl:=sI h;exact RI [(.ptr u7),Y2]
def cU(e f m j k:Int)(_:Option Nat):Option (Bool) :=
 (((if(decide (e≥1))=true then(if(decide (e≤1048576))=true then(if(decide (f≥1))=true then(if(decide (f≤64))=true then(if(decide (m≤1))=true then(if(decide (j≥0))=true then(if(decide (j≤1048576))=true then(if(decide (k≥0))=true then some ((decide (k≤1048576)))
 else some (false))
 else some (false))
 else some (false))
 else some (false))
 else some (false))
 else some (false))
 else some (false))
 else some (false))).bind fun v1=>some v1)
theorem qB{x z:Int}{A B C:Int}{D:Option Nat}{v:Bool}(h:cU x z A B C D=some v):
  Pure Tryz.prog 32 [.agg [.i64 x,.i64 z,.u8 A,.i64 B,.i64 C,.p false .flt D]] (aG (aU false [⟨.bool,v⟩])):=by
 refine PB Tryz.func32 (fun Bw w0=> ?_);unfold cU at h;refine G (af (bg h (fun v1=>ay [(2,.bo v1)] [] 0) (fun v1 h=> ?_) (fun v1 h=> ?_)))
 ·rcases aF h with⟨c,h⟩ | ⟨c,h⟩
  ·rcases aF h with⟨e,h⟩ | ⟨e,h⟩
   ·rcases aF h with⟨f,h⟩ | ⟨f,h⟩
    ·rcases aF h with⟨j,h⟩ | ⟨j,h⟩
     ·rcases aF h with⟨k,h⟩ | ⟨k,h⟩
      ·rcases aF h with⟨m,h⟩ | ⟨m,h⟩
       ·rcases aF h with⟨q,h⟩ | ⟨q,h⟩
        ·rcases aF h with⟨u,h⟩ | ⟨u,h⟩
         ·exact bq ⟨[(3,true),(7,true),(8,true),(12,true),(13,true),(17,true),(18,true),(22,true),(23,true),(27,true),(28,true),(32,true),(33,true),(37,true),(38,true),(42,true)],[]⟩ [(4,6,an c),(7,7,oc c),(9,11,an e),(12,12,oc e),(14,16,an f),(17,17,oc f),(19,21,an j),(22,22,oc j),(24,26,an k),(27,27,oc k),(29,31,an m),(32,32,oc m),(34,36,an q),(37,37,oc q),(39,41,an u),(42,42,oc u)] (eN h (gg [] []))
         exact bq ⟨[(3,true),(7,true),(8,true),(12,true),(13,true),(17,true),(18,true),(22,true),(23,true),(27,true),(28,true),(32,true),(33,true),(37,true),(38,false),(42,false)],[]⟩ [(4,6,an c),(7,7,oc c),(9,11,an e),(12,12,oc e),(14,16,an f),(17,17,oc f),(19,21,an j),(22,22,oc j),(24,26,an k),(27,27,oc k),(29,31,an m),(32,32,oc m),(34,36,an q),(37,37,oc q),(39,42,oc u)] (eN h (gg [] []))
        exact bq ⟨[(3,true),(7,true),(8,true),(12,true),(13,true),(17,true),(18,true),(22,true),(23,true),(27,true),(28,true),(32,true),(33,false),(37,false)],[]⟩ [(4,6,an c),(7,7,oc c),(9,11,an e),(12,12,oc e),(14,16,an f),(17,17,oc f),(19,21,an j),(22,22,oc j),(24,26,an k),(27,27,oc k),(29,31,an m),(32,32,oc m),(34,37,oc q)] (eN h (gg [] []))
       exact bq ⟨[(3,true),(7,true),(8,true),(12,true),(13,true),(17,true),(18,true),(22,true),(23,true),(27,true),(28,false),(32,false)],[]⟩ [(4,6,an c),(7,7,oc c),(9,11,an e),(12,12,oc e),(14,16,an f),(17,17,oc f),(19,21,an j),(22,22,oc j),(24,26,an k),(27,27,oc k),(29,32,oc m)] (eN h (gg [] []))
      exact bq ⟨[(3,true),(7,true),(8,true),(12,true),(13,true),(17,true),(18,true),(22,true),(23,false),(27,false)],[]⟩ [(4,6,an c),(7,7,oc c),(9,11,an e),(12,12,oc e),(14,16,an f),(17,17,oc f),(19,21,an j),(22,22,oc j),(24,27,oc k)] (eN h (gg [] []))
     exact bq ⟨[(3,true),(7,true),(8,true),(12,true),(13,true),(17,true),(18,false),(22,false)],[]⟩ [(4,6,an c),(7,7,oc c),(9,11,an e),(12,12,oc e),(14,16,an f),(17,17,oc f),(19,22,oc j)] (eN h (gg [] []))
    exact bq ⟨[(3,true),(7,true),(8,true),(12,true),(13,false),(17,false)],[]⟩ [(4,6,an c),(7,7,oc c),(9,11,an e),(12,12,oc e),(14,17,oc f)] (eN h (gg [] []))
   exact bq ⟨[(3,true),(7,true),(8,false),(12,false)],[]⟩ [(4,6,an c),(7,7,oc c),(9,12,oc e)] (eN h (gg [] []))
  exact bq ⟨[(3,false),(7,false)],[]⟩ [(4,7,oc c)] (eN h (gg [] []))
 refine ab (ao ?_);obtain rfl:=sI h;exact RI [.bool]
def cv(c:List Int):Option (List Int):=(if c.isEmpty=true then some []else(if(([]:List Int).length+c.length)*1≤140737488355328∧([]:List Int).length+c.length≤9223372036854775807 then some (([]:List Int)++c)else none))
theorem lJ(j:Bool){c f:List Int}(h:cv c=some f):
  Pure Tryz.prog 34 [.p j (.slice (.int .u8)) c] (aG (aU false [⟨(.slice (.int .u8)),f⟩])):=by
 refine PB Tryz.func34 (fun Bw w0=> ?_);unfold cv at h;refine G (af (DP gS (d:=3) (e:=4) (A:=(.int .u8)) (xs:=c) (el:=5) (β:=j) rfl rfl rfl rfl rfl (by kernel_rfl) (by kernel_rfl) (by kernel_rfl) (fun b hb=> ?_)));cases b with
 | true =>
  obtain rfl:=hb rfl;obtain rfl:=sI h;exact nQ rfl (G (ao (ah (RI [(.slice (.int .u8))]))))
 | false =>
  replace h:(if(([]:List Int).length+c.length)*1≤140737488355328∧([]:List Int).length+c.length≤9223372036854775807 then some (([]:List Int)++c)else none)=some f:=by cases c <;> simpa using h
  refine mu rfl (ae (ab (GC 2 h (fun h=>ao ?_))));obtain rfl:=sI h;exact RI [(.slice (.int .u8))]
def ba(e:Option AE)(c:Int):Option (Int) :=
 (((if e.isNone=true then some (true)
 else(if(decide (c<0))=true then some (true)
 else some ((decide (c > 1114111)))))).bind fun v1=>(if v1=true then some 0
 else(if e.isSome=true then(if 0≤(8:Int)then(if e.isSome=true then(if 0≤(Int.fdiv c (2 ^ (min (8:Int).toNat i32.bits)))∧(Int.fdiv c (2 ^ (min (8:Int).toNat i32.bits)))<((4352:Nat):Int)then(if 0≤(eP ((e.getD (Ty.zero xn)).1) (Int.fdiv c (2 ^ (min (8:Int).toNat i32.bits))).toNat)∧(eP ((e.getD (Ty.zero xn)).1) (Int.fdiv c (2 ^ (min (8:Int).toNat i32.bits))).toNat)<(((e.getD (Ty.zero xn)).2).length:Int)then(if 0≤(bitsOf .and .i32 c 255)∧(bitsOf .and .i32 c 255)<((256:Nat):Int)then some (i64.wrap (eP (((e.getD (Ty.zero xn)).2).getD ((eP ((e.getD (Ty.zero xn)).1) (Int.fdiv c (2 ^ (min (8:Int).toNat i32.bits))).toNat).toNat) (cW 256)) (bitsOf .and .i32 c 255).toNat))else none)else none)else none)else none)else none)else none)))
theorem mE(f:Bool){m:Option AE}{q j:Int}(h:ba m q=some j):
  Pure Tryz.prog 123 [.p f (.ptr xn) m,.i32 q] (aG (aU false [⟨(.int .i64),j⟩])):=by
 refine PB Tryz.func123 (fun Bw w0=> ?_);unfold ba at h;refine G (af (af (bg h (fun v1=>ay [(0,.p f (.ptr xn) m),(1,.i32 q),(14,.bo v1)] [] 0) (fun v1 h=> ?_) (fun v1 h=> ?_))))
 ·rcases aF h with⟨c,h⟩ | ⟨c,h⟩
  ·exact bq ⟨[(2,true),(5,true)],[]⟩ [(1,1,⟨∃e,Tryz.prog.underlying 98=some (.pointer e),⟨_,rfl⟩⟩),(3,5,oc c)] (eN h (gg [] []))
  rcases aF h with⟨k,h⟩ | ⟨k,h⟩
  ·exact bq ⟨[(2,false),(5,false),(6,true),(9,true)],[]⟩ [(1,1,⟨∃e,Tryz.prog.underlying 98=some (.pointer e),⟨_,rfl⟩⟩),(3,4,an c),(5,5,oc c),(7,9,oc k)] (eN h (gg [] []))
  exact bq ⟨[(2,false),(5,false),(6,false),(9,false)],[]⟩ [(1,1,⟨∃e,Tryz.prog.underlying 98=some (.pointer e),⟨_,rfl⟩⟩),(3,4,an c),(5,5,oc c),(7,8,an k),(9,9,oc k)] (eN h (gg [] []))
 refine ab (aA h (fun z h=> ?_) (fun z h=> ?_))
 ·refine G (ao (ah ?_));obtain rfl:=sI h;exact RI [(.int .i64)]
 refine ae (ab ?_);obtain⟨A,B,C,u,h⟩:=g4 h;obtain⟨v,x,h⟩:=g2 h;refine GD a0 [(1,1,oc A),(6,6,oc B),(7,7,oc C),(9,9,oc u),(13,13,oc v),(14,14,oc x)] (ao ?_);obtain rfl:=sI h;exact RI [(.int .i64)]
def cT(j:Option AE)(f:List eD):tP→Option (tP⊕(List Int)):=fun(c,e) =>
 (if(decide (e<(f.length:Int)))=true then(if 0≤e∧e<(f.length:Int)then((ba j ((f.getD e.toNat (0,0,0)).1)).bind fun k =>
 (if 0≤e∧e<(c.length:Int)then(if e.toNat<c.length then some (Sum.inl ((c.set e.toNat k),(i64.wrap (e+1))))else none)else none))else none)
 else some (Sum.inr c))
def b8(f:Option AE)(c:List eD):Option (List Int) :=
 (if 0≤(c.length:Int)∧(c.length:Int)≤(c.length:Int)∧8*(c.length:Int)≤281474976710656∧(c.length:Int)≤9223372036854775807 then((iter (cT f c) ((List.replicate (c.length:Int).toNat (0:Int)),0)).bind fun e=>some e)else none)
theorem kY(f j:Bool){u:Option AE}{q:List eD}{k:List Int}(h:b8 u q=some k):
  Pure Tryz.prog 85 [.p f (.ptr xn) u,.p j (.slice (.prod (.int .i32) Y2)) q] (aG (aU false [⟨(.slice (.int .i64)),k⟩])):=by
 refine PB Tryz.func85 (fun Bw w0=> ?_);unfold b8 at h;refine G (GC 2 h (fun h=>af (G (ak (cd h (fun(c,z)=>ay [(0,.p f (.ptr xn) u),(5,.sl 0),(11,.p j (.slice (.prod (.int .i32) Y2)) q),(12,.i64 (q.length:Int)),(13,.i64 z)] [(0,.arr 3 (.int .i64) c)] 1) 0 (fun e=>ay [(5,.sl 0)] [(0,.arr 3 (.int .i64) e)] 1) (gg [] [24]) (fun y o h=> ?_) (fun e h=> ?_))))))
 ·obtain⟨c,z⟩:=y;unfold cT at h;refine G (af (aA h (fun A h=> ?_) (fun A h=> ?_)))
  ·refine ae (ab (af (ak (GC 1 h (fun h=> ?_)))));obtain⟨C,B,h⟩:=aj h;obtain⟨v,x,h⟩:=g2 h;have m:=(mE f B);refine bq ⟨[],[(5,(oP m))]⟩ [(5,5,oc m),(6,6,oc v),(7,7,oc x)] (au (ab (Ge ?_)));exact eB h (gg [] [0])
  refine aq (aL ?_);exact eX h (gg [] [0])
 refine av (ab (G (ao ?_)));obtain rfl:=sI h;exact RI [(.slice (.int .i64))]
def jF(j:List (List Int))(c:List Int):((List Int)×Int×Int)→Option (((List Int)×Int×Int)⊕(List Int)):=fun(e,f,v4) =>
 (if(decide (v4<(c.length:Int)))=true then(if 0≤v4∧v4<(c.length:Int)then(((if(decide ((c.getD v4.toNat 0)<0))=true then some (true)
 else(if 0≤f∧f<(j.length:Int)then some ((decide ((c.getD v4.toNat 0)≥((j.getD f.toNat []).length:Int))))else none))).bind fun k=>(if k=true then some (Sum.inr e)
 else(if 0≤f∧f<(j.length:Int)then(if 0≤(c.getD v4.toNat 0)∧(c.getD v4.toNat 0)<((j.getD f.toNat []).length:Int)then(if(e.length+([((j.getD f.toNat []).getD ((c.getD v4.toNat 0).toNat) 0)]:List Int).length)*8≤140737488355328∧e.length+([((j.getD f.toNat []).getD ((c.getD v4.toNat 0).toNat) 0)]:List Int).length≤9223372036854775807 then some (Sum.inl ((e++([((j.getD f.toNat []).getD ((c.getD v4.toNat 0).toNat) 0)]:List Int)),((j.getD f.toNat []).getD ((c.getD v4.toNat 0).toNat) 0),(i64.wrap (v4+1))))else none)else none)else none)))else none)
 else some (Sum.inr e))
def my(f:List (List Int))(_ c:List Int):Option (List Int) :=
 (if((f.length:Int) == 0)=true then some ([]:List Int)
 else((iter (jF f c) (([0]:List Int),0,0)).bind fun e=>some e))
theorem u5(k m q:Bool){v:List (List Int)}{x c u:List Int}(h:my v x c=some u):
  Pure Tryz.prog 120 [.agg [.p k (.slice (.slice (.int .i64))) v,.p m (.slice (.int .u32)) x],.p q (.slice (.int .i64)) c] (aG (aU false [⟨(.slice (.int .i64)),u⟩])):=by
 refine PB Tryz.func120 (fun Bw w0=> ?_);unfold my at h;refine G (af (G (aA h (fun J h=> ?_) (fun J h=> ?_))))
 ·refine G (ao (ah ?_));obtain rfl:=sI h;exact RI [(.slice (.int .i64))]
 refine ae (ab (G (G (af (G (ak (cd h (fun(f,z,v4)=>ay [(2,.adr 0 0 2 0),(5,.sl 1),(6,.i64 z),(14,.p q (.slice (.int .i64)) c),(15,.i64 (c.length:Int)),(16,.i64 v4)] (KE k v m x f) 2) 0 (fun j=>ay [(5,.sl 0)] [(0,.arr 3 (.int .i64) j)] 1) (gg [] [0,48]) (fun y o h=> ?_) (fun j h=> ?_))))))))
 ·obtain⟨f,z,v4⟩:=y;unfold jF at h;refine G (af (aA h (fun A h=> ?_) (fun A h=> ?_)))
  ·refine ae (ab (af (ak (GC 0 h (fun h=>af (af (bg h (fun B=>ay [(2,.adr 0 0 2 0),(5,.sl 1),(6,.i64 z),(8,.i64 (c.getD v4.toNat 0)),(14,.p q (.slice (.int .i64)) c),(15,.i64 (c.length:Int)),(16,.i64 v4),(31,.bo B)] (KE k v m x f) 2) (fun B h=> ?_) (fun B h=> ?_))))))))
   ·rcases aF h with⟨e,h⟩ | ⟨e,h⟩
    ·exact bq ⟨[(2,true),(11,true)],[]⟩ [(3,11,oc e)] (eN h (gg [] [0,1]))
    obtain⟨C,h⟩:=aD h;exact bq ⟨[(2,false),(11,false)],[]⟩ [(3,6,an e),(7,7,oc (And.intro e C)),(8,10,an e),(11,11,oc e)] (eN h (gg [] [0,1]))
   refine ab (aA h (fun D h=> ?_) (fun D h=> ?_))
   ·refine aq (aL (ix rfl (aL ?_)));exact eX h (gg [] [1])
   refine ae (ab ?_);obtain⟨E,I,h⟩:=g2 h;refine GN a0 [(3,3,oc E),(6,6,oc I)] (tq 3 h (fun h=>au (ab (Ge ?_))));exact eB h (gg [] [0,98])
  refine aq (aL ?_);exact eX h (gg [] [1])
 refine av (ab (G (ao ?_)));obtain rfl:=sI h;exact RI [(.slice (.int .i64))]
def bI  : ((List Int)×Int×Int)→Option (((List Int)×Int×Int)⊕(List Int)):=fun(c,e,f) =>
 (if(decide (e<f))=true then(if 0≤f∧f<(c.length:Int)then(if f.toNat<c.length then(if 0≤e∧e<(c.length:Int)then(if e.toNat<c.length then(if 0≤e∧e<(c.length:Int)then(if e.toNat<c.length then(if 0≤f∧f<((c.set e.toNat (c.getD f.toNat 0)).length:Int)then(if f.toNat<(c.set e.toNat (c.getD f.toNat 0)).length then some (Sum.inl (((c.set e.toNat (c.getD f.toNat 0)).set f.toNat (c.getD e.toNat 0)),(i64.wrap (e+1)),(i64.wrap (f - 1))))else none)else none)else none)else none)else none)else none)else none)else none)
 else some (Sum.inr c))
def bX(c:List Int):Option (List Int) :=
 ((iter (bI) (c,0,(i64.wrap ((c.length:Int) - 1)))).bind fun e=>some e)
theorem j6{x c:List Int}(h:bX x=some c):
  ff Tryz.prog 121 [.sl 0] [(0,.arr 3 (.int .i64) x)] (.tup []) [(0,.arr 3 (.int .i64) c)]:=by
 refine OB Tryz.func121 (fun Bw w0=> ?_);unfold bX at h;refine G (ak (cd h (fun(z,A,B)=>ay [(0,.sl 0),(2,.i64 A),(3,.i64 B)] [(0,.arr 3 (.int .i64) z)] 1 1) 0 (fun e=>ay [] [(0,.arr 3 (.int .i64) e)] 1 1) (gg [] [0]) (fun y o h=> ?_) (fun e h=> ?_)))
 ·obtain⟨z,A,B⟩:=y;unfold bI at h;refine af (G (aA h (fun C h=> ?_) (fun C h=> ?_)))
  ·refine ae (ab (af (ak ?_)));obtain⟨f,j,k,m,h⟩:=g4 h;obtain⟨p,q,u,v,h⟩:=g4 h;refine jC a0 [(6,6,oc f),(7,7,oc j),(10,10,oc k),(11,11,oc m),(12,12,oc p),(13,13,oc q),(14,14,oc u),(15,15,oc v)] (au (ab (Ge ?_)));exact eB h (gg [] [0])
  refine aq (aL ?_);exact eX h (gg [] [0])
 refine av ?_;obtain rfl:=sI h;exact(RO [] [] [0] [] [(0,.arr 3 (.int .i64) e)] 1 1).normal
def fZ(c:Int):Option (Int):=some (qh c)
theorem lF(x:Int)(w:World)(hl:uQ Tryz.prog w):Calls Tryz.prog 122 #[.int .u32 x] w fun e c=>e = .returned (.int .i64 (qh x))∧c=w:=by
 have f:w.cell? ⟨0,(bits BinOp.and u32 x (-x % 4294967296)*125613361 % 4294967296 / 134217728).toNat,none⟩=some (.int .u8 (Kg.getD (bits BinOp.and u32 x (-x % 4294967296)*125613361 % 4294967296 / 134217728).toNat 0)):=hl 0 (by kernel_rfl) _ (Gq _);go_enter Tryz.func122,Tryz.ntmps122;go_wp2
 ·rename_i h;go_ret
  exact⟨by rw[FX h];rfl,rfl⟩
 rename_i h;go_ret
 exact⟨by rw[←GV h,List.getD_eq_getElem?_getD];rfl,rfl⟩
theorem mV{e c:Int}(h:fZ e=some c):
  Pure Tryz.prog 122 [.u32 e] (aG (aU false [⟨(.int .i64),c⟩])):=by
 obtain rfl:=sI h;exact Pure.KX Tryz.func122 (by kernel_rfl) rfl (fun w=>lF _ w)
def cV(f:Option Z7)(j:List Int):((List Int)×(List Int)×Bool×Int)→Option (((List Int)×(List Int)×Bool×Int)⊕jd):=fun(v10,v11,k,c) =>
 (if(decide (c<(j.length:Int)))=true then(if 0≤c∧c<(j.length:Int)then(((if(decide ((j.getD c.toNat 0)<0))=true then some (true)
 else(if f.isSome=true then some ((decide ((j.getD c.toNat 0)≥(((f.getD (Ty.zero mw)).1.1).length:Int))))else none))).bind fun m=>(((if m=true then some (0)
 else some ((j.getD c.toNat 0)))).bind fun e=>(((if k=true then(if f.isSome=true then(if 0≤e then some (((bitsOf .and .u32 (Int.fdiv ((f.getD (Ty.zero mw)).1.2.1) (2 ^ (min e.toNat u32.bits))) (1:Int)) == 1))else none)else none)
 else some (false))).bind fun p=>(if p=true then some (Sum.inl (v10,v11,k,(i64.wrap (c+1))))
 else(if f.isSome=true then(if 0≤e then(if(v10.length+([c]:List Int).length)*8≤140737488355328∧v10.length+([c]:List Int).length≤9223372036854775807 then(if f.isSome=true then(if 0≤e∧e<(((f.getD (Ty.zero mw)).1.2.2.2.1).length:Int)then(if(v11.length+([(((f.getD (Ty.zero mw)).1.2.2.2.1).getD e.toNat 0)]:List Int).length)*8≤140737488355328∧v11.length+([(((f.getD (Ty.zero mw)).1.2.2.2.1).getD e.toNat 0)]:List Int).length≤9223372036854775807 then some (Sum.inl ((v10++([c]:List Int)),(v11++([(((f.getD (Ty.zero mw)).1.2.2.2.1).getD e.toNat 0)]:List Int)),((bitsOf .and .u32 (Int.fdiv ((f.getD (Ty.zero mw)).1.2.2.1) (2 ^ (min e.toNat u32.bits))) (1:Int)) == 1),(i64.wrap (c+1))))else none)else none)else none)else none)else none)else none)))))else none)
 else some (Sum.inr (v10,v11)))
def cS(j:Option Z7)(e m p:List Int):tP→Option (tP⊕(List Int)):=fun(f,c) =>
 (if(decide (c<(e.length:Int)))=true then(if j.isSome=true then(if 0≤c∧c<(m.length:Int)then(if 0≤(m.getD c.toNat 0)∧(m.getD c.toNat 0)<(((j.getD (Ty.zero mw)).2.1.2).length:Int)then(if j.isSome=true then(if 0≤(i64.wrap ((e.length:Int) - c))∧(i64.wrap ((e.length:Int) - c))<(p.length:Int)then(if 0≤(p.getD ((i64.wrap ((e.length:Int) - c)).toNat) 0)∧(p.getD ((i64.wrap ((e.length:Int) - c)).toNat) 0)<(((j.getD (Ty.zero mw)).2.2.2).length:Int)then(if 0≤c∧c<(e.length:Int)then(if c.toNat<e.length then(if 0≤(e.getD c.toNat 0)∧(e.getD c.toNat 0)<(f.length:Int)then(if(e.getD c.toNat 0).toNat<f.length then(((if((bitsOf .and .u32 (((j.getD (Ty.zero mw)).2.1.2).getD ((m.getD c.toNat 0).toNat) 0) (((j.getD (Ty.zero mw)).2.2.2).getD ((p.getD ((i64.wrap ((e.length:Int) - c)).toNat) 0).toNat) 0)) != 0)=true then(if 0≤c∧c<(e.length:Int)then(if c.toNat<e.length then(if j.isSome=true then((fZ (bitsOf .and .u32 (((j.getD (Ty.zero mw)).2.1.2).getD ((m.getD c.toNat 0).toNat) 0) (((j.getD (Ty.zero mw)).2.2.2).getD ((p.getD ((i64.wrap ((e.length:Int) - c)).toNat) 0).toNat) 0))).bind fun k =>
 (if 0≤k∧k<(((j.getD (Ty.zero mw)).1.2.2.2.2).length:Int)then(if 0≤(e.getD c.toNat 0)∧(e.getD c.toNat 0)<((f.set ((e.getD c.toNat 0).toNat) 1).length:Int)then(if(e.getD c.toNat 0).toNat<(f.set ((e.getD c.toNat 0).toNat) 1).length then some (((f.set ((e.getD c.toNat 0).toNat) 1).set ((e.getD c.toNat 0).toNat) ((((j.getD (Ty.zero mw)).1.2.2.2.2).getD k.toNat (0,(Tree.node 0 0 []),(Tree.node 0 0 []))).1)))else none)else none)else none))else none)else none)else none)
 else some ((f.set ((e.getD c.toNat 0).toNat) 1)))).bind fun q=>some (Sum.inl (q,(i64.wrap (c+1)))))else none)else none)else none)else none)else none)else none)else none)else none)else none)else none)
 else some (Sum.inr f))
def dP(e:Option Z7)(c:List Int):Option (List Int) :=
 (if 0≤(i64.wrap ((c.length:Int)+1))∧(i64.wrap ((c.length:Int)+1))≤(i64.wrap ((c.length:Int)+1))∧1*(i64.wrap ((c.length:Int)+1))≤281474976710656∧(i64.wrap ((c.length:Int)+1))≤9223372036854775807 then(if 0≤(c.length:Int)∧(c.length:Int)<((List.replicate (i64.wrap ((c.length:Int)+1)).toNat (0:Int)).length:Int)then(if(c.length:Int).toNat<(List.replicate (i64.wrap ((c.length:Int)+1)).toNat (0:Int)).length then(if e.isNone=true then some ((List.replicate (i64.wrap ((c.length:Int)+1)).toNat (0:Int)).set ((c.length:Int).toNat) 2)
 else((iter (cV e c) (([]:List Int),([]:List Int),false,0)).bind fun(j,f)=>(if e.isSome=true then((my ((e.getD (Ty.zero mw)).2.1.1) ((e.getD (Ty.zero mw)).2.1.2) f).bind fun m =>
 ((bX f).bind fun p =>
 (if e.isSome=true then((my ((e.getD (Ty.zero mw)).2.2.1) ((e.getD (Ty.zero mw)).2.2.2) p).bind fun q =>
 ((iter (cS e j m q) (((List.replicate (i64.wrap ((c.length:Int)+1)).toNat (0:Int)).set ((c.length:Int).toNat) 2),1)).bind fun k=>some k))else none)))else none)))else none)else none)else none)
theorem kU(c u:Bool){x:Option Z7}{f I:List Int}(h:dP x f=some I):
  Pure Tryz.prog 84 [.p c (.ptr mw) x,.p u (.slice (.int .i64)) f] (aG (aU false [⟨(.slice (.int .u8)),I⟩])):=by
 refine PB Tryz.func84 (fun Bw w0=> ?_);unfold dP at h;refine G (GC 3 h (fun h=> ?_));obtain⟨c5,c6,h⟩:=g2 h;refine GN a0 [(3,3,oc c5),(4,4,oc c6)] (af (GN a0 [(1,1,⟨∃e,Tryz.prog.underlying 97=some (.pointer e),⟨_,rfl⟩⟩)] (aA h (fun B1 h=> ?_) (fun B1 h=> ?_))))
 ·refine G (ao (ah ?_));obtain rfl:=sI h;exact RI [(.slice (.int .u8))]
 refine ae (ab (G (G (af (G (ak (cd h (fun(v10,v11,v,j)=>ay [(0,.p c (.ptr mw) x),(5,.sl 0),(6,.sl 1),(7,.sl 2),(8,.bo v),(26,.p u (.slice (.int .i64)) f),(27,.i64 (f.length:Int)),(28,.i64 j)] (GF ((List.replicate (i64.wrap ((f.length:Int)+1)).toNat (0:Int)).set ((f.length:Int).toNat) 2) v10 v11) 3) 0 (fun(z,J)=>ay [(0,.p c (.ptr mw) x),(5,.sl 0),(6,.sl 1),(7,.sl 2)] (GF ((List.replicate (i64.wrap ((f.length:Int)+1)).toNat (0:Int)).set ((f.length:Int).toNat) 2) z J) 3) (gg [.nilS 6 152 3 (.int .i64),.nilS 7 153 3 (.int .i64)] [32,152,153]) (fun y o h=> ?_) (fun r1 h=> ?_))))))))
 ·obtain⟨v10,v11,v,j⟩:=y;unfold cV at h;refine G (af (aA h (fun aa h=> ?_) (fun aa h=> ?_)))
  ·refine ae (ab (af (ak (GC 1 h (fun h=>af (af (bg h (fun B=>ay [(0,.p c (.ptr mw) x),(5,.sl 0),(6,.sl 1),(7,.sl 2),(8,.bo v),(9,.i64 j),(10,.i64 (f.getD j.toNat 0)),(26,.p u (.slice (.int .i64)) f),(27,.i64 (f.length:Int)),(28,.i64 j),(44,.bo B)] (GF ((List.replicate (i64.wrap ((f.length:Int)+1)).toNat (0:Int)).set ((f.length:Int).toNat) 2) v10 v11) 3) (fun B h=> ?_) (fun B h=> ?_))))))))
   ·rcases aF h with⟨q,h⟩ | ⟨q,h⟩
    ·exact bq ⟨[(2,true),(11,true)],[]⟩ [(3,11,oc q)] (eN h (gg [] [0,1,2]))
    obtain⟨ac,h⟩:=aD h;exact bq ⟨[(2,false),(11,false)],[]⟩ [(3,4,an q),(5,5,oc (And.intro q ac)),(6,10,an q),(11,11,oc q)] (eN h (gg [] [0,1,2]))
   refine ab (bg h (fun A=>ay [(0,.p c (.ptr mw) x),(5,.sl 0),(6,.sl 1),(7,.sl 2),(8,.bo v),(9,.i64 j),(10,.i64 A),(26,.p u (.slice (.int .i64)) f),(27,.i64 (f.length:Int)),(28,.i64 j)] (GF ((List.replicate (i64.wrap ((f.length:Int)+1)).toNat (0:Int)).set ((f.length:Int).toNat) 2) v10 v11) 3) (fun A h=> ?_) (fun A h=> ?_))
   ·refine aA h (fun ad h=> ?_) (fun ad h=> ?_)
    ·exact Ge (eN h (gg [] [0,1,2]))
    exact ae (eN h (gg [] [0,1,2]))
   refine ab (af (af (bg h (fun C=>ay [(0,.p c (.ptr mw) x),(5,.sl 0),(6,.sl 1),(7,.sl 2),(8,.bo v),(9,.i64 j),(10,.i64 A),(26,.p u (.slice (.int .i64)) f),(27,.i64 (f.length:Int)),(28,.i64 j),(56,.bo C)] (GF ((List.replicate (i64.wrap ((f.length:Int)+1)).toNat (0:Int)).set ((f.length:Int).toNat) 2) v10 v11) 3) (fun C h=> ?_) (fun C h=> ?_))))
   ·rcases aF h with⟨k,h⟩ | ⟨k,h⟩
    ·obtain⟨ax,b1,h⟩:=g2 h;exact bq ⟨[(1,true),(11,true)],[]⟩ [(2,2,an k),(3,3,oc (And.intro k ax)),(4,7,an k),(8,8,oc (And.intro k b1)),(9,10,an k),(11,11,oc k)] (eN h (gg [] [0,1,2]))
    exact bq ⟨[(1,false),(11,false)],[]⟩ [(2,11,oc k)] (eN h (gg [] [0,1,2]))
   refine ab (aA h (fun b2 h=> ?_) (fun b2 h=> ?_))
   ·refine aq (aL (av (ab (Ge ?_))));exact eB h (gg [] [0,1,2])
   refine ae (ab ?_);obtain⟨b3,b4,h⟩:=g2 h;refine GN a0 [(1,1,oc b3),(6,6,oc b4)] ?_;obtain⟨b5,b6,be,bi,h⟩:=g4 h;refine jC a0 [(3,3,oc b5),(6,6,oc b6),(11,11,oc be),(14,14,oc bi)] (au (ab (Ge ?_)));exact eB h (gg [] [0,107,195])
  refine aq (aL ?_);exact eX h (gg [] [0,1,2])
 obtain⟨z,J⟩:=r1;refine av (ab ?_);obtain⟨bs,h⟩:=aD h;obtain⟨r3,q2,h⟩:=aj h;have m:=(u5 c c true q2);refine GN ⟨[],[(5,(oP m))]⟩ [(1,1,oc bs),(5,5,oc m)] ?_;obtain⟨r5,q4,h⟩:=aj h;refine GO 1 [2] (j6 q4) ?_;obtain⟨bt,h⟩:=aD h;obtain⟨r7,q6,h⟩:=aj h;have m:=(u5 c c true q6);refine GN ⟨[],[(5,(oP m))]⟩ [(1,1,oc bt),(5,5,oc m)] (af (G (ak (cd h (fun(L,D)=>ay [(0,.p c (.ptr mw) x),(5,.sl 0),(6,.sl 1),(11,.p false (.slice (.int .i64)) r3),(12,.p false (.slice (.int .i64)) r7),(13,.i64 D)] [(0,.arr 126 (.int .u8) L),(1,.arr 3 (.int .i64) z)] 2) 2 (fun M=>ay [(5,.sl 0)] [(0,.arr 126 (.int .u8) M)] 1) (gg [] [0,1]) (fun y o h=> ?_) (fun M h=> ?_)))))
 ·obtain⟨L,D⟩:=y;unfold cS at h;refine af (G (aA h (fun bv h=> ?_) (fun bv h=> ?_)))
  ·refine ae (ab (af (ak ?_)));obtain⟨N,O,R,V,h⟩:=g4 h;obtain⟨X,Y,h⟩:=g2 h;refine GD a0 [(1,1,oc N),(7,7,oc O),(9,9,oc R),(12,12,oc V),(21,21,oc X),(23,23,oc Y)] ?_;obtain⟨Z,a1,a2,a3,h⟩:=g4 h;refine GN a0 [(3,3,oc Z),(4,4,oc a1),(5,5,oc a2),(6,6,oc a3)] (G (bg h (fun E=>ay [(0,.p c (.ptr mw) x),(5,.sl 0),(6,.sl 1),(11,.p false (.slice (.int .i64)) r3),(12,.p false (.slice (.int .i64)) r7),(13,.i64 D)] [(0,.arr 126 (.int .u8) E),(1,.arr 3 (.int .i64) z)] 2) (fun E h=> ?_) (fun E h=> ?_)))
   ·refine aA h (fun bx h=> ?_) (fun bx h=> ?_)
    ·obtain⟨a4,a5,a6,h⟩:=g3 h;obtain⟨c2,c1,h⟩:=aj h;obtain⟨a7,a8,a9,h⟩:=g3 h;have m:=(mV c1);exact jC ⟨[],[(11,(oP m))]⟩ [(3,3,oc a4),(4,4,oc a5),(6,6,oc a6),(11,11,oc m),(12,12,oc a7),(15,15,oc a8),(16,16,oc a9)] (eN h (gg [] [0,1]))
    exact ae (eN h (gg [] [0,1]))
   refine au (ab (Ge ?_));exact eB h (gg [] [0,1])
  refine aq (aL ?_);exact eX h (gg [] [0])
 refine av (ab (G (ao ?_)));obtain rfl:=sI h;exact RI [(.slice (.int .u8))]
def fG(c:Int)(e:Option Z5)(f:Int):Option (Bool) :=
 (if e.isSome=true then(if 0≤c∧c<(((e.getD (Ty.zero nm)).1).length:Int)then some (decide (((((e.getD (Ty.zero nm)).1).getD c.toNat (0,0,0)).2.1)≥f))else none)else none)
theorem mf(e:Bool){f:Int}{j:Option Z5}{k:Int}{c:Bool}(h:fG f j k=some c):
  Pure Tryz.prog 143 [.i64 f,.fad true [.p e (.ptr nm) j] 0,.fad true [.i32 k] 0] (aG (aU false [⟨.bool,c⟩])):=by
 refine PB Tryz.func143 (fun Bw w0=> ?_);unfold fG at h;refine G ?_;obtain⟨m,q,h⟩:=g2 h;refine GD a0 [(1,1,oc m),(5,5,oc q)] (ao ?_);obtain rfl:=sI h;exact RI [.bool]
def pb(f:Option Z5)(j:Int):(Int×Int)→Option ((Int×Int)⊕(Int)):=fun(c,e) =>
 (if(decide (c<e))=true then(if 0≤(1:Int)then((fG (i64.wrap (Int.fdiv (u64.wrap (i64.wrap (c+e))) (2 ^ (min (1:Int).toNat u64.bits)))) f j).bind fun k =>
 (if(!k)=true then some (Sum.inl ((i64.wrap ((i64.wrap (Int.fdiv (u64.wrap (i64.wrap (c+e))) (2 ^ (min (1:Int).toNat u64.bits))))+1)),e))
 else some (Sum.inl (c,(i64.wrap (Int.fdiv (u64.wrap (i64.wrap (c+e))) (2 ^ (min (1:Int).toNat u64.bits))))))))else none)
 else some (Sum.inr c))
def oF(c:Int)(e:Option Z5)(f:Int):Option (Int) :=
 ((iter (pb e f) (0,c)).bind fun j=>some j)
theorem vI(c:Bool){k:Int}{f:Option Z5}{j e:Int}(h:oF k f j=some e):
  Pure Tryz.prog 92 [.i64 k,.fn 143 [.fad true [.p c (.ptr nm) f] 0,.fad true [.i32 j] 0]] (aG (aU false [⟨(.int .i64),e⟩])):=by
 refine PB Tryz.func92 (fun Bw w0=> ?_);unfold oF at h;refine G (G (af (ak (cd h (fun(m,q)=>ay [(1,.fn 143 [.fad true [.p c (.ptr nm) f] 0,.fad true [.i32 j] 0]),(5,.i64 m),(6,.i64 q)] [] 0) 0 (fun u=>ay [(5,.i64 u)] [] 0) (gg [] []) (fun y o h=> ?_) (fun u h=> ?_)))))
 ·obtain⟨m,q⟩:=y;unfold pb at h;refine af (G (aA h (fun v h=> ?_) (fun v h=> ?_)))
  ·refine ae (ab (ak (GC 4 h (fun h=> ?_))));obtain⟨A,x,h⟩:=aj h;refine GP 2 (mf c x) (aA h (fun z h=> ?_) (fun z h=> ?_))
   ·refine Ge (au ?_);exact eB h (gg [] [])
   refine Ge (au ?_);exact eB h (gg [] [])
  refine aq (aL ?_);exact eX h (gg [] [])
 refine av (ab (G (ao ?_)));obtain rfl:=sI h;exact RI [(.int .i64)]
def eE(c:Option Z5)(f:Int):Option (Int×Bool) :=
 (if c.isNone=true then some (0,false)
 else(if c.isSome=true then((oF (((c.getD (Ty.zero nm)).1).length:Int) c f).bind fun e =>
 (((if c.isSome=true then(if(e == (((c.getD (Ty.zero nm)).1).length:Int))=true then some (true)
 else(if c.isSome=true then(if 0≤e∧e<(((c.getD (Ty.zero nm)).1).length:Int)then some ((decide (((((c.getD (Ty.zero nm)).1).getD e.toNat (0,0,0)).1) > f)))else none)else none))else none)).bind fun v1=>(if v1=true then some (0,false)
 else(if c.isSome=true then(if 0≤e∧e<(((c.getD (Ty.zero nm)).1).length:Int)then(if c.isSome=true then(if 0≤e∧e<(((c.getD (Ty.zero nm)).1).length:Int)then some ((i32.wrap ((i32.wrap ((i32.wrap ((((c.getD (Ty.zero nm)).1).getD e.toNat (0,0,0)).2.2))+f)) - ((((c.getD (Ty.zero nm)).1).getD e.toNat (0,0,0)).1))),true)else none)else none)else none)else none))))else none))
theorem nc(f:Bool){m:Option Z5}{q:Int}{j:Int×Bool}(h:eE m q=some j):
  Pure Tryz.prog 124 [.p f (.ptr nm) m,.i32 q] (aG (aU false [⟨(.int .i32),j.1⟩,⟨.bool,j.2⟩])):=by
 refine PB Tryz.func124 (fun Bw w0=> ?_);unfold eE at h;refine G (af (GN a0 [(1,1,⟨∃e,Tryz.prog.underlying 99=some (.pointer e),⟨_,rfl⟩⟩)] (aA h (fun D h=> ?_) (fun D h=> ?_))))
 ·refine G (ao (ah ?_));obtain rfl:=sI h;exact RI [(.int .i32),.bool]
 refine ae (ab ?_);obtain⟨E,h⟩:=aD h;obtain⟨I,J,h⟩:=aj h;have k:=(vI f J);refine GN ⟨[],[(6,(oP k))]⟩ [(1,1,oc E),(6,6,oc k)] (af (af (bg h (fun v1=>ay [(2,.adr 0 0 1 0),(3,.adr 1 0 1 0),(6,.i64 I),(34,.bo v1)] [(0,.box [.p f (.ptr nm) m]),(1,.box [.i32 q])] 2) (fun v1 h=> ?_) (fun v1 h=> ?_))))
 ·obtain⟨C,h⟩:=aD h;rcases aF h with⟨c,h⟩ | ⟨c,h⟩
  ·exact jC ⟨[(7,true),(18,true)],[]⟩ [(2,2,oc C),(8,18,oc c)] (eN h (gg [] [0,8]))
  obtain⟨u,v,h⟩:=g2 h;exact jC ⟨[(7,false),(18,false)],[]⟩ [(2,2,oc C),(8,8,an c),(9,9,oc (And.intro c u)),(10,12,an c),(13,13,oc (And.intro c v)),(14,17,an c),(18,18,oc c)] (eN h (gg [] [0,8]))
 refine ab (aA h (fun L h=> ?_) (fun L h=> ?_))
 ·refine G (ao (ah ?_));obtain rfl:=sI h;exact RI [(.int .i32),.bool]
 refine ae (ab ?_);obtain⟨x,z,A,B,h⟩:=g4 h;refine GD a0 [(1,1,oc x),(5,5,oc z),(12,12,oc A),(16,16,oc B)] (ao ?_);obtain rfl:=sI h;exact RI [(.int .i32),.bool]
def kh(p:Option Iv)(f j:Int):tP→Option (tP⊕(List Int)):=fun(e,c) =>
 (if(decide (c<(((((p.getD (Ty.zero tZ)).1).getD j.toNat ([],([]:List Int))).2).length:Int)))=true then(if 0≤c∧c<(((((p.getD (Ty.zero tZ)).1).getD j.toNat ([],([]:List Int))).2).length:Int)then(((if(decide ((i64.wrap ((i64.wrap (f+c)) - 1))≥0))=true then some ((decide ((i64.wrap ((i64.wrap (f+c)) - 1))<(e.length:Int))))
 else some (false))).bind fun k=>(((if k=true then(if 0≤(i64.wrap ((i64.wrap (f+c)) - 1))∧(i64.wrap ((i64.wrap (f+c)) - 1))<(e.length:Int)then(if(i64.wrap ((i64.wrap (f+c)) - 1)).toNat<e.length then(if 0≤(i64.wrap ((i64.wrap (f+c)) - 1))∧(i64.wrap ((i64.wrap (f+c)) - 1))<(e.length:Int)then(if(i64.wrap ((i64.wrap (f+c)) - 1)).toNat<e.length then some ((e.set ((i64.wrap ((i64.wrap (f+c)) - 1)).toNat) (max (e.getD ((i64.wrap ((i64.wrap (f+c)) - 1)).toNat) 0) (((((p.getD (Ty.zero tZ)).1).getD j.toNat ([],([]:List Int))).2).getD c.toNat 0))))else none)else none)else none)else none)
 else some (e))).bind fun m=>some (Sum.inl (m,(i64.wrap (c+1))))))else none)
 else some (Sum.inr e))
def kj(j:Option Iv)(k:List Int)(p:Int):((List Int)×Int×Int)→Option (((List Int)×Int×Int)⊕(List Int)):=fun(m,c,e) =>
 (if j.isSome=true then(if 0≤c∧c<(((j.getD (Ty.zero tZ)).1).length:Int)then((iter (kh j p c) (m,0)).bind fun f=>(if(e == (((([46]:List Int)++k)++([46]:List Int)).length:Int))=true then some (Sum.inr f)
 else(if j.isSome=true then(if 0≤c∧c<(((j.getD (Ty.zero tZ)).1).length:Int)then(if 0≤e∧e<(((([46]:List Int)++k)++([46]:List Int)).length:Int)then(if e.toNat<((([46]:List Int)++k)++([46]:List Int)).length then(if(!((bc (α:=Int) (.int .i32) ((((j.getD (Ty.zero tZ)).1).getD c.toNat ([],([]:List Int))).1) (((([46]:List Int)++k)++([46]:List Int)).getD e.toNat 0)).isSome))=true then some (Sum.inr f)
 else some (Sum.inl (f,((bc (α:=Int) (.int .i32) ((((j.getD (Ty.zero tZ)).1).getD c.toNat ([],([]:List Int))).1) (((([46]:List Int)++k)++([46]:List Int)).getD e.toNat 0)).getD 0),(i64.wrap (e+1)))))else none)else none)else none)else none)))else none)else none)
def kg(k:Option Iv)(j:List Int):tP→Option (tP⊕(List Int)):=fun(e,c) =>
 (if(decide (c<(((([46]:List Int)++j)++([46]:List Int)).length:Int)))=true then((iter (kj k j c) (e,0,c)).bind fun f=>some (Sum.inl (f,(i64.wrap (c+1)))))
 else some (Sum.inr e))
def jh(f:Option Iv)(c:List Int):Option (List Int) :=
 (if 0≤(i64.wrap ((c.length:Int)+1))∧(i64.wrap ((c.length:Int)+1))≤(i64.wrap ((c.length:Int)+1))∧1*(i64.wrap ((c.length:Int)+1))≤281474976710656∧(i64.wrap ((c.length:Int)+1))≤9223372036854775807 then(if f.isNone=true then some (List.replicate (i64.wrap ((c.length:Int)+1)).toNat (0:Int))
 else(if(([46]:List Int).length+c.length)*4≤140737488355328∧([46]:List Int).length+c.length≤9223372036854775807 then(if((([46]:List Int)++c).length+([46]:List Int).length)*4≤140737488355328∧(([46]:List Int)++c).length+([46]:List Int).length≤9223372036854775807 then((iter (kg f c) ((List.replicate (i64.wrap ((c.length:Int)+1)).toNat (0:Int)),0)).bind fun e=>some e)else none)else none))else none)
theorem qf(j a7:Bool){q:Option Iv}{u E:List Int}(h:jh q u=some E):
  Pure Tryz.prog 144 [.p j (.ptr tZ) q,.p a7 (.slice (.int .i32)) u] (aG (aU false [⟨(.slice (.int .u8)),E⟩])):=by
 refine PB Tryz.func144 (fun Bw w0=> ?_);unfold jh at h;refine G (GC 3 h (fun h=>af (GN a0 [(1,1,⟨∃e,Tryz.prog.underlying 166=some (.pointer e),⟨_,rfl⟩⟩)] (aA h (fun B1 h=> ?_) (fun B1 h=> ?_)))))
 ·refine G (ao (ah ?_));obtain rfl:=sI h;exact RI [(.slice (.int .u8))]
 refine ae (ab ?_);obtain⟨c5,c6,h⟩:=g2 h;refine GN a0 [(2,2,oc c5),(4,4,oc c6)] (af (G (ak (cd h (fun(I,f)=>ay [(0,.p j (.ptr tZ) q),(5,.sl 0),(6,.sl 1),(28,.i64 (((([46]:List Int)++u)++([46]:List Int)).length:Int)),(29,.i64 f)] [(0,.arr 5 (.int .u8) I),(1,.arr 21 (.int .i32) ((([46]:List Int)++u)++([46]:List Int)))] 2) 0 (fun J=>ay [(5,.sl 0)] [(0,.arr 5 (.int .u8) J)] 1) (gg [] [32,96]) (fun y o h=> ?_) (fun J h=> ?_)))))
 ·obtain⟨I,f⟩:=y;unfold kg at h;refine G (af (aA h (fun L h=> ?_) (fun L h=> ?_)))
  ·refine ae (ab (af (ak (G (G (G (ak (cd h (fun(B,c,k)=>ay [(0,.p j (.ptr tZ) q),(5,.sl 0),(6,.sl 1),(7,.i64 f),(8,.i64 c),(9,.i64 k),(28,.i64 (((([46]:List Int)++u)++([46]:List Int)).length:Int)),(29,.i64 f)] [(0,.arr 5 (.int .u8) B),(1,.arr 21 (.int .i32) ((([46]:List Int)++u)++([46]:List Int)))] 2) 2 (fun C=>ay [(0,.p j (.ptr tZ) q),(5,.sl 0),(6,.sl 1),(28,.i64 (((([46]:List Int)++u)++([46]:List Int)).length:Int)),(29,.i64 f)] [(0,.arr 5 (.int .u8) C),(1,.arr 21 (.int .i32) ((([46]:List Int)++u)++([46]:List Int)))] 2) (gg [] [0,1]) (fun y o h=> ?_) (fun C h=> ?_)))))))))
   ·obtain⟨B,c,k⟩:=y;unfold kj at h;refine af (ak (af ?_));obtain⟨M,N,h⟩:=g2 h;refine GN a0 [(1,1,oc M),(5,5,oc N)] (ak ?_);refine cd h (fun(x,m)=>ay [(0,.p j (.ptr tZ) q),(5,.sl 0),(6,.sl 1),(7,.i64 f),(8,.i64 c),(9,.i64 k),(28,.i64 (((([46]:List Int)++u)++([46]:List Int)).length:Int)),(29,.i64 f),(42,.p j (.slice (.int .u8)) ((((q.getD (Ty.zero tZ)).1).getD c.toNat ([],([]:List Int))).2)),(43,.i64 (((((q.getD (Ty.zero tZ)).1).getD c.toNat ([],([]:List Int))).2).length:Int)),(44,.i64 m)] [(0,.arr 5 (.int .u8) x),(1,.arr 21 (.int .i32) ((([46]:List Int)++u)++([46]:List Int)))] 2) 4 (fun D=>ay [(0,.p j (.ptr tZ) q),(5,.sl 0),(6,.sl 1),(7,.i64 f),(8,.i64 c),(9,.i64 k),(28,.i64 (((([46]:List Int)++u)++([46]:List Int)).length:Int)),(29,.i64 f)] [(0,.arr 5 (.int .u8) D),(1,.arr 21 (.int .i32) ((([46]:List Int)++u)++([46]:List Int)))] 2) (gg [] [0,1]) (fun y o h=> ?_) (fun D h=> ?_)
    ·obtain⟨x,m⟩:=y;unfold kh at h;refine G (af (aA h (fun O h=> ?_) (fun O h=> ?_)))
     ·refine ae (ab (af (ak (GC 1 h (fun h=>G (af ?_))))));refine bg h (fun z=>ay [(0,.p j (.ptr tZ) q),(5,.sl 0),(6,.sl 1),(7,.i64 f),(8,.i64 c),(9,.i64 k),(11,.u8 (((((q.getD (Ty.zero tZ)).1).getD c.toNat ([],([]:List Int))).2).getD m.toNat 0)),(12,.i64 (i64.wrap ((i64.wrap (f+m)) - 1))),(28,.i64 (((([46]:List Int)++u)++([46]:List Int)).length:Int)),(29,.i64 f),(42,.p j (.slice (.int .u8)) ((((q.getD (Ty.zero tZ)).1).getD c.toNat ([],([]:List Int))).2)),(43,.i64 (((((q.getD (Ty.zero tZ)).1).getD c.toNat ([],([]:List Int))).2).length:Int)),(44,.i64 m),(60,.bo z)] [(0,.arr 5 (.int .u8) x),(1,.arr 21 (.int .i32) ((([46]:List Int)++u)++([46]:List Int)))] 2) (fun z h=> ?_) (fun z h=> ?_)
      ·rcases aF h with⟨v,h⟩ | ⟨v,h⟩
       ·exact bq ⟨[(2,true),(7,true)],[]⟩ [(3,6,an v),(7,7,oc v)] (eN h (gg [] [0,1]))
       exact bq ⟨[(2,false),(7,false)],[]⟩ [(3,7,oc v)] (eN h (gg [] [0,1]))
      refine ab (bg h (fun A=>ay [(0,.p j (.ptr tZ) q),(5,.sl 0),(6,.sl 1),(7,.i64 f),(8,.i64 c),(9,.i64 k),(28,.i64 (((([46]:List Int)++u)++([46]:List Int)).length:Int)),(29,.i64 f),(42,.p j (.slice (.int .u8)) ((((q.getD (Ty.zero tZ)).1).getD c.toNat ([],([]:List Int))).2)),(43,.i64 (((((q.getD (Ty.zero tZ)).1).getD c.toNat ([],([]:List Int))).2).length:Int)),(44,.i64 m)] [(0,.arr 5 (.int .u8) A),(1,.arr 21 (.int .i32) ((([46]:List Int)++u)++([46]:List Int)))] 2) (fun A h=> ?_) (fun A h=> ?_))
      ·refine aA h (fun R h=> ?_) (fun R h=> ?_)
       ·obtain⟨V,X,Y,Z,h⟩:=g4 h;exact bq a0 [(4,4,oc V),(5,5,oc X),(8,8,oc Y),(9,9,oc Z)] (eN h (gg [] [0,1]))
       exact ae (eN h (gg [] [0,1]))
      refine au (ab (Ge ?_));exact eB h (gg [] [0,1])
     refine aq (aL ?_);exact eX h (gg [] [0,1])
    refine av (ab (af (G (aA h (fun a1 h=> ?_) (fun a1 h=> ?_)))))
    ·refine aq (aL (ix rfl (aL ?_)));exact eX h (gg [] [0,1])
    refine ae (ab ?_);obtain⟨a2,a3,a4,a5,h⟩:=g4 h;refine GD a0 [(1,1,oc a2),(5,5,oc a3),(10,10,oc a4),(11,11,oc a5)] (af (G (aA h (fun a6 h=> ?_) (fun a6 h=> ?_))))
    ·refine aq (aL (ix rfl (aL ?_)));exact eX h (gg [] [0,1])
    refine ae (ab (Ge (au (ab (Ge ?_)))));exact eB h (gg [] [0,1])
   refine av (au (ab (Ge ?_)));exact eB h (gg [] [0,1])
  refine aq (aL ?_);exact eX h (gg [] [0])
 refine av (ab (G (ao ?_)));obtain rfl:=sI h;exact RI [(.slice (.int .u8))]
def gP(c _ e:List Int):Option (Bool) :=
 ((cZ c e).bind fun f =>
 some f)
theorem np(c j e:Bool){k m q:List Int}{f:Bool}(h:gP k m q=some f):
  Pure Tryz.prog 145 [.agg [.p c (.slice (.int .i32)) k,.p j (.slice (.int .u8)) m],.fad true [.p e (.slice (.int .i32)) q] 0] (aG (aU false [⟨.bool,f⟩])):=by
 refine PB Tryz.func145 (fun Bw w0=> ?_);unfold gP at h;refine G ?_;obtain⟨v,u,h⟩:=aj h;refine GP 3 (fJ c e u) (ao ?_);obtain rfl:=sI h;exact RI [.bool]
def lS(e:List jd)(f:List Int):(Int)→Option ((Int)⊕((Unit)⊕(Int))):=fun c =>
 (if(decide (c<(e.length:Int)))=true then(if 0≤c∧c<(e.length:Int)then((gP ((e.getD c.toNat ([],([]:List Int))).1) ((e.getD c.toNat ([],([]:List Int))).2) f).bind fun j =>
 (if j=true then some (Sum.inr (Sum.inr c))
 else some (Sum.inl (i64.wrap (c+1)))))else none)
 else some (Sum.inr (Sum.inl ())))
def la(c:List jd)(e:List Int):Option (Int) :=
 ((iter (lS c e) (0:Int)).bind fun(f:((Unit)⊕(Int)))=>match f with
 | .inl _=>some (-1:Int)
 | .inr (j)=>some j)
theorem rX(c f:Bool){m:List jd}{q:List Int}{j:Int}(h:la m q=some j):
  Pure Tryz.prog 118 [.p c (.slice wS) m,.fn 145 [.fad true [.p f (.slice (.int .i32)) q] 0]] (aG (aU false [⟨(.int .i64),j⟩])):=by
 refine PB Tryz.func118 (fun Bw w0=> ?_);unfold la at h;refine G (af (G (ak (jl h (fun v=>ay [(0,.p c (.slice wS) m),(1,.fn 145 [.fad true [.p f (.slice (.int .i32)) q] 0]),(7,.i64 (m.length:Int)),(8,.i64 v)] [] 0) (cN (dM Tryz.f118.ntmps 0 (fun _=>ay [] [] 0)) (eQ tb Tryz.f118.results.toList (fun x=>[⟨(.int .i64),x⟩]))) (gg [] []) (fun v o h=> ?_) (fun A h e σ' z=> ?_)))))
 ·unfold lS at h;refine G (af (aA h (fun B h=> ?_) (fun B h=> ?_)))
  ·refine ae (ab (af (ak (G ?_))));obtain⟨C,h⟩:=aD h;obtain⟨J,D,h⟩:=aj h;have k:=(np c c f D);refine GN ⟨[],[(5,(oP k))]⟩ [(3,3,oc C),(5,5,oc k)] (aA h (fun E h=> ?_) (fun E h=> ?_))
   ·refine G (ao ?_);obtain rfl:=sI h;refine az (ah (br (aK ?_)));exact bu (RI [(.int .i64)])
   refine ae (au (ab (Ge ?_)));exact eB h (gg [] [])
  refine aq (aL ?_);obtain rfl:=sI h;refine cR (aX ?_);exact bC (gg [] [])
 rcases A with _ | x
 ·obtain⟨rfl,u⟩:=z;refine bY ?_ u;refine av (ab (G (ao ?_)));obtain rfl:=sI h;exact RI [(.int .i64)]
 obtain⟨rfl,I⟩:=z;refine az (ah ?_);obtain rfl:=sI h;exact I
def jV(k:Option Z5)(j c:List Int):((List Bool)×Int)→Option (((List Bool)×Int)⊕(List Bool)):=fun(e,f) =>
 (if k.isSome=true then(if(decide (f≤(i64.wrap ((j.length:Int) - ((k.getD (Ty.zero nm)).2.2.2.2)))))=true then(if 0≤f∧f<(c.length:Int)then(if ¬(2:Int)=0 then(if 0≤f∧f<(e.length:Int)then(if f.toNat<e.length then some (Sum.inl ((e.set f.toNat ((Int.tmod (c.getD f.toNat 0) (2:Int)) == 1)),(i64.wrap (f+1))))else none)else none)else none)else none)
 else some (Sum.inr e))else none)
def fM(e:Option Z5)(c:List Int):Option (List Bool) :=
 (if 0≤(i64.wrap ((c.length:Int)+1))∧(i64.wrap ((c.length:Int)+1))≤(i64.wrap ((c.length:Int)+1))∧1*(i64.wrap ((c.length:Int)+1))≤281474976710656∧(i64.wrap ((c.length:Int)+1))≤9223372036854775807 then(if e.isNone=true then some (List.replicate (i64.wrap ((c.length:Int)+1)).toNat false)
 else(if e.isSome=true then((jh ((e.getD (Ty.zero nm)).2.1) c).bind fun m =>
 (if e.isSome=true then((la ((e.getD (Ty.zero nm)).2.2.1) c).bind fun k =>
 (((if(decide (k≥0))=true then(if e.isSome=true then(if 0≤k∧k<(((e.getD (Ty.zero nm)).2.2.1).length:Int)then some ((((e.getD (Ty.zero nm)).2.2.1).getD k.toNat ([],([]:List Int))).2)else none)else none)
 else some (m))).bind fun f=>(if e.isSome=true then((iter (jV e c f) ((List.replicate (i64.wrap ((c.length:Int)+1)).toNat false),(e.getD (Ty.zero nm)).2.2.2.1)).bind fun j=>some j)else none)))else none))else none))else none)
theorem oH(j:Bool){v:Option Z5}{f:List Int}{u:List Bool}(h:fM v f=some u):
  Pure Tryz.prog 125 [.p false (.ptr nm) v,.p j (.slice (.int .i32)) f] (aG (aU false [⟨(.slice .bool),u⟩])):=by
 refine PB Tryz.func125 (fun Bw w0=> ?_);unfold fM at h;refine G (GC 3 h (fun h=>af (GN a0 [(1,1,⟨∃e,Tryz.prog.underlying 99=some (.pointer e),⟨_,rfl⟩⟩)] (aA h (fun J h=> ?_) (fun J h=> ?_)))))
 ·refine G (ao (ah ?_));obtain rfl:=sI h;exact RI [(.slice .bool)]
 refine ae (ab ?_);obtain⟨L,h⟩:=aD h;obtain⟨X,M,h⟩:=aj h;have k:=(qf false j M);refine GD ⟨[],[(5,(oP k))]⟩ [(1,1,oc L),(5,5,oc k)] (af ?_);obtain⟨N,h⟩:=aD h;obtain⟨Y,O,h⟩:=aj h;have k:=(rX false j O);refine GN ⟨[],[(5,(oP k))]⟩ [(1,1,oc N),(5,5,oc k)] (G (bg h (fun c=>ay [(0,.p false (.ptr nm) v),(3,.adr 0 0 1 0),(5,.sl 1),(6,.p false (.slice (.int .u8)) c)] (KU j f (List.replicate (i64.wrap ((f.length:Int)+1)).toNat false)) 2) (fun c h=> ?_) (fun c h=> ?_)))
 ·refine aA h (fun R h=> ?_) (fun R h=> ?_)
  ·obtain⟨x,z,h⟩:=g2 h;exact bq a0 [(1,1,oc x),(5,5,oc z)] (eN h (gg [] [0,40]))
  exact ae (eN h (gg [] [0,40]))
 refine ab (af (GC 1 h (fun h=>ak (cd h (fun(m,I)=>ay [(0,.p false (.ptr nm) v),(3,.adr 0 0 1 0),(5,.sl 1),(6,.p false (.slice (.int .u8)) c),(8,.i64 I)] (KU j f m) 2) 0 (fun q=>ay [(5,.sl 0)] [(0,.arr 4 .bool q)] 1) (gg [] [0,1]) (fun y o h=> ?_) (fun q h=> ?_)))))
 ·obtain⟨m,I⟩:=y;unfold jV at h;refine af ?_;obtain⟨A,h⟩:=aD h;refine GD a0 [(4,4,oc A)] (aA h (fun V h=> ?_) (fun V h=> ?_))
  ·refine ae (ab (af (ak ?_)));obtain⟨B,C,D,E,h⟩:=g4 h;refine bq a0 [(4,4,oc B),(6,6,oc C),(8,8,oc D),(9,9,oc E)] (au (ab (Ge ?_)));exact eB h (gg [] [0,1])
  refine aq (aL ?_);exact eX h (gg [] [1])
 refine av (ab (G (ao ?_)));obtain rfl:=sI h;exact RI [(.slice .bool)]
def dz(m:Option Z5)(j:List eD):(Int×List Int)→Option ((Int×List Int)⊕(Int×List Int)):=fun(e,c) =>
 (if(decide (e<(j.length:Int)))=true then(if 0≤e∧e<(j.length:Int)then((eE m ((j.getD e.toNat (0,0,0)).1)).bind fun(f,k) =>
 (if(!k)=true then some (Sum.inr (e,c))
 else(if(c.length+([f]:List Int).length)*4≤140737488355328∧c.length+([f]:List Int).length≤9223372036854775807 then some (Sum.inl ((i64.wrap (e+1)),(c++([f]:List Int))))else none)))else none)
 else some (Sum.inr (e,c)))
def cw(k:Option Z5)(m:List eD):((List Bool)×Int)→Option (((List Bool)×Int)⊕(List Bool)):=fun(e,i8) =>
 (if(decide (i8<(m.length:Int)))=true then((iter (dz k m) (i8,([]:List Int))).bind fun(j,c)=>(if 0≤i8∧i8≤(e.length:Int)then((fM k c).bind fun f =>
 (if 0≤(0:Int)∧0≤(c.length:Int)∧(c.length:Int)≤(f.length:Int)then some (Sum.inl ((e.take i8.toNat++(((f.take (c.length:Int).toNat).drop (0:Int).toNat).take (e.length - i8.toNat)++e.drop (i8.toNat+((f.take (c.length:Int).toNat).drop (0:Int).toNat).length))),(i64.wrap (j+1))))else none))else none))
 else some (Sum.inr e))
def dy(f:Option Z5)(c:List eD):Option (List Bool) :=
 (if 0≤(i64.wrap ((c.length:Int)+1))∧(i64.wrap ((c.length:Int)+1))≤(i64.wrap ((c.length:Int)+1))∧1*(i64.wrap ((c.length:Int)+1))≤281474976710656∧(i64.wrap ((c.length:Int)+1))≤9223372036854775807 then((iter (cw f c) ((List.replicate (i64.wrap ((c.length:Int)+1)).toNat false),0)).bind fun e=>some e)else none)
theorem nu(k:Bool){m:Option Z5}{u:List eD}{v:List Bool}(h:dy m u=some v):
  Pure Tryz.prog 86 [.p false (.ptr nm) m,.p k (.slice (.prod (.int .i32) Y2)) u] (aG (aU false [⟨(.slice .bool),v⟩])):=by
 refine PB Tryz.func86 (fun Bw w0=> ?_);unfold dy at h;refine G (GC 3 h (fun h=>G (af (G (ak (cd h (fun(c,i8)=>ay [(0,.p false (.ptr nm) m),(1,.p k (.slice (.prod (.int .i32) Y2)) u),(5,.sl 0),(6,.bfn 124 [.p false (.ptr nm) m]),(7,.i64 i8)] [(0,.arr 4 .bool c)] 1) 0 (fun q=>ay [(5,.sl 0)] [(0,.arr 4 .bool q)] 1) (gg [] [32]) (fun y o h=> ?_) (fun q h=> ?_)))))))
 ·obtain⟨c,i8⟩:=y;unfold cw at h;refine af (G (aA h (fun A h=> ?_) (fun A h=> ?_)))
  ·refine ae (ab (af (ak (G (G (af (ak (cd h (fun(x,e)=>ay [(0,.p false (.ptr nm) m),(1,.p k (.slice (.prod (.int .i32) Y2)) u),(5,.sl 0),(6,.bfn 124 [.p false (.ptr nm) m]),(7,.i64 x),(8,.sl 1),(9,.i64 i8)] [(0,.arr 4 .bool c),(1,.arr 21 (.int .i32) e)] 2) 2 (fun(z,f)=>ay [(0,.p false (.ptr nm) m),(1,.p k (.slice (.prod (.int .i32) Y2)) u),(5,.sl 0),(6,.bfn 124 [.p false (.ptr nm) m]),(7,.i64 z),(8,.sl 1),(9,.i64 i8)] [(0,.arr 4 .bool c),(1,.arr 21 (.int .i32) f)] 2) (gg [.nilS 8 57 21 (.int .i32)] [0,57]) (fun y o h=> ?_) (fun B h=> ?_)))))))))
   ·obtain⟨x,e⟩:=y;unfold dz at h;refine af (G (aA h (fun C h=> ?_) (fun C h=> ?_)))
    ·refine ae (ab (af (ak ?_)));obtain⟨D,h⟩:=aD h;obtain⟨⟨N,O⟩,E,h⟩:=aj h;have j:=(nc false E);refine GN ⟨[],[(6,(oP j))]⟩ [(3,3,oc D),(6,6,oc j)] (af (G (aA h (fun I h=> ?_) (fun I h=> ?_))))
     ·refine aq (aL (ix rfl (aL ?_)));exact eX h (gg [] [0,1])
     refine ae (ab (tq 3 h (fun h=>au (ab (Ge ?_)))));exact eB h (gg [] [0,170])
    refine aq (aL ?_);exact eX h (gg [] [0,1])
   obtain⟨z,f⟩:=B;refine av (ab ?_);obtain⟨J,h⟩:=aD h;obtain⟨R,L,h⟩:=aj h;obtain⟨M,h⟩:=aD h;have j:=(oH true L);refine jC ⟨[],[(5,(oP j))]⟩ [(2,2,oc J),(5,5,oc j),(8,8,oc M)] (au (ab (Ge ?_)));exact eB h (gg [] [0])
  refine aq (aL ?_);exact eX h (gg [] [0])
 refine av (ab (G (ao ?_)));obtain rfl:=sI h;exact RI [(.slice .bool)]
def lg(c:Int):Option (Int) :=
 (if(c == 32)=true then some 1
 else(if(c == 9)=true then some 2
 else some 0))
theorem yj{e c:Int}(h:lg e=some c):
  Pure Tryz.prog 142 [.i32 e] (aG (aU false [⟨(.int .u8),c⟩])):=by
 refine PB Tryz.func142 (fun Bw w0=> ?_);unfold lg at h;refine G (af (G (ak (G (aA h (fun f h=> ?_) (fun f h=> ?_))))))
 ·refine G (ao (az (ah ?_)));obtain rfl:=sI h;exact RI [(.int .u8)]
 refine G (aA h (fun j h=> ?_) (fun j h=> ?_))
 ·refine G (ao (az (ah ?_)));obtain rfl:=sI h;exact RI [(.int .u8)]
 refine ae (au (ab (G (ao ?_))));obtain rfl:=sI h;exact RI [(.int .u8)]
def da(j:List eD)(q:List Int)(z:Option AE):((List Z2)×(List Int)×Int)→Option (((List Z2)×(List Int)×Int)⊕((List Z2)×List Int)):=fun(k,m,e) =>
 (if(decide (e<(j.length:Int)))=true then(if 0≤e∧e<(j.length:Int)then(((if(e == 0)=true then some (true)
 else(if(decide (e<(q.length:Int)))=true then(if 0≤e∧e<(q.length:Int)then some (((q.getD e.toNat 0) != 0))else none)
 else some (false)))).bind fun u=>(((if u=true then((lg ((j.getD e.toNat (0,0,0)).1)).bind fun p =>
 (if(k.length+([((j.getD e.toNat (0,0,0)).2.1,0,0,p)]:List Z2).length)*32≤140737488355328∧k.length+([((j.getD e.toNat (0,0,0)).2.1,0,0,p)]:List Z2).length≤9223372036854775807 then(if(m.length+([e]:List Int).length)*8≤140737488355328∧m.length+([e]:List Int).length≤9223372036854775807 then some (((k++([((j.getD e.toNat (0,0,0)).2.1,0,0,p)]:List Z2)),(m++([e]:List Int))))else none)else none))
 else some ((k,m)))).bind fun(c,f)=>(if 0≤(i64.wrap ((c.length:Int) - 1))∧(i64.wrap ((c.length:Int) - 1))<(c.length:Int)then(if 0≤(i64.wrap ((f.length:Int) - 1))∧(i64.wrap ((f.length:Int) - 1))<(f.length:Int)then(if(i64.wrap ((f.length:Int) - 1)).toNat<f.length then(((if((f.getD ((i64.wrap ((f.length:Int) - 1)).toNat) 0) != e)=true then(if(i64.wrap ((c.length:Int) - 1)).toNat<c.length then some ((c.set ((i64.wrap ((c.length:Int) - 1)).toNat) ((c.getD ((i64.wrap ((c.length:Int) - 1)).toNat) (0,0,0,0)).1,(c.getD ((i64.wrap ((c.length:Int) - 1)).toNat) (0,0,0,0)).2.1,(c.getD ((i64.wrap ((c.length:Int) - 1)).toNat) (0,0,0,0)).2.2.1,0)))else none)
 else some (c))).bind fun v20=>(if(i64.wrap ((c.length:Int) - 1)).toNat<v20.length then(if(i64.wrap ((c.length:Int) - 1)).toNat<v20.length then(if(i64.wrap ((c.length:Int) - 1)).toNat<(v20.set ((i64.wrap ((c.length:Int) - 1)).toNat) ((v20.getD ((i64.wrap ((c.length:Int) - 1)).toNat) (0,0,0,0)).1,(i64.wrap (((v20.getD ((i64.wrap ((c.length:Int) - 1)).toNat) (0,0,0,0)).2.1)+((j.getD e.toNat (0,0,0)).2.2))),(v20.getD ((i64.wrap ((c.length:Int) - 1)).toNat) (0,0,0,0)).2.2.1,(v20.getD ((i64.wrap ((c.length:Int) - 1)).toNat) (0,0,0,0)).2.2.2)).length then((ba z ((j.getD e.toNat (0,0,0)).1)).bind fun v =>
 (if(i64.wrap ((c.length:Int) - 1)).toNat<(v20.set ((i64.wrap ((c.length:Int) - 1)).toNat) ((v20.getD ((i64.wrap ((c.length:Int) - 1)).toNat) (0,0,0,0)).1,(i64.wrap (((v20.getD ((i64.wrap ((c.length:Int) - 1)).toNat) (0,0,0,0)).2.1)+((j.getD e.toNat (0,0,0)).2.2))),(v20.getD ((i64.wrap ((c.length:Int) - 1)).toNat) (0,0,0,0)).2.2.1,(v20.getD ((i64.wrap ((c.length:Int) - 1)).toNat) (0,0,0,0)).2.2.2)).length then some (Sum.inl (((v20.set ((i64.wrap ((c.length:Int) - 1)).toNat) ((v20.getD ((i64.wrap ((c.length:Int) - 1)).toNat) (0,0,0,0)).1,(i64.wrap (((v20.getD ((i64.wrap ((c.length:Int) - 1)).toNat) (0,0,0,0)).2.1)+((j.getD e.toNat (0,0,0)).2.2))),(v20.getD ((i64.wrap ((c.length:Int) - 1)).toNat) (0,0,0,0)).2.2.1,(v20.getD ((i64.wrap ((c.length:Int) - 1)).toNat) (0,0,0,0)).2.2.2)).set ((i64.wrap ((c.length:Int) - 1)).toNat) (((v20.set ((i64.wrap ((c.length:Int) - 1)).toNat) ((v20.getD ((i64.wrap ((c.length:Int) - 1)).toNat) (0,0,0,0)).1,(i64.wrap (((v20.getD ((i64.wrap ((c.length:Int) - 1)).toNat) (0,0,0,0)).2.1)+((j.getD e.toNat (0,0,0)).2.2))),(v20.getD ((i64.wrap ((c.length:Int) - 1)).toNat) (0,0,0,0)).2.2.1,(v20.getD ((i64.wrap ((c.length:Int) - 1)).toNat) (0,0,0,0)).2.2.2)).getD ((i64.wrap ((c.length:Int) - 1)).toNat) (0,0,0,0)).1,((v20.set ((i64.wrap ((c.length:Int) - 1)).toNat) ((v20.getD ((i64.wrap ((c.length:Int) - 1)).toNat) (0,0,0,0)).1,(i64.wrap (((v20.getD ((i64.wrap ((c.length:Int) - 1)).toNat) (0,0,0,0)).2.1)+((j.getD e.toNat (0,0,0)).2.2))),(v20.getD ((i64.wrap ((c.length:Int) - 1)).toNat) (0,0,0,0)).2.2.1,(v20.getD ((i64.wrap ((c.length:Int) - 1)).toNat) (0,0,0,0)).2.2.2)).getD ((i64.wrap ((c.length:Int) - 1)).toNat) (0,0,0,0)).2.1,(max (((v20.set ((i64.wrap ((c.length:Int) - 1)).toNat) ((v20.getD ((i64.wrap ((c.length:Int) - 1)).toNat) (0,0,0,0)).1,(i64.wrap (((v20.getD ((i64.wrap ((c.length:Int) - 1)).toNat) (0,0,0,0)).2.1)+((j.getD e.toNat (0,0,0)).2.2))),(v20.getD ((i64.wrap ((c.length:Int) - 1)).toNat) (0,0,0,0)).2.2.1,(v20.getD ((i64.wrap ((c.length:Int) - 1)).toNat) (0,0,0,0)).2.2.2)).getD ((i64.wrap ((c.length:Int) - 1)).toNat) (0,0,0,0)).2.2.1) (min v 2)),((v20.set ((i64.wrap ((c.length:Int) - 1)).toNat) ((v20.getD ((i64.wrap ((c.length:Int) - 1)).toNat) (0,0,0,0)).1,(i64.wrap (((v20.getD ((i64.wrap ((c.length:Int) - 1)).toNat) (0,0,0,0)).2.1)+((j.getD e.toNat (0,0,0)).2.2))),(v20.getD ((i64.wrap ((c.length:Int) - 1)).toNat) (0,0,0,0)).2.2.1,(v20.getD ((i64.wrap ((c.length:Int) - 1)).toNat) (0,0,0,0)).2.2.2)).getD ((i64.wrap ((c.length:Int) - 1)).toNat) (0,0,0,0)).2.2.2)),f,(i64.wrap (e+1))))else none))else none)else none)else none))else none)else none)else none)))else none)
 else some (Sum.inr (k,m)))
def kZ(e:List eD)(j:List Int)(k:Option AE):Option ((List Z2)×List Int) :=
 ((iter (da e j k) (([]:List Z2),([]:List Int),0)).bind fun(f,c)=>(if(c.length+([(e.length:Int)]:List Int).length)*8≤140737488355328∧c.length+([(e.length:Int)]:List Int).length≤9223372036854775807 then some (f,(c++([(e.length:Int)]:List Int)))else none))
theorem yd(f q m:Bool){e:List eD}{D:List Int}{E:Option AE}{v:(List Z2)×List Int}(h:kZ e D E=some v):
  Pure Tryz.prog 119 [.p f (.slice (.prod (.int .i32) Y2)) e,.p q (.slice (.int .u8)) D,.p m (.ptr xn) E] (aG (aU false [⟨(.slice Y9),v.1⟩,⟨(.slice (.int .i64)),v.2⟩])):=by
 refine PB Tryz.func119 (fun Bw w0=> ?_);unfold kZ at h;refine G (G (G (af (G (ak (cd h (fun(x,z,c)=>ay [(0,.p f (.slice (.prod (.int .i32) Y2)) e),(1,.p q (.slice (.int .u8)) D),(2,.p m (.ptr xn) E),(8,.sl 0),(9,.sl 1),(13,.p f (.slice (.prod (.int .i32) Y2)) e),(14,.i64 (e.length:Int)),(15,.i64 c)] [(0,.arr 185 Y9 x),(1,.arr 3 (.int .i64) z)] 2) 0 (fun(I,J)=>ay [(0,.p f (.slice (.prod (.int .i32) Y2)) e),(8,.sl 0),(9,.sl 1)] [(0,.arr 185 Y9 I),(1,.arr 3 (.int .i64) J)] 2) (gg [.nilS 8 56 185 Y9,.nilS 9 57 3 (.int .i64)] [56,57]) (fun y o h=> ?_) (fun M h=> ?_)))))))
 ·obtain⟨x,z,c⟩:=y;unfold da at h;refine G (af (aA h (fun N h=> ?_) (fun N h=> ?_)))
  ·refine ae (ab (af (ak (GC 1 h (fun h=>af (af (bg h (fun A=>ay [(0,.p f (.slice (.prod (.int .i32) Y2)) e),(1,.p q (.slice (.int .u8)) D),(2,.p m (.ptr xn) E),(8,.sl 0),(9,.sl 1),(10,.i64 c),(11,.adr 2 0 3 0),(13,.p f (.slice (.prod (.int .i32) Y2)) e),(14,.i64 (e.length:Int)),(15,.i64 c),(34,.bo A)] (JQ x z ((e.getD c.toNat (0,0,0)).1) ((e.getD c.toNat (0,0,0)).2.1) ((e.getD c.toNat (0,0,0)).2.2)) 3) (fun A h=> ?_) (fun A h=> ?_))))))))
   ·rcases aF h with⟨j,h⟩ | ⟨j,h⟩
    ·exact bq ⟨[(2,true),(14,true)],[]⟩ [(3,7,oc j),(13,14,oc j)] (eN h (gg [] [0,1,34]))
    rcases aF h with⟨k,h⟩ | ⟨k,h⟩
    ·obtain⟨O,h⟩:=aD h;exact bq ⟨[(2,false),(7,true),(13,true),(14,false)],[]⟩ [(3,7,an j),(8,9,an k),(10,10,oc (And.intro k O)),(11,12,an k),(13,13,oc (And.intro j k)),(14,14,oc j)] (eN h (gg [] [0,1,34]))
    exact bq ⟨[(2,false),(7,false),(13,false),(14,false)],[]⟩ [(3,7,an j),(8,12,oc k),(13,13,oc (And.intro j k)),(14,14,oc j)] (eN h (gg [] [0,1,34]))
   refine ab (bg h (fun(B,C)=>ay [(0,.p f (.slice (.prod (.int .i32) Y2)) e),(1,.p q (.slice (.int .u8)) D),(2,.p m (.ptr xn) E),(8,.sl 0),(9,.sl 1),(10,.i64 c),(11,.adr 2 0 3 0),(13,.p f (.slice (.prod (.int .i32) Y2)) e),(14,.i64 (e.length:Int)),(15,.i64 c)] (JQ B C ((e.getD c.toNat (0,0,0)).1) ((e.getD c.toNat (0,0,0)).2.1) ((e.getD c.toNat (0,0,0)).2.2)) 3) (fun L h=> ?_) (fun L h=> ?_))
   ·refine aA h (fun R h=> ?_) (fun R h=> ?_)
    ·obtain⟨a7,V,h⟩:=aj h;obtain⟨X,h⟩:=aD h;have u:=(yj V);refine GD ⟨[],[(5,(oP u))]⟩ [(5,5,oc u),(8,8,oc X)] (tq 3 h (fun h=> ?_));exact eN h (gg [] [67,107,2])
    exact ae (eN h (gg [] [0,1,2]))
   obtain⟨B,C⟩:=L;refine ab (GC 4 h (fun h=>af ?_));obtain⟨Y,Z,h⟩:=g2 h;refine GN a0 [(4,4,oc Y),(5,5,oc Z)] (bg h (fun v20=>ay [(0,.p f (.slice (.prod (.int .i32) Y2)) e),(1,.p q (.slice (.int .u8)) D),(2,.p m (.ptr xn) E),(8,.sl 0),(9,.sl 1),(11,.adr 2 0 3 0),(12,.adr 0 ((i64.wrap ((B.length:Int) - 1)).toNat) 4 0),(13,.p f (.slice (.prod (.int .i32) Y2)) e),(14,.i64 (e.length:Int)),(15,.i64 c)] (JQ v20 C ((e.getD c.toNat (0,0,0)).1) ((e.getD c.toNat (0,0,0)).2.1) ((e.getD c.toNat (0,0,0)).2.2)) 3) (fun v20 h=> ?_) (fun v20 h=> ?_))
   ·refine aA h (fun a1 h=> ?_) (fun a1 h=> ?_)
    ·refine tq 3 h (fun h=> ?_);exact eN h (gg [] [0,1,2])
    exact ae (eN h (gg [] [0,1,2]))
   refine ab ?_;obtain⟨a2,a3,h⟩:=g2 h;refine GD a0 [(3,3,oc a2),(9,9,oc a3)] ?_;obtain⟨a4,h⟩:=aD h;obtain⟨a8,a5,h⟩:=aj h;obtain⟨a6,h⟩:=aD h;have u:=(mE m a5);refine jC ⟨[],[(8,(oP u))]⟩ [(4,4,oc a4),(8,8,oc u),(13,13,oc a6)] (au (ab (Ge ?_)));exact eB h (gg [] [0,1])
  refine aq (aL ?_);exact eX h (gg [] [0,1])
 obtain⟨I,J⟩:=M;refine av (ab (GC 5 h (fun h=>ao ?_)));obtain rfl:=sI h;exact RI [(.slice Y9),(.slice (.int .i64))]
def b7(q:List eD)(j:List Int)(k:List Bool)(f:List Int):tP→Option (tP⊕(List Int)):=fun(e,c) =>
 (if(decide (c<(f.length:Int)))=true then(if 0≤c∧c<(f.length:Int)then(((if((f.getD c.toNat 0) == (q.length:Int))=true then(if(e.length+([2]:List Int).length)*1≤140737488355328∧e.length+([2]:List Int).length≤9223372036854775807 then some ((e++([2]:List Int)))else none)
 else(((if((f.getD c.toNat 0) == 0)=true then some (true)
 else some ((decide ((f.getD c.toNat 0)≥(j.length:Int)))))).bind fun m=>(if m=true then(if(e.length+([0]:List Int).length)*1≤140737488355328∧e.length+([0]:List Int).length≤9223372036854775807 then some ((e++([0]:List Int)))else none)
 else(((if 0≤(f.getD c.toNat 0)∧(f.getD c.toNat 0)<(j.length:Int)then(if((j.getD ((f.getD c.toNat 0).toNat) 0) == 0)=true then(if(decide ((f.getD c.toNat 0)<(k.length:Int)))=true then(if 0≤(f.getD c.toNat 0)∧(f.getD c.toNat 0)<(k.length:Int)then some ((k.getD ((f.getD c.toNat 0).toNat) false))else none)
 else some (false))
 else some (false))else none)).bind fun v20=>(if v20=true then(if(e.length+([3]:List Int).length)*1≤140737488355328∧e.length+([3]:List Int).length≤9223372036854775807 then some ((e++([3]:List Int)))else none)
 else(if 0≤(f.getD c.toNat 0)∧(f.getD c.toNat 0)<(j.length:Int)then(if(e.length+([(j.getD ((f.getD c.toNat 0).toNat) 0)]:List Int).length)*1≤140737488355328∧e.length+([(j.getD ((f.getD c.toNat 0).toNat) 0)]:List Int).length≤9223372036854775807 then some ((e++([(j.getD ((f.getD c.toNat 0).toNat) 0)]:List Int)))else none)else none))))))).bind fun p=>some (Sum.inl (p,(i64.wrap (c+1)))))else none)
 else some (Sum.inr e))
def gu(e:List eD)(f j:List Int)(k:List Bool)(m:Option AE):Option ((List Z2)×List Int) :=
 ((kZ e f m).bind fun(p,q) =>
 ((iter (b7 e j k q) (([]:List Int),0)).bind fun c=>some (p,c)))
theorem yE(e E k m I:Bool){B:List eD}{i1 C:List Int}{D:List Bool}{x3:Option AE}{J:(List Z2)×List Int}(h:gu B i1 C D x3=some J):
  Pure Tryz.prog 83 [.p e (.slice (.prod (.int .i32) Y2)) B,.p E (.slice (.int .u8)) i1,.p k (.slice (.int .u8)) C,.p m (.slice .bool) D,.p I (.ptr xn) x3] (aG (aU false [⟨eO,J⟩])):=by
 refine PB Tryz.func83 (fun Bw w0=> ?_);unfold gu at h;refine G ?_;obtain⟨⟨L,q⟩,q2,h⟩:=aj h;refine GP 3 (yd e E I q2) (G (af (G (ak (cd h (fun(u,c)=>ay [(0,.p e (.slice (.prod (.int .i32) Y2)) B),(2,.p k (.slice (.int .u8)) C),(3,.p m (.slice .bool) D),(10,.adr 0 0 2 0),(13,.adr 1 0 2 0),(25,.p false (.slice (.int .i64)) q),(26,.i64 (q.length:Int)),(27,.i64 c)] (HI L u) 3) 0 (fun M=>ay [(10,.adr 0 0 2 0),(13,.adr 1 0 2 0)] (HI L M) 3) (gg [.nilC 96 1 136 126 (.int .u8)] [0,96,136]) (fun y o h=> ?_) (fun M h=> ?_))))))
 ·obtain⟨u,c⟩:=y;unfold b7 at h;refine G (af (aA h (fun R h=> ?_) (fun R h=> ?_)))
  ·refine ae (ab (af (ak (GC 0 h (fun h=>ak (G (bg h (fun x=>ay [(0,.p e (.slice (.prod (.int .i32) Y2)) B),(2,.p k (.slice (.int .u8)) C),(3,.p m (.slice .bool) D),(10,.adr 0 0 2 0),(13,.adr 1 0 2 0),(25,.p false (.slice (.int .i64)) q),(26,.i64 (q.length:Int)),(27,.i64 c)] (HI L x) 3) (fun x h=> ?_) (fun x h=> ?_))))))))
   ·refine aA h (fun V h=> ?_) (fun V h=> ?_)
    ·refine tq 3 h (fun h=> ?_);exact eN h (gg [] [0,1,99])
    refine af (bg h (fun z=>ay [(0,.p e (.slice (.prod (.int .i32) Y2)) B),(2,.p k (.slice (.int .u8)) C),(3,.p m (.slice .bool) D),(10,.adr 0 0 2 0),(13,.adr 1 0 2 0),(15,.i64 (q.getD c.toNat 0)),(25,.p false (.slice (.int .i64)) q),(26,.i64 (q.length:Int)),(27,.i64 c),(50,.bo z)] (HI L u) 3) (fun z h=> ?_) (fun z h=> ?_))
    ·rcases aF h with⟨v,h⟩ | ⟨v,h⟩
     ·exact bq ⟨[(2,true),(7,true)],[]⟩ [(3,7,oc v)] (eN h (gg [] [0,1,2]))
     exact bq ⟨[(2,false),(7,false)],[]⟩ [(3,6,an v),(7,7,oc v)] (eN h (gg [] [0,1,2]))
    refine ab (aA h (fun X h=> ?_) (fun X h=> ?_))
    ·refine tq 3 h (fun h=> ?_);exact eN h (gg [] [0,1,27])
    refine af (bg h (fun v20=>ay [(0,.p e (.slice (.prod (.int .i32) Y2)) B),(2,.p k (.slice (.int .u8)) C),(3,.p m (.slice .bool) D),(10,.adr 0 0 2 0),(13,.adr 1 0 2 0),(15,.i64 (q.getD c.toNat 0)),(25,.p false (.slice (.int .i64)) q),(26,.i64 (q.length:Int)),(27,.i64 c),(64,.bo v20)] (HI L u) 3) (fun v20 h=> ?_) (fun v20 h=> ?_))
    ·obtain⟨A,h⟩:=aD h;rcases aF h with⟨f,h⟩ | ⟨f,h⟩
     ·rcases aF h with⟨j,h⟩ | ⟨j,h⟩
      ·obtain⟨Y,h⟩:=aD h;exact bq ⟨[(5,true),(10,true),(11,true),(16,true)],[]⟩ [(2,2,oc A),(6,9,an f),(10,10,oc f),(12,13,an j),(14,14,oc (And.intro j Y)),(15,15,an j),(16,16,oc j)] (eN h (gg [] [0,1,2]))
      exact bq ⟨[(5,true),(10,true),(11,false),(16,false)],[]⟩ [(2,2,oc A),(6,9,an f),(10,10,oc f),(12,16,oc j)] (eN h (gg [] [0,1,2]))
     exact bq ⟨[(5,false),(10,false)],[]⟩ [(2,2,oc A),(6,10,oc f)] (eN h (gg [] [0,1,2]))
    refine ab (aA h (fun Z h=> ?_) (fun Z h=> ?_))
    ·refine tq 3 h (fun h=> ?_);exact eN h (gg [] [0,1,27])
    obtain⟨N,O,h⟩:=g2 h;exact jC a0 [(4,4,oc N),(7,7,oc O)] (eN h (gg [] [0,1,59]))
   refine au (au (ab (Ge ?_)));exact eB h (gg [] [0,1,2])
  refine aq (aL ?_);exact eX h (gg [] [0,1,2])
 refine av (ab (G (nA [.frzC 0 1] (by kernel_rfl) (ao ?_))));obtain rfl:=sI h;exact RI [eO]
def aM(c:Option Z1)(e:List Int):Option (((List Z2)×List Int)×Int) :=
 (if c.isNone=true then some ((([]:List Z2),([]:List Int)),1)
 else(if(decide ((e.length:Int) > 4096))=true then some ((([]:List Z2),([]:List Int)),3)
 else((mD e).bind fun j =>
 (if c.isSome=true then(if c.isSome=true then((b8 ((c.getD (Ty.zero u7)).2.2.1) j).bind fun u =>
 ((dP ((c.getD (Ty.zero u7)).1) u).bind fun k =>
 (if c.isSome=true then(if c.isSome=true then((b8 ((c.getD (Ty.zero u7)).2.2.2.1) j).bind fun m =>
 ((dP ((c.getD (Ty.zero u7)).2.1) m).bind fun p =>
 (if c.isSome=true then((dy ((c.getD (Ty.zero u7)).2.2.2.2.2) j).bind fun q =>
 (if c.isSome=true then((gu j k p q ((c.getD (Ty.zero u7)).2.2.2.2.1)).bind fun f =>
 some ((f.1,f.2),0))else none))else none)))else none)else none)))else none)else none))))
theorem rJ(j:Bool){M:Option Z1}{c:List Int}{f:((List Z2)×List Int)×Int}(h:aM M c=some f):
  Pure Tryz.prog 53 [.p false (.ptr u7) M,.p j (.slice (.int .u8)) c] (aG (aU false [⟨eO,f.1⟩,⟨(.int .i64),f.2⟩])):=by
 refine PB Tryz.func53 (fun Bw w0=> ?_);unfold aM at h;refine G (af (GN a0 [(1,1,⟨∃e,Tryz.prog.underlying 50=some (.pointer e),⟨_,rfl⟩⟩)] (aA h (fun N h=> ?_) (fun N h=> ?_))))
 ·refine G (ao (ah ?_));obtain rfl:=sI h;exact RI [eO,(.int .i64)]
 refine ae (ab (af (G (aA h (fun O h=> ?_) (fun O h=> ?_)))))
 ·refine G (ao (ah ?_));obtain rfl:=sI h;exact RI [eO,(.int .i64)]
 refine ae (ab ?_);obtain⟨r2,R,h⟩:=aj h;refine GP 1 (uK j R) ?_;obtain⟨V,X,h⟩:=g2 h;obtain⟨r9,Y,h⟩:=aj h;obtain⟨Z,z,h⟩:=aj h;obtain⟨c9,B,h⟩:=g2 h;obtain⟨a1,C,h⟩:=aj h;obtain⟨a2,D,h⟩:=aj h;obtain⟨E,h⟩:=aD h;obtain⟨a3,I,h⟩:=aj h;obtain⟨J,h⟩:=aD h;obtain⟨a4,L,h⟩:=aj h;have k:=(kY false false Y);have m:=(kU false false z);have q:=(kY false false C);have u:=(kU false false D);have v:=(nu false I);have x:=(yE false false false false false L);refine GD ⟨[],[(10,(oP k)),(11,(oP m)),(21,(oP q)),(22,(oP u)),(28,(oP v)),(33,(oP x))]⟩ [(2,2,oc V),(6,6,oc X),(10,10,oc k),(11,11,oc m),(13,13,oc c9),(17,17,oc B),(21,21,oc q),(22,22,oc u),(24,24,oc E),(28,28,oc v),(30,30,oc J),(33,33,oc x)] (ao ?_);obtain rfl:=sI h;exact RI [eO,(.int .i64)]
def eF(j:List Int):tP→Option (tP⊕(List Int)):=fun(c,e) =>
 (if(decide (e<(j.length:Int)))=true then(if 0≤e∧e<(j.length:Int)then(((if((j.getD e.toNat 0) == 2)=true then(if(c.length+([e]:List Int).length)*8≤140737488355328∧c.length+([e]:List Int).length≤9223372036854775807 then some ((c++([e]:List Int)))else none)
 else some (c))).bind fun f=>some (Sum.inl (f,(i64.wrap (e+1)))))else none)
 else some (Sum.inr c))
def lL(_:List Z2)(e:List Int):Option (List Int) :=
 ((iter (eF e) (([]:List Int),0)).bind fun c=>some c)
theorem xr(q j:Bool){v:List Z2}{k m:List Int}(h:lL v k=some m):
  Pure Tryz.prog 54 [.agg [.p q (.slice Y9) v,.p j (.slice (.int .u8)) k]] (aG (aU false [⟨(.slice (.int .i64)),m⟩])):=by
 refine PB Tryz.func54 (fun Bw w0=> ?_);unfold lL at h;refine G (G (af (G (ak (cd h (fun(e,u)=>ay [(3,.sl 0),(7,.p j (.slice (.int .u8)) k),(8,.i64 (k.length:Int)),(9,.i64 u)] [(0,.arr 3 (.int .i64) e)] 1) 0 (fun f=>ay [(3,.sl 0)] [(0,.arr 3 (.int .i64) f)] 1) (gg [.nilS 3 56 3 (.int .i64)] [56]) (fun y o h=> ?_) (fun f h=> ?_))))))
 ·obtain⟨e,u⟩:=y;unfold eF at h;refine G (af (aA h (fun x h=> ?_) (fun x h=> ?_)))
  ·refine ae (ab (af (ak (GC 1 h (fun h=>G (bg h (fun c=>ay [(3,.sl 0),(7,.p j (.slice (.int .u8)) k),(8,.i64 (k.length:Int)),(9,.i64 u)] [(0,.arr 3 (.int .i64) c)] 1) (fun c h=> ?_) (fun c h=> ?_)))))))
   ·refine aA h (fun z h=> ?_) (fun z h=> ?_)
    ·refine tq 3 h (fun h=> ?_);exact eN h (gg [] [89])
    exact ae (eN h (gg [] [0]))
   refine au (ab (Ge ?_));exact eB h (gg [] [0])
  refine aq (aL ?_);exact eX h (gg [] [0])
 refine av (ab (G (ao ?_)));obtain rfl:=sI h;exact RI [(.slice (.int .i64))]
def iv(e:List Z2)(f:List Int)(k:Int):tP→Option (tP⊕(List Int)):=fun(j,c) =>
 (if(decide (c<k))=true then(if 0≤c∧c<(e.length:Int)then(if 0≤(4:Int)then(if 0≤(i64.wrap (c+1))∧(i64.wrap (c+1))<(f.length:Int)then(if(j.length+([(bitsOf .or .u8 (u8.wrap ((u8.wrap ((e.getD c.toNat (0,0,0,0)).2.2.1))*2 ^ (min (4:Int).toNat u8.bits))) ((e.getD c.toNat (0,0,0,0)).2.2.2)),(f.getD ((i64.wrap (c+1)).toNat) 0)]:List Int).length)*1≤140737488355328∧j.length+([(bitsOf .or .u8 (u8.wrap ((u8.wrap ((e.getD c.toNat (0,0,0,0)).2.2.1))*2 ^ (min (4:Int).toNat u8.bits))) ((e.getD c.toNat (0,0,0,0)).2.2.2)),(f.getD ((i64.wrap (c+1)).toNat) 0)]:List Int).length≤9223372036854775807 then some (Sum.inl ((j++([(bitsOf .or .u8 (u8.wrap ((u8.wrap ((e.getD c.toNat (0,0,0,0)).2.2.1))*2 ^ (min (4:Int).toNat u8.bits))) ((e.getD c.toNat (0,0,0,0)).2.2.2)),(f.getD ((i64.wrap (c+1)).toNat) 0)]:List Int)),(i64.wrap (c+1))))else none)else none)else none)else none)
 else some (Sum.inr j))
def oT(f:List Z2)(j:List Int)(c e:Int):Option (List UInt8) :=
 (if 0≤(0:Int)∧0≤(i64.wrap (2*(i64.wrap (e - c))))∧1*(i64.wrap (2*(i64.wrap (e - c))))≤281474976710656∧(i64.wrap (2*(i64.wrap (e - c))))≤9223372036854775807 then((iter (iv f j e) ((List.replicate (0:Int).toNat (0:Int)),c)).bind fun k=>some (bytesOf k))else none)
theorem By(f j:Bool){m:List Z2}{q:List Int}{c e:Int}{k:List UInt8}(h:oT m q c e=some k):
  Pure Tryz.prog 55 [.agg [.p f (.slice Y9) m,.p j (.slice (.int .u8)) q],.i64 c,.i64 e] (aG (aU false [⟨.str,k⟩])):=by
 refine PB Tryz.func55 (fun Bw w0=> ?_);unfold oT at h;refine G (GC 4 h (fun h=>af (G (ak (cd h (fun(z,B)=>ay [(2,.i64 e),(3,.adr 0 0 2 0),(7,.sl 1),(8,.i64 B)] (Lz f m j q z) 2) 0 (fun C=>ay [(7,.sl 0)] [(0,.arr 5 (.int .u8) C)] 1) (gg [] [0,48]) (fun y o h=> ?_) (fun C h=> ?_))))))
 ·obtain⟨z,B⟩:=y;unfold iv at h;refine af (G (aA h (fun D h=> ?_) (fun D h=> ?_)))
  ·refine ae (ab (af (ak (GC 3 h (fun h=> ?_)))));obtain⟨u,v,x,h⟩:=g3 h;refine jC a0 [(4,4,oc u),(12,12,oc v),(15,15,oc x)] (au (ab (Ge ?_)));exact eB h (gg [] [0,202])
  refine aq (aL ?_);exact eX h (gg [] [1])
 refine av (ab (G (ao ?_)));obtain rfl:=sI h;exact RI [.str]
def jy(_ _ f j c e:Int):Option (Int) :=
 (if(j == 2)=true then(if ¬e=0 then some (i64.wrap ((i64.wrap (c+e)) - (Int.tmod c e)))else none)
 else some (i64.wrap (c+f)))
theorem nS{j k:Int}{m p:Int}{c e f:Int}(h:jy j k m p c e=some f):
  Pure Tryz.prog 129 [.agg [.i64 j,.i64 k,.i64 m,.u8 p],.i64 c,.i64 e] (aG (aU false [⟨(.int .i64),f⟩])):=by
 refine PB Tryz.func129 (fun Bw w0=> ?_);unfold jy at h;refine G (af (G (aA h (fun q h=> ?_) (fun q h=> ?_))))
 ·refine GC 5 h (fun h=>ao (ah ?_));obtain rfl:=sI h;exact RI [(.int .i64)]
 refine ae (ab (G (ao ?_)));obtain rfl:=sI h;exact RI [(.int .i64)]
def lz(_ _ e c:Int):Option (Bool) :=
 (((if(c == 1)=true then some (true)
 else(if(c == 0)=true then some ((e == 0))
 else some (false)))).bind fun v1=>some v1)
theorem yl{j k:Int}{m p:Int}{e:Bool}(h:lz j k m p=some e):
  Pure Tryz.prog 154 [.agg [.i64 j,.i64 k,.i64 m,.u8 p]] (aG (aU false [⟨.bool,e⟩])):=by
 refine PB Tryz.func154 (fun Bw w0=> ?_);unfold lz at h;refine G (af (bg h (fun v1=>ay [(2,.bo v1)] [] 0) (fun v1 h=> ?_) (fun v1 h=> ?_)))
 ·rcases aF h with⟨c,h⟩ | ⟨c,h⟩
  ·exact bq ⟨[(3,true),(12,true)],[]⟩ [(4,7,oc c),(11,12,oc c)] (eN h (gg [] []))
  rcases aF h with⟨f,h⟩ | ⟨f,h⟩
  ·exact bq ⟨[(3,false),(7,true),(11,true),(12,false)],[]⟩ [(4,7,an c),(8,10,an f),(11,11,oc (And.intro c f)),(12,12,oc c)] (eN h (gg [] []))
  exact bq ⟨[(3,false),(7,false),(11,false),(12,false)],[]⟩ [(4,7,an c),(8,10,oc f),(11,11,oc (And.intro c f)),(12,12,oc c)] (eN h (gg [] []))
 refine ab (ao ?_);obtain rfl:=sI h;exact RI [.bool]
def dU(f:List Z2)(e:Int):(Int)→Option ((Int)⊕(Int)):=fun c =>
 (((if(decide (c > e))=true then(if 0≤(i64.wrap (c - 1))∧(i64.wrap (c - 1))<(f.length:Int)then((lz ((f.getD ((i64.wrap (c - 1)).toNat) (0,0,0,0)).1) ((f.getD ((i64.wrap (c - 1)).toNat) (0,0,0,0)).2.1) ((f.getD ((i64.wrap (c - 1)).toNat) (0,0,0,0)).2.2.1) ((f.getD ((i64.wrap (c - 1)).toNat) (0,0,0,0)).2.2.2)).bind fun j =>
 some (j))else none)
 else some (false))).bind fun k=>(if k=true then some (Sum.inl (i64.wrap (c - 1)))
 else some (Sum.inr c)))
def fC(j:List Z2)(_:List Int)(c e:Int):Option (Int) :=
 ((iter (dU j c) e).bind fun f=>some f)
theorem nb(f j:Bool){x:List Z2}{z:List Int}{c m q:Int}(h:fC x z c m=some q):
  Pure Tryz.prog 146 [.agg [.p f (.slice Y9) x,.p j (.slice (.int .u8)) z],.i64 c,.i64 m] (aG (aU false [⟨(.int .i64),q⟩])):=by
 refine PB Tryz.func146 (fun Bw w0=> ?_);unfold fC at h;refine G (af (ak (cd h (fun k=>ay [(1,.i64 c),(2,.i64 k),(3,.adr 0 0 2 0)] (Ku f x j z) 1) 0 (fun u=>ay [(2,.i64 u)] [] 0) (gg [] [0]) (fun k o h=> ?_) (fun u h=> ?_))))
 ·unfold dU at h;refine af (af (bg h (fun A=>ay [(1,.i64 c),(2,.i64 k),(3,.adr 0 0 2 0),(18,.bo A)] (Ku f x j z) 1) (fun A h=> ?_) (fun A h=> ?_)))
  ·rcases aF h with⟨e,h⟩ | ⟨e,h⟩
   ·obtain⟨C,h⟩:=aD h;obtain⟨E,D,h⟩:=aj h;have v:=(yl D);exact bq ⟨[(3,true),(11,true)],[(10,(oP v))]⟩ [(4,7,an e),(8,8,oc (And.intro e C)),(9,9,an e),(10,10,oc (And.intro e v)),(11,11,oc e)] (eN h (gg [] [0]))
   exact bq ⟨[(3,false),(11,false)],[]⟩ [(4,11,oc e)] (eN h (gg [] [0]))
  refine ab (aA h (fun B h=> ?_) (fun B h=> ?_))
  ·refine ae (ab (ak (Ge (au ?_))));exact eB h (gg [] [0])
  refine aq (aL ?_);exact eX h (gg [] [])
 refine av (ab (G (ao ?_)));obtain rfl:=sI h;exact RI [(.int .i64)]
def kM(_:List Z2)(e:List Int)(c:Int):Option (Int×Bool) :=
 (if 0≤c∧c<(e.length:Int)then(if 0≤c∧c<(e.length:Int)then some ((e.getD c.toNat 0),((e.getD c.toNat 0) != 0))else none)else none)
theorem sD(f j:Bool){k:List Z2}{m:List Int}{e:Int}{c:Int×Bool}(h:kM k m e=some c):
  Pure Tryz.prog 147 [.agg [.p f (.slice Y9) k,.p j (.slice (.int .u8)) m],.i64 e] (aG (aU false [⟨(.int .u8),c.1⟩,⟨.bool,c.2⟩])):=by
 refine PB Tryz.func147 (fun Bw w0=> ?_);unfold kM at h;refine G ?_;obtain⟨q,u,h⟩:=g2 h;refine GD a0 [(3,3,oc q),(8,8,oc u)] (ao ?_);obtain rfl:=sI h;exact RI [(.int .u8),.bool]
def tf(c e:Int):Option (Option Nat) :=
 some (bN .quo (ofInt c) (ofInt e))
theorem Cn{c e:Int}{f:Option Nat}(h:tf c e=some f):
  Pure Tryz.prog 155 [.i64 c,.i64 e] (aG (aU false [⟨.flt,f⟩])):=by
 refine PB Tryz.func155 (fun Bw w0=> ?_);unfold tf at h;refine G (G (ao ?_));obtain rfl:=sI h;exact RI [.flt]
def nw(e c:Option Nat):Option (Bool) :=
 some (!(Lu e c))
theorem ym{f c:Option Nat}{e:Bool}(h:nw f c=some e):
  Pure Tryz.prog 156 [.p false .flt f,.p false .flt c] (aG (aU false [⟨.bool,e⟩])):=by
 refine PB Tryz.func156 (fun Bw w0=> ?_);unfold nw at h;refine G (G (ao ?_));obtain rfl:=sI h;exact RI [.bool]
def m9(c:Option Nat):Option (Bool) :=
 some (!(Jn c c))
theorem yF{e:Option Nat}{c:Bool}(h:m9 e=some c):
  Pure Tryz.prog 160 [.p false .flt e] (aG (aU false [⟨.bool,c⟩])):=by
 refine PB Tryz.func160 (fun Bw w0=> ?_);unfold m9 at h;refine G (G (ao ?_));obtain rfl:=sI h;exact RI [.bool]
def wh(c:Option Nat):Option (Option Nat):=some (wF c)
theorem wq(b:Nat)(w:World):
  Calls Tryz.prog 161 #[.float .f64 b] w fun e c=>e = .returned (.float .f64 (b % 9223372036854775808))∧c=w:=by
 have f:∀w,(callFunc 164 #[.float .f64 b]).run Tryz.prog w = .ok (.value (.int .u64 b)) w:=fun w=>by rw[run_callFunc_extern (fn:=Tryz.f164) (e:=Extern.MathFloatBits.float64bits) Tryz.func164 (by kernel_rfl) rfl (by kernel_rfl) (by kernel_rfl)];rfl
 have j:∀(n:Int) w,(callFunc 163 #[.int .u64 n]).run Tryz.prog w = .ok (.value (.float .f64 n.toNat)) w:=fun n w=>by rw[run_callFunc_extern (fn:=Tryz.f163) (e:=Extern.MathFloatBits.float64frombits) Tryz.func163 (by kernel_rfl) rfl (by kernel_rfl) (by kernel_rfl)];rfl
 go_enter Tryz.func161,Tryz.ntmps161;go_wp2
 go_ret
 exact⟨by rw[←Hv];rfl,rfl⟩
theorem Bt{e c:Option Nat}(h:wh e=some c):
  Pure Tryz.prog 161 [.p false .flt e] (aG (aU false [⟨.flt,c⟩])):=by
 obtain rfl:=sI h;exact Pure.J6 Tryz.func161 (by kernel_rfl) rfl (fun b w=>wq b w)
def g6(e:Option Nat):Option (Int) :=
 ((m9 e).bind fun f =>
 (if f=true then some 0
 else((wh e).bind fun c =>
 (if(!(JM (bN .mul (bN .mul (bN .mul (dw 4636737291354636288) c) c) c) (dw 4666723172467343360)))=true then some 10000
 else(if(ov (bN .mul (bN .mul (bN .mul (dw 4636737291354636288) c) c) c)).isSome=true∧i64.min≤(ov (bN .mul (bN .mul (bN .mul (dw 4636737291354636288) c) c) c)).getD 0∧(ov (bN .mul (bN .mul (bN .mul (dw 4636737291354636288) c) c) c)).getD 0≤i64.max then some ((ov (bN .mul (bN .mul (bN .mul (dw 4636737291354636288) c) c) c)).getD 0)else none)))))
theorem tM{e:Option Nat}{c:Int}(h:g6 e=some c):
  Pure Tryz.prog 157 [.p false .flt e] (aG (aU false [⟨(.int .i64),c⟩])):=by
 refine PB Tryz.func157 (fun Bw w0=> ?_);unfold g6 at h;refine G (af ?_);obtain⟨q,f,h⟩:=aj h;refine GP 1 (yF f) (aA h (fun j h=> ?_) (fun j h=> ?_))
 ·refine G (ao (ah ?_));obtain rfl:=sI h;exact RI [(.int .i64)]
 refine ae (ab ?_);obtain⟨u,k,h⟩:=aj h;refine GP 1 (Bt k) (G (af (G (aA h (fun m h=> ?_) (fun m h=> ?_)))))
 ·refine G (ao (ah ?_));obtain rfl:=sI h;exact RI [(.int .i64)]
 refine ae (ab (GC 1 h (fun h=>ao ?_)));obtain rfl:=sI h;exact RI [(.int .i64)]
def eT(_:List Z2)(x:List Int)(e m z f:Int)(j:Bool)(A _ _ B C:Int)(D:Option Nat):Option (Int×Bool) :=
 (if(decide (z > A))=true then some (0,false)
 else(((if(!j)=true then((tf (i64.wrap (A - z)) f).bind fun p =>
 ((nw p D).bind fun q =>
 (if(!q)=true then some ((Sum.inr (0,false)))
 else((g6 p).bind fun u =>
 some ((Sum.inl u))))))
 else some ((Sum.inl 0)))).bind fun(v:((Int)⊕(Int×Bool)))=>match v with
 | .inl c=>(((if(m == 3)=true then(if 0≤e∧e<(x.length:Int)then(if((x.getD e.toNat 0) == 3)=true then some ((i64.wrap ((i64.wrap ((i64.wrap ((i64.wrap (10+c))*(i64.wrap (10+c))))+B))+C)))
 else some ((i64.wrap ((i64.wrap ((i64.wrap (10+c))*(i64.wrap (10+c))))+B))))else none)
 else some ((i64.wrap ((i64.wrap (10+c))*(i64.wrap (10+c))))))).bind fun k=>some (k,true))
 | .inr ((E,I))=>some (E,I)))
theorem yD(v x:Bool){A:List Z2}{B:List Int}{c j:Int}{R k:Int}{m:Bool}{C D:Int}{E I J:Int}{L:Option Nat}{u:Int×Bool}(h:eT A B c j R k m C D E I J L=some u):
  Pure Tryz.prog 148 [.agg [.p v (.slice Y9) A,.p x (.slice (.int .u8)) B],.i64 c,.u8 j,.i64 R,.i64 k,.bo m,.agg [.i64 C,.i64 D,.u8 E,.i64 I,.i64 J,.p false .flt L]] (aG (aU false [⟨(.int .i64),u.1⟩,⟨.bool,u.2⟩])):=by
 refine PB Tryz.func148 (fun Bw w0=> ?_);unfold eT at h;refine G (af (G (aA h (fun Z h=> ?_) (fun Z h=> ?_))))
 ·refine G (ao (ah ?_));obtain rfl:=sI h;exact RI [(.int .i64),.bool]
 refine ae (ab (G (af (G (Db h (cN (od Tryz.f148.ntmps (fun q=>ay [(1,.i64 c),(2,.u8 j),(7,.adr 0 0 2 0),(13,.adr 1 0 6 0),(16,.i64 q)] (KR v A x B C D E I J L) 2)) (eQ tb Tryz.f148.results.toList (fun(V,X)=>[⟨(.int .i64),V⟩,⟨.bool,X⟩]))) (fun z h=> ?_) (fun z h e σ' Y=> ?_))))))
 ·refine aA h (fun B4 h=> ?_) (fun B4 h=> ?_)
  ·obtain⟨a1,q8,h⟩:=aj h;refine GP 5 (Cn q8) (af ?_);obtain⟨a2,M,h⟩:=aj h;refine GP 3 (ym M) (aA h (fun B5 h=> ?_) (fun B5 h=> ?_))
   ·refine G (ao ?_);obtain rfl:=sI h;refine ah (aK ?_);exact bu (RI [(.int .i64),.bool])
   refine ae (ab ?_);obtain⟨a3,N,h⟩:=aj h;refine Lw 1 (tM N) ?_;obtain rfl:=sI h;exact aX (cu (gg [] [0,8]))
  refine ae ?_;obtain rfl:=sI h;exact aX (cu (gg [] [0,8]))
 rcases z with q | ⟨V,X⟩
 ·obtain⟨rfl,O⟩:=Y;refine bY ?_ O;refine ab (G (af (G (bg h (fun f=>ay [(18,.i64 f)] [] 0) (fun f h=> ?_) (fun f h=> ?_)))))
  ·refine aA h (fun B8 h=> ?_) (fun B8 h=> ?_)
   ·refine G (GC 3 h (fun h=>aA h (fun B9 h=> ?_) (fun B9 h=> ?_)))
    ·exact Ge (eN h (gg [] []))
    exact ae (eN h (gg [] []))
   exact ae (eN h (gg [] []))
  refine ab (G (ao ?_));obtain rfl:=sI h;exact RI [(.int .i64),.bool]
 obtain⟨rfl,hr⟩:=Y;refine ah ?_;obtain rfl:=sI h;exact hr
def dY(k:List Z2)(B:List Int)(i1 u C:Int)(A:List (Int×Int))(Y Z x6 x7 x8:Int)(x9:Option Nat):(Int×Int×Int×Int×Int×Int×Int)→Option ((Int×Int×Int×Int×Int×Int×Int)⊕(Int×Int)):=fun(e,f,D,E,v,I,v30) =>
 (if(decide (v30≤C))=true then(if 0≤(i64.wrap (v30 - 1))∧(i64.wrap (v30 - 1))<(k.length:Int)then((jy ((k.getD ((i64.wrap (v30 - 1)).toNat) (0,0,0,0)).1) ((k.getD ((i64.wrap (v30 - 1)).toNat) (0,0,0,0)).2.1) ((k.getD ((i64.wrap (v30 - 1)).toNat) (0,0,0,0)).2.2.1) ((k.getD ((i64.wrap (v30 - 1)).toNat) (0,0,0,0)).2.2.2) D Z).bind fun m =>
 (((if(((k.getD ((i64.wrap (v30 - 1)).toNat) (0,0,0,0)).2.2.2) == 1)=true then some ((i64.wrap (v+1)))
 else some (v))).bind fun p=>((fC k B (i64.wrap (v30 - 1)) v30).bind fun J =>
 (((if(J == v30)=true then some ((m,p))
 else some ((E,I)))).bind fun(j,q)=>(if(decide (j > Y))=true then some (Sum.inr (e,f))
 else((kM k B v30).bind fun(x,L) =>
 (if 0≤(i64.wrap (v30 - u))∧(i64.wrap (v30 - u))<(A.length:Int)then(((if(!L)=true then some (true)
 else(if(decide (v30<C))=true then some ((decide (((A.getD ((i64.wrap (v30 - u)).toNat) (0,0)).2)<0)))
 else some (false)))).bind fun M=>(if M=true then some (Sum.inl (e,f,m,j,p,q,(i64.wrap (v30+1))))
 else(((if(x == 3)=true then some ((i64.wrap (j+1)))
 else some (j))).bind fun N=>((eT k B i1 x N q (v30 == C) Y Z x6 x7 x8 x9).bind fun(z,O) =>
 (((if O=true then(if(decide (f<0))=true then some (true)
 else some ((decide ((i64.wrap (z+((A.getD ((i64.wrap (v30 - u)).toNat) (0,0)).1)))<e))))
 else some (false))).bind fun R=>(((if R=true then some (((i64.wrap (z+((A.getD ((i64.wrap (v30 - u)).toNat) (0,0)).1))),v30))
 else some ((e,f)))).bind fun(V,X)=>some (Sum.inl (V,X,m,j,p,q,(i64.wrap (v30+1))))))))))else none)))))))else none)
 else some (Sum.inr (e,f)))
def mI(j:List Z2)(k:List Int)(f m p:Int)(q:List (Int×Int))(u v x z A:Int)(B:Option Nat):Option (Int×Int) :=
 ((iter (dY j k f m p q u v x z A B) (0,(-1:Int),0,0,0,0,(i64.wrap (f+1)))).bind fun(c,e)=>some (c,e))
theorem z5(c e k:Bool){E:List Z2}{I:List Int}{J q L:Int}{u:List (Int×Int)}{M N:Int}{O R V:Int}{X:Option Nat}{a4:Int×Int}(h:mI E I J q L u M N O R V X=some a4):
  Pure Tryz.prog 126 [.agg [.p c (.slice Y9) E,.p e (.slice (.int .u8)) I],.i64 J,.i64 q,.i64 L,.p k (.slice Y2) u,.agg [.i64 M,.i64 N,.u8 O,.i64 R,.i64 V,.p false .flt X]] (aG (aU false [⟨Y2,a4⟩])):=by
 refine PB Tryz.func126 (fun Bw w0=> ?_);unfold mI at h;refine G (G (G (af (G (ak (cd h (fun(v,x,a5,Y,a6,Z,v30)=>ay [(1,.i64 J),(2,.i64 q),(3,.i64 L),(4,.p k (.slice Y2) u),(6,.adr 0 0 2 0),(11,.adr 1 0 6 0),(12,.adr 2 0 2 0),(13,.adr 3 0 2 0),(14,.i64 a5),(15,.i64 Y),(16,.i64 a6),(17,.i64 Z),(18,.i64 v30)] (Ig c E e I M N O R V X 0 (0:Int) v x) 4) 0 (fun(a7,a8)=>ay [(12,.adr 0 0 2 0),(13,.adr 1 0 2 0)] (LS 0 (0:Int) a7 a8) 2) (gg [] [0,8,16,32]) (fun y o h=> ?_) (fun b1 h=> ?_)))))))
 ·obtain⟨v,x,a5,Y,a6,Z,v30⟩:=y;unfold dY at h;refine af (G (aA h (fun b2 h=> ?_) (fun b2 h=> ?_)))
  ·refine ae (ab (af (ak (GC 4 h (fun h=> ?_)))));obtain⟨z,b3,h⟩:=aj h;refine GP 4 (nS b3) (af (G (bg h (fun m=>ay [(1,.i64 J),(2,.i64 q),(3,.i64 L),(4,.p k (.slice Y2) u),(6,.adr 0 0 2 0),(11,.adr 1 0 6 0),(12,.adr 2 0 2 0),(13,.adr 3 0 2 0),(14,.i64 z),(15,.i64 Y),(16,.i64 m),(17,.i64 Z),(18,.i64 v30)] (Ig c E e I M N O R V X 0 (0:Int) v x) 4) (fun m h=> ?_) (fun m h=> ?_))))
   ·refine aA h (fun b4 h=> ?_) (fun b4 h=> ?_)
    ·exact Ge (eN h (gg [] [0,1,2,3]))
    exact ae (eN h (gg [] [0,1,2,3]))
   refine ab (af ?_);obtain⟨c2,b5,h⟩:=aj h;refine GP 4 (nb c e b5) (bg h (fun(A,B)=>ay [(1,.i64 J),(2,.i64 q),(3,.i64 L),(4,.p k (.slice Y2) u),(6,.adr 0 0 2 0),(11,.adr 1 0 6 0),(12,.adr 2 0 2 0),(13,.adr 3 0 2 0),(14,.i64 z),(15,.i64 A),(16,.i64 m),(17,.i64 B),(18,.i64 v30)] (Ig c E e I M N O R V X 0 (0:Int) v x) 4) (fun a9 h=> ?_) (fun a9 h=> ?_))
   ·refine aA h (fun b6 h=> ?_) (fun b6 h=> ?_)
    ·exact Ge (eN h (gg [] [0,1,2,3]))
    exact ae (eN h (gg [] [0,1,2,3]))
   obtain⟨A,B⟩:=a9;refine ab (af (G (aA h (fun be h=> ?_) (fun be h=> ?_))))
   ·refine aq (aL (ix rfl (aL ?_)));exact eX h (gg [] [2,3])
   refine ae (ab ?_);obtain⟨⟨aa,c3⟩,bi,h⟩:=aj h;refine GP 2 (sD c e bi) (GC 4 h (fun h=>af (af (bg h (fun a1=>ay [(1,.i64 J),(2,.i64 q),(3,.i64 L),(4,.p k (.slice Y2) u),(6,.adr 0 0 2 0),(11,.adr 1 0 6 0),(12,.adr 2 0 2 0),(13,.adr 3 0 2 0),(14,.i64 z),(15,.i64 A),(16,.i64 m),(17,.i64 B),(18,.i64 v30),(20,.u8 aa),(22,.adr 4 0 2 0),(86,.bo a1)] (Jx c E e I M N O R V X 0 (0:Int) v x ((u.getD ((i64.wrap (v30 - q)).toNat) (0,0)).1) ((u.getD ((i64.wrap (v30 - q)).toNat) (0,0)).2)) 5) (fun a1 h=> ?_) (fun a1 h=> ?_)))))
   ·rcases aF h with⟨f,h⟩ | ⟨f,h⟩
    ·exact bq ⟨[(2,true),(11,true)],[]⟩ [(3,6,oc f),(10,11,oc f)] (eN h (gg [] [0,1,2,3,148]))
    rcases aF h with⟨C,h⟩ | ⟨C,h⟩
    ·exact bq ⟨[(2,false),(6,true),(10,true),(11,false)],[]⟩ [(3,6,an f),(7,9,an C),(10,10,oc (And.intro f C)),(11,11,oc f)] (eN h (gg [] [0,1,2,3,148]))
    exact bq ⟨[(2,false),(6,false),(10,false),(11,false)],[]⟩ [(3,6,an f),(7,9,oc C),(10,10,oc (And.intro f C)),(11,11,oc f)] (eN h (gg [] [0,1,2,3,148]))
   refine ab (aA h (fun bs h=> ?_) (fun bs h=> ?_))
   ·refine aq (aL (av (ab (Ge ?_))));exact eB h (gg [] [0,1,2,3])
   refine ae (ab (G (af (G (bg h (fun a2=>ay [(1,.i64 J),(2,.i64 q),(3,.i64 L),(4,.p k (.slice Y2) u),(6,.adr 0 0 2 0),(11,.adr 1 0 6 0),(12,.adr 2 0 2 0),(13,.adr 3 0 2 0),(14,.i64 z),(15,.i64 A),(16,.i64 m),(17,.i64 B),(18,.i64 v30),(20,.u8 aa),(22,.adr 4 0 2 0),(23,.i64 a2)] (Jx c E e I M N O R V X 0 (0:Int) v x ((u.getD ((i64.wrap (v30 - q)).toNat) (0,0)).1) ((u.getD ((i64.wrap (v30 - q)).toNat) (0,0)).2)) 5) (fun a2 h=> ?_) (fun a2 h=> ?_))))))
   ·refine aA h (fun bt h=> ?_) (fun bt h=> ?_)
    ·exact Ge (eN h (gg [] [0,1,2,3,4]))
    exact ae (eN h (gg [] [0,1,2,3,4]))
   refine ab ?_;obtain⟨⟨bv,c4⟩,bx,h⟩:=aj h;refine GP 9 (yD c e bx) (af (bg h (fun a3=>ay [(1,.i64 J),(2,.i64 q),(3,.i64 L),(4,.p k (.slice Y2) u),(6,.adr 0 0 2 0),(11,.adr 1 0 6 0),(12,.adr 2 0 2 0),(13,.adr 3 0 2 0),(14,.i64 z),(15,.i64 A),(16,.i64 m),(17,.i64 B),(18,.i64 v30),(22,.adr 4 0 2 0),(24,.i64 bv),(119,.bo a3)] (Jx c E e I M N O R V X 0 (0:Int) v x ((u.getD ((i64.wrap (v30 - q)).toNat) (0,0)).1) ((u.getD ((i64.wrap (v30 - q)).toNat) (0,0)).2)) 5) (fun a3 h=> ?_) (fun a3 h=> ?_)))
   ·rcases aF h with⟨j,h⟩ | ⟨j,h⟩
    ·rcases aF h with⟨D,h⟩ | ⟨D,h⟩
     ·exact bq ⟨[(1,true),(5,true),(13,true),(14,true)],[]⟩ [(2,5,an j),(6,12,oc D),(13,13,oc (And.intro j D)),(14,14,oc j)] (eN h (gg [] [0,1,2,3,4]))
     exact bq ⟨[(1,true),(5,false),(13,false),(14,true)],[]⟩ [(2,5,an j),(6,12,an D),(13,13,oc (And.intro j D)),(14,14,oc j)] (eN h (gg [] [0,1,2,3,4]))
    exact bq ⟨[(1,false),(14,false)],[]⟩ [(2,5,oc j),(13,14,oc j)] (eN h (gg [] [0,1,2,3,4]))
   refine ab (bg h (fun(ac,ad)=>ay [(1,.i64 J),(2,.i64 q),(3,.i64 L),(4,.p k (.slice Y2) u),(6,.adr 0 0 2 0),(11,.adr 1 0 6 0),(12,.adr 2 0 2 0),(13,.adr 3 0 2 0),(14,.i64 z),(15,.i64 A),(16,.i64 m),(17,.i64 B),(18,.i64 v30)] (Ig c E e I M N O R V X 0 (0:Int) ac ad) 4) (fun ax h=> ?_) (fun ax h=> ?_))
   ·refine aA h (fun c1 h=> ?_) (fun c1 h=> ?_)
    ·exact Ge (eN h (gg [] [0,1,2,3]))
    exact ae (eN h (gg [] [0,1,2,3]))
   obtain⟨ac,ad⟩:=ax;refine au (ab (Ge ?_));exact eB h (gg [] [0,1,2,3])
  refine aq (aL ?_);exact eX h (gg [] [2,3])
 obtain⟨a7,a8⟩:=b1;refine av (ab (G (ao ?_)));obtain rfl:=sI h;exact RI [Y2]
def fe(j:List Z2)(m k:Int):tP→Option (tP⊕(List Int)):=fun(e,f) =>
 (if(decide (f<m))=true then(if 0≤f∧f<(j.length:Int)then(if 0≤(i64.wrap ((e.length:Int) - 1))∧(i64.wrap ((e.length:Int) - 1))<(e.length:Int)then(if(i64.wrap ((e.length:Int) - 1)).toNat<e.length then((jy ((j.getD f.toNat (0,0,0,0)).1) ((j.getD f.toNat (0,0,0,0)).2.1) ((j.getD f.toNat (0,0,0,0)).2.2.1) ((j.getD f.toNat (0,0,0,0)).2.2.2) (e.getD ((i64.wrap ((e.length:Int) - 1)).toNat) 0) k).bind fun p =>
 (if(e.length+([p]:List Int).length)*8≤140737488355328∧e.length+([p]:List Int).length≤9223372036854775807 then some (Sum.inl ((e++([p]:List Int)),(i64.wrap (f+1))))else none))else none)else none)else none)
 else some (Sum.inr e))
def iT(m:List Z2)(_:List Int)(e k f:Int):Option (List Int) :=
 ((iter (fe m k f) (([0]:List Int),e)).bind fun j=>some j)
theorem oe(m q:Bool){x:List Z2}{z:List Int}{c k e:Int}{u:List Int}(h:iT x z c k e=some u):
  Pure Tryz.prog 90 [.agg [.p m (.slice Y9) x,.p q (.slice (.int .u8)) z],.i64 c,.i64 k,.i64 e] (aG (aU false [⟨(.slice (.int .i64)),u⟩])):=by
 refine PB Tryz.func90 (fun Bw w0=> ?_);unfold iT at h;refine G (G (af (G (ak (cd h (fun(f,E)=>ay [(2,.i64 k),(3,.i64 e),(4,.adr 0 0 2 0),(9,.sl 1),(10,.i64 E)] (LW m x q z f) 2) 0 (fun j=>ay [(9,.sl 0)] [(0,.arr 3 (.int .i64) j)] 1) (gg [] [0,16]) (fun y o h=> ?_) (fun j h=> ?_))))))
 ·obtain⟨f,E⟩:=y;unfold fe at h;refine af (G (aA h (fun I h=> ?_) (fun I h=> ?_)))
  ·refine ae (ab (af (ak ?_)));obtain⟨A,B,C,h⟩:=g3 h;obtain⟨L,J,h⟩:=aj h;obtain⟨D,h⟩:=aD h;have v:=(nS J);refine jC ⟨[],[(13,(oP v))]⟩ [(4,4,oc A),(10,10,oc B),(11,11,oc C),(13,13,oc v),(15,15,oc D)] (au (ab (Ge ?_)));exact eB h (gg [] [0,146])
  refine aq (aL ?_);exact eX h (gg [] [1])
 refine av (ab (G (ao ?_)));obtain rfl:=sI h;exact RI [(.slice (.int .i64))]
def ny(m:List Z2)(p:List Int)(c k f j:Int):Option (Int) :=
 ((fC m p c k).bind fun q =>
 ((iT m p c q j).bind fun e =>
 (if 0≤(i64.wrap ((e.length:Int) - 1))∧(i64.wrap ((e.length:Int) - 1))<(e.length:Int)then(((if(f == 3)=true then some ((i64.wrap ((e.getD ((i64.wrap ((e.length:Int) - 1)).toNat) 0)+1)))
 else some ((e.getD ((i64.wrap ((e.length:Int) - 1)).toNat) 0)))).bind fun u=>some u)else none)))
theorem yK(j k:Bool){z:List Z2}{A:List Int}{c m:Int}{e f q:Int}(h:ny z A c m e f=some q):
  Pure Tryz.prog 149 [.agg [.p j (.slice Y9) z,.p k (.slice (.int .u8)) A],.i64 c,.i64 m,.u8 e,.i64 f] (aG (aU false [⟨(.int .i64),q⟩])):=by
 refine PB Tryz.func149 (fun Bw w0=> ?_);unfold ny at h;refine G ?_;obtain⟨E,B,h⟩:=aj h;obtain⟨I,C,h⟩:=aj h;have u:=(nb j k B);have v:=(oe j k C);refine GD ⟨[],[(5,(oP u)),(7,(oP v))]⟩ [(5,5,oc u),(7,7,oc v)] (GC 4 h (fun h=>af (G (bg h (fun x=>ay [(12,.i64 x)] [] 0) (fun x h=> ?_) (fun x h=> ?_)))))
 ·refine aA h (fun D h=> ?_) (fun D h=> ?_)
  ·exact Ge (eN h (gg [] []))
  exact ae (eN h (gg [] []))
 refine ab (G (ao ?_));obtain rfl:=sI h;exact RI [(.int .i64)]
def jo(k:List Z2)(m:List Int)(c f e j:Int):Option Z2 :=
 ((ny k m c f e j).bind fun p =>
 some (c,f,p,e))
theorem nt(j k:Bool){u:List Z2}{v:List Int}{c m:Int}{e f:Int}{q:Int×Int×Int×Int}(h:jo u v c m e f=some q):
  Pure Tryz.prog 127 [.agg [.p j (.slice Y9) u,.p k (.slice (.int .u8)) v],.i64 c,.i64 m,.u8 e,.i64 f] (aG (aU false [⟨Y9,q⟩])):=by
 refine PB Tryz.func127 (fun Bw w0=> ?_);unfold jo at h;refine G ?_;obtain⟨z,x,h⟩:=aj h;refine GP 7 (yK j k x) (ao ?_);obtain rfl:=sI h;exact RI [Y9]
end
end Go.Proofs.YtmcemnfjddoejaaGreatDoor.T
