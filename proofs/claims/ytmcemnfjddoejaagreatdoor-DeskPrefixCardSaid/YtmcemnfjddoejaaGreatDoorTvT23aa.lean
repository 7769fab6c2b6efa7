/- Functions of the program as functions on data, and that the program's own come to them. -/
import Derived.Test.YtmcemnfjddoejaaGreatDoorTvT23a0
import Derived.Test.YtmcemnfjddoejaaGreatDoorTvT23aa1
import Derived.Test.YtmcemnfjddoejaaGreatDoorTvT23aa3
import Derived.Test.YtmcemnfjddoejaaGreatDoorTvT23aa4
namespace Go.Proofs.YtmcemnfjddoejaaGreatDoor.T
open Go Go.Tv Go.Proofs
open Go.IntKind (i64 u64)
noncomputable section
set_option maxRecDepth 100000
set_option maxHeartbeats 4000000
def uv(c:List Z3):(Unit)→Option ((Unit)⊕((Unit)⊕((List pP)×Int×Int))):=fun _ =>
 (if(decide (0<(c.length:Int)))=true then(if 0≤(0:Int)∧0<(c.length:Int)then(if(cq (.int .i64) (0:Int) ((c.getD ((0:Int).toNat) (0,(0,0,([]:List Int)),(0,0,0,0,0,(some 0)),0,false,0,0)).1))=true then none
 else(if(cq (.int .i64) (1:Int) ((c.getD ((0:Int).toNat) (0,(0,0,([]:List Int)),(0,0,0,0,0,(some 0)),0,false,0,0)).1))=true then none
 else(if(cq (.int .i64) (2:Int) ((c.getD ((0:Int).toNat) (0,(0,0,([]:List Int)),(0,0,0,0,0,(some 0)),0,false,0,0)).1))=true then none
 else(if(cq (.int .i64) (3:Int) ((c.getD ((0:Int).toNat) (0,(0,0,([]:List Int)),(0,0,0,0,0,(some 0)),0,false,0,0)).1))=true then none
 else some (Sum.inr (Sum.inr (([]:List pP),60,0)))))))else none)
 else some (Sum.inr (Sum.inl ())))
def aV(e:List Z3)(Z:Option Z1):((List Z2)×Bool×Int×Int×Int×Int×Int×(Option Nat)×(List Int)×(List Z2)×(List Int)×(Option Z4)×(List Z9)×(List pP)×Int)→Option (((List Z2)×Bool×Int×Int×Int×Int×Int×(Option Nat)×(List Int)×(List Z2)×(List Int)×(Option Z4)×(List Z9)×(List pP)×Int)⊕((List pP)⊕((List pP)×Int×Int))):=fun(B,C,j,m,v20,p,q,u,D,E,I,J,L,f,v30) =>
 (if(decide (v30<(e.length:Int)))=true then(if 0≤v30∧v30<(e.length:Int)then(if(cq (.int .i64) (0:Int) ((e.getD v30.toNat (0,(0,0,[]),(0,0,0,0,0,(some 0)),0,false,0,0)).1))=true then((gm ((e.getD v30.toNat (0,(0,0,[]),(0,0,0,0,0,(some 0)),0,false,0,0)).1) ((e.getD v30.toNat (0,(0,0,[]),(0,0,0,0,0,(some 0)),0,false,0,0)).2.1.1) ((e.getD v30.toNat (0,(0,0,[]),(0,0,0,0,0,(some 0)),0,false,0,0)).2.1.2.1) ((e.getD v30.toNat (0,(0,0,[]),(0,0,0,0,0,(some 0)),0,false,0,0)).2.1.2.2) ((e.getD v30.toNat (0,(0,0,[]),(0,0,0,0,0,(some 0)),0,false,0,0)).2.2.1.1) ((e.getD v30.toNat (0,(0,0,[]),(0,0,0,0,0,(some 0)),0,false,0,0)).2.2.1.2.1) ((e.getD v30.toNat (0,(0,0,[]),(0,0,0,0,0,(some 0)),0,false,0,0)).2.2.1.2.2.1) ((e.getD v30.toNat (0,(0,0,[]),(0,0,0,0,0,(some 0)),0,false,0,0)).2.2.1.2.2.2.1) ((e.getD v30.toNat (0,(0,0,[]),(0,0,0,0,0,(some 0)),0,false,0,0)).2.2.1.2.2.2.2.1) ((e.getD v30.toNat (0,(0,0,[]),(0,0,0,0,0,(some 0)),0,false,0,0)).2.2.1.2.2.2.2.2) ((e.getD v30.toNat (0,(0,0,[]),(0,0,0,0,0,(some 0)),0,false,0,0)).2.2.2.1) ((e.getD v30.toNat (0,(0,0,[]),(0,0,0,0,0,(some 0)),0,false,0,0)).2.2.2.2.1) ((e.getD v30.toNat (0,(0,0,[]),(0,0,0,0,0,(some 0)),0,false,0,0)).2.2.2.2.2.1) ((e.getD v30.toNat (0,(0,0,[]),(0,0,0,0,0,(some 0)),0,false,0,0)).2.2.2.2.2.2) B C Z j m v20 p q u D E I J L 0 (0:Int) (0:Int) (0:Int) false).bind fun(a1,a2,a3,a4,a5,a6,a7,M) =>
 ((bT a1 a2 Z j m v20 p q u a3 a4 a5 a6 a7).bind fun v =>
 (if(f.length+([(M,(0,0),0,v.1,v.2)]:List pP).length)*64≤140737488355328∧f.length+([(M,(0,0),0,v.1,v.2)]:List pP).length≤9223372036854775807 then some (Sum.inl (a1,a2,j,m,v20,p,q,u,a3,a4,a5,a6,a7,(f++([(M,(0,0),0,v.1,v.2)]:List pP)),(i64.wrap (v30+1))))else none)))
 else(if(cq (.int .i64) (1:Int) ((e.getD v30.toNat (0,(0,0,[]),(0,0,0,0,0,(some 0)),0,false,0,0)).1))=true then((fQ ((e.getD v30.toNat (0,(0,0,[]),(0,0,0,0,0,(some 0)),0,false,0,0)).1) ((e.getD v30.toNat (0,(0,0,[]),(0,0,0,0,0,(some 0)),0,false,0,0)).2.1.1) ((e.getD v30.toNat (0,(0,0,[]),(0,0,0,0,0,(some 0)),0,false,0,0)).2.1.2.1) ((e.getD v30.toNat (0,(0,0,[]),(0,0,0,0,0,(some 0)),0,false,0,0)).2.1.2.2) ((e.getD v30.toNat (0,(0,0,[]),(0,0,0,0,0,(some 0)),0,false,0,0)).2.2.1.1) ((e.getD v30.toNat (0,(0,0,[]),(0,0,0,0,0,(some 0)),0,false,0,0)).2.2.1.2.1) ((e.getD v30.toNat (0,(0,0,[]),(0,0,0,0,0,(some 0)),0,false,0,0)).2.2.1.2.2.1) ((e.getD v30.toNat (0,(0,0,[]),(0,0,0,0,0,(some 0)),0,false,0,0)).2.2.1.2.2.2.1) ((e.getD v30.toNat (0,(0,0,[]),(0,0,0,0,0,(some 0)),0,false,0,0)).2.2.1.2.2.2.2.1) ((e.getD v30.toNat (0,(0,0,[]),(0,0,0,0,0,(some 0)),0,false,0,0)).2.2.1.2.2.2.2.2) ((e.getD v30.toNat (0,(0,0,[]),(0,0,0,0,0,(some 0)),0,false,0,0)).2.2.2.1) ((e.getD v30.toNat (0,(0,0,[]),(0,0,0,0,0,(some 0)),0,false,0,0)).2.2.2.2.1) ((e.getD v30.toNat (0,(0,0,[]),(0,0,0,0,0,(some 0)),0,false,0,0)).2.2.2.2.2.1) ((e.getD v30.toNat (0,(0,0,[]),(0,0,0,0,0,(some 0)),0,false,0,0)).2.2.2.2.2.2) B C Z j m v20 p q u D E I J L 0 (0:Int) (0:Int) (0:Int) false).bind fun(a8,a9,aa,ac,ad,ax,b1,b2,b3,b4,b5,b6,be,N) =>
 ((bT a8 a9 Z aa ac ad ax b1 b2 b3 b4 b5 b6 be).bind fun x =>
 (if(f.length+([(N,(0,0),0,x.1,x.2)]:List pP).length)*64≤140737488355328∧f.length+([(N,(0,0),0,x.1,x.2)]:List pP).length≤9223372036854775807 then some (Sum.inl (a8,a9,aa,ac,ad,ax,b1,b2,b3,b4,b5,b6,be,(f++([(N,(0,0),0,x.1,x.2)]:List pP)),(i64.wrap (v30+1))))else none)))
 else(if(cq (.int .i64) (2:Int) ((e.getD v30.toNat (0,(0,0,[]),(0,0,0,0,0,(some 0)),0,false,0,0)).1))=true then((fS ((e.getD v30.toNat (0,(0,0,[]),(0,0,0,0,0,(some 0)),0,false,0,0)).1) ((e.getD v30.toNat (0,(0,0,[]),(0,0,0,0,0,(some 0)),0,false,0,0)).2.1.1) ((e.getD v30.toNat (0,(0,0,[]),(0,0,0,0,0,(some 0)),0,false,0,0)).2.1.2.1) ((e.getD v30.toNat (0,(0,0,[]),(0,0,0,0,0,(some 0)),0,false,0,0)).2.1.2.2) ((e.getD v30.toNat (0,(0,0,[]),(0,0,0,0,0,(some 0)),0,false,0,0)).2.2.1.1) ((e.getD v30.toNat (0,(0,0,[]),(0,0,0,0,0,(some 0)),0,false,0,0)).2.2.1.2.1) ((e.getD v30.toNat (0,(0,0,[]),(0,0,0,0,0,(some 0)),0,false,0,0)).2.2.1.2.2.1) ((e.getD v30.toNat (0,(0,0,[]),(0,0,0,0,0,(some 0)),0,false,0,0)).2.2.1.2.2.2.1) ((e.getD v30.toNat (0,(0,0,[]),(0,0,0,0,0,(some 0)),0,false,0,0)).2.2.1.2.2.2.2.1) ((e.getD v30.toNat (0,(0,0,[]),(0,0,0,0,0,(some 0)),0,false,0,0)).2.2.1.2.2.2.2.2) ((e.getD v30.toNat (0,(0,0,[]),(0,0,0,0,0,(some 0)),0,false,0,0)).2.2.2.1) ((e.getD v30.toNat (0,(0,0,[]),(0,0,0,0,0,(some 0)),0,false,0,0)).2.2.2.2.1) ((e.getD v30.toNat (0,(0,0,[]),(0,0,0,0,0,(some 0)),0,false,0,0)).2.2.2.2.2.1) ((e.getD v30.toNat (0,(0,0,[]),(0,0,0,0,0,(some 0)),0,false,0,0)).2.2.2.2.2.2) B C Z j m v20 p q u D E I J L 0 (0:Int) (0:Int) (0:Int) false).bind fun(O,R,V) =>
 ((bT B C Z j m v20 p q u D E I J L).bind fun z =>
 (if(f.length+([(O,(R,V),0,z.1,z.2)]:List pP).length)*64≤140737488355328∧f.length+([(O,(R,V),0,z.1,z.2)]:List pP).length≤9223372036854775807 then some (Sum.inl (B,C,j,m,v20,p,q,u,D,E,I,J,L,(f++([(O,(R,V),0,z.1,z.2)]:List pP)),(i64.wrap (v30+1))))else none)))
 else(if(cq (.int .i64) (3:Int) ((e.getD v30.toNat (0,(0,0,[]),(0,0,0,0,0,(some 0)),0,false,0,0)).1))=true then((ga ((e.getD v30.toNat (0,(0,0,[]),(0,0,0,0,0,(some 0)),0,false,0,0)).1) ((e.getD v30.toNat (0,(0,0,[]),(0,0,0,0,0,(some 0)),0,false,0,0)).2.1.1) ((e.getD v30.toNat (0,(0,0,[]),(0,0,0,0,0,(some 0)),0,false,0,0)).2.1.2.1) ((e.getD v30.toNat (0,(0,0,[]),(0,0,0,0,0,(some 0)),0,false,0,0)).2.1.2.2) ((e.getD v30.toNat (0,(0,0,[]),(0,0,0,0,0,(some 0)),0,false,0,0)).2.2.1.1) ((e.getD v30.toNat (0,(0,0,[]),(0,0,0,0,0,(some 0)),0,false,0,0)).2.2.1.2.1) ((e.getD v30.toNat (0,(0,0,[]),(0,0,0,0,0,(some 0)),0,false,0,0)).2.2.1.2.2.1) ((e.getD v30.toNat (0,(0,0,[]),(0,0,0,0,0,(some 0)),0,false,0,0)).2.2.1.2.2.2.1) ((e.getD v30.toNat (0,(0,0,[]),(0,0,0,0,0,(some 0)),0,false,0,0)).2.2.1.2.2.2.2.1) ((e.getD v30.toNat (0,(0,0,[]),(0,0,0,0,0,(some 0)),0,false,0,0)).2.2.1.2.2.2.2.2) ((e.getD v30.toNat (0,(0,0,[]),(0,0,0,0,0,(some 0)),0,false,0,0)).2.2.2.1) ((e.getD v30.toNat (0,(0,0,[]),(0,0,0,0,0,(some 0)),0,false,0,0)).2.2.2.2.1) ((e.getD v30.toNat (0,(0,0,[]),(0,0,0,0,0,(some 0)),0,false,0,0)).2.2.2.2.2.1) ((e.getD v30.toNat (0,(0,0,[]),(0,0,0,0,0,(some 0)),0,false,0,0)).2.2.2.2.2.2) B C Z j m v20 p q u D E I J L 0 (0:Int) (0:Int) (0:Int) false).bind fun(X,Y) =>
 ((bT B C Z j m v20 p q u D E I J L).bind fun A =>
 (if(f.length+([(X,(0,0),Y,A.1,A.2)]:List pP).length)*64≤140737488355328∧f.length+([(X,(0,0),Y,A.1,A.2)]:List pP).length≤9223372036854775807 then some (Sum.inl (B,C,j,m,v20,p,q,u,D,E,I,J,L,(f++([(X,(0,0),Y,A.1,A.2)]:List pP)),(i64.wrap (v30+1))))else none)))
 else some (Sum.inr (Sum.inr (([]:List pP),60,v30)))))))else none)
 else some (Sum.inr (Sum.inl f)))
def g8(Y Z d3 d4:List eD)(d5 d6 d7:List UInt8)(d8 d9 L M N O R:Int)(V:Option Nat)(x1:List Int)(p:List Z3):Option ((List pP)×Int×Int) :=
 (if(decide ((p.length:Int) > 64))=true then some (([]:List pP),60,64)
 else((mJ Y Z d3 d4 d5 d6 d7 d8 d9).bind fun(X,q) =>
 (if(q.1 != 0)=true then some (([]:List pP),q.1,q.2)
 else((gW X L M N O R V x1).bind fun(z2:((Int)⊕K6))=>match z2 with
 | .inl e=>(if(e != 0)=true then some (([]:List pP),e,0)
 else((mz).bind fun _ =>
 ((iter (uv p) ()).bind fun(u:((Unit)⊕((List pP)×Int×Int)))=>match u with
 | .inl _=>some (([]:List pP),0,0)
 | .inr ((v,x))=>some (v,x))))
 | .inr (f,z,A,B,C,D,E,I)=>(if(f != 0)=true then some (([]:List pP),f,0)
 else((mz).bind fun _ =>
 ((iter (aV p X) (z,A,L,M,N,O,R,V,B,C,D,E,I,([]:List pP),0)).bind fun(j:((List pP)⊕((List pP)×Int×Int)))=>match j with
 | .inl J=>some (J,0,0)
 | .inr ((k,m))=>some (k,m))))))))
theorem oI(I J L M m c:Bool){d1 d2:List eD}{d3 d4:List eD}{d5 d6 d7:List UInt8}{d8 d9:Int}{i1 i2:Int}{i3 i4 i5:Int}{i6:Option Nat}{x1:List Int}{f:List Z3}{B:(List pP)×Int×Int}(h:g8 d1 d2 d3 d4 d5 d6 d7 d8 d9 i1 i2 i3 i4 i5 i6 x1 f=some B):
  Pure Tryz.prog 12 [.agg [.p I (.slice (.prod (.int .i32) Y1)) d1,.p J (.slice (.prod (.int .i32) Y1)) d2,.p L (.slice (.prod (.int .i32) Y1)) d3,.p M (.slice (.prod (.int .i32) Y1)) d4,.st d5,.st d6,.st d7,.i64 d8,.i64 d9],.agg [.i64 i1,.i64 i2,.u8 i3,.i64 i4,.i64 i5,.p false .flt i6],.p m (.slice (.int .u8)) x1,.p c (.slice (.prod (.int .i64) CO)) f] (aG (aU false [⟨(.slice (.prod (.int .i64) xQ)),B.1⟩,⟨Y2,B.2⟩])):=by
 refine PB Tryz.func12 (fun Bw w0=> ?_);unfold g8 at h;refine G (af (G (aA h (fun B1 h=> ?_) (fun B1 h=> ?_))))
 ·refine G (ao (ah ?_));obtain rfl:=sI h;exact RI [(.slice (.prod (.int .i64) xQ)),Y2]
 refine ae (ab ?_);obtain⟨⟨r3,r4⟩,q2,h⟩:=aj h;refine GP 1 (Ci I J L M q2) (af (G (aA h (fun B2 h=> ?_) (fun B2 h=> ?_))))
 ·refine GD a0 [] (ao (ah ?_));obtain rfl:=sI h;exact RI [(.slice (.prod (.int .i64) xQ)),Y2]
 refine ae (ab (af ?_));obtain⟨z2,q4,h⟩:=aj h;rcases z2 with e8 | ⟨e9,ea,ec,ed,ef,eh,ei,ej⟩
 ·refine kO 3 [] (uX m q4) (ab (af (G (aA h (fun B3 h=> ?_) (fun B3 h=> ?_)))))
  ·refine G (ao (ah ?_));obtain rfl:=sI h;exact RI [(.slice (.prod (.int .i64) xQ)),Y2]
  refine ae (ab ?_);obtain⟨_,q6,h⟩:=aj h;refine GO 0 [] (se q6) (G (af (G (ak (jl h (fun _=>ay [(9,.adr 0 0 2 0),(12,.nilp),(14,.mp 1),(15,.nils),(46,.p c (.slice (.prod (.int .i64) CO)) f),(47,.i64 (f.length:Int)),(48,.i64 0)] (Lm 0 (0:Int)) 2) (cN (dM Tryz.f12.ntmps 0 (fun _=>ay [(9,.adr 0 0 2 0),(15,.nils)] [(0,.box [.i64 0,.i64 0])] 1)) (eQ tb Tryz.f12.results.toList (fun(N,O)=>[⟨(.slice (.prod (.int .i64) xQ)),N⟩,⟨Y2,O⟩]))) (gg [] [24,232]) (fun y o h=> ?_) (fun ad h e σ' R=> ?_))))))
  ·unfold uv at h;refine G (af (aA h (fun ax h=> ?_) (fun ax h=> ?_)))
   ·refine ae (ab (af (ak (GC 1 h (fun h=>af ?_)))));rcases aF h with⟨j,h⟩ | ⟨j,h⟩
    ·refine bq ⟨[],[(3,⟨.unk,[],false,[],[0],[],none⟩)]⟩ [(3,3,oc (And.intro tt j))] (ab (af (G (mu rfl (ae (ab (G (af ?_))))))));cases h
    rcases aF h with⟨q,h⟩ | ⟨q,h⟩
    ·refine bq ⟨[],[(3,⟨.unk,[],false,[],[1],[],none⟩)]⟩ [(3,3,⟨True∧jQ (.int .i64) [(0,(Value.agg #[hU 42])),(1,(Value.agg #[hU 43])),(2,(Value.agg #[hU 44])),(3,(Value.agg #[hU 45]))] ((f.getD ((0:Int).toNat) (0,(0,0,([]:List Int)),(0,0,0,0,0,(some 0)),0,false,0,0)).1) 1,⟨trivial,⟨j,q⟩⟩⟩)] (ab (af (G (mu rfl (ae (ab (G (af ?_))))))));cases h
    rcases aF h with⟨v,h⟩ | ⟨v,h⟩
    ·refine bq ⟨[],[(3,⟨.unk,[],false,[],[2],[],none⟩)]⟩ [(3,3,⟨True∧jQ (.int .i64) [(0,(Value.agg #[hU 42])),(1,(Value.agg #[hU 43])),(2,(Value.agg #[hU 44])),(3,(Value.agg #[hU 45]))] ((f.getD ((0:Int).toNat) (0,(0,0,([]:List Int)),(0,0,0,0,0,(some 0)),0,false,0,0)).1) 2,⟨trivial,⟨j,⟨q,v⟩⟩⟩⟩)] (ab (af (G (mu rfl (ae (ab (G (af ?_))))))));cases h
    rcases aF h with⟨C,h⟩ | ⟨C,h⟩
    ·refine bq ⟨[],[(3,⟨.unk,[],false,[],[3],[],none⟩)]⟩ [(3,3,⟨True∧jQ (.int .i64) [(0,(Value.agg #[hU 42])),(1,(Value.agg #[hU 43])),(2,(Value.agg #[hU 44])),(3,(Value.agg #[hU 45]))] ((f.getD ((0:Int).toNat) (0,(0,0,([]:List Int)),(0,0,0,0,0,(some 0)),0,false,0,0)).1) 3,⟨trivial,⟨j,⟨q,⟨v,C⟩⟩⟩⟩⟩)] (ab (af (G (mu rfl (ae (ab (G (af ?_))))))));cases h
    refine bq ⟨[],[(3,⟨.unk,[],false,[],[4],[],none⟩)]⟩ [(3,3,⟨True∧jQ (.int .i64) [(0,(Value.agg #[hU 42])),(1,(Value.agg #[hU 43])),(2,(Value.agg #[hU 44])),(3,(Value.agg #[hU 45]))] ((f.getD ((0:Int).toNat) (0,(0,0,([]:List Int)),(0,0,0,0,0,(some 0)),0,false,0,0)).1) 4,⟨trivial,⟨j,⟨q,⟨v,⟨C,trivial⟩⟩⟩⟩⟩⟩)] (ab (af (G (nQ rfl (G (ao ?_))))));obtain rfl:=sI h;refine ah (az (ah (br (aK ?_))));exact bu (RI [(.slice (.prod (.int .i64) xQ)),Y2])
   refine aq (aL ?_);obtain rfl:=sI h;refine cR (aX ?_);exact bC (gg [] [0])
  rcases ad with _ | ⟨N,O⟩
  ·obtain⟨rfl,D⟩:=R;refine bY ?_ D;refine av (ab (G (ao ?_)));obtain rfl:=sI h;exact RI [(.slice (.prod (.int .i64) xQ)),Y2]
  obtain⟨rfl,hr⟩:=R;refine az (ah ?_);obtain rfl:=sI h;exact hr
 refine kO 3 [] (uX m q4) (ab (af (G (aA h (fun b1 h=> ?_) (fun b1 h=> ?_)))))
 ·refine G (ao (ah ?_));obtain rfl:=sI h;exact RI [(.slice (.prod (.int .i64) xQ)),Y2]
 refine ae (ab ?_);obtain⟨_,q8,h⟩:=aj h;refine GO 0 [] (se q8) (G (af (G (ak (jl h (fun(V,X,Y,Z,v20,a1,a2,a3,a4,a5,a6,a7,a8,a9,v30)=>ay [(9,.adr 0 0 2 0),(12,.adr 1 0 14 0),(14,.mp 3),(15,.sl 4),(46,.p c (.slice (.prod (.int .i64) CO)) f),(47,.i64 (f.length:Int)),(48,.i64 v30)] (Lk 0 (0:Int) V X r3 Y Z v20 a1 a2 a3 a4 a5 a6 a7 a8 a9) 5) (cN (dM Tryz.f12.ntmps 0 (fun aa=>ay [(9,.adr 0 0 2 0),(15,.sl 1)] (K7 0 (0:Int) aa) 2)) (eQ tb Tryz.f12.results.toList (fun(z,A)=>[⟨(.slice (.prod (.int .i64) xQ)),z⟩,⟨Y2,A⟩]))) (gg [.nilS 15 280 66 (.prod (.int .i64) xQ)] [24,168,169,232,280]) (fun y o h=> ?_) (fun ac h e σ' R=> ?_))))))
 ·obtain⟨V,X,Y,Z,v20,a1,a2,a3,a4,a5,a6,a7,a8,a9,v30⟩:=y;unfold aV at h;refine G (af (aA h (fun b2 h=> ?_) (fun b2 h=> ?_)))
  ·refine ae (ab (af (ak (GC 1 h (fun h=>af ?_)))));rcases aF h with⟨k,h⟩ | ⟨k,h⟩
   ·refine bq ⟨[],[(3,⟨.unk,[],false,[],[0],[],none⟩)]⟩ [(3,3,oc (And.intro tt k))] (ab (af (G (mu rfl (ae (ab (G ?_)))))));obtain⟨⟨bv,bx,c1,c2,c3,c4,c5,c6⟩,b3,h⟩:=aj h;refine GO 4 [1,2,157] (sc c b3) ?_;obtain⟨c7,b4,h⟩:=aj h;refine GO 1 [1,2] (ew b4) (tq 3 h (fun h=>au (ab (Ge ?_))));exact eB h (gg [] [0,1,2,3,261])
   rcases aF h with⟨u,h⟩ | ⟨u,h⟩
   ·refine bq ⟨[],[(3,⟨.unk,[],false,[],[1],[],none⟩)]⟩ [(3,3,⟨True∧jQ (.int .i64) [(0,(Value.agg #[hU 42])),(1,(Value.agg #[hU 43])),(2,(Value.agg #[hU 44])),(3,(Value.agg #[hU 45]))] ((f.getD v30.toNat (0,(0,0,[]),(0,0,0,0,0,(some 0)),0,false,0,0)).1) 1,⟨trivial,⟨k,u⟩⟩⟩)] (ab (af (G (mu rfl (ae (ab (G ?_)))))));obtain⟨⟨c8,c9,cc,ch,cp,cs,cx,dd,de,di,dk,dm,ds,dt⟩,b5,h⟩:=aj h;refine GO 4 [1,2,157] (rP c b5) ?_;obtain⟨du,b6,h⟩:=aj h;refine GO 1 [1,2] (ew b6) (tq 3 h (fun h=>au (ab (Ge ?_))));exact eB h (gg [] [0,1,2,3,261])
   rcases aF h with⟨x,h⟩ | ⟨x,h⟩
   ·refine bq ⟨[],[(3,⟨.unk,[],false,[],[2],[],none⟩)]⟩ [(3,3,⟨True∧jQ (.int .i64) [(0,(Value.agg #[hU 42])),(1,(Value.agg #[hU 43])),(2,(Value.agg #[hU 44])),(3,(Value.agg #[hU 45]))] ((f.getD v30.toNat (0,(0,0,[]),(0,0,0,0,0,(some 0)),0,false,0,0)).1) 2,⟨trivial,⟨k,⟨u,x⟩⟩⟩⟩)] (ab (af (G (mu rfl (ae (ab (G ?_)))))));obtain⟨⟨e1,e2,e3⟩,be,h⟩:=aj h;refine GO 4 [1,2,157] (sG c be) ?_;obtain⟨e4,bi,h⟩:=aj h;refine GO 1 [1,2] (ew bi) (tq 3 h (fun h=>au (ab (Ge ?_))));exact eB h (gg [] [0,1,2,3,261])
   rcases aF h with⟨E,h⟩ | ⟨E,h⟩
   ·refine bq ⟨[],[(3,⟨.unk,[],false,[],[3],[],none⟩)]⟩ [(3,3,⟨True∧jQ (.int .i64) [(0,(Value.agg #[hU 42])),(1,(Value.agg #[hU 43])),(2,(Value.agg #[hU 44])),(3,(Value.agg #[hU 45]))] ((f.getD v30.toNat (0,(0,0,[]),(0,0,0,0,0,(some 0)),0,false,0,0)).1) 3,⟨trivial,⟨k,⟨u,⟨x,E⟩⟩⟩⟩⟩)] (ab (af (G (mu rfl (ae (ab (G ?_)))))));obtain⟨⟨e5,e6⟩,bs,h⟩:=aj h;refine GO 4 [1,2,157] (su c bs) ?_;obtain⟨e7,bt,h⟩:=aj h;refine GO 1 [1,2] (ew bt) (tq 3 h (fun h=>au (ab (Ge ?_))));exact eB h (gg [] [0,1,2,3,261])
   refine bq ⟨[],[(3,⟨.unk,[],false,[],[4],[],none⟩)]⟩ [(3,3,⟨True∧jQ (.int .i64) [(0,(Value.agg #[hU 42])),(1,(Value.agg #[hU 43])),(2,(Value.agg #[hU 44])),(3,(Value.agg #[hU 45]))] ((f.getD v30.toNat (0,(0,0,[]),(0,0,0,0,0,(some 0)),0,false,0,0)).1) 4,⟨trivial,⟨k,⟨u,⟨x,⟨E,trivial⟩⟩⟩⟩⟩⟩)] (ab (af (G (nQ rfl (G (ao ?_))))));obtain rfl:=sI h;refine ah (az (ah (br (aK ?_))));exact bu (RI [(.slice (.prod (.int .i64) xQ)),Y2])
  refine aq (aL ?_);obtain rfl:=sI h;refine cR (aX ?_);exact bC (gg [] [0,4])
 rcases ac with aa | ⟨z,A⟩
 ·obtain⟨rfl,D⟩:=R;refine bY ?_ D;refine av (ab (G (ao ?_)));obtain rfl:=sI h;exact RI [(.slice (.prod (.int .i64) xQ)),Y2]
 obtain⟨rfl,hr⟩:=R;refine az (ah ?_);obtain rfl:=sI h;exact hr
def dX  : Option (Bool) :=
 ((dF).bind fun e =>
 (if 0<([97,98,32,99,100]:List Int).length then((g8 e.1 e.2.1 e.2.2.1 e.2.2.2.1 e.2.2.2.2.1 e.2.2.2.2.2.1 e.2.2.2.2.2.2.1 e.2.2.2.2.2.2.2.1 e.2.2.2.2.2.2.2.2 3 (8:Int) (0:Int) (0:Int) (0:Int) (dw 0) ([97,98,32,99,100]:List Int) ([(0,(9,0,([]:List Int)),(0,0,0,0,0,(dw 0)),0,false,0,0),(0,(0,3,([]:List Int)),(0,0,0,0,0,(dw 0)),0,false,0,0),(2,(0,0,([]:List Int)),(0,0,0,0,0,(dw 0)),2,false,0,0)]:List Z3)).bind fun(c,f) =>
 (((if(f.1 == 0)=true then(if((c.length:Int) == 3)=true then(if 0≤(0:Int)∧0<(c.length:Int)then(if(((c.getD ((0:Int).toNat) (0,(0,0),0,([]:List Z2),false)).1) == 50)=true then(if 0≤(0:Int)∧0<(c.length:Int)then(if((((c.getD ((0:Int).toNat) (0,(0,0),0,([]:List Z2),false)).2.2.2.1).length:Int) == 2)=true then(if 0≤(1:Int)∧1<(c.length:Int)then(if((((c.getD ((1:Int).toNat) (0,(0,0),0,([]:List Z2),false)).2.2.2.1).length:Int) == 1)=true then(if 0≤(2:Int)∧2<(c.length:Int)then some (((((c.getD ((2:Int).toNat) (0,(0,0),0,([]:List Z2),false)).2.1.1) == 0) && (((c.getD ((2:Int).toNat) (0,(0,0),0,([]:List Z2),false)).2.1.2) == 2)))else none)
 else some (false))else none)
 else some (false))else none)
 else some (false))else none)
 else some (false))
 else some (false))).bind fun v1=>some v1))else none))
theorem oC{q:Bool}(h:dX=some q):
  Pure Tryz.prog 7 [] (aG (aU false [⟨.bool,q⟩])):=by
 refine PB Tryz.func7 (fun Bw w0=> ?_);unfold dX at h;refine G ?_;obtain⟨D,A,h⟩:=aj h;obtain⟨B,h⟩:=aD h;obtain⟨⟨E,I⟩,C,h⟩:=aj h;have u:=(gO A);have v:=(oI false false false false false true C);refine GN ⟨[],[(0,(oP u)),(10,(oP v [false,false,true]))]⟩ [(0,0,oc u),(3,3,oc B),(10,10,oc v)] (af (bg h (fun v1=>ay [(0,.bo v1)] [] 0) (fun v1 h=> ?_) (fun v1 h=> ?_)))
 ·rcases aF h with⟨f,h⟩ | ⟨f,h⟩
  ·rcases aF h with⟨c,h⟩ | ⟨c,h⟩
   ·obtain⟨m,h⟩:=aD h;rcases aF h with⟨e,h⟩ | ⟨e,h⟩
    ·obtain⟨p,h⟩:=aD h;rcases aF h with⟨j,h⟩ | ⟨j,h⟩
     ·obtain⟨x,h⟩:=aD h;rcases aF h with⟨k,h⟩ | ⟨k,h⟩
      ·obtain⟨z,h⟩:=aD h;exact bq ⟨[(3,true),(7,true),(8,true),(14,true),(15,true),(23,true),(24,true),(32,true),(33,true),(40,true)],[]⟩ [(4,6,an f),(7,7,oc f),(9,9,an c),(10,10,oc (And.intro c m)),(11,13,an c),(14,14,oc c),(16,16,an e),(17,17,oc (And.intro e p)),(18,22,an e),(23,23,oc e),(25,25,an j),(26,26,oc (And.intro j x)),(27,31,an j),(32,32,oc j),(34,34,an k),(35,35,oc (And.intro k z)),(36,38,an k),(39,39,oc (And.intro k IH)),(40,40,oc k)] (eN h (gg [] []))
      exact bq ⟨[(3,true),(7,true),(8,true),(14,true),(15,true),(23,true),(24,true),(32,true),(33,false),(40,false)],[]⟩ [(4,6,an f),(7,7,oc f),(9,9,an c),(10,10,oc (And.intro c m)),(11,13,an c),(14,14,oc c),(16,16,an e),(17,17,oc (And.intro e p)),(18,22,an e),(23,23,oc e),(25,25,an j),(26,26,oc (And.intro j x)),(27,31,an j),(32,32,oc j),(34,40,oc k)] (eN h (gg [] []))
     exact bq ⟨[(3,true),(7,true),(8,true),(14,true),(15,true),(23,true),(24,false),(32,false)],[]⟩ [(4,6,an f),(7,7,oc f),(9,9,an c),(10,10,oc (And.intro c m)),(11,13,an c),(14,14,oc c),(16,16,an e),(17,17,oc (And.intro e p)),(18,22,an e),(23,23,oc e),(25,32,oc j)] (eN h (gg [] []))
    exact bq ⟨[(3,true),(7,true),(8,true),(14,true),(15,false),(23,false)],[]⟩ [(4,6,an f),(7,7,oc f),(9,9,an c),(10,10,oc (And.intro c m)),(11,13,an c),(14,14,oc c),(16,23,oc e)] (eN h (gg [] []))
   exact bq ⟨[(3,true),(7,true),(8,false),(14,false)],[]⟩ [(4,6,an f),(7,7,oc f),(9,14,oc c)] (eN h (gg [] []))
  exact bq ⟨[(3,false),(7,false)],[]⟩ [(4,7,oc f)] (eN h (gg [] []))
 refine ab (ao ?_);obtain rfl:=sI h;exact RI [.bool]
def eZ  : Option (List (List UInt8)) :=
 some ([([9]:List UInt8),([10]:List UInt8),([32]:List UInt8),([45]:List UInt8),([97]:List UInt8),([98]:List UInt8),([99]:List UInt8),([195,169]:List UInt8),([204,129]:List UInt8),([226,128,141]:List UInt8),([228,184,173]:List UInt8),([240,159,152,128]:List UInt8),([255]:List UInt8),([240,159]:List UInt8)]:List (List UInt8))
theorem oA{c:List (List UInt8)}(h:eZ=some c):
  Pure Tryz.prog 22 [] (aG (aU false [⟨(.slice .str),c⟩])):=by
 refine PB Tryz.func22 (fun Bw w0=> ?_);unfold eZ at h;refine G (G (ao ?_));obtain rfl:=sI h;exact RI [(.slice .str)]
def cO(f:List Int):tP→Option (tP⊕(List Int)):=fun(c,e) =>
 (if(decide (e<(f.length:Int)))=true then((eZ).bind fun j =>
 (if 0≤e∧e<(f.length:Int)then(if ¬(14:Int)=0 then(if 0≤(Int.tmod (i64.wrap (f.getD e.toNat 0)) (14:Int))∧(Int.tmod (i64.wrap (f.getD e.toNat 0)) (14:Int))<(j.length:Int)then(if c.length+(j.getD ((Int.tmod (i64.wrap (f.getD e.toNat 0)) (14:Int)).toNat) []).length≤140737488355328 then some (Sum.inl ((c++(cb (j.getD ((Int.tmod (i64.wrap (f.getD e.toNat 0)) (14:Int)).toNat) []))),(i64.wrap (e+1))))else none)else none)else none)else none))
 else some (Sum.inr c))
def dH(e:List Int):Option (List Int) :=
 ((iter (cO e) (([]:List Int),0)).bind fun c=>some c)
theorem oz(f:Bool){m j:List Int}(h:dH m=some j):
  Pure Tryz.prog 8 [.p f (.slice (.int .u8)) m] (aG (aU false [⟨(.slice (.int .u8)),j⟩])):=by
 refine PB Tryz.func8 (fun Bw w0=> ?_);unfold dH at h;refine G (G (af (G (ak (cd h (fun(c,z)=>ay [(0,.p f (.slice (.int .u8)) m),(3,.sl 0),(4,.i64 z)] [(0,.arr 5 (.int .u8) c)] 1) 0 (fun e=>ay [(3,.sl 0)] [(0,.arr 5 (.int .u8) e)] 1) (gg [.nilS 3 24 5 (.int .u8)] [24]) (fun y o h=> ?_) (fun e h=> ?_))))))
 ·obtain⟨c,z⟩:=y;unfold cO at h;refine af (G (aA h (fun A h=> ?_) (fun A h=> ?_)))
  ·refine ae (ab (af (ak ?_)));obtain⟨C,B,h⟩:=aj h;obtain⟨q,u,v,x,h⟩:=g4 h;have k:=(oA B);refine jC ⟨[],[(1,(oP k))]⟩ [(1,1,oc k),(4,4,oc q),(7,7,oc u),(8,8,oc v),(10,10,oc x)] (au (ab (Ge ?_)));exact eB h (gg [] [113])
  refine aq (aL ?_);exact eX h (gg [] [0])
 refine av (ab (G (ao ?_)));obtain rfl:=sI h;exact RI [(.slice (.int .u8))]
def dx(c e f j k:Int)(m:Option Nat):Option (Int×Int×Int×Int×Int×Option Nat) :=
 (if ¬(64:Int)=0 then(if ¬(2:Int)=0 then some ((i64.wrap (1+(i64.wrap c))),(i64.wrap (1+(i64.wrap (Int.tmod e 64)))),(Int.tmod f 2),(i64.wrap j),(i64.wrap k),m)else none)else none)
theorem nT{e f:Int}{j k m:Int}{q:Option Nat}{c:Int×Int×Int×Int×Int×Option Nat}(h:dx e f j k m q=some c):
  Pure Tryz.prog 9 [.agg [.u8 e,.u8 f,.u8 j,.p false (.int .u16) k,.p false (.int .u16) m,.p false .flt q]] (aG (aU false [⟨KM,c⟩])):=by
 refine PB Tryz.func9 (fun Bw w0=> ?_);unfold dx at h;refine G ?_;obtain⟨u,v,h⟩:=g2 h;refine GN a0 [(6,6,oc u),(11,11,oc v)] (ao ?_);obtain rfl:=sI h;exact RI [KM]
def dp(e:List Z3)(q:Bool)(p:Int):((List Z3)×Int)→Option (((List Z3)×Int)⊕(List Z3)):=fun(v11,c) =>
 (if(decide (c<(e.length:Int)))=true then(if 0≤c∧c<(e.length:Int)then(if(decide (c≥80))=true then some (Sum.inr v11)
 else(if 0≤(0:Int)∧0≤(min (((e.getD c.toNat (0,(0,0,[]),(0,0,0,0,0,(some 0)),0,false,0,0)).2.1.2.2).length:Int) (20:Int))∧(min (((e.getD c.toNat (0,(0,0,[]),(0,0,0,0,0,(some 0)),0,false,0,0)).2.1.2.2).length:Int) (20:Int))≤(((e.getD c.toNat (0,(0,0,[]),(0,0,0,0,0,(some 0)),0,false,0,0)).2.1.2.2).length:Int)then(if(([]:List Int).length+((((e.getD c.toNat (0,(0,0,[]),(0,0,0,0,0,(some 0)),0,false,0,0)).2.1.2.2).take (min (((e.getD c.toNat (0,(0,0,[]),(0,0,0,0,0,(some 0)),0,false,0,0)).2.1.2.2).length:Int) (20:Int)).toNat).drop (0:Int).toNat).length)*1≤140737488355328∧([]:List Int).length+((((e.getD c.toNat (0,(0,0,[]),(0,0,0,0,0,(some 0)),0,false,0,0)).2.1.2.2).take (min (((e.getD c.toNat (0,(0,0,[]),(0,0,0,0,0,(some 0)),0,false,0,0)).2.1.2.2).length:Int) (20:Int)).toNat).drop (0:Int).toNat).length≤9223372036854775807 then(((if(!q)=true then(if ¬(4:Int)=0 then(if ¬(u64.wrap (i64.wrap (p+1)))=0 then(if ¬(5:Int)=0 then(if ¬(u64.wrap (i64.wrap (p+1)))=0 then some (((i64.wrap (Int.tmod (u64.wrap ((e.getD c.toNat (0,(0,0,[]),(0,0,0,0,0,(some 0)),0,false,0,0)).1)) (4:Int))),(i64.wrap (Int.tmod (u64.wrap ((e.getD c.toNat (0,(0,0,[]),(0,0,0,0,0,(some 0)),0,false,0,0)).2.1.1)) (u64.wrap (i64.wrap (p+1))))),(i64.wrap (Int.tmod (u64.wrap ((e.getD c.toNat (0,(0,0,[]),(0,0,0,0,0,(some 0)),0,false,0,0)).2.1.2.1)) (5:Int))),(i64.wrap (Int.tmod (u64.wrap ((e.getD c.toNat (0,(0,0,[]),(0,0,0,0,0,(some 0)),0,false,0,0)).2.2.2.1)) (u64.wrap (i64.wrap (p+1)))))))else none)else none)else none)else none)
 else some (((e.getD c.toNat (0,(0,0,[]),(0,0,0,0,0,(some 0)),0,false,0,0)).1,(e.getD c.toNat (0,(0,0,[]),(0,0,0,0,0,(some 0)),0,false,0,0)).2.1.1,(e.getD c.toNat (0,(0,0,[]),(0,0,0,0,0,(some 0)),0,false,0,0)).2.1.2.1,(e.getD c.toNat (0,(0,0,[]),(0,0,0,0,0,(some 0)),0,false,0,0)).2.2.2.1)))).bind fun(f,j,k,m)=>(if(v11.length+([(f,(j,k,(([]:List Int)++((((e.getD c.toNat (0,(0,0,[]),(0,0,0,0,0,(some 0)),0,false,0,0)).2.1.2.2).take (min (((e.getD c.toNat (0,(0,0,[]),(0,0,0,0,0,(some 0)),0,false,0,0)).2.1.2.2).length:Int) (20:Int)).toNat).drop (0:Int).toNat))),((e.getD c.toNat (0,(0,0,[]),(0,0,0,0,0,(some 0)),0,false,0,0)).2.2.1.1,(e.getD c.toNat (0,(0,0,[]),(0,0,0,0,0,(some 0)),0,false,0,0)).2.2.1.2.1,(e.getD c.toNat (0,(0,0,[]),(0,0,0,0,0,(some 0)),0,false,0,0)).2.2.1.2.2.1,(e.getD c.toNat (0,(0,0,[]),(0,0,0,0,0,(some 0)),0,false,0,0)).2.2.1.2.2.2.1,(e.getD c.toNat (0,(0,0,[]),(0,0,0,0,0,(some 0)),0,false,0,0)).2.2.1.2.2.2.2.1,(e.getD c.toNat (0,(0,0,[]),(0,0,0,0,0,(some 0)),0,false,0,0)).2.2.1.2.2.2.2.2),m,(e.getD c.toNat (0,(0,0,[]),(0,0,0,0,0,(some 0)),0,false,0,0)).2.2.2.2.1,(e.getD c.toNat (0,(0,0,[]),(0,0,0,0,0,(some 0)),0,false,0,0)).2.2.2.2.2.1,(e.getD c.toNat (0,(0,0,[]),(0,0,0,0,0,(some 0)),0,false,0,0)).2.2.2.2.2.2)]:List Z3).length)*128≤140737488355328∧v11.length+([(f,(j,k,(([]:List Int)++((((e.getD c.toNat (0,(0,0,[]),(0,0,0,0,0,(some 0)),0,false,0,0)).2.1.2.2).take (min (((e.getD c.toNat (0,(0,0,[]),(0,0,0,0,0,(some 0)),0,false,0,0)).2.1.2.2).length:Int) (20:Int)).toNat).drop (0:Int).toNat))),((e.getD c.toNat (0,(0,0,[]),(0,0,0,0,0,(some 0)),0,false,0,0)).2.2.1.1,(e.getD c.toNat (0,(0,0,[]),(0,0,0,0,0,(some 0)),0,false,0,0)).2.2.1.2.1,(e.getD c.toNat (0,(0,0,[]),(0,0,0,0,0,(some 0)),0,false,0,0)).2.2.1.2.2.1,(e.getD c.toNat (0,(0,0,[]),(0,0,0,0,0,(some 0)),0,false,0,0)).2.2.1.2.2.2.1,(e.getD c.toNat (0,(0,0,[]),(0,0,0,0,0,(some 0)),0,false,0,0)).2.2.1.2.2.2.2.1,(e.getD c.toNat (0,(0,0,[]),(0,0,0,0,0,(some 0)),0,false,0,0)).2.2.1.2.2.2.2.2),m,(e.getD c.toNat (0,(0,0,[]),(0,0,0,0,0,(some 0)),0,false,0,0)).2.2.2.2.1,(e.getD c.toNat (0,(0,0,[]),(0,0,0,0,0,(some 0)),0,false,0,0)).2.2.2.2.2.1,(e.getD c.toNat (0,(0,0,[]),(0,0,0,0,0,(some 0)),0,false,0,0)).2.2.2.2.2.2)]:List Z3).length≤9223372036854775807 then some (Sum.inl ((v11++([(f,(j,k,(([]:List Int)++((((e.getD c.toNat (0,(0,0,[]),(0,0,0,0,0,(some 0)),0,false,0,0)).2.1.2.2).take (min (((e.getD c.toNat (0,(0,0,[]),(0,0,0,0,0,(some 0)),0,false,0,0)).2.1.2.2).length:Int) (20:Int)).toNat).drop (0:Int).toNat))),((e.getD c.toNat (0,(0,0,[]),(0,0,0,0,0,(some 0)),0,false,0,0)).2.2.1.1,(e.getD c.toNat (0,(0,0,[]),(0,0,0,0,0,(some 0)),0,false,0,0)).2.2.1.2.1,(e.getD c.toNat (0,(0,0,[]),(0,0,0,0,0,(some 0)),0,false,0,0)).2.2.1.2.2.1,(e.getD c.toNat (0,(0,0,[]),(0,0,0,0,0,(some 0)),0,false,0,0)).2.2.1.2.2.2.1,(e.getD c.toNat (0,(0,0,[]),(0,0,0,0,0,(some 0)),0,false,0,0)).2.2.1.2.2.2.2.1,(e.getD c.toNat (0,(0,0,[]),(0,0,0,0,0,(some 0)),0,false,0,0)).2.2.1.2.2.2.2.2),m,(e.getD c.toNat (0,(0,0,[]),(0,0,0,0,0,(some 0)),0,false,0,0)).2.2.2.2.1,(e.getD c.toNat (0,(0,0,[]),(0,0,0,0,0,(some 0)),0,false,0,0)).2.2.2.2.2.1,(e.getD c.toNat (0,(0,0,[]),(0,0,0,0,0,(some 0)),0,false,0,0)).2.2.2.2.2.2)]:List Z3)),(i64.wrap (c+1))))else none))else none)else none))else none)
 else some (Sum.inr v11))
def dT(e:List Z3)(f:Bool)(j:Int):Option (List Z3) :=
 ((iter (dp e f j) (([]:List Z3),0)).bind fun c=>some c)
theorem pw(f:Bool){e:List Z3}{x:Bool}{z:Int}{j:List Z3}(h:dT e x z=some j):
  Pure Tryz.prog 11 [.p f (.slice (.prod (.int .i64) CO)) e,.bo x,.i64 z] (aG (aU false [⟨(.slice (.prod (.int .i64) CO)),j⟩])):=by
 refine PB Tryz.func11 (fun Bw w0=> ?_);unfold dT at h;refine G (G (af (G (ak (cd h (fun(v11,c)=>ay [(1,.bo x),(2,.i64 z),(7,.sl 0),(10,.p f (.slice (.prod (.int .i64) CO)) e),(11,.i64 (e.length:Int)),(12,.i64 c)] [(0,.arr 61 (.prod (.int .i64) CO) v11)] 1) 0 (fun k=>ay [(7,.sl 0)] [(0,.arr 61 (.prod (.int .i64) CO) k)] 1) (gg [.nilS 7 40 61 (.prod (.int .i64) CO)] [40]) (fun y o h=> ?_) (fun k h=> ?_))))))
 ·obtain⟨v11,c⟩:=y;unfold dp at h;refine G (af (aA h (fun I h=> ?_) (fun I h=> ?_)))
  ·refine ae (ab (af (ak (GC 1 h (fun h=>af (G (aA h (fun A h=> ?_) (fun A h=> ?_))))))))
   ·refine aq (aL (ix rfl (aL ?_)));exact eX h (gg [] [0])
   refine ae (ab ?_);obtain⟨B,C,h⟩:=g2 h;refine GN a0 [(9,9,oc B),(10,10,oc C)] (af (G ?_));refine bg h (fun(m,q,u,v)=>ay [(1,.bo x),(2,.i64 z),(7,.sl 0),(9,.adr 1 0 14 0),(10,.p f (.slice (.prod (.int .i64) CO)) e),(11,.i64 (e.length:Int)),(12,.i64 c)] (Ln v11 m q u ((e.getD c.toNat (0,(0,0,[]),(0,0,0,0,0,(some 0)),0,false,0,0)).2.2.1.1) ((e.getD c.toNat (0,(0,0,[]),(0,0,0,0,0,(some 0)),0,false,0,0)).2.2.1.2.1) ((e.getD c.toNat (0,(0,0,[]),(0,0,0,0,0,(some 0)),0,false,0,0)).2.2.1.2.2.1) ((e.getD c.toNat (0,(0,0,[]),(0,0,0,0,0,(some 0)),0,false,0,0)).2.2.1.2.2.2.1) ((e.getD c.toNat (0,(0,0,[]),(0,0,0,0,0,(some 0)),0,false,0,0)).2.2.1.2.2.2.2.1) ((e.getD c.toNat (0,(0,0,[]),(0,0,0,0,0,(some 0)),0,false,0,0)).2.2.1.2.2.2.2.2) v ((e.getD c.toNat (0,(0,0,[]),(0,0,0,0,0,(some 0)),0,false,0,0)).2.2.2.2.1) ((e.getD c.toNat (0,(0,0,[]),(0,0,0,0,0,(some 0)),0,false,0,0)).2.2.2.2.2.1) ((e.getD c.toNat (0,(0,0,[]),(0,0,0,0,0,(some 0)),0,false,0,0)).2.2.2.2.2.2) (([]:List Int)++((((e.getD c.toNat (0,(0,0,[]),(0,0,0,0,0,(some 0)),0,false,0,0)).2.1.2.2).take (min (((e.getD c.toNat (0,(0,0,[]),(0,0,0,0,0,(some 0)),0,false,0,0)).2.1.2.2).length:Int) (20:Int)).toNat).drop (0:Int).toNat))) 3) (fun E h=> ?_) (fun E h=> ?_)
   ·refine aA h (fun D h=> ?_) (fun D h=> ?_)
    ·refine GC 3 h (fun h=>GC 7 h (fun h=>GC 4 h (fun h=>tq 6 h (fun h=> ?_))));exact eN h (gg [] [0,33,153])
    exact ae (eN h (gg [] [0,33,153]))
   obtain⟨m,q,u,v⟩:=E;refine ab (tq 3 h (fun h=>au (ab (Ge ?_))));exact eB h (gg [] [27])
  refine aq (aL ?_);exact eX h (gg [] [0])
 refine av (ab (G (ao ?_)));obtain rfl:=sI h;exact RI [(.slice (.prod (.int .i64) CO))]
def bD(e f:List Z2):(Int)→Option ((Int)⊕((Unit)⊕(Bool))):=fun c =>
 (if(decide (c<(e.length:Int)))=true then(if 0≤c∧c<(e.length:Int)then(if 0≤c∧c<(f.length:Int)then(if(!((((e.getD c.toNat (0,0,0,0)).1) == ((f.getD c.toNat (0,0,0,0)).1)) && ((((e.getD c.toNat (0,0,0,0)).2.1) == ((f.getD c.toNat (0,0,0,0)).2.1)) && ((((e.getD c.toNat (0,0,0,0)).2.2.1) == ((f.getD c.toNat (0,0,0,0)).2.2.1)) && (((e.getD c.toNat (0,0,0,0)).2.2.2) == ((f.getD c.toNat (0,0,0,0)).2.2.2))))))=true then some (Sum.inr (Sum.inr false))
 else some (Sum.inl (i64.wrap (c+1))))else none)else none)
 else some (Sum.inr (Sum.inl ())))
def cf(c:List Z2)(f:Bool)(e:List Z2)(j:Bool):Option (Bool) :=
 (((if((c.length:Int) != (e.length:Int))=true then some (true)
 else some ((!(f == j))))).bind fun v1=>(if v1=true then some false
 else((iter (bD c e) (0:Int)).bind fun(k:((Unit)⊕(Bool)))=>match k with
 | .inl _=>some true
 | .inr (m)=>some m)))
theorem kV(c f:Bool){k:List Z2}{m:Bool}{q:List Z2}{u j:Bool}(h:cf k m q u=some j):
  Pure Tryz.prog 19 [.agg [.p c (.slice Y9) k,.bo m],.agg [.p f (.slice Y9) q,.bo u]] (aG (aU false [⟨.bool,j⟩])):=by
 refine PB Tryz.func19 (fun Bw w0=> ?_);unfold cf at h;refine G (af (af (bg h (fun v1=>ay [(2,.adr 0 0 2 0),(3,.adr 1 0 2 0),(19,.bo v1)] (Jj c k m f q u) 2) (fun v1 h=> ?_) (fun v1 h=> ?_))))
 ·rcases aF h with⟨v,h⟩ | ⟨v,h⟩
  ·exact bq ⟨[(7,true),(13,true)],[]⟩ [(8,13,oc v)] (eN h (gg [] [0,8]))
  exact bq ⟨[(7,false),(13,false)],[]⟩ [(8,12,an v),(13,13,oc v)] (eN h (gg [] [0,8]))
 refine ab (aA h (fun I h=> ?_) (fun I h=> ?_))
 ·refine G (ao (ah ?_));obtain rfl:=sI h;exact RI [.bool]
 refine ae (ab (af (G (ak (jl h (fun C=>ay [(2,.adr 0 0 2 0),(3,.adr 1 0 2 0),(5,.i64 C)] (Jj c k m f q u) 2) (cN (dM Tryz.f19.ntmps 0 (fun _=>ay [] [] 0)) (eQ tb Tryz.f19.results.toList (fun D=>[⟨.bool,D⟩]))) (gg [] [0,1]) (fun C o h=> ?_) (fun J h e σ' E=> ?_))))))
 ·unfold bD at h;refine af (G (aA h (fun L h=> ?_) (fun L h=> ?_)))
  ·refine ae (ab (af (ak ?_)));obtain⟨x,z,h⟩:=g2 h;refine GD a0 [(3,3,oc x),(8,8,oc z),(10,10,oc Kx)] (aA h (fun A h=> ?_) (fun A h=> ?_))
   ·refine G (ao ?_);obtain rfl:=sI h;refine az (ah (br (aK ?_)));exact bu (RI [.bool])
   refine ae (au (ab (Ge ?_)));exact eB h (gg [] [0,1])
  refine aq (aL ?_);obtain rfl:=sI h;refine cR (aX ?_);exact bC (gg [] [])
 rcases J with _ | D
 ·obtain⟨rfl,B⟩:=E;refine bY ?_ B;refine av (ab (G (ao ?_)));obtain rfl:=sI h;exact RI [.bool]
 obtain⟨rfl,M⟩:=E;refine az (ah ?_);obtain rfl:=sI h;exact M
end
end Go.Proofs.YtmcemnfjddoejaaGreatDoor.T
