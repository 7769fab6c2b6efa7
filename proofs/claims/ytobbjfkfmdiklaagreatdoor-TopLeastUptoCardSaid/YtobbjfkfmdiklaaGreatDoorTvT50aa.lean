import Derived.Test.YtobbjfkfmdiklaaGreatDoorTvT50a0
import Derived.Test.YtobbjfkfmdiklaaGreatDoorTvT50aa1
import Derived.Test.YtobbjfkfmdiklaaGreatDoorTvT50aa3
namespace Go.Proofs.YtobbjfkfmdiklaaGreatDoor.T
open Go Go.Tv Go.Proofs
open Go.IntKind (i64 u8)
noncomputable section
set_option maxRecDepth 100000
set_option maxHeartbeats 4000000
def fS(p:Qj)(u q:Int):uU→Option (uU⊕QK):=fun(f,j) =>
 (if(decide (j<u))=true then(if 0≤j∧j<(p.length:Int)then(if 0≤(i64.wrap ((f.length:Int) - 1))∧(i64.wrap ((f.length:Int) - 1))<(f.length:Int)then(if(i64.wrap ((f.length:Int) - 1)).toNat<f.length then((jD ((p.getD j.toNat (0,0,0,0)).1) ((p.getD j.toNat (0,0,0,0)).2.1) ((p.getD j.toNat (0,0,0,0)).2.2.1) ((p.getD j.toNat (0,0,0,0)).2.2.2) (f.getD ((i64.wrap ((f.length:Int) - 1)).toNat) 0) q).bind fun v =>
 (if(f.length+([v]:QK).length)*8≤140737488355328∧f.length+([v]:QK).length≤9223372036854775807 then some (Sum.inl ((f++([v]:QK)),(i64.wrap (j+1))))else none))else none)else none)else none)
 else some (Sum.inr f))
def kL(u:Qj)(v:QK)(f q j:Int):Option QK :=
 ((iter (fS u q j) (([0]:QK),f)).bind fun p=>some p)
theorem uG(x z:Bool){C:Qj}{D:QK}{f v j:Int}{A:QK}(h:kL C D f v j=some A):
  Pure Tryz.prog 57 [.agg [.p x (.slice fb) C,.p z (.slice (.int .u8)) D],.i64 f,.i64 v,.i64 j] (aL (bd false [⟨(.slice (.int .i64)),A⟩])):=by
 refine PB Tryz.func57 (fun Bw w0=>?_);unfold kL at h;refine G (G (ag (G (ak (cz h (fun(q,M)=>az [(2,.i64 v),(3,.i64 j),(4,.adr 0 0 2 0),(9,.sl 1),(10,.i64 M)] (MD x C z D q) 2) 0 (fun u=>az [(9,.sl 0)] [(0,.arr 3 (.int .i64) u)] 1) (gg [] [0,16]) (fun y o h=>?_) (fun u h=>?_))))))
 ·obtain⟨q,M⟩:=y;unfold fS at h;refine ag (G (aC h (fun N h=>?_) (fun N h=>?_)))
  ·refine ae (ab (ag (ak ?_)));obtain⟨E,I,J,h⟩:=g3 h;obtain⟨V,O,h⟩:=ai h;obtain⟨L,h⟩:=aD h;have B:=(nI O);refine nj ⟨[],[(13,(oP B))]⟩ [(4,4,oc E),(10,10,oc I),(11,11,oc J),(13,13,oc B),(15,15,oc L)] (ay (ab (Ge ?_)));exact eB h (gg [] [0,146])
  refine au (aQ ?_);exact eX h (gg [] [1])
 refine aw (ab (G (av ?_)));obtain rfl:=sI h;exact RI [(.slice (.int .i64))]
def iy(v:Qj)(x:QK)(f u p q:Int):Option (Int) :=
 ((fy v x f u).bind fun z =>
 ((kL v x f z q).bind fun j =>
 (if 0≤(i64.wrap ((j.length:Int) - 1))∧(i64.wrap ((j.length:Int) - 1))<(j.length:Int)then(((if(p == 3)=true then some ((i64.wrap ((j.getD ((i64.wrap ((j.length:Int) - 1)).toNat) 0)+1)))
 else some ((j.getD ((i64.wrap ((j.length:Int) - 1)).toNat) 0)))).bind fun A=>some A)else none)))
theorem qc(u v:Bool){D:Qj}{E:QK}{f x j q z:Int}(h:iy D E f x j q=some z):
  Pure Tryz.prog 35 [.agg [.p u (.slice fb) D,.p v (.slice (.int .u8)) E],.i64 f,.i64 x,.u8 j,.i64 q] (aL (bd false [⟨(.int .i64),z⟩])):=by
 refine PB Tryz.func35 (fun Bw w0=>?_);unfold iy at h;refine G ?_;obtain⟨M,I,h⟩:=ai h;obtain⟨N,J,h⟩:=ai h;have A:=(kN u v I);have B:=(uG u v J);refine GD ⟨[],[(5,(oP A)),(7,(oP B))]⟩ [(5,5,oc A),(7,7,oc B)] (GC 4 h (fun h=>ag (G (br h (fun C=>az [(12,.i64 C)] [] 0) (fun C h=>?_) (fun C h=>?_)))))
 ·refine aC h (fun L h=>?_) (fun L h=>?_)
  ·exact Ge (eN h (gg [] []))
  exact ae (eN h (gg [] []))
 refine ab (G (av ?_));obtain rfl:=sI h;exact RI [(.int .i64)]
def gL(u:Qj)(v:QK)(f p j q:Int):Option Z2 :=
 ((iy u v f p j q).bind fun x =>
 some (f,p,x,j))
theorem kJ(u v:Bool){A:Qj}{B:QK}{f x j q:Int}{z:Int×Int×Int×Int}(h:gL A B f x j q=some z):
  Pure Tryz.prog 16 [.agg [.p u (.slice fb) A,.p v (.slice (.int .u8)) B],.i64 f,.i64 x,.u8 j,.i64 q] (aL (bd false [⟨fb,z⟩])):=by
 refine PB Tryz.func16 (fun Bw w0=>?_);unfold gL at h;refine G ?_;obtain⟨D,C,h⟩:=ai h;refine GP 7 (qc u v C) (av ?_);obtain rfl:=sI h;exact RI [fb]
def fT(v:Qj)(u:QK)(j x z A B C D:Int)(E:QJ):(Qq×Int)→Option ((Qq×Int)⊕Qq):=fun(p,f) =>
 (if(decide (f≥j))=true then(if 0≤(i64.wrap (f - j))∧(i64.wrap (f - j))<(p.length:Int)then(if(i64.wrap (f - j)).toNat<p.length then(((if(f == j)=true then some (true)
 else(if 0≤f∧f<(u.length:Int)then some (((u.getD f.toNat 0) != 0))else none))).bind fun v10=>(((if v10=true then((mR v u f j x (p.set ((i64.wrap (f - j)).toNat) (0,(-1:Int))) z A B C D E).bind fun q =>
 (if 0≤(i64.wrap (f - j))∧(i64.wrap (f - j))<((p.set ((i64.wrap (f - j)).toNat) (0,(-1:Int))).length:Int)then(if(i64.wrap (f - j)).toNat<(p.set ((i64.wrap (f - j)).toNat) (0,(-1:Int))).length then some (((p.set ((i64.wrap (f - j)).toNat) (0,(-1:Int))).set ((i64.wrap (f - j)).toNat) (q.1,q.2)))else none)else none))
 else some ((p.set ((i64.wrap (f - j)).toNat) (0,(-1:Int)))))).bind fun v11=>some (Sum.inl (v11,(i64.wrap (f - 1))))))else none)else none)
 else some (Sum.inr p))
def fW(x:Qj)(v:QK)(q z A:Int)(u:Qq):(Qj×Int)→Option ((Qj×Int)⊕Qj):=fun(p,j) =>
 (if(decide (j<z))=true then(if 0≤(i64.wrap (j - q))∧(i64.wrap (j - q))<(u.length:Int)then(if(i64.wrap (j - q)).toNat<u.length then(if 0≤(u.getD ((i64.wrap (j - q)).toNat) (0,0)).2∧(u.getD ((i64.wrap (j - q)).toNat) (0,0)).2<(v.length:Int)then((gL x v j ((u.getD ((i64.wrap (j - q)).toNat) (0,0)).2) (v.getD (((u.getD ((i64.wrap (j - q)).toNat) (0,0)).2).toNat) 0) A).bind fun f =>
 (if(p.length+([(f.1,f.2.1,f.2.2.1,f.2.2.2)]:Qj).length)*32≤140737488355328∧p.length+([(f.1,f.2.1,f.2.2.1,f.2.2.2)]:Qj).length≤9223372036854775807 then some (Sum.inl ((p++([(f.1,f.2.1,f.2.2.1,f.2.2.2)]:Qj)),(u.getD ((i64.wrap (j - q)).toNat) (0,0)).2))else none))else none)else none)else none)
 else some (Sum.inr p))
def lK(u:Qj)(v:QK)(f j A z B C D:Int)(E:QJ):Option (Qj×Bool) :=
 (if(decide (f≥j))=true then some (([]:Qj),true)
 else(if 0≤(i64.wrap ((i64.wrap (j - f))+1))∧(i64.wrap ((i64.wrap (j - f))+1))≤(i64.wrap ((i64.wrap (j - f))+1))∧16*(i64.wrap ((i64.wrap (j - f))+1))≤281474976710656∧(i64.wrap ((i64.wrap (j - f))+1))≤9223372036854775807 then((iter (fT u v f j A z B C D E) ((List.replicate (i64.wrap ((i64.wrap (j - f))+1)).toNat (0,0)),(i64.wrap (j - 1)))).bind fun p=>(if 0≤(0:Int)∧0<(p.length:Int)then(if(0:Int).toNat<p.length then(if(decide (((p.getD ((0:Int).toNat) (0,0)).2)<0))=true then some (([]:Qj),false)
 else((iter (fW u v f j z p) (([]:Qj),f)).bind fun q=>some (q,true)))else none)else none))else none))
theorem xI(f j:Bool){x:Qj}{z:QK}{v A B C D E I:Int}{J:QJ}{L:Qj×Bool}(h:lK x z v A B C D E I J=some L):
  Pure Tryz.prog 55 [.agg [.p f (.slice fb) x,.p j (.slice (.int .u8)) z],.i64 v,.i64 A,.agg [.i64 B,.i64 C,.u8 D,.i64 E,.i64 I,.p false .flt J]] (aL (bd false [⟨(.slice fb),L.1⟩,⟨.bool,L.2⟩])):=by
 refine PB Tryz.func55 (fun Bw w0=>?_);unfold lK at h;refine G (ag (G (aC h (fun B1 h=>?_) (fun B1 h=>?_))))
 ·refine G (av (aj ?_));obtain rfl:=sI h;exact RI [(.slice fb),.bool]
 refine ae (ab (GC 4 h (fun h=>ag (G (ak (cz h (fun(X,M)=>az [(1,.i64 v),(2,.i64 A),(4,.adr 0 0 2 0),(7,.adr 1 0 6 0),(10,.sl 2),(11,.i64 M)] (IV f x j z B C D E I J X) 3) 0 (fun Y=>az [(1,.i64 v),(2,.i64 A),(4,.adr 0 0 2 0),(7,.adr 1 0 6 0),(10,.sl 2)] (IV f x j z B C D E I J Y) 3) (gg [] [0,8,88]) (fun y o h=>?_) (fun Y h=>?_)))))))
 ·obtain⟨X,M⟩:=y;unfold fT at h;refine ag (G (aC h (fun Z h=>?_) (fun Z h=>?_)))
  ·refine ae (ab (ag (ak ?_)));obtain⟨a1,a2,h⟩:=g2 h;refine GN a0 [(5,5,oc a1),(6,6,oc a2)] (ag (br h (fun v10=>az [(1,.i64 v),(2,.i64 A),(4,.adr 0 0 2 0),(7,.adr 1 0 6 0),(10,.sl 2),(11,.i64 M),(46,.bo v10)] (IV f x j z B C D E I J (X.set ((i64.wrap (M - v)).toNat) (0,(-1:Int)))) 3) (fun v10 h=>?_) (fun v10 h=>?_)))
   ·rcases aN h with⟨q,h⟩ | ⟨q,h⟩
    ·exact bC ⟨[(3,true),(10,true)],[]⟩ [(4,10,oc q)] (eN h (gg [] [0,1,2]))
    obtain⟨a3,h⟩:=aD h;exact bC ⟨[(3,false),(10,false)],[]⟩ [(4,6,an q),(7,7,oc (And.intro q a3)),(8,9,an q),(10,10,oc q)] (eN h (gg [] [0,1,2]))
   refine ab (br h (fun v11=>az [(1,.i64 v),(2,.i64 A),(4,.adr 0 0 2 0),(7,.adr 1 0 6 0),(10,.sl 2),(11,.i64 M)] (IV f x j z B C D E I J v11) 3) (fun v11 h=>?_) (fun v11 h=>?_))
   ·refine aC h (fun a4 h=>?_) (fun a4 h=>?_)
    ·obtain⟨b4,a5,h⟩:=ai h;obtain⟨a6,a7,h⟩:=g2 h;have u:=(zN f j true a5);exact bC ⟨[],[(10,(oP u))]⟩ [(10,10,oc u),(11,11,oc a6),(12,12,oc a7)] (eN h (gg [] [0,1,2]))
    exact ae (eN h (gg [] [0,1,2]))
   refine ay (ab (Ge ?_));exact eB h (gg [] [0,1,2])
  refine au (aQ ?_);exact eX h (gg [] [0,1,2])
 refine aw (ab (ag ?_));obtain⟨a8,a9,h⟩:=g2 h;refine GN a0 [(1,1,oc a8),(3,3,oc a9)] (aC h (fun aa h=>?_) (fun aa h=>?_))
 ·refine G (av (aj ?_));obtain rfl:=sI h;exact RI [(.slice fb),.bool]
 refine ae (ab (G (ag (G (ak (cz h (fun(N,O)=>az [(1,.i64 v),(2,.i64 A),(4,.adr 0 0 2 0),(7,.adr 1 0 6 0),(10,.sl 2),(12,.sl 3),(13,.i64 O)] (MX f x j z B C D E I J Y N) 4) 2 (fun V=>az [(12,.sl 0)] [(0,.arr 62 fb V)] 1) (gg [.nilS 12 67 62 fb] [0,1,2,67]) (fun y o h=>?_) (fun V h=>?_)))))))
 ·obtain⟨N,O⟩:=y;unfold fW at h;refine ag (G (aC h (fun ac h=>?_) (fun ac h=>?_)))
  ·refine ae (ab (ak ?_));obtain⟨ad,ax,h⟩:=g2 h;refine GN a0 [(4,4,oc ad),(6,6,oc ax)] ?_;obtain⟨b1,h⟩:=aD h;obtain⟨b5,b2,h⟩:=ai h;obtain⟨b3,h⟩:=aD h;have u:=(kJ f j b2);refine GD ⟨[],[(11,(oP u))]⟩ [(7,7,oc b1),(11,11,oc u),(13,13,oc b3)] (Ge (ay ?_));exact eB h (gg [] [0,1,2,196])
  refine au (aQ ?_);exact eX h (gg [] [3])
 refine aw (ab (G (av ?_)));obtain rfl:=sI h;exact RI [(.slice fb),.bool]
def gD(j:Qj)(E:QK)(J I L:Int):(Int×Int×Int×Int×Int)→Option ((Int×Int×Int×Int×Int)⊕(Int×Int)):=fun(p,v20,v,x,f) =>
 (if(decide (f≤J))=true then(if 0≤(i64.wrap (f - 1))∧(i64.wrap (f - 1))<(j.length:Int)then((jD ((j.getD ((i64.wrap (f - 1)).toNat) (0,0,0,0)).1) ((j.getD ((i64.wrap (f - 1)).toNat) (0,0,0,0)).2.1) ((j.getD ((i64.wrap (f - 1)).toNat) (0,0,0,0)).2.2.1) ((j.getD ((i64.wrap (f - 1)).toNat) (0,0,0,0)).2.2.2) v L).bind fun u =>
 ((fy j E (i64.wrap (f - 1)) f).bind fun z =>
 (((if(z == f)=true then some (u)
 else some (x))).bind fun q=>(if(decide (q > I))=true then some (Sum.inr (p,v20))
 else((iG j E f).bind fun(A,B) =>
 (((if B=true then(if(A != 3)=true then some (true)
 else some ((decide (q<I))))
 else some (false))).bind fun C=>(((if C=true then some (f)
 else some (p))).bind fun D=>some (Sum.inl (D,f,u,q,(i64.wrap (f+1)))))))))))else none)
 else some (Sum.inr (p,v20)))
def nh(z:Qj)(p:QK)(x v D A E I J:Int)(L:QJ):Option Z2 :=
 ((iter (gD z p v D A) ((-1:Int),(i64.wrap (x+1)),0,0,(i64.wrap (x+1)))).bind fun(j,f)=>(if(decide (j≥0))=true then(if 0≤j∧j<(p.length:Int)then((gL z p x j (p.getD j.toNat 0) A).bind fun q =>
 some (q.1,q.2.1,q.2.2.1,q.2.2.2))else none)
 else(((if(f == v)=true then(if 0≤v∧v<(p.length:Int)then some ((p.getD v.toNat 0))else none)
 else some (4))).bind fun B=>(((if(decide (f<v))=true then(if 0≤f∧f<(p.length:Int)then some (((p.getD f.toNat 0) == 1))else none)
 else some (false))).bind fun v30=>(((if v30=true then some (1)
 else some (B))).bind fun C=>((gL z p x f C A).bind fun u =>
 some (u.1,u.2.1,u.2.2.1,u.2.2.2)))))))
theorem yY(f j:Bool){B:Qj}{C:QK}{D X E I J L M:Int}{N:QJ}{a3:Int×Int×Int×Int}(h:nh B C D X E I J L M N=some a3):
  Pure Tryz.prog 81 [.agg [.p f (.slice fb) B,.p j (.slice (.int .u8)) C],.i64 D,.i64 X,.agg [.i64 E,.i64 I,.u8 J,.i64 L,.i64 M,.p false .flt N]] (aL (bd false [⟨fb,a3⟩])):=by
 refine PB Tryz.func81 (fun Bw w0=>?_);unfold nh at h;refine G (G (G (ag (G (ak (cz h (fun(O,v20,a4,a5,u)=>az [(1,.i64 D),(2,.i64 X),(4,.adr 0 0 2 0),(7,.adr 1 0 6 0),(8,.adr 2 0 4 0),(9,.i64 O),(10,.i64 v20),(11,.i64 a4),(12,.i64 a5),(13,.i64 u)] (Az f B j C E I J L M N 0 (0:Int) (0:Int) (0:Int)) 3) 0 (fun(a6,x)=>az [(1,.i64 D),(2,.i64 X),(4,.adr 0 0 2 0),(7,.adr 1 0 6 0),(8,.adr 2 0 4 0),(9,.i64 a6),(10,.i64 x)] (Az f B j C E I J L M N 0 (0:Int) (0:Int) (0:Int)) 3) (gg [] [0,8,16]) (fun y o h=>?_) (fun a8 h=>?_)))))))
 ·obtain⟨O,v20,a4,a5,u⟩:=y;unfold gD at h;refine ag (G (aC h (fun a9 h=>?_) (fun a9 h=>?_)))
  ·refine ae (ab (ag (ak (GC 4 h (fun h=>ag ?_)))));obtain⟨Y,aa,h⟩:=ai h;refine GP 4 (nI aa) ?_;obtain⟨be,ac,h⟩:=ai h;refine GP 4 (kN f j ac) (br h (fun z=>az [(1,.i64 D),(2,.i64 X),(4,.adr 0 0 2 0),(7,.adr 1 0 6 0),(8,.adr 2 0 4 0),(9,.i64 O),(10,.i64 v20),(11,.i64 Y),(12,.i64 z),(13,.i64 u)] (Az f B j C E I J L M N 0 (0:Int) (0:Int) (0:Int)) 3) (fun z h=>?_) (fun z h=>?_))
   ·refine aC h (fun ad h=>?_) (fun ad h=>?_)
    ·exact Ge (eN h (gg [] [0,1,2]))
    exact ae (eN h (gg [] [0,1,2]))
   refine ab (ag (G (aC h (fun ax h=>?_) (fun ax h=>?_))))
   ·refine au (aQ (jA rfl (aQ ?_)));exact eX h (gg [] [0,1,2])
   refine ae (ab (G ?_));obtain⟨⟨bi,bs⟩,b1,h⟩:=ai h;refine GP 2 (kK f j b1) (ag (br h (fun Z=>az [(1,.i64 D),(2,.i64 X),(4,.adr 0 0 2 0),(7,.adr 1 0 6 0),(8,.adr 2 0 4 0),(9,.i64 O),(10,.i64 u),(11,.i64 Y),(12,.i64 z),(13,.i64 u),(67,.bo Z)] (Az f B j C E I J L M N 0 (0:Int) (0:Int) (0:Int)) 3) (fun Z h=>?_) (fun Z h=>?_)))
   ·rcases aN h with⟨q,h⟩ | ⟨q,h⟩
    ·rcases aN h with⟨A,h⟩ | ⟨A,h⟩
     ·exact bC ⟨[(1,true),(4,true),(9,true),(10,true)],[]⟩ [(2,4,an q),(5,8,oc A),(9,9,oc (And.intro q A)),(10,10,oc q)] (eN h (gg [] [0,1,2]))
     exact bC ⟨[(1,true),(4,false),(9,false),(10,true)],[]⟩ [(2,4,an q),(5,8,an A),(9,9,oc (And.intro q A)),(10,10,oc q)] (eN h (gg [] [0,1,2]))
    exact bC ⟨[(1,false),(10,false)],[]⟩ [(2,4,oc q),(9,10,oc q)] (eN h (gg [] [0,1,2]))
   refine ab (br h (fun a1=>az [(1,.i64 D),(2,.i64 X),(4,.adr 0 0 2 0),(7,.adr 1 0 6 0),(8,.adr 2 0 4 0),(9,.i64 a1),(10,.i64 u),(11,.i64 Y),(12,.i64 z),(13,.i64 u)] (Az f B j C E I J L M N 0 (0:Int) (0:Int) (0:Int)) 3) (fun a1 h=>?_) (fun a1 h=>?_))
   ·refine aC h (fun b2 h=>?_) (fun b2 h=>?_)
    ·exact Ge (eN h (gg [] [0,1,2]))
    exact ae (eN h (gg [] [0,1,2]))
   refine ay (ab (Ge ?_));exact eB h (gg [] [0,1,2])
  refine au (aQ ?_);exact eX h (gg [] [0,1,2])
 obtain⟨a6,x⟩:=a8;refine aw (ab (ag (G (aC h (fun b3 h=>?_) (fun b3 h=>?_)))))
 ·obtain⟨b4,h⟩:=aD h;obtain⟨bv,b5,h⟩:=ai h;have a7:=(kJ f j b5);refine GD ⟨[],[(10,(oP a7))]⟩ [(6,6,oc b4),(10,10,oc a7)] (av (aj ?_));obtain rfl:=sI h;exact RI [fb]
 refine ae (ab (G (ag (G (br h (fun V=>az [(1,.i64 D),(2,.i64 X),(4,.adr 0 0 2 0),(7,.adr 1 0 6 0),(8,.adr 2 0 4 0),(10,.i64 x),(17,.u8 V)] (Az f B j C E I J L M N 0 (0:Int) (0:Int) (0:Int)) 3) (fun V h=>?_) (fun V h=>?_))))))
 ·refine aC h (fun b6 h=>?_) (fun b6 h=>?_)
  ·refine Ak 3 h (fun h=>?_);exact eN h (gg [] [0,1,2])
  exact ae (eN h (gg [] [0,1,2]))
 refine ab (ag (ag (br h (fun v30=>az [(1,.i64 D),(4,.adr 0 0 2 0),(7,.adr 1 0 6 0),(8,.adr 2 0 4 0),(10,.i64 x),(17,.u8 V),(100,.bo v30)] (Az f B j C E I J L M N 0 (0:Int) (0:Int) (0:Int)) 3) (fun v30 h=>?_) (fun v30 h=>?_))))
 ·rcases aN h with⟨v,h⟩ | ⟨v,h⟩
  ·obtain⟨b7,h⟩:=aD h;exact bC ⟨[(3,true),(10,true)],[]⟩ [(4,6,an v),(7,7,oc (And.intro v b7)),(8,9,an v),(10,10,oc v)] (eN h (gg [] [0,1,2]))
  exact bC ⟨[(3,false),(10,false)],[]⟩ [(4,10,oc v)] (eN h (gg [] [0,1,2]))
 refine ab (br h (fun a2=>az [(1,.i64 D),(4,.adr 0 0 2 0),(7,.adr 1 0 6 0),(8,.adr 2 0 4 0),(10,.i64 x),(17,.u8 a2)] (Az f B j C E I J L M N 0 (0:Int) (0:Int) (0:Int)) 3) (fun a2 h=>?_) (fun a2 h=>?_))
 ·refine aC h (fun b8 h=>?_) (fun b8 h=>?_)
  ·exact Ge (eN h (gg [] [0,1,2]))
  exact ae (eN h (gg [] [0,1,2]))
 refine ab ?_;obtain⟨bx,b9,h⟩:=ai h;refine GP 6 (kJ f j b9) (av ?_);obtain rfl:=sI h;exact RI [fb]
def fq(u:Qj)(v:QK)(q x z A B C:Int)(D:QJ):(Int×Qj)→Option ((Int×Qj)⊕Qj):=fun(p,f) =>
 (if(decide (p<q))=true then((nh u v p q x z A B C D).bind fun j =>
 (if(f.length+([(j.1,j.2.1,j.2.2.1,j.2.2.2)]:Qj).length)*32≤140737488355328∧f.length+([(j.1,j.2.1,j.2.2.1,j.2.2.2)]:Qj).length≤9223372036854775807 then some (Sum.inl (j.2.1,(f++([(j.1,j.2.1,j.2.2.1,j.2.2.2)]:Qj))))else none))
 else some (Sum.inr f))
def jS(q:Qj)(u:QK)(f p v x z A B:Int)(C:QJ):Option Qj :=
 ((iter (fq q u p v x z A B C) (f,([]:Qj))).bind fun j=>some j)
theorem vF(v x:Bool){B:Qj}{C:QK}{f z D E I J L:Int}{M:QJ}{A:Qj}(h:jS B C f z D E I J L M=some A):
  Pure Tryz.prog 56 [.agg [.p v (.slice fb) B,.p x (.slice (.int .u8)) C],.i64 f,.i64 z,.agg [.i64 D,.i64 E,.u8 I,.i64 J,.i64 L,.p false .flt M]] (aL (bd false [⟨(.slice fb),A⟩])):=by
 refine PB Tryz.func56 (fun Bw w0=>?_);unfold jS at h;refine G (G (ag (ak (cz h (fun(j,q)=>az [(1,.i64 j),(2,.i64 z),(4,.adr 0 0 2 0),(7,.adr 1 0 6 0),(9,.sl 2)] (Ke v B x C D E I J L M q) 3) 0 (fun u=>az [(9,.sl 0)] [(0,.arr 62 fb u)] 1) (gg [.nilS 9 32 62 fb] [0,8,32]) (fun y o h=>?_) (fun u h=>?_)))))
 ·obtain⟨j,q⟩:=y;unfold fq at h;refine ag (G (aC h (fun N h=>?_) (fun N h=>?_)))
  ·refine ae (ab (ak ?_));obtain⟨V,O,h⟩:=ai h;refine GP 4 (yY v x O) (GC 3 h (fun h=>Ge (ay ?_)));exact eB h (gg [] [0,1,107])
  refine au (aQ ?_);exact eX h (gg [] [2])
 refine aw (ab (G (av ?_)));obtain rfl:=sI h;exact RI [(.slice fb)]
def jL(x:Qj)(z:QK)(f j A B p C D:Int)(E:QJ):Option (Qj×Bool) :=
 (((if(p == 1)=true then((lK x z f j A B p C D E).bind fun(I,q) =>
 (if q=true then some ((Sum.inr (I,false)))
 else some ((Sum.inl ()))))
 else some ((Sum.inl ())))).bind fun(u:((Unit)⊕(Qj×Bool)))=>match u with
 | .inl _=>((jS x z f j A B p C D E).bind fun v =>
 some (v,(p == 1)))
 | .inr ((J,L))=>some (J,L))
theorem xV(j q:Bool){A:Qj}{B:QK}{f u C D E I J:Int}{L:QJ}{v:Qj×Bool}(h:jL A B f u C D E I J L=some v):
  Pure Tryz.prog 34 [.agg [.p j (.slice fb) A,.p q (.slice (.int .u8)) B],.i64 f,.i64 u,.agg [.i64 C,.i64 D,.u8 E,.i64 I,.i64 J,.p false .flt L]] (aL (bd false [⟨(.slice fb),v.1⟩,⟨.bool,v.2⟩])):=by
 refine PB Tryz.func34 (fun Bw w0=>?_);unfold jL at h;refine G (ag (G (DK h (dz (oa Tryz.f34.ntmps (fun _=>az [(1,.i64 f),(2,.i64 u),(4,.adr 0 0 2 0),(7,.adr 1 0 6 0)] (Iy j A q B C D E I J L) 2)) (gB tb Tryz.f34.results.toList (fun(N,O)=>[⟨(.slice fb),N⟩,⟨.bool,O⟩]))) (fun x h=>?_) (fun x h e σ' V=>?_))))
 ·refine aC h (fun X h=>?_) (fun X h=>?_)
  ·obtain⟨⟨r9,Y⟩,Z,h⟩:=ai h;refine GP 4 (xI j q Z) (G (aC h (fun B4 h=>?_) (fun B4 h=>?_)))
   ·refine G (av ?_);obtain rfl:=sI h;exact aM (bL (RI [(.slice fb),.bool]))
   refine ae ?_;obtain rfl:=sI h;exact bk (cJ (gg [] [0,8]))
  refine ae ?_;obtain rfl:=sI h;exact bk (cJ (gg [] [0,8]))
 rcases x with _ | ⟨N,O⟩
 ·obtain⟨rfl,M⟩:=V;refine cH ?_ M;refine ab ?_;obtain⟨a1,q6,h⟩:=ai h;have z:=(vF j q q6);refine GD ⟨[],[(4,(oP z))]⟩ [(4,4,oc z)] (av ?_);obtain rfl:=sI h;exact RI [(.slice fb),.bool]
 obtain⟨rfl,hr⟩:=V;refine aj ?_;obtain rfl:=sI h;exact hr
def gv(A:Qj)(B:QK)(C D E I J:Int)(L:QJ)(x:QK):(Qj×Bool×Int×Int)→Option ((Qj×Bool×Int×Int)⊕(Qj×Bool)):=fun(f,j,q,v) =>
 (if(decide (v<(x.length:Int)))=true then(if 0≤v∧v<(x.length:Int)then((jL A B q (x.getD v.toNat 0) C D E I J L).bind fun(u,z) =>
 (((if(f.length+u.length)*32≤140737488355328∧f.length+u.length≤9223372036854775807 then(if j=true then some (true)
 else some (z))else none)).bind fun p=>some (Sum.inl ((f++u),p,(x.getD v.toNat 0),(i64.wrap (v+1))))))else none)
 else some (Sum.inr (f,j)))
def fG(p:Qj)(q:QK)(u v x z A:Int)(B:QJ):Option (Qj×Bool) :=
 ((mw p q).bind fun C =>
 ((iter (gv p q u v x z A B C) (([]:Qj),false,0,0)).bind fun(j,f)=>some (j,f)))
theorem pF(u v:Bool){E:Qj}{I:QK}{J L M N O:Int}{V:QJ}{B:Qj×Bool}(h:fG E I J L M N O V=some B):
  Pure Tryz.prog 14 [.agg [.p u (.slice fb) E,.p v (.slice (.int .u8)) I],.agg [.i64 J,.i64 L,.u8 M,.i64 N,.i64 O,.p false .flt V]] (aL (bd false [⟨(.slice fb),B.1⟩,⟨.bool,B.2⟩])):=by
 refine PB Tryz.func14 (fun Bw w0=>?_);unfold fG at h;refine G (G (G (G (ag ?_))));obtain⟨C,q2,h⟩:=ai h;refine GP 1 (vX u v q2) (ak (cz h (fun(x,j,z,X)=>az [(2,.adr 0 0 2 0),(3,.adr 1 0 6 0),(6,.sl 2),(7,.bo j),(8,.i64 z),(14,.p false (.slice (.int .i64)) C),(15,.i64 (C.length:Int)),(16,.i64 X)] (Ke u E v I J L M N O V x) 3) 0 (fun(A,q)=>az [(6,.sl 0),(7,.bo q)] [(0,.arr 62 fb A)] 1) (gg [.nilS 6 88 62 fb] [0,8,88]) (fun y o h=>?_) (fun Z h=>?_)))
 ·obtain⟨x,j,z,X⟩:=y;unfold gv at h;refine G (ag (aC h (fun B6 h=>?_) (fun B6 h=>?_)))
  ·refine ae (ab (ag (ak (GC 0 h (fun h=>?_)))));obtain⟨⟨a1,a2⟩,q8,h⟩:=ai h;refine GP 4 (xV u v q8) (ag (br h (fun f=>az [(2,.adr 0 0 2 0),(3,.adr 1 0 6 0),(6,.sl 2),(7,.bo f),(10,.i64 (C.getD X.toNat 0)),(14,.p false (.slice (.int .i64)) C),(15,.i64 (C.length:Int)),(16,.i64 X)] (Ke u E v I J L M N O V (x++a1)) 3) (fun f h=>?_) (fun f h=>?_)))
   ·obtain⟨D,h⟩:=aD h;rcases aN h with⟨Y,h⟩ | ⟨Y,h⟩
    ·exact bC ⟨[(4,true),(6,true)],[]⟩ [(2,2,oc D),(5,6,oc Y)] (eN h (gg [] [0,1,131]))
    exact bC ⟨[(4,false),(6,false)],[]⟩ [(2,2,oc D),(5,5,an Y),(6,6,oc Y)] (eN h (gg [] [0,1,131]))
   refine ab (Ge (ay (ab (Ge ?_))));exact eB h (gg [] [0,1,2])
  refine au (aQ ?_);exact eX h (gg [] [2])
 obtain⟨A,q⟩:=Z;refine aw (ab (G (av ?_)));obtain rfl:=sI h;exact RI [(.slice fb),.bool]
def hU(q j:Qj):(Qj×Int)→Option ((Qj×Int)⊕Qj):=fun(p,f) =>
 (if(decide (f<(j.length:Int)))=true then(if 0≤f∧f<(j.length:Int)then(if 0≤(i64.wrap (((j.getD f.toNat (0,0,0,0)).2.1) - 1))∧(i64.wrap (((j.getD f.toNat (0,0,0,0)).2.1) - 1))<(q.length:Int)then(if 0≤(j.getD f.toNat (0,0,0,0)).1∧(j.getD f.toNat (0,0,0,0)).1<(q.length:Int)then(if(p.length+([((q.getD (((j.getD f.toNat (0,0,0,0)).1).toNat) (0,0,0,0)).1,(i64.wrap (((q.getD ((i64.wrap (((j.getD f.toNat (0,0,0,0)).2.1) - 1)).toNat) (0,0,0,0)).1)+((q.getD ((i64.wrap (((j.getD f.toNat (0,0,0,0)).2.1) - 1)).toNat) (0,0,0,0)).2.1))),(j.getD f.toNat (0,0,0,0)).2.2.1,(j.getD f.toNat (0,0,0,0)).2.2.2)]:Qj).length)*32≤140737488355328∧p.length+([((q.getD (((j.getD f.toNat (0,0,0,0)).1).toNat) (0,0,0,0)).1,(i64.wrap (((q.getD ((i64.wrap (((j.getD f.toNat (0,0,0,0)).2.1) - 1)).toNat) (0,0,0,0)).1)+((q.getD ((i64.wrap (((j.getD f.toNat (0,0,0,0)).2.1) - 1)).toNat) (0,0,0,0)).2.1))),(j.getD f.toNat (0,0,0,0)).2.2.1,(j.getD f.toNat (0,0,0,0)).2.2.2)]:Qj).length≤9223372036854775807 then some (Sum.inl ((p++([((q.getD (((j.getD f.toNat (0,0,0,0)).1).toNat) (0,0,0,0)).1,(i64.wrap (((q.getD ((i64.wrap (((j.getD f.toNat (0,0,0,0)).2.1) - 1)).toNat) (0,0,0,0)).1)+((q.getD ((i64.wrap (((j.getD f.toNat (0,0,0,0)).2.1) - 1)).toNat) (0,0,0,0)).2.1))),(j.getD f.toNat (0,0,0,0)).2.2.1,(j.getD f.toNat (0,0,0,0)).2.2.2)]:Qj)),(i64.wrap (f+1))))else none)else none)else none)else none)
 else some (Sum.inr p))
def lu(p:Qj)(q:QK)(j:Qj):Option Qj :=
 (if((j.length:Int) == 0)=true then some ([(0,0,0,2)]:Qj)
 else((iter (hU p j) (([]:Qj),0)).bind fun f=>some f))
theorem xW(q u v:Bool){A:Qj}{B:QK}{z x:Qj}(h:lu A B z=some x):
  Pure Tryz.prog 27 [.agg [.p q (.slice fb) A,.p u (.slice (.int .u8)) B],.p v (.slice fb) z] (aL (bd false [⟨(.slice fb),x⟩])):=by
 refine PB Tryz.func27 (fun Bw w0=>?_);unfold lu at h;refine G (ag (G (aC h (fun I h=>?_) (fun I h=>?_))))
 ·refine G (av (aj ?_));obtain rfl:=sI h;exact RI [(.slice fb)]
 refine ae (ab (G (ag (G (ak (cz h (fun(f,E)=>az [(2,.adr 0 0 2 0),(5,.sl 1),(14,.p v (.slice fb) z),(15,.i64 (z.length:Int)),(16,.i64 E)] (LI q A u B f) 2) 0 (fun j=>az [(5,.sl 0)] [(0,.arr 80 fb j)] 1) (gg [.nilS 5 72 80 fb] [0,72]) (fun y o h=>?_) (fun j h=>?_)))))))
 ·obtain⟨f,E⟩:=y;unfold hU at h;refine G (ag (aC h (fun J h=>?_) (fun J h=>?_)))
  ·refine ae (ab (ag (ak (GC 0 h (fun h=>GC 5 h (fun h=>?_))))));obtain⟨C,D,h⟩:=g2 h;refine nj a0 [(5,5,oc C),(19,19,oc D)] (ay (ab (Ge ?_)));exact eB h (gg [] [0,266])
  refine au (aQ ?_);exact eX h (gg [] [1])
 refine aw (ab (G (av ?_)));obtain rfl:=sI h;exact RI [(.slice fb)]
def dO(D:Option Z1)(f:QK)(u v x z A:Int)(B:QJ):Option ((Qj×Bool)×Int) :=
 ((iA u v x z A B).bind fun E =>
 (if(!E)=true then some ((([]:Qj),false),40)
 else((aZ D f).bind fun(j,C) =>
 (if(C != 0)=true then some ((([]:Qj),false),C)
 else((fG j.1 j.2 u v x z A B).bind fun(I,p) =>
 ((lu j.1 j.2 I).bind fun q =>
 some ((q,p),0)))))))
theorem sT(q:Bool){u:Option Z1}{f:QK}{v x z A B:Int}{C:QJ}{j:(Qj×Bool)×Int}(h:dO u f v x z A B C=some j):
  Pure Tryz.prog 11 [.p false (.ptr xg) u,.p q (.slice (.int .u8)) f,.agg [.i64 v,.i64 x,.u8 z,.i64 A,.i64 B,.p false .flt C]] (aL (bd false [⟨Mf,j.1⟩,⟨(.int .i64),j.2⟩])):=by
 refine PB Tryz.func11 (fun Bw w0=>?_);unfold dO at h;refine G (ag ?_);obtain⟨V,D,h⟩:=ai h;refine GP 1 (xx D) (aC h (fun E h=>?_) (fun E h=>?_))
 ·refine G (av (aj ?_));obtain rfl:=sI h;exact RI [Mf,(.int .i64)]
 refine ae (ab ?_);obtain⟨⟨X,Y⟩,I,h⟩:=ai h;refine GP 2 (mu q I) (ag (G (aC h (fun J h=>?_) (fun J h=>?_))))
 ·refine G (av (aj ?_));obtain rfl:=sI h;exact RI [Mf,(.int .i64)]
 refine ae (ab ?_);obtain⟨⟨Z,L⟩,M,h⟩:=ai h;refine GP 2 (pF false false M) ?_;obtain⟨N,O,h⟩:=ai h;refine GP 2 (xW false false false O) (av ?_);obtain rfl:=sI h;exact RI [Mf,(.int .i64)]
def eT  : Option (Bool) :=
 ((fg).bind fun j =>
 ((jT j.1 j.2.1 j.2.2.1 j.2.2.2.1 j.2.2.2.2.1 j.2.2.2.2.2.1 j.2.2.2.2.2.2.1 j.2.2.2.2.2.2.2.1 j.2.2.2.2.2.2.2.2).bind fun(q,u) =>
 (if 0<([97,98,32,99,100,10,101]:QK).length then((dO q ([97,98,32,99,100,10,101]:QK) (3:Int) (8:Int) (0:Int) (0:Int) (0:Int) (eD 0)).bind fun(f,p) =>
 (((if(u.1 == 0)=true then(if(p == 0)=true then(if((f.1.length:Int) == 3)=true then(if 0≤(0:Int)∧0<(f.1.length:Int)then(if((((f.1.getD ((0:Int).toNat) (0,0,0,0)).1) == 0) && ((((f.1.getD ((0:Int).toNat) (0,0,0,0)).2.1) == 3) && ((((f.1.getD ((0:Int).toNat) (0,0,0,0)).2.2.1) == 2) && (((f.1.getD ((0:Int).toNat) (0,0,0,0)).2.2.2) == 1))))=true then(if 0≤(1:Int)∧1<(f.1.length:Int)then some (((((f.1.getD ((1:Int).toNat) (0,0,0,0)).1) == 3) && ((((f.1.getD ((1:Int).toNat) (0,0,0,0)).2.1) == 6) && ((((f.1.getD ((1:Int).toNat) (0,0,0,0)).2.2.1) == 2) && (((f.1.getD ((1:Int).toNat) (0,0,0,0)).2.2.2) == 2)))))else none)
 else some (false))else none)
 else some (false))
 else some (false))
 else some (false))).bind fun v1=>some v1))else none)))
theorem pz{v:Bool}(h:eT=some v):
  Pure Tryz.prog 6 [] (aL (bd false [⟨.bool,v⟩])):=by
 refine PB Tryz.func6 (fun Bw w0=>?_);unfold eT at h;refine G ?_;obtain⟨J,A,h⟩:=ai h;obtain⟨⟨L,M⟩,B,h⟩:=ai h;have q:=(nF A);have x:=(tL false false false false B);refine GN ⟨[],[(0,(oP q)),(1,(oP x))]⟩ [(0,0,oc q),(1,1,oc x)] ?_;obtain⟨C,h⟩:=aD h;obtain⟨⟨N,D⟩,E,h⟩:=ai h;have q:=(sT false E);refine GN ⟨[],[(4,(oP q [false,true]))]⟩ [(2,2,oc C),(4,4,oc q)] (ag (br h (fun v1=>az [(0,.bo v1)] [] 0) (fun v1 h=>?_) (fun v1 h=>?_)))
 ·rcases aN h with⟨u,h⟩ | ⟨u,h⟩
  ·rcases aN h with⟨j,h⟩ | ⟨j,h⟩
   ·rcases aN h with⟨f,h⟩ | ⟨f,h⟩
    ·obtain⟨z,h⟩:=aD h;rcases aN h with⟨p,h⟩ | ⟨p,h⟩
     ·obtain⟨I,h⟩:=aD h;exact bC ⟨[(3,true),(6,true),(7,true),(12,true),(13,true),(20,true),(21,true),(28,true)],[]⟩ [(4,5,an u),(6,6,oc u),(8,11,an j),(12,12,oc j),(14,15,an f),(16,16,oc (And.intro f z)),(17,18,an f),(19,19,oc (And.intro f KV)),(20,20,oc f),(22,23,an p),(24,24,oc (And.intro p I)),(25,26,an p),(27,27,oc (And.intro p KV)),(28,28,oc p)] (eN h (gg [] []))
     exact bC ⟨[(3,true),(6,true),(7,true),(12,true),(13,true),(20,true),(21,false),(28,false)],[]⟩ [(4,5,an u),(6,6,oc u),(8,11,an j),(12,12,oc j),(14,15,an f),(16,16,oc (And.intro f z)),(17,18,an f),(19,19,oc (And.intro f KV)),(20,20,oc f),(22,28,oc p)] (eN h (gg [] []))
    exact bC ⟨[(3,true),(6,true),(7,true),(12,true),(13,false),(20,false)],[]⟩ [(4,5,an u),(6,6,oc u),(8,11,an j),(12,12,oc j),(14,20,oc f)] (eN h (gg [] []))
   exact bC ⟨[(3,true),(6,true),(7,false),(12,false)],[]⟩ [(4,5,an u),(6,6,oc u),(8,12,oc j)] (eN h (gg [] []))
  exact bC ⟨[(3,false),(6,false)],[]⟩ [(4,6,oc u)] (eN h (gg [] []))
 refine ab (av ?_);obtain rfl:=sI h;exact RI [.bool]
def bB(f j p3:Int)(p4:QK)(p5:List sL):Option (Int) :=
 (if ¬(6:Int)=0 then some (i64.wrap (1+(i64.wrap (Int.tmod f 6))))else none)
theorem dU(j q:Bool){u v p3:Int}{p4:QK}{p5:List sL}{f:Int}(h:bB u v p3 p4 p5=some f):
  Pure Tryz.prog 41 [.agg [.u8 u,.u8 v,.u8 p3,.p j (.slice (.int .u8)) p4,.p q (.slice (.prod (.int .u8) Fe)) p5]] (aL (bd false [⟨(.int .i64),f⟩])):=by
 refine PB Tryz.func41 (fun Bw w0=>?_);unfold bB at h;refine G (GC 2 h (fun h=>av ?_));obtain rfl:=sI h;exact RI [(.int .i64)]
def fI(p:QK)(q:Int):(XK×Int)→Option ((XK×Int)⊕XK):=fun(j,f) =>
 (((if(decide (f<(([9,10,32,45,97,98,99,233,769,8205,20013,65533,128512]:QK).length:Int)))=true then some ((decide (f<(p.length:Int))))
 else some (false))).bind fun u=>(if u=true then(if 0≤f∧f<(([9,10,32,45,97,98,99,233,769,8205,20013,65533,128512]:QK).length:Int)then(if f.toNat<([9,10,32,45,97,98,99,233,769,8205,20013,65533,128512]:QK).length then(if 0≤f∧f<(([9,10,32,45,97,98,99,233,769,8205,20013,65533,128512]:QK).length:Int)then(if f.toNat<([9,10,32,45,97,98,99,233,769,8205,20013,65533,128512]:QK).length then(if 0≤f∧f<(p.length:Int)then(if ¬q=0 then(if(j.length+([((([9,10,32,45,97,98,99,233,769,8205,20013,65533,128512]:QK).getD f.toNat 0),(([9,10,32,45,97,98,99,233,769,8205,20013,65533,128512]:QK).getD f.toNat 0),(Int.tmod (i64.wrap (p.getD f.toNat 0)) q))]:XK).length)*16≤140737488355328∧j.length+([((([9,10,32,45,97,98,99,233,769,8205,20013,65533,128512]:QK).getD f.toNat 0),(([9,10,32,45,97,98,99,233,769,8205,20013,65533,128512]:QK).getD f.toNat 0),(Int.tmod (i64.wrap (p.getD f.toNat 0)) q))]:XK).length≤9223372036854775807 then some (Sum.inl ((j++([((([9,10,32,45,97,98,99,233,769,8205,20013,65533,128512]:QK).getD f.toNat 0),(([9,10,32,45,97,98,99,233,769,8205,20013,65533,128512]:QK).getD f.toNat 0),(Int.tmod (i64.wrap (p.getD f.toNat 0)) q))]:XK)),(i64.wrap (f+1))))else none)else none)else none)else none)else none)else none)else none)
 else some (Sum.inr j)))
def cQ(j:QK)(p:Int):Option XK :=
 ((iter (fI j p) (([]:XK),0)).bind fun f=>some f)
theorem fO(u:Bool){x:QK}{z:Int}{v:XK}(h:cQ x z=some v):
  Pure Tryz.prog 40 [.p u (.slice (.int .u8)) x,.i64 z] (aL (bd false [⟨(.slice (.prod (.int .i32) Y1)),v⟩])):=by
 refine PB Tryz.func40 (fun Bw w0=>?_);unfold cQ at h;refine G (G (G (ag (G (ak (cz h (fun(f,A)=>az [(0,.p u (.slice (.int .u8)) x),(1,.i64 z),(5,.sl 0),(6,.sl 1),(7,.i64 A)] (JP ([9,10,32,45,97,98,99,233,769,8205,20013,65533,128512]:QK) f) 2) 0 (fun q=>az [(6,.sl 0)] [(0,.arr 116 (.prod (.int .i32) Y1) q)] 1) (gg [.nilS 6 40 116 (.prod (.int .i32) Y1)] [8,40]) (fun y o h=>?_) (fun q h=>?_)))))))
 ·obtain⟨f,A⟩:=y;unfold fI at h;refine ag (ag (br h (fun B=>az [(0,.p u (.slice (.int .u8)) x),(1,.i64 z),(5,.sl 0),(6,.sl 1),(7,.i64 A),(18,.bo B)] (JP ([9,10,32,45,97,98,99,233,769,8205,20013,65533,128512]:QK) f) 2) (fun B h=>?_) (fun B h=>?_)))
  ·rcases aN h with⟨j,h⟩ | ⟨j,h⟩
   ·exact bC ⟨[(4,true),(9,true)],[]⟩ [(5,8,an j),(9,9,oc j)] (eN h (gg [] [0,1]))
   exact bC ⟨[(4,false),(9,false)],[]⟩ [(5,9,oc j)] (eN h (gg [] [0,1]))
  refine ab (aC h (fun C h=>?_) (fun C h=>?_))
  ·refine ae (ab (ag (ak ?_)));obtain⟨D,E,I,J,h⟩:=g4 h;obtain⟨L,M,N,h⟩:=g3 h;refine nj a0 [(3,3,oc D),(4,4,oc E),(7,7,oc I),(8,8,oc J),(11,11,oc L),(15,15,oc M),(18,18,oc N)] (ay (ab (Ge ?_)));exact eB h (gg [] [0,146])
  refine au (aQ ?_);exact eX h (gg [] [1])
 refine aw (ab (G (av ?_)));obtain rfl:=sI h;exact RI [(.slice (.prod (.int .i32) Y1))]
def cm(f j:Int):Option QX :=
 (if ¬f=0 then some (bytesOf ([(u8.wrap (i64.wrap (65+(Int.tmod j f))))]:QK))else none)
theorem dA{j p:Int}{f:QX}(h:cm j p=some f):
  Pure Tryz.prog 67 [.i64 j,.i64 p] (aL (bd false [⟨.str,f⟩])):=by
 refine PB Tryz.func67 (fun Bw w0=>?_);unfold cm at h;refine G (GC 2 h (fun h=>av ?_));obtain rfl:=sI h;exact RI [.str]
def js(v j:Int):Z4→Option (Z4⊕QX):=fun(f,p) =>
 (if(decide (p<v))=true then(if 0≤p then(if ¬(2:Int)=0 then(((if((Int.tmod (Int.fdiv j (2 ^ (min p.toNat u8.bits))) (2:Int)) == 1)=true then(if f.length+([32]:QX).length≤9223372036854775807 then((cm v p).bind fun q =>
 (if(f++([32]:QX)).length+q.length≤9223372036854775807 then some (((f++([32]:QX))++q))else none))else none)
 else some (f))).bind fun u=>some (Sum.inl (u,(i64.wrap (p+1)))))else none)else none)
 else some (Sum.inr f))
def ca(p f:Int):Option QX :=
 ((iter (js p f) (([]:QX),0)).bind fun j=>some j)
theorem cX{x f:Int}{u:QX}(h:ca x f=some u):
  Pure Tryz.prog 66 [.i64 x,.u8 f] (aL (bd false [⟨.str,u⟩])):=by
 refine PB Tryz.func66 (fun Bw w0=>?_);unfold ca at h;refine G (G (ag (G (ak (cz h (fun(p,z)=>az [(0,.i64 x),(1,.u8 f),(5,.st p),(6,.i64 z)] [] 0) 0 (fun q=>az [(5,.st q)] [] 0) (gg [] []) (fun y o h=>?_) (fun q h=>?_))))))
 ·obtain⟨p,z⟩:=y;unfold js at h;refine ag (G (aC h (fun I h=>?_) (fun I h=>?_)))
  ·refine ae (ab (ag (ak ?_)));obtain⟨A,B,h⟩:=g2 h;refine GN a0 [(2,2,oc A),(3,3,oc B)] (br h (fun j=>az [(0,.i64 x),(1,.u8 f),(5,.st j),(6,.i64 z)] [] 0) (fun j h=>?_) (fun j h=>?_))
   ·refine aC h (fun J h=>?_) (fun J h=>?_)
    ·obtain⟨C,h⟩:=aD h;obtain⟨L,D,h⟩:=ai h;obtain⟨E,h⟩:=aD h;have v:=(dA D);exact bC ⟨[],[(4,(oP v))]⟩ [(1,1,oc C),(4,4,oc v),(5,5,oc E)] (eN h (gg [] []))
    exact ae (eN h (gg [] []))
   refine ay (ab (Ge ?_));exact eB h (gg [] [])
  refine au (aQ ?_);exact eX h (gg [] [])
 refine aw (ab (G (av ?_)));obtain rfl:=sI h;exact RI [.str]
def bq(j:QK)(f:Int):Option (Int×Int) :=
 (if(decide (f≥(j.length:Int)))=true then some (0,f)
 else(if 0≤(i64.wrap ((i64.wrap (f+1)) - 1))∧(i64.wrap ((i64.wrap (f+1)) - 1))<(j.length:Int)then some ((i64.wrap (j.getD ((i64.wrap ((i64.wrap (f+1)) - 1)).toNat) 0)),(i64.wrap (f+1)))else none))
theorem dg{j:QK}{q:Int}{f:Int×Int}(h:bq j q=some f):
  jy Tryz.prog 118 [.adr 0 0 2 0] [(0,.box [.p false (.slice (.int .u8)) j,.i64 q])] (.i64 f.1) [(0,.box [.p false (.slice (.int .u8)) j,.i64 f.2])]:=by
 refine OB Tryz.func118 (fun Bw w0=>?_);unfold bq at h;refine G (ag (GD a0 [] (aC h (fun u h=>?_) (fun u h=>?_))))
 ·refine G (av (aj ?_));obtain rfl:=sI h;exact RO [some (.int .i64)] [] [0] [(2,.i64 0)] [(0,.box [.p false (.slice (.int .u8)) j,.i64 q])] 1 1
 refine ae (ab (G ?_));obtain⟨v,h⟩:=aD h;refine GD a0 [(9,9,oc v)] (av ?_);obtain rfl:=sI h;exact RO [some (.int .i64)] [] [0] [(2,.i64 (i64.wrap (j.getD ((i64.wrap ((i64.wrap (q+1)) - 1)).toNat) 0)))] [(0,.box [.p false (.slice (.int .u8)) j,.i64 (i64.wrap (q+1))])] 1 1
def dK(f:Int→Int→QK→Int→Option Z4)(u A:Int)(z:QK)(i2:Int):Option Z4 :=
 ((bq z i2).bind fun(j,p) =>
 (if(decide (A≤0))=true then((cm u j).bind fun Y =>
 some (Y,p))
 else(if ¬(12:Int)=0 then(if((Int.tmod j 12) == 4)=true then some (([46]:QX),p)
 else(if((Int.tmod j 12) == 5)=true then((bq z p).bind fun(Z,a1) =>
 ((ca u (u8.wrap Z)).bind fun C =>
 (if([91]:QX).length+C.length≤9223372036854775807 then(if(([91]:QX)++C).length+([93]:QX).length≤9223372036854775807 then some (((([91]:QX)++C)++([93]:QX)),a1)else none)else none)))
 else(if((Int.tmod j 12) == 6)=true then((bq z p).bind fun(a2,a3) =>
 ((ca u (u8.wrap a2)).bind fun D =>
 (if([91,94]:QX).length+D.length≤9223372036854775807 then(if(([91,94]:QX)++D).length+([93]:QX).length≤9223372036854775807 then some (((([91,94]:QX)++D)++([93]:QX)),a3)else none)else none)))
 else(if((Int.tmod j 12) == 7)=true then((f u (i64.wrap (A - 1)) z p).bind fun(E,a4) =>
 (if([40]:QX).length+E.length≤9223372036854775807 then(if(([40]:QX)++E).length+([41,42]:QX).length≤9223372036854775807 then some (((([40]:QX)++E)++([41,42]:QX)),a4)else none)else none))
 else(if((Int.tmod j 12) == 8)=true then((f u (i64.wrap (A - 1)) z p).bind fun(I,a5) =>
 (if([40]:QX).length+I.length≤9223372036854775807 then(if(([40]:QX)++I).length+([41,43]:QX).length≤9223372036854775807 then some (((([40]:QX)++I)++([41,43]:QX)),a5)else none)else none))
 else(if((Int.tmod j 12) == 9)=true then((f u (i64.wrap (A - 1)) z p).bind fun(J,L) =>
 (if([40]:QX).length+J.length≤9223372036854775807 then(if(([40]:QX)++J).length+([41,63]:QX).length≤9223372036854775807 then some (((([40]:QX)++J)++([41,63]:QX)),L)else none)else none))
 else(if((Int.tmod j 12) == 10)=true then((f u (i64.wrap (A - 1)) z p).bind fun(q,M) =>
 ((f u (i64.wrap (A - 1)) z M).bind fun(v,N) =>
 (if([40]:QX).length+q.length≤9223372036854775807 then(if(([40]:QX)++q).length+([124]:QX).length≤9223372036854775807 then(if((([40]:QX)++q)++([124]:QX)).length+v.length≤9223372036854775807 then(if(((([40]:QX)++q)++([124]:QX))++v).length+([41]:QX).length≤9223372036854775807 then some (((((([40]:QX)++q)++([124]:QX))++v)++([41]:QX)),N)else none)else none)else none)else none)))
 else(if((Int.tmod j 12) == 11)=true then((f u (i64.wrap (A - 1)) z p).bind fun(x,O) =>
 ((f u (i64.wrap (A - 1)) z O).bind fun(B,V) =>
 (if x.length+([32]:QX).length≤9223372036854775807 then(if(x++([32]:QX)).length+B.length≤9223372036854775807 then some (((x++([32]:QX))++B),V)else none)else none)))
 else((cm u j).bind fun X =>
 some (X,p))))))))))else none)))
def cC:Nat→Int→Int→QK→Int→Option Z4
 | 0=>fun _ _ _ _=>none
 | n+1=>dK (cC n)
theorem lY(j:Int→Int→QK→Int→Option Z4)(f:∀ {z A:Int} {q:QK} {B:Int} {u:QX×Int},j z A q B=some u→jy Tryz.prog 95 [.i64 z,.adr 0 0 2 0,.i64 A] [(0,.box [.p false (.slice (.int .u8)) q,.i64 B])] (.st u.1) [(0,.box [.p false (.slice (.int .u8)) q,.i64 u.2])]){z A:Int}{q:QK}{B:Int}{u:QX×Int}(h:dK j z A q B=some u):
  jy Tryz.prog 95 [.i64 z,.adr 0 0 2 0,.i64 A] [(0,.box [.p false (.slice (.int .u8)) q,.i64 B])] (.st u.1) [(0,.box [.p false (.slice (.int .u8)) q,.i64 u.2])]:=by
 refine OB Tryz.func95 (fun Bw w0=>?_);unfold dK at h;refine G ?_;obtain⟨⟨d7,x⟩,O,h⟩:=ai h;refine GO 1 [0] (dg O) (ag (G (aC h (fun V h=>?_) (fun V h=>?_))))
 ·obtain⟨X,Y,h⟩:=ai h;refine GP 2 (dA Y) (av (aj ?_));obtain rfl:=sI h;exact RO [some .str] [] [0] [(6,.st X)] [(0,.box [.p false (.slice (.int .u8)) q,.i64 x])] 1 1
 refine ae (ab (ag (GC 1 h (fun h=>ak (G (aC h (fun Z h=>?_) (fun Z h=>?_)))))))
 ·refine G (av (aA (aj ?_)));obtain rfl:=sI h;exact RO [some .str] [] [0] [(6,.st ([46]:QX))] [(0,.box [.p false (.slice (.int .u8)) q,.i64 x])] 1 1
 refine G (aC h (fun a1 h=>?_) (fun a1 h=>?_))
 ·obtain⟨⟨d8,a2⟩,a3,h⟩:=ai h;refine GO 1 [0] (dg a3) ?_;obtain⟨a4,a5,h⟩:=ai h;obtain⟨a6,a7,h⟩:=g2 h;have v:=(cX a5);refine GN ⟨[],[(3,(oP v))]⟩ [(3,3,oc v),(4,4,oc a6),(5,5,oc a7)] (av (aA (aj ?_)));obtain rfl:=sI h;exact RO [some .str] [] [0] [(6,.st ((([91]:QX)++a4)++([93]:QX)))] [(0,.box [.p false (.slice (.int .u8)) q,.i64 a2])] 1 1
 refine G (aC h (fun a8 h=>?_) (fun a8 h=>?_))
 ·obtain⟨⟨d9,a9⟩,aa,h⟩:=ai h;refine GO 1 [0] (dg aa) ?_;obtain⟨ac,ad,h⟩:=ai h;obtain⟨ax,b1,h⟩:=g2 h;have v:=(cX ad);refine GN ⟨[],[(3,(oP v))]⟩ [(3,3,oc v),(4,4,oc ax),(5,5,oc b1)] (av (aA (aj ?_)));obtain rfl:=sI h;exact RO [some .str] [] [0] [(6,.st ((([91,94]:QX)++ac)++([93]:QX)))] [(0,.box [.p false (.slice (.int .u8)) q,.i64 a9])] 1 1
 refine G (aC h (fun b2 h=>?_) (fun b2 h=>?_))
 ·obtain⟨⟨b3,b4⟩,b5,h⟩:=ai h;refine GO 4 [0] (f b5) ?_;obtain⟨b6,b7,h⟩:=g2 h;refine GN a0 [(1,1,oc b6),(2,2,oc b7)] (av (aA (aj ?_)));obtain rfl:=sI h;exact RO [some .str] [] [0] [(6,.st ((([40]:QX)++b3)++([41,42]:QX)))] [(0,.box [.p false (.slice (.int .u8)) q,.i64 b4])] 1 1
 refine G (aC h (fun b8 h=>?_) (fun b8 h=>?_))
 ·obtain⟨⟨b9,be⟩,bi,h⟩:=ai h;refine GO 4 [0] (f bi) ?_;obtain⟨bs,bv,h⟩:=g2 h;refine GN a0 [(1,1,oc bs),(2,2,oc bv)] (av (aA (aj ?_)));obtain rfl:=sI h;exact RO [some .str] [] [0] [(6,.st ((([40]:QX)++b9)++([41,43]:QX)))] [(0,.box [.p false (.slice (.int .u8)) q,.i64 be])] 1 1
 refine G (aC h (fun bx h=>?_) (fun bx h=>?_))
 ·obtain⟨⟨c1,C⟩,c2,h⟩:=ai h;refine GO 4 [0] (f c2) ?_;obtain⟨c3,c4,h⟩:=g2 h;refine GN a0 [(1,1,oc c3),(2,2,oc c4)] (av (aA (aj ?_)));obtain rfl:=sI h;exact RO [some .str] [] [0] [(6,.st ((([40]:QX)++c1)++([41,63]:QX)))] [(0,.box [.p false (.slice (.int .u8)) q,.i64 C])] 1 1
 refine G (aC h (fun c5 h=>?_) (fun c5 h=>?_))
 ·obtain⟨⟨D,d5⟩,c6,h⟩:=ai h;refine GO 4 [0] (f c6) ?_;obtain⟨⟨E,I⟩,c7,h⟩:=ai h;refine GO 4 [0] (f c7) ?_;obtain⟨c8,c9,cc,ch,h⟩:=g4 h;refine GN a0 [(1,1,oc c8),(2,2,oc c9),(4,4,oc cc),(5,5,oc ch)] (av (aA (aj ?_)));obtain rfl:=sI h;exact RO [some .str] [] [0] [(6,.st ((((([40]:QX)++D)++([124]:QX))++E)++([41]:QX)))] [(0,.box [.p false (.slice (.int .u8)) q,.i64 I])] 1 1
 refine G (aC h (fun cp h=>?_) (fun cp h=>?_))
 ·obtain⟨⟨J,d6⟩,cs,h⟩:=ai h;refine GO 4 [0] (f cs) ?_;obtain⟨⟨L,M⟩,cx,h⟩:=ai h;refine GO 4 [0] (f cx) ?_;obtain⟨d2,d3,h⟩:=g2 h;refine GN a0 [(1,1,oc d2),(3,3,oc d3)] (av (aA (aj ?_)));obtain rfl:=sI h;exact RO [some .str] [] [0] [(6,.st ((J++([32]:QX))++L))] [(0,.box [.p false (.slice (.int .u8)) q,.i64 M])] 1 1
 refine ae (ay (ab ?_));obtain⟨N,d4,h⟩:=ai h;refine GP 2 (dA d4) (av ?_);obtain rfl:=sI h;exact RO [some .str] [] [0] [(6,.st N)] [(0,.box [.p false (.slice (.int .u8)) q,.i64 x])] 1 1
theorem iE:∀(n:Nat) {q u:Int} {j:QK} {v:Int} {f:QX×Int},cC n q u j v=some f→jy Tryz.prog 95 [.i64 q,.adr 0 0 2 0,.i64 u] [(0,.box [.p false (.slice (.int .u8)) j,.i64 v])] (.st f.1) [(0,.box [.p false (.slice (.int .u8)) j,.i64 f.2])]
 | 0,_,_,_,_,_,h=>by cases h
 | n+1,q,u,j,v,f,h=>lY (cC n) (iE n)  h
def eV(j:Int)(f:QK):Option QX :=
 (if((f.length:Int) == 0)=true then some ([]:QX)
 else(if 0≤(0:Int)∧0≤(min (f.length:Int) (30:Int))∧(min (f.length:Int) (30:Int))≤(f.length:Int)then((cC 1000 j 3 ((f.take (min (f.length:Int) (30:Int)).toNat).drop (0:Int).toNat) 0).bind fun(p,q) =>
 some p)else none))
theorem kb{q:Int}{u:QK}{f:QX}(h:eV q u=some f):
  Pure Tryz.prog 68 [.i64 q,.p false (.slice (.int .u8)) u] (aL (bd false [⟨.str,f⟩])):=by
 refine PB Tryz.func68 (fun Bw w0=>?_);unfold eV at h;refine G (ag (G (aC h (fun v h=>?_) (fun v h=>?_))))
 ·refine G (av (aj ?_));obtain rfl:=sI h;exact RI [.str]
 refine ae (ab ?_);obtain⟨x,h⟩:=aD h;obtain⟨⟨A,B⟩,z,h⟩:=ai h;have j:=(iE 1000 z);refine GN ⟨[],[(8,(oO j [88]))]⟩ [(5,5,oc x),(8,8,oc j)] (av ?_);obtain rfl:=sI h;exact RI [.str]
def jW(q:QK)(u:Int):Z4→Option (Z4⊕QX):=fun(v6,j) =>
 (((if(decide (j<(q.length:Int)))=true then some ((decide (j<u)))
 else some (false))).bind fun v=>(if v=true then(if v6.length+([116,114,101,97,116,32]:QX).length≤9223372036854775807 then((cm u j).bind fun f =>
 (if(v6++([116,114,101,97,116,32]:QX)).length+f.length≤9223372036854775807 then(if((v6++([116,114,101,97,116,32]:QX))++f).length+([32,61,32]:QX).length≤9223372036854775807 then(if 0≤j∧j<(q.length:Int)then((cm u (i64.wrap (q.getD j.toNat 0))).bind fun p =>
 (if(((v6++([116,114,101,97,116,32]:QX))++f)++([32,61,32]:QX)).length+p.length≤9223372036854775807 then(if((((v6++([116,114,101,97,116,32]:QX))++f)++([32,61,32]:QX))++p).length+([59,10]:QX).length≤9223372036854775807 then some (Sum.inl ((((((v6++([116,114,101,97,116,32]:QX))++f)++([32,61,32]:QX))++p)++([59,10]:QX)),(i64.wrap (j+1))))else none)else none))else none)else none)else none))else none)
 else some (Sum.inr v6)))
def j8(j:List sL)(x:Int):Z4→Option (Z4⊕QX):=fun(p,f) =>
 (((if(decide (f<(j.length:Int)))=true then some ((decide (f<10)))
 else some (false))).bind fun v=>(if v=true then(if 0≤f∧f<(j.length:Int)then(if ¬(3:Int)=0 then(if 0≤(Int.tmod ((j.getD f.toNat (0,[],([]:QK))).1) (3:Int))∧(Int.tmod ((j.getD f.toNat (0,[],([]:QK))).1) (3:Int))<(([([107,101,101,112,32]:QX),([109,97,121,32]:QX),([109,117,115,116,32]:QX)]:QQ).length:Int)then(if(Int.tmod ((j.getD f.toNat (0,[],([]:QK))).1) (3:Int)).toNat<([([107,101,101,112,32]:QX),([109,97,121,32]:QX),([109,117,115,116,32]:QX)]:QQ).length then(if p.length+(([([107,101,101,112,32]:QX),([109,97,121,32]:QX),([109,117,115,116,32]:QX)]:QQ).getD ((Int.tmod ((j.getD f.toNat (0,[],([]:QK))).1) (3:Int)).toNat) ([]:QX)).length≤9223372036854775807 then(if 0≤f∧f<(j.length:Int)then((eV x ((j.getD f.toNat (0,[],([]:QK))).2.1)).bind fun q =>
 (if(p++(([([107,101,101,112,32]:QX),([109,97,121,32]:QX),([109,117,115,116,32]:QX)]:QQ).getD ((Int.tmod ((j.getD f.toNat (0,[],([]:QK))).1) (3:Int)).toNat) ([]:QX))).length+q.length≤9223372036854775807 then(if((p++(([([107,101,101,112,32]:QX),([109,97,121,32]:QX),([109,117,115,116,32]:QX)]:QQ).getD ((Int.tmod ((j.getD f.toNat (0,[],([]:QK))).1) (3:Int)).toNat) ([]:QX)))++q).length+([32,47,32]:QX).length≤9223372036854775807 then(if 0≤f∧f<(j.length:Int)then((eV x ((j.getD f.toNat (0,[],([]:QK))).2.2)).bind fun u =>
 (if(((p++(([([107,101,101,112,32]:QX),([109,97,121,32]:QX),([109,117,115,116,32]:QX)]:QQ).getD ((Int.tmod ((j.getD f.toNat (0,[],([]:QK))).1) (3:Int)).toNat) ([]:QX)))++q)++([32,47,32]:QX)).length+u.length≤9223372036854775807 then(if((((p++(([([107,101,101,112,32]:QX),([109,97,121,32]:QX),([109,117,115,116,32]:QX)]:QQ).getD ((Int.tmod ((j.getD f.toNat (0,[],([]:QK))).1) (3:Int)).toNat) ([]:QX)))++q)++([32,47,32]:QX))++u).length+([59,10]:QX).length≤9223372036854775807 then some (Sum.inl ((((((p++(([([107,101,101,112,32]:QX),([109,97,121,32]:QX),([109,117,115,116,32]:QX)]:QQ).getD ((Int.tmod ((j.getD f.toNat (0,[],([]:QK))).1) (3:Int)).toNat) ([]:QX)))++q)++([32,47,32]:QX))++u)++([59,10]:QX)),(i64.wrap (f+1))))else none)else none))else none)else none)else none))else none)else none)else none)else none)else none)else none)
 else some (Sum.inr p)))
def eJ(C u z:Int)(A:QK)(B:List sL):Option QX :=
 ((bB C u z A B).bind fun q =>
 ((ca q 255).bind fun j =>
 (if([99,108,97,115,115]:QX).length+j.length≤9223372036854775807 then(if(([99,108,97,115,115]:QX)++j).length+([59,10]:QX).length≤9223372036854775807 then(((if(u != 0)=true then(if((([99,108,97,115,115]:QX)++j)++([59,10]:QX)).length+([106,111,105,110]:QX).length≤9223372036854775807 then((ca q u).bind fun f =>
 (if(((([99,108,97,115,115]:QX)++j)++([59,10]:QX))++([106,111,105,110]:QX)).length+f.length≤9223372036854775807 then(if((((([99,108,97,115,115]:QX)++j)++([59,10]:QX))++([106,111,105,110]:QX))++f).length+([32,47]:QX).length≤9223372036854775807 then((ca q z).bind fun p =>
 (if(((((([99,108,97,115,115]:QX)++j)++([59,10]:QX))++([106,111,105,110]:QX))++f)++([32,47]:QX)).length+p.length≤9223372036854775807 then(if((((((([99,108,97,115,115]:QX)++j)++([59,10]:QX))++([106,111,105,110]:QX))++f)++([32,47]:QX))++p).length+([59,10]:QX).length≤9223372036854775807 then some ((((((((([99,108,97,115,115]:QX)++j)++([59,10]:QX))++([106,111,105,110]:QX))++f)++([32,47]:QX))++p)++([59,10]:QX)))else none)else none))else none)else none))else none)
 else some (((([99,108,97,115,115]:QX)++j)++([59,10]:QX))))).bind fun v1=>((iter (jW A q) (v1,0)).bind fun D=>((iter (j8 B q) (D,0)).bind fun v=>some v)))else none)else none)))
theorem jX(j:Bool){x z A:Int}{B:QK}{C:List sL}{L:QX}(h:eJ x z A B C=some L):
  Pure Tryz.prog 42 [.agg [.u8 x,.u8 z,.u8 A,.p j (.slice (.int .u8)) B,.p false (.slice (.prod (.int .u8) Fe)) C]] (aL (bd false [⟨.str,L⟩])):=by
 refine PB Tryz.func42 (fun Bw w0=>?_);unfold eJ at h;refine G ?_;obtain⟨J,q2,h⟩:=ai h;refine GP 1 (dU j false q2) ?_;obtain⟨r4,q4,h⟩:=ai h;obtain⟨c3,c4,h⟩:=g2 h;have f:=(cX q4);refine GN ⟨[],[(1,(oP f))]⟩ [(1,1,oc f),(2,2,oc c3),(3,3,oc c4)] (ag (G (br h (fun v1=>az [(1,.adr 0 0 5 0),(3,.i64 J),(4,.st v1)] (ER x z A j B C) 1) (fun v1 h=>?_) (fun v1 h=>?_))))
 ·refine aC h (fun B2 h=>?_) (fun B2 h=>?_)
  ·obtain⟨a6,h⟩:=aD h;obtain⟨bs,a7,h⟩:=ai h;obtain⟨a8,a9,h⟩:=g2 h;obtain⟨bv,aa,h⟩:=ai h;obtain⟨ac,ad,h⟩:=g2 h;have f:=(cX a7);have q:=(cX aa);exact nj ⟨[],[(5,(oP f)),(11,(oP q))]⟩ [(1,1,oc a6),(5,5,oc f),(6,6,oc a8),(7,7,oc a9),(11,11,oc q),(12,12,oc ac),(13,13,oc ad)] (eN h (gg [] [0]))
  exact ae (eN h (gg [] [0]))
 refine ab (ag (G (ak (cz h (fun(v6,v7)=>az [(1,.adr 0 0 5 0),(3,.i64 J),(4,.st v6),(5,.i64 v7)] (ER x z A j B C) 1) 0 (fun v8=>az [(1,.adr 0 0 5 0),(3,.i64 J),(4,.st v8)] (ER x z A j B C) 1) (gg [] [0]) (fun y o h=>?_) (fun v8 h=>?_)))))
 ·obtain⟨v6,v7⟩:=y;unfold jW at h;refine ag (ag (br h (fun v9=>az [(1,.adr 0 0 5 0),(3,.i64 J),(4,.st v6),(5,.i64 v7),(40,.bo v9)] (ER x z A j B C) 1) (fun v9 h=>?_) (fun v9 h=>?_)))
  ·rcases aN h with⟨u,h⟩ | ⟨u,h⟩
   ·exact bC ⟨[(5,true),(9,true)],[]⟩ [(6,8,an u),(9,9,oc u)] (eN h (gg [] [0]))
   exact bC ⟨[(5,false),(9,false)],[]⟩ [(6,9,oc u)] (eN h (gg [] [0]))
  refine ab (aC h (fun ax h=>?_) (fun ax h=>?_))
  ·refine ae (ab (ag (ak ?_)));obtain⟨b1,h⟩:=aD h;obtain⟨bx,b2,h⟩:=ai h;obtain⟨b3,b4,b5,h⟩:=g3 h;obtain⟨c1,b6,h⟩:=ai h;obtain⟨b7,b8,h⟩:=g2 h;have f:=(dA b2);have q:=(dA b6);refine nj ⟨[],[(4,(oP f)),(14,(oP q))]⟩ [(1,1,oc b1),(4,4,oc f),(5,5,oc b3),(6,6,oc b4),(11,11,oc b5),(14,14,oc q),(15,15,oc b7),(16,16,oc b8)] (ay (ab (Ge ?_)));exact eB h (gg [] [0])
  refine au (aQ ?_);exact eX h (gg [] [0])
 refine aw (ab (G (ag (G (ak (cz h (fun(D,E)=>az [(1,.adr 0 0 5 0),(3,.i64 J),(4,.st D),(6,.sl 1),(7,.i64 E)] (JU x z A j B C ([([107,101,101,112,32]:QX),([109,97,121,32]:QX),([109,117,115,116,32]:QX)]:QQ)) 2) 2 (fun M=>az [(4,.st M)] [] 0) (gg [] [0,1]) (fun y o h=>?_) (fun M h=>?_)))))))
 ·obtain⟨D,E⟩:=y;unfold j8 at h;refine ag (ag (br h (fun I=>az [(1,.adr 0 0 5 0),(3,.i64 J),(4,.st D),(6,.sl 1),(7,.i64 E),(69,.bo I)] (JU x z A j B C ([([107,101,101,112,32]:QX),([109,97,121,32]:QX),([109,117,115,116,32]:QX)]:QQ)) 2) (fun I h=>?_) (fun I h=>?_)))
  ·rcases aN h with⟨v,h⟩ | ⟨v,h⟩
   ·exact bC ⟨[(5,true),(8,true)],[]⟩ [(6,7,an v),(8,8,oc v)] (eN h (gg [] [0,1]))
   exact bC ⟨[(5,false),(8,false)],[]⟩ [(6,8,oc v)] (eN h (gg [] [0,1]))
  refine ab (aC h (fun b9 h=>?_) (fun b9 h=>?_))
  ·refine ae (ab (ag (ak ?_)));obtain⟨N,O,V,X,h⟩:=g4 h;obtain⟨Y,Z,h⟩:=g2 h;obtain⟨c2,be,h⟩:=ai h;obtain⟨a1,a2,a3,h⟩:=g3 h;obtain⟨c5,bi,h⟩:=ai h;obtain⟨a4,a5,h⟩:=g2 h;have f:=(kb be);have q:=(kb bi);refine nj ⟨[],[(19,(oP f)),(29,(oP q))]⟩ [(5,5,oc N),(8,8,oc O),(9,9,oc V),(10,10,oc X),(11,11,oc Y),(16,16,oc Z),(19,19,oc f),(20,20,oc a1),(21,21,oc a2),(26,26,oc a3),(29,29,oc q),(30,30,oc a4),(31,31,oc a5)] (ay (ab (Ge ?_)));exact eB h (gg [] [0,1])
  refine au (aQ ?_);exact eX h (gg [] [])
 refine aw (ab (G (av ?_)));obtain rfl:=sI h;exact RI [.str]
def fu(p:QK):Z4→Option (Z4⊕QX):=fun(f,j) =>
 (((if(decide (j<(p.length:Int)))=true then some ((decide (j<60)))
 else some (false))).bind fun q=>(if q=true then(if 0≤j∧j<(p.length:Int)then(if ¬(15:Int)=0 then(if 0≤(Int.tmod (i64.wrap (p.getD j.toNat 0)) (15:Int))∧(Int.tmod (i64.wrap (p.getD j.toNat 0)) (15:Int))<(([([97]:QX),([98]:QX),([99]:QX),([49]:QX),([50]:QX),([51]:QX),([32]:QX),([32]:QX),([97,49,98,32]:QX),([98,49,99,32]:QX),([50,99,32]:QX),([46,97,49]:QX),([99,46]:QX),([97,98,45,99,32]:QX),([99,97,45,98,45,97,32]:QX)]:QQ).length:Int)then(if(Int.tmod (i64.wrap (p.getD j.toNat 0)) (15:Int)).toNat<([([97]:QX),([98]:QX),([99]:QX),([49]:QX),([50]:QX),([51]:QX),([32]:QX),([32]:QX),([97,49,98,32]:QX),([98,49,99,32]:QX),([50,99,32]:QX),([46,97,49]:QX),([99,46]:QX),([97,98,45,99,32]:QX),([99,97,45,98,45,97,32]:QX)]:QQ).length then(if f.length+(([([97]:QX),([98]:QX),([99]:QX),([49]:QX),([50]:QX),([51]:QX),([32]:QX),([32]:QX),([97,49,98,32]:QX),([98,49,99,32]:QX),([50,99,32]:QX),([46,97,49]:QX),([99,46]:QX),([97,98,45,99,32]:QX),([99,97,45,98,45,97,32]:QX)]:QQ).getD ((Int.tmod (i64.wrap (p.getD j.toNat 0)) (15:Int)).toNat) []).length≤9223372036854775807 then some (Sum.inl ((f++(([([97]:QX),([98]:QX),([99]:QX),([49]:QX),([50]:QX),([51]:QX),([32]:QX),([32]:QX),([97,49,98,32]:QX),([98,49,99,32]:QX),([50,99,32]:QX),([46,97,49]:QX),([99,46]:QX),([97,98,45,99,32]:QX),([99,97,45,98,45,97,32]:QX)]:QQ).getD ((Int.tmod (i64.wrap (p.getD j.toNat 0)) (15:Int)).toNat) [])),(i64.wrap (j+1))))else none)else none)else none)else none)else none)
 else some (Sum.inr f)))
def eI(j:QK):Option QX :=
 ((iter (fu j) (([]:QX),0)).bind fun f=>some f)
theorem nc(u:Bool){x:QK}{v:QX}(h:eI x=some v):
  Pure Tryz.prog 43 [.p u (.slice (.int .u8)) x] (aL (bd false [⟨.str,v⟩])):=by
 refine PB Tryz.func43 (fun Bw w0=>?_);unfold eI at h;refine G (G (G (ag (G (ak (cz h (fun(f,z)=>az [(0,.p u (.slice (.int .u8)) x),(3,.sl 0),(4,.st f),(5,.i64 z)] [(0,.arr 9 .str ([([97]:QX),([98]:QX),([99]:QX),([49]:QX),([50]:QX),([51]:QX),([32]:QX),([32]:QX),([97,49,98,32]:QX),([98,49,99,32]:QX),([50,99,32]:QX),([46,97,49]:QX),([99,46]:QX),([97,98,45,99,32]:QX),([99,97,45,98,45,97,32]:QX)]:QQ))] 1) 0 (fun q=>az [(4,.st q)] [] 0) (gg [] [8]) (fun y o h=>?_) (fun q h=>?_)))))))
 ·obtain⟨f,z⟩:=y;unfold fu at h;refine ag (ag (br h (fun A=>az [(0,.p u (.slice (.int .u8)) x),(3,.sl 0),(4,.st f),(5,.i64 z),(14,.bo A)] [(0,.arr 9 .str ([([97]:QX),([98]:QX),([99]:QX),([49]:QX),([50]:QX),([51]:QX),([32]:QX),([32]:QX),([97,49,98,32]:QX),([98,49,99,32]:QX),([50,99,32]:QX),([46,97,49]:QX),([99,46]:QX),([97,98,45,99,32]:QX),([99,97,45,98,45,97,32]:QX)]:QQ))] 1) (fun A h=>?_) (fun A h=>?_)))
  ·rcases aN h with⟨j,h⟩ | ⟨j,h⟩
   ·exact bC ⟨[(4,true),(7,true)],[]⟩ [(5,6,an j),(7,7,oc j)] (eN h (gg [] [0]))
   exact bC ⟨[(4,false),(7,false)],[]⟩ [(5,7,oc j)] (eN h (gg [] [0]))
  refine ab (aC h (fun B h=>?_) (fun B h=>?_))
  ·refine ae (ab (ag (ak ?_)));obtain⟨C,D,E,I,h⟩:=g4 h;obtain⟨J,h⟩:=aD h;refine bC a0 [(4,4,oc C),(7,7,oc D),(8,8,oc E),(9,9,oc I),(10,10,oc J)] (ay (ab (Ge ?_)));exact eB h (gg [] [0])
  refine au (aQ ?_);exact eX h (gg [] [])
 refine aw (ab (G (av ?_)));obtain rfl:=sI h;exact RI [.str]
def cK(J L M:Int)(N:QK)(O:List sL)(V X Y:Int)(Z:QK)(f:List sL)(j p q u:QK)(v x:Int):Option (XK×XK×XK×XK×QX×QX×QX×Int×Int) :=
 ((bB J L M N O).bind fun r9 =>
 ((cQ j r9).bind fun z =>
 ((bB V X Y Z f).bind fun A =>
 ((cQ p A).bind fun B =>
 ((cQ q 3).bind fun C =>
 ((eJ J L M N O).bind fun D =>
 ((eJ V X Y Z f).bind fun E =>
 ((eI u).bind fun I =>
 (if ¬(3:Int)=0 then(if ¬(3:Int)=0 then some (z,B,C,([(65,90,97),(97,122,97),(233,233,101)]:XK),D,E,I,(i64.wrap (1+(i64.wrap (Int.tmod v 3)))),(i64.wrap (1+(i64.wrap (Int.tmod x 3)))))else none)else none)))))))))
theorem ph(v x f j q u:Bool){b1 b2 b3:Int}{b4:QK}{b5:List sL}{b6 b7 b8:Int}{b9:QK}{z:List sL}{A B C D:QK}{E I:Int}{J:XK×XK×XK×XK×QX×QX×QX×Int×Int}(h:cK b1 b2 b3 b4 b5 b6 b7 b8 b9 z A B C D E I=some J):
  Pure Tryz.prog 19 [.agg [.u8 b1,.u8 b2,.u8 b3,.p v (.slice (.int .u8)) b4,.p false (.slice (.prod (.int .u8) Fe)) b5,.u8 b6,.u8 b7,.u8 b8,.p x (.slice (.int .u8)) b9,.p false (.slice (.prod (.int .u8) Fe)) z,.p f (.slice (.int .u8)) A,.p j (.slice (.int .u8)) B,.p q (.slice (.int .u8)) C,.p u (.slice (.int .u8)) D,.u8 E,.u8 I]] (aL (bd false [⟨Y7,J⟩])):=by
 refine PB Tryz.func19 (fun Bw w0=>?_);unfold cK at h;refine G ?_;obtain⟨r9,q9,h⟩:=ai h;obtain⟨a8,a1,h⟩:=ai h;obtain⟨a9,a2,h⟩:=ai h;obtain⟨aa,a3,h⟩:=ai h;obtain⟨ac,a4,h⟩:=ai h;obtain⟨ad,a5,h⟩:=ai h;obtain⟨ax,a6,h⟩:=ai h;obtain⟨be,a7,h⟩:=ai h;obtain⟨c3,c4,h⟩:=g2 h;have L:=(dU v false q9);have M:=(fO f a1);have N:=(dU x false a2);have O:=(fO j a3);have V:=(fO q a4);have X:=(jX v a5);have Y:=(jX x a6);have Z:=(nc u a7);refine GD ⟨[],[(4,(oP L)),(5,(oP M)),(10,(oP N)),(11,(oP O)),(14,(oP V)),(21,(oP X)),(24,(oP Y)),(27,(oP Z))]⟩ [(4,4,oc L),(5,5,oc M),(10,10,oc N),(11,11,oc O),(14,14,oc V),(21,21,oc X),(24,24,oc Y),(27,27,oc Z),(30,30,oc c3),(35,35,oc c4)] (lZ [.frzC 8 3] (by kernel_rfl) (av ?_));obtain rfl:=sI h;exact RI [Y7]
def dG(f j p q u:Int)(v:QJ):Option (Int×Int×Int×Int×Int×QJ) :=
 (if ¬(64:Int)=0 then(if ¬(2:Int)=0 then some ((i64.wrap (1+(i64.wrap f))),(i64.wrap (1+(i64.wrap (Int.tmod j 64)))),(Int.tmod p 2),(i64.wrap q),(i64.wrap u),v)else none)else none)
theorem jd{j q u v x:Int}{z:QJ}{f:Int×Int×Int×Int×Int×QJ}(h:dG j q u v x z=some f):
  Pure Tryz.prog 20 [.agg [.u8 j,.u8 q,.u8 u,.p false (.int .u16) v,.p false (.int .u16) x,.p false .flt z]] (aL (bd false [⟨Mj,f⟩])):=by
 refine PB Tryz.func20 (fun Bw w0=>?_);unfold dG at h;refine G ?_;obtain⟨A,B,h⟩:=g2 h;refine GN a0 [(6,6,oc A),(11,11,oc B)] (av ?_);obtain rfl:=sI h;exact RI [Mj]
def gQ(p:Qj)(f q:Int):(Int×Int)→Option ((Int×Int)⊕(Int)):=fun(u,j) =>
 (if(decide (j<(((p.take q.toNat).drop f.toNat).length:Int)))=true then(if 0≤j∧j<(((p.take q.toNat).drop f.toNat).length:Int)then(((if(((((p.take q.toNat).drop f.toNat).getD j.toNat (0,0,0,0)).2.2.2) == 1)=true then some ((i64.wrap (u+1)))
 else some (u))).bind fun v=>some (Sum.inl (v,(i64.wrap (j+1)))))else none)
 else some (Sum.inr u))
def nf(j:Qj)(u:QK)(f p:Int):Option (Int) :=
 ((fy j u f p).bind fun q =>
 (if 0≤f∧f≤q∧q≤(j.length:Int)then((iter (gQ j f q) (0,0)).bind fun v=>some v)else none))
theorem zA(j u:Bool){q:Qj}{D:QK}{f v x:Int}(h:nf q D f v=some x):
  Pure Tryz.prog 45 [.agg [.p j (.slice fb) q,.p u (.slice (.int .u8)) D],.i64 f,.i64 v] (aL (bd false [⟨(.int .i64),x⟩])):=by
 refine PB Tryz.func45 (fun Bw w0=>?_);unfold nf at h;refine G (G (ag ?_));obtain⟨A,J,h⟩:=ai h;obtain⟨L,h⟩:=aD h;have z:=(kN j u J);refine GD ⟨[],[(6,(oP z))]⟩ [(6,6,oc z),(7,7,oc L)] (ak (cz h (fun(E,B)=>az [(7,.i64 E),(17,.p j (.slice fb) ((q.take A.toNat).drop f.toNat)),(18,.i64 (((q.take A.toNat).drop f.toNat).length:Int)),(19,.i64 B)] [] 0) 0 (fun I=>az [(7,.i64 I)] [] 0) (gg [] []) (fun y o h=>?_) (fun I h=>?_)))
 ·obtain⟨E,B⟩:=y;unfold gQ at h;refine G (ag (aC h (fun M h=>?_) (fun M h=>?_)))
  ·refine ae (ab (ag (ak (GC 0 h (fun h=>G (br h (fun C=>az [(7,.i64 C),(17,.p j (.slice fb) ((q.take A.toNat).drop f.toNat)),(18,.i64 (((q.take A.toNat).drop f.toNat).length:Int)),(19,.i64 B)] [] 0) (fun C h=>?_) (fun C h=>?_)))))))
   ·refine aC h (fun N h=>?_) (fun N h=>?_)
    ·exact Ge (eN h (gg [] []))
    exact ae (eN h (gg [] []))
   refine ay (ab (Ge ?_));exact eB h (gg [] [])
  refine au (aQ ?_);exact eX h (gg [] [])
 refine aw (ab (G (av ?_)));obtain rfl:=sI h;exact RI [(.int .i64)]
def jB(q:Qj)(u:QK)(f j:Int)(p:Bool)(C A D E I:Int)(J:QJ):Option (Int×Bool) :=
 ((iG q u j).bind fun(B,L) =>
 (((if(!L)=true then some (true)
 else some ((decide (j≤f))))).bind fun v1=>(if v1=true then some (0,false)
 else((iy q u f j B A).bind fun M =>
 ((nf q u f j).bind fun v =>
 ((dE q u f B M v p C A D E I J).bind fun(x,z) =>
 some (x,z)))))))
theorem zx(q u:Bool){D:Qj}{E:QK}{f v:Int}{j:Bool}{I J L M N:Int}{O:QJ}{x:Int×Bool}(h:jB D E f v j I J L M N O=some x):
  Pure Tryz.prog 21 [.agg [.p q (.slice fb) D,.p u (.slice (.int .u8)) E],.i64 f,.i64 v,.bo j,.agg [.i64 I,.i64 J,.u8 L,.i64 M,.i64 N,.p false .flt O]] (aL (bd false [⟨(.int .i64),x.1⟩,⟨.bool,x.2⟩])):=by
 refine PB Tryz.func21 (fun Bw w0=>?_);unfold jB at h;refine G ?_;obtain⟨⟨V,r4⟩,X,h⟩:=ai h;refine GP 2 (kK q u X) (ag (ag (br h (fun v1=>az [(1,.i64 f),(2,.i64 v),(3,.bo j),(5,.adr 0 0 2 0),(9,.adr 1 0 6 0),(12,.u8 V),(26,.bo v1)] (Iy q D u E I J L M N O) 2) (fun v1 h=>?_) (fun v1 h=>?_))))
 ·rcases aN h with⟨C,h⟩ | ⟨C,h⟩
  ·exact bC ⟨[(2,true),(6,true)],[]⟩ [(3,6,oc C)] (eN h (gg [] [0,8]))
  exact bC ⟨[(2,false),(6,false)],[]⟩ [(3,5,an C),(6,6,oc C)] (eN h (gg [] [0,8]))
 refine ab (aC h (fun Y h=>?_) (fun Y h=>?_))
 ·refine G (av (aj ?_));obtain rfl:=sI h;exact RI [(.int .i64),.bool]
 refine ae (ab ?_);obtain⟨r9,Z,h⟩:=ai h;obtain⟨a1,q7,h⟩:=ai h;obtain⟨⟨a2,a3⟩,q8,h⟩:=ai h;have z:=(qc q u Z);have A:=(zA q u q7);have B:=(p8 q u q8);refine GD ⟨[],[(9,(oP z)),(13,(oP A)),(16,(oP B))]⟩ [(9,9,oc z),(13,13,oc A),(16,16,oc B)] (av ?_);obtain rfl:=sI h;exact RI [(.int .i64),.bool]
def fY(x:Qj)(q:QK)(p:Qj)(z A B C D:Int)(E:QJ):(Int×Int)→Option ((Int×Int)⊕((Int)⊕(Int×Bool))):=fun(j,f) =>
 (if(decide (f<(p.length:Int)))=true then(if 0≤f∧f<(p.length:Int)then(if 0≤(p.getD f.toNat (0,0,0,0)).2.1∧(p.getD f.toNat (0,0,0,0)).2.1<(q.length:Int)then((jB x q ((p.getD f.toNat (0,0,0,0)).1) ((p.getD f.toNat (0,0,0,0)).2.1) ((q.getD (((p.getD f.toNat (0,0,0,0)).2.1).toNat) 0) == 2) z A B C D E).bind fun(u,v) =>
 (if(!v)=true then some (Sum.inr (Sum.inr (0,false)))
 else some (Sum.inl ((i64.wrap (j+u)),(i64.wrap (f+1))))))else none)else none)
 else some (Sum.inr (Sum.inl j)))
def jJ(q:Qj)(u:QK)(v:Qj)(x z A B C:Int)(D:QJ):Option (Int×Bool) :=
 ((iter (fY q u v x z A B C D) (0,0)).bind fun(j:((Int)⊕(Int×Bool)))=>match j with
 | .inl f=>some (f,true)
 | .inr ((E,p))=>some (E,p))
theorem ql(q u x:Bool){C:Qj}{D:QK}{B:Qj}{E I J L M:Int}{N:QJ}{v:Int×Bool}(h:jJ C D B E I J L M N=some v):
  Pure Tryz.prog 17 [.agg [.p q (.slice fb) C,.p u (.slice (.int .u8)) D],.p x (.slice fb) B,.agg [.i64 E,.i64 I,.u8 J,.i64 L,.i64 M,.p false .flt N]] (aL (bd false [⟨(.int .i64),v.1⟩,⟨.bool,v.2⟩])):=by
 refine PB Tryz.func17 (fun Bw w0=>?_);unfold jJ at h;refine G (G (ag (G (ak (kS h (fun(f,Y)=>az [(3,.adr 0 0 2 0),(5,.adr 1 0 6 0),(8,.i64 f),(13,.p x (.slice fb) B),(14,.i64 (B.length:Int)),(15,.i64 Y)] (Iy q C u D E I J L M N) 2) (dz (fD Tryz.f17.ntmps 0 (fun j=>az [(8,.i64 j)] [] 0)) (gB tb Tryz.f17.results.toList (fun(Z,z)=>[⟨(.int .i64),Z⟩,⟨.bool,z⟩]))) (gg [] [0,8]) (fun y o h=>?_) (fun O h e σ' hq=>?_))))))
 ·obtain⟨f,Y⟩:=y;unfold fY at h;refine G (ag (aC h (fun B5 h=>?_) (fun B5 h=>?_)))
  ·refine ae (ab (ag (ak (GC 0 h (fun h=>?_)))));obtain⟨V,h⟩:=aD h;obtain⟨⟨a1,a2⟩,q6,h⟩:=ai h;have A:=(zx q u q6);refine GD ⟨[],[(13,(oP A))]⟩ [(9,9,oc V),(13,13,oc A)] (ag (G (aC h (fun B6 h=>?_) (fun B6 h=>?_))))
   ·refine G (av ?_);obtain rfl:=sI h;refine aj (aA (aj (bM (aM ?_))));exact bL (RI [(.int .i64),.bool])
   refine ae (ab (Ge (ay (ab (Ge ?_)))));exact eB h (gg [] [0,1])
  refine au (aQ ?_);obtain rfl:=sI h;refine dL (bk ?_);exact bT (gg [] [])
 rcases O with j | ⟨Z,z⟩
 ·obtain⟨rfl,X⟩:=hq;refine cH ?_ X;refine aw (ab (G (av ?_)));obtain rfl:=sI h;exact RI [(.int .i64),.bool]
 obtain⟨rfl,hr⟩:=hq;refine aA (aj ?_);obtain rfl:=sI h;exact hr
end
end Go.Proofs.YtobbjfkfmdiklaaGreatDoor.T
