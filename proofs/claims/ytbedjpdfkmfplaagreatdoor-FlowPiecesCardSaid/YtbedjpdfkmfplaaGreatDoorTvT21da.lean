import Derived.Test.YtbedjpdfkmfplaaGreatDoorTvT21d0
import Derived.Test.YtbedjpdfkmfplaaGreatDoorTvT21da1
import Derived.Test.YtbedjpdfkmfplaaGreatDoorTvT21da3
namespace Go.Proofs.YtbedjpdfkmfplaaGreatDoor.T
open Go Go.Tv Go.Proofs
open Go.IntKind (i64 u8)
noncomputable section
set_option maxRecDepth 100000
set_option maxHeartbeats 4000000
def ff(q:Qj)(I:QK)(i1 A J:Int)(E:Qq)(x4 x5 x6 x7 x8:Int)(x9:QJ):(Int×Int×Int×Int×Int×Int×Int)→Option ((Int×Int×Int×Int×Int×Int×Int)⊕(Int×Int)):=fun(e,f,L,M,B,N,v30) =>
 (if(decide (v30≤J))=true then(if 0≤(i64.wrap (v30 - 1))∧(i64.wrap (v30 - 1))<(q.length:Int)then((jP ((q.getD ((i64.wrap (v30 - 1)).toNat) (0,0,0,0)).1) ((q.getD ((i64.wrap (v30 - 1)).toNat) (0,0,0,0)).2.1) ((q.getD ((i64.wrap (v30 - 1)).toNat) (0,0,0,0)).2.2.1) ((q.getD ((i64.wrap (v30 - 1)).toNat) (0,0,0,0)).2.2.2) L x5).bind fun u =>
 (((if(((q.getD ((i64.wrap (v30 - 1)).toNat) (0,0,0,0)).2.2.2) == 1)=true then some ((i64.wrap (B+1)))
 else some (B))).bind fun v=>((gy q I (i64.wrap (v30 - 1)) v30).bind fun O =>
 (((if(O == v30)=true then some ((u,v))
 else some ((M,N)))).bind fun(j,z)=>(if(decide (j > x4))=true then some (Sum.inr (e,f))
 else((lG q I v30).bind fun(C,V) =>
 (if 0≤(i64.wrap (v30 - A))∧(i64.wrap (v30 - A))<(E.length:Int)then(((if(!V)=true then some (true)
 else(if(decide (v30<J))=true then some ((decide (((E.getD ((i64.wrap (v30 - A)).toNat) (0,0)).2)<0)))
 else some (false)))).bind fun X=>(if X=true then some (Sum.inl (e,f,u,j,v,z,(i64.wrap (v30+1))))
 else(((if(C == 3)=true then some ((i64.wrap (j+1)))
 else some (j))).bind fun Y=>((fZ q I i1 C Y z (v30 == J) x4 x5 x6 x7 x8 x9).bind fun(D,Z) =>
 (((if Z=true then(if(decide (f<0))=true then some (true)
 else some ((decide ((i64.wrap (D+((E.getD ((i64.wrap (v30 - A)).toNat) (0,0)).1)))<e))))
 else some (false))).bind fun a1=>(((if a1=true then some (((i64.wrap (D+((E.getD ((i64.wrap (v30 - A)).toNat) (0,0)).1))),v30))
 else some ((e,f)))).bind fun(a2,a3)=>some (Sum.inl (a2,a3,u,j,v,z,(i64.wrap (v30+1))))))))))else none)))))))else none)
 else some (Sum.inr (e,f)))
def nQ(q:Qj)(u:QK)(j v z:Int)(A:Qq)(B C D E I:Int)(J:QJ):Option (Int×Int) :=
 ((iter (ff q u j v z A B C D E I J) (0,(-1:Int),0,0,0,0,(i64.wrap (j+1)))).bind fun(e,f)=>some (e,f))
theorem Bd(e f u:Bool){M:Qj}{N:QK}{O z V:Int}{A:Qq}{X Y Z x7 x8:Int}{x9:QJ}{a6:Int×Int}(h:nQ M N O z V A X Y Z x7 x8 x9=some a6):
  Pure Tryz.prog 132 [.agg [.p e (.slice dg) M,.p f (.slice (.int .u8)) N],.i64 O,.i64 z,.i64 V,.p u (.slice Y2) A,.agg [.i64 X,.i64 Y,.u8 Z,.i64 x7,.i64 x8,.p false .flt x9]] (aM (bg false [⟨Y2,a6⟩])):=by
 refine PB Tryz.func132 (fun Bw w0=>?_);unfold nQ at h;refine G (G (G (af (G (ak (cM h (fun(B,C,a7,a1,a8,a2,v30)=>aA [(1,.i64 O),(2,.i64 z),(3,.i64 V),(4,.p u (.slice Y2) A),(6,.adr 0 0 2 0),(11,.adr 1 0 6 0),(12,.adr 2 0 2 0),(13,.adr 3 0 2 0),(14,.i64 a7),(15,.i64 a1),(16,.i64 a8),(17,.i64 a2),(18,.i64 v30)] (J0 e M f N X Y Z x7 x8 x9 0 (0:Int) B C) 4) 0 (fun(a9,aa)=>aA [(12,.adr 0 0 2 0),(13,.adr 1 0 2 0)] (Om 0 (0:Int) a9 aa) 2) (gg [] [0,8,16,32]) (fun y o h=>?_) (fun b3 h=>?_)))))))
 ·obtain⟨B,C,a7,a1,a8,a2,v30⟩:=y;unfold ff at h;refine af (G (aC h (fun b4 h=>?_) (fun b4 h=>?_)))
  ·refine ae (ab (af (ak (GC 4 h (fun h=>?_)))));obtain⟨D,b5,h⟩:=aj h;refine GP 4 (oR b5) (af (G (bm h (fun v=>aA [(1,.i64 O),(2,.i64 z),(3,.i64 V),(4,.p u (.slice Y2) A),(6,.adr 0 0 2 0),(11,.adr 1 0 6 0),(12,.adr 2 0 2 0),(13,.adr 3 0 2 0),(14,.i64 D),(15,.i64 a1),(16,.i64 v),(17,.i64 a2),(18,.i64 v30)] (J0 e M f N X Y Z x7 x8 x9 0 (0:Int) B C) 4) (fun v h=>?_) (fun v h=>?_))))
   ·refine aC h (fun b6 h=>?_) (fun b6 h=>?_)
    ·exact Ge (eN h (gg [] [0,1,2,3]))
    exact ae (eN h (gg [] [0,1,2,3]))
   refine ab (af ?_);obtain⟨c2,b7,h⟩:=aj h;refine GP 4 (oE e f b7) (bm h (fun(E,I)=>aA [(1,.i64 O),(2,.i64 z),(3,.i64 V),(4,.p u (.slice Y2) A),(6,.adr 0 0 2 0),(11,.adr 1 0 6 0),(12,.adr 2 0 2 0),(13,.adr 3 0 2 0),(14,.i64 D),(15,.i64 E),(16,.i64 v),(17,.i64 I),(18,.i64 v30)] (J0 e M f N X Y Z x7 x8 x9 0 (0:Int) B C) 4) (fun ac h=>?_) (fun ac h=>?_))
   ·refine aC h (fun b8 h=>?_) (fun b8 h=>?_)
    ·exact Ge (eN h (gg [] [0,1,2,3]))
    exact ae (eN h (gg [] [0,1,2,3]))
   obtain⟨E,I⟩:=ac;refine ab (af (G (aC h (fun b9 h=>?_) (fun b9 h=>?_))))
   ·refine aw (aR (jT rfl (aR ?_)));exact eX h (gg [] [2,3])
   refine ae (ab ?_);obtain⟨⟨ad,c3⟩,be,h⟩:=aj h;refine GP 2 (sf e f be) (GC 4 h (fun h=>af (af (bm h (fun a3=>aA [(1,.i64 O),(2,.i64 z),(3,.i64 V),(4,.p u (.slice Y2) A),(6,.adr 0 0 2 0),(11,.adr 1 0 6 0),(12,.adr 2 0 2 0),(13,.adr 3 0 2 0),(14,.i64 D),(15,.i64 E),(16,.i64 v),(17,.i64 I),(18,.i64 v30),(20,.u8 ad),(22,.adr 4 0 2 0),(86,.bo a3)] (LO e M f N X Y Z x7 x8 x9 0 (0:Int) B C ((A.getD ((i64.wrap (v30 - z)).toNat) (0,0)).1) ((A.getD ((i64.wrap (v30 - z)).toNat) (0,0)).2)) 5) (fun a3 h=>?_) (fun a3 h=>?_)))))
   ·rcases aI h with⟨j,h⟩ | ⟨j,h⟩
    ·exact bq ⟨[(2,true),(11,true)],[]⟩ [(3,6,oc j),(10,11,oc j)] (eN h (gg [] [0,1,2,3,148]))
    rcases aI h with⟨J,h⟩ | ⟨J,h⟩
    ·exact bq ⟨[(2,false),(6,true),(10,true),(11,false)],[]⟩ [(3,6,an j),(7,9,an J),(10,10,oc (And.intro j J)),(11,11,oc j)] (eN h (gg [] [0,1,2,3,148]))
    exact bq ⟨[(2,false),(6,false),(10,false),(11,false)],[]⟩ [(3,6,an j),(7,9,oc J),(10,10,oc (And.intro j J)),(11,11,oc j)] (eN h (gg [] [0,1,2,3,148]))
   refine ab (aC h (fun bi h=>?_) (fun bi h=>?_))
   ·refine aw (aR (az (ab (Ge ?_))));exact eB h (gg [] [0,1,2,3])
   refine ae (ab (G (af (G (bm h (fun a4=>aA [(1,.i64 O),(2,.i64 z),(3,.i64 V),(4,.p u (.slice Y2) A),(6,.adr 0 0 2 0),(11,.adr 1 0 6 0),(12,.adr 2 0 2 0),(13,.adr 3 0 2 0),(14,.i64 D),(15,.i64 E),(16,.i64 v),(17,.i64 I),(18,.i64 v30),(20,.u8 ad),(22,.adr 4 0 2 0),(23,.i64 a4)] (LO e M f N X Y Z x7 x8 x9 0 (0:Int) B C ((A.getD ((i64.wrap (v30 - z)).toNat) (0,0)).1) ((A.getD ((i64.wrap (v30 - z)).toNat) (0,0)).2)) 5) (fun a4 h=>?_) (fun a4 h=>?_))))))
   ·refine aC h (fun bs h=>?_) (fun bs h=>?_)
    ·exact Ge (eN h (gg [] [0,1,2,3,4]))
    exact ae (eN h (gg [] [0,1,2,3,4]))
   refine ab ?_;obtain⟨⟨bv,c4⟩,bx,h⟩:=aj h;refine GP 9 (ze e f bx) (af (bm h (fun a5=>aA [(1,.i64 O),(2,.i64 z),(3,.i64 V),(4,.p u (.slice Y2) A),(6,.adr 0 0 2 0),(11,.adr 1 0 6 0),(12,.adr 2 0 2 0),(13,.adr 3 0 2 0),(14,.i64 D),(15,.i64 E),(16,.i64 v),(17,.i64 I),(18,.i64 v30),(22,.adr 4 0 2 0),(24,.i64 bv),(119,.bo a5)] (LO e M f N X Y Z x7 x8 x9 0 (0:Int) B C ((A.getD ((i64.wrap (v30 - z)).toNat) (0,0)).1) ((A.getD ((i64.wrap (v30 - z)).toNat) (0,0)).2)) 5) (fun a5 h=>?_) (fun a5 h=>?_)))
   ·rcases aI h with⟨q,h⟩ | ⟨q,h⟩
    ·rcases aI h with⟨L,h⟩ | ⟨L,h⟩
     ·exact bq ⟨[(1,true),(5,true),(13,true),(14,true)],[]⟩ [(2,5,an q),(6,12,oc L),(13,13,oc (And.intro q L)),(14,14,oc q)] (eN h (gg [] [0,1,2,3,4]))
     exact bq ⟨[(1,true),(5,false),(13,false),(14,true)],[]⟩ [(2,5,an q),(6,12,an L),(13,13,oc (And.intro q L)),(14,14,oc q)] (eN h (gg [] [0,1,2,3,4]))
    exact bq ⟨[(1,false),(14,false)],[]⟩ [(2,5,oc q),(13,14,oc q)] (eN h (gg [] [0,1,2,3,4]))
   refine ab (bm h (fun(ax,b1)=>aA [(1,.i64 O),(2,.i64 z),(3,.i64 V),(4,.p u (.slice Y2) A),(6,.adr 0 0 2 0),(11,.adr 1 0 6 0),(12,.adr 2 0 2 0),(13,.adr 3 0 2 0),(14,.i64 D),(15,.i64 E),(16,.i64 v),(17,.i64 I),(18,.i64 v30)] (J0 e M f N X Y Z x7 x8 x9 0 (0:Int) ax b1) 4) (fun b2 h=>?_) (fun b2 h=>?_))
   ·refine aC h (fun c1 h=>?_) (fun c1 h=>?_)
    ·exact Ge (eN h (gg [] [0,1,2,3]))
    exact ae (eN h (gg [] [0,1,2,3]))
   obtain⟨ax,b1⟩:=b2;refine ay (ab (Ge ?_));exact eB h (gg [] [0,1,2,3])
  refine aw (aR ?_);exact eX h (gg [] [2,3])
 obtain⟨a9,aa⟩:=b3;refine az (ab (G (au ?_)));obtain rfl:=sI h;exact RI [Y2]
def gu(j:Qj)(u q:Int):ua→Option (ua⊕QK):=fun(e,f) =>
 (if(decide (f<u))=true then(if 0≤f∧f<(j.length:Int)then(if 0≤(i64.wrap ((e.length:Int) - 1))∧(i64.wrap ((e.length:Int) - 1))<(e.length:Int)then(if(i64.wrap ((e.length:Int) - 1)).toNat<e.length then((jP ((j.getD f.toNat (0,0,0,0)).1) ((j.getD f.toNat (0,0,0,0)).2.1) ((j.getD f.toNat (0,0,0,0)).2.2.1) ((j.getD f.toNat (0,0,0,0)).2.2.2) (e.getD ((i64.wrap ((e.length:Int) - 1)).toNat) 0) q).bind fun v =>
 (if(e.length+([v]:QK).length)*8≤140737488355328∧e.length+([v]:QK).length≤9223372036854775807 then some (Sum.inl ((e++([v]:QK)),(i64.wrap (f+1))))else none))else none)else none)else none)
 else some (Sum.inr e))
def jo(u:Qj)(v:QK)(e q f:Int):Option QK :=
 ((iter (gu u q f) (([0]:QK),e)).bind fun j=>some j)
theorem o9(v z:Bool){C:Qj}{D:QK}{e u f:Int}{A:QK}(h:jo C D e u f=some A):
  Pure Tryz.prog 79 [.agg [.p v (.slice dg) C,.p z (.slice (.int .u8)) D],.i64 e,.i64 u,.i64 f] (aM (bg false [⟨(.slice (.int .i64)),A⟩])):=by
 refine PB Tryz.func79 (fun Bw w0=>?_);unfold jo at h;refine G (G (af (G (ak (cM h (fun(j,M)=>aA [(2,.i64 u),(3,.i64 f),(4,.adr 0 0 2 0),(9,.sl 1),(10,.i64 M)] (OD v C z D j) 2) 0 (fun q=>aA [(9,.sl 0)] [(0,.arr 3 (.int .i64) q)] 1) (gg [] [0,16]) (fun y o h=>?_) (fun q h=>?_))))))
 ·obtain⟨j,M⟩:=y;unfold gu at h;refine af (G (aC h (fun N h=>?_) (fun N h=>?_)))
  ·refine ae (ab (af (ak ?_)));obtain⟨E,I,J,h⟩:=g3 h;obtain⟨V,O,h⟩:=aj h;obtain⟨L,h⟩:=aE h;have B:=(oR O);refine mu ⟨[],[(13,(oP B))]⟩ [(4,4,oc E),(10,10,oc I),(11,11,oc J),(13,13,oc B),(15,15,oc L)] (ay (ab (Ge ?_)));exact eB h (gg [] [0,146])
  refine aw (aR ?_);exact eX h (gg [] [1])
 refine az (ab (G (au ?_)));obtain rfl:=sI h;exact RI [(.slice (.int .i64))]
def oJ(v:Qj)(z:QK)(e u j q:Int):Option (Int) :=
 ((gy v z e u).bind fun A =>
 ((jo v z e A q).bind fun f =>
 (if 0≤(i64.wrap ((f.length:Int) - 1))∧(i64.wrap ((f.length:Int) - 1))<(f.length:Int)then(((if(j == 3)=true then some ((i64.wrap ((f.getD ((i64.wrap ((f.length:Int) - 1)).toNat) 0)+1)))
 else some ((f.getD ((i64.wrap ((f.length:Int) - 1)).toNat) 0)))).bind fun B=>some B)else none)))
theorem yS(q u:Bool){D:Qj}{E:QK}{e v f j z:Int}(h:oJ D E e v f j=some z):
  Pure Tryz.prog 154 [.agg [.p q (.slice dg) D,.p u (.slice (.int .u8)) E],.i64 e,.i64 v,.u8 f,.i64 j] (aM (bg false [⟨(.int .i64),z⟩])):=by
 refine PB Tryz.func154 (fun Bw w0=>?_);unfold oJ at h;refine G ?_;obtain⟨M,I,h⟩:=aj h;obtain⟨N,J,h⟩:=aj h;have A:=(oE q u I);have B:=(o9 q u J);refine GD ⟨[],[(5,(oP A)),(7,(oP B))]⟩ [(5,5,oc A),(7,7,oc B)] (GC 4 h (fun h=>af (G (bm h (fun C=>aA [(12,.i64 C)] [] 0) (fun C h=>?_) (fun C h=>?_)))))
 ·refine aC h (fun L h=>?_) (fun L h=>?_)
  ·exact Ge (eN h (gg [] []))
  exact ae (eN h (gg [] []))
 refine ab (G (au ?_));obtain rfl:=sI h;exact RI [(.int .i64)]
def jL(u:Qj)(v:QK)(e j f q:Int):Option Z2 :=
 ((oJ u v e j f q).bind fun z =>
 some (e,j,z,f))
theorem oF(q u:Bool){A:Qj}{B:QK}{e v f j:Int}{z:Int×Int×Int×Int}(h:jL A B e v f j=some z):
  Pure Tryz.prog 133 [.agg [.p q (.slice dg) A,.p u (.slice (.int .u8)) B],.i64 e,.i64 v,.u8 f,.i64 j] (aM (bg false [⟨dg,z⟩])):=by
 refine PB Tryz.func133 (fun Bw w0=>?_);unfold jL at h;refine G ?_;obtain⟨D,C,h⟩:=aj h;refine GP 7 (yS q u C) (au ?_);obtain rfl:=sI h;exact RI [dg]
def gC(v:Qj)(u:QK)(f z A B C D E:Int)(I:QJ):(Qq×Int)→Option ((Qq×Int)⊕Qq):=fun(j,e) =>
 (if(decide (e≥f))=true then(if 0≤(i64.wrap (e - f))∧(i64.wrap (e - f))<(j.length:Int)then(if(i64.wrap (e - f)).toNat<j.length then(((if(e == f)=true then some (true)
 else(if 0≤e∧e<(u.length:Int)then some (((u.getD e.toNat 0) != 0))else none))).bind fun v10=>(((if v10=true then((nQ v u e f z (j.set ((i64.wrap (e - f)).toNat) (0,(-1:Int))) A B C D E I).bind fun q =>
 (if 0≤(i64.wrap (e - f))∧(i64.wrap (e - f))<((j.set ((i64.wrap (e - f)).toNat) (0,(-1:Int))).length:Int)then(if(i64.wrap (e - f)).toNat<(j.set ((i64.wrap (e - f)).toNat) (0,(-1:Int))).length then some (((j.set ((i64.wrap (e - f)).toNat) (0,(-1:Int))).set ((i64.wrap (e - f)).toNat) (q.1,q.2)))else none)else none))
 else some ((j.set ((i64.wrap (e - f)).toNat) (0,(-1:Int)))))).bind fun v11=>some (Sum.inl (v11,(i64.wrap (e - 1))))))else none)else none)
 else some (Sum.inr j))
def gB(z:Qj)(v:QK)(q A B:Int)(u:Qq):(Qj×Int)→Option ((Qj×Int)⊕Qj):=fun(j,f) =>
 (if(decide (f<A))=true then(if 0≤(i64.wrap (f - q))∧(i64.wrap (f - q))<(u.length:Int)then(if(i64.wrap (f - q)).toNat<u.length then(if 0≤(u.getD ((i64.wrap (f - q)).toNat) (0,0)).2∧(u.getD ((i64.wrap (f - q)).toNat) (0,0)).2<(v.length:Int)then((jL z v f ((u.getD ((i64.wrap (f - q)).toNat) (0,0)).2) (v.getD (((u.getD ((i64.wrap (f - q)).toNat) (0,0)).2).toNat) 0) B).bind fun e =>
 (if(j.length+([(e.1,e.2.1,e.2.2.1,e.2.2.2)]:Qj).length)*32≤140737488355328∧j.length+([(e.1,e.2.1,e.2.2.1,e.2.2.2)]:Qj).length≤9223372036854775807 then some (Sum.inl ((j++([(e.1,e.2.1,e.2.2.1,e.2.2.2)]:Qj)),(u.getD ((i64.wrap (f - q)).toNat) (0,0)).2))else none))else none)else none)else none)
 else some (Sum.inr j))
def l4(u:Qj)(v:QK)(e f A z B C D:Int)(E:QJ):Option (Qj×Bool) :=
 (if(decide (e≥f))=true then some (([]:Qj),true)
 else(if 0≤(i64.wrap ((i64.wrap (f - e))+1))∧(i64.wrap ((i64.wrap (f - e))+1))≤(i64.wrap ((i64.wrap (f - e))+1))∧16*(i64.wrap ((i64.wrap (f - e))+1))≤281474976710656∧(i64.wrap ((i64.wrap (f - e))+1))≤9223372036854775807 then((iter (gC u v e f A z B C D E) ((List.replicate (i64.wrap ((i64.wrap (f - e))+1)).toNat (0,0)),(i64.wrap (f - 1)))).bind fun j=>(if 0≤(0:Int)∧0<(j.length:Int)then(if(0:Int).toNat<j.length then(if(decide (((j.getD ((0:Int).toNat) (0,0)).2)<0))=true then some (([]:Qj),false)
 else((iter (gB u v e f z j) (([]:Qj),e)).bind fun q=>some (q,true)))else none)else none))else none))
theorem zd(e f:Bool){v:Qj}{z:QK}{u A B C D E I:Int}{J:QJ}{L:Qj×Bool}(h:l4 v z u A B C D E I J=some L):
  Pure Tryz.prog 93 [.agg [.p e (.slice dg) v,.p f (.slice (.int .u8)) z],.i64 u,.i64 A,.agg [.i64 B,.i64 C,.u8 D,.i64 E,.i64 I,.p false .flt J]] (aM (bg false [⟨(.slice dg),L.1⟩,⟨.bool,L.2⟩])):=by
 refine PB Tryz.func93 (fun Bw w0=>?_);unfold l4 at h;refine G (af (G (aC h (fun B1 h=>?_) (fun B1 h=>?_))))
 ·refine G (au (ah ?_));obtain rfl:=sI h;exact RI [(.slice dg),.bool]
 refine ae (ab (GC 4 h (fun h=>af (G (ak (cM h (fun(X,M)=>aA [(1,.i64 u),(2,.i64 A),(4,.adr 0 0 2 0),(7,.adr 1 0 6 0),(10,.sl 2),(11,.i64 M)] (KS e v f z B C D E I J X) 3) 0 (fun Y=>aA [(1,.i64 u),(2,.i64 A),(4,.adr 0 0 2 0),(7,.adr 1 0 6 0),(10,.sl 2)] (KS e v f z B C D E I J Y) 3) (gg [] [0,8,88]) (fun y o h=>?_) (fun Y h=>?_)))))))
 ·obtain⟨X,M⟩:=y;unfold gC at h;refine af (G (aC h (fun Z h=>?_) (fun Z h=>?_)))
  ·refine ae (ab (af (ak ?_)));obtain⟨a1,a2,h⟩:=g2 h;refine GN a0 [(5,5,oc a1),(6,6,oc a2)] (af (bm h (fun v10=>aA [(1,.i64 u),(2,.i64 A),(4,.adr 0 0 2 0),(7,.adr 1 0 6 0),(10,.sl 2),(11,.i64 M),(46,.bo v10)] (KS e v f z B C D E I J (X.set ((i64.wrap (M - u)).toNat) (0,(-1:Int)))) 3) (fun v10 h=>?_) (fun v10 h=>?_)))
   ·rcases aI h with⟨j,h⟩ | ⟨j,h⟩
    ·exact bq ⟨[(3,true),(10,true)],[]⟩ [(4,10,oc j)] (eN h (gg [] [0,1,2]))
    obtain⟨a3,h⟩:=aE h;exact bq ⟨[(3,false),(10,false)],[]⟩ [(4,6,an j),(7,7,oc (And.intro j a3)),(8,9,an j),(10,10,oc j)] (eN h (gg [] [0,1,2]))
   refine ab (bm h (fun v11=>aA [(1,.i64 u),(2,.i64 A),(4,.adr 0 0 2 0),(7,.adr 1 0 6 0),(10,.sl 2),(11,.i64 M)] (KS e v f z B C D E I J v11) 3) (fun v11 h=>?_) (fun v11 h=>?_))
   ·refine aC h (fun a4 h=>?_) (fun a4 h=>?_)
    ·obtain⟨b4,a5,h⟩:=aj h;obtain⟨a6,a7,h⟩:=g2 h;have q:=(Bd e f true a5);exact bq ⟨[],[(10,(oP q))]⟩ [(10,10,oc q),(11,11,oc a6),(12,12,oc a7)] (eN h (gg [] [0,1,2]))
    exact ae (eN h (gg [] [0,1,2]))
   refine ay (ab (Ge ?_));exact eB h (gg [] [0,1,2])
  refine aw (aR ?_);exact eX h (gg [] [0,1,2])
 refine az (ab (af ?_));obtain⟨a8,a9,h⟩:=g2 h;refine GN a0 [(1,1,oc a8),(3,3,oc a9)] (aC h (fun aa h=>?_) (fun aa h=>?_))
 ·refine G (au (ah ?_));obtain rfl:=sI h;exact RI [(.slice dg),.bool]
 refine ae (ab (G (af (G (ak (cM h (fun(N,O)=>aA [(1,.i64 u),(2,.i64 A),(4,.adr 0 0 2 0),(7,.adr 1 0 6 0),(10,.sl 2),(12,.sl 3),(13,.i64 O)] (N3 e v f z B C D E I J Y N) 4) 2 (fun V=>aA [(12,.sl 0)] [(0,.arr 181 dg V)] 1) (gg [.nilS 12 67 181 dg] [0,1,2,67]) (fun y o h=>?_) (fun V h=>?_)))))))
 ·obtain⟨N,O⟩:=y;unfold gB at h;refine af (G (aC h (fun ac h=>?_) (fun ac h=>?_)))
  ·refine ae (ab (ak ?_));obtain⟨ad,ax,h⟩:=g2 h;refine GN a0 [(4,4,oc ad),(6,6,oc ax)] ?_;obtain⟨b1,h⟩:=aE h;obtain⟨b5,b2,h⟩:=aj h;obtain⟨b3,h⟩:=aE h;have q:=(oF e f b2);refine GD ⟨[],[(11,(oP q))]⟩ [(7,7,oc b1),(11,11,oc q),(13,13,oc b3)] (Ge (ay ?_));exact eB h (gg [] [0,1,2,196])
  refine aw (aR ?_);exact eX h (gg [] [3])
 refine az (ab (G (au ?_)));obtain rfl:=sI h;exact RI [(.slice dg),.bool]
def hY(f:Qj)(I:QK)(L J M:Int):(Int×Int×Int×Int×Int)→Option ((Int×Int×Int×Int×Int)⊕(Int×Int)):=fun(j,v20,v,z,e) =>
 (if(decide (e≤L))=true then(if 0≤(i64.wrap (e - 1))∧(i64.wrap (e - 1))<(f.length:Int)then((jP ((f.getD ((i64.wrap (e - 1)).toNat) (0,0,0,0)).1) ((f.getD ((i64.wrap (e - 1)).toNat) (0,0,0,0)).2.1) ((f.getD ((i64.wrap (e - 1)).toNat) (0,0,0,0)).2.2.1) ((f.getD ((i64.wrap (e - 1)).toNat) (0,0,0,0)).2.2.2) v M).bind fun u =>
 ((gy f I (i64.wrap (e - 1)) e).bind fun A =>
 (((if(A == e)=true then some (u)
 else some (z))).bind fun q=>(if(decide (q > J))=true then some (Sum.inr (j,v20))
 else((lG f I e).bind fun(B,C) =>
 (((if C=true then(if(B != 3)=true then some (true)
 else some ((decide (q<J))))
 else some (false))).bind fun D=>(((if D=true then some (e)
 else some (j))).bind fun E=>some (Sum.inl (E,e,u,q,(i64.wrap (e+1)))))))))))else none)
 else some (Sum.inr (j,v20)))
def nv(A:Qj)(j:QK)(z v E B I J L:Int)(M:QJ):Option Z2 :=
 ((iter (hY A j v E B) ((-1:Int),(i64.wrap (z+1)),0,0,(i64.wrap (z+1)))).bind fun(f,e)=>(if(decide (f≥0))=true then(if 0≤f∧f<(j.length:Int)then((jL A j z f (j.getD f.toNat 0) B).bind fun q =>
 some (q.1,q.2.1,q.2.2.1,q.2.2.2))else none)
 else(((if(e == v)=true then(if 0≤v∧v<(j.length:Int)then some ((j.getD v.toNat 0))else none)
 else some (4))).bind fun C=>(((if(decide (e<v))=true then(if 0≤e∧e<(j.length:Int)then some (((j.getD e.toNat 0) == 1))else none)
 else some (false))).bind fun v30=>(((if v30=true then some (1)
 else some (C))).bind fun D=>((jL A j z e D B).bind fun u =>
 some (u.1,u.2.1,u.2.2.1,u.2.2.2)))))))
theorem Ag(e f:Bool){B:Qj}{C:QK}{D X E I J L M:Int}{N:QJ}{a3:Int×Int×Int×Int}(h:nv B C D X E I J L M N=some a3):
  Pure Tryz.prog 134 [.agg [.p e (.slice dg) B,.p f (.slice (.int .u8)) C],.i64 D,.i64 X,.agg [.i64 E,.i64 I,.u8 J,.i64 L,.i64 M,.p false .flt N]] (aM (bg false [⟨dg,a3⟩])):=by
 refine PB Tryz.func134 (fun Bw w0=>?_);unfold nv at h;refine G (G (G (af (G (ak (cM h (fun(O,v20,a4,a5,q)=>aA [(1,.i64 D),(2,.i64 X),(4,.adr 0 0 2 0),(7,.adr 1 0 6 0),(8,.adr 2 0 4 0),(9,.i64 O),(10,.i64 v20),(11,.i64 a4),(12,.i64 a5),(13,.i64 q)] (Di e B f C E I J L M N 0 (0:Int) (0:Int) (0:Int)) 3) 0 (fun(a6,v)=>aA [(1,.i64 D),(2,.i64 X),(4,.adr 0 0 2 0),(7,.adr 1 0 6 0),(8,.adr 2 0 4 0),(9,.i64 a6),(10,.i64 v)] (Di e B f C E I J L M N 0 (0:Int) (0:Int) (0:Int)) 3) (gg [] [0,8,16]) (fun y o h=>?_) (fun a8 h=>?_)))))))
 ·obtain⟨O,v20,a4,a5,q⟩:=y;unfold hY at h;refine af (G (aC h (fun a9 h=>?_) (fun a9 h=>?_)))
  ·refine ae (ab (af (ak (GC 4 h (fun h=>af ?_)))));obtain⟨Y,aa,h⟩:=aj h;refine GP 4 (oR aa) ?_;obtain⟨be,ac,h⟩:=aj h;refine GP 4 (oE e f ac) (bm h (fun z=>aA [(1,.i64 D),(2,.i64 X),(4,.adr 0 0 2 0),(7,.adr 1 0 6 0),(8,.adr 2 0 4 0),(9,.i64 O),(10,.i64 v20),(11,.i64 Y),(12,.i64 z),(13,.i64 q)] (Di e B f C E I J L M N 0 (0:Int) (0:Int) (0:Int)) 3) (fun z h=>?_) (fun z h=>?_))
   ·refine aC h (fun ad h=>?_) (fun ad h=>?_)
    ·exact Ge (eN h (gg [] [0,1,2]))
    exact ae (eN h (gg [] [0,1,2]))
   refine ab (af (G (aC h (fun ax h=>?_) (fun ax h=>?_))))
   ·refine aw (aR (jT rfl (aR ?_)));exact eX h (gg [] [0,1,2])
   refine ae (ab (G ?_));obtain⟨⟨bi,bs⟩,b1,h⟩:=aj h;refine GP 2 (sf e f b1) (af (bm h (fun Z=>aA [(1,.i64 D),(2,.i64 X),(4,.adr 0 0 2 0),(7,.adr 1 0 6 0),(8,.adr 2 0 4 0),(9,.i64 O),(10,.i64 q),(11,.i64 Y),(12,.i64 z),(13,.i64 q),(67,.bo Z)] (Di e B f C E I J L M N 0 (0:Int) (0:Int) (0:Int)) 3) (fun Z h=>?_) (fun Z h=>?_)))
   ·rcases aI h with⟨j,h⟩ | ⟨j,h⟩
    ·rcases aI h with⟨A,h⟩ | ⟨A,h⟩
     ·exact bq ⟨[(1,true),(4,true),(9,true),(10,true)],[]⟩ [(2,4,an j),(5,8,oc A),(9,9,oc (And.intro j A)),(10,10,oc j)] (eN h (gg [] [0,1,2]))
     exact bq ⟨[(1,true),(4,false),(9,false),(10,true)],[]⟩ [(2,4,an j),(5,8,an A),(9,9,oc (And.intro j A)),(10,10,oc j)] (eN h (gg [] [0,1,2]))
    exact bq ⟨[(1,false),(10,false)],[]⟩ [(2,4,oc j),(9,10,oc j)] (eN h (gg [] [0,1,2]))
   refine ab (bm h (fun a1=>aA [(1,.i64 D),(2,.i64 X),(4,.adr 0 0 2 0),(7,.adr 1 0 6 0),(8,.adr 2 0 4 0),(9,.i64 a1),(10,.i64 q),(11,.i64 Y),(12,.i64 z),(13,.i64 q)] (Di e B f C E I J L M N 0 (0:Int) (0:Int) (0:Int)) 3) (fun a1 h=>?_) (fun a1 h=>?_))
   ·refine aC h (fun b2 h=>?_) (fun b2 h=>?_)
    ·exact Ge (eN h (gg [] [0,1,2]))
    exact ae (eN h (gg [] [0,1,2]))
   refine ay (ab (Ge ?_));exact eB h (gg [] [0,1,2])
  refine aw (aR ?_);exact eX h (gg [] [0,1,2])
 obtain⟨a6,v⟩:=a8;refine az (ab (af (G (aC h (fun b3 h=>?_) (fun b3 h=>?_)))))
 ·obtain⟨b4,h⟩:=aE h;obtain⟨bv,b5,h⟩:=aj h;have a7:=(oF e f b5);refine GD ⟨[],[(10,(oP a7))]⟩ [(6,6,oc b4),(10,10,oc a7)] (au (ah ?_));obtain rfl:=sI h;exact RI [dg]
 refine ae (ab (G (af (G (bm h (fun V=>aA [(1,.i64 D),(2,.i64 X),(4,.adr 0 0 2 0),(7,.adr 1 0 6 0),(8,.adr 2 0 4 0),(10,.i64 v),(17,.u8 V)] (Di e B f C E I J L M N 0 (0:Int) (0:Int) (0:Int)) 3) (fun V h=>?_) (fun V h=>?_))))))
 ·refine aC h (fun b6 h=>?_) (fun b6 h=>?_)
  ·refine yK 3 h (fun h=>?_);exact eN h (gg [] [0,1,2])
  exact ae (eN h (gg [] [0,1,2]))
 refine ab (af (af (bm h (fun v30=>aA [(1,.i64 D),(4,.adr 0 0 2 0),(7,.adr 1 0 6 0),(8,.adr 2 0 4 0),(10,.i64 v),(17,.u8 V),(100,.bo v30)] (Di e B f C E I J L M N 0 (0:Int) (0:Int) (0:Int)) 3) (fun v30 h=>?_) (fun v30 h=>?_))))
 ·rcases aI h with⟨u,h⟩ | ⟨u,h⟩
  ·obtain⟨b7,h⟩:=aE h;exact bq ⟨[(3,true),(10,true)],[]⟩ [(4,6,an u),(7,7,oc (And.intro u b7)),(8,9,an u),(10,10,oc u)] (eN h (gg [] [0,1,2]))
  exact bq ⟨[(3,false),(10,false)],[]⟩ [(4,10,oc u)] (eN h (gg [] [0,1,2]))
 refine ab (bm h (fun a2=>aA [(1,.i64 D),(4,.adr 0 0 2 0),(7,.adr 1 0 6 0),(8,.adr 2 0 4 0),(10,.i64 v),(17,.u8 a2)] (Di e B f C E I J L M N 0 (0:Int) (0:Int) (0:Int)) 3) (fun a2 h=>?_) (fun a2 h=>?_))
 ·refine aC h (fun b8 h=>?_) (fun b8 h=>?_)
  ·exact Ge (eN h (gg [] [0,1,2]))
  exact ae (eN h (gg [] [0,1,2]))
 refine ab ?_;obtain⟨bx,b9,h⟩:=aj h;refine GP 6 (oF e f b9) (au ?_);obtain rfl:=sI h;exact RI [dg]
def fJ(u:Qj)(v:QK)(q z A B C D:Int)(E:QJ):(Int×Qj)→Option ((Int×Qj)⊕Qj):=fun(j,e) =>
 (if(decide (j<q))=true then((nv u v j q z A B C D E).bind fun f =>
 (if(e.length+([(f.1,f.2.1,f.2.2.1,f.2.2.2)]:Qj).length)*32≤140737488355328∧e.length+([(f.1,f.2.1,f.2.2.1,f.2.2.2)]:Qj).length≤9223372036854775807 then some (Sum.inl (f.2.1,(e++([(f.1,f.2.1,f.2.2.1,f.2.2.2)]:Qj))))else none))
 else some (Sum.inr e))
def kd(q:Qj)(u:QK)(e j v z A B C:Int)(D:QJ):Option Qj :=
 ((iter (fJ q u j v z A B C D) (e,([]:Qj))).bind fun f=>some f)
theorem wX(u v:Bool){B:Qj}{C:QK}{e z D E I J L:Int}{M:QJ}{A:Qj}(h:kd B C e z D E I J L M=some A):
  Pure Tryz.prog 94 [.agg [.p u (.slice dg) B,.p v (.slice (.int .u8)) C],.i64 e,.i64 z,.agg [.i64 D,.i64 E,.u8 I,.i64 J,.i64 L,.p false .flt M]] (aM (bg false [⟨(.slice dg),A⟩])):=by
 refine PB Tryz.func94 (fun Bw w0=>?_);unfold kd at h;refine G (G (af (ak (cM h (fun(f,j)=>aA [(1,.i64 f),(2,.i64 z),(4,.adr 0 0 2 0),(7,.adr 1 0 6 0),(9,.sl 2)] (MS u B v C D E I J L M j) 3) 0 (fun q=>aA [(9,.sl 0)] [(0,.arr 181 dg q)] 1) (gg [.nilS 9 32 181 dg] [0,8,32]) (fun y o h=>?_) (fun q h=>?_)))))
 ·obtain⟨f,j⟩:=y;unfold fJ at h;refine af (G (aC h (fun N h=>?_) (fun N h=>?_)))
  ·refine ae (ab (ak ?_));obtain⟨V,O,h⟩:=aj h;refine GP 4 (Ag u v O) (GC 3 h (fun h=>Ge (ay ?_)));exact eB h (gg [] [0,1,107])
  refine aw (aR ?_);exact eX h (gg [] [2])
 refine az (ab (G (au ?_)));obtain rfl:=sI h;exact RI [(.slice dg)]
def iT(z:Qj)(A:QK)(e f B C j D E:Int)(I:QJ):Option (Qj×Bool) :=
 (((if(j == 1)=true then((l4 z A e f B C j D E I).bind fun(J,q) =>
 (if q=true then some ((Sum.inr (J,false)))
 else some ((Sum.inl ()))))
 else some ((Sum.inl ())))).bind fun(u:((Unit)⊕(Qj×Bool)))=>match u with
 | .inl _=>((kd z A e f B C j D E I).bind fun v =>
 some (v,(j == 1)))
 | .inr ((L,M))=>some (L,M))
theorem yP(j q:Bool){C:Qj}{D:QK}{f u E I J L M:Int}{N:QJ}{v:Qj×Bool}(h:iT C D f u E I J L M N=some v):
  Pure Tryz.prog 63 [.agg [.p j (.slice dg) C,.p q (.slice (.int .u8)) D],.i64 f,.i64 u,.agg [.i64 E,.i64 I,.u8 J,.i64 L,.i64 M,.p false .flt N]] (aM (bg false [⟨(.slice dg),v.1⟩,⟨.bool,v.2⟩])):=by
 refine PB Tryz.func63 (fun Bw w0=>?_);unfold iT at h;refine G (af (G (EC h (dL (o6 Tryz.f63.ntmps (fun _=>aA [(1,.i64 f),(2,.i64 u),(4,.adr 0 0 2 0),(7,.adr 1 0 6 0)] (NK j C q D E I J L M N) 2)) (gM tb Tryz.f63.results.toList (fun(V,X)=>[⟨(.slice dg),V⟩,⟨.bool,X⟩]))) (fun z h=>?_) (fun z h e σ' Y=>?_))))
 ·refine aC h (fun Z h=>?_) (fun Z h=>?_)
  ·obtain⟨⟨r9,a1⟩,q4,h⟩:=aj h;refine GP 4 (zd j q q4) (G (aC h (fun B4 h=>?_) (fun B4 h=>?_)))
   ·refine G (au ?_);obtain rfl:=sI h;exact aN (bK (RI [(.slice dg),.bool]))
   refine ae ?_;obtain rfl:=sI h;exact bn (cW (gg [] [0,8]))
  refine ae ?_;obtain rfl:=sI h;exact bn (cW (gg [] [0,8]))
 rcases z with _ | ⟨V,X⟩
 ·obtain⟨rfl,O⟩:=Y;refine cU ?_ O;refine ab ?_;obtain⟨a2,q6,h⟩:=aj h;have B:=(wX j q q6);refine GD ⟨[],[(4,(oP B))]⟩ [(4,4,oc B)] (au ?_);obtain rfl:=sI h;exact RI [(.slice dg),.bool]
 obtain⟨rfl,hr⟩:=Y;refine ah ?_;obtain rfl:=sI h;exact hr
def pX(f:Qj):Option Qj:=(if f.isEmpty=true then some []else(if(([]:Qj).length+f.length)*32≤140737488355328∧([]:Qj).length+f.length≤9223372036854775807 then some (([]:Qj)++f)else none))
theorem Bs(q:Bool){f j:Qj}(h:pX f=some j):
  gN Tryz.prog 95 [.p q (.slice dg) f] [] (.sl 0) [(0,.arr 181 dg j)]:=by
 refine OB Tryz.func95 (fun Bw w0=>?_);unfold pX at h;refine G (af (EA iB (d:=3) (e:=4) (A:=dg) (xs:=f) (el:=181) (β:=q) rfl rfl rfl rfl rfl (by kernel_rfl) (by kernel_rfl) (by kernel_rfl) (fun b hb=>?_)));cases b with
 | true =>
  obtain rfl:=hb rfl;obtain rfl:=sI h;exact m8 rfl (G (au (ah (RO [none] [.nilS 2 1000 181 dg] [1000] [(2,.sl 0)] [(0,.arr 181 dg [])] 1 0))))
 | false =>
  replace h:(if(([]:Qj).length+f.length)*32≤140737488355328∧([]:Qj).length+f.length≤9223372036854775807 then some (([]:Qj)++f)else none)=some j:=by cases f <;> simpa using h
  refine xp rfl (ae (ab (GC 2 h (fun h=>au ?_))));obtain rfl:=sI h;exact RO [none] [] [40] [(2,.sl 0)] [(0,.arr 181 dg (([]:Qj)++f))] 1 0
def gD(j:Int)(q:Qj):(Qj×Int)→Option ((Qj×Int)⊕Qj):=fun(e,f) =>
 (if(decide (f<(q.length:Int)))=true then(if 0≤f∧f<(e.length:Int)then(if f.toNat<e.length then(if 0≤f∧f<(e.length:Int)then(if f.toNat<e.length then(if 0≤f∧f<((e.set f.toNat ((i64.wrap (((e.getD f.toNat (0,0,0,0)).1)+j)),(e.getD f.toNat (0,0,0,0)).2.1,(e.getD f.toNat (0,0,0,0)).2.2.1,(e.getD f.toNat (0,0,0,0)).2.2.2)).length:Int)then(if f.toNat<(e.set f.toNat ((i64.wrap (((e.getD f.toNat (0,0,0,0)).1)+j)),(e.getD f.toNat (0,0,0,0)).2.1,(e.getD f.toNat (0,0,0,0)).2.2.1,(e.getD f.toNat (0,0,0,0)).2.2.2)).length then(if 0≤f∧f<((e.set f.toNat ((i64.wrap (((e.getD f.toNat (0,0,0,0)).1)+j)),(e.getD f.toNat (0,0,0,0)).2.1,(e.getD f.toNat (0,0,0,0)).2.2.1,(e.getD f.toNat (0,0,0,0)).2.2.2)).length:Int)then(if f.toNat<(e.set f.toNat ((i64.wrap (((e.getD f.toNat (0,0,0,0)).1)+j)),(e.getD f.toNat (0,0,0,0)).2.1,(e.getD f.toNat (0,0,0,0)).2.2.1,(e.getD f.toNat (0,0,0,0)).2.2.2)).length then some (Sum.inl (((e.set f.toNat ((i64.wrap (((e.getD f.toNat (0,0,0,0)).1)+j)),(e.getD f.toNat (0,0,0,0)).2.1,(e.getD f.toNat (0,0,0,0)).2.2.1,(e.getD f.toNat (0,0,0,0)).2.2.2)).set f.toNat (((e.set f.toNat ((i64.wrap (((e.getD f.toNat (0,0,0,0)).1)+j)),(e.getD f.toNat (0,0,0,0)).2.1,(e.getD f.toNat (0,0,0,0)).2.2.1,(e.getD f.toNat (0,0,0,0)).2.2.2)).getD f.toNat (0,0,0,0)).1,(i64.wrap ((((e.set f.toNat ((i64.wrap (((e.getD f.toNat (0,0,0,0)).1)+j)),(e.getD f.toNat (0,0,0,0)).2.1,(e.getD f.toNat (0,0,0,0)).2.2.1,(e.getD f.toNat (0,0,0,0)).2.2.2)).getD f.toNat (0,0,0,0)).2.1)+j)),((e.set f.toNat ((i64.wrap (((e.getD f.toNat (0,0,0,0)).1)+j)),(e.getD f.toNat (0,0,0,0)).2.1,(e.getD f.toNat (0,0,0,0)).2.2.1,(e.getD f.toNat (0,0,0,0)).2.2.2)).getD f.toNat (0,0,0,0)).2.2.1,((e.set f.toNat ((i64.wrap (((e.getD f.toNat (0,0,0,0)).1)+j)),(e.getD f.toNat (0,0,0,0)).2.1,(e.getD f.toNat (0,0,0,0)).2.2.1,(e.getD f.toNat (0,0,0,0)).2.2.2)).getD f.toNat (0,0,0,0)).2.2.2)),(i64.wrap (f+1))))else none)else none)else none)else none)else none)else none)else none)else none)
 else some (Sum.inr e))
def iQ(q:Qj)(f:Int):Option Qj :=
 ((pX q).bind fun j =>
 ((iter (gD f j) (j,0)).bind fun e=>some e))
theorem mW(q:Bool){L:Qj}{j:Int}{u:Qj}(h:iQ L j=some u):
  Pure Tryz.prog 64 [.p q (.slice dg) L,.i64 j] (aM (bg false [⟨(.slice dg),u⟩])):=by
 refine PB Tryz.func64 (fun Bw w0=>?_);unfold iQ at h;refine G ?_;obtain⟨N,O,h⟩:=aj h;refine GO 1 [] (Bs q O) (af (G (ak (cM h (fun(e,M)=>aA [(1,.i64 j),(5,.sl 0),(10,.i64 (N.length:Int)),(11,.i64 M)] [(0,.arr 181 dg e)] 1) 0 (fun f=>aA [(5,.sl 0)] [(0,.arr 181 dg f)] 1) (gg [] [16]) (fun y o h=>?_) (fun f h=>?_)))))
 ·obtain⟨e,M⟩:=y;unfold gD at h;refine G (af (aC h (fun V h=>?_) (fun V h=>?_)))
  ·refine ae (ab (af (ak (G ?_))));obtain⟨v,z,B,C,h⟩:=g4 h;refine GN a0 [(2,2,oc v),(4,4,oc z),(7,7,oc B),(9,9,oc C)] ?_;obtain⟨D,E,I,J,h⟩:=g4 h;refine bq a0 [(2,2,oc D),(4,4,oc E),(7,7,oc I),(9,9,oc J)] (ay (ab (Ge ?_)));exact eB h (gg [] [0])
  refine aw (aR ?_);exact eX h (gg [] [0])
 refine az (ab (G (au ?_)));obtain rfl:=sI h;exact RI [(.slice dg)]
def gz(v:Qj)(z:QK)(f:Int)(j:Qj):(QZ×Int)→Option ((QZ×Int)⊕QZ):=fun(q,e) =>
 (if(decide (e<(j.length:Int)))=true then(if 0≤e∧e<(j.length:Int)then((jo v z ((j.getD e.toNat (0,0,0,0)).1) ((j.getD e.toNat (0,0,0,0)).2.1) f).bind fun u =>
 (if(q.length+([u]:QZ).length)*24≤140737488355328∧q.length+([u]:QZ).length≤9223372036854775807 then some (Sum.inl ((q++([u]:QZ)),(i64.wrap (e+1))))else none))else none)
 else some (Sum.inr q))
def lV(f:Qj)(j:QK)(q:Qj)(e:Int):Option (Option Z6) :=
 (((if((q.length:Int) == 0)=true then some (([(0,0,0,0)]:Qj))
 else some (q))).bind fun u=>((iter (gz f j e u) (([]:QZ),0)).bind fun v=>some (some ((f,j),u,v):Option Z6)))
theorem yD{f:Qj}{j:QK}{B:Qj}{e:Int}{u:Option Z6}(h:lV f j B e=some u):
  Pure Tryz.prog 50 [.agg [.p false (.slice dg) f,.p false (.slice (.int .u8)) j],.p false (.slice dg) B,.i64 e] (aM (bg false [⟨(.ptr (.prod Br Jt)),u⟩])):=by
 refine PB Tryz.func50 (fun Bw w0=>?_);unfold lV at h;refine G (G (af (G (bm h (fun q=>aA [(2,.i64 e),(3,.adr 0 0 2 0),(7,.adr 1 0 4 0)] (Nz f j f j q) 2) (fun q h=>?_) (fun q h=>?_)))))
 ·refine aC h (fun I h=>?_) (fun I h=>?_)
  ·exact Ge (eN h (gg [.frzC 40 2] [0,40]))
  exact ae (eN h (gg [] [0,40]))
 refine ab (af (G (ak (cM h (fun(C,D)=>aA [(2,.i64 e),(3,.adr 0 0 2 0),(7,.adr 1 0 4 0),(25,.p false (.slice dg) q),(26,.i64 (q.length:Int)),(27,.i64 D)] (Ni f j f j q C) 3) 0 (fun E=>aA [(7,.adr 0 0 4 0)] (MK f j q E) 2) (gg [.nilC 1 3 50 134 (.slice (.int .i64))] [0,1,50]) (fun y o h=>?_) (fun E h=>?_)))))
 ·obtain⟨C,D⟩:=y;unfold gz at h;refine G (af (aC h (fun J h=>?_) (fun J h=>?_)))
  ·refine ae (ab (af (ak (GC 0 h (fun h=>?_)))));obtain⟨M,L,h⟩:=aj h;obtain⟨z,h⟩:=aE h;have v:=(o9 false false L);refine mu ⟨[],[(11,(oP v))]⟩ [(11,11,oc v),(13,13,oc z)] (ay (ab (Ge ?_)));exact eB h (gg [] [0,1,147])
  refine aw (aR ?_);exact eX h (gg [] [1,2])
 refine az (ab (G (kM [.frzC 0 3] (by kernel_rfl) (au ?_))));obtain rfl:=sI h;exact RI [(.ptr (.prod Br Jt))]
def eF(V X Y Z d8:Int)(d9:QJ)(v:Qj×QK)(q:QK):(Qj×Bool×(List wG)×(List (QX×Bool))×Int×Int)→Option ((Qj×Bool×(List wG)×(List (QX×Bool))×Int×Int)⊕(Qj×Bool×(List wG)×List (QX×Bool))):=fun(u,D,j,E,z,v30) =>
 (if(decide (v30<(q.length:Int)))=true then(if 0≤v30∧v30<(q.length:Int)then((pR v.1 v.2 z (q.getD v30.toNat 0)).bind fun e =>
 (((if(!((aT .str j e).isSome))=true then((iT v.1 v.2 z (q.getD v30.toNat 0) V X Y Z d8 d9).bind fun(I,B) =>
 ((iQ I (i64.wrap (0 - z))).bind fun C =>
 some (((cq .str j e (C,B)),C,B))))
 else some ((j,((aT .str j e).getD (([]:Qj),false)).1,((aT .str j e).getD (([]:Qj),false)).2)))).bind fun(J,L,M)=>((((iQ L z).bind fun f =>
 (if(u.length+f.length)*32≤140737488355328∧u.length+f.length≤9223372036854775807 then(if D=true then some (((u++f),true))
 else some (((u++f),M)))else none))).bind fun(N,O)=>some (Sum.inl (N,O,J,(cq .str E e true),(q.getD v30.toNat 0),(i64.wrap (v30+1)))))))else none)
 else some (Sum.inr (u,D,j,E)))
def cH(J:QK)(M:Qj)(N:Bool)(O:Option Z1)(V L X Y Z:Int)(d9:QJ)(u:QK)(v:Qj)(z:QK)(B:Option Z6)(o1:List wG):Option K9 :=
 ((aU O J).bind fun(e,f) =>
 (if(f != 0)=true then some (f,M,N,u,v,z,B,o1)
 else((mO e.1 e.2).bind fun C =>
 ((iter (eF V L X Y Z d9 e C) (([]:Qj),false,o1,([]:List (QX×Bool)),0,0)).bind fun(j,D,E,I)=>((lV e.1 e.2 j L).bind fun q =>
 some (0,j,D,J,e.1,e.2,q,(rK .str E I)))))))
theorem ng{Y:QK}{d1:Qj}{d2:Bool}{v:Option Z1}{z B C D E:Int}{I:QJ}{Z:QK}{a1:Qj}{a2:QK}{u:Option Z6}{o1:List wG}{j:Int×Qj×Bool×QK×Qj×QK×(Option Z6)×List wG}(h:cH Y d1 d2 v z B C D E I Z a1 a2 u o1=some j):
  gN Tryz.prog 39 [.adr 0 0 14 0,.p false (.slice (.int .u8)) Y] (jA d1 d2 v z B C D E I Z a1 a2 u o1) (.i64 j.1) (jA j.2.1 j.2.2.1 v z B C D E I j.2.2.2.1 j.2.2.2.2.1 j.2.2.2.2.2.1 j.2.2.2.2.2.2.1 j.2.2.2.2.2.2.2):=by
 refine OB Tryz.func39 (fun Bw w0=>?_);unfold cH at h;refine G ?_;obtain⟨⟨e,b5⟩,b6,h⟩:=aj h;refine GP 5 (tq false b6) (af (G (aC h (fun b7 h=>?_) (fun b7 h=>?_))))
 ·refine G (au (ah ?_));obtain rfl:=sI h;exact RO [some (.int .i64)] [] [0,1] [(4,.i64 b5)] (jA d1 d2 v z B C D E I Z a1 a2 u o1) 2 2
 refine ae (ab (GD a0 [] (G (G (af ?_)))));obtain⟨q,b8,h⟩:=aj h;refine GP 1 (xT false false b8) (ak (cM h (fun(a3,a4,a9,J,a5,v30)=>aA [(0,.adr 0 0 14 0),(5,.adr 3 0 2 0),(7,.mp 4),(8,.i64 a5),(41,.p false (.slice (.int .i64)) q),(42,.i64 (q.length:Int)),(43,.i64 v30)] (Ie a4 v z B C D E I Y e.1 e.2 u a9 a3 e.1 e.2 J) 5 2) 0 (fun(a6,a7,L,M)=>aA [(0,.adr 0 0 14 0),(5,.adr 3 0 2 0),(7,.mp 4)] (Ie a7 v z B C D E I Y e.1 e.2 u L a6 e.1 e.2 M) 5 2) (gg [.nilC 0 0 298 181 dg] [0,1,298,82,242]) (fun y o h=>?_) (fun aa h=>?_)))
 ·obtain⟨a3,a4,a9,J,a5,v30⟩:=y;unfold eF at h;refine G (af (aC h (fun b9 h=>?_) (fun b9 h=>?_)))
  ·refine ae (ab (af (ak (GC 0 h (fun h=>?_)))));obtain⟨O,be,h⟩:=aj h;refine GP 3 (CA false false be) (G (af (G (bm h (fun(a8,ac,ad)=>aA [(0,.adr 0 0 14 0),(5,.adr 3 0 2 0),(7,.mp 4),(8,.i64 a5),(10,.i64 (q.getD v30.toNat 0)),(11,.st O),(12,.adr 5 0 2 0),(41,.p false (.slice (.int .i64)) q),(42,.i64 (q.length:Int)),(43,.i64 v30)] (Nt a4 v z B C D E I Y e.1 e.2 u a8 a3 e.1 e.2 J ac ad) 6 2) (fun V h=>?_) (fun V h=>?_)))))
   ·refine aC h (fun bi h=>?_) (fun bi h=>?_)
    ·obtain⟨⟨c1,c2⟩,bs,h⟩:=aj h;have f:=(yP false false bs);refine GD ⟨[],[(7,(oP f))]⟩ [(7,7,oc f)] ?_;obtain⟨c3,bv,h⟩:=aj h;refine GP 4 (mW false bv) (mu a0 [] ?_);exact eN h (gg [] [0,1,2,3,4,149])
    exact ae (eN h (gg [] [0,1,2,3,4,149]))
   obtain⟨a8,ac,ad⟩:=V;refine ab (G (af (bm h (fun(ax,b1)=>aA [(0,.adr 0 0 14 0),(5,.adr 3 0 2 0),(7,.mp 4),(10,.i64 (q.getD v30.toNat 0)),(41,.p false (.slice (.int .i64)) q),(42,.i64 (q.length:Int)),(43,.i64 v30)] (Ie b1 v z B C D E I Y e.1 e.2 u a8 ax e.1 e.2 (cq .str J O true)) 5 2) (fun X h=>?_) (fun X h=>?_))))
   ·obtain⟨c4,b2,h⟩:=aj h;obtain⟨b3,h⟩:=aE h;rcases aI h with⟨N,h⟩ | ⟨N,h⟩
    ·have f:=(mW false b2);exact mu ⟨[(17,true),(20,true)],[(10,(oP f))]⟩ [(10,10,oc f),(11,11,oc b3),(18,20,oc N)] (eN h (gg [] [0,1,118,3,4]))
    have f:=(mW false b2);exact mu ⟨[(17,false),(20,false)],[(10,(oP f))]⟩ [(10,10,oc f),(11,11,oc b3),(18,19,an N),(20,20,oc N)] (eN h (gg [] [0,1,118,3,4]))
   obtain⟨ax,b1⟩:=X;refine ab (Ge (ay (ab (Ge ?_))));exact eB h (gg [] [0,1,2,3,4])
  refine aw (aR ?_);exact eX h (gg [] [0,1,2,3,4])
 obtain⟨a6,a7,L,M⟩:=aa;refine az (ab (af (JQ iB (idK:=1) (idU:=4) (idF:=0) (A:=JP) (kv:=L) (us:=M) (dead:=[14,118,119,120,121,122,123,124,125,126,127,128,129,130,131,132,133,134,135]) (sz:=14) (off:=13) (by kernel_rfl) (by kernel_rfl) (by kernel_rfl) (by kernel_rfl) (by kernel_rfl) (by kernel_rfl) (by kernel_rfl) (by kernel_rfl) (by decide) (by kernel_rfl) (by decide) (ab ?_))));obtain⟨b4,bx,h⟩:=aj h;have f:=(yD bx);refine GD ⟨[],[(12,(oP f [false,true]))]⟩ [(12,12,oc f)] (G (kM [.frzC 0 0] (by kernel_rfl) (au ?_)));obtain rfl:=sI h;exact RO [some (.int .i64)] [] [0,1] [(4,.i64 0)] (jA a6 a7 v z B C D E I Y e.1 e.2 b4 (rK .str L M)) 2 2
def fj(O:Option Z1)(E I J L M:Int)(N:QJ)(e:QK):Option (((Int)⊕K9)) :=
 ((dV E I J L M N).bind fun j =>
 (if(!j)=true then some (Sum.inl 40)
 else((cd e).bind fun q =>
 ((cH q ([]:Qj) false O E I J L M N ([]:QK) ([]:Qj) ([]:QK) (none:Option Z6) ([]:List wG)).bind fun(f,u,v,z,A,B,C,D) =>
 (if(f != 0)=true then some (Sum.inl f)
 else some (Sum.inr (0,u,v,z,A,B,C,D)))))))
theorem fS(q:Bool){u:Option Z1}{v z A B C:Int}{D:QJ}{e:QK}{f:((Int)⊕K9)}(h:fj u v z A B C D e=some f):
  gN Tryz.prog 13 [.p false (.ptr wb) u,.agg [.i64 v,.i64 z,.u8 A,.i64 B,.i64 C,.p false .flt D],.p q (.slice (.int .u8)) e] [] (K0 (fun(j:Int)=>(.tup [.nilp,.i64 j],[])) (fun((j,J,L,M,N,O,V,X):Int×Qj×Bool×QK×Qj×QK×(Option Z6)×List wG)=>(.tup [.adr 0 0 14 0,.i64 j],(jA J L u v z A B C D M N O V X))) f).1 (K0 (fun(j:Int)=>(.tup [.nilp,.i64 j],[])) (fun((j,J,L,M,N,O,V,X):Int×Qj×Bool×QK×Qj×QK×(Option Z6)×List wG)=>(.tup [.adr 0 0 14 0,.i64 j],(jA J L u v z A B C D M N O V X))) f).2:=by
 refine OB Tryz.func13 (fun Bw w0=>?_);unfold fj at h;refine G (G (af ?_));obtain⟨a9,q8,h⟩:=aj h;refine GP 1 (yH q8) (aC h (fun B3 h=>?_) (fun B3 h=>?_))
 ·refine G (au (ah ?_));obtain rfl:=sI h;exact RO [none,some (.int .i64)] [] [] [(6,.nilp),(7,.i64 40)] [] 0 0
 refine ae (ab (af (af (kM [.nilCp 56 0 dg,.nilCp 56 9 (.int .u8),.nilCp 56 10 dg,.nilCp 56 11 (.int .u8),.nilCq 56 12 (.prod Br Jt)] (by kernel_rfl) ?_))));obtain⟨aa,Y,h⟩:=aj h;obtain⟨⟨Z,a1,a2,a3,a4,a5,a6,a7⟩,a8,h⟩:=aj h;have E:=(ig q Y);have I:=(ng a8);refine bq ⟨[],[(2,(oP E)),(3,(oO I [56,40]))]⟩ [(2,2,oc E),(3,3,oc I)] (ab (G (aC h (fun B4 h=>?_) (fun B4 h=>?_))))
 ·refine G (au (ah ?_));obtain rfl:=sI h;exact RO [none,some (.int .i64)] [] [] [(6,.nilp),(7,.i64 Z)] [] 0 0
 refine ae (ab (G (au ?_)));obtain rfl:=sI h;exact RO [none,some (.int .i64)] [] [56,40] [(6,.adr 0 0 14 0),(7,.i64 0)] (jA a1 a2 u v z A B C D a3 a4 a5 a6 a7) 2 0
def jV(e f j:Int)(q:QK):Option (Int) :=
 (((if(decide (f<0))=true then some (true)
 else(if(decide (j<0))=true then some (true)
 else(if(decide (f > e))=true then some (true)
 else some ((decide (j > (i64.wrap (e - f))))))))).bind fun v1=>(if v1=true then some 50
 else(((if(decide ((q.length:Int) > 4096))=true then some (true)
 else some ((decide ((i64.wrap ((i64.wrap (e - j))+(q.length:Int))) > 4096))))).bind fun u=>(if u=true then some 3
 else some 0))))
theorem zb(q:Bool){z A B:Int}{C:QK}{u:Int}(h:jV z A B C=some u):
  Pure Tryz.prog 43 [.i64 z,.agg [.i64 A,.i64 B,.p q (.slice (.int .u8)) C]] (aM (bg false [⟨(.int .i64),u⟩])):=by
 refine PB Tryz.func43 (fun Bw w0=>?_);unfold jV at h;refine G (af (ak (af (bm h (fun v1=>aA [(0,.i64 z),(3,.adr 0 0 3 0),(5,.bo v1)] (MM A B q C) 1) (fun v1 h=>?_) (fun v1 h=>?_)))))
 ·rcases aI h with⟨f,h⟩ | ⟨f,h⟩
  ·exact bq ⟨[(3,true),(7,true)],[]⟩ [(4,7,oc f)] (eN h (gg [] [0]))
  rcases aI h with⟨j,h⟩ | ⟨j,h⟩
  ·exact bq ⟨[(3,false),(7,false),(8,true),(13,true)],[]⟩ [(4,6,an f),(7,7,oc f),(9,13,oc j)] (eN h (gg [] [0]))
  rcases aI h with⟨v,h⟩ | ⟨v,h⟩
  ·exact bq ⟨[(3,false),(7,false),(8,false),(13,false),(14,true),(22,true)],[]⟩ [(4,6,an f),(7,7,oc f),(9,12,an j),(13,13,oc j),(15,22,oc v)] (eN h (gg [] [0]))
  exact bq ⟨[(3,false),(7,false),(8,false),(13,false),(14,false),(22,false)],[]⟩ [(4,6,an f),(7,7,oc f),(9,12,an j),(13,13,oc j),(15,21,an v),(22,22,oc v)] (eN h (gg [] [0]))
 refine ab (aC h (fun D h=>?_) (fun D h=>?_))
 ·refine G (au (aB (ah ?_)));obtain rfl:=sI h;exact RI [(.int .i64)]
 refine af (bm h (fun E=>aA [(29,.bo E)] [] 0) (fun E h=>?_) (fun E h=>?_))
 ·rcases aI h with⟨e,h⟩ | ⟨e,h⟩
  ·exact bq ⟨[(4,true),(14,true)],[]⟩ [(5,14,oc e)] (eN h (gg [] []))
  exact bq ⟨[(4,false),(14,false)],[]⟩ [(5,13,an e),(14,14,oc e)] (eN h (gg [] []))
 refine ab (aC h (fun I h=>?_) (fun I h=>?_))
 ·refine G (au (aB (ah ?_)));obtain rfl:=sI h;exact RI [(.int .i64)]
 refine ae (ay (ab (G (au ?_))));obtain rfl:=sI h;exact RI [(.int .i64)]
def cF(e:Int):Option QK :=
 (((if(decide (e<0))=true then none
 else some (()))).bind fun _=>(((if(decide ((i64.wrap (e - (i64.wrap (0 - 0)))) > 0))=true then(if 0≤(0:Int)∧(0:Int)≤0∧(0:Int)≤0 then(if 0≤(i64.wrap (e - (i64.wrap (0 - 0))))∧(([]:QK).length+(i64.wrap (e - (i64.wrap (0 - 0)))).toNat)*1≤140737488355328∧([]:QK).length+(i64.wrap (e - (i64.wrap (0 - 0)))).toNat≤9223372036854775807 then(if 0≤(0:Int)∧0≤((List.replicate (i64.wrap (e - (i64.wrap (0 - 0)))).toNat (0:Int)).length:Int)then some (((List.replicate (i64.wrap (e - (i64.wrap (0 - 0)))).toNat (0:Int)).take (0:Int).toNat))else none)else none)else none)
 else some (([]:QK)))).bind fun f=>some f))
theorem la{j:Int}{e:QK}(h:cF j=some e):
  gN Tryz.prog 96 [.nils,.i64 j] [] (.sl 0) [(0,.arr 5 (.int .u8) e)]:=by
 refine OB Tryz.func96 (fun Bw w0=>?_);unfold cF at h;refine G (af (G (bm h (fun _=>aA [(0,.nils),(1,.i64 j)] [] 0) (fun z h=>?_) (fun z h=>?_))))
 ·refine aC h (fun A h=>?_) (fun A h=>?_)
  ·cases h
  exact ae (eN h (gg [] []))
 refine ab (af (G (G (bm h (fun f=>aA [(0,.sl 0)] [(0,.arr 5 (.int .u8) f)] 1) (fun f h=>?_) (fun f h=>?_)))))
 ·refine aC h (fun B h=>?_) (fun B h=>?_)
  ·obtain⟨q,u,v,h⟩:=g3 h;exact bq a0 [(3,3,oc q),(5,5,oc u),(8,8,oc v)] (eN h (gg [] [144]))
  exact ae (eN h (gg [.nilS 0 80 5 (.int .u8)] [80]))
 refine ab (G (au ?_));obtain rfl:=sI h;exact RO [none] [] [0] [(4,.sl 0)] [(0,.arr 5 (.int .u8) f)] 1 0
def cQ(e f j:QK):Option QK :=
 (if 0≤(0:Int)∧0<((3:Nat):Int)then(((if(decide ((i64.wrap (0+(e.length:Int)))<0))=true then none
 else some (()))).bind fun _=>(if 0≤(1:Int)∧1<((3:Nat):Int)then(((if(decide ((i64.wrap ((i64.wrap (0+(e.length:Int)))+(f.length:Int)))<0))=true then none
 else some (()))).bind fun _=>(if 0≤(2:Int)∧2<((3:Nat):Int)then(((if(decide ((i64.wrap ((i64.wrap ((i64.wrap (0+(e.length:Int)))+(f.length:Int)))+(j.length:Int)))<0))=true then none
 else some (()))).bind fun _=>((cF (i64.wrap ((i64.wrap ((i64.wrap (0+(e.length:Int)))+(f.length:Int)))+(j.length:Int)))).bind fun q =>
 (if 0≤(0:Int)∧0<((3:Nat):Int)then(if(q.length+e.length)*1≤140737488355328∧q.length+e.length≤9223372036854775807 then(if 0≤(1:Int)∧1<((3:Nat):Int)then(if((q++e).length+f.length)*1≤140737488355328∧(q++e).length+f.length≤9223372036854775807 then(if 0≤(2:Int)∧2<((3:Nat):Int)then(if(((q++e)++f).length+j.length)*1≤140737488355328∧((q++e)++f).length+j.length≤9223372036854775807 then some (((q++e)++f)++j)else none)else none)else none)else none)else none)else none)))else none))else none))else none)
theorem lX(q u v:Bool){e f j z:QK}(h:cQ e f j=some z):
  gN Tryz.prog 65 [.sl 0] (FC q e u f v j) (.p false (.slice (.int .u8)) z) []:=by
 refine OB Tryz.func65 (fun Bw w0=>?_);unfold cQ at h;refine G (G (af (G (ak (yw 9 (G (af (m8 rfl (ae (ab (af (ak (GC 0 h (fun h=>G (G (bm h (fun _=>aA [(0,.sl 0),(3,.i64 (i64.wrap (0+(e.length:Int)))),(9,.sl 0),(10,.i64 3),(11,.i64 0)] (FC q e u f v j) 1 1) (fun I h=>?_) (fun I h=>?_)))))))))))))))))
 ·refine aC h (fun B h=>?_) (fun B h=>?_)
  ·cases h
  exact ae (eN h (gg [] [0]))
 refine ay (ab (Ge (rY (G (af (m8 rfl (ae (ab (af (ak (GC 0 h (fun h=>G (G (bm h (fun _=>aA [(0,.sl 0),(3,.i64 (i64.wrap ((i64.wrap (0+(e.length:Int)))+(f.length:Int)))),(9,.sl 0),(10,.i64 3),(11,.i64 1)] (FC q e u f v j) 1 1) (fun J h=>?_) (fun J h=>?_)))))))))))))))
 ·refine aC h (fun C h=>?_) (fun C h=>?_)
  ·cases h
  exact ae (eN h (gg [] [0]))
 refine ay (ab (Ge (rY (G (af (m8 rfl (ae (ab (af (ak (GC 0 h (fun h=>G (G (bm h (fun _=>aA [(0,.sl 0),(3,.i64 (i64.wrap ((i64.wrap ((i64.wrap (0+(e.length:Int)))+(f.length:Int)))+(j.length:Int)))),(9,.sl 0),(10,.i64 3),(11,.i64 2)] (FC q e u f v j) 1 1) (fun L h=>?_) (fun L h=>?_)))))))))))))))
 ·refine aC h (fun D h=>?_) (fun D h=>?_)
  ·cases h
  exact ae (eN h (gg [] [0]))
 refine ay (ab (Ge (rY (G (af (xp rfl (aw (aR (Ov (az (ab ?_)))))))))));obtain⟨E,M,h⟩:=aj h;have A:=(la M);refine GN ⟨[],[(1,(oO A [] [] [false,true]))]⟩ [(1,1,oc A)] (af (G (ak (yw 9 (G (af (m8 rfl (ae (ab (af (ak (GC 0 h (fun h=>yK 2 h (fun h=>ay (ab (Ge (rY (G (af (m8 rfl (ae (ab (af (ak (GC 0 h (fun h=>yK 2 h (fun h=>ay (ab (Ge (rY (G (af (m8 rfl (ae (ab (af (ak (GC 0 h (fun h=>yK 2 h (fun h=>ay (ab (Ge (rY (G (af (xp rfl (aw (aR (Ov (az (ab (G (au ?_)))))))))))))))))))))))))))))))))))))))))))))))))))));obtain rfl:=sI h;exact RO [some (.slice (.int .u8))] [] [0,281] [(2,.sl 1)] [(1,.arr 5 (.int .u8) (((E++e)++f)++j))] 2 1
def kb(e:QK)(f j:Int)(q:QK):Option ua :=
 ((jV (e.length:Int) f j q).bind fun u =>
 (if(u != 0)=true then some (([]:QK),u)
 else(if 0≤(0:Int)∧0≤f∧f≤(e.length:Int)then(if 0≤(i64.wrap (f+j))∧(i64.wrap (f+j))≤(e.length:Int)∧(e.length:Int)≤(e.length:Int)then((cQ ((e.take f.toNat).drop (0:Int).toNat) q ((e.take (e.length:Int).toNat).drop (i64.wrap (f+j)).toNat)).bind fun v =>
 some (v,0))else none)else none)))
theorem wN(e f:Bool){u:QK}{v z:Int}{A:QK}{j:QK×Int}(h:kb u v z A=some j):
  Pure Tryz.prog 41 [.p e (.slice (.int .u8)) u,.agg [.i64 v,.i64 z,.p f (.slice (.int .u8)) A]] (aM (bg false [⟨(.slice (.int .u8)),j.1⟩,⟨(.int .i64),j.2⟩])):=by
 refine PB Tryz.func41 (fun Bw w0=>?_);unfold kb at h;refine G (af ?_);obtain⟨J,B,h⟩:=aj h;refine GP 3 (zb f B) (G (aC h (fun C h=>?_) (fun C h=>?_)))
 ·refine G (au (ah ?_));obtain rfl:=sI h;exact RI [(.slice (.int .u8)),(.int .i64)]
 refine ae (ab ?_);obtain⟨D,E,h⟩:=g2 h;obtain⟨L,I,h⟩:=aj h;have q:=(lX e f e I);refine GD ⟨[],[(13,⟨.unk,[],false,[],[],[],none⟩),(14,(oO q [184]))]⟩ [(3,3,oc D),(12,12,oc E),(14,14,oc q)] (au ?_);obtain rfl:=sI h;exact RI [(.slice (.int .u8)),(.int .i64)]
def bO(N O:Int)(V:QK)(L:Qj)(M:Bool)(X:Option Z1)(Y Z f6 f7 f8:Int)(f9:QJ)(e:QK)(f:Qj)(j:QK)(q:Option Z6)(o1:List wG):Option K9 :=
 ((kb e N O V).bind fun(v,u) =>
 (if(u != 0)=true then some (u,L,M,e,f,j,q,o1)
 else((cH v L M X Y Z f6 f7 f8 f9 e f j q o1).bind fun(z,A,B,C,D,E,I,J) =>
 some (z,A,B,C,D,E,I,J))))
theorem cw(z:Bool){e1 e2:Int}{e3:QK}{M:Qj}{N:Bool}{A:Option Z1}{B C D E I:Int}{J:QJ}{j:QK}{q:Qj}{u:QK}{v:Option Z6}{o1:List wG}{f:Int×Qj×Bool×QK×Qj×QK×(Option Z6)×List wG}(h:bO e1 e2 e3 M N A B C D E I J j q u v o1=some f):
  gN Tryz.prog 14 [.adr 0 0 14 0,.agg [.i64 e1,.i64 e2,.p z (.slice (.int .u8)) e3]] (jA M N A B C D E I J j q u v o1) (.i64 f.1) (jA f.2.1 f.2.2.1 A B C D E I J f.2.2.2.1 f.2.2.2.2.1 f.2.2.2.2.2.1 f.2.2.2.2.2.2.1 f.2.2.2.2.2.2.2):=by
 refine OB Tryz.func14 (fun Bw w0=>?_);unfold bO at h;refine G (af (GN a0 [(1,1,⟨∃e,Tryz.prog.underlying 49=some (.pointer e),⟨_,rfl⟩⟩)] (xp rfl (ae (ab ?_)))));obtain⟨⟨a5,O⟩,q6,h⟩:=aj h;have L:=(wN false z q6);refine GD ⟨[],[(5,(oP L))]⟩ [(5,5,oc L)] (af (G (aC h (fun B3 h=>?_) (fun B3 h=>?_))))
 ·refine G (au (ah ?_));obtain rfl:=sI h;exact RO [some (.int .i64)] [] [0,1] [(4,.i64 O)] (jA M N A B C D E I J j q u v o1) 2 2
 refine ae (ab ?_);obtain⟨⟨V,X,Y,Z,a1,a2,a3,a4⟩,q8,h⟩:=aj h;refine GO 2 [0,1] (ng q8) (au ?_);obtain rfl:=sI h;exact RO [some (.int .i64)] [] [0,1] [(4,.i64 V)] (jA X Y A B C D E I J Z a1 a2 a3 a4) 2 2
def dE(q f:Qj):(Qj×Int)→Option ((Qj×Int)⊕Qj):=fun(j,e) =>
 (if(decide (e<(f.length:Int)))=true then(if 0≤e∧e<(f.length:Int)then(if 0≤(i64.wrap (((f.getD e.toNat (0,0,0,0)).2.1) - 1))∧(i64.wrap (((f.getD e.toNat (0,0,0,0)).2.1) - 1))<(q.length:Int)then(if 0≤(f.getD e.toNat (0,0,0,0)).1∧(f.getD e.toNat (0,0,0,0)).1<(q.length:Int)then(if(j.length+([((q.getD (((f.getD e.toNat (0,0,0,0)).1).toNat) (0,0,0,0)).1,(i64.wrap (((q.getD ((i64.wrap (((f.getD e.toNat (0,0,0,0)).2.1) - 1)).toNat) (0,0,0,0)).1)+((q.getD ((i64.wrap (((f.getD e.toNat (0,0,0,0)).2.1) - 1)).toNat) (0,0,0,0)).2.1))),(f.getD e.toNat (0,0,0,0)).2.2.1,(f.getD e.toNat (0,0,0,0)).2.2.2)]:Qj).length)*32≤140737488355328∧j.length+([((q.getD (((f.getD e.toNat (0,0,0,0)).1).toNat) (0,0,0,0)).1,(i64.wrap (((q.getD ((i64.wrap (((f.getD e.toNat (0,0,0,0)).2.1) - 1)).toNat) (0,0,0,0)).1)+((q.getD ((i64.wrap (((f.getD e.toNat (0,0,0,0)).2.1) - 1)).toNat) (0,0,0,0)).2.1))),(f.getD e.toNat (0,0,0,0)).2.2.1,(f.getD e.toNat (0,0,0,0)).2.2.2)]:Qj).length≤9223372036854775807 then some (Sum.inl ((j++([((q.getD (((f.getD e.toNat (0,0,0,0)).1).toNat) (0,0,0,0)).1,(i64.wrap (((q.getD ((i64.wrap (((f.getD e.toNat (0,0,0,0)).2.1) - 1)).toNat) (0,0,0,0)).1)+((q.getD ((i64.wrap (((f.getD e.toNat (0,0,0,0)).2.1) - 1)).toNat) (0,0,0,0)).2.1))),(f.getD e.toNat (0,0,0,0)).2.2.1,(f.getD e.toNat (0,0,0,0)).2.2.2)]:Qj)),(i64.wrap (e+1))))else none)else none)else none)else none)
 else some (Sum.inr j))
def gW(j:Qj)(q:QK)(f:Qj):Option Qj :=
 (if((f.length:Int) == 0)=true then some ([(0,0,0,2)]:Qj)
 else((iter (dE j f) (([]:Qj),0)).bind fun e=>some e))
theorem yJ(j q u:Bool){A:Qj}{B:QK}{z v:Qj}(h:gW A B z=some v):
  Pure Tryz.prog 42 [.agg [.p j (.slice dg) A,.p q (.slice (.int .u8)) B],.p u (.slice dg) z] (aM (bg false [⟨(.slice dg),v⟩])):=by
 refine PB Tryz.func42 (fun Bw w0=>?_);unfold gW at h;refine G (af (G (aC h (fun I h=>?_) (fun I h=>?_))))
 ·refine G (au (ah ?_));obtain rfl:=sI h;exact RI [(.slice dg)]
 refine ae (ab (G (af (G (ak (cM h (fun(e,E)=>aA [(2,.adr 0 0 2 0),(5,.sl 1),(14,.p u (.slice dg) z),(15,.i64 (z.length:Int)),(16,.i64 E)] (MO j A q B e) 2) 0 (fun f=>aA [(5,.sl 0)] [(0,.arr 73 dg f)] 1) (gg [.nilS 5 72 73 dg] [0,72]) (fun y o h=>?_) (fun f h=>?_)))))))
 ·obtain⟨e,E⟩:=y;unfold dE at h;refine G (af (aC h (fun J h=>?_) (fun J h=>?_)))
  ·refine ae (ab (af (ak (GC 0 h (fun h=>GC 5 h (fun h=>?_))))));obtain⟨C,D,h⟩:=g2 h;refine mu a0 [(5,5,oc C),(19,19,oc D)] (ay (ab (Ge ?_)));exact eB h (gg [] [0,266])
  refine aw (aR ?_);exact eX h (gg [] [1])
 refine az (ab (G (au ?_)));obtain rfl:=sI h;exact RI [(.slice dg)]
def cT(j:Qj)(q:Bool)(A:Option Z1)(B C D E I:Int)(J:QJ)(u:QK)(e:Qj)(f:QK)(v:Option Z6)(o1:List wG):Option (Qj×Bool) :=
 ((gW e f j).bind fun z =>
 some (z,q))
theorem ir{B:Qj}{z:Bool}{C:Option Z1}{D E I J L:Int}{M:QJ}{f:QK}{j:Qj}{q:QK}{u:Option Z6}{o1:List wG}{v:Qj×Bool}(h:cT B z C D E I J L M f j q u o1=some v):
  gN Tryz.prog 17 [.adr 0 0 14 0] (jA B z C D E I J L M f j q u o1) (.agg [.p false (.slice dg) v.1,.bo v.2]) (jA B z C D E I J L M f j q u o1):=by
 refine OB Tryz.func17 (fun Bw w0=>?_);unfold cT at h;refine G (af (GN a0 [(1,1,⟨∃e,Tryz.prog.underlying 49=some (.pointer e),⟨_,rfl⟩⟩)] (xp rfl (ae (ab ?_)))));obtain⟨N,O,h⟩:=aj h;have A:=(yJ false false false O);refine GD ⟨[],[(9,(oP A))]⟩ [(9,9,oc A)] (au ?_);obtain rfl:=sI h;exact RO [some JP] [] [0,1,2] [(2,.adr 2 0 2 0)] (M0 B z C D E I J L M f j q u o1 N z) 3 2
def eJ(v:Qj)(z:Bool)(A:Option Z1)(B C D E I:Int)(J:QJ)(e:QK)(f:Qj)(j:QK)(q:Option Z6)(o1:List wG):Option QK :=
 ((cd e).bind fun u =>
 some u)
theorem eZ{z:Qj}{A:Bool}{B:Option Z1}{C D E I J:Int}{L:QJ}{f:QK}{j:Qj}{q:QK}{u:Option Z6}{o1:List wG}{v:QK}(h:eJ z A B C D E I J L f j q u o1=some v):
  gN Tryz.prog 15 [.adr 0 0 14 0] (jA z A B C D E I J L f j q u o1) (.p false (.slice (.int .u8)) v) (jA z A B C D E I J L f j q u o1):=by
 refine OB Tryz.func15 (fun Bw w0=>?_);unfold eJ at h;refine G (af (GN a0 [(1,1,⟨∃e,Tryz.prog.underlying 49=some (.pointer e),⟨_,rfl⟩⟩)] (xp rfl (ae (ab ?_)))));obtain⟨M,N,h⟩:=aj h;refine GP 4 (ig false N) (au ?_);obtain rfl:=sI h;exact RO [some (.slice (.int .u8))] [] [0,1] [(2,.p false (.slice (.int .u8)) M)] (jA z A B C D E I J L f j q u o1) 2 2
def fy  : Option (Bool) :=
 ((hH).bind fun f =>
 ((kx f.1 f.2.1 f.2.2.1 f.2.2.2.1 f.2.2.2.2.1 f.2.2.2.2.2.1 f.2.2.2.2.2.2.1 f.2.2.2.2.2.2.2.1 f.2.2.2.2.2.2.2.2).bind fun(C,r6) =>
 (if(r6.1 != 0)=true then some false
 else(if 0<([97,98,32,99,100,10,101]:QK).length then((fj C 3 (8:Int) (0:Int) (0:Int) (0:Int) (dO 0) ([97,98,32,99,100,10,101]:QK)).bind fun(z2:((Int)⊕K9))=>match z2 with
 | .inl D=>(if(D != 0)=true then some false
 else none)
 | .inr (E,j,q,u,v,z,A,B)=>(((if(E != 0)=true then some ((j,q,u,v,z,A,B,true))
 else((bO 2 (1:Int) ([]:QK) j q C 3 (8:Int) (0:Int) (0:Int) (0:Int) (dO 0) u v z A B).bind fun(I,J,L,M,N,O,V,X) =>
 some ((J,L,M,N,O,V,X,(I != 0)))))).bind fun(Z,x2,x3,x4,x5,x6,x7,v1)=>(if v1=true then some false
 else((cT Z x2 C 3 (8:Int) (0:Int) (0:Int) (0:Int) (dO 0) x3 x4 x5 x6 x7).bind fun e =>
 (((if((e.1.length:Int) == 3)=true then(if 0≤(0:Int)∧0<(e.1.length:Int)then(if((((e.1.getD ((0:Int).toNat) (0,0,0,0)).1) == 0) && ((((e.1.getD ((0:Int).toNat) (0,0,0,0)).2.1) == 3) && ((((e.1.getD ((0:Int).toNat) (0,0,0,0)).2.2.1) == 3) && (((e.1.getD ((0:Int).toNat) (0,0,0,0)).2.2.2) == 4))))=true then((eJ Z x2 C 3 (8:Int) (0:Int) (0:Int) (0:Int) (dO 0) x3 x4 x5 x6 x7).bind fun Y =>
 some (((bytesOf Y) == ([97,98,99,100,10,101]:QX))))
 else some (false))else none)
 else some (false))).bind fun v2=>some v2)))))else none))))
theorem p8{u:Bool}(h:fy=some u):
  Pure Tryz.prog 8 [] (aM (bg false [⟨.bool,u⟩])):=by
 refine PB Tryz.func8 (fun Bw w0=>?_);unfold fy at h;refine G ?_;obtain⟨r4,Z,h⟩:=aj h;obtain⟨⟨r5,r6⟩,q4,h⟩:=aj h;have e:=(qH Z);have v:=(vv false false false false q4);refine GN ⟨[],[(0,(oP e)),(1,(oP v))]⟩ [(0,0,oc e),(1,1,oc v)] (af (G (aC h (fun B1 h=>?_) (fun B1 h=>?_))))
 ·refine G (au (ah ?_));obtain rfl:=sI h;exact RI [.bool]
 refine ae (ab (af ?_));obtain⟨D,h⟩:=aE h;obtain⟨z2,E,h⟩:=aj h;rcases z2 with a1 | ⟨a2,a3,a4,a5,a6,a7,a8,a9⟩
 ·have e:=(fS false E);refine bq ⟨[],[(4,(oO e [] [false,false,true]))]⟩ [(3,3,oc D),(4,4,oc e)] (ab (af (af ?_)));rcases aI h with⟨I,h⟩ | ⟨I,h⟩
  ·refine bq ⟨[(2,true),(7,true)],[]⟩ [(3,7,oc I)] (ab (m8 rfl (G (au (ah ?_)))));obtain rfl:=sI h;exact RI [.bool]
  cases h
 have e:=(fS false E);refine bq ⟨[],[(4,(oO e [] [false,false,true]))]⟩ [(3,3,oc D),(4,4,oc e)] (ab (af (af (bm h (fun(J,L,M,N,O,V,X,v1)=>aA [(3,.adr 0 0 14 0),(29,.bo v1)] (jA J L r5 3 (8:Int) (0:Int) (0:Int) (0:Int) (dO 0) M N O V X) 2) (fun z h=>?_) (fun z h=>?_)))))
 ·rcases aI h with⟨q,h⟩ | ⟨q,h⟩
  ·exact bq ⟨[(2,true),(7,true)],[]⟩ [(3,7,oc q)] (eN h (gg [] [128,129]))
  obtain⟨⟨aa,ac,ad,ax,b1,b2,b3,b4⟩,q9,h⟩:=aj h;have e:=(cw false q9);exact bq ⟨[(2,false),(7,false)],[(5,(oO e [128,129]))]⟩ [(3,4,an q),(5,5,oc (And.intro q e)),(6,6,an q),(7,7,oc q)] (eN h (gg [] [128,129]))
 obtain⟨J,L,M,N,O,V,X,v1⟩:=z;refine ab (aC h (fun B8 h=>?_) (fun B8 h=>?_))
 ·refine G (au (ah ?_));obtain rfl:=sI h;exact RI [.bool]
 refine ae (ab ?_);obtain⟨b5,A,h⟩:=aj h;refine GO 1 [0,1] (ir A) (af (bm h (fun B=>aA [(0,.bo B)] [] 0) (fun B h=>?_) (fun B h=>?_)))
 ·rcases aI h with⟨f,h⟩ | ⟨f,h⟩
  ·obtain⟨Y,h⟩:=aE h;rcases aI h with⟨j,h⟩ | ⟨j,h⟩
   ·obtain⟨b6,C,h⟩:=aj h;have e:=(eZ C);exact bq ⟨[(4,true),(11,true),(12,true),(17,true)],[(14,(oO e [0,1]))]⟩ [(5,6,an f),(7,7,oc (And.intro f Y)),(8,9,an f),(10,10,oc (And.intro f Mj)),(11,11,oc f),(13,13,an j),(14,14,oc (And.intro j e)),(15,16,an j),(17,17,oc j)] (eN h (gg [] []))
   exact bq ⟨[(4,true),(11,true),(12,false),(17,false)],[]⟩ [(5,6,an f),(7,7,oc (And.intro f Y)),(8,9,an f),(10,10,oc (And.intro f Mj)),(11,11,oc f),(13,17,oc j)] (eN h (gg [] []))
  exact bq ⟨[(4,false),(11,false)],[]⟩ [(5,11,oc f)] (eN h (gg [] []))
 refine ab (au ?_);obtain rfl:=sI h;exact RI [.bool]
def bC(e f p3:Int)(p4:QK)(p5:List wo):Option (Int) :=
 (if ¬(6:Int)=0 then some (i64.wrap (1+(i64.wrap (Int.tmod e 6))))else none)
theorem eH(f j:Bool){q u p3:Int}{p4:QK}{p5:List wo}{e:Int}(h:bC q u p3 p4 p5=some e):
  Pure Tryz.prog 34 [.agg [.u8 q,.u8 u,.u8 p3,.p f (.slice (.int .u8)) p4,.p j (.slice (.prod (.int .u8) Hi)) p5]] (aM (bg false [⟨(.int .i64),e⟩])):=by
 refine PB Tryz.func34 (fun Bw w0=>?_);unfold bC at h;refine G (GC 2 h (fun h=>au ?_));obtain rfl:=sI h;exact RI [(.int .i64)]
def gk(j:QK)(q:Int):(XK×Int)→Option ((XK×Int)⊕XK):=fun(f,e) =>
 (((if(decide (e<(([9,10,32,45,97,98,99,233,769,8205,20013,65533,128512]:QK).length:Int)))=true then some ((decide (e<(j.length:Int))))
 else some (false))).bind fun u=>(if u=true then(if 0≤e∧e<(([9,10,32,45,97,98,99,233,769,8205,20013,65533,128512]:QK).length:Int)then(if e.toNat<([9,10,32,45,97,98,99,233,769,8205,20013,65533,128512]:QK).length then(if 0≤e∧e<(([9,10,32,45,97,98,99,233,769,8205,20013,65533,128512]:QK).length:Int)then(if e.toNat<([9,10,32,45,97,98,99,233,769,8205,20013,65533,128512]:QK).length then(if 0≤e∧e<(j.length:Int)then(if ¬q=0 then(if(f.length+([((([9,10,32,45,97,98,99,233,769,8205,20013,65533,128512]:QK).getD e.toNat 0),(([9,10,32,45,97,98,99,233,769,8205,20013,65533,128512]:QK).getD e.toNat 0),(Int.tmod (i64.wrap (j.getD e.toNat 0)) q))]:XK).length)*16≤140737488355328∧f.length+([((([9,10,32,45,97,98,99,233,769,8205,20013,65533,128512]:QK).getD e.toNat 0),(([9,10,32,45,97,98,99,233,769,8205,20013,65533,128512]:QK).getD e.toNat 0),(Int.tmod (i64.wrap (j.getD e.toNat 0)) q))]:XK).length≤9223372036854775807 then some (Sum.inl ((f++([((([9,10,32,45,97,98,99,233,769,8205,20013,65533,128512]:QK).getD e.toNat 0),(([9,10,32,45,97,98,99,233,769,8205,20013,65533,128512]:QK).getD e.toNat 0),(Int.tmod (i64.wrap (j.getD e.toNat 0)) q))]:XK)),(i64.wrap (e+1))))else none)else none)else none)else none)else none)else none)else none)
 else some (Sum.inr f)))
def dc(f:QK)(j:Int):Option XK :=
 ((iter (gk f j) (([]:XK),0)).bind fun e=>some e)
theorem gh(q:Bool){v:QK}{z:Int}{u:XK}(h:dc v z=some u):
  Pure Tryz.prog 33 [.p q (.slice (.int .u8)) v,.i64 z] (aM (bg false [⟨(.slice (.prod (.int .i32) Y1)),u⟩])):=by
 refine PB Tryz.func33 (fun Bw w0=>?_);unfold dc at h;refine G (G (G (af (G (ak (cM h (fun(e,A)=>aA [(0,.p q (.slice (.int .u8)) v),(1,.i64 z),(5,.sl 0),(6,.sl 1),(7,.i64 A)] (KV ([9,10,32,45,97,98,99,233,769,8205,20013,65533,128512]:QK) e) 2) 0 (fun j=>aA [(6,.sl 0)] [(0,.arr 106 (.prod (.int .i32) Y1) j)] 1) (gg [.nilS 6 40 106 (.prod (.int .i32) Y1)] [8,40]) (fun y o h=>?_) (fun j h=>?_)))))))
 ·obtain⟨e,A⟩:=y;unfold gk at h;refine af (af (bm h (fun B=>aA [(0,.p q (.slice (.int .u8)) v),(1,.i64 z),(5,.sl 0),(6,.sl 1),(7,.i64 A),(18,.bo B)] (KV ([9,10,32,45,97,98,99,233,769,8205,20013,65533,128512]:QK) e) 2) (fun B h=>?_) (fun B h=>?_)))
  ·rcases aI h with⟨f,h⟩ | ⟨f,h⟩
   ·exact bq ⟨[(4,true),(9,true)],[]⟩ [(5,8,an f),(9,9,oc f)] (eN h (gg [] [0,1]))
   exact bq ⟨[(4,false),(9,false)],[]⟩ [(5,9,oc f)] (eN h (gg [] [0,1]))
  refine ab (aC h (fun C h=>?_) (fun C h=>?_))
  ·refine ae (ab (af (ak ?_)));obtain⟨D,E,I,J,h⟩:=g4 h;obtain⟨L,M,N,h⟩:=g3 h;refine mu a0 [(3,3,oc D),(4,4,oc E),(7,7,oc I),(8,8,oc J),(11,11,oc L),(15,15,oc M),(18,18,oc N)] (ay (ab (Ge ?_)));exact eB h (gg [] [0,146])
  refine aw (aR ?_);exact eX h (gg [] [1])
 refine az (ab (G (au ?_)));obtain rfl:=sI h;exact RI [(.slice (.prod (.int .i32) Y1))]
def cv(e f:Int):Option QX :=
 (if ¬e=0 then some (bytesOf ([(u8.wrap (i64.wrap (65+(Int.tmod f e))))]:QK))else none)
theorem dK{f j:Int}{e:QX}(h:cv f j=some e):
  Pure Tryz.prog 59 [.i64 f,.i64 j] (aM (bg false [⟨.str,e⟩])):=by
 refine PB Tryz.func59 (fun Bw w0=>?_);unfold cv at h;refine G (GC 2 h (fun h=>au ?_));obtain rfl:=sI h;exact RI [.str]
def jG(v f:Int):Z4→Option (Z4⊕QX):=fun(e,j) =>
 (if(decide (j<v))=true then(if 0≤j then(if ¬(2:Int)=0 then(((if((Int.tmod (Int.fdiv f (2 ^ (min j.toNat u8.bits))) (2:Int)) == 1)=true then(if e.length+([32]:QX).length≤9223372036854775807 then((cv v j).bind fun q =>
 (if(e++([32]:QX)).length+q.length≤9223372036854775807 then some (((e++([32]:QX))++q))else none))else none)
 else some (e))).bind fun u=>some (Sum.inl (u,(i64.wrap (j+1)))))else none)else none)
 else some (Sum.inr e))
def bZ(j e:Int):Option QX :=
 ((iter (jG j e) (([]:QX),0)).bind fun f=>some f)
theorem dp{z e:Int}{u:QX}(h:bZ z e=some u):
  Pure Tryz.prog 58 [.i64 z,.u8 e] (aM (bg false [⟨.str,u⟩])):=by
 refine PB Tryz.func58 (fun Bw w0=>?_);unfold bZ at h;refine G (G (af (G (ak (cM h (fun(j,A)=>aA [(0,.i64 z),(1,.u8 e),(5,.st j),(6,.i64 A)] [] 0) 0 (fun q=>aA [(5,.st q)] [] 0) (gg [] []) (fun y o h=>?_) (fun q h=>?_))))))
 ·obtain⟨j,A⟩:=y;unfold jG at h;refine af (G (aC h (fun J h=>?_) (fun J h=>?_)))
  ·refine ae (ab (af (ak ?_)));obtain⟨B,C,h⟩:=g2 h;refine GN a0 [(2,2,oc B),(3,3,oc C)] (bm h (fun f=>aA [(0,.i64 z),(1,.u8 e),(5,.st f),(6,.i64 A)] [] 0) (fun f h=>?_) (fun f h=>?_))
   ·refine aC h (fun L h=>?_) (fun L h=>?_)
    ·obtain⟨D,h⟩:=aE h;obtain⟨M,E,h⟩:=aj h;obtain⟨I,h⟩:=aE h;have v:=(dK E);exact bq ⟨[],[(4,(oP v))]⟩ [(1,1,oc D),(4,4,oc v),(5,5,oc I)] (eN h (gg [] []))
    exact ae (eN h (gg [] []))
   refine ay (ab (Ge ?_));exact eB h (gg [] [])
  refine aw (aR ?_);exact eX h (gg [] [])
 refine az (ab (G (au ?_)));obtain rfl:=sI h;exact RI [.str]
def br(f:QK)(e:Int):Option (Int×Int) :=
 (if(decide (e≥(f.length:Int)))=true then some (0,e)
 else(if 0≤(i64.wrap ((i64.wrap (e+1)) - 1))∧(i64.wrap ((i64.wrap (e+1)) - 1))<(f.length:Int)then some ((i64.wrap (f.getD ((i64.wrap ((i64.wrap (e+1)) - 1)).toNat) 0)),(i64.wrap (e+1)))else none))
theorem dy{f:QK}{j:Int}{e:Int×Int}(h:br f j=some e):
  gN Tryz.prog 131 [.adr 0 0 2 0] [(0,.box [.p false (.slice (.int .u8)) f,.i64 j])] (.i64 e.1) [(0,.box [.p false (.slice (.int .u8)) f,.i64 e.2])]:=by
 refine OB Tryz.func131 (fun Bw w0=>?_);unfold br at h;refine G (af (GD a0 [] (aC h (fun q h=>?_) (fun q h=>?_))))
 ·refine G (au (ah ?_));obtain rfl:=sI h;exact RO [some (.int .i64)] [] [0] [(2,.i64 0)] [(0,.box [.p false (.slice (.int .u8)) f,.i64 j])] 1 1
 refine ae (ab (G ?_));obtain⟨u,h⟩:=aE h;refine GD a0 [(9,9,oc u)] (au ?_);obtain rfl:=sI h;exact RO [some (.int .i64)] [] [0] [(2,.i64 (i64.wrap (f.getD ((i64.wrap ((i64.wrap (j+1)) - 1)).toNat) 0)))] [(0,.box [.p false (.slice (.int .u8)) f,.i64 (i64.wrap (j+1))])] 1 1
def ep(e:Int→Int→QK→Int→Option Z4)(u B:Int)(A:QK)(i2:Int):Option Z4 :=
 ((br A i2).bind fun(f,j) =>
 (if(decide (B≤0))=true then((cv u f).bind fun Z =>
 some (Z,j))
 else(if ¬(12:Int)=0 then(if((Int.tmod f 12) == 4)=true then some (([46]:QX),j)
 else(if((Int.tmod f 12) == 5)=true then((br A j).bind fun(a1,a2) =>
 ((bZ u (u8.wrap a1)).bind fun D =>
 (if([91]:QX).length+D.length≤9223372036854775807 then(if(([91]:QX)++D).length+([93]:QX).length≤9223372036854775807 then some (((([91]:QX)++D)++([93]:QX)),a2)else none)else none)))
 else(if((Int.tmod f 12) == 6)=true then((br A j).bind fun(a3,a4) =>
 ((bZ u (u8.wrap a3)).bind fun E =>
 (if([91,94]:QX).length+E.length≤9223372036854775807 then(if(([91,94]:QX)++E).length+([93]:QX).length≤9223372036854775807 then some (((([91,94]:QX)++E)++([93]:QX)),a4)else none)else none)))
 else(if((Int.tmod f 12) == 7)=true then((e u (i64.wrap (B - 1)) A j).bind fun(I,a5) =>
 (if([40]:QX).length+I.length≤9223372036854775807 then(if(([40]:QX)++I).length+([41,42]:QX).length≤9223372036854775807 then some (((([40]:QX)++I)++([41,42]:QX)),a5)else none)else none))
 else(if((Int.tmod f 12) == 8)=true then((e u (i64.wrap (B - 1)) A j).bind fun(J,a6) =>
 (if([40]:QX).length+J.length≤9223372036854775807 then(if(([40]:QX)++J).length+([41,43]:QX).length≤9223372036854775807 then some (((([40]:QX)++J)++([41,43]:QX)),a6)else none)else none))
 else(if((Int.tmod f 12) == 9)=true then((e u (i64.wrap (B - 1)) A j).bind fun(L,M) =>
 (if([40]:QX).length+L.length≤9223372036854775807 then(if(([40]:QX)++L).length+([41,63]:QX).length≤9223372036854775807 then some (((([40]:QX)++L)++([41,63]:QX)),M)else none)else none))
 else(if((Int.tmod f 12) == 10)=true then((e u (i64.wrap (B - 1)) A j).bind fun(q,N) =>
 ((e u (i64.wrap (B - 1)) A N).bind fun(v,O) =>
 (if([40]:QX).length+q.length≤9223372036854775807 then(if(([40]:QX)++q).length+([124]:QX).length≤9223372036854775807 then(if((([40]:QX)++q)++([124]:QX)).length+v.length≤9223372036854775807 then(if(((([40]:QX)++q)++([124]:QX))++v).length+([41]:QX).length≤9223372036854775807 then some (((((([40]:QX)++q)++([124]:QX))++v)++([41]:QX)),O)else none)else none)else none)else none)))
 else(if((Int.tmod f 12) == 11)=true then((e u (i64.wrap (B - 1)) A j).bind fun(z,V) =>
 ((e u (i64.wrap (B - 1)) A V).bind fun(C,X) =>
 (if z.length+([32]:QX).length≤9223372036854775807 then(if(z++([32]:QX)).length+C.length≤9223372036854775807 then some (((z++([32]:QX))++C),X)else none)else none)))
 else((cv u f).bind fun Y =>
 some (Y,j))))))))))else none)))
def cS:Nat→Int→Int→QK→Int→Option Z4
 | 0=>fun _ _ _ _=>none
 | n+1=>ep (cS n)
theorem mv(f:Int→Int→QK→Int→Option Z4)(e:∀ {z A:Int} {j:QK} {B:Int} {q:QX×Int},f z A j B=some q→gN Tryz.prog 92 [.i64 z,.adr 0 0 2 0,.i64 A] [(0,.box [.p false (.slice (.int .u8)) j,.i64 B])] (.st q.1) [(0,.box [.p false (.slice (.int .u8)) j,.i64 q.2])]){z A:Int}{j:QK}{B:Int}{q:QX×Int}(h:ep f z A j B=some q):
  gN Tryz.prog 92 [.i64 z,.adr 0 0 2 0,.i64 A] [(0,.box [.p false (.slice (.int .u8)) j,.i64 B])] (.st q.1) [(0,.box [.p false (.slice (.int .u8)) j,.i64 q.2])]:=by
 refine OB Tryz.func92 (fun Bw w0=>?_);unfold ep at h;refine G ?_;obtain⟨⟨d7,v⟩,O,h⟩:=aj h;refine GO 1 [0] (dy O) (af (G (aC h (fun V h=>?_) (fun V h=>?_))))
 ·obtain⟨X,Y,h⟩:=aj h;refine GP 2 (dK Y) (au (ah ?_));obtain rfl:=sI h;exact RO [some .str] [] [0] [(6,.st X)] [(0,.box [.p false (.slice (.int .u8)) j,.i64 v])] 1 1
 refine ae (ab (af (GC 1 h (fun h=>ak (G (aC h (fun Z h=>?_) (fun Z h=>?_)))))))
 ·refine G (au (aB (ah ?_)));obtain rfl:=sI h;exact RO [some .str] [] [0] [(6,.st ([46]:QX))] [(0,.box [.p false (.slice (.int .u8)) j,.i64 v])] 1 1
 refine G (aC h (fun a1 h=>?_) (fun a1 h=>?_))
 ·obtain⟨⟨d8,a2⟩,a3,h⟩:=aj h;refine GO 1 [0] (dy a3) ?_;obtain⟨a4,a5,h⟩:=aj h;obtain⟨a6,a7,h⟩:=g2 h;have u:=(dp a5);refine GN ⟨[],[(3,(oP u))]⟩ [(3,3,oc u),(4,4,oc a6),(5,5,oc a7)] (au (aB (ah ?_)));obtain rfl:=sI h;exact RO [some .str] [] [0] [(6,.st ((([91]:QX)++a4)++([93]:QX)))] [(0,.box [.p false (.slice (.int .u8)) j,.i64 a2])] 1 1
 refine G (aC h (fun a8 h=>?_) (fun a8 h=>?_))
 ·obtain⟨⟨d9,a9⟩,aa,h⟩:=aj h;refine GO 1 [0] (dy aa) ?_;obtain⟨ac,ad,h⟩:=aj h;obtain⟨ax,b1,h⟩:=g2 h;have u:=(dp ad);refine GN ⟨[],[(3,(oP u))]⟩ [(3,3,oc u),(4,4,oc ax),(5,5,oc b1)] (au (aB (ah ?_)));obtain rfl:=sI h;exact RO [some .str] [] [0] [(6,.st ((([91,94]:QX)++ac)++([93]:QX)))] [(0,.box [.p false (.slice (.int .u8)) j,.i64 a9])] 1 1
 refine G (aC h (fun b2 h=>?_) (fun b2 h=>?_))
 ·obtain⟨⟨b3,b4⟩,b5,h⟩:=aj h;refine GO 4 [0] (e b5) ?_;obtain⟨b6,b7,h⟩:=g2 h;refine GN a0 [(1,1,oc b6),(2,2,oc b7)] (au (aB (ah ?_)));obtain rfl:=sI h;exact RO [some .str] [] [0] [(6,.st ((([40]:QX)++b3)++([41,42]:QX)))] [(0,.box [.p false (.slice (.int .u8)) j,.i64 b4])] 1 1
 refine G (aC h (fun b8 h=>?_) (fun b8 h=>?_))
 ·obtain⟨⟨b9,be⟩,bi,h⟩:=aj h;refine GO 4 [0] (e bi) ?_;obtain⟨bs,bv,h⟩:=g2 h;refine GN a0 [(1,1,oc bs),(2,2,oc bv)] (au (aB (ah ?_)));obtain rfl:=sI h;exact RO [some .str] [] [0] [(6,.st ((([40]:QX)++b9)++([41,43]:QX)))] [(0,.box [.p false (.slice (.int .u8)) j,.i64 be])] 1 1
 refine G (aC h (fun bx h=>?_) (fun bx h=>?_))
 ·obtain⟨⟨c1,C⟩,c2,h⟩:=aj h;refine GO 4 [0] (e c2) ?_;obtain⟨c3,c4,h⟩:=g2 h;refine GN a0 [(1,1,oc c3),(2,2,oc c4)] (au (aB (ah ?_)));obtain rfl:=sI h;exact RO [some .str] [] [0] [(6,.st ((([40]:QX)++c1)++([41,63]:QX)))] [(0,.box [.p false (.slice (.int .u8)) j,.i64 C])] 1 1
 refine G (aC h (fun c5 h=>?_) (fun c5 h=>?_))
 ·obtain⟨⟨D,d5⟩,c6,h⟩:=aj h;refine GO 4 [0] (e c6) ?_;obtain⟨⟨E,I⟩,c7,h⟩:=aj h;refine GO 4 [0] (e c7) ?_;obtain⟨c8,c9,cc,ch,h⟩:=g4 h;refine GN a0 [(1,1,oc c8),(2,2,oc c9),(4,4,oc cc),(5,5,oc ch)] (au (aB (ah ?_)));obtain rfl:=sI h;exact RO [some .str] [] [0] [(6,.st ((((([40]:QX)++D)++([124]:QX))++E)++([41]:QX)))] [(0,.box [.p false (.slice (.int .u8)) j,.i64 I])] 1 1
 refine G (aC h (fun cp h=>?_) (fun cp h=>?_))
 ·obtain⟨⟨J,d6⟩,cs,h⟩:=aj h;refine GO 4 [0] (e cs) ?_;obtain⟨⟨L,M⟩,cx,h⟩:=aj h;refine GO 4 [0] (e cx) ?_;obtain⟨d2,d3,h⟩:=g2 h;refine GN a0 [(1,1,oc d2),(3,3,oc d3)] (au (aB (ah ?_)));obtain rfl:=sI h;exact RO [some .str] [] [0] [(6,.st ((J++([32]:QX))++L))] [(0,.box [.p false (.slice (.int .u8)) j,.i64 M])] 1 1
 refine ae (ay (ab ?_));obtain⟨N,d4,h⟩:=aj h;refine GP 2 (dK d4) (au ?_);obtain rfl:=sI h;exact RO [some .str] [] [0] [(6,.st N)] [(0,.box [.p false (.slice (.int .u8)) j,.i64 v])] 1 1
theorem jd:∀(n:Nat) {j q:Int} {f:QK} {u:Int} {e:QX×Int},cS n j q f u=some e→gN Tryz.prog 92 [.i64 j,.adr 0 0 2 0,.i64 q] [(0,.box [.p false (.slice (.int .u8)) f,.i64 u])] (.st e.1) [(0,.box [.p false (.slice (.int .u8)) f,.i64 e.2])]
 | 0,_,_,_,_,_,h=>by cases h
 | n+1,j,q,f,u,e,h=>mv (cS n) (jd n)  h
def fq(f:Int)(e:QK):Option QX :=
 (if((e.length:Int) == 0)=true then some ([]:QX)
 else(if 0≤(0:Int)∧0≤(min (e.length:Int) (30:Int))∧(min (e.length:Int) (30:Int))≤(e.length:Int)then((cS 1000 f 3 ((e.take (min (e.length:Int) (30:Int)).toNat).drop (0:Int).toNat) 0).bind fun(j,q) =>
 some j)else none))
theorem ke{j:Int}{q:QK}{e:QX}(h:fq j q=some e):
  Pure Tryz.prog 60 [.i64 j,.p false (.slice (.int .u8)) q] (aM (bg false [⟨.str,e⟩])):=by
 refine PB Tryz.func60 (fun Bw w0=>?_);unfold fq at h;refine G (af (G (aC h (fun u h=>?_) (fun u h=>?_))))
 ·refine G (au (ah ?_));obtain rfl:=sI h;exact RI [.str]
 refine ae (ab ?_);obtain⟨v,h⟩:=aE h;obtain⟨⟨A,B⟩,z,h⟩:=aj h;have f:=(jd 1000 z);refine GN ⟨[],[(8,(oO f [88]))]⟩ [(5,5,oc v),(8,8,oc f)] (au ?_);obtain rfl:=sI h;exact RI [.str]
def kh(q:QK)(u:Int):Z4→Option (Z4⊕QX):=fun(v6,f) =>
 (((if(decide (f<(q.length:Int)))=true then some ((decide (f<u)))
 else some (false))).bind fun v=>(if v=true then(if v6.length+([116,114,101,97,116,32]:QX).length≤9223372036854775807 then((cv u f).bind fun e =>
 (if(v6++([116,114,101,97,116,32]:QX)).length+e.length≤9223372036854775807 then(if((v6++([116,114,101,97,116,32]:QX))++e).length+([32,61,32]:QX).length≤9223372036854775807 then(if 0≤f∧f<(q.length:Int)then((cv u (i64.wrap (q.getD f.toNat 0))).bind fun j =>
 (if(((v6++([116,114,101,97,116,32]:QX))++e)++([32,61,32]:QX)).length+j.length≤9223372036854775807 then(if((((v6++([116,114,101,97,116,32]:QX))++e)++([32,61,32]:QX))++j).length+([59,10]:QX).length≤9223372036854775807 then some (Sum.inl ((((((v6++([116,114,101,97,116,32]:QX))++e)++([32,61,32]:QX))++j)++([59,10]:QX)),(i64.wrap (f+1))))else none)else none))else none)else none)else none))else none)
 else some (Sum.inr v6)))
def j9(f:List wo)(z:Int):Z4→Option (Z4⊕QX):=fun(j,e) =>
 (((if(decide (e<(f.length:Int)))=true then some ((decide (e<10)))
 else some (false))).bind fun v=>(if v=true then(if 0≤e∧e<(f.length:Int)then(if ¬(3:Int)=0 then(if 0≤(Int.tmod ((f.getD e.toNat (0,[],([]:QK))).1) (3:Int))∧(Int.tmod ((f.getD e.toNat (0,[],([]:QK))).1) (3:Int))<(([([107,101,101,112,32]:QX),([109,97,121,32]:QX),([109,117,115,116,32]:QX)]:QQ).length:Int)then(if(Int.tmod ((f.getD e.toNat (0,[],([]:QK))).1) (3:Int)).toNat<([([107,101,101,112,32]:QX),([109,97,121,32]:QX),([109,117,115,116,32]:QX)]:QQ).length then(if j.length+(([([107,101,101,112,32]:QX),([109,97,121,32]:QX),([109,117,115,116,32]:QX)]:QQ).getD ((Int.tmod ((f.getD e.toNat (0,[],([]:QK))).1) (3:Int)).toNat) ([]:QX)).length≤9223372036854775807 then(if 0≤e∧e<(f.length:Int)then((fq z ((f.getD e.toNat (0,[],([]:QK))).2.1)).bind fun q =>
 (if(j++(([([107,101,101,112,32]:QX),([109,97,121,32]:QX),([109,117,115,116,32]:QX)]:QQ).getD ((Int.tmod ((f.getD e.toNat (0,[],([]:QK))).1) (3:Int)).toNat) ([]:QX))).length+q.length≤9223372036854775807 then(if((j++(([([107,101,101,112,32]:QX),([109,97,121,32]:QX),([109,117,115,116,32]:QX)]:QQ).getD ((Int.tmod ((f.getD e.toNat (0,[],([]:QK))).1) (3:Int)).toNat) ([]:QX)))++q).length+([32,47,32]:QX).length≤9223372036854775807 then(if 0≤e∧e<(f.length:Int)then((fq z ((f.getD e.toNat (0,[],([]:QK))).2.2)).bind fun u =>
 (if(((j++(([([107,101,101,112,32]:QX),([109,97,121,32]:QX),([109,117,115,116,32]:QX)]:QQ).getD ((Int.tmod ((f.getD e.toNat (0,[],([]:QK))).1) (3:Int)).toNat) ([]:QX)))++q)++([32,47,32]:QX)).length+u.length≤9223372036854775807 then(if((((j++(([([107,101,101,112,32]:QX),([109,97,121,32]:QX),([109,117,115,116,32]:QX)]:QQ).getD ((Int.tmod ((f.getD e.toNat (0,[],([]:QK))).1) (3:Int)).toNat) ([]:QX)))++q)++([32,47,32]:QX))++u).length+([59,10]:QX).length≤9223372036854775807 then some (Sum.inl ((((((j++(([([107,101,101,112,32]:QX),([109,97,121,32]:QX),([109,117,115,116,32]:QX)]:QQ).getD ((Int.tmod ((f.getD e.toNat (0,[],([]:QK))).1) (3:Int)).toNat) ([]:QX)))++q)++([32,47,32]:QX))++u)++([59,10]:QX)),(i64.wrap (e+1))))else none)else none))else none)else none)else none))else none)else none)else none)else none)else none)else none)
 else some (Sum.inr j)))
def fh(C u z:Int)(A:QK)(B:List wo):Option QX :=
 ((bC C u z A B).bind fun q =>
 ((bZ q 255).bind fun f =>
 (if([99,108,97,115,115]:QX).length+f.length≤9223372036854775807 then(if(([99,108,97,115,115]:QX)++f).length+([59,10]:QX).length≤9223372036854775807 then(((if(u != 0)=true then(if((([99,108,97,115,115]:QX)++f)++([59,10]:QX)).length+([106,111,105,110]:QX).length≤9223372036854775807 then((bZ q u).bind fun e =>
 (if(((([99,108,97,115,115]:QX)++f)++([59,10]:QX))++([106,111,105,110]:QX)).length+e.length≤9223372036854775807 then(if((((([99,108,97,115,115]:QX)++f)++([59,10]:QX))++([106,111,105,110]:QX))++e).length+([32,47]:QX).length≤9223372036854775807 then((bZ q z).bind fun j =>
 (if(((((([99,108,97,115,115]:QX)++f)++([59,10]:QX))++([106,111,105,110]:QX))++e)++([32,47]:QX)).length+j.length≤9223372036854775807 then(if((((((([99,108,97,115,115]:QX)++f)++([59,10]:QX))++([106,111,105,110]:QX))++e)++([32,47]:QX))++j).length+([59,10]:QX).length≤9223372036854775807 then some ((((((((([99,108,97,115,115]:QX)++f)++([59,10]:QX))++([106,111,105,110]:QX))++e)++([32,47]:QX))++j)++([59,10]:QX)))else none)else none))else none)else none))else none)
 else some (((([99,108,97,115,115]:QX)++f)++([59,10]:QX))))).bind fun v1=>((iter (kh A q) (v1,0)).bind fun D=>((iter (j9 B q) (D,0)).bind fun v=>some v)))else none)else none)))
theorem j6(f:Bool){v z A:Int}{B:QK}{C:List wo}{L:QX}(h:fh v z A B C=some L):
  Pure Tryz.prog 35 [.agg [.u8 v,.u8 z,.u8 A,.p f (.slice (.int .u8)) B,.p false (.slice (.prod (.int .u8) Hi)) C]] (aM (bg false [⟨.str,L⟩])):=by
 refine PB Tryz.func35 (fun Bw w0=>?_);unfold fh at h;refine G ?_;obtain⟨J,q2,h⟩:=aj h;refine GP 1 (eH f false q2) ?_;obtain⟨r4,q4,h⟩:=aj h;obtain⟨c3,c4,h⟩:=g2 h;have e:=(dp q4);refine GN ⟨[],[(1,(oP e))]⟩ [(1,1,oc e),(2,2,oc c3),(3,3,oc c4)] (af (G (bm h (fun v1=>aA [(1,.adr 0 0 5 0),(3,.i64 J),(4,.st v1)] (FK v z A f B C) 1) (fun v1 h=>?_) (fun v1 h=>?_))))
 ·refine aC h (fun B2 h=>?_) (fun B2 h=>?_)
  ·obtain⟨a6,h⟩:=aE h;obtain⟨bs,a7,h⟩:=aj h;obtain⟨a8,a9,h⟩:=g2 h;obtain⟨bv,aa,h⟩:=aj h;obtain⟨ac,ad,h⟩:=g2 h;have e:=(dp a7);have j:=(dp aa);exact mu ⟨[],[(5,(oP e)),(11,(oP j))]⟩ [(1,1,oc a6),(5,5,oc e),(6,6,oc a8),(7,7,oc a9),(11,11,oc j),(12,12,oc ac),(13,13,oc ad)] (eN h (gg [] [0]))
  exact ae (eN h (gg [] [0]))
 refine ab (af (G (ak (cM h (fun(v6,v7)=>aA [(1,.adr 0 0 5 0),(3,.i64 J),(4,.st v6),(5,.i64 v7)] (FK v z A f B C) 1) 0 (fun v8=>aA [(1,.adr 0 0 5 0),(3,.i64 J),(4,.st v8)] (FK v z A f B C) 1) (gg [] [0]) (fun y o h=>?_) (fun v8 h=>?_)))))
 ·obtain⟨v6,v7⟩:=y;unfold kh at h;refine af (af (bm h (fun v9=>aA [(1,.adr 0 0 5 0),(3,.i64 J),(4,.st v6),(5,.i64 v7),(40,.bo v9)] (FK v z A f B C) 1) (fun v9 h=>?_) (fun v9 h=>?_)))
  ·rcases aI h with⟨q,h⟩ | ⟨q,h⟩
   ·exact bq ⟨[(5,true),(9,true)],[]⟩ [(6,8,an q),(9,9,oc q)] (eN h (gg [] [0]))
   exact bq ⟨[(5,false),(9,false)],[]⟩ [(6,9,oc q)] (eN h (gg [] [0]))
  refine ab (aC h (fun ax h=>?_) (fun ax h=>?_))
  ·refine ae (ab (af (ak ?_)));obtain⟨b1,h⟩:=aE h;obtain⟨bx,b2,h⟩:=aj h;obtain⟨b3,b4,b5,h⟩:=g3 h;obtain⟨c1,b6,h⟩:=aj h;obtain⟨b7,b8,h⟩:=g2 h;have e:=(dK b2);have j:=(dK b6);refine mu ⟨[],[(4,(oP e)),(14,(oP j))]⟩ [(1,1,oc b1),(4,4,oc e),(5,5,oc b3),(6,6,oc b4),(11,11,oc b5),(14,14,oc j),(15,15,oc b7),(16,16,oc b8)] (ay (ab (Ge ?_)));exact eB h (gg [] [0])
  refine aw (aR ?_);exact eX h (gg [] [0])
 refine az (ab (G (af (G (ak (cM h (fun(D,E)=>aA [(1,.adr 0 0 5 0),(3,.i64 J),(4,.st D),(6,.sl 1),(7,.i64 E)] (Lc v z A f B C ([([107,101,101,112,32]:QX),([109,97,121,32]:QX),([109,117,115,116,32]:QX)]:QQ)) 2) 2 (fun M=>aA [(4,.st M)] [] 0) (gg [] [0,1]) (fun y o h=>?_) (fun M h=>?_)))))))
 ·obtain⟨D,E⟩:=y;unfold j9 at h;refine af (af (bm h (fun I=>aA [(1,.adr 0 0 5 0),(3,.i64 J),(4,.st D),(6,.sl 1),(7,.i64 E),(69,.bo I)] (Lc v z A f B C ([([107,101,101,112,32]:QX),([109,97,121,32]:QX),([109,117,115,116,32]:QX)]:QQ)) 2) (fun I h=>?_) (fun I h=>?_)))
  ·rcases aI h with⟨u,h⟩ | ⟨u,h⟩
   ·exact bq ⟨[(5,true),(8,true)],[]⟩ [(6,7,an u),(8,8,oc u)] (eN h (gg [] [0,1]))
   exact bq ⟨[(5,false),(8,false)],[]⟩ [(6,8,oc u)] (eN h (gg [] [0,1]))
  refine ab (aC h (fun b9 h=>?_) (fun b9 h=>?_))
  ·refine ae (ab (af (ak ?_)));obtain⟨N,O,V,X,h⟩:=g4 h;obtain⟨Y,Z,h⟩:=g2 h;obtain⟨c2,be,h⟩:=aj h;obtain⟨a1,a2,a3,h⟩:=g3 h;obtain⟨c5,bi,h⟩:=aj h;obtain⟨a4,a5,h⟩:=g2 h;have e:=(ke be);have j:=(ke bi);refine mu ⟨[],[(19,(oP e)),(29,(oP j))]⟩ [(5,5,oc N),(8,8,oc O),(9,9,oc V),(10,10,oc X),(11,11,oc Y),(16,16,oc Z),(19,19,oc e),(20,20,oc a1),(21,21,oc a2),(26,26,oc a3),(29,29,oc j),(30,30,oc a4),(31,31,oc a5)] (ay (ab (Ge ?_)));exact eB h (gg [] [0,1])
  refine aw (aR ?_);exact eX h (gg [] [])
 refine az (ab (G (au ?_)));obtain rfl:=sI h;exact RI [.str]
def fO(j:QK):Z4→Option (Z4⊕QX):=fun(e,f) =>
 (((if(decide (f<(j.length:Int)))=true then some ((decide (f<60)))
 else some (false))).bind fun q=>(if q=true then(if 0≤f∧f<(j.length:Int)then(if ¬(15:Int)=0 then(if 0≤(Int.tmod (i64.wrap (j.getD f.toNat 0)) (15:Int))∧(Int.tmod (i64.wrap (j.getD f.toNat 0)) (15:Int))<(([([97]:QX),([98]:QX),([99]:QX),([49]:QX),([50]:QX),([51]:QX),([32]:QX),([32]:QX),([97,49,98,32]:QX),([98,49,99,32]:QX),([50,99,32]:QX),([46,97,49]:QX),([99,46]:QX),([97,98,45,99,32]:QX),([99,97,45,98,45,97,32]:QX)]:QQ).length:Int)then(if(Int.tmod (i64.wrap (j.getD f.toNat 0)) (15:Int)).toNat<([([97]:QX),([98]:QX),([99]:QX),([49]:QX),([50]:QX),([51]:QX),([32]:QX),([32]:QX),([97,49,98,32]:QX),([98,49,99,32]:QX),([50,99,32]:QX),([46,97,49]:QX),([99,46]:QX),([97,98,45,99,32]:QX),([99,97,45,98,45,97,32]:QX)]:QQ).length then(if e.length+(([([97]:QX),([98]:QX),([99]:QX),([49]:QX),([50]:QX),([51]:QX),([32]:QX),([32]:QX),([97,49,98,32]:QX),([98,49,99,32]:QX),([50,99,32]:QX),([46,97,49]:QX),([99,46]:QX),([97,98,45,99,32]:QX),([99,97,45,98,45,97,32]:QX)]:QQ).getD ((Int.tmod (i64.wrap (j.getD f.toNat 0)) (15:Int)).toNat) []).length≤9223372036854775807 then some (Sum.inl ((e++(([([97]:QX),([98]:QX),([99]:QX),([49]:QX),([50]:QX),([51]:QX),([32]:QX),([32]:QX),([97,49,98,32]:QX),([98,49,99,32]:QX),([50,99,32]:QX),([46,97,49]:QX),([99,46]:QX),([97,98,45,99,32]:QX),([99,97,45,98,45,97,32]:QX)]:QQ).getD ((Int.tmod (i64.wrap (j.getD f.toNat 0)) (15:Int)).toNat) [])),(i64.wrap (f+1))))else none)else none)else none)else none)else none)
 else some (Sum.inr e)))
def fc(f:QK):Option QX :=
 ((iter (fO f) (([]:QX),0)).bind fun e=>some e)
theorem nP(q:Bool){v:QK}{u:QX}(h:fc v=some u):
  Pure Tryz.prog 36 [.p q (.slice (.int .u8)) v] (aM (bg false [⟨.str,u⟩])):=by
 refine PB Tryz.func36 (fun Bw w0=>?_);unfold fc at h;refine G (G (G (af (G (ak (cM h (fun(e,z)=>aA [(0,.p q (.slice (.int .u8)) v),(3,.sl 0),(4,.st e),(5,.i64 z)] [(0,.arr 9 .str ([([97]:QX),([98]:QX),([99]:QX),([49]:QX),([50]:QX),([51]:QX),([32]:QX),([32]:QX),([97,49,98,32]:QX),([98,49,99,32]:QX),([50,99,32]:QX),([46,97,49]:QX),([99,46]:QX),([97,98,45,99,32]:QX),([99,97,45,98,45,97,32]:QX)]:QQ))] 1) 0 (fun j=>aA [(4,.st j)] [] 0) (gg [] [8]) (fun y o h=>?_) (fun j h=>?_)))))))
 ·obtain⟨e,z⟩:=y;unfold fO at h;refine af (af (bm h (fun A=>aA [(0,.p q (.slice (.int .u8)) v),(3,.sl 0),(4,.st e),(5,.i64 z),(14,.bo A)] [(0,.arr 9 .str ([([97]:QX),([98]:QX),([99]:QX),([49]:QX),([50]:QX),([51]:QX),([32]:QX),([32]:QX),([97,49,98,32]:QX),([98,49,99,32]:QX),([50,99,32]:QX),([46,97,49]:QX),([99,46]:QX),([97,98,45,99,32]:QX),([99,97,45,98,45,97,32]:QX)]:QQ))] 1) (fun A h=>?_) (fun A h=>?_)))
  ·rcases aI h with⟨f,h⟩ | ⟨f,h⟩
   ·exact bq ⟨[(4,true),(7,true)],[]⟩ [(5,6,an f),(7,7,oc f)] (eN h (gg [] [0]))
   exact bq ⟨[(4,false),(7,false)],[]⟩ [(5,7,oc f)] (eN h (gg [] [0]))
  refine ab (aC h (fun B h=>?_) (fun B h=>?_))
  ·refine ae (ab (af (ak ?_)));obtain⟨C,D,E,I,h⟩:=g4 h;obtain⟨J,h⟩:=aE h;refine bq a0 [(4,4,oc C),(7,7,oc D),(8,8,oc E),(9,9,oc I),(10,10,oc J)] (ay (ab (Ge ?_)));exact eB h (gg [] [0])
  refine aw (aR ?_);exact eX h (gg [] [])
 refine az (ab (G (au ?_)));obtain rfl:=sI h;exact RI [.str]
def dQ(L M N:Int)(O:QK)(V:List wo)(X Y Z:Int)(b9:QK)(e:List wo)(f j q u:QK)(v z:Int):Option (XK×XK×XK×XK×QX×QX×QX×Int×Int) :=
 ((bC L M N O V).bind fun r9 =>
 ((dc f r9).bind fun A =>
 ((bC X Y Z b9 e).bind fun B =>
 ((dc j B).bind fun C =>
 ((dc q 3).bind fun D =>
 ((fh L M N O V).bind fun E =>
 ((fh X Y Z b9 e).bind fun I =>
 ((fc u).bind fun J =>
 (if ¬(3:Int)=0 then(if ¬(3:Int)=0 then some (A,C,D,([(65,90,97),(97,122,97),(233,233,101)]:XK),E,I,J,(i64.wrap (1+(i64.wrap (Int.tmod v 3)))),(i64.wrap (1+(i64.wrap (Int.tmod z 3)))))else none)else none)))))))))
theorem pP(u v e f j q:Bool){b1 b2 b3:Int}{b4:QK}{b5:List wo}{b6 b7 b8:Int}{b9:QK}{z:List wo}{A B C D:QK}{E I:Int}{J:XK×XK×XK×XK×QX×QX×QX×Int×Int}(h:dQ b1 b2 b3 b4 b5 b6 b7 b8 b9 z A B C D E I=some J):
  Pure Tryz.prog 10 [.agg [.u8 b1,.u8 b2,.u8 b3,.p u (.slice (.int .u8)) b4,.p false (.slice (.prod (.int .u8) Hi)) b5,.u8 b6,.u8 b7,.u8 b8,.p v (.slice (.int .u8)) b9,.p false (.slice (.prod (.int .u8) Hi)) z,.p e (.slice (.int .u8)) A,.p f (.slice (.int .u8)) B,.p j (.slice (.int .u8)) C,.p q (.slice (.int .u8)) D,.u8 E,.u8 I]] (aM (bg false [⟨Y7,J⟩])):=by
 refine PB Tryz.func10 (fun Bw w0=>?_);unfold dQ at h;refine G ?_;obtain⟨r9,q9,h⟩:=aj h;obtain⟨a8,a1,h⟩:=aj h;obtain⟨a9,a2,h⟩:=aj h;obtain⟨aa,a3,h⟩:=aj h;obtain⟨ac,a4,h⟩:=aj h;obtain⟨ad,a5,h⟩:=aj h;obtain⟨ax,a6,h⟩:=aj h;obtain⟨be,a7,h⟩:=aj h;obtain⟨c3,c4,h⟩:=g2 h;have L:=(eH u false q9);have M:=(gh e a1);have N:=(eH v false a2);have O:=(gh f a3);have V:=(gh j a4);have X:=(j6 u a5);have Y:=(j6 v a6);have Z:=(nP q a7);refine GD ⟨[],[(4,(oP L)),(5,(oP M)),(10,(oP N)),(11,(oP O)),(14,(oP V)),(21,(oP X)),(24,(oP Y)),(27,(oP Z))]⟩ [(4,4,oc L),(5,5,oc M),(10,10,oc N),(11,11,oc O),(14,14,oc V),(21,21,oc X),(24,24,oc Y),(27,27,oc Z),(30,30,oc c3),(35,35,oc c4)] (kM [.frzC 8 3] (by kernel_rfl) (au ?_));obtain rfl:=sI h;exact RI [Y7]
def fX  : Option QQ :=
 some ([([9]:QX),([10]:QX),([32]:QX),([45]:QX),([97]:QX),([98]:QX),([99]:QX),([195,169]:QX),([204,129]:QX),([226,128,141]:QX),([228,184,173]:QX),([240,159,152,128]:QX),([255]:QX),([240,159]:QX)]:QQ)
theorem pd{e:QQ}(h:fX=some e):
  Pure Tryz.prog 37 [] (aM (bg false [⟨(.slice .str),e⟩])):=by
 refine PB Tryz.func37 (fun Bw w0=>?_);unfold fX at h;refine G (G (au ?_));obtain rfl:=sI h;exact RI [(.slice .str)]
def dr(j:QK):ua→Option (ua⊕QK):=fun(e,f) =>
 (if(decide (f<(j.length:Int)))=true then((fX).bind fun q =>
 (if 0≤f∧f<(j.length:Int)then(if ¬(14:Int)=0 then(if 0≤(Int.tmod (i64.wrap (j.getD f.toNat 0)) (14:Int))∧(Int.tmod (i64.wrap (j.getD f.toNat 0)) (14:Int))<(q.length:Int)then(if e.length+(q.getD ((Int.tmod (i64.wrap (j.getD f.toNat 0)) (14:Int)).toNat) []).length≤140737488355328 then some (Sum.inl ((e++(cf (q.getD ((Int.tmod (i64.wrap (j.getD f.toNat 0)) (14:Int)).toNat) []))),(i64.wrap (f+1))))else none)else none)else none)else none))
 else some (Sum.inr e))
def dw(f:QK):Option QK :=
 ((iter (dr f) (([]:QK),0)).bind fun e=>some e)
theorem jH(j:Bool){v q:QK}(h:dw v=some q):
  Pure Tryz.prog 11 [.p j (.slice (.int .u8)) v] (aM (bg false [⟨(.slice (.int .u8)),q⟩])):=by
 refine PB Tryz.func11 (fun Bw w0=>?_);unfold dw at h;refine G (G (af (G (ak (cM h (fun(e,D)=>aA [(0,.p j (.slice (.int .u8)) v),(3,.sl 0),(4,.i64 D)] [(0,.arr 5 (.int .u8) e)] 1) 0 (fun f=>aA [(3,.sl 0)] [(0,.arr 5 (.int .u8) f)] 1) (gg [.nilS 3 24 5 (.int .u8)] [24]) (fun y o h=>?_) (fun f h=>?_))))))
 ·obtain⟨e,D⟩:=y;unfold dr at h;refine af (G (aC h (fun E h=>?_) (fun E h=>?_)))
  ·refine ae (ab (af (ak ?_)));obtain⟨J,I,h⟩:=aj h;obtain⟨z,A,B,C,h⟩:=g4 h;have u:=(pd I);refine mu ⟨[],[(1,(oP u))]⟩ [(1,1,oc u),(4,4,oc z),(7,7,oc A),(8,8,oc B),(10,10,oc C)] (ay (ab (Ge ?_)));exact eB h (gg [] [113])
  refine aw (aR ?_);exact eX h (gg [] [0])
 refine az (ab (G (au ?_)));obtain rfl:=sI h;exact RI [(.slice (.int .u8))]
def dX(e f j q u:Int)(v:QJ):Option (Int×Int×Int×Int×Int×QJ) :=
 (if ¬(64:Int)=0 then(if ¬(2:Int)=0 then some ((i64.wrap (1+(i64.wrap e))),(i64.wrap (1+(i64.wrap (Int.tmod f 64)))),(Int.tmod j 2),(i64.wrap q),(i64.wrap u),v)else none)else none)
theorem oA{f j q u v:Int}{z:QJ}{e:Int×Int×Int×Int×Int×QJ}(h:dX f j q u v z=some e):
  Pure Tryz.prog 12 [.agg [.u8 f,.u8 j,.u8 q,.p false (.int .u16) u,.p false (.int .u16) v,.p false .flt z]] (aM (bg false [⟨Ob,e⟩])):=by
 refine PB Tryz.func12 (fun Bw w0=>?_);unfold dX at h;refine G ?_;obtain⟨A,B,h⟩:=g2 h;refine GN a0 [(6,6,oc A),(11,11,oc B)] (au ?_);obtain rfl:=sI h;exact RI [Ob]
def bH(f j:Qj):(Int)→Option ((Int)⊕((Unit)⊕(Bool))):=fun e =>
 (if(decide (e<(f.length:Int)))=true then(if 0≤e∧e<(f.length:Int)then(if 0≤e∧e<(j.length:Int)then(if(!((((f.getD e.toNat (0,0,0,0)).1) == ((j.getD e.toNat (0,0,0,0)).1)) && ((((f.getD e.toNat (0,0,0,0)).2.1) == ((j.getD e.toNat (0,0,0,0)).2.1)) && ((((f.getD e.toNat (0,0,0,0)).2.2.1) == ((j.getD e.toNat (0,0,0,0)).2.2.1)) && (((f.getD e.toNat (0,0,0,0)).2.2.2) == ((j.getD e.toNat (0,0,0,0)).2.2.2))))))=true then some (Sum.inr (Sum.inr false))
 else some (Sum.inl (i64.wrap (e+1))))else none)else none)
 else some (Sum.inr (Sum.inl ())))
def cN(e:Qj)(j:Bool)(f:Qj)(q:Bool):Option (Bool) :=
 (((if((e.length:Int) != (f.length:Int))=true then some (true)
 else some ((!(j == q))))).bind fun v1=>(if v1=true then some false
 else((iter (bH e f) (0:Int)).bind fun(u:((Unit)⊕(Bool)))=>match u with
 | .inl _=>some true
 | .inr (v)=>some v)))
theorem lS(f j:Bool){u:Qj}{v:Bool}{z:Qj}{A q:Bool}(h:cN u v z A=some q):
  Pure Tryz.prog 16 [.agg [.p f (.slice dg) u,.bo v],.agg [.p j (.slice dg) z,.bo A]] (aM (bg false [⟨.bool,q⟩])):=by
 refine PB Tryz.func16 (fun Bw w0=>?_);unfold cN at h;refine G (af (af (bm h (fun v1=>aA [(2,.adr 0 0 2 0),(3,.adr 1 0 2 0),(19,.bo v1)] (K6 f u v j z A) 2) (fun v1 h=>?_) (fun v1 h=>?_))))
 ·rcases aI h with⟨B,h⟩ | ⟨B,h⟩
  ·exact bq ⟨[(7,true),(13,true)],[]⟩ [(8,13,oc B)] (eN h (gg [] [0,8]))
  exact bq ⟨[(7,false),(13,false)],[]⟩ [(8,12,an B),(13,13,oc B)] (eN h (gg [] [0,8]))
 refine ab (aC h (fun N h=>?_) (fun N h=>?_))
 ·refine G (au (ah ?_));obtain rfl:=sI h;exact RI [.bool]
 refine ae (ab (af (G (ak (kX h (fun J=>aA [(2,.adr 0 0 2 0),(3,.adr 1 0 2 0),(5,.i64 J)] (K6 f u v j z A) 2) (dL (fK Tryz.f16.ntmps 0 (fun _=>aA [] [] 0)) (gM tb Tryz.f16.results.toList (fun L=>[⟨.bool,L⟩]))) (gg [] [0,1]) (fun J o h=>?_) (fun O h e σ' M=>?_))))))
 ·unfold bH at h;refine af (G (aC h (fun V h=>?_) (fun V h=>?_)))
  ·refine ae (ab (af (ak ?_)));obtain⟨C,D,h⟩:=g2 h;refine GD a0 [(3,3,oc C),(8,8,oc D),(10,10,oc Mj)] (aC h (fun E h=>?_) (fun E h=>?_))
   ·refine G (au ?_);obtain rfl:=sI h;refine aB (ah (bL (aN ?_)));exact bK (RI [.bool])
   refine ae (ay (ab (Ge ?_)));exact eB h (gg [] [0,1])
  refine aw (aR ?_);obtain rfl:=sI h;refine eo (bn ?_);exact bT (gg [] [])
 rcases O with _ | L
 ·obtain⟨rfl,I⟩:=M;refine cU ?_ I;refine az (ab (G (au ?_)));obtain rfl:=sI h;exact RI [.bool]
 obtain⟨rfl,X⟩:=M;refine aB (ah ?_);obtain rfl:=sI h;exact X
end
end Go.Proofs.YtbedjpdfkmfplaaGreatDoor.T
