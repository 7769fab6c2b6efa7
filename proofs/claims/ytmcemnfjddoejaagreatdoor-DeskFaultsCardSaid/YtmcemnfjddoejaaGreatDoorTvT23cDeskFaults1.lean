import Derived.Test.YtmcemnfjddoejaaGreatDoorTvT23c0
namespace Go.Proofs.YtmcemnfjddoejaaGreatDoor.T
open Go Go.Tv Go.Proofs
open Go.IntKind (i64 u32 u64 u8)
noncomputable section
set_option maxRecDepth 100000
set_option maxHeartbeats 4000000
def gH  : Option (XZ×XZ×XZ×XZ×QX×QX×QX×Int×Int) :=
 some (([]:XZ),([(10,10,2),(32,32,1)]:XZ),([(32,126,1)]:XZ),([]:XZ),([99,108,97,115,115,32,79,59,32,109,97,121,32,79,32,47,32,79,59]:QX),([99,108,97,115,115,32,79,32,83,32,78,59,32,107,101,101,112,32,83,32,47,32,83,59,32,109,97,121,32,83,32,47,32,46,59,32,109,117,115,116,32,78,32,47,32,46,59,32,107,101,101,112,32,46,32,47,32,46,59]:QX),([]:QX),2,2)
theorem qE{c:XZ×XZ×XZ×XZ×QX×QX×QX×Int×Int}(h:gH=some c):
  Pure Tryz.prog 21 [] (aJ (bc false [⟨Y7,c⟩])):=by
 refine PB Tryz.func21 (fun Bw w0=>?_);unfold gH at h;refine G (G (kr [.frzC 0 1,.frzC 0 2] (by kernel_rfl) (au ?_)));obtain rfl:=sI h;exact RI [Y7]
def mn(e c:Int)(_:QX)(_ _ _ _ _:Int)(_:XQ):Option ((Unit)⊕(Int×Int)):=some (Sum.inr (e,c))
theorem nv(v:Value)(e a:Int)(w:World):
  Calls Tryz.prog 71 #[v,.int .i64 e,.int .i64 a] w fun r c=>r = .panicked [{ v:=ba 47 .i64 .i64 (e,a),recovered:=false }]∧c=w:=by
 go_enter Tryz.func71,Tryz.ntmps71;go_wp2
 exact⟨rfl,rfl,rfl⟩
theorem jO{f c:Int}{j:QX}{p p3:Int}{p4 p5 p6:Int}{o1:XQ}{e:(Unit)⊕(Int×Int)}(h:mn f c j p p3 p4 p5 p6 o1=some e):
  jc Tryz.prog 71 [.adr 0 0 10 0,.i64 f,.i64 c] (NN j p p3 p4 p5 p6 o1) (kb (fun(q:Unit)=>(.tup [],[])) (ba 47 .i64 .i64) e):=by
 obtain rfl:=sI h;exact j7.CJ Tryz.func71 (by kernel_rfl) rfl (fun v w=>nv v _ _ w)
def gh(c:QX)(e:Int):Option (Int):=some (yf c e 0)
theorem kR(s:ByteArray)(c:Int)(w:World):
  Calls Tryz.prog 152 #[.string s,.int .u8 c] w fun e f=>e = .returned (.int .i64 (Lib.indexByte s.data.toList c.toNat.toUInt8))∧f=w:=by
 have hd:∀w,(callFunc 158 #[.string s,.int .u8 c]).run Tryz.prog w = .ok (.value (.int .i64 (Lib.indexByte s.data.toList c.toNat.toUInt8))) w:=fun w=>by rw[run_callFunc_extern (fn:=Tryz.f158) (e:=Extern.BytealgIndexByte.indexByte) Tryz.func158 (by kernel_rfl) rfl (by kernel_rfl) (by kernel_rfl),Lib.run_indexByteString];rfl
 go_enter Tryz.func152,Tryz.ntmps152;go_wp2
 go_ret
 exact⟨rfl,rfl⟩
theorem mR{e:QX}{f c:Int}(h:gh e f=some c):
  Pure Tryz.prog 152 [.st e,.u8 f] (aJ (bc false [⟨(.int .i64),c⟩])):=by
 obtain rfl:=sI h;exact Pure.L8 Tryz.func152 (by kernel_rfl) rfl (fun s w=>kR s _ w)
def eU(c:QX)(e:Int):Option (Int) :=
 ((gh c e).bind fun f =>
 some f)
theorem jU{e:QX}{f c:Int}(h:eU e f=some c):
  Pure Tryz.prog 135 [.st e,.u8 f] (aJ (bc false [⟨(.int .i64),c⟩])):=by
 refine PB Tryz.func135 (fun Bw w0=>?_);unfold eU at h;refine G ?_;obtain⟨p,j,h⟩:=aj h;refine GP 2 (mR j) (au ?_);obtain rfl:=sI h;exact RI [(.int .i64)]
def iK(c:Int):Option (Bool) :=
 (((if(c == 32)=true then some (true)
 else(if(c == 9)=true then some (true)
 else(if(c == 10)=true then some (true)
 else some ((c == 13)))))).bind fun v1=>some v1)
theorem xq{p:Int}{f:Bool}(h:iK p=some f):
  Pure Tryz.prog 136 [.u8 p] (aJ (bc false [⟨.bool,f⟩])):=by
 refine PB Tryz.func136 (fun Bw w0=>?_);unfold iK at h;refine G (af (bn h (fun v1=>aA [(2,.bo v1)] [] 0) (fun v1 h=>?_) (fun v1 h=>?_)))
 ·rcases aI h with⟨c,h⟩ | ⟨c,h⟩
  ·exact bz ⟨[(2,true),(5,true)],[]⟩ [(3,5,oc c)] (eN h (gg [] []))
  rcases aI h with⟨e,h⟩ | ⟨e,h⟩
  ·exact bz ⟨[(2,false),(5,false),(6,true),(9,true)],[]⟩ [(3,4,an c),(5,5,oc c),(7,9,oc e)] (eN h (gg [] []))
  rcases aI h with⟨j,h⟩ | ⟨j,h⟩
  ·exact bz ⟨[(2,false),(5,false),(6,false),(9,false),(10,true),(13,true)],[]⟩ [(3,4,an c),(5,5,oc c),(7,8,an e),(9,9,oc e),(11,13,oc j)] (eN h (gg [] []))
  exact bz ⟨[(2,false),(5,false),(6,false),(9,false),(10,false),(13,false)],[]⟩ [(3,4,an c),(5,5,oc c),(7,8,an e),(9,9,oc e),(11,12,an j),(13,13,oc j)] (eN h (gg [] []))
 refine ab (au ?_);obtain rfl:=sI h;exact RI [.bool]
def dB(c:Int):Option (Bool) :=
 (((if(c == 95)=true then some (true)
 else(if(decide (c≥97))=true then(if(decide (c≤122))=true then some (true)
 else(if(decide (c≥65))=true then(if(decide (c≤90))=true then some (true)
 else(if(decide (c≥48))=true then some ((decide (c≤57)))
 else some (false)))
 else(if(decide (c≥48))=true then some ((decide (c≤57)))
 else some (false))))
 else(if(decide (c≥65))=true then(if(decide (c≤90))=true then some (true)
 else(if(decide (c≥48))=true then some ((decide (c≤57)))
 else some (false)))
 else(if(decide (c≥48))=true then some ((decide (c≤57)))
 else some (false)))))).bind fun v1=>some v1)
theorem cZ{C:Int}{B:Bool}(h:dB C=some B):
  Pure Tryz.prog 137 [.u8 C] (aJ (bc false [⟨.bool,B⟩])):=by
 refine PB Tryz.func137 (fun Bw w0=>?_);unfold dB at h;refine G (af (bn h (fun v1=>aA [(2,.bo v1)] [] 0) (fun v1 h=>?_) (fun v1 h=>?_)))
 ·rcases aI h with⟨c,h⟩ | ⟨c,h⟩
  ·exact bz ⟨[(2,true),(9,true)],[]⟩ [(3,5,oc c),(8,9,oc c)] (eN h (gg [] []))
  rcases aI h with⟨e,h⟩ | ⟨e,h⟩
  ·rcases aI h with⟨f,h⟩ | ⟨f,h⟩
   ·exact bz ⟨[(2,false),(5,true),(8,true),(9,false),(10,true),(17,true)],[]⟩ [(3,5,an c),(6,7,an e),(8,8,oc (And.intro c e)),(9,9,oc c),(11,13,oc f),(16,17,oc f)] (eN h (gg [] []))
   rcases aI h with⟨j,h⟩ | ⟨j,h⟩
   ·rcases aI h with⟨p,h⟩ | ⟨p,h⟩
    ·exact bz ⟨[(2,false),(5,true),(8,true),(9,false),(10,false),(13,true),(16,true),(17,false),(18,true),(25,true)],[]⟩ [(3,5,an c),(6,7,an e),(8,8,oc (And.intro c e)),(9,9,oc c),(11,13,an f),(14,15,an j),(16,16,oc (And.intro f j)),(17,17,oc f),(19,21,oc p),(24,25,oc p)] (eN h (gg [] []))
    rcases aI h with⟨v,h⟩ | ⟨v,h⟩
    ·exact bz ⟨[(2,false),(5,true),(8,true),(9,false),(10,false),(13,true),(16,true),(17,false),(18,false),(21,true),(24,true),(25,false)],[]⟩ [(3,5,an c),(6,7,an e),(8,8,oc (And.intro c e)),(9,9,oc c),(11,13,an f),(14,15,an j),(16,16,oc (And.intro f j)),(17,17,oc f),(19,21,an p),(22,23,an v),(24,24,oc (And.intro p v)),(25,25,oc p)] (eN h (gg [] []))
    exact bz ⟨[(2,false),(5,true),(8,true),(9,false),(10,false),(13,true),(16,true),(17,false),(18,false),(21,false),(24,false),(25,false)],[]⟩ [(3,5,an c),(6,7,an e),(8,8,oc (And.intro c e)),(9,9,oc c),(11,13,an f),(14,15,an j),(16,16,oc (And.intro f j)),(17,17,oc f),(19,21,an p),(22,23,oc v),(24,24,oc (And.intro p v)),(25,25,oc p)] (eN h (gg [] []))
   rcases aI h with⟨z,h⟩ | ⟨z,h⟩
   ·exact bz ⟨[(2,false),(5,true),(8,true),(9,false),(10,false),(13,false),(16,false),(17,false),(21,true),(24,true)],[]⟩ [(3,5,an c),(6,7,an e),(8,8,oc (And.intro c e)),(9,9,oc c),(11,13,an f),(14,15,oc j),(16,16,oc (And.intro f j)),(17,17,oc f),(22,23,an z),(24,24,oc z)] (eN h (gg [] []))
   exact bz ⟨[(2,false),(5,true),(8,true),(9,false),(10,false),(13,false),(16,false),(17,false),(21,false),(24,false)],[]⟩ [(3,5,an c),(6,7,an e),(8,8,oc (And.intro c e)),(9,9,oc c),(11,13,an f),(14,15,oc j),(16,16,oc (And.intro f j)),(17,17,oc f),(22,24,oc z)] (eN h (gg [] []))
  rcases aI h with⟨q,h⟩ | ⟨q,h⟩
  ·rcases aI h with⟨u,h⟩ | ⟨u,h⟩
   ·exact bz ⟨[(2,false),(5,false),(8,false),(9,false),(13,true),(16,true),(18,true),(25,true)],[]⟩ [(3,5,an c),(6,7,oc e),(8,8,oc (And.intro c e)),(9,9,oc c),(14,15,an q),(16,16,oc q),(19,21,oc u),(24,25,oc u)] (eN h (gg [] []))
   rcases aI h with⟨x,h⟩ | ⟨x,h⟩
   ·exact bz ⟨[(2,false),(5,false),(8,false),(9,false),(13,true),(16,true),(18,false),(21,true),(24,true),(25,false)],[]⟩ [(3,5,an c),(6,7,oc e),(8,8,oc (And.intro c e)),(9,9,oc c),(14,15,an q),(16,16,oc q),(19,21,an u),(22,23,an x),(24,24,oc (And.intro u x)),(25,25,oc u)] (eN h (gg [] []))
   exact bz ⟨[(2,false),(5,false),(8,false),(9,false),(13,true),(16,true),(18,false),(21,false),(24,false),(25,false)],[]⟩ [(3,5,an c),(6,7,oc e),(8,8,oc (And.intro c e)),(9,9,oc c),(14,15,an q),(16,16,oc q),(19,21,an u),(22,23,oc x),(24,24,oc (And.intro u x)),(25,25,oc u)] (eN h (gg [] []))
  rcases aI h with⟨A,h⟩ | ⟨A,h⟩
  ·exact bz ⟨[(2,false),(5,false),(8,false),(9,false),(13,false),(16,false),(21,true),(24,true)],[]⟩ [(3,5,an c),(6,7,oc e),(8,8,oc (And.intro c e)),(9,9,oc c),(14,16,oc q),(22,23,an A),(24,24,oc A)] (eN h (gg [] []))
  exact bz ⟨[(2,false),(5,false),(8,false),(9,false),(13,false),(16,false),(21,false),(24,false)],[]⟩ [(3,5,an c),(6,7,oc e),(8,8,oc (And.intro c e)),(9,9,oc c),(14,16,oc q),(22,24,oc A)] (eN h (gg [] []))
 refine ab (au ?_);obtain rfl:=sI h;exact RI [.bool]
def ck(e:QQ)(v1:QX):(Int)→Option ((Int)⊕((Unit)⊕(Int))):=fun c =>
 (if(decide (c<(e.length:Int)))=true then(if 0≤c∧c<(e.length:Int)then(if(v1 == (e.getD c.toNat []))=true then some (Sum.inr (Sum.inr c))
 else some (Sum.inl (i64.wrap (c+1))))else none)
 else some (Sum.inr (Sum.inl ())))
def cO(c:QQ)(v1:QX):Option (Int) :=
 ((iter (ck c v1) (0:Int)).bind fun(e:((Unit)⊕(Int)))=>match e with
 | .inl _=>some (-1:Int)
 | .inr (f)=>some f)
theorem jZ(c:Bool){j:QQ}{v1:QX}{f:Int}(h:cO j v1=some f):
  Pure Tryz.prog 151 [.p c (.slice .str) j,.st v1] (aJ (bc false [⟨(.int .i64),f⟩])):=by
 refine PB Tryz.func151 (fun Bw w0=>?_);unfold cO at h;refine G (af (G (ak (kj h (fun u=>aA [(0,.p c (.slice .str) j),(1,.st v1),(7,.i64 (j.length:Int)),(8,.i64 u)] [] 0) (dw (fc Tryz.f151.ntmps 0 (fun _=>aA [] [] 0)) (gm tb Tryz.f151.results.toList (fun v=>[⟨(.int .i64),v⟩]))) (gg [] []) (fun u o h=>?_) (fun z h e σ' x=>?_)))))
 ·unfold ck at h;refine G (af (aC h (fun A h=>?_) (fun A h=>?_)))
  ·refine ae (ab (af (ak (G (GC 3 h (fun h=>aC h (fun B h=>?_) (fun B h=>?_)))))))
   ·refine G (au ?_);obtain rfl:=sI h;refine aB (ah (bG (aN ?_)));exact bH (RI [(.int .i64)])
   refine ae (ay (ab (Ge ?_)));exact eB h (gg [] [])
  refine aw (aQ ?_);obtain rfl:=sI h;refine dJ (bm ?_);exact bN (gg [] [])
 rcases z with _ | v
 ·obtain⟨rfl,q⟩:=x;refine cC ?_ q;refine az (ab (G (au ?_)));obtain rfl:=sI h;exact RI [(.int .i64)]
 obtain⟨rfl,C⟩:=x;refine aB (ah ?_);obtain rfl:=sI h;exact C
def bf(e c:Int)(_:QX)(_ _ _ _ _:Int)(_:QQ)(_:QK)(_:XJ)(_:XQ):Option ((Unit)⊕(Int×Int)):=some (Sum.inr (e,c))
theorem lK(v:Value)(e a:Int)(w:World):
  Calls Tryz.prog 71 #[v,.int .i64 e,.int .i64 a] w fun r c=>r = .panicked [{ v:=ba 47 .i64 .i64 (e,a),recovered:=false }]∧c=w:=by
 go_enter Tryz.func71,Tryz.ntmps71;go_wp2
 exact⟨rfl,rfl,rfl⟩
theorem aZ{f c:Int}{j:QX}{p p3:Int}{p4 p5 p6:Int}{o1:QQ}{o2:QK}{o3:XJ}{o4:XQ}{e:(Unit)⊕(Int×Int)}(h:bf f c j p p3 p4 p5 p6 o1 o2 o3 o4=some e):
  jc Tryz.prog 71 [.adr 0 0 10 0,.i64 f,.i64 c] (bL j p p3 p4 p5 p6 o1 o2 o3 o4) (kb (fun(q:Unit)=>(.tup [],[])) (ba 47 .i64 .i64) e):=by
 obtain rfl:=sI h;exact j7.CJ Tryz.func71 (by kernel_rfl) rfl (fun v w=>lK v _ _ w)
def dF(e:QX)(C D E I:Int)(o1:QQ)(o2:QK)(o3:XJ)(o4:XQ):(Int)→Option ((Int)⊕((Int)⊕((Int×Int)⊕(Int×Int)))):=fun c =>
 (if(decide (c<(e.length:Int)))=true then(if 0≤c∧c<(e.length:Int)then(if(((e.getD c.toNat 0).toNat:Int) == 35)=true then(if 0≤c∧c≤(e.length:Int)∧(e.length:Int)≤(e.length:Int)then((eU ((e.take (e.length:Int).toNat).drop c.toNat) 10).bind fun f =>
 (((if(decide (f<0))=true then some ((i64.wrap ((e.length:Int) - c)))
 else some (f))).bind fun j=>some (Sum.inl (i64.wrap (c+j)))))else none)
 else((iK ((e.getD c.toNat 0).toNat:Int)).bind fun p =>
 (if p=true then some (Sum.inl (i64.wrap (c+1)))
 else((((dB ((e.getD c.toNat 0).toNat:Int)).bind fun q =>
 (if(!q)=true then((eU ([40,41,91,93,94,124,42,43,63,46,59,47,61]:QX) ((e.getD c.toNat 0).toNat:Int)).bind fun u =>
 some ((decide (u<0))))
 else some (false)))).bind fun v=>(if v=true then((bf 20 c e c C D E I o1 o2 o3 o4).bind fun(z:(Unit)⊕(Int×Int))=>match z with
 | .inr (A,B)=>some (Sum.inr (Sum.inr (Sum.inl (A,B))))
 | .inl _=>none)
 else some (Sum.inr (Sum.inr (Sum.inr (((e.getD c.toNat 0).toNat:Int),c)))))))))else none)
 else some (Sum.inr (Sum.inl c)))
def bj(u:QX)(v z A B C:Int)(o1:QQ)(o2:QK)(o3:XJ)(o4:XQ):Option ((Int×Int)⊕(Int×Int)) :=
 ((iter (dF u z A B C o1 o2 o3 o4) v).bind fun(c:((Int)⊕((Int×Int)⊕(Int×Int))))=>match c with
 | .inl e=>some (Sum.inl (0,e))
 | .inr (.inl (f,j))=>some (Sum.inr (f,j))
 | .inr (.inr ((p,q)))=>some (Sum.inl (p,q)))
theorem aS{p:QX}{d2 u:Int}{v x z:Int}{o1:QQ}{o2:QK}{o3:XJ}{o4:XQ}{D:(Int×Int)⊕(Int×Int)}(h:bj p d2 u v x z o1 o2 o3 o4=some D):
  jc Tryz.prog 101 [.adr 0 0 10 0] (bL p d2 u v x z o1 o2 o3 o4) (kb (fun(q:Int×Int)=>(.u8 q.1,(bL p q.2 u v x z o1 o2 o3 o4))) (ba 47 .i64 .i64) D):=by
 refine DB Tryz.func101 (fun Bw w0=>?_);unfold bj at h;refine G (af (ak (kj h (fun f=>aA [(0,.adr 0 0 10 0)] (bL p f u v x z o1 o2 o3 o4) 5 5) (dw (fc Tryz.f101.ntmps 0 (fun A=>aA [] (bL p A u v x z o1 o2 o3 o4) 5 5)) (dw (sD (ba 47 .i64 .i64)) (Es tb Tryz.f101.ntmps Tryz.f101.results.toList (fun(E,I)=>(.u8 E,(bL p I u v x z o1 o2 o3 o4)))))) (gg [] [0,1,2,3,4]) (fun f o h=>?_) (fun M h e σ' N=>?_))))
 ·unfold dF at h;refine af (GD a0 [] (aC h (fun O h=>?_) (fun O h=>?_)))
  ·refine ae (ab (ak ?_));obtain⟨V,h⟩:=aE h;refine GD a0 [(8,8,oc V)] (G (aC h (fun X h=>?_) (fun X h=>?_)))
   ·obtain⟨Y,h⟩:=aE h;obtain⟨a9,Z,h⟩:=aj h;have c:=(jU Z);refine GD ⟨[],[(9,(oP c))]⟩ [(8,8,oc Y),(9,9,oc c)] (af (G (bn h (fun B=>aA [(0,.adr 0 0 10 0),(4,.i64 B)] (bL p f u v x z o1 o2 o3 o4) 5 5) (fun B h=>?_) (fun B h=>?_))))
    ·refine aC h (fun a1 h=>?_) (fun a1 h=>?_)
     ·exact kY a0 [] (eN h (gg [] [0,1,2,3,4]))
     exact ae (eN h (gg [] [0,1,2,3,4]))
    refine ab (Ge (ay ?_));exact eB h (gg [] [0,1,2,3,4])
   obtain⟨aa,a2,h⟩:=aj h;refine GP 1 (xq a2) (aC h (fun a3 h=>?_) (fun a3 h=>?_))
   ·refine Ge (ay ?_);exact eB h (gg [] [0,1,2,3,4])
   refine af (af (bn h (fun C=>aA [(0,.adr 0 0 10 0),(3,.u8 ((p.getD f.toNat 0).toNat:Int)),(72,.bo C)] (bL p f u v x z o1 o2 o3 o4) 5 5) (fun C h=>?_) (fun C h=>?_)))
   ·obtain⟨ac,J,h⟩:=aj h;rcases aI h with⟨j,h⟩ | ⟨j,h⟩
    ·obtain⟨ad,a4,h⟩:=aj h;have c:=(cZ J);have L:=(jU a4);exact bz ⟨[(3,true),(7,true)],[(1,(oP c)),(5,(oP L))]⟩ [(1,1,oc c),(4,4,an j),(5,5,oc (And.intro j L)),(6,6,an j),(7,7,oc j)] (eN h (gg [] [0,1,2,3,4]))
    have c:=(cZ J);exact bz ⟨[(3,false),(7,false)],[(1,(oP c))]⟩ [(1,1,oc c),(4,7,oc j)] (eN h (gg [] [0,1,2,3,4]))
   refine ab (aC h (fun a5 h=>?_) (fun a5 h=>?_))
   ·obtain⟨a6,a7,h⟩:=aj h;rcases a6 with _ | ⟨ax,b1⟩
    ·cases h
    refine GX 5 [0,1,2,3,4] (aZ a7) (fun _=>?_);obtain rfl:=sI h;refine aF (bu (bU (aN (BN ?_))));exact rfl
   refine ae (ab (G (au ?_)));obtain rfl:=sI h;refine aB (bG (aN (aN ?_)));exact Ag (RO [some (.int .u8)] [] [0,1,2,3,4] [(2,.u8 ((p.getD f.toNat 0).toNat:Int))] (bL p f u v x z o1 o2 o3 o4) 5 5)
  refine aw (aQ ?_);obtain rfl:=sI h;refine dJ (bm ?_);exact bN (gg [] [0,1,2,3,4])
 rcases M with A | ⟨b2,b3⟩ | ⟨E,I⟩
 ·obtain⟨rfl,a8⟩:=N;refine cC ?_ a8;refine az (ab (G (au ?_)));obtain rfl:=sI h;exact RO [some (.int .u8)] [] [0,1,2,3,4] [(2,.u8 0)] (bL p A u v x z o1 o2 o3 o4) 5 5
 ·obtain rfl:=N;refine bu (aF ?_);obtain rfl:=sI h;exact rfl
 obtain⟨rfl,hr⟩:=N;refine aB (ah ?_);obtain rfl:=sI h;exact hr
def dG(e:QX):(Int)→Option ((Int)⊕(Int)):=fun c =>
 (((if(decide (c<(e.length:Int)))=true then(if 0≤c∧c<(e.length:Int)then((dB ((e.getD c.toNat 0).toNat:Int)).bind fun f =>
 some (f))else none)
 else some (false))).bind fun j=>(if j=true then some (Sum.inl (i64.wrap (c+1)))
 else some (Sum.inr c)))
def bZ(f:QX)(z p3 p4 p5 p6:Int)(o1:QQ)(o2:QK)(o3:XJ)(o4:XQ):Option ((QX×Int×Int)⊕(Int×Int)) :=
 ((bj f z p3 p4 p5 p6 o1 o2 o3 o4).bind fun(A:(Int×Int)⊕(Int×Int))=>match A with
 | .inr (j,p)=>some (Sum.inr (j,p))
 | .inl (q,c)=>((dB q).bind fun u =>
 (if(!u)=true then((bf 21 c f c p3 p4 p5 p6 o1 o2 o3 o4).bind fun(B:(Unit)⊕(Int×Int))=>match B with
 | .inr (v,x)=>some (Sum.inr (v,x))
 | .inl _=>none)
 else((iter (dG f) c).bind fun e=>(if 0≤c∧c≤e∧e≤(f.length:Int)then some (Sum.inl (((f.take e.toNat).drop c.toNat),c,e))else none)))))
theorem bC{p:QX}{M p3:Int}{p4 p5 p6:Int}{o1:QQ}{o2:QK}{o3:XJ}{o4:XQ}{v:(QX×Int×Int)⊕(Int×Int)}(h:bZ p M p3 p4 p5 p6 o1 o2 o3 o4=some v):
  jc Tryz.prog 102 [.adr 0 0 10 0] (bL p M p3 p4 p5 p6 o1 o2 o3 o4) (kb (fun(q:QX×Int×Int)=>(.tup [.st q.1,.i64 q.2.1],(bL p q.2.2 p3 p4 p5 p6 o1 o2 o3 o4))) (ba 47 .i64 .i64) v):=by
 refine DB Tryz.func102 (fun Bw w0=>?_);unfold bZ at h;refine G (af (af ?_));obtain⟨N,x,h⟩:=aj h;rcases N with⟨O,e⟩ | ⟨V,X⟩
 ·obtain⟨Y,A,h⟩:=aj h;have f:=(aS x);have z:=(cZ A);refine bz ⟨[],[(1,(oO f [0,1,2,3,4])),(2,(oP z))]⟩ [(1,1,oc f),(2,2,oc z)] (ab (aC h (fun B h=>?_) (fun B h=>?_)))
  ·obtain⟨Z,C,h⟩:=aj h;rcases Z with _ | ⟨a1,a2⟩
   ·cases h
   refine GX 5 [0,1,2,3,4] (aZ C) (fun _=>aF ?_);obtain rfl:=sI h;exact rfl
  refine ae (ab (G (af (ak (cw h (fun u=>aA [(0,.adr 0 0 10 0),(4,.i64 e)] (bL p u p3 p4 p5 p6 o1 o2 o3 o4) 5 5) 0 (fun j=>aA [(0,.adr 0 0 10 0),(4,.i64 e)] (bL p j p3 p4 p5 p6 o1 o2 o3 o4) 5 5) (gg [] [0,1,2,3,4]) (fun u o h=>?_) (fun j h=>?_))))))
  ·unfold dG at h;refine af (af (bn h (fun D=>aA [(0,.adr 0 0 10 0),(4,.i64 e),(40,.bo D)] (bL p u p3 p4 p5 p6 o1 o2 o3 o4) 5 5) (fun D h=>?_) (fun D h=>?_)))
   ·rcases aI h with⟨c,h⟩ | ⟨c,h⟩
    ·obtain⟨E,h⟩:=aE h;obtain⟨a3,I,h⟩:=aj h;have f:=(cZ I);exact kY ⟨[(10,true),(21,true)],[(20,(oP f))]⟩ [(11,18,an c),(19,19,oc (And.intro c E)),(20,20,oc (And.intro c f)),(21,21,oc c)] (eN h (gg [] [0,1,2,3,4]))
    exact kY ⟨[(10,false),(21,false)],[]⟩ [(11,21,oc c)] (eN h (gg [] [0,1,2,3,4]))
   refine ab (aC h (fun J h=>?_) (fun J h=>?_))
   ·refine ae (ab (ak (Ge (ay ?_))));exact eB h (gg [] [0,1,2,3,4])
   refine aw (aQ ?_);exact eX h (gg [] [0,1,2,3,4])
  refine az (ab ?_);obtain⟨L,h⟩:=aE h;refine GD a0 [(9,9,oc L)] (au ?_);obtain rfl:=sI h;exact RO [some .str,some (.int .i64)] [] [0,1,2,3,4] [(2,.st ((p.take j.toNat).drop e.toNat)),(3,.i64 e)] (bL p j p3 p4 p5 p6 o1 o2 o3 o4) 5 5
 refine GX 1 [0,1,2,3,4] (aS x) (fun _=>aF (aF ?_));obtain rfl:=sI h;exact rfl
def bk(e:Int)(f:QX)(j p3 p4 p5 p6:Int)(o1:QQ)(o2:QK)(o3:XJ)(o4:XQ):Option ((Bool×Int)⊕(Int×Int)) :=
 ((bj f j p3 p4 p5 p6 o1 o2 o3 o4).bind fun(p:(Int×Int)⊕(Int×Int))=>match p with
 | .inr (q,u)=>some (Sum.inr (q,u))
 | .inl (v,c)=>(if(v != e)=true then some (Sum.inl (false,c))
 else some (Sum.inl (true,(i64.wrap (c+1))))))
theorem aM{f:Int}{c:QX}{j p3:Int}{p4 p5 p6:Int}{o1:QQ}{o2:QK}{o3:XJ}{o4:XQ}{e:(Bool×Int)⊕(Int×Int)}(h:bk f c j p3 p4 p5 p6 o1 o2 o3 o4=some e):
  jc Tryz.prog 130 [.adr 0 0 10 0,.u8 f] (bL c j p3 p4 p5 p6 o1 o2 o3 o4) (kb (fun(q:Bool×Int)=>(.bo q.1,(bL c q.2 p3 p4 p5 p6 o1 o2 o3 o4))) (ba 47 .i64 .i64) e):=by
 refine DB Tryz.func130 (fun Bw w0=>?_);unfold bk at h;refine G (af (af ?_));obtain⟨v,p,h⟩:=aj h;rcases v with⟨z,u⟩ | ⟨A,B⟩
 ·refine lg 1 [0,1,2,3,4] (aS p) (ab (aC h (fun x h=>?_) (fun x h=>?_)))
  ·refine G (au (ah ?_));obtain rfl:=sI h;exact RO [some .bool] [] [0,1,2,3,4] [(4,.bo false)] (bL c u p3 p4 p5 p6 o1 o2 o3 o4) 5 5
  refine ae (ab (G (G (au ?_))));obtain rfl:=sI h;exact RO [some .bool] [] [0,1,2,3,4] [(4,.bo true)] (bL c (i64.wrap (u+1)) p3 p4 p5 p6 o1 o2 o3 o4) 5 5
 refine GX 1 [0,1,2,3,4] (aS p) (fun _=>aF (aF ?_));obtain rfl:=sI h;exact rfl
def db(v:QX)(x p3 p4 p5 p6:Int)(o1:QQ)(o2:QK)(o3:XJ)(o4:XQ):Option (Z4⊕(Int×Int)) :=
 ((bZ v x p3 p4 p5 p6 o1 o2 o3 o4).bind fun(z:(QX×Int×Int)⊕(Int×Int))=>match z with
 | .inr (f,j)=>some (Sum.inr (f,j))
 | .inl (c,p,e)=>(if((aU .str o4 c).isSome)=true then((bf 23 p v e p3 p4 p5 p6 o1 o2 o3 o4).bind fun(A:(Unit)⊕(Int×Int))=>match A with
 | .inr (q,u)=>some (Sum.inr (q,u))
 | .inl _=>none)
 else some (Sum.inl (c,e))))
theorem dA{e:QX}{p p3:Int}{p4 p5 p6:Int}{o1:QQ}{o2:QK}{o3:XJ}{o4:XQ}{c:Z4⊕(Int×Int)}(h:db e p p3 p4 p5 p6 o1 o2 o3 o4=some c):
  jc Tryz.prog 131 [.adr 0 0 10 0] (bL e p p3 p4 p5 p6 o1 o2 o3 o4) (kb (fun(q:QX×Int)=>(.st q.1,(bL e q.2 p3 p4 p5 p6 o1 o2 o3 o4))) (ba 47 .i64 .i64) c):=by
 refine DB Tryz.func131 (fun Bw w0=>?_);unfold db at h;refine G (af ?_);obtain⟨v,u,h⟩:=aj h;rcases v with⟨f,x,j⟩ | ⟨z,A⟩
 ·refine lg 1 [0,1,2,3,4] (bC u) (ab (af (G (G (aC h (fun B h=>?_) (fun B h=>?_))))))
  ·obtain⟨C,D,h⟩:=aj h;rcases C with _ | ⟨E,I⟩
   ·cases h
   refine GX 2 [0,1,2,3,4] (aZ D) (fun _=>aF ?_);obtain rfl:=sI h;exact rfl
  refine ae (ab (G (au ?_)));obtain rfl:=sI h;exact RO [some .str] [] [0,1,2,3,4] [(2,.st f)] (bL e j p3 p4 p5 p6 o1 o2 o3 o4) 5 5
 refine GX 1 [0,1,2,3,4] (bC u) (fun _=>aF ?_);obtain rfl:=sI h;exact rfl
def ia(x:QX)(z A B C:Int)(o3:XJ):(Int×QQ×QK×XQ)→Option ((Int×QQ×QK×XQ)⊕((Int×QQ×QK×XQ)⊕(Int×Int))):=fun(D,c,e,f) =>
 ((bk 59 x D z A B C c e o3 f).bind fun(E:(Bool×Int)⊕(Int×Int))=>match E with
 | .inr (I,J)=>some (Sum.inr (Sum.inr (I,J)))
 | .inl (L,p)=>(if(!L)=true then((bj x p z A B C c e o3 f).bind fun(M:(Int×Int)⊕(Int×Int))=>match M with
 | .inr (N,O)=>some (Sum.inr (Sum.inr (N,O)))
 | .inl (_,q)=>((db x q z A B C c e o3 f).bind fun(V:Z4⊕(Int×Int))=>match V with
 | .inr (X,Y)=>some (Sum.inr (Sum.inr (X,Y)))
 | .inl (j,u)=>(if(decide ((c.length:Int)≥24))=true then((bf 24 q x u z A B C c e o3 f).bind fun(Z:(Unit)⊕(Int×Int))=>match Z with
 | .inr (a1,v)=>some (Sum.inr (Sum.inr (a1,v)))
 | .inl _=>none)
 else(if 0≤(c.length:Int)then(if(e.length+([(c.length:Int)]:QK).length)*8≤140737488355328∧e.length+([(c.length:Int)]:QK).length≤9223372036854775807 then(if(c.length+([j]:QQ).length)*16≤140737488355328∧c.length+([j]:QQ).length≤9223372036854775807 then some (Sum.inl (u,(c++([j]:QQ)),(e++([(c.length:Int)]:QK)),(cj .str f j (u32.wrap (1*2 ^ (min (c.length:Int).toNat u32.bits))))))else none)else none)else none))))
 else some (Sum.inr (Sum.inl (p,c,e,f)))))
def eg(p:QX)(q u v x z:Int)(o1:QQ)(o2:QK)(o3:XJ)(o4:XQ):Option ((Int×QQ×QK×XQ)⊕(Int×Int)) :=
 ((iter (ia p u v x z o3) (q,o1,o2,o4)).bind fun(c:((Int×QQ×QK×XQ)⊕(Int×Int)))=>match c with
 | .inl (A,v10,v11,e)=>some (Sum.inl (A,v10,v11,e))
 | .inr ((f,j))=>some (Sum.inr (f,j)))
theorem ij{f:QX}{d2 j:Int}{p u v:Int}{o1:QQ}{o2:QK}{o3:XJ}{o4:XQ}{x:(Int×QQ×QK×XQ)⊕(Int×Int)}(h:eg f d2 j p u v o1 o2 o3 o4=some x):
  jc Tryz.prog 97 [.adr 0 0 10 0] (bL f d2 j p u v o1 o2 o3 o4) (kb (fun(q:Int×QQ×QK×XQ)=>(.tup [],(JU f q.1 j p u v o3 q.2.2.2 q.2.1 q.2.2.1))) (ba 47 .i64 .i64) x):=by
 refine DB Tryz.func97 (fun Bw w0=>?_);unfold eg at h;refine ak (kj h (fun(z,A,B,C)=>aA [(0,.adr 0 0 10 0)] (JU f z j p u v o3 C A B) 7 5) (dw (fc Tryz.f97.ntmps 0 (fun(J,v10,v11,c)=>aA [] (JU f J j p u v o3 c v10 v11) 7 5)) (sD (ba 47 .i64 .i64))) (gg [] [0,1,2,3,4,1,2]) (fun y o h=>?_) (fun L h e σ' hq=>?_))
 ·obtain⟨z,A,B,C⟩:=y;unfold ia at h;refine af (af ?_);obtain⟨M,D,h⟩:=aj h;rcases M with⟨a5,a6⟩ | ⟨a7,a8⟩
  ·refine lg 1 [0,5,6,3,4] (aM D) (ab (aC h (fun N h=>?_) (fun N h=>?_)))
   ·refine ae (ab (ak (af ?_)));obtain⟨O,E,h⟩:=aj h;rcases O with⟨a9,aa⟩ | ⟨ac,ad⟩
    ·refine lg 1 [0,5,6,3,4] (aS E) (ab (G (af ?_)));obtain⟨V,I,h⟩:=aj h;rcases V with⟨ax,b1⟩ | ⟨b2,b3⟩
     ·refine lg 1 [0,5,6,3,4] (dA I) (ab (af (G (aC h (fun X h=>?_) (fun X h=>?_)))))
      ·obtain⟨Y,Z,h⟩:=aj h;rcases Y with _ | ⟨b4,a4⟩
       ·cases h
       refine GX 2 [0,5,6,3,4] (aZ Z) (fun _=>?_);obtain rfl:=sI h;refine aF (bu (bU (aN ?_)));exact rfl
      refine ae (ab ?_);obtain⟨a1,h⟩:=aE h;refine GD a0 [(11,11,oc a1)] ?_;obtain⟨a2,h⟩:=aE h;refine GD a0 [(13,13,oc a2)] (xg 8 h (fun h=>ay ?_));exact eB h (gg [] [0,1,2,3,4,479,375])
     refine GX 1 [0,5,6,3,4] (dA I) (fun _=>?_);obtain rfl:=sI h;refine aF (bu (bU (aN ?_)));exact rfl
    refine GX 1 [0,5,6,3,4] (aS E) (fun _=>?_);obtain rfl:=sI h;refine aF (bu (bU (aN ?_)));exact rfl
   refine aw (aQ ?_);obtain rfl:=sI h;refine dJ (bm ?_);exact bN (gg [] [0,1,2,3,4,5,6])
  refine GX 1 [0,5,6,3,4] (aM D) (fun _=>?_);obtain rfl:=sI h;refine aF (aF (bU (aN ?_)));exact rfl
 rcases L with⟨J,v10,v11,c⟩ | ⟨b5,b6⟩
 ·obtain⟨rfl,a3⟩:=hq;refine cC ?_ a3;refine az ?_;obtain rfl:=sI h;exact(RO [] [] [0,1,2,3,4,5,6] [] (JU f J j p u v o3 c v10 v11) 7 5).normal
 obtain rfl:=hq;refine bu ?_;obtain rfl:=sI h;exact rfl
def bD(u:Int)(q:QX)(v p3 p4 p5 p6:Int)(o1:QQ)(o2:QK)(o3:XJ)(o4:XQ):Option ((Int)⊕(Int×Int)) :=
 ((bk u q v p3 p4 p5 p6 o1 o2 o3 o4).bind fun(x:(Bool×Int)⊕(Int×Int))=>match x with
 | .inr (c,e)=>some (Sum.inr (c,e))
 | .inl (z,f)=>(if(!z)=true then((bf 21 f q f p3 p4 p5 p6 o1 o2 o3 o4).bind fun(A:(Unit)⊕(Int×Int))=>match A with
 | .inr (j,p)=>some (Sum.inr (j,p))
 | .inl _=>none)
 else some (Sum.inl f)))
theorem aV{f:Int}{e:QX}{j p3:Int}{p4 p5 p6:Int}{o1:QQ}{o2:QK}{o3:XJ}{o4:XQ}{c:(Int)⊕(Int×Int)}(h:bD f e j p3 p4 p5 p6 o1 o2 o3 o4=some c):
  jc Tryz.prog 132 [.adr 0 0 10 0,.u8 f] (bL e j p3 p4 p5 p6 o1 o2 o3 o4) (kb (fun(q:Int)=>(.tup [],(bL e q p3 p4 p5 p6 o1 o2 o3 o4))) (ba 47 .i64 .i64) c):=by
 refine DB Tryz.func132 (fun Bw w0=>?_);unfold bD at h;refine af ?_;obtain⟨u,p,h⟩:=aj h;rcases u with⟨I,v⟩ | ⟨x,z⟩
 ·refine lg 2 [0,1,2,3,4] (aM p) (ab (aC h (fun A h=>?_) (fun A h=>?_)))
  ·obtain⟨B,C,h⟩:=aj h;rcases B with _ | ⟨D,E⟩
   ·cases h
   refine GX 5 [0,1,2,3,4] (aZ C) (fun _=>?_);obtain rfl:=sI h;exact rfl
  refine ae ?_;obtain rfl:=sI h;exact(RO [] [] [0,1,2,3,4] [] (bL e v p3 p4 p5 p6 o1 o2 o3 o4) 5 5).normal
 refine GX 2 [0,1,2,3,4] (aM p) (fun _=>aF ?_);obtain rfl:=sI h;exact rfl
def da(v:QX)(x p3 p4 p5 p6:Int)(o1:QQ)(o2:QK)(o3:XJ)(o4:XQ):Option ((Int×Int)⊕(Int×Int)) :=
 ((bZ v x p3 p4 p5 p6 o1 o2 o3 o4).bind fun(z:(QX×Int×Int)⊕(Int×Int))=>match z with
 | .inr (f,j)=>some (Sum.inr (f,j))
 | .inl (c,p,e)=>(if((aU .str o4 c).isSome)=true then some (Sum.inl (((aU .str o4 c).getD 0),e))
 else((bf 22 p v e p3 p4 p5 p6 o1 o2 o3 o4).bind fun(A:(Unit)⊕(Int×Int))=>match A with
 | .inr (q,u)=>some (Sum.inr (q,u))
 | .inl _=>none)))
theorem dx{e:QX}{p p3:Int}{p4 p5 p6:Int}{o1:QQ}{o2:QK}{o3:XJ}{o4:XQ}{c:(Int×Int)⊕(Int×Int)}(h:da e p p3 p4 p5 p6 o1 o2 o3 o4=some c):
  jc Tryz.prog 150 [.adr 0 0 10 0] (bL e p p3 p4 p5 p6 o1 o2 o3 o4) (kb (fun(q:Int×Int)=>(.u32 q.1,(bL e q.2 p3 p4 p5 p6 o1 o2 o3 o4))) (ba 47 .i64 .i64) c):=by
 refine DB Tryz.func150 (fun Bw w0=>?_);unfold da at h;refine G (af ?_);obtain⟨v,u,h⟩:=aj h;rcases v with⟨f,x,j⟩ | ⟨z,A⟩
 ·refine lg 1 [0,1,2,3,4] (bC u) (ab (af (G (G (aC h (fun B h=>?_) (fun B h=>?_))))))
  ·refine G (au (ah ?_));obtain rfl:=sI h;exact RO [some (.int .u32)] [] [0,1,2,3,4] [(2,.u32 ((aU .str o4 f).getD 0))] (bL e j p3 p4 p5 p6 o1 o2 o3 o4) 5 5
  refine ae (ab (af ?_));obtain⟨C,D,h⟩:=aj h;rcases C with _ | ⟨E,I⟩
  ·cases h
  refine GX 2 [0,1,2,3,4] (aZ D) (fun _=>aF ?_);obtain rfl:=sI h;exact rfl
 refine GX 1 [0,1,2,3,4] (bC u) (fun _=>aF ?_);obtain rfl:=sI h;exact rfl
def dX(e:Int)(D:QX)(p3 p4 p5 p6:Int)(o1:QQ)(o2:QK)(o3:XJ)(o4:XQ):(Int×Int)→Option ((Int×Int)⊕((Int×Int)⊕(Int×Int))):=fun(j,c) =>
 ((bj D j p3 p4 p5 p6 o1 o2 o3 o4).bind fun(p:(Int×Int)⊕(Int×Int))=>match p with
 | .inr (q,u)=>some (Sum.inr (Sum.inr (q,u)))
 | .inl (v,f)=>(if(v != e)=true then((da D f p3 p4 p5 p6 o1 o2 o3 o4).bind fun(x:(Int×Int)⊕(Int×Int))=>match x with
 | .inr (z,A)=>some (Sum.inr (Sum.inr (z,A)))
 | .inl (B,C)=>some (Sum.inl (C,(bitsOf .or .u32 c B))))
 else some (Sum.inr (Sum.inl (f,c)))))
def bI(e:Int)(u:QX)(v p3 p4 p5 p6:Int)(o1:QQ)(o2:QK)(o3:XJ)(o4:XQ):Option ((Int×Int)⊕(Int×Int)) :=
 ((iter (dX e u p3 p4 p5 p6 o1 o2 o3 o4) (v,0)).bind fun(f:((Int×Int)⊕(Int×Int)))=>match f with
 | .inl (j,c)=>some (Sum.inl (c,(i64.wrap (j+1))))
 | .inr ((p,q))=>some (Sum.inr (p,q)))
theorem aL{f:Int}{u:QX}{I p3:Int}{p4 p5 p6:Int}{o1:QQ}{o2:QK}{o3:XJ}{o4:XQ}{v:(Int×Int)⊕(Int×Int)}(h:bI f u I p3 p4 p5 p6 o1 o2 o3 o4=some v):
  jc Tryz.prog 133 [.adr 0 0 10 0,.u8 f] (bL u I p3 p4 p5 p6 o1 o2 o3 o4) (kb (fun(q:Int×Int)=>(.u32 q.1,(bL u q.2 p3 p4 p5 p6 o1 o2 o3 o4))) (ba 47 .i64 .i64) v):=by
 refine DB Tryz.func133 (fun Bw w0=>?_);unfold bI at h;refine G (G (af (ak (kj h (fun(x,j)=>aA [(0,.adr 0 0 10 0),(1,.u8 f),(5,.u32 j)] (bL u x p3 p4 p5 p6 o1 o2 o3 o4) 5 5) (dw (fc Tryz.f133.ntmps 0 (fun(p,c)=>aA [(0,.adr 0 0 10 0),(5,.u32 c)] (bL u p p3 p4 p5 p6 o1 o2 o3 o4) 5 5)) (sD (ba 47 .i64 .i64))) (gg [] [0,1,2,3,4]) (fun y o h=>?_) (fun B h e σ' J=>?_)))))
 ·obtain⟨x,j⟩:=y;unfold dX at h;refine af (af ?_);obtain⟨C,z,h⟩:=aj h;rcases C with⟨L,M⟩ | ⟨N,O⟩
  ·refine lg 1 [0,1,2,3,4] (aS z) (ab (aC h (fun V h=>?_) (fun V h=>?_)))
   ·refine ae (ab (ak ?_));obtain⟨D,A,h⟩:=aj h;rcases D with⟨X,Y⟩ | ⟨Z,a1⟩
    ·refine lg 2 [0,1,2,3,4] (dx A) (ay ?_);exact eB h (gg [] [0,1,2,3,4])
    refine GX 2 [0,1,2,3,4] (dx A) (fun _=>?_);obtain rfl:=sI h;refine bu (bU (aN ?_));exact rfl
   refine aw (aQ ?_);obtain rfl:=sI h;refine dJ (bm ?_);exact bN (gg [] [0,1,2,3,4])
  refine GX 1 [0,1,2,3,4] (aS z) (fun _=>?_);obtain rfl:=sI h;refine aF (aF (bU (aN ?_)));exact rfl
 rcases B with⟨p,c⟩ | ⟨a2,a3⟩
 ·obtain⟨rfl,E⟩:=J;refine cC ?_ E;refine az (ab (G (G (au ?_))));obtain rfl:=sI h;exact RO [some (.int .u32)] [] [0,1,2,3,4] [(4,.u32 c)] (bL u (i64.wrap (p+1)) p3 p4 p5 p6 o1 o2 o3 o4) 5 5
 obtain rfl:=J;refine bu (aF ?_);obtain rfl:=sI h;exact rfl
def ff(c:QX)(E p3 p4 p5 p6:Int)(o1:QQ)(o2:QK)(o3:XJ)(o4:XQ):Option ((Int×XQ)⊕(Int×Int)) :=
 ((db c E p3 p4 p5 p6 o1 o2 o3 o4).bind fun(I:Z4⊕(Int×Int))=>match I with
 | .inr (e,f)=>some (Sum.inr (e,f))
 | .inl (j,p)=>((bD 61 c p p3 p4 p5 p6 o1 o2 o3 o4).bind fun(q:(Int)⊕(Int×Int))=>match q with
 | .inr (u,v)=>some (Sum.inr (u,v))
 | .inl x=>((bI 59 c x p3 p4 p5 p6 o1 o2 o3 o4).bind fun(z:(Int×Int)⊕(Int×Int))=>match z with
 | .inr (A,B)=>some (Sum.inr (A,B))
 | .inl (C,D)=>some (Sum.inl (D,(cj .str o4 j C))))))
theorem jg{p:QX}{I p3:Int}{p4 p5 p6:Int}{o1:QQ}{o2:QK}{o3:XJ}{o4:XQ}{u:(Int×XQ)⊕(Int×Int)}(h:ff p I p3 p4 p5 p6 o1 o2 o3 o4=some u):
  jc Tryz.prog 98 [.adr 0 0 10 0] (bL p I p3 p4 p5 p6 o1 o2 o3 o4) (kb (fun(q:Int×XQ)=>(.tup [],(bL p q.1 p3 p4 p5 p6 o1 o2 o3 q.2))) (ba 47 .i64 .i64) u):=by
 refine DB Tryz.func98 (fun Bw w0=>?_);unfold ff at h;refine af ?_;obtain⟨L,J,h⟩:=aj h;rcases L with⟨v,M⟩ | ⟨N,O⟩
 ·refine lg 1 [0,1,2,3,4] (dA J) (ab (af ?_));obtain⟨C,x,h⟩:=aj h;rcases C with z | ⟨V,X⟩
  ·refine lg 1 [0,1,2,3,4] (aV x) (ab ?_);obtain⟨D,j,h⟩:=aj h;rcases D with⟨A,B⟩ | ⟨e,f⟩
   ·have c:=(aL j);refine pW hH mixed ⟨[],[(6,(oO c [0,1,2,3,4]))]⟩ (.one 0 (.one 1 (.one 2 (.one 4 (.one 5 (.two 3 (.one 6 (.one 7 (.leaf))) 6 (.one 3 (.one 7 (.leaf))))))))) [([],[]),([],[]),([],[]),([0],[]),([],[]),([],[]),([0,1,2,3,4],[0,1,2,3,4,93,94,95,96,97,98,99,100]),([4],[4])] 2 [] [] [0,1,2,3,4] [] (bL p B p3 p4 p5 p6 o1 o2 o3 (cj .str o4 v A)) 5 5 (Ts 6 ((pO c)::(pO c)::(Ts 3 []))) (by kernel_rfl) (by kernel_rfl) (tr 6 ⟨c,c,(tr 3 tt)⟩) (fun _=>?_) (fun y E=>by cases E);obtain rfl:=sI h;exact(RO [] [] [0,1,2,3,4] [] (bL p B p3 p4 p5 p6 o1 o2 o3 (cj .str o4 v A)) 5 5).normal
   have c:=(aL j);refine pW hH mixed ⟨[],[(6,(oD c [0,1,2,3,4]))]⟩ (.one 0 (.one 1 (.one 2 (.one 4 (.one 5 (.twoD 3 (.dead 6) 6)))))) [([],[]),([],[]),([],[]),([0],[]),([],[]),([],[]),([0,1,2,3,4],[0,1,2,3,4,93,94,95,96,97,98,99,100]),([],[])] 0 [(ba 47 .i64 .i64 (e,f)),(ba 47 .i64 .i64 (e,f))] [] [0,1,2,3,4] [] [] 5 5 (Ts 6 [j7 Tryz.prog 133 [.adr 0 0 10 0,.u8 59] (bL p z p3 p4 p5 p6 o1 o2 o3 o4) (ba 47 .i64 .i64 (e,f)),j7 Tryz.prog 133 [.adr 0 0 10 0,.u8 59] (bL p z p3 p4 p5 p6 o1 o2 o3 o4) (ba 47 .i64 .i64 (e,f))]) (by kernel_rfl) (by kernel_rfl) (tr 6 ⟨(aL j),(aL j),tt⟩) (fun Y=>absurd rfl Y) (fun y E σ1=>?_);obtain rfl:y=(ba 47 .i64 .i64 (e,f)):=by simpa using E
   obtain rfl:=sI h;exact rfl
  refine GX 1 [0,1,2,3,4] (aV x) (fun _=>aF ?_);obtain rfl:=sI h;exact rfl
 refine GX 1 [0,1,2,3,4] (dA J) (fun _=>aF ?_);obtain rfl:=sI h;exact rfl
def eS(x:QX)(z p3 p4 p5 p6:Int)(o1:QQ)(o2:QK)(o3:XJ)(o4:XQ):Option (Z8⊕(Int×Int)) :=
 ((bI 47 x z p3 p4 p5 p6 o1 o2 o3 o4).bind fun(A:(Int×Int)⊕(Int×Int))=>match A with
 | .inr (e,f)=>some (Sum.inr (e,f))
 | .inl (c,j)=>((bI 59 x j (bitsOf .or .u32 p3 c) p4 p5 p6 o1 o2 o3 o4).bind fun(B:(Int×Int)⊕(Int×Int))=>match B with
 | .inr (p,q)=>some (Sum.inr (p,q))
 | .inl (u,v)=>some (Sum.inl (v,(bitsOf .or .u32 p3 c),(bitsOf .or .u32 p4 u)))))
theorem iH{v:QX}{D p3:Int}{p4 p5 p6:Int}{o1:QQ}{o2:QK}{o3:XJ}{o4:XQ}{A:Z8⊕(Int×Int)}(h:eS v D p3 p4 p5 p6 o1 o2 o3 o4=some A):
  jc Tryz.prog 99 [.adr 0 0 10 0] (bL v D p3 p4 p5 p6 o1 o2 o3 o4) (kb (fun(q:Int×Int×Int)=>(.tup [],(bL v q.1 q.2.1 q.2.2 p5 p6 o1 o2 o3 o4))) (ba 47 .i64 .i64) A):=by
 refine DB Tryz.func99 (fun Bw w0=>?_);unfold eS at h;refine af ?_;obtain⟨L,E,h⟩:=aj h;rcases L with⟨e,x⟩ | ⟨f,j⟩
 ·have c:=(aL E);refine pW hH mixed ⟨[],[(6,(oO c [0,1,2,3,4]))]⟩ (.one 0 (.one 1 (.one 2 (.one 3 (.one 5 (.two 4 (.one 6 (.one 7 (.one 8 (.one 9 (.one 10 (.one 11 (.leaf))))))) 6 (.one 4 (.one 7 (.one 8 (.one 9 (.one 10 (.one 11 (.leaf))))))))))))) [([],[]),([],[]),([],[]),([],[]),([0],[]),([],[]),([0,1,2,3,4],[0,1,2,3,4,53,54,55,56,57,58,59,60]),([],[]),([],[]),([],[]),([],[]),([0],[0])] 2 [] [] [0,1,2,3,4] [(0,.adr 0 0 10 0)] (bL v x (bitsOf .or .u32 p3 e) p4 p5 p6 o1 o2 o3 o4) 5 5 (Ts 6 ((pO c)::(pO c)::(Ts 11 []))) (by kernel_rfl) (by kernel_rfl) (tr 6 ⟨c,c,(tr 11 tt)⟩) (fun _=>?_) (fun y z=>by cases z);refine ab ?_;obtain⟨M,I,h⟩:=aj h;rcases M with⟨B,C⟩ | ⟨p,u⟩
  ·have c:=(aL I);refine pW hH mixed ⟨[],[(6,(oO c [0,1,2,3,4]))]⟩ (.one 0 (.one 1 (.one 2 (.one 3 (.one 5 (.two 4 (.one 6 (.one 7 (.one 8 (.one 9 (.one 10 (.one 11 (.leaf))))))) 6 (.one 4 (.one 7 (.one 8 (.one 9 (.one 10 (.one 11 (.leaf))))))))))))) [([],[]),([],[]),([],[]),([],[]),([0],[]),([],[]),([0,1,2,3,4],[0,1,2,3,4,53,54,55,56,57,58,59,60]),([],[]),([],[]),([],[]),([],[]),([0],[0])] 2 [] [] [0,1,2,3,4] [] (bL v C (bitsOf .or .u32 p3 e) (bitsOf .or .u32 p4 B) p5 p6 o1 o2 o3 o4) 5 5 (Ts 6 ((pO c)::(pO c)::(Ts 11 []))) (by kernel_rfl) (by kernel_rfl) (tr 6 ⟨c,c,(tr 11 tt)⟩) (fun _=>?_) (fun y z=>by cases z);obtain rfl:=sI h;exact(RO [] [] [0,1,2,3,4] [] (bL v C (bitsOf .or .u32 p3 e) (bitsOf .or .u32 p4 B) p5 p6 o1 o2 o3 o4) 5 5).normal
  have c:=(aL I);refine pW hH mixed ⟨[],[(6,(oD c [0,1,2,3,4]))]⟩ (.one 0 (.one 1 (.one 2 (.one 3 (.one 5 (.twoD 4 (.dead 6) 6)))))) [([],[]),([],[]),([],[]),([],[]),([0],[]),([],[]),([0,1,2,3,4],[0,1,2,3,4,53,54,55,56,57,58,59,60]),([],[]),([],[]),([],[]),([],[]),([],[])] 0 [(ba 47 .i64 .i64 (p,u)),(ba 47 .i64 .i64 (p,u))] [] [0,1,2,3,4] [] [] 5 5 (Ts 6 [j7 Tryz.prog 133 [.adr 0 0 10 0,.u8 59] (bL v x (bitsOf .or .u32 p3 e) p4 p5 p6 o1 o2 o3 o4) (ba 47 .i64 .i64 (p,u)),j7 Tryz.prog 133 [.adr 0 0 10 0,.u8 59] (bL v x (bitsOf .or .u32 p3 e) p4 p5 p6 o1 o2 o3 o4) (ba 47 .i64 .i64 (p,u))]) (by kernel_rfl) (by kernel_rfl) (tr 6 ⟨(aL I),(aL I),tt⟩) (fun J=>absurd rfl J) (fun y z σ1=>?_);obtain rfl:y=(ba 47 .i64 .i64 (p,u)):=by simpa using z
  obtain rfl:=sI h;exact rfl
 have c:=(aL E);refine pW hH mixed ⟨[],[(6,(oD c [0,1,2,3,4]))]⟩ (.one 0 (.one 1 (.one 2 (.one 3 (.one 5 (.twoD 4 (.dead 6) 6)))))) [([],[]),([],[]),([],[]),([],[]),([0],[]),([],[]),([0,1,2,3,4],[0,1,2,3,4,53,54,55,56,57,58,59,60]),([],[]),([],[]),([],[]),([],[]),([],[])] 0 [(ba 47 .i64 .i64 (f,j)),(ba 47 .i64 .i64 (f,j))] [] [0,1,2,3,4] [] [] 5 5 (Ts 6 [j7 Tryz.prog 133 [.adr 0 0 10 0,.u8 47] (bL v D p3 p4 p5 p6 o1 o2 o3 o4) (ba 47 .i64 .i64 (f,j)),j7 Tryz.prog 133 [.adr 0 0 10 0,.u8 47] (bL v D p3 p4 p5 p6 o1 o2 o3 o4) (ba 47 .i64 .i64 (f,j))]) (by kernel_rfl) (by kernel_rfl) (tr 6 ⟨(aL E),(aL E),tt⟩) (fun J=>absurd rfl J) (fun y z σ1=>?_);obtain rfl:y=(ba 47 .i64 .i64 (f,j)):=by simpa using z
 refine aF ?_;obtain rfl:=sI h;exact rfl
def dK(x:QX)(z p3 p4 p5 p6:Int)(o1:QQ)(o2:QK)(o3:XJ)(o4:XQ):Option ((Int×Int)⊕(Int×Int)) :=
 ((bZ x z p3 p4 p5 p6 o1 o2 o3 o4).bind fun(A:(QX×Int×Int)⊕(Int×Int))=>match A with
 | .inr (f,j)=>some (Sum.inr (f,j))
 | .inl (p,q,c)=>((cO o1 p).bind fun e =>
 (if(decide (e<0))=true then((bf 22 q x c p3 p4 p5 p6 o1 o2 o3 o4).bind fun(B:(Unit)⊕(Int×Int))=>match B with
 | .inr (u,v)=>some (Sum.inr (u,v))
 | .inl _=>none)
 else some (Sum.inl (e,c)))))
theorem ca{e:QX}{v p3:Int}{p4 p5 p6:Int}{o1:QQ}{o2:QK}{o3:XJ}{o4:XQ}{c:(Int×Int)⊕(Int×Int)}(h:dK e v p3 p4 p5 p6 o1 o2 o3 o4=some c):
  jc Tryz.prog 134 [.adr 0 0 10 0] (bL e v p3 p4 p5 p6 o1 o2 o3 o4) (kb (fun(q:Int×Int)=>(.i64 q.1,(bL e q.2 p3 p4 p5 p6 o1 o2 o3 o4))) (ba 47 .i64 .i64) c):=by
 refine DB Tryz.func134 (fun Bw w0=>?_);unfold dK at h;refine G (af ?_);obtain⟨z,x,h⟩:=aj h;rcases z with⟨A,B,f⟩ | ⟨C,D⟩
 ·refine lg 1 [0,1,2,3,4] (bC x) (ab ?_);obtain⟨j,p,h⟩:=aj h;refine GP 6 (jZ true p) (af (G (aC h (fun E h=>?_) (fun E h=>?_))))
  ·obtain⟨I,u,h⟩:=aj h;rcases I with _ | ⟨J,L⟩
   ·cases h
   refine GX 2 [0,1,2,3,4] (aZ u) (fun _=>aF ?_);obtain rfl:=sI h;exact rfl
  refine ae (ab (G (au ?_)));obtain rfl:=sI h;exact RO [some (.int .i64)] [] [0,1,2,3,4] [(2,.i64 j)] (bL e f p3 p4 p5 p6 o1 o2 o3 o4) 5 5
 refine GX 1 [0,1,2,3,4] (bC x) (fun _=>aF ?_);obtain rfl:=sI h;exact rfl
def ep(f:QX)(N p3 p4 p5 p6:Int)(o1:QQ)(o2:QK)(o3:XJ)(o4:XQ):Option ((Int×QK)⊕(Int×Int)) :=
 ((dK f N p3 p4 p5 p6 o1 o2 o3 o4).bind fun(j:(Int×Int)⊕(Int×Int))=>match j with
 | .inr (p,q)=>some (Sum.inr (p,q))
 | .inl (c,u)=>((bD 61 f u p3 p4 p5 p6 o1 o2 o3 o4).bind fun(v:(Int)⊕(Int×Int))=>match v with
 | .inr (x,z)=>some (Sum.inr (x,z))
 | .inl A=>((dK f A p3 p4 p5 p6 o1 o2 o3 o4).bind fun(B:(Int×Int)⊕(Int×Int))=>match B with
 | .inr (C,D)=>some (Sum.inr (C,D))
 | .inl (e,E)=>(if 0≤c∧c<(o2.length:Int)then(if c.toNat<o2.length then((bD 59 f E p3 p4 p5 p6 o1 (o2.set c.toNat e) o3 o4).bind fun(I:(Int)⊕(Int×Int))=>match I with
 | .inr (J,L)=>some (Sum.inr (J,L))
 | .inl M=>some (Sum.inl (M,(o2.set c.toNat e))))else none)else none))))
theorem hX{u:QX}{O p3:Int}{p4 p5 p6:Int}{o1:QQ}{o2:QK}{o3:XJ}{o4:XQ}{v:(Int×QK)⊕(Int×Int)}(h:ep u O p3 p4 p5 p6 o1 o2 o3 o4=some v):
  jc Tryz.prog 100 [.adr 0 0 10 0] (bL u O p3 p4 p5 p6 o1 o2 o3 o4) (kb (fun(q:Int×QK)=>(.tup [],(bL u q.1 p3 p4 p5 p6 o1 q.2 o3 o4))) (ba 47 .i64 .i64) v):=by
 refine DB Tryz.func100 (fun Bw w0=>?_);unfold ep at h;refine af ?_;obtain⟨D,x,h⟩:=aj h;rcases D with⟨c,Y⟩ | ⟨Z,a1⟩
 ·refine lg 1 [0,1,2,3,4] (ca x) (ab (af ?_));obtain⟨E,z,h⟩:=aj h;rcases E with A | ⟨a2,a3⟩
  ·refine lg 1 [0,1,2,3,4] (aV z) (ab (af ?_));obtain⟨I,p,h⟩:=aj h;rcases I with⟨B,J⟩ | ⟨f,j⟩
   ·obtain⟨V,X,h⟩:=g2 h;have e:=(ca p);refine pW hH mixed ⟨[],[(7,(oO e [0,1,2,3,4]))]⟩ (.one 0 (.one 1 (.one 2 (.one 3 (.one 5 (.one 6 (.two 4 (.one 7 (.one 8 (.one 9 (.leaf)))) 7 (.one 4 (.one 8 (.one 9 (.leaf))))))))))) [([],[]),([],[]),([],[]),([],[]),([0],[]),([],[]),([],[]),([0,1,2,3,4],[0,1,2,3,4,101,102,103,104,105,106,107,108]),([2],[]),([2],[2])] 2 [] [] [0,1,2,3,4] [(0,.adr 0 0 10 0)] (bL u J p3 p4 p5 p6 o1 (o2.set c.toNat B) o3 o4) 5 5 (Ts 7 [pO e,pO e,0≤c∧c<(o2.length:Int),c.toNat<o2.length,True,0≤c∧c<(o2.length:Int),c.toNat<o2.length]) (by kernel_rfl) (by kernel_rfl) (tr 7 ⟨e,e,V,X,tt,V,X,tt⟩) (fun _=>?_) (fun y L=>by cases L);refine ab ?_;obtain⟨M,C,h⟩:=aj h;rcases M with N | ⟨a4,a5⟩
    ·refine lg 1 [0,1,2,3,4] (aV C) ?_;obtain rfl:=sI h;exact(RO [] [] [0,1,2,3,4] [] (bL u N p3 p4 p5 p6 o1 (o2.set c.toNat B) o3 o4) 5 5).normal
    refine GX 1 [0,1,2,3,4] (aV C) (fun _=>?_);obtain rfl:=sI h;exact rfl
   have e:=(ca p);refine pW hH mixed ⟨[],[(7,(oD e [0,1,2,3,4]))]⟩ (.one 0 (.one 1 (.one 2 (.one 3 (.one 5 (.one 6 (.twoD 4 (.dead 7) 7))))))) [([],[]),([],[]),([],[]),([],[]),([0],[]),([],[]),([],[]),([0,1,2,3,4],[0,1,2,3,4,101,102,103,104,105,106,107,108]),([],[]),([],[])] 0 [(ba 47 .i64 .i64 (f,j)),(ba 47 .i64 .i64 (f,j))] [] [0,1,2,3,4] [] [] 5 5 (Ts 7 [j7 Tryz.prog 134 [.adr 0 0 10 0] (bL u A p3 p4 p5 p6 o1 o2 o3 o4) (ba 47 .i64 .i64 (f,j)),j7 Tryz.prog 134 [.adr 0 0 10 0] (bL u A p3 p4 p5 p6 o1 o2 o3 o4) (ba 47 .i64 .i64 (f,j))]) (by kernel_rfl) (by kernel_rfl) (tr 7 ⟨(ca p),(ca p),tt⟩) (fun h0=>absurd rfl h0) (fun y L σ1=>?_);obtain rfl:y=(ba 47 .i64 .i64 (f,j)):=by simpa using L
   refine aF ?_;obtain rfl:=sI h;exact rfl
  refine GX 1 [0,1,2,3,4] (aV z) (fun _=>aF ?_);obtain rfl:=sI h;exact rfl
 refine GX 1 [0,1,2,3,4] (ca x) (fun _=>aF ?_);obtain rfl:=sI h;exact rfl
def eA(c:QX→Int→Int→Int→Int→Int→QQ→QK→XJ→XQ→Option (pc⊕(Int×Int)))(j:QX)(d2 p q e f:Int)(o1:QQ)(o2:QK)(o3:XJ)(o4:XQ):Option (pc⊕(Int×Int)) :=
 ((bk 40 j d2 p q e f o1 o2 o3 o4).bind fun(a2:(Bool×Int)⊕(Int×Int))=>match a2 with
 | .inr (a3,a4)=>some (Sum.inr (a3,a4))
 | .inl (a5,u)=>(if a5=true then(if(decide ((i64.wrap (f+1)) > 16))=true then((bf 25 d2 j u p q e (i64.wrap (f+1)) o1 o2 o3 o4).bind fun(a6:(Unit)⊕(Int×Int))=>match a6 with
 | .inr (a7,a8)=>some (Sum.inr (a7,a8))
 | .inl _=>none)
 else((c j u p q e (i64.wrap (f+1)) o1 o2 o3 o4).bind fun(a9:pc⊕(Int×Int))=>match a9 with
 | .inr (aa,ac)=>some (Sum.inr (aa,ac))
 | .inl (v,ad,x,z)=>((bD 41 j ad p q x z o1 o2 o3 o4).bind fun(ax:(Int)⊕(Int×Int))=>match ax with
 | .inr (b1,b2)=>some (Sum.inr (b1,b2))
 | .inl b3=>some (Sum.inl ((Tree.node v.op v.set v.kids),b3,x,(i64.wrap (z - 1)))))))
 else(if(decide ((i64.wrap (e+1)) > 200))=true then((bf 26 d2 j u p q (i64.wrap (e+1)) f o1 o2 o3 o4).bind fun(b4:(Unit)⊕(Int×Int))=>match b4 with
 | .inr (b5,b6)=>some (Sum.inr (b5,b6))
 | .inl _=>none)
 else(if 0≤(o1.length:Int)then((bk 46 j u p q (i64.wrap (e+1)) f o1 o2 o3 o4).bind fun(b7:(Bool×Int)⊕(Int×Int))=>match b7 with
 | .inr (b8,b9)=>some (Sum.inr (b8,b9))
 | .inl (be,A)=>(((if be=true then some ((Sum.inl ((u32.wrap ((u32.wrap (1*2 ^ (min (o1.length:Int).toNat u32.bits))) - 1)),A)))
 else((bk 91 j A p q (i64.wrap (e+1)) f o1 o2 o3 o4).bind fun(bi:(Bool×Int)⊕(Int×Int))=>match bi with
 | .inr (B,C)=>some ((Sum.inr (B,C)))
 | .inl (bs,D)=>(if bs=true then((bk 94 j D p q (i64.wrap (e+1)) f o1 o2 o3 o4).bind fun(bv:(Bool×Int)⊕(Int×Int))=>match bv with
 | .inr (E,I)=>some ((Sum.inr (E,I)))
 | .inl (bx,c1)=>((bI 93 j c1 p q (i64.wrap (e+1)) f o1 o2 o3 o4).bind fun(c2:(Int×Int)⊕(Int×Int))=>match c2 with
 | .inr (J,L)=>some ((Sum.inr (J,L)))
 | .inl (M,N)=>(if bx=true then some ((Sum.inl ((bitsOf .andNot .u32 (u32.wrap ((u32.wrap (1*2 ^ (min (o1.length:Int).toNat u32.bits))) - 1)) M),N)))
 else some ((Sum.inl (M,N))))))
 else((da j D p q (i64.wrap (e+1)) f o1 o2 o3 o4).bind fun(c3:(Int×Int)⊕(Int×Int))=>match c3 with
 | .inr (O,V)=>some ((Sum.inr (O,V)))
 | .inl (X,Y)=>some ((Sum.inl (X,Y)))))))).bind fun(Z:((Int×Int)⊕(Int×Int)))=>match Z with
 | .inl (v6,v7)=>some (Sum.inl ((Tree.node 1 v6 ([]:XX)),v7,(i64.wrap (e+1)),f))
 | .inr ((c4,a1))=>some (Sum.inr (c4,a1))))else none))))
theorem ie(f:QX→Int→Int→Int→Int→Int→QQ→QK→XJ→XQ→Option (pc⊕(Int×Int)))(c:∀ {V:QX} {p2 p3:Int} {p4 p5 p6:Int} {o1:QQ} {o2:QK} {o3:XJ} {o4:XQ} {j:pc⊕(Int×Int)},f V p2 p3 p4 p5 p6 o1 o2 o3 o4=some j→jc Tryz.prog 138 [.adr 0 0 10 0] (bL V p2 p3 p4 p5 p6 o1 o2 o3 o4) (kb (fun(q:Tree×Int×Int×Int)=>(.agg [.u8 q.1.op,.u32 q.1.set,.p false (.slice (.tree .u8 .u32)) q.1.kids],(bL V q.2.1 p3 p4 q.2.2.1 q.2.2.2 o1 o2 o3 o4))) (ba 47 .i64 .i64) j)){x:QX}{d2 z:Int}{A N O:Int}{o1:QQ}{o2:QK}{o3:XJ}{o4:XQ}{j:pc⊕(Int×Int)}(h:eA f x d2 z A N O o1 o2 o3 o4=some j):
  jc Tryz.prog 162 [.adr 0 0 10 0] (bL x d2 z A N O o1 o2 o3 o4) (kb (fun(q:Tree×Int×Int×Int)=>(.agg [.u8 q.1.op,.u32 q.1.set,.p false (.slice (.tree .u8 .u32)) q.1.kids],(bL x q.2.1 z A q.2.2.1 q.2.2.2 o1 o2 o3 o4))) (ba 47 .i64 .i64) j):=by
 refine DB Tryz.func162 (fun Bw w0=>?_);unfold eA at h;refine G (G (af (af ?_)));obtain⟨X,B,h⟩:=aj h;rcases X with⟨c4,c5⟩ | ⟨c6,c7⟩
 ·refine lg 1 [0,1,2,3,4] (aM B) (ab (aC h (fun Y h=>?_) (fun Y h=>?_)))
  ·refine af (G (G (aC h (fun Z h=>?_) (fun Z h=>?_))))
   ·obtain⟨a1,a2,h⟩:=aj h;rcases a1 with _ | ⟨c8,c9⟩
    ·cases h
    refine GX 2 [0,1,2,3,4] (aZ a2) (fun _=>aF (aF ?_));obtain rfl:=sI h;exact rfl
   refine ae (ab (af ?_));obtain⟨a3,C,h⟩:=aj h;rcases a3 with⟨v,cc,a4,a5⟩ | ⟨ch,cl⟩
   ·refine lg 1 [0,1,2,3,4] (c C) (ab (af ?_));obtain⟨a6,D,h⟩:=aj h;rcases a6 with a7 | ⟨cp,cs⟩
    ·refine lg 1 [0,1,2,3,4] (aV D) (ab (G (G (au (ah ?_)))));obtain rfl:=sI h;exact RO [some (.tree .u8 .u32)] [] [0,1,2,3,4,5] [(2,.adr 5 0 3 0)] (El x a7 z A a4 (i64.wrap (a5 - 1)) o1 o2 o3 o4 v.op v.set v.kids) 6 5
    refine GX 1 [0,1,2,3,4] (aV D) (fun _=>aF (aF ?_));obtain rfl:=sI h;exact rfl
   refine GX 1 [0,1,2,3,4] (c C) (fun _=>aF (aF ?_));obtain rfl:=sI h;exact rfl
  refine ae (ab (af (G (G (aC h (fun a8 h=>?_) (fun a8 h=>?_))))))
  ·obtain⟨a9,aa,h⟩:=aj h;rcases a9 with _ | ⟨cx,d7⟩
   ·cases h
   refine GX 2 [0,1,2,3,4] (aZ aa) (fun _=>aF ?_);obtain rfl:=sI h;exact rfl
  refine ae (ab (G (GC 6 h (fun h=>af (ak (af ?_))))));obtain⟨ac,E,h⟩:=aj h;rcases ac with⟨d8,d9⟩ | ⟨dd,de⟩
  ·refine lg 1 [0,1,2,3,4] (aM E) (ab (Ec h (dw (oT Tryz.f162.ntmps (fun(v6,v7)=>aA [(2,.adr 5 0 3 0),(5,.adr 6 0 3 0)] (OC x v7 z A (i64.wrap (N+1)) O o1 o2 o3 o4 0 (0:Int) (1:Int) v6) 7 5)) (sD (ba 47 .i64 .i64))) (fun u h=>?_) (fun u h e σ' hq=>?_)))
   ·refine aC h (fun ad h=>?_) (fun ad h=>?_)
    ·refine Ge ?_;obtain rfl:=sI h;exact bm (cM (gg [] [0,1,2,3,4,5,181]))
    refine af ?_;obtain⟨ax,I,h⟩:=aj h;rcases ax with⟨di,dk⟩ | ⟨b7,b8⟩
    ·refine lg 1 [0,1,2,3,4] (aM I) (ab (aC h (fun b1 h=>?_) (fun b1 h=>?_)))
     ·refine af ?_;obtain⟨b2,J,h⟩:=aj h;rcases b2 with⟨dm,ds⟩ | ⟨b9,be⟩
      ·refine lg 1 [0,1,2,3,4] (aM J) (ab (af ?_));obtain⟨b3,L,h⟩:=aj h;rcases b3 with⟨dt,du⟩ | ⟨bi,bs⟩
       ·refine lg 1 [0,1,2,3,4] (aL L) (ab (G (aC h (fun b4 h=>?_) (fun b4 h=>?_))))
        ·refine Ge ?_;obtain rfl:=sI h;exact bm (cM (gg [] [0,1,2,3,4,5,181]))
        refine ae ?_;obtain rfl:=sI h;exact bm (cM (gg [] [0,1,2,3,4,5,181]))
       refine GX 1 [0,1,2,3,4] (aL L) (fun _=>?_);obtain rfl:=sI h;refine aF (aN ?_);exact rfl
      refine GX 1 [0,1,2,3,4] (aM J) (fun _=>?_);obtain rfl:=sI h;refine aF (aN ?_);exact rfl
     obtain⟨b5,M,h⟩:=aj h;rcases b5 with⟨bv,bx⟩ | ⟨c1,c2⟩
     ·refine lg 1 [0,1,2,3,4] (dx M) ?_;obtain rfl:=sI h;exact bm (cM (gg [] [0,1,2,3,4,5,181]))
     refine GX 1 [0,1,2,3,4] (dx M) (fun _=>?_);obtain rfl:=sI h;exact aN (rfl)
    refine GX 1 [0,1,2,3,4] (aM I) (fun _=>?_);obtain rfl:=sI h;refine aF (aN ?_);exact rfl
   rcases u with⟨v6,v7⟩ | ⟨e1,c3⟩
   ·obtain⟨rfl,b6⟩:=hq;refine cC ?_ b6;refine ay (ab (G (au ?_)));obtain rfl:=sI h;exact RO [some (.tree .u8 .u32)] [] [0,1,2,3,4,5] [(2,.adr 5 0 3 0)] (M7 x v7 z A (i64.wrap (N+1)) O o1 o2 o3 o4 1 v6) 6 5
   obtain rfl:=hq;refine bu (aF ?_);obtain rfl:=sI h;exact rfl
  refine GX 1 [0,1,2,3,4] (aM E) (fun _=>aF (bu (aF ?_)));obtain rfl:=sI h;exact rfl
 refine GX 1 [0,1,2,3,4] (aM B) (fun _=>aF (aF ?_));obtain rfl:=sI h;exact rfl
def hJ(I:QX)(p3 p4:Int)(o1:QQ)(o2:QK)(o3:XJ)(o4:XQ)(e:Tree)(j p:Int):(Int×Int)→Option ((Int×Int)⊕((Int)⊕((Int×Int)⊕pc))):=fun(f,c) =>
 (if(decide (c<7))=true then(if 0≤c∧c<((7:Nat):Int)then(((if((([0,0,0,0,42,43,63]:QK).getD c.toNat 0) != 0)=true then((bk (([0,0,0,0,42,43,63]:QK).getD c.toNat 0) I f p3 p4 j p o1 o2 o3 o4).bind fun(u:(Bool×Int)⊕(Int×Int))=>match u with
 | .inr (v,x)=>some ((Sum.inr (v,x)))
 | .inl (z,A)=>some ((Sum.inl (A,z))))
 else some ((Sum.inl (f,false))))).bind fun(B:((Int×Bool)⊕(Int×Int)))=>match B with
 | .inl (q,C)=>(if C=true then some (Sum.inr (Sum.inr (Sum.inr ((Tree.node (u8.wrap c) (0:Int) ([(Tree.node e.op e.set e.kids)]:XX)),q,j,p))))
 else some (Sum.inl (q,(i64.wrap (c+1)))))
 | .inr ((D,E))=>some (Sum.inr (Sum.inr (Sum.inl (D,E)))))else none)
 else some (Sum.inr (Sum.inl f)))
def ez(c:QX→Int→Int→Int→Int→Int→QQ→QK→XJ→XQ→Option (pc⊕(Int×Int)))(J:QX)(L p3 p4 p5 p6:Int)(o1:QQ)(o2:QK)(o3:XJ)(o4:XQ):Option (pc⊕(Int×Int)) :=
 ((eA c J L p3 p4 p5 p6 o1 o2 o3 o4).bind fun(p:pc⊕(Int×Int))=>match p with
 | .inr (q,u)=>some (Sum.inr (q,u))
 | .inl (e,v,f,j)=>((iter (hJ J p3 p4 o1 o2 o3 o4 e f j) (v,0)).bind fun(x:((Int)⊕((Int×Int)⊕pc)))=>match x with
 | .inl z=>some (Sum.inl ((Tree.node e.op e.set e.kids),z,f,j))
 | .inr (.inl (A,B))=>some (Sum.inr (A,B))
 | .inr (.inr ((C,D,E,I)))=>some (Sum.inl (C,D,E,I))))
theorem ic(c:QX→Int→Int→Int→Int→Int→QQ→QK→XJ→XQ→Option (pc⊕(Int×Int)))(f:∀ {v:QX} {M p3:Int} {p4 p5 p6:Int} {o1:QQ} {o2:QK} {o3:XJ} {o4:XQ} {z:pc⊕(Int×Int)},c v M p3 p4 p5 p6 o1 o2 o3 o4=some z→jc Tryz.prog 138 [.adr 0 0 10 0] (bL v M p3 p4 p5 p6 o1 o2 o3 o4) (kb (fun(q:Tree×Int×Int×Int)=>(.agg [.u8 q.1.op,.u32 q.1.set,.p false (.slice (.tree .u8 .u32)) q.1.kids],(bL v q.2.1 p3 p4 q.2.2.1 q.2.2.2 o1 o2 o3 o4))) (ba 47 .i64 .i64) z)){v:QX}{M p3:Int}{p4 p5 p6:Int}{o1:QQ}{o2:QK}{o3:XJ}{o4:XQ}{z:pc⊕(Int×Int)}(h:ez c v M p3 p4 p5 p6 o1 o2 o3 o4=some z):
  jc Tryz.prog 159 [.adr 0 0 10 0] (bL v M p3 p4 p5 p6 o1 o2 o3 o4) (kb (fun(q:Tree×Int×Int×Int)=>(.agg [.u8 q.1.op,.u32 q.1.set,.p false (.slice (.tree .u8 .u32)) q.1.kids],(bL v q.2.1 p3 p4 q.2.2.1 q.2.2.2 o1 o2 o3 o4))) (ba 47 .i64 .i64) z):=by
 refine DB Tryz.func159 (fun Bw w0=>?_);unfold ez at h;refine G (af ?_);obtain⟨a3,N,h⟩:=aj h;rcases a3 with⟨j,a8,A,B⟩ | ⟨a9,aa⟩
 ·refine lg 1 [0,1,2,3,4] (ie c f N) (ab (af (G (ak ?_))));refine kj h (fun(O,C)=>aA [(0,.adr 0 0 10 0),(2,.adr 5 0 3 0),(3,.adr 6 0 3 0),(8,.agg [.u8 0,.u8 0,.u8 0,.u8 0,.u8 42,.u8 43,.u8 63]),(9,.i64 C)] (Mf v O p3 p4 A B o1 o2 o3 o4 0 (0:Int) j.op j.set j.kids) 7 5) (dw (fc Tryz.f159.ntmps 0 (fun E=>aA [(2,.adr 5 0 3 0),(3,.adr 6 0 3 0)] (Mf v E p3 p4 A B o1 o2 o3 o4 0 (0:Int) j.op j.set j.kids) 7 5)) (dw (sD (ba 47 .i64 .i64)) (Es tb Tryz.f159.ntmps Tryz.f159.results.toList (fun(D,V,X,Y)=>(.agg [.u8 D.op,.u32 D.set,.p false (.slice (.tree .u8 .u32)) D.kids],(bL v V p3 p4 X Y o1 o2 o3 o4)))))) (gg [] [0,1,2,3,4,5,29]) (fun y o h=>?_) (fun a4 h e σ' L=>?_)
  ·obtain⟨O,C⟩:=y;unfold hJ at h;refine G (af (aC h (fun a5 h=>?_) (fun a5 h=>?_)))
   ·refine ae (ab (af (ak (GC 1 h (fun h=>af (Ec h (dw (oT Tryz.f159.ntmps (fun(I,Z)=>aA [(0,.adr 0 0 10 0),(2,.adr 5 0 3 0),(3,.adr 6 0 3 0),(4,.i64 C),(8,.agg [.u8 0,.u8 0,.u8 0,.u8 0,.u8 42,.u8 43,.u8 63]),(9,.i64 C),(19,.bo Z)] (Mf v I p3 p4 A B o1 o2 o3 o4 0 (0:Int) j.op j.set j.kids) 7 5)) (sD (ba 47 .i64 .i64))) (fun a1 h=>?_) (fun a1 h e σ' L=>?_)))))))
    ·rcases aI h with⟨u,h⟩ | ⟨u,h⟩
     ·obtain⟨a6,a2,h⟩:=aj h;rcases a6 with⟨ac,ad⟩ | ⟨ax,b1⟩
      ·have x:=(aM a2);refine bz ⟨[(2,true),(6,true)],[(5,(oO x [0,1,2,3,4]))]⟩ [(3,4,an u),(5,5,oc (And.intro u x)),(6,6,oc u)] ?_;obtain rfl:=sI h;exact bm (cM (gg [] [0,1,2,3,4,5,6]))
      have x:=(aM a2);refine OV x ⟨[(2,true)],[(5,(oD x [0,1,2,3,4]))]⟩ 5 [(3,4,an u),(5,5,oc (And.intro u x))] (fun _=>?_);obtain rfl:=sI h;exact aN (rfl)
     refine bz ⟨[(2,false),(6,false)],[]⟩ [(3,6,oc u)] ?_;obtain rfl:=sI h;exact bm (cM (gg [] [0,1,2,3,4,5,6]))
    rcases a1 with⟨I,Z⟩ | ⟨b2,b3⟩
    ·obtain⟨rfl,J⟩:=L;refine cC ?_ J;refine ab (aC h (fun a7 h=>?_) (fun a7 h=>?_))
     ·refine G (kr [.frzC 5 2] (by kernel_rfl) (au ?_));obtain rfl:=sI h;refine aB (ah (bG (aN (aN ?_))));exact Ag (RO [some (.tree .u8 .u32)] [] [0,1,2,3,4,5] [(2,.adr 5 0 3 0)] (El v I p3 p4 A B o1 o2 o3 o4 (u8.wrap C) (0:Int) ([(Tree.node j.op j.set j.kids)]:XX)) 6 5)
     refine ae (ay (ab (Ge ?_)));exact eB h (gg [] [0,1,2,3,4,5,6])
    obtain rfl:=L;obtain rfl:=sI h;refine aF (bu (aF (bU (aN (BN ?_)))));exact rfl
   refine aw (aQ ?_);obtain rfl:=sI h;refine dJ (bm ?_);exact bN (gg [] [0,1,2,3,4,5,6])
  rcases a4 with E | ⟨b4,b5⟩ | ⟨D,V,X,Y⟩
  ·obtain⟨rfl,J⟩:=L;refine cC ?_ J;refine az (ab (G (au ?_)));obtain rfl:=sI h;exact RO [some (.tree .u8 .u32)] [] [0,1,2,3,4,5] [(2,.adr 5 0 3 0)] (El v E p3 p4 A B o1 o2 o3 o4 j.op j.set j.kids) 6 5
  ·obtain rfl:=L;refine bu (aF ?_);obtain rfl:=sI h;exact rfl
  obtain⟨rfl,hr⟩:=L;refine aB (ah ?_);obtain rfl:=sI h;exact hr
 refine GX 1 [0,1,2,3,4] (ie c f N) (fun _=>aF ?_);obtain rfl:=sI h;exact rfl
def jh(O:QX)(p3 p4:Int)(o1:QQ)(o2:QK)(o3:XJ)(o4:XQ)(c:QX→Int→Int→Int→Int→Int→QQ→QK→XJ→XQ→Option (pc⊕(Int×Int))):(Int×Int×Int×XX×Int)→Option ((Int×Int×Int×XX×Int)⊕((XX×Int×Int×Int)⊕(Int×Int))):=fun(f,j,p,x,z) =>
 ((((dB z).bind fun A =>
 (if A=true then some (true)
 else(if(z == 40)=true then some (true)
 else(if(z == 91)=true then some (true)
 else some ((z == 46))))))).bind fun B=>(if B=true then((ez c O f p3 p4 j p o1 o2 o3 o4).bind fun(C:pc⊕(Int×Int))=>match C with
 | .inr (D,E)=>some (Sum.inr (Sum.inr (D,E)))
 | .inl (e,I,q,u)=>(if(x.length+([(Tree.node e.op e.set e.kids)]:XX).length)*32≤140737488355328∧x.length+([(Tree.node e.op e.set e.kids)]:XX).length≤9223372036854775807 then((bj O I p3 p4 q u o1 o2 o3 o4).bind fun(J:(Int×Int)⊕(Int×Int))=>match J with
 | .inr (L,M)=>some (Sum.inr (Sum.inr (L,M)))
 | .inl (N,v)=>some (Sum.inl (v,q,u,(x++([(Tree.node e.op e.set e.kids)]:XX)),N)))else none))
 else some (Sum.inr (Sum.inl (x,f,j,p)))))
def dL(c:QX→Int→Int→Int→Int→Int→QQ→QK→XJ→XQ→Option (pc⊕(Int×Int)))(D:QX)(E p3 p4 p5 p6:Int)(o1:QQ)(o2:QK)(o3:XJ)(o4:XQ):Option (pc⊕(Int×Int)) :=
 ((bj D E p3 p4 p5 p6 o1 o2 o3 o4).bind fun(u:(Int×Int)⊕(Int×Int))=>match u with
 | .inr (v,x)=>some (Sum.inr (v,x))
 | .inl (z,A)=>((iter (jh D p3 p4 o1 o2 o3 o4 c) (A,p5,p6,([]:XX),z)).bind fun(q:((XX×Int×Int×Int)⊕(Int×Int)))=>match q with
 | .inl (e,f,j,p)=>(if((e.length:Int) == 0)=true then some (Sum.inl ((Tree.node 0 (0:Int) ([]:XX)),f,j,p))
 else(if((e.length:Int) == 1)=true then(if 0≤(0:Int)∧0<(e.length:Int)then(if(0:Int).toNat<e.length then some (Sum.inl ((Tree.node ((e.getD ((0:Int).toNat) (Tree.node 0 0 [])).op) ((e.getD ((0:Int).toNat) (Tree.node 0 0 [])).set) ((e.getD ((0:Int).toNat) (Tree.node 0 0 [])).kids)),f,j,p))else none)else none)
 else some (Sum.inl ((Tree.node 2 (0:Int) e),f,j,p))))
 | .inr ((B,C))=>some (Sum.inr (B,C))))
theorem dP(c:QX→Int→Int→Int→Int→Int→QQ→QK→XJ→XQ→Option (pc⊕(Int×Int)))(f:∀ {v:QX} {O p3:Int} {p4 p5 p6:Int} {o1:QQ} {o2:QK} {o3:XJ} {o4:XQ} {z:pc⊕(Int×Int)},c v O p3 p4 p5 p6 o1 o2 o3 o4=some z→jc Tryz.prog 138 [.adr 0 0 10 0] (bL v O p3 p4 p5 p6 o1 o2 o3 o4) (kb (fun(q:Tree×Int×Int×Int)=>(.agg [.u8 q.1.op,.u32 q.1.set,.p false (.slice (.tree .u8 .u32)) q.1.kids],(bL v q.2.1 p3 p4 q.2.2.1 q.2.2.2 o1 o2 o3 o4))) (ba 47 .i64 .i64) z)){v:QX}{O p3:Int}{p4 p5 p6:Int}{o1:QQ}{o2:QK}{o3:XJ}{o4:XQ}{z:pc⊕(Int×Int)}(h:dL c v O p3 p4 p5 p6 o1 o2 o3 o4=some z):
  jc Tryz.prog 153 [.adr 0 0 10 0] (bL v O p3 p4 p5 p6 o1 o2 o3 o4) (kb (fun(q:Tree×Int×Int×Int)=>(.agg [.u8 q.1.op,.u32 q.1.set,.p false (.slice (.tree .u8 .u32)) q.1.kids],(bL v q.2.1 p3 p4 q.2.2.1 q.2.2.2 o1 o2 o3 o4))) (ba 47 .i64 .i64) z):=by
 refine DB Tryz.func153 (fun Bw w0=>?_);unfold dL at h;refine G (G (af (af ?_)));obtain⟨a1,V,h⟩:=aj h;rcases a1 with⟨ad,ax⟩ | ⟨b1,b2⟩
 ·refine lg 1 [0,1,2,3,4] (aS V) (ab (ak (kj h (fun(I,J,L,l5,c4)=>aA [(0,.adr 0 0 10 0),(2,.adr 5 0 3 0),(3,.sl 6),(4,.u8 c4)] (HV v I p3 p4 J L o1 o2 o3 o4 0 (0:Int) l5) 7 5) (dw (fc Tryz.f153.ntmps 0 (fun(N,A,B,C)=>aA [(2,.adr 5 0 3 0),(3,.sl 6)] (HV v A p3 p4 B C o1 o2 o3 o4 0 (0:Int) N) 7 5)) (sD (ba 47 .i64 .i64))) (gg [.nilS 3 45 208 (.tree .u8 .u32)] [0,1,2,3,4,5,45]) (fun y o h=>?_) (fun X h e σ' hq=>?_))))
  ·obtain⟨I,J,L,l5,c4⟩:=y;unfold jh at h;refine af (af (bn h (fun M=>aA [(0,.adr 0 0 10 0),(2,.adr 5 0 3 0),(3,.sl 6),(20,.bo M)] (HV v I p3 p4 J L o1 o2 o3 o4 0 (0:Int) l5) 7 5) (fun M h=>?_) (fun M h=>?_)))
   ·obtain⟨b3,D,h⟩:=aj h;rcases aI h with⟨u,h⟩ | ⟨u,h⟩
    ·have j:=(cZ D);exact bz ⟨[(2,true),(5,true)],[(1,(oP j))]⟩ [(1,1,oc j),(3,5,oc u)] (eN h (gg [] [0,1,2,3,4,5,6]))
    rcases aI h with⟨x,h⟩ | ⟨x,h⟩
    ·have j:=(cZ D);exact bz ⟨[(2,false),(5,false),(6,true),(9,true)],[(1,(oP j))]⟩ [(1,1,oc j),(3,4,an u),(5,5,oc u),(7,9,oc x)] (eN h (gg [] [0,1,2,3,4,5,6]))
    rcases aI h with⟨E,h⟩ | ⟨E,h⟩
    ·have j:=(cZ D);exact bz ⟨[(2,false),(5,false),(6,false),(9,false),(10,true),(13,true)],[(1,(oP j))]⟩ [(1,1,oc j),(3,4,an u),(5,5,oc u),(7,8,an x),(9,9,oc x),(11,13,oc E)] (eN h (gg [] [0,1,2,3,4,5,6]))
    have j:=(cZ D);exact bz ⟨[(2,false),(5,false),(6,false),(9,false),(10,false),(13,false)],[(1,(oP j))]⟩ [(1,1,oc j),(3,4,an u),(5,5,oc u),(7,8,an x),(9,9,oc x),(11,12,an E),(13,13,oc E)] (eN h (gg [] [0,1,2,3,4,5,6]))
   refine ab (aC h (fun a2 h=>?_) (fun a2 h=>?_))
   ·refine ae (ab (af (ak ?_)));obtain⟨a3,Y,h⟩:=aj h;rcases a3 with⟨b4,b5,b6,b7⟩ | ⟨b8,b9⟩
    ·obtain⟨a4,h⟩:=aE h;have j:=(ic c f Y);refine bz ⟨[],[(2,(oO j [0,1,2,3,4]))]⟩ [(2,2,oc j),(4,4,oc a4)] (ay (ab ?_));obtain⟨a5,Z,h⟩:=aj h;rcases a5 with⟨be,ac⟩ | ⟨bi,bs⟩
     ·exact lg 1 [0,1,2,3,4] (aS Z) (eB h (gg [] [0,1,2,3,4,5,39]))
     refine GX 1 [0,1,2,3,4] (aS Z) (fun _=>?_);obtain rfl:=sI h;refine bU (aN ?_);exact rfl
    refine GX 2 [0,1,2,3,4] (ic c f Y) (fun _=>?_);obtain rfl:=sI h;refine bu (aF (bU (aN ?_)));exact rfl
   refine aw (aQ ?_);obtain rfl:=sI h;refine dJ (bm ?_);exact bN (gg [] [0,1,2,3,4,5,6])
  rcases X with⟨N,A,B,C⟩ | ⟨bv,bx⟩
  ·obtain⟨rfl,a6⟩:=hq;refine cC ?_ a6;refine az (ab (af (G (ak (G (aC h (fun a7 h=>?_) (fun a7 h=>?_)))))))
   ·refine G (au (aB (ah ?_)));obtain rfl:=sI h;exact RO [some (.tree .u8 .u32)] [] [0,1,2,3,4,5] [(2,.adr 5 0 3 0)] (M7 v A p3 p4 B C o1 o2 o3 o4 0 (0:Int)) 6 5
   refine G (aC h (fun a8 h=>?_) (fun a8 h=>?_))
   ·obtain⟨a9,aa,h⟩:=g2 h;refine GN a0 [(1,1,oc a9),(2,2,oc aa)] (au (aB (ah ?_)));obtain rfl:=sI h;exact RO [some (.tree .u8 .u32)] [] [0,1,2,3,4,5] [(2,.adr 5 0 3 0)] (El v A p3 p4 B C o1 o2 o3 o4 ((N.getD ((0:Int).toNat) (Tree.node 0 0 [])).op) ((N.getD ((0:Int).toNat) (Tree.node 0 0 [])).set) ((N.getD ((0:Int).toNat) (Tree.node 0 0 [])).kids)) 6 5
   refine ae (ay (ab (G (kr [.frzC 5 2] (by kernel_rfl) (au ?_)))));obtain rfl:=sI h;exact RO [some (.tree .u8 .u32)] [] [0,1,2,3,4,5] [(2,.adr 5 0 3 0)] (El v A p3 p4 B C o1 o2 o3 o4 2 (0:Int) N) 6 5
  obtain rfl:=hq;refine bu (aF ?_);obtain rfl:=sI h;exact rfl
 refine GX 1 [0,1,2,3,4] (aS V) (fun _=>aF (aF ?_));obtain rfl:=sI h;exact rfl
def gT(L:QX)(p3 p4:Int)(o1:QQ)(o2:QK)(o3:XJ)(o4:XQ)(c:QX→Int→Int→Int→Int→Int→QQ→QK→XJ→XQ→Option (pc⊕(Int×Int))):(Int×Int×Int×XX)→Option ((Int×Int×Int×XX)⊕((XX×Int×Int×Int)⊕(Int×Int))):=fun(E,p,q,f) =>
 ((bk 124 L E p3 p4 p q o1 o2 o3 o4).bind fun(I:(Bool×Int)⊕(Int×Int))=>match I with
 | .inr (u,v)=>some (Sum.inr (Sum.inr (u,v)))
 | .inl (x,j)=>(if x=true then((dL c L j p3 p4 p q o1 o2 o3 o4).bind fun(J:pc⊕(Int×Int))=>match J with
 | .inr (z,A)=>some (Sum.inr (Sum.inr (z,A)))
 | .inl (e,B,C,D)=>(if(f.length+([(Tree.node e.op e.set e.kids)]:XX).length)*32≤140737488355328∧f.length+([(Tree.node e.op e.set e.kids)]:XX).length≤9223372036854775807 then some (Sum.inl (B,C,D,(f++([(Tree.node e.op e.set e.kids)]:XX))))else none))
 else some (Sum.inr (Sum.inl (f,j,p,q)))))
def eY(c:QX→Int→Int→Int→Int→Int→QQ→QK→XJ→XQ→Option (pc⊕(Int×Int)))(I:QX)(J p3 p4 p5 p6:Int)(o1:QQ)(o2:QK)(o3:XJ)(o4:XQ):Option (pc⊕(Int×Int)) :=
 ((dL c I J p3 p4 p5 p6 o1 o2 o3 o4).bind fun(C:pc⊕(Int×Int))=>match C with
 | .inr (D,E)=>some (Sum.inr (D,E))
 | .inl (f,j,p,q)=>((iter (gT I p3 p4 o1 o2 o3 o4 c) (j,p,q,([(Tree.node f.op f.set f.kids)]:XX))).bind fun(u:((XX×Int×Int×Int)⊕(Int×Int)))=>match u with
 | .inl (e,v,x,z)=>(if((e.length:Int) == 1)=true then(if 0≤(0:Int)∧0<(e.length:Int)then(if(0:Int).toNat<e.length then some (Sum.inl ((Tree.node ((e.getD ((0:Int).toNat) (Tree.node 0 0 [])).op) ((e.getD ((0:Int).toNat) (Tree.node 0 0 [])).set) ((e.getD ((0:Int).toNat) (Tree.node 0 0 [])).kids)),v,x,z))else none)else none)
 else some (Sum.inl ((Tree.node 3 (0:Int) e),v,x,z)))
 | .inr ((A,B))=>some (Sum.inr (A,B))))
def bK:Nat→QX→Int→Int→Int→Int→Int→QQ→QK→XJ→XQ→Option (pc⊕(Int×Int))
 | 0=>fun _ _ _ _ _ _ _ _ _ _=>none
 | n+1=>eY (bK n)
theorem kO(c:QX→Int→Int→Int→Int→Int→QQ→QK→XJ→XQ→Option (pc⊕(Int×Int)))(f:∀ {u:QX} {B p3:Int} {p4 p5 p6:Int} {o1:QQ} {o2:QK} {o3:XJ} {o4:XQ} {v:pc⊕(Int×Int)},c u B p3 p4 p5 p6 o1 o2 o3 o4=some v→jc Tryz.prog 138 [.adr 0 0 10 0] (bL u B p3 p4 p5 p6 o1 o2 o3 o4) (kb (fun(q:Tree×Int×Int×Int)=>(.agg [.u8 q.1.op,.u32 q.1.set,.p false (.slice (.tree .u8 .u32)) q.1.kids],(bL u q.2.1 p3 p4 q.2.2.1 q.2.2.2 o1 o2 o3 o4))) (ba 47 .i64 .i64) v)){u:QX}{B p3:Int}{p4 p5 p6:Int}{o1:QQ}{o2:QK}{o3:XJ}{o4:XQ}{v:pc⊕(Int×Int)}(h:eY c u B p3 p4 p5 p6 o1 o2 o3 o4=some v):
  jc Tryz.prog 138 [.adr 0 0 10 0] (bL u B p3 p4 p5 p6 o1 o2 o3 o4) (kb (fun(q:Tree×Int×Int×Int)=>(.agg [.u8 q.1.op,.u32 q.1.set,.p false (.slice (.tree .u8 .u32)) q.1.kids],(bL u q.2.1 p3 p4 q.2.2.1 q.2.2.2 o1 o2 o3 o4))) (ba 47 .i64 .i64) v):=by
 refine DB Tryz.func138 (fun Bw w0=>?_);unfold eY at h;refine G (af ?_);obtain⟨V,C,h⟩:=aj h;rcases V with⟨a6,a7,a8,a9⟩ | ⟨b9,be⟩
 ·refine lg 1 [0,1,2,3,4] (dP c f C) (ab (af (ak (kj h (fun(D,E,I,J)=>aA [(0,.adr 0 0 10 0),(2,.adr 5 0 3 0),(3,.sl 6)] (HV u D p3 p4 E I o1 o2 o3 o4 0 (0:Int) J) 7 5) (dw (fc Tryz.f138.ntmps 0 (fun(j,x,z,A)=>aA [(2,.adr 5 0 3 0),(3,.sl 6)] (HV u x p3 p4 z A o1 o2 o3 o4 0 (0:Int) j) 7 5)) (sD (ba 47 .i64 .i64))) (gg [] [0,1,2,3,4,5,29]) (fun y o h=>?_) (fun L h e σ' hq=>?_)))))
  ·obtain⟨D,E,I,J⟩:=y;unfold gT at h;refine af (af ?_);obtain⟨X,M,h⟩:=aj h;rcases X with⟨aa,ac⟩ | ⟨ad,ax⟩
   ·refine lg 1 [0,1,2,3,4] (aM M) (ab (aC h (fun Y h=>?_) (fun Y h=>?_)))
    ·refine ae (ab (ak ?_));obtain⟨Z,N,h⟩:=aj h;rcases Z with⟨b1,b2,b3,b4⟩ | ⟨b5,b6⟩
     ·obtain⟨a1,h⟩:=aE h;have O:=(dP c f N);refine bz ⟨[],[(2,(oO O [0,1,2,3,4]))]⟩ [(2,2,oc O),(4,4,oc a1)] (ay ?_);exact eB h (gg [] [0,1,2,3,4,5,55])
     refine GX 2 [0,1,2,3,4] (dP c f N) (fun _=>?_);obtain rfl:=sI h;refine bu (bU (aN ?_));exact rfl
    refine aw (aQ ?_);obtain rfl:=sI h;refine dJ (bm ?_);exact bN (gg [] [0,1,2,3,4,5,6])
   refine GX 1 [0,1,2,3,4] (aM M) (fun _=>?_);obtain rfl:=sI h;refine aF (aF (bU (aN ?_)));exact rfl
  rcases L with⟨j,x,z,A⟩ | ⟨b7,b8⟩
  ·obtain⟨rfl,a2⟩:=hq;refine cC ?_ a2;refine az (ab (af (G (aC h (fun a3 h=>?_) (fun a3 h=>?_)))))
   ·obtain⟨a4,a5,h⟩:=g2 h;refine GN a0 [(1,1,oc a4),(2,2,oc a5)] (au (ah ?_));obtain rfl:=sI h;exact RO [some (.tree .u8 .u32)] [] [0,1,2,3,4,5] [(2,.adr 5 0 3 0)] (El u x p3 p4 z A o1 o2 o3 o4 ((j.getD ((0:Int).toNat) (Tree.node 0 0 [])).op) ((j.getD ((0:Int).toNat) (Tree.node 0 0 [])).set) ((j.getD ((0:Int).toNat) (Tree.node 0 0 [])).kids)) 6 5
   refine ae (ab (G (kr [.frzC 5 2] (by kernel_rfl) (au ?_))));obtain rfl:=sI h;exact RO [some (.tree .u8 .u32)] [] [0,1,2,3,4,5] [(2,.adr 5 0 3 0)] (El u x p3 p4 z A o1 o2 o3 o4 3 (0:Int) j) 6 5
  obtain rfl:=hq;refine bu (aF ?_);obtain rfl:=sI h;exact rfl
 refine GX 1 [0,1,2,3,4] (dP c f C) (fun _=>aF ?_);obtain rfl:=sI h;exact rfl
theorem cd:∀(n:Nat) {e:QX} {f p3:Int} {p4 p5 p6:Int} {o1:QQ} {o2:QK} {o3:XJ} {o4:XQ} {c:pc⊕(Int×Int)},bK n e f p3 p4 p5 p6 o1 o2 o3 o4=some c→jc Tryz.prog 138 [.adr 0 0 10 0] (bL e f p3 p4 p5 p6 o1 o2 o3 o4) (kb (fun(q:Tree×Int×Int×Int)=>(.agg [.u8 q.1.op,.u32 q.1.set,.p false (.slice (.tree .u8 .u32)) q.1.kids],(bL e q.2.1 p3 p4 q.2.2.1 q.2.2.2 o1 o2 o3 o4))) (ba 47 .i64 .i64) c)
 | 0,_,_,_,_,_,_,_,_,_,_,_,h=>by cases h
 | n+1,e,f,p3,p4,p5,p6,o1,o2,o3,o4,c,h=>kO (bK n) (cd n)  h
def eH(f x:Int)(j:QX)(p2 p3 p4 p5 p6:Int)(o1:QQ)(o2:QK)(o3:XJ)(o4:XQ):Option ((Int×XJ×Int×Int)⊕(Int×Int)) :=
 (if(decide ((o3.length:Int)≥24))=true then((bf 24 x j p2 p3 p4 p5 p6 o1 o2 o3 o4).bind fun(z:(Unit)⊕(Int×Int))=>match z with
 | .inr (A,B)=>some (Sum.inr (A,B))
 | .inl _=>none)
 else((bK 1000 j p2 p3 p4 p5 p6 o1 o2 o3 o4).bind fun(C:pc⊕(Int×Int))=>match C with
 | .inr (D,E)=>some (Sum.inr (D,E))
 | .inl (c,I,p,q)=>((bD 47 j I p3 p4 p q o1 o2 o3 o4).bind fun(J:(Int)⊕(Int×Int))=>match J with
 | .inr (L,M)=>some (Sum.inr (L,M))
 | .inl N=>((bK 1000 j N p3 p4 p q o1 o2 o3 o4).bind fun(O:pc⊕(Int×Int))=>match O with
 | .inr (V,X)=>some (Sum.inr (V,X))
 | .inl (e,Y,u,v)=>((bD 59 j Y p3 p4 u v o1 o2 o3 o4).bind fun(Z:(Int)⊕(Int×Int))=>match Z with
 | .inr (a1,a2)=>some (Sum.inr (a1,a2))
 | .inl a3=>(if(o3.length+([(f,(Tree.node c.op c.set c.kids),(Tree.node e.op e.set e.kids))]:XJ).length)*72≤140737488355328∧o3.length+([(f,(Tree.node c.op c.set c.kids),(Tree.node e.op e.set e.kids))]:XJ).length≤9223372036854775807 then some (Sum.inl (a3,(o3++([(f,(Tree.node c.op c.set c.kids),(Tree.node e.op e.set e.kids))]:XJ)),u,v))else none))))))
theorem iI{c j:Int}{A:QX}{O p3:Int}{p4 p5 p6:Int}{o1:QQ}{o2:QK}{o3:XJ}{o4:XQ}{p:(Int×XJ×Int×Int)⊕(Int×Int)}(h:eH c j A O p3 p4 p5 p6 o1 o2 o3 o4=some p):
  jc Tryz.prog 103 [.adr 0 0 10 0,.u8 c,.i64 j] (bL A O p3 p4 p5 p6 o1 o2 o3 o4) (kb (fun(q:Int×XJ×Int×Int)=>(.tup [],(M8 A q.1 p3 p4 q.2.2.1 q.2.2.2 o1 o2 o4 q.2.1))) (ba 47 .i64 .i64) p):=by
 refine DB Tryz.func103 (fun Bw w0=>?_);unfold eH at h;refine af (G (aC h (fun V h=>?_) (fun V h=>?_)))
 ·obtain⟨B,C,h⟩:=aj h;rcases B with _ | ⟨X,Y⟩
  ·cases h
  refine GX 2 [0,1,2,3,4] (aZ C) (fun _=>aF ?_);obtain rfl:=sI h;exact rfl
 refine ae (ab (G (af ?_)));obtain⟨D,u,h⟩:=aj h;rcases D with⟨e,Z,a1,a2⟩ | ⟨a3,a4⟩
 ·refine lg 1 [0,1,2,3,4] (cd 1000 u) (ab (af ?_));obtain⟨E,v,h⟩:=aj h;rcases E with a5 | ⟨a6,a7⟩
  ·refine lg 1 [0,1,2,3,4] (aV v) (ab (af ?_));obtain⟨I,x,h⟩:=aj h;rcases I with⟨f,a8,J,L⟩ | ⟨a9,aa⟩
   ·refine lg 1 [0,1,2,3,4] (cd 1000 x) (ab (af ?_));obtain⟨M,z,h⟩:=aj h;rcases M with N | ⟨ac,ad⟩
    ·refine lg 1 [0,1,2,3,4] (aV z) (ab ?_);obtain⟨c4,h⟩:=aE h;refine kY a0 [(8,8,oc c4)] ?_;obtain rfl:=sI h;exact(RO [] [] [0,1,2,3,4,253] [] (M8 A N p3 p4 J L o1 o2 o4 (o3++([(c,(Tree.node e.op e.set e.kids),(Tree.node f.op f.set f.kids))]:XJ))) 6 5).normal
    refine GX 1 [0,1,2,3,4] (aV z) (fun _=>aF ?_);obtain rfl:=sI h;exact rfl
   refine GX 1 [0,1,2,3,4] (cd 1000 x) (fun _=>aF ?_);obtain rfl:=sI h;exact rfl
  refine GX 1 [0,1,2,3,4] (aV v) (fun _=>aF ?_);obtain rfl:=sI h;exact rfl
 refine GX 1 [0,1,2,3,4] (cd 1000 u) (fun _=>aF ?_);obtain rfl:=sI h;exact rfl
def kG(A:QX):L0→Option (L0⊕(L0⊕(Int×Int))):=fun(b8,c,e,f,u,j,v,p,q) =>
 ((bj A b8 e f p q c u j v).bind fun(b9:(Int×Int)⊕(Int×Int))=>match b9 with
 | .inr (D,E)=>some (Sum.inr (Sum.inr (D,E)))
 | .inl (I,B)=>(if(I != 0)=true then((bZ A B e f p q c u j v).bind fun(be:(QX×Int×Int)⊕(Int×Int))=>match be with
 | .inr (J,L)=>some (Sum.inr (Sum.inr (J,L)))
 | .inl (x,C,z)=>(if(cJ .str ([99,108,97,115,115]:QX) x)=true then((eg A z e f p q c u j v).bind fun(bi:(Int×QQ×QK×XQ)⊕(Int×Int))=>match bi with
 | .inr (M,N)=>some (Sum.inr (Sum.inr (M,N)))
 | .inl (O,V,X,Y)=>some (Sum.inl (O,V,e,f,X,j,Y,p,q)))
 else(if(cJ .str ([115,101,116]:QX) x)=true then((ff A z e f p q c u j v).bind fun(bs:(Int×XQ)⊕(Int×Int))=>match bs with
 | .inr (Z,a1)=>some (Sum.inr (Sum.inr (Z,a1)))
 | .inl (a2,a3)=>some (Sum.inl (a2,c,e,f,u,j,a3,p,q)))
 else(if(cJ .str ([106,111,105,110]:QX) x)=true then((eS A z e f p q c u j v).bind fun(bv:Z8⊕(Int×Int))=>match bv with
 | .inr (a4,a5)=>some (Sum.inr (Sum.inr (a4,a5)))
 | .inl (a6,a7,a8)=>some (Sum.inl (a6,c,a7,a8,u,j,v,p,q)))
 else(if(cJ .str ([116,114,101,97,116]:QX) x)=true then((ep A z e f p q c u j v).bind fun(bx:(Int×QK)⊕(Int×Int))=>match bx with
 | .inr (a9,aa)=>some (Sum.inr (Sum.inr (a9,aa)))
 | .inl (ac,ad)=>some (Sum.inl (ac,c,e,f,ad,j,v,p,q)))
 else(if((aU .str (cj .str (cj .str (cj .str ([]:XQ) ([107,101,101,112]:QX) (0:Int)) ([109,97,121]:QX) (1:Int)) ([109,117,115,116]:QX) (2:Int)) x).isSome)=true then((eH ((aU .str (cj .str (cj .str (cj .str ([]:XQ) ([107,101,101,112]:QX) (0:Int)) ([109,97,121]:QX) (1:Int)) ([109,117,115,116]:QX) (2:Int)) x).getD 0) C A z e f p q c u j v).bind fun(c1:(Int×XJ×Int×Int)⊕(Int×Int))=>match c1 with
 | .inr (ax,b1)=>some (Sum.inr (Sum.inr (ax,b1)))
 | .inl (b2,b3,b4,b5)=>some (Sum.inl (b2,c,e,f,u,b3,v,b4,b5)))
 else((bf 21 C A z e f p q c u j v).bind fun(c2:(Unit)⊕(Int×Int))=>match c2 with
 | .inr (b6,b7)=>some (Sum.inr (Sum.inr (b6,b7)))
 | .inl _=>none)))))))
 else some (Sum.inr (Sum.inl (B,c,e,f,u,j,v,p,q)))))
def gO(B:QX)(C p3 p4 p5 p6:Int)(o1:XQ):Option (L0⊕(Int×Int)) :=
 ((iter (kG B) (C,([]:QQ),p3,p4,([]:QK),([]:XJ),o1,p5,p6)).bind fun(c:(L0⊕(Int×Int)))=>match c with
 | .inl (j,v20,p,q,u,v,x,z,A)=>some (Sum.inl (j,v20,p,q,u,v,x,z,A))
 | .inr ((e,f))=>some (Sum.inr (e,f)))
theorem gW{I:QX}{p2 p3:Int}{p4 p5 p6:Int}{o1:XQ}{J:L0⊕(Int×Int)}(h:gO I p2 p3 p4 p5 p6 o1=some J):
  jc Tryz.prog 72 [.adr 0 0 10 0] (NN I p2 p3 p4 p5 p6 o1) (kb (fun(q:Int×QQ×Int×Int×QK×XJ×XQ×Int×Int)=>(.tup [],(LQ I q.1 q.2.2.1 q.2.2.2.1 q.2.2.2.2.2.2.2.1 q.2.2.2.2.2.2.2.2 q.2.2.2.2.2.2.1 q.2.1 q.2.2.2.2.1 q.2.2.2.2.2.1))) (ba 47 .i64 .i64) J):=by
 refine DB Tryz.func72 (fun Bw w0=>?_);unfold gO at h;refine G (G (ak (kj h (fun(L,M,N,O,V,X,Y,Z,a1)=>aA [(0,.adr 0 0 10 0),(2,.mp 5),(3,.mp 6)] (NV I L N O Z a1 Y M V X (cj .str (cj .str (cj .str ([]:XQ) ([107,101,101,112]:QX) (0:Int)) ([109,97,121]:QX) (1:Int)) ([109,117,115,116]:QX) (2:Int))) 7 2) (dw (fc Tryz.f72.ntmps 0 (fun(u,v20,v,x,z,A,B,C,D)=>aA [] (LQ I u v x C D B v20 z A) 5 2)) (sD (ba 47 .i64 .i64))) (gg [.nilC 0 2 106 9 .str,.nilC 0 5 107 3 (.int .i64),.nilC 0 6 108 210 (.prod (.int .u8) Cp)] [0,1,106,107,108,2,58]) (fun y o h=>?_) (fun a2 h e σ' hq=>?_))))
 ·obtain⟨L,M,N,O,V,X,Y,Z,a1⟩:=y;unfold kG at h;refine af (af ?_);obtain⟨aa,a3,h⟩:=aj h;rcases aa with⟨b9,be⟩ | ⟨bi,bs⟩
  ·refine lg 1 [0,2,3,4,1] (aS a3) (ab (aC h (fun ac h=>?_) (fun ac h=>?_)))
   ·refine ae (ab (ak (af ?_)));obtain⟨ad,a4,h⟩:=aj h;rcases ad with⟨c,bv,bx⟩ | ⟨c1,c2⟩
    ·refine lg 1 [0,2,3,4,1] (bC a4) (ab (af ?_));rcases aI h with⟨f,h⟩ | ⟨f,h⟩
     ·refine bz ⟨[],[(2,⟨.unk,[],false,[],[0],[],none⟩)]⟩ [(2,2,oc (And.intro tt f))] (ab (G (nY rfl ?_)));obtain⟨ax,a5,h⟩:=aj h;rcases ax with⟨c3,c4,c5,c6⟩ | ⟨c7,c8⟩
      ·refine lg 2 [0,2,3,4,1] (ij a5) (ay ?_);exact eB h (gg [] [0,1,175,176,4,5,6])
      refine GX 2 [0,2,3,4,1] (ij a5) (fun _=>?_);obtain rfl:=sI h;refine bu (bU (aN ?_));exact rfl
     rcases aI h with⟨j,h⟩ | ⟨j,h⟩
     ·refine bz ⟨[],[(2,⟨.unk,[],false,[],[1],[],none⟩)]⟩ [(2,2,⟨True∧jV .str [(([99,108,97,115,115]:QX),(il 97)),(([115,101,116]:QX),(il 98)),(([106,111,105,110]:QX),(il 99)),(([116,114,101,97,116]:QX),(il 100))] c 1,⟨trivial,⟨f,j⟩⟩⟩)] (ab (G (nY rfl ?_)));obtain⟨b1,a6,h⟩:=aj h;rcases b1 with⟨c9,cc⟩ | ⟨ch,cl⟩
      ·refine lg 2 [0,2,3,4,1] (jg a6) (ay ?_);exact eB h (gg [] [0,1,2,3,4,5,6])
      refine GX 2 [0,2,3,4,1] (jg a6) (fun _=>?_);obtain rfl:=sI h;refine bu (bU (aN ?_));exact rfl
     rcases aI h with⟨p,h⟩ | ⟨p,h⟩
     ·refine bz ⟨[],[(2,⟨.unk,[],false,[],[2],[],none⟩)]⟩ [(2,2,⟨True∧jV .str [(([99,108,97,115,115]:QX),(il 97)),(([115,101,116]:QX),(il 98)),(([106,111,105,110]:QX),(il 99)),(([116,114,101,97,116]:QX),(il 100))] c 2,⟨trivial,⟨f,⟨j,p⟩⟩⟩⟩)] (ab (G (nY rfl ?_)));obtain⟨b2,a7,h⟩:=aj h;rcases b2 with⟨cp,cs,cx⟩ | ⟨d1,d2⟩
      ·refine lg 2 [0,2,3,4,1] (iH a7) (ay ?_);exact eB h (gg [] [0,1,2,3,4,5,6])
      refine GX 2 [0,2,3,4,1] (iH a7) (fun _=>?_);obtain rfl:=sI h;refine bu (bU (aN ?_));exact rfl
     rcases aI h with⟨E,h⟩ | ⟨E,h⟩
     ·refine bz ⟨[],[(2,⟨.unk,[],false,[],[3],[],none⟩)]⟩ [(2,2,⟨True∧jV .str [(([99,108,97,115,115]:QX),(il 97)),(([115,101,116]:QX),(il 98)),(([106,111,105,110]:QX),(il 99)),(([116,114,101,97,116]:QX),(il 100))] c 3,⟨trivial,⟨f,⟨j,⟨p,E⟩⟩⟩⟩⟩)] (ab (G (nY rfl ?_)));obtain⟨b3,a8,h⟩:=aj h;rcases b3 with⟨d3,d4⟩ | ⟨d5,d6⟩
      ·refine lg 2 [0,2,3,4,1] (hX a8) (ay ?_);exact eB h (gg [] [0,1,2,3,4,5,6])
      refine GX 2 [0,2,3,4,1] (hX a8) (fun _=>?_);obtain rfl:=sI h;refine bu (bU (aN ?_));exact rfl
     refine bz ⟨[],[(2,⟨.unk,[],false,[],[4],[],none⟩)]⟩ [(2,2,⟨True∧jV .str [(([99,108,97,115,115]:QX),(il 97)),(([115,101,116]:QX),(il 98)),(([106,111,105,110]:QX),(il 99)),(([116,114,101,97,116]:QX),(il 100))] c 4,⟨trivial,⟨f,⟨j,⟨p,⟨E,trivial⟩⟩⟩⟩⟩⟩)] (ab (G (oM rfl (G (G (aC h (fun b4 h=>?_) (fun b4 h=>?_)))))))
     ·obtain⟨b5,a9,h⟩:=aj h;rcases b5 with⟨d7,d8,d9,dd⟩ | ⟨de,di⟩
      ·refine lg 3 [0,2,3,4,1] (iI a9) (ay ?_);exact eB h (gg [] [0,1,2,3,255,5,6])
      refine GX 3 [0,2,3,4,1] (iI a9) (fun _=>?_);obtain rfl:=sI h;refine bu (bU (aN ?_));exact rfl
     obtain⟨b6,b7,h⟩:=aj h;rcases b6 with _ | ⟨dk,dm⟩
     ·cases h
     refine GX 2 [0,2,3,4,1] (aZ b7) (fun _=>?_);obtain rfl:=sI h;refine bu (bU (aN ?_));exact rfl
    refine GX 1 [0,2,3,4,1] (bC a4) (fun _=>?_);obtain rfl:=sI h;refine aF (bu (bU (aN ?_)));exact rfl
   refine aw (aQ ?_);obtain rfl:=sI h;refine dJ (bm ?_);exact bN (gg [] [0,1,2,3,4])
  refine GX 1 [0,2,3,4,1] (aS a3) (fun _=>?_);obtain rfl:=sI h;refine aF (aF (bU (aN ?_)));exact rfl
 rcases a2 with⟨u,v20,v,x,z,A,B,C,D⟩ | ⟨ds,dt⟩
 ·obtain⟨rfl,b8⟩:=hq;refine cC ?_ b8;refine az ?_;obtain rfl:=sI h;exact(RO [] [] [0,1,2,3,4] [] (LQ I u v x C D B v20 z A) 5 2).normal
 obtain rfl:=hq;refine bu ?_;obtain rfl:=sI h;exact rfl
theorem tH(c e:Int):tf Tryz.prog 70 [.adr 0 0 5 0,.adr 1 0 2 0] (Mh 0 (0:Int) (0:Int) (0:Int)) (Mh 0 (0:Int) c e) (ba 47 .i64 .i64 (c,e)):=by
 refine tf.jH (nx:=2) (pn:=2) Tryz.func70 rfl rfl rfl rfl rfl rfl rfl rfl (by kernel_rfl) rfl (fun Bw w0=>?_);have h:some ()=some ():=rfl;refine GN a0 [(1,1,⟨∃f,Tryz.prog.underlying 20=some (.interface f),⟨_,rfl⟩⟩)] (nY rfl (GN a0 [(1,1,⟨∃d,Tryz.prog.underlying 47=some d∧(match d with | .interface _=>false | _=>true)=true,⟨_,rfl,rfl⟩⟩)] (af (G (oM rfl (ae (ab (kY a0 [] ?_))))))));exact eN h (gg [] [0,1])
theorem sJ:Li Tryz.prog 70 2:=by
 intro c w j;obtain⟨p,q,rfl⟩:∃p q,c = #[p,q]:=by
  match f:c.toList with
  | [a,b]=>exact⟨a,b,Array.ext' f⟩
  | []=>have:=congrArg List.length f;simp[j]at this
  | [_]=>have:=congrArg List.length f;simp[j]at this
  | _::_::_::_=>have:=congrArg List.length f;simp[j]at this
 refine callsD_of_wpS Tryz.func70 rfl fun e u hu=>?_
 apply wpS_seq;apply wpS_region;simp[wpOpsS,go_sem,recoverD,hu,Tryz.ntmps70,Exit.thenS];apply wpS_seq;apply wpS_region;simp[wpOpsS,go_sem,Exit.thenS,Act.eval,Act.put];refine wpS_cond (t:=false) (by simp[Act.eval,Array.replicate]) ?_;simp only[Bool.false_eq_true,if_false];refine wpS_of_wp (wp_skip ?_);cases e;simp_all [bodyPostS,results,Tryz.results70]
def jK(c:QX):Option ((KU×Int×Int)⊕(Int×Int)) :=
 (if(decide ((c.length:Int) > 4096))=true then((mn 24 (4096:Int) c 0 (0:Int) (0:Int) (0:Int) (0:Int) ([]:XQ)).bind fun(u:(Unit)⊕(Int×Int))=>match u with
 | .inr (v,x)=>some (Sum.inr (v,x))
 | .inl _=>none)
 else((gO c 0 (0:Int) (0:Int) (0:Int) (0:Int) ([]:XQ)).bind fun(z:L0⊕(Int×Int))=>match z with
 | .inr (A,B)=>some (Sum.inr (A,B))
 | .inl (_,e,f,j,p,q,_,_,_)=>some (Sum.inl ((e,f,j,p,q),0,0))))
def pK:(KU×Int×Int)⊕(Int×Int)→KU×Int×Int
 | .inl x=>x
 | .inr e=>((([]:QQ),0,0,([]:QK),([]:XJ)),e.1,e.2)
def j5(c:QX):Option (KU×Int×Int):=(jK c).map pK
theorem wc(c:QX)(p:(KU×Int×Int)⊕(Int×Int))(h:jK c=some p):
  Pure Tryz.prog 46 [.st c] (aJ (bc false (Ld (fun(q:KU×Int×Int)=>([⟨Lu,q.1⟩,⟨Y2,q.2⟩]:List (Σ T:Ty,T.den))) (fun(e:Int×Int)=>([⟨Lu,(([]:QQ),0,0,([]:QK),([]:XJ))⟩,⟨Y2,(e.1,e.2)⟩]:List (Σ T:Ty,T.den))) p))):=by
 refine Pure.Ig (args:=[.st c]) (gd:=70) (fnd:=Tryz.f70) (l:=[(0,.st c),(2,.adr 0 0 5 0),(3,.adr 1 0 2 0),(4,.adr 2 0 10 0)]) (m:=(O0 0 (0:Int) (0:Int) (0:Int) c 0 (0:Int) (0:Int) (0:Int) (0:Int) ([]:XQ))) (nx:=4) (s2:=5) (s3:=2) (lp:=[(2,.adr 0 0 5 0),(3,.adr 1 0 2 0)]) (mp:=(Mh 0 (0:Int) (0:Int) (0:Int))) (nxp:=2) (fv:=ba 47 .i64 .i64) (hin:=(Mh 0 (0:Int) (0:Int) (0:Int))) (hout:=fun e=>(Mh 0 (0:Int) e.1 e.2)) (t2:=2) (t3:=3) (d:=9) hH Tryz.func46 (by kernel_rfl) Tryz.func70 (by kernel_rfl) rfl rfl rfl rfl rfl rfl rfl rfl (nl rfl) rfl rfl (by decide) rfl rfl (by decide) (fun Bw w0=>?_) (fun Bw w0 D=>?_) sJ (fun e=>tH e.1 e.2) (by kernel_rfl) (fun e=>by kernel_rfl) [Lu,Y2] (fun e=>by kernel_rfl)
 ·clear h;have h:some ()=some ():=rfl;refine Ge (ab (Ge ?_));exact eN h (gg [] [0,8,40,24])
 unfold jK at h;refine af (G (aC h (fun C h=>?_) (fun C h=>?_)))
 ·obtain⟨E,v,h⟩:=aj h;rcases E with _ | ⟨x,z⟩
  ·cases h
  have f:=(jO v);refine KY hH ⟨[],[(1,(oD f [2,3]))]⟩ 1 (ba 47 .i64 .i64 (x,z)) [] [0,1] [(2,.adr 0 0 5 0),(3,.adr 1 0 2 0)] (Mh 0 (0:Int) (0:Int) (0:Int)) 2 2 [True,j7 Tryz.prog 71 [.adr 0 0 10 0,.i64 24,.i64 4096] (NN c 0 (0:Int) (0:Int) (0:Int) (0:Int) ([]:XQ)) (ba 47 .i64 .i64 (x,z))] (by kernel_rfl) (by kernel_rfl) ⟨tt,(jO v),tt⟩ (fun σ1 j=>aF ?_);obtain rfl:=sI h;exact⟨rfl,j⟩
 refine ae (ab (af ?_));obtain⟨I,u,h⟩:=aj h;rcases I with⟨J,L,M,N,O,V,X,Y,Z⟩ | ⟨A,B⟩
 ·refine lg 1 [2,3] (gW u) (ab (G (kr [.frzC 0 0,.frzC 0 3,.frzC 0 4] (by kernel_rfl) (au ?_))));obtain rfl:=sI h;exact⟨rfl,RI [Lu,Y2]⟩
 have f:=(gW u);refine KY hH ⟨[],[(1,(oD f [2,3]))]⟩ 1 (ba 47 .i64 .i64 (A,B)) [] [0,1] [(2,.adr 0 0 5 0),(3,.adr 1 0 2 0)] (Mh 0 (0:Int) (0:Int) (0:Int)) 2 2 [True,j7 Tryz.prog 72 [.adr 0 0 10 0] (NN c 0 (0:Int) (0:Int) (0:Int) (0:Int) ([]:XQ)) (ba 47 .i64 .i64 (A,B))] (by kernel_rfl) (by kernel_rfl) ⟨tt,(gW u),tt⟩ (fun σ1 j=>aF ?_);obtain rfl:=sI h;exact⟨rfl,j⟩
theorem yh{c:QX}{f:KU×Int×Int}(h:j5 c=some f):
  Pure Tryz.prog 46 [.st c] (aJ (bc false [⟨Lu,f.1⟩,⟨Y2,f.2⟩])):=by
 unfold j5 at h;obtain⟨r,j,rfl⟩:=Option.map_eq_some_iff.1 h;have:=wc  c r j;cases r with
 | inl x=>exact this
 | inr e=>exact this
def tT(q:Int)(e:XX)(c:Int→Int→XX→Option (Tree)):(XX×Int)→Option ((XX×Int)⊕XX):=fun(f,j) =>
 (if(decide (j<(e.length:Int)))=true then(if 0≤j∧j<(e.length:Int)then(((if(q == 2)=true then(if 0≤(i64.wrap ((i64.wrap ((e.length:Int) - 1)) - j))∧(i64.wrap ((i64.wrap ((e.length:Int) - 1)) - j))<(e.length:Int)then some (((e.getD ((i64.wrap ((i64.wrap ((e.length:Int) - 1)) - j)).toNat) (Tree.node 0 0 [])).op,(e.getD ((i64.wrap ((i64.wrap ((e.length:Int) - 1)) - j)).toNat) (Tree.node 0 0 [])).set,(e.getD ((i64.wrap ((i64.wrap ((e.length:Int) - 1)) - j)).toNat) (Tree.node 0 0 [])).kids))else none)
 else some (((e.getD j.toNat (Tree.node 0 0 [])).op,(e.getD j.toNat (Tree.node 0 0 [])).set,(e.getD j.toNat (Tree.node 0 0 [])).kids)))).bind fun(u,v,x)=>((c u v x).bind fun p =>
 (if(f.length+([(Tree.node p.op p.set p.kids)]:XX).length)*32≤140737488355328∧f.length+([(Tree.node p.op p.set p.kids)]:XX).length≤9223372036854775807 then some (Sum.inl ((f++([(Tree.node p.op p.set p.kids)]:XX)),(i64.wrap (j+1))))else none)))else none)
 else some (Sum.inr f))
def my(c:Int→Int→XX→Option (Tree))(f j:Int)(p:XX):Option (Tree) :=
 ((iter (tT f p c) (([]:XX),0)).bind fun e=>some (Tree.node f j e))
def lj:Nat→Int→Int→XX→Option (Tree)
 | 0=>fun _ _ _=>none
 | n+1=>my (lj n)
theorem wF(c:Int→Int→XX→Option (Tree))(e:∀(f:Bool) {u v:Int} {x:XX} {j:Tree},c u v x=some j→Pure Tryz.prog 73 [.agg [.u8 u,.u32 v,.p f (.slice (.tree .u8 .u32)) x]] (aJ (bc false [⟨(.tree .u8 .u32),j⟩])))(f:Bool){u v:Int}{x:XX}{j:Tree}(h:my c u v x=some j):
  Pure Tryz.prog 73 [.agg [.u8 u,.u32 v,.p f (.slice (.tree .u8 .u32)) x]] (aJ (bc false [⟨(.tree .u8 .u32),j⟩])):=by
 refine PB Tryz.func73 (fun Bw w0=>?_);unfold my at h;refine G (G (af (G (ak (cw h (fun(q,B)=>aA [(1,.adr 0 0 3 0),(2,.adr 1 0 3 0),(3,.adr 2 0 3 0),(13,.i64 (x.length:Int)),(14,.i64 B)] (N4 u v f x 0 (0:Int) u v q) 4) 0 (fun z=>aA [(2,.adr 0 0 3 0),(3,.adr 1 0 3 0)] (Oh 0 (0:Int) u v z) 3) (gg [.nilC 56 2 104 208 (.tree .u8 .u32)] [0,8,56,104]) (fun y o h=>?_) (fun z h=>?_))))))
 ·obtain⟨q,B⟩:=y;unfold tT at h;refine G (af (aC h (fun L h=>?_) (fun L h=>?_)))
  ·refine ae (ab (af (ak (G (GC 3 h (fun h=>af (G (bn h (fun(D,E,I)=>aA [(1,.adr 0 0 3 0),(2,.adr 1 0 3 0),(3,.adr 2 0 3 0),(5,.adr 4 0 3 0),(13,.i64 (x.length:Int)),(14,.i64 B)] (N1 u v f x 0 (0:Int) u v q D E f I) 5) (fun J h=>?_) (fun J h=>?_)))))))))
   ·refine aC h (fun M h=>?_) (fun M h=>?_)
    ·refine xg 8 h (fun h=>?_);exact eN h (gg [] [0,1,2,3,68])
    exact ae (eN h (gg [] [0,1,2,3,68]))
   obtain⟨D,E,I⟩:=J;refine ab ?_;obtain⟨O,N,h⟩:=aj h;obtain⟨C,h⟩:=aE h;have A:=(e f N);refine kY ⟨[],[(3,(oP A))]⟩ [(3,3,oc A),(5,5,oc C)] (ay (ab (Ge ?_)));exact eB h (gg [] [0,1,2,45])
  refine aw (aQ ?_);exact eX h (gg [] [1,2,3])
 refine az (ab (G (kr [.frzC 0 2] (by kernel_rfl) (au ?_))));obtain rfl:=sI h;exact RI [(.tree .u8 .u32)]
theorem sT:∀(n:Nat) (c:Bool) {f j:Int} {q:XX} {e:Tree},lj n f j q=some e→Pure Tryz.prog 73 [.agg [.u8 f,.u32 j,.p c (.slice (.tree .u8 .u32)) q]] (aJ (bc false [⟨(.tree .u8 .u32),e⟩]))
 | 0,_,_,_,_,_,h=>by cases h
 | n+1,c,f,j,q,e,h=>wF (lj n) (sT n) c h
def ik(c:Int)(_:Bool)(e f j p _ _ _ _:Int):Option Z2 :=
 (if ¬(64:Int)=0 then(if 0≤(i64.wrap (Int.tdiv c 64))∧(i64.wrap (Int.tdiv c 64))<((4:Nat):Int)then(if ¬(64:Int)=0 then(if 0≤(Int.tmod c 64)then(if 0≤(i64.wrap (Int.tdiv c 64))∧(i64.wrap (Int.tdiv c 64))<((4:Nat):Int)then some ((if(i64.wrap (Int.tdiv c 64)).toNat=0 then(bitsOf .or .u64 (([e,f,j,p]:QK).getD ((i64.wrap (Int.tdiv c 64)).toNat) 0) (u64.wrap (1*2 ^ (min (Int.tmod c 64).toNat u64.bits))))else e),(if(i64.wrap (Int.tdiv c 64)).toNat=1 then(bitsOf .or .u64 (([e,f,j,p]:QK).getD ((i64.wrap (Int.tdiv c 64)).toNat) 0) (u64.wrap (1*2 ^ (min (Int.tmod c 64).toNat u64.bits))))else f),(if(i64.wrap (Int.tdiv c 64)).toNat=2 then(bitsOf .or .u64 (([e,f,j,p]:QK).getD ((i64.wrap (Int.tdiv c 64)).toNat) 0) (u64.wrap (1*2 ^ (min (Int.tmod c 64).toNat u64.bits))))else j),(if(i64.wrap (Int.tdiv c 64)).toNat=3 then(bitsOf .or .u64 (([e,f,j,p]:QK).getD ((i64.wrap (Int.tdiv c 64)).toNat) 0) (u64.wrap (1*2 ^ (min (Int.tmod c 64).toNat u64.bits))))else p))else none)else none)else none)else none)else none)
theorem rD{c:Int}{u:Bool}{f j:Int}{p q:Int}{v x:Int}{z A:Int}{e:Int×Int×Int×Int}(h:ik c u f j p q v x z A=some e):
  fP Tryz.prog 108 [.adr 0 0 9 1,.i64 c] (Me u f j p q v x z A) (.tup []) (Me u e.1 e.2.1 e.2.2.1 e.2.2.2 v x z A):=by
 refine OB Tryz.func108 (fun Bw w0=>?_);unfold ik at h;obtain⟨B,C,D,E,h⟩:=g4 h;obtain⟨I,h⟩:=aE h;refine kY a0 [(2,2,oc B),(4,4,oc C),(7,7,oc D),(8,8,oc E),(11,11,oc I)] ?_;obtain rfl:=sI h;exact(RO [] [] [0] [] (Me u (if(i64.wrap (Int.tdiv c 64)).toNat=0 then(bitsOf .or .u64 (([f,j,p,q]:QK).getD ((i64.wrap (Int.tdiv c 64)).toNat) 0) (u64.wrap (1*2 ^ (min (Int.tmod c 64).toNat u64.bits))))else f) (if(i64.wrap (Int.tdiv c 64)).toNat=1 then(bitsOf .or .u64 (([f,j,p,q]:QK).getD ((i64.wrap (Int.tdiv c 64)).toNat) 0) (u64.wrap (1*2 ^ (min (Int.tmod c 64).toNat u64.bits))))else j) (if(i64.wrap (Int.tdiv c 64)).toNat=2 then(bitsOf .or .u64 (([f,j,p,q]:QK).getD ((i64.wrap (Int.tdiv c 64)).toNat) 0) (u64.wrap (1*2 ^ (min (Int.tmod c 64).toNat u64.bits))))else p) (if(i64.wrap (Int.tdiv c 64)).toNat=3 then(bitsOf .or .u64 (([f,j,p,q]:QK).getD ((i64.wrap (Int.tdiv c 64)).toNat) 0) (u64.wrap (1*2 ^ (min (Int.tmod c 64).toNat u64.bits))))else q) v x z A) 1 1).normal
def gR(e f j p c:Int):Option (Bool) :=
 (if ¬(64:Int)=0 then(if 0≤(i64.wrap (Int.tdiv c 64))∧(i64.wrap (Int.tdiv c 64))<((4:Nat):Int)then(if ¬(64:Int)=0 then(if 0≤(Int.tmod c 64)then some ((bitsOf .and .u64 (Int.fdiv (([e,f,j,p]:QK).getD ((i64.wrap (Int.tdiv c 64)).toNat) 0) (2 ^ (min (Int.tmod c 64).toNat u64.bits))) (1:Int)) == 1)else none)else none)else none)else none)
theorem iv{e f:Int}{j p q:Int}{c:Bool}(h:gR e f j p q=some c):
  Pure Tryz.prog 106 [.agg [.u64 e,.u64 f,.u64 j,.u64 p],.i64 q] (aJ (bc false [⟨.bool,c⟩])):=by
 refine PB Tryz.func106 (fun Bw w0=>?_);unfold gR at h;refine G ?_;obtain⟨u,v,x,z,h⟩:=g4 h;refine GN a0 [(1,1,oc u),(2,2,oc v),(5,5,oc x),(6,6,oc z)] (au ?_);obtain rfl:=sI h;exact RI [.bool]
def pS(o1 o2 o3 o4:Int):(Int×Int×Int×Int×Int)→Option ((Int×Int×Int×Int×Int)⊕Z2):=fun(p,e,f,j,c) =>
 (if(decide (c<4))=true then(if 0≤c∧c<((4:Nat):Int)then(if 0≤c∧c<((4:Nat):Int)then(if 0≤c∧c<((4:Nat):Int)then some (Sum.inl ((if c.toNat=0 then(bitsOf .or .u64 (([p,e,f,j]:QK).getD c.toNat 0) (([o1,o2,o3,o4]:QK).getD c.toNat 0))else p),(if c.toNat=1 then(bitsOf .or .u64 (([p,e,f,j]:QK).getD c.toNat 0) (([o1,o2,o3,o4]:QK).getD c.toNat 0))else e),(if c.toNat=2 then(bitsOf .or .u64 (([p,e,f,j]:QK).getD c.toNat 0) (([o1,o2,o3,o4]:QK).getD c.toNat 0))else f),(if c.toNat=3 then(bitsOf .or .u64 (([p,e,f,j]:QK).getD c.toNat 0) (([o1,o2,o3,o4]:QK).getD c.toNat 0))else j),(i64.wrap (c+1))))else none)else none)else none)
 else some (Sum.inr (p,e,f,j)))
def cY(p q u v o1 o2 o3 o4:Int):Option Z2 :=
 ((iter (pS o1 o2 o3 o4) (p,q,u,v,0)).bind fun(c,e,f,j)=>some (c,e,f,j))
theorem cQ{B C:Int}{D E:Int}{o1 o2:Int}{o3 o4:Int}{c:Int×Int×Int×Int}(h:cY B C D E o1 o2 o3 o4=some c):
  Pure Tryz.prog 105 [.agg [.u64 B,.u64 C,.u64 D,.u64 E],.agg [.u64 o1,.u64 o2,.u64 o3,.u64 o4]] (aJ (bc false [⟨mG,c⟩])):=by
 refine PB Tryz.func105 (fun Bw w0=>?_);unfold cY at h;refine G (af (G (ak (cw h (fun(I,e,f,j,J)=>aA [(2,.adr 0 0 4 0),(3,.adr 1 0 4 0),(4,.adr 2 0 4 0),(6,.i64 J)] (N5 I e f j o1 o2 o3 o4 0 (0:Int) (0:Int) (0:Int)) 3) 0 (fun(p,q,u,v)=>aA [(2,.adr 0 0 4 0),(4,.adr 1 0 4 0)] (MY p q u v 0 (0:Int) (0:Int) (0:Int)) 2) (gg [] [0,8,16]) (fun y o h=>?_) (fun L h=>?_)))))
 ·obtain⟨I,e,f,j,J⟩:=y;unfold pS at h;refine G (af (aC h (fun M h=>?_) (fun M h=>?_)))
  ·refine ae (ab (af (ak (G ?_))));obtain⟨x,z,A,h⟩:=g3 h;refine kY a0 [(1,1,oc x),(4,4,oc z),(7,7,oc A)] (ay (ab (Ge ?_)));exact eB h (gg [] [0,1,2])
  refine aw (aQ ?_);exact eX h (gg [] [0,2])
 obtain⟨p,q,u,v⟩:=L;refine az (ab (G (au ?_)));obtain rfl:=sI h;exact RI [mG]
def jn(f j p q u v x z:Int)(o2:Qj):(Qj×Int)→Option ((Qj×Int)⊕Qj):=fun(c,v6) =>
 (if(decide (v6<(o2.length:Int)))=true then((gR f j p q v6).bind fun A =>
 (((if A=true then(if 0≤v6∧v6<(c.length:Int)then(if v6.toNat<c.length then((cY ((c.getD v6.toNat (0,0,0,0)).1) ((c.getD v6.toNat (0,0,0,0)).2.1) ((c.getD v6.toNat (0,0,0,0)).2.2.1) ((c.getD v6.toNat (0,0,0,0)).2.2.2) u v x z).bind fun e =>
 (if 0≤v6∧v6<(c.length:Int)then(if v6.toNat<c.length then some ((c.set v6.toNat (e.1,e.2.1,e.2.2.1,e.2.2.2)))else none)else none))else none)else none)
 else some (c))).bind fun B=>some (Sum.inl (B,(i64.wrap (v6+1))))))
 else some (Sum.inr c))
def ee(c e f j p q u v:Int)(_:Bool)(_:QK)(o2:Qj):Option Qj :=
 ((iter (jn c e f j p q u v o2) (o2,0)).bind fun x=>some x)
theorem jr{c e:Int}{f j:Int}{p q:Int}{u v:Int}{x:Bool}{o1:QK}{o2 A:Qj}(h:ee c e f j p q u v x o1 o2=some A):
  fP Tryz.prog 139 [.adr 0 0 3 0,.agg [.u64 c,.u64 e,.u64 f,.u64 j],.agg [.u64 p,.u64 q,.u64 u,.u64 v]] (D5 x o1 o2) (.tup []) (D5 x o1 A):=by
 refine OB Tryz.func139 (fun Bw w0=>?_);unfold ee at h;refine G (G (ak (cw h (fun(B,v6)=>aA [(0,.adr 0 0 3 0),(4,.adr 3 0 4 0),(5,.adr 4 0 4 0),(11,.i64 (o2.length:Int)),(12,.i64 v6)] (M9 x o1 B c e f j p q u v) 5 3) 0 (fun D=>aA [] (D5 x o1 D) 3 3) (gg [] [0,1,2,3,11]) (fun y o h=>?_) (fun D h=>?_))))
 ·obtain⟨B,v6⟩:=y;unfold jn at h;refine G (af (aC h (fun E h=>?_) (fun E h=>?_)))
  ·refine ae (ab (af (ak (G ?_))));obtain⟨X,I,h⟩:=aj h;refine GP 2 (iv I) (bn h (fun z=>aA [(0,.adr 0 0 3 0),(4,.adr 3 0 4 0),(5,.adr 4 0 4 0),(11,.i64 (o2.length:Int)),(12,.i64 v6)] (M9 x o1 z c e f j p q u v) 5 3) (fun z h=>?_) (fun z h=>?_))
   ·refine aC h (fun J h=>?_) (fun J h=>?_)
    ·obtain⟨L,M,h⟩:=g2 h;obtain⟨Y,N,h⟩:=aj h;obtain⟨O,V,h⟩:=g2 h;have C:=(cQ N);exact kY ⟨[],[(13,(oP C))]⟩ [(10,10,oc L),(11,11,oc M),(13,13,oc C),(14,14,oc O),(15,15,oc V)] (eN h (gg [] [0,1,2,3,4]))
    exact ae (eN h (gg [] [0,1,2,3,4]))
   refine ay (ab (Ge ?_));exact eB h (gg [] [0,1,2,3,4])
  refine aw (aQ ?_);exact eX h (gg [] [0,1,2])
 refine az ?_;obtain rfl:=sI h;exact(RO [] [] [0,1,2] [] (D5 x o1 D) 3 3).normal
def kB(J:XX)(e:Int→Int→XX→Bool→QK→Qj→Option (ud×QK×Qj×Bool)):(QK×Qj×Bool×Bool×Int×Int×Int×Int×Int×Int×Int×Int×Int)→Option ((QK×Qj×Bool×Bool×Int×Int×Int×Int×Int×Int×Int×Int×Int)⊕(Bool×Int×Int×Int×Int×Int×Int×Int×Int×QK×Qj×Bool)):=fun(L,M,N,q,u,v,x,z,A,B,C,D,f) =>
 (if(decide (f<(J.length:Int)))=true then(if 0≤f∧f<(J.length:Int)then((e ((J.getD f.toNat (Tree.node 0 0 [])).op) ((J.getD f.toNat (Tree.node 0 0 [])).set) ((J.getD f.toNat (Tree.node 0 0 [])).kids) N L M).bind fun(c,E,O,I) =>
 ((ee A B C D c.2.1.1 c.2.1.2.1 c.2.1.2.2.1 c.2.1.2.2.2 I E O).bind fun V =>
 (((if q=true then((cY u v x z c.2.1.1 c.2.1.2.1 c.2.1.2.2.1 c.2.1.2.2.2).bind fun j =>
 some ((j.1,j.2.1,j.2.2.1,j.2.2.2)))
 else some ((u,v,x,z)))).bind fun(X,Y,Z,a1)=>(((if c.1=true then((cY c.2.2.1 c.2.2.2.1 c.2.2.2.2.1 c.2.2.2.2.2 A B C D).bind fun p =>
 some ((p.1,p.2.1,p.2.2.1,p.2.2.2)))
 else some ((c.2.2.1,c.2.2.2.1,c.2.2.2.2.1,c.2.2.2.2.2)))).bind fun(a2,a3,a4,a5)=>(((if q=true then some (c.1)
 else some (false))).bind fun a6=>some (Sum.inl (E,V,I,a6,X,Y,Z,a1,a2,a3,a4,a5,(i64.wrap (f+1)))))))))else none)
 else some (Sum.inr (q,u,v,x,z,A,B,C,D,L,M,N)))
def kD(J:XX)(e:Int→Int→XX→Bool→QK→Qj→Option (ud×QK×Qj×Bool)):(QK×Qj×Bool×Bool×Int×Int×Int×Int×Int×Int×Int×Int×Int)→Option ((QK×Qj×Bool×Bool×Int×Int×Int×Int×Int×Int×Int×Int×Int)⊕(Bool×Int×Int×Int×Int×Int×Int×Int×Int×QK×Qj×Bool)):=fun(L,M,N,I,v,x,z,A,B,C,D,E,f) =>
 (if(decide (f<(J.length:Int)))=true then(if 0≤f∧f<(J.length:Int)then((e ((J.getD f.toNat (Tree.node 0 0 [])).op) ((J.getD f.toNat (Tree.node 0 0 [])).set) ((J.getD f.toNat (Tree.node 0 0 [])).kids) N L M).bind fun(c,O,V,X) =>
 (((if I=true then((cY v x z A c.2.1.1 c.2.1.2.1 c.2.1.2.2.1 c.2.1.2.2.2).bind fun j =>
 ((cY B C D E c.2.2.1 c.2.2.2.1 c.2.2.2.2.1 c.2.2.2.2.2).bind fun p =>
 some ((true,j.1,j.2.1,j.2.2.1,j.2.2.2,p.1,p.2.1,p.2.2.1,p.2.2.2))))
 else((cY v x z A c.2.1.1 c.2.1.2.1 c.2.1.2.2.1 c.2.1.2.2.2).bind fun q =>
 ((cY B C D E c.2.2.1 c.2.2.2.1 c.2.2.2.2.1 c.2.2.2.2.2).bind fun u =>
 some ((c.1,q.1,q.2.1,q.2.2.1,q.2.2.2,u.1,u.2.1,u.2.2.1,u.2.2.2)))))).bind fun(Y,Z,a1,a2,a3,a4,a5,a6,a7)=>some (Sum.inl (O,V,X,Y,Z,a1,a2,a3,a4,a5,a6,a7,(i64.wrap (f+1))))))else none)
 else some (Sum.inr (I,v,x,z,A,B,C,D,E,L,M,N)))
def fI(c:Int→Int→XX→Bool→QK→Qj→Option (ud×QK×Qj×Bool))(f i2:Int)(I:XX)(J:Bool)(o1:QK)(o2:Qj):Option (ud×QK×Qj×Bool) :=
 (if(f == 1)=true then(if(decide ((o1.length:Int)≥200))=true then some ((false,(0,0,0,0),0,0,0,0),o1,o2,true)
 else((ik (o1.length:Int) false 0 (0:Int) (0:Int) (0:Int) (0:Int) (0:Int) (0:Int) (0:Int)).bind fun(j,p,q,u) =>
 (if(o1.length+([i2]:QK).length)*4≤140737488355328∧o1.length+([i2]:QK).length≤9223372036854775807 then(if(o2.length+([(0,0,0,0)]:Qj).length)*32≤140737488355328∧o2.length+([(0,0,0,0)]:Qj).length≤9223372036854775807 then some ((false,(j,p,q,u),j,p,q,u),(o1++([i2]:QK)),(o2++([(0,0,0,0)]:Qj)),J)else none)else none)))
 else(if(f == 2)=true then((iter (kB I c) (o1,o2,J,true,0,0,0,0,0,0,0,0,0)).bind fun(L,M,N,O,V,X,Y,Z,a1,a2,a3,a4)=>some ((L,(M,N,O,V),X,Y,Z,a1),a2,a3,a4))
 else(if(f == 3)=true then((iter (kD I c) (o1,o2,J,false,0,0,0,0,0,0,0,0,0)).bind fun(a5,a6,a7,a8,a9,aa,ac,ad,ax,b1,b2,b3)=>some ((a5,(a6,a7,a8,a9),aa,ac,ad,ax),b1,b2,b3))
 else(((if(f == 4)=true then some ((f == 4))
 else(if(f == 5)=true then some ((f == 5))
 else some ((f == 6))))).bind fun b4=>(if b4=true then(((if(decide ((I.length:Int) > 0))=true then(if 0≤(0:Int)∧0<(I.length:Int)then((c ((I.getD ((0:Int).toNat) (Tree.node 0 0 [])).op) ((I.getD ((0:Int).toNat) (Tree.node 0 0 [])).set) ((I.getD ((0:Int).toNat) (Tree.node 0 0 [])).kids) J o1 o2).bind fun(e,b5,b6,b7) =>
 some ((b5,b6,b7,e.1,e.2.1.1,e.2.1.2.1,e.2.1.2.2.1,e.2.1.2.2.2,e.2.2.1,e.2.2.2.1,e.2.2.2.2.1,e.2.2.2.2.2)))else none)
 else some ((o1,o2,J,false,0,0,0,0,0,0,0,0)))).bind fun(b8,b9,be,bi,v,x,z,A,B,C,D,E)=>(((if(f != 6)=true then((ee B C D E v x z A be b8 b9).bind fun bs =>
 some (bs))
 else some (b9))).bind fun bv=>(((if bi=true then some (true)
 else some ((f != 5)))).bind fun bx=>some ((bx,(v,x,z,A),B,C,D,E),b8,bv,be))))
 else some ((true,(0,0,0,0),0,0,0,0),o1,o2,J))))))
def dU:Nat→Int→Int→XX→Bool→QK→Qj→Option (ud×QK×Qj×Bool)
 | 0=>fun _ _ _ _ _ _=>none
 | n+1=>fI (dU n)
theorem o7(e:Int→Int→XX→Bool→QK→Qj→Option (ud×QK×Qj×Bool))(c:∀(q:Bool) {i1 i2:Int} {u:XX} {d1:Bool} {o1:QK} {o2:Qj} {f:ud×QK×Qj×Bool},e i1 i2 u d1 o1 o2=some f→fP Tryz.prog 104 [.adr 0 0 3 0,.agg [.u8 i1,.u32 i2,.p q (.slice (.tree .u8 .u32)) u]] (D5 d1 o1 o2) (.agg [.bo f.1.1,.u64 f.1.2.1.1,.u64 f.1.2.1.2.1,.u64 f.1.2.1.2.2.1,.u64 f.1.2.1.2.2.2,.u64 f.1.2.2.1,.u64 f.1.2.2.2.1,.u64 f.1.2.2.2.2.1,.u64 f.1.2.2.2.2.2]) (Lo f.2.2.2 f.2.1 f.2.2.1))(q:Bool){i1 i2:Int}{u:XX}{d1:Bool}{o1:QK}{o2:Qj}{f:ud×QK×Qj×Bool}(h:fI e i1 i2 u d1 o1 o2=some f):
  fP Tryz.prog 104 [.adr 0 0 3 0,.agg [.u8 i1,.u32 i2,.p q (.slice (.tree .u8 .u32)) u]] (D5 d1 o1 o2) (.agg [.bo f.1.1,.u64 f.1.2.1.1,.u64 f.1.2.1.2.1,.u64 f.1.2.1.2.2.1,.u64 f.1.2.1.2.2.2,.u64 f.1.2.2.1,.u64 f.1.2.2.2.1,.u64 f.1.2.2.2.2.1,.u64 f.1.2.2.2.2.2]) (Lo f.2.2.2 f.2.1 f.2.2.1):=by
 refine OB Tryz.func104 (fun Bw w0=>?_);unfold fI at h;refine G (af (G (ak (G (aC h (fun fw h=>?_) (fun fw h=>?_))))))
 ·refine af (G (aC h (fun g1 h=>?_) (fun g1 h=>?_)))
  ·refine G (G (au (ah (aB (ah ?_)))));obtain rfl:=sI h;exact RO [some CD] [] [0,1,2,1,2,11] [(4,.adr 5 0 9 0)] (Hk true o1 o2 false 0 (0:Int) (0:Int) (0:Int) (0:Int) (0:Int) (0:Int) (0:Int)) 6 3
  refine ae (ab (G ?_));obtain⟨⟨d4,d5,d6,d7⟩,g5,h⟩:=aj h;refine GO 6 [99] (rD g5) (G ?_);obtain⟨g6,h⟩:=aE h;refine GD a0 [(8,8,oc g6)] (GC 7 h (fun h=>G (au (aB (ah ?_)))));obtain rfl:=sI h;exact RO [some CD] [] [0,1,2,259,347,11] [(4,.adr 5 0 9 0)] (Hk d1 (o1++([i2]:QK)) (o2++([(0,0,0,0)]:Qj)) false d4 d5 d6 d7 d4 d5 d6 d7) 6 3
 refine G (aC h (fun g7 h=>?_) (fun g7 h=>?_))
 ·refine G (af (G (ak (cw h (fun(ej,ek,el,M,d8,d9,dd,de,N,O,V,X,v)=>aA [(0,.adr 0 0 3 0),(4,.adr 5 0 9 0),(6,.adr 6 0 9 0),(65,.p q (.slice (.tree .u8 .u32)) u),(66,.i64 (u.length:Int)),(67,.i64 v)] (KI el ej ek false 0 (0:Int) (0:Int) (0:Int) (0:Int) (0:Int) (0:Int) (0:Int) M d8 d9 dd de N O V X) 7 3) 1 (fun(a5,a6,a7,a8,a9,aa,ac,ad,ax,b1,b2,b3)=>aA [(4,.adr 3 0 9 0),(6,.adr 4 0 9 0)] (LD b3 false 0 (0:Int) (0:Int) (0:Int) (0:Int) (0:Int) (0:Int) (0:Int) a5 a6 a7 a8 a9 aa ac ad ax b1 b2) 7 3) (gg [] [0,1,2,1,2,11,75]) (fun y o h=>?_) (fun er h=>?_)))))
  ·obtain⟨ej,ek,el,M,d8,d9,dd,de,N,O,V,X,v⟩:=y;unfold kB at h;refine G (af (aC h (fun g8 h=>?_) (fun g8 h=>?_)))
   ·refine ae (ab (af (ak (GC 0 h (fun h=>?_)))));obtain⟨⟨j,b4,h1,b5⟩,es,h⟩:=aj h;refine GO 2 [0,3,4] (c q es) ?_;obtain⟨b6,et,h⟩:=aj h;refine GO 5 [0,63,64] (jr et) (af (G (bn h (fun(Y,Z,a1,a2)=>aA [(0,.adr 0 0 3 0),(4,.adr 5 0 9 0),(6,.adr 6 0 9 0),(9,.adr 7 0 9 0),(65,.p q (.slice (.tree .u8 .u32)) u),(66,.i64 (u.length:Int)),(67,.i64 v)] (MC b5 b4 b6 false 0 (0:Int) (0:Int) (0:Int) (0:Int) (0:Int) (0:Int) (0:Int) M Y Z a1 a2 N O V X j.1 j.2.1.1 j.2.1.2.1 j.2.1.2.2.1 j.2.1.2.2.2 j.2.2.1 j.2.2.2.1 j.2.2.2.2.1 j.2.2.2.2.2) 8 3) (fun di h=>?_) (fun di h=>?_))))
    ·refine aC h (fun g9 h=>?_) (fun g9 h=>?_)
     ·obtain⟨h2,eu,h⟩:=aj h;exact NL 4 (cQ eu) (eN h (gg [] [0,1,2,63,64,5,6,71]))
     exact ae (eN h (gg [] [0,1,2,63,64,5,6,71]))
    obtain⟨Y,Z,a1,a2⟩:=di;refine ab (af (G (bn h (fun(b7,b8,b9,be)=>aA [(0,.adr 0 0 3 0),(4,.adr 5 0 9 0),(6,.adr 6 0 9 0),(9,.adr 7 0 9 0),(65,.p q (.slice (.tree .u8 .u32)) u),(66,.i64 (u.length:Int)),(67,.i64 v)] (MC b5 b4 b6 false 0 (0:Int) (0:Int) (0:Int) (0:Int) (0:Int) (0:Int) (0:Int) M Y Z a1 a2 N O V X j.1 j.2.1.1 j.2.1.2.1 j.2.1.2.2.1 j.2.1.2.2.2 b7 b8 b9 be) 8 3) (fun dk h=>?_) (fun dk h=>?_))))
    ·refine aC h (fun gb h=>?_) (fun gb h=>?_)
     ·obtain⟨h3,ew,h⟩:=aj h;exact NL 4 (cQ ew) (eN h (gg [] [0,1,2,3,4,5,6,7]))
     exact ae (eN h (gg [] [0,1,2,3,4,5,6,7]))
    obtain⟨b7,b8,b9,be⟩:=dk;refine ab (bn h (fun bi=>aA [(0,.adr 0 0 3 0),(4,.adr 5 0 9 0),(6,.adr 6 0 9 0),(65,.p q (.slice (.tree .u8 .u32)) u),(66,.i64 (u.length:Int)),(67,.i64 v)] (KI b5 b4 b6 false 0 (0:Int) (0:Int) (0:Int) (0:Int) (0:Int) (0:Int) (0:Int) bi Y Z a1 a2 b7 b8 b9 be) 7 3) (fun bi h=>?_) (fun bi h=>?_))
    ·rcases aI h with⟨d2,h⟩ | ⟨d2,h⟩
     ·exact kY ⟨[(2,true),(5,true)],[]⟩ [(3,4,an d2),(5,5,oc d2)] (eN h (gg [] [0,1,2,3,4,5,6]))
     exact kY ⟨[(2,false),(5,false)],[]⟩ [(3,5,oc d2)] (eN h (gg [] [0,1,2,3,4,5,6]))
    refine ay (ab (Ge ?_));exact eB h (gg [] [0,1,2,3,4,5,6])
   refine aw (aQ ?_);exact eX h (gg [] [0,1,2,5,6,3,4])
  obtain⟨a5,a6,a7,a8,a9,aa,ac,ad,ax,b1,b2,b3⟩:=er;refine az (ab (G (au (aB (ah ?_)))));obtain rfl:=sI h;exact RO [some CD] [] [0,1,2,5,6,3] [(4,.adr 5 0 9 0)] (Hk b3 b1 b2 a5 a6 a7 a8 a9 aa ac ad ax) 6 3
 refine G (aC h (fun gd h=>?_) (fun gd h=>?_))
 ·refine G (af (G (ak (cw h (fun(ey,f1,f2,dm,ds,dt,du,e1,e2,e3,e4,e5,bs)=>aA [(0,.adr 0 0 3 0),(4,.adr 5 0 9 0),(10,.adr 6 0 9 0),(111,.p q (.slice (.tree .u8 .u32)) u),(112,.i64 (u.length:Int)),(113,.i64 bs)] (KI f2 ey f1 false 0 (0:Int) (0:Int) (0:Int) (0:Int) (0:Int) (0:Int) (0:Int) dm ds dt du e1 e2 e3 e4 e5) 7 3) 3 (fun(bv,bx,c1,c2,c3,c4,c5,c6,c7,c8,c9,cc)=>aA [(4,.adr 3 0 9 0),(10,.adr 4 0 9 0)] (LD cc false 0 (0:Int) (0:Int) (0:Int) (0:Int) (0:Int) (0:Int) (0:Int) bv bx c1 c2 c3 c4 c5 c6 c7 c8 c9) 7 3) (gg [] [0,1,2,1,2,11,83]) (fun y o h=>?_) (fun f3 h=>?_)))))
  ·obtain⟨ey,f1,f2,dm,ds,dt,du,e1,e2,e3,e4,e5,bs⟩:=y;unfold kD at h;refine G (af (aC h (fun gi h=>?_) (fun gi h=>?_)))
   ·refine ae (ab (af (ak (GC 0 h (fun h=>?_)))));obtain⟨⟨h4,f4,f5,f6⟩,f7,h⟩:=aj h;refine GO 2 [0,3,4] (c q f7) (bn h (fun(e6,e7,e8,e9,ea,eb,ec,ed,ef)=>aA [(0,.adr 0 0 3 0),(4,.adr 5 0 9 0),(10,.adr 6 0 9 0),(111,.p q (.slice (.tree .u8 .u32)) u),(112,.i64 (u.length:Int)),(113,.i64 bs)] (KI f6 f4 f5 false 0 (0:Int) (0:Int) (0:Int) (0:Int) (0:Int) (0:Int) (0:Int) e6 e7 e8 e9 ea eb ec ed ef) 7 3) (fun eh h=>?_) (fun eh h=>?_))
    ·rcases aI h with⟨d3,h⟩ | ⟨d3,h⟩
     ·obtain⟨h5,f8,h⟩:=aj h;obtain⟨h6,f9,h⟩:=aj h;have x:=(cQ f8);have ch:=(cQ f9);exact kY ⟨[(2,true),(5,true)],[(10,(oP x)),(15,(oP ch))]⟩ [(3,5,oc d3),(10,10,oc x),(15,15,oc ch)] (eN h (gg [] [0,1,2,63,64,5,6]))
     obtain⟨h7,fa,h⟩:=aj h;obtain⟨h8,fd,h⟩:=aj h;have x:=(cQ fa);have ch:=(cQ fd);exact kY ⟨[(2,false),(5,false)],[(10,(oP x)),(15,(oP ch))]⟩ [(3,4,an d3),(5,5,oc d3),(10,10,oc x),(15,15,oc ch)] (eN h (gg [] [0,1,2,63,64,5,6]))
    obtain⟨e6,e7,e8,e9,ea,eb,ec,ed,ef⟩:=eh;refine ay (ab (Ge ?_));exact eB h (gg [] [0,1,2,3,4,5,6])
   refine aw (aQ ?_);exact eX h (gg [] [0,1,2,5,6,3,4])
  obtain⟨bv,bx,c1,c2,c3,c4,c5,c6,c7,c8,c9,cc⟩:=f3;refine az (ab (G (au (aB (ah ?_)))));obtain rfl:=sI h;exact RO [some CD] [] [0,1,2,5,6,3] [(4,.adr 5 0 9 0)] (Hk cc c8 c9 bv bx c1 c2 c3 c4 c5 c6 c7) 6 3
 refine af (G (bn h (fun cl=>aA [(0,.adr 0 0 3 0),(3,.adr 3 0 3 0),(4,.adr 4 0 9 0),(139,.bo cl)] (Oo d1 o1 o2 i1 i2 q u false 0 (0:Int) (0:Int) (0:Int) (0:Int) (0:Int) (0:Int) (0:Int)) 5 3) (fun cl h=>?_) (fun cl h=>?_)))
 ·refine aC h (fun gj h=>?_) (fun gj h=>?_)
  ·exact ae (eN h (gg [] [0,1,2,3,11]))
  refine G (aC h (fun gp h=>?_) (fun gp h=>?_))
  ·exact ae (eN h (gg [] [0,1,2,3,11]))
  exact Ge (eN h (gg [] [0,1,2,3,11]))
 refine ab (aC h (fun fi h=>?_) (fun fi h=>?_))
 ·refine G (af (G (bn h (fun(cp,fo,cs,cx,z,A,B,C,D,E,I,J)=>aA [(0,.adr 0 0 3 0),(3,.adr 5 0 3 0),(4,.adr 6 0 9 0),(14,.adr 7 0 9 0)] (NR cs cp fo i1 i2 q u false 0 (0:Int) (0:Int) (0:Int) (0:Int) (0:Int) (0:Int) (0:Int) cx z A B C D E I J) 8 3) (fun ei h=>?_) (fun ei h=>?_))))
  ·refine aC h (fun fr h=>?_) (fun fr h=>?_)
   ·obtain⟨gs,h⟩:=aE h;obtain⟨⟨h9,hc,he,hf⟩,fs,h⟩:=aj h;have x:=(c q fs);exact bz ⟨[],[(5,(oO x [0,1,2]))]⟩ [(3,3,oc gs),(5,5,oc x)] (eN h (gg [] [0,1,2,85,86,3,4,5]))
   exact ae (eN h (gg [] [0,1,2,1,2,3,4,5]))
  obtain⟨cp,fo,cs,cx,z,A,B,C,D,E,I,J⟩:=ei;refine ab (af (G (bn h (fun L=>aA [(3,.adr 3 0 3 0),(4,.adr 4 0 9 0),(14,.adr 5 0 9 0)] (NU cs i1 i2 q u false 0 (0:Int) (0:Int) (0:Int) (0:Int) (0:Int) (0:Int) (0:Int) cx z A B C D E I J cp L) 8 3) (fun L h=>?_) (fun L h=>?_))))
  ·refine aC h (fun ft h=>?_) (fun ft h=>?_)
   ·obtain⟨hg,fv,h⟩:=aj h;exact lg 5 [0,3,4] (jr fv) (eN h (gg [] [0,1,2,5,6,7,3,4]))
   exact ae (eN h (gg [] [0,1,2,5,6,7,3,4]))
  refine ab (af (bn h (fun a3=>aA [(4,.adr 3 0 9 0),(14,.adr 4 0 9 0)] (LD cs false 0 (0:Int) (0:Int) (0:Int) (0:Int) (0:Int) (0:Int) (0:Int) a3 z A B C D E I J cp L) 7 3) (fun a3 h=>?_) (fun a3 h=>?_)))
  ·rcases aI h with⟨a4,h⟩ | ⟨a4,h⟩
   ·exact bz ⟨[(2,true),(6,true)],[]⟩ [(3,6,oc a4)] (eN h (gg [] [0,1,2,4,5,6,7]))
   exact bz ⟨[(2,false),(6,false)],[]⟩ [(3,5,an a4),(6,6,oc a4)] (eN h (gg [] [0,1,2,4,5,6,7]))
  refine ab (G (au (aB (ah ?_))));obtain rfl:=sI h;exact RO [some CD] [] [0,1,2,5,6,3] [(4,.adr 5 0 9 0)] (Hk cs cp L a3 z A B C D E I J) 6 3
 refine ae (ay (ab (G (au ?_))));obtain rfl:=sI h;exact RO [some CD] [] [0,1,2,1,2,4] [(4,.adr 5 0 9 0)] (Hk d1 o1 o2 true 0 (0:Int) (0:Int) (0:Int) (0:Int) (0:Int) (0:Int) (0:Int)) 6 3
theorem kH:∀(n:Nat) (e:Bool) {f j:Int} {q:XX} {u:Bool} {o1:QK} {o2:Qj} {c:ud×QK×Qj×Bool},dU n f j q u o1 o2=some c→fP Tryz.prog 104 [.adr 0 0 3 0,.agg [.u8 f,.u32 j,.p e (.slice (.tree .u8 .u32)) q]] (D5 u o1 o2) (.agg [.bo c.1.1,.u64 c.1.2.1.1,.u64 c.1.2.1.2.1,.u64 c.1.2.1.2.2.1,.u64 c.1.2.1.2.2.2,.u64 c.1.2.2.1,.u64 c.1.2.2.2.1,.u64 c.1.2.2.2.2.1,.u64 c.1.2.2.2.2.2]) (Lo c.2.2.2 c.2.1 c.2.2.1)
 | 0,_,_,_,_,_,_,_,_,h=>by cases h
 | n+1,e,f,j,q,u,o1,o2,c,h=>o7 (dU n) (kH n) e h
def qY(e f j p q u v x:Int):(Int)→Option ((Int)⊕((Unit)⊕(Bool))):=fun c =>
 (if(decide (c<4))=true then(if 0≤c∧c<((4:Nat):Int)then(if 0≤c∧c<((4:Nat):Int)then(if((bitsOf .and .u64 (([e,f,j,p]:QK).getD c.toNat 0) (([q,u,v,x]:QK).getD c.toNat 0)) != 0)=true then some (Sum.inr (Sum.inr true))
 else some (Sum.inl (i64.wrap (c+1))))else none)else none)
 else some (Sum.inr (Sum.inl ())))
def oa(c e f j p q u v:Int):Option (Bool) :=
 ((iter (qY c e f j p q u v) (0:Int)).bind fun(x:((Unit)⊕(Bool)))=>match x with
 | .inl _=>some false
 | .inr (z)=>some z)
theorem yU{f j:Int}{p q:Int}{u v:Int}{x z:Int}{c:Bool}(h:oa f j p q u v x z=some c):
  Pure Tryz.prog 107 [.agg [.u64 f,.u64 j,.u64 p,.u64 q],.agg [.u64 u,.u64 v,.u64 x,.u64 z]] (aJ (bc false [⟨.bool,c⟩])):=by
 refine PB Tryz.func107 (fun Bw w0=>?_);unfold oa at h;refine G (af (G (ak (kj h (fun D=>aA [(2,.adr 0 0 4 0),(3,.adr 1 0 4 0),(6,.i64 D)] (MY f j p q u v x z) 2) (dw (fc Tryz.f107.ntmps 0 (fun _=>aA [] [] 0)) (gm tb Tryz.f107.results.toList (fun E=>[⟨.bool,E⟩]))) (gg [] [0,8]) (fun D o h=>?_) (fun J h e σ' I=>?_)))))
 ·unfold qY at h;refine G (af (aC h (fun L h=>?_) (fun L h=>?_)))
  ·refine ae (ab (af (ak (G ?_))));obtain⟨A,B,h⟩:=g2 h;refine GD a0 [(1,1,oc A),(4,4,oc B)] (aC h (fun M h=>?_) (fun M h=>?_))
   ·refine G (au ?_);obtain rfl:=sI h;refine aB (ah (bG (aN ?_)));exact bH (RI [.bool])
   refine ae (ay (ab (Ge ?_)));exact eB h (gg [] [0,1])
  refine aw (aQ ?_);obtain rfl:=sI h;refine dJ (bm ?_);exact bN (gg [] [])
 rcases J with _ | E
 ·obtain⟨rfl,C⟩:=I;refine cC ?_ C;refine az (ab (G (au ?_)));obtain rfl:=sI h;exact RI [.bool]
 obtain⟨rfl,N⟩:=I;refine aB (ah ?_);obtain rfl:=sI h;exact N
def iu(c e f j p:Int):Option Z2 :=
 (if ¬(64:Int)=0 then(if 0≤(i64.wrap (Int.tdiv c 64))∧(i64.wrap (Int.tdiv c 64))<((4:Nat):Int)then(if ¬(64:Int)=0 then(if 0≤(Int.tmod c 64)then(if 0≤(i64.wrap (Int.tdiv c 64))∧(i64.wrap (Int.tdiv c 64))<((4:Nat):Int)then some ((if(i64.wrap (Int.tdiv c 64)).toNat=0 then(bitsOf .or .u64 (([e,f,j,p]:QK).getD ((i64.wrap (Int.tdiv c 64)).toNat) 0) (u64.wrap (1*2 ^ (min (Int.tmod c 64).toNat u64.bits))))else e),(if(i64.wrap (Int.tdiv c 64)).toNat=1 then(bitsOf .or .u64 (([e,f,j,p]:QK).getD ((i64.wrap (Int.tdiv c 64)).toNat) 0) (u64.wrap (1*2 ^ (min (Int.tmod c 64).toNat u64.bits))))else f),(if(i64.wrap (Int.tdiv c 64)).toNat=2 then(bitsOf .or .u64 (([e,f,j,p]:QK).getD ((i64.wrap (Int.tdiv c 64)).toNat) 0) (u64.wrap (1*2 ^ (min (Int.tmod c 64).toNat u64.bits))))else j),(if(i64.wrap (Int.tdiv c 64)).toNat=3 then(bitsOf .or .u64 (([e,f,j,p]:QK).getD ((i64.wrap (Int.tdiv c 64)).toNat) 0) (u64.wrap (1*2 ^ (min (Int.tmod c 64).toNat u64.bits))))else p))else none)else none)else none)else none)else none)
theorem rI{c f:Int}{j p q:Int}{e:Int×Int×Int×Int}(h:iu c f j p q=some e):
  fP Tryz.prog 108 [.adr 0 0 4 0,.i64 c] [(0,.box [.u64 f,.u64 j,.u64 p,.u64 q])] (.tup []) [(0,.box [.u64 e.1,.u64 e.2.1,.u64 e.2.2.1,.u64 e.2.2.2])]:=by
 refine OB Tryz.func108 (fun Bw w0=>?_);unfold iu at h;obtain⟨u,v,x,z,h⟩:=g4 h;obtain⟨A,h⟩:=aE h;refine kY a0 [(2,2,oc u),(4,4,oc v),(7,7,oc x),(8,8,oc z),(11,11,oc A)] ?_;obtain rfl:=sI h;exact(RO [] [] [0] [] [(0,.box [.u64 (if(i64.wrap (Int.tdiv c 64)).toNat=0 then(bitsOf .or .u64 (([f,j,p,q]:QK).getD ((i64.wrap (Int.tdiv c 64)).toNat) 0) (u64.wrap (1*2 ^ (min (Int.tmod c 64).toNat u64.bits))))else f),.u64 (if(i64.wrap (Int.tdiv c 64)).toNat=1 then(bitsOf .or .u64 (([f,j,p,q]:QK).getD ((i64.wrap (Int.tdiv c 64)).toNat) 0) (u64.wrap (1*2 ^ (min (Int.tmod c 64).toNat u64.bits))))else j),.u64 (if(i64.wrap (Int.tdiv c 64)).toNat=2 then(bitsOf .or .u64 (([f,j,p,q]:QK).getD ((i64.wrap (Int.tdiv c 64)).toNat) 0) (u64.wrap (1*2 ^ (min (Int.tmod c 64).toNat u64.bits))))else p),.u64 (if(i64.wrap (Int.tdiv c 64)).toNat=3 then(bitsOf .or .u64 (([f,j,p,q]:QK).getD ((i64.wrap (Int.tdiv c 64)).toNat) 0) (u64.wrap (1*2 ^ (min (Int.tmod c 64).toNat u64.bits))))else q)])] 1 1).normal
end
end Go.Proofs.YtmcemnfjddoejaaGreatDoor.T
