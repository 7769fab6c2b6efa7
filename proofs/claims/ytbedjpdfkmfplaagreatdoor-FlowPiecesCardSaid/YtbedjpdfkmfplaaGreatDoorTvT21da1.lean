import Derived.Test.YtbedjpdfkmfplaaGreatDoorTvT21d0
namespace Go.Proofs.YtbedjpdfkmfplaaGreatDoor.T
open Go Go.Tv Go.Proofs
open Go.IntKind (i64 u32 u64 u8)
noncomputable section
set_option maxRecDepth 100000
set_option maxHeartbeats 4000000
def hH  : Option (XK×XK×XK×XK×QX×QX×QX×Int×Int) :=
 some (([]:XK),([(10,10,2),(32,32,1)]:XK),([(32,126,1)]:XK),([]:XK),([99,108,97,115,115,32,79,59,32,109,97,121,32,79,32,47,32,79,59]:QX),([99,108,97,115,115,32,79,32,83,32,78,59,32,107,101,101,112,32,83,32,47,32,83,59,32,109,97,121,32,83,32,47,32,46,59,32,109,117,115,116,32,78,32,47,32,46,59,32,107,101,101,112,32,46,32,47,32,46,59]:QX),([]:QX),2,2)
theorem qH{e:XK×XK×XK×XK×QX×QX×QX×Int×Int}(h:hH=some e):
  Pure Tryz.prog 21 [] (aM (bg false [⟨Y7,e⟩])):=by
 refine PB Tryz.func21 (fun Bw w0=>?_);unfold hH at h;refine G (G (kM [.frzC 0 1,.frzC 0 2] (by kernel_rfl) (au ?_)));obtain rfl:=sI h;exact RI [Y7]
def mJ(f e:Int)(j:QX)(q p3 p4 p5 p6:Int)(o1:XX):Option ((Unit)⊕(Int×Int)):=some (Sum.inr (f,e))
theorem nj(v:Value)(e a:Int)(w:World):
  Calls Tryz.prog 81 #[v,.int .i64 e,.int .i64 a] w fun r f=>r = .panicked [{ v:=aZ 36 .i64 .i64 (e,a),recovered:=false }]∧f=w:=by
 go_enter Tryz.func81,Tryz.ntmps81;go_wp2
 exact⟨rfl,rfl,rfl⟩
theorem kB{j e:Int}{u:QX}{z p3 p4 p5 p6:Int}{o1:XX}{f:(Unit)⊕(Int×Int)}(h:mJ j e u z p3 p4 p5 p6 o1=some f):
  jt Tryz.prog 81 [.adr 0 0 10 0,.i64 j,.i64 e] (NP u z p3 p4 p5 p6 o1) (kH (fun(q:Unit)=>(.tup [],[])) (aZ 36 .i64 .i64) f):=by
 obtain rfl:=sI h;exact kg.Cy Tryz.func81 (by kernel_rfl) rfl (fun v w=>nj v _ _ w)
def gF(e:QX)(f:Int):Option (Int):=some (wB e f 0)
theorem lq(s:ByteArray)(c:Int)(w:World):
  Calls Tryz.prog 157 #[.string s,.int .u8 c] w fun e f=>e = .returned (.int .i64 (Lib.indexByte s.data.toList c.toNat.toUInt8))∧f=w:=by
 have hd:∀w,(callFunc 163 #[.string s,.int .u8 c]).run Tryz.prog w = .ok (.value (.int .i64 (Lib.indexByte s.data.toList c.toNat.toUInt8))) w:=fun w=>by rw[run_callFunc_extern (fn:=Tryz.f163) (e:=Extern.BytealgIndexByte.indexByte) Tryz.func163 (by kernel_rfl) rfl (by kernel_rfl) (by kernel_rfl),Lib.run_indexByteString];rfl
 go_enter Tryz.func157,Tryz.ntmps157;go_wp2
 go_ret
 exact⟨rfl,rfl⟩
theorem mT{f:QX}{j e:Int}(h:gF f j=some e):
  Pure Tryz.prog 157 [.st f,.u8 j] (aM (bg false [⟨(.int .i64),e⟩])):=by
 obtain rfl:=sI h;exact Pure.LQ Tryz.func157 (by kernel_rfl) rfl (fun s w=>lq s _ w)
def eY(e:QX)(f:Int):Option (Int) :=
 ((gF e f).bind fun j =>
 some j)
theorem kz{f:QX}{j e:Int}(h:eY f j=some e):
  Pure Tryz.prog 145 [.st f,.u8 j] (aM (bg false [⟨(.int .i64),e⟩])):=by
 refine PB Tryz.func145 (fun Bw w0=>?_);unfold eY at h;refine G ?_;obtain⟨u,q,h⟩:=aj h;refine GP 2 (mT q) (au ?_);obtain rfl:=sI h;exact RI [(.int .i64)]
def jb(e:Int):Option (Bool) :=
 (((if(e == 32)=true then some (true)
 else(if(e == 9)=true then some (true)
 else(if(e == 10)=true then some (true)
 else some ((e == 13)))))).bind fun v1=>some v1)
theorem wZ{u:Int}{j:Bool}(h:jb u=some j):
  Pure Tryz.prog 146 [.u8 u] (aM (bg false [⟨.bool,j⟩])):=by
 refine PB Tryz.func146 (fun Bw w0=>?_);unfold jb at h;refine G (af (bm h (fun v1=>aA [(2,.bo v1)] [] 0) (fun v1 h=>?_) (fun v1 h=>?_)))
 ·rcases aI h with⟨e,h⟩ | ⟨e,h⟩
  ·exact bq ⟨[(2,true),(5,true)],[]⟩ [(3,5,oc e)] (eN h (gg [] []))
  rcases aI h with⟨f,h⟩ | ⟨f,h⟩
  ·exact bq ⟨[(2,false),(5,false),(6,true),(9,true)],[]⟩ [(3,4,an e),(5,5,oc e),(7,9,oc f)] (eN h (gg [] []))
  rcases aI h with⟨q,h⟩ | ⟨q,h⟩
  ·exact bq ⟨[(2,false),(5,false),(6,false),(9,false),(10,true),(13,true)],[]⟩ [(3,4,an e),(5,5,oc e),(7,8,an f),(9,9,oc f),(11,13,oc q)] (eN h (gg [] []))
  exact bq ⟨[(2,false),(5,false),(6,false),(9,false),(10,false),(13,false)],[]⟩ [(3,4,an e),(5,5,oc e),(7,8,an f),(9,9,oc f),(11,12,an q),(13,13,oc q)] (eN h (gg [] []))
 refine ab (au ?_);obtain rfl:=sI h;exact RI [.bool]
def dJ(e:Int):Option (Bool) :=
 (((if(e == 95)=true then some (true)
 else(if(decide (e≥97))=true then(if(decide (e≤122))=true then some (true)
 else(if(decide (e≥65))=true then(if(decide (e≤90))=true then some (true)
 else(if(decide (e≥48))=true then some ((decide (e≤57)))
 else some (false)))
 else(if(decide (e≥48))=true then some ((decide (e≤57)))
 else some (false))))
 else(if(decide (e≥65))=true then(if(decide (e≤90))=true then some (true)
 else(if(decide (e≥48))=true then some ((decide (e≤57)))
 else some (false)))
 else(if(decide (e≥48))=true then some ((decide (e≤57)))
 else some (false)))))).bind fun v1=>some v1)
theorem dh{I:Int}{E:Bool}(h:dJ I=some E):
  Pure Tryz.prog 147 [.u8 I] (aM (bg false [⟨.bool,E⟩])):=by
 refine PB Tryz.func147 (fun Bw w0=>?_);unfold dJ at h;refine G (af (bm h (fun v1=>aA [(2,.bo v1)] [] 0) (fun v1 h=>?_) (fun v1 h=>?_)))
 ·rcases aI h with⟨e,h⟩ | ⟨e,h⟩
  ·exact bq ⟨[(2,true),(9,true)],[]⟩ [(3,5,oc e),(8,9,oc e)] (eN h (gg [] []))
  rcases aI h with⟨f,h⟩ | ⟨f,h⟩
  ·rcases aI h with⟨j,h⟩ | ⟨j,h⟩
   ·exact bq ⟨[(2,false),(5,true),(8,true),(9,false),(10,true),(17,true)],[]⟩ [(3,5,an e),(6,7,an f),(8,8,oc (And.intro e f)),(9,9,oc e),(11,13,oc j),(16,17,oc j)] (eN h (gg [] []))
   rcases aI h with⟨q,h⟩ | ⟨q,h⟩
   ·rcases aI h with⟨u,h⟩ | ⟨u,h⟩
    ·exact bq ⟨[(2,false),(5,true),(8,true),(9,false),(10,false),(13,true),(16,true),(17,false),(18,true),(25,true)],[]⟩ [(3,5,an e),(6,7,an f),(8,8,oc (And.intro e f)),(9,9,oc e),(11,13,an j),(14,15,an q),(16,16,oc (And.intro j q)),(17,17,oc j),(19,21,oc u),(24,25,oc u)] (eN h (gg [] []))
    rcases aI h with⟨A,h⟩ | ⟨A,h⟩
    ·exact bq ⟨[(2,false),(5,true),(8,true),(9,false),(10,false),(13,true),(16,true),(17,false),(18,false),(21,true),(24,true),(25,false)],[]⟩ [(3,5,an e),(6,7,an f),(8,8,oc (And.intro e f)),(9,9,oc e),(11,13,an j),(14,15,an q),(16,16,oc (And.intro j q)),(17,17,oc j),(19,21,an u),(22,23,an A),(24,24,oc (And.intro u A)),(25,25,oc u)] (eN h (gg [] []))
    exact bq ⟨[(2,false),(5,true),(8,true),(9,false),(10,false),(13,true),(16,true),(17,false),(18,false),(21,false),(24,false),(25,false)],[]⟩ [(3,5,an e),(6,7,an f),(8,8,oc (And.intro e f)),(9,9,oc e),(11,13,an j),(14,15,an q),(16,16,oc (And.intro j q)),(17,17,oc j),(19,21,an u),(22,23,oc A),(24,24,oc (And.intro u A)),(25,25,oc u)] (eN h (gg [] []))
   rcases aI h with⟨C,h⟩ | ⟨C,h⟩
   ·exact bq ⟨[(2,false),(5,true),(8,true),(9,false),(10,false),(13,false),(16,false),(17,false),(21,true),(24,true)],[]⟩ [(3,5,an e),(6,7,an f),(8,8,oc (And.intro e f)),(9,9,oc e),(11,13,an j),(14,15,oc q),(16,16,oc (And.intro j q)),(17,17,oc j),(22,23,an C),(24,24,oc C)] (eN h (gg [] []))
   exact bq ⟨[(2,false),(5,true),(8,true),(9,false),(10,false),(13,false),(16,false),(17,false),(21,false),(24,false)],[]⟩ [(3,5,an e),(6,7,an f),(8,8,oc (And.intro e f)),(9,9,oc e),(11,13,an j),(14,15,oc q),(16,16,oc (And.intro j q)),(17,17,oc j),(22,24,oc C)] (eN h (gg [] []))
  rcases aI h with⟨v,h⟩ | ⟨v,h⟩
  ·rcases aI h with⟨z,h⟩ | ⟨z,h⟩
   ·exact bq ⟨[(2,false),(5,false),(8,false),(9,false),(13,true),(16,true),(18,true),(25,true)],[]⟩ [(3,5,an e),(6,7,oc f),(8,8,oc (And.intro e f)),(9,9,oc e),(14,15,an v),(16,16,oc v),(19,21,oc z),(24,25,oc z)] (eN h (gg [] []))
   rcases aI h with⟨B,h⟩ | ⟨B,h⟩
   ·exact bq ⟨[(2,false),(5,false),(8,false),(9,false),(13,true),(16,true),(18,false),(21,true),(24,true),(25,false)],[]⟩ [(3,5,an e),(6,7,oc f),(8,8,oc (And.intro e f)),(9,9,oc e),(14,15,an v),(16,16,oc v),(19,21,an z),(22,23,an B),(24,24,oc (And.intro z B)),(25,25,oc z)] (eN h (gg [] []))
   exact bq ⟨[(2,false),(5,false),(8,false),(9,false),(13,true),(16,true),(18,false),(21,false),(24,false),(25,false)],[]⟩ [(3,5,an e),(6,7,oc f),(8,8,oc (And.intro e f)),(9,9,oc e),(14,15,an v),(16,16,oc v),(19,21,an z),(22,23,oc B),(24,24,oc (And.intro z B)),(25,25,oc z)] (eN h (gg [] []))
  rcases aI h with⟨D,h⟩ | ⟨D,h⟩
  ·exact bq ⟨[(2,false),(5,false),(8,false),(9,false),(13,false),(16,false),(21,true),(24,true)],[]⟩ [(3,5,an e),(6,7,oc f),(8,8,oc (And.intro e f)),(9,9,oc e),(14,16,oc v),(22,23,an D),(24,24,oc D)] (eN h (gg [] []))
  exact bq ⟨[(2,false),(5,false),(8,false),(9,false),(13,false),(16,false),(21,false),(24,false)],[]⟩ [(3,5,an e),(6,7,oc f),(8,8,oc (And.intro e f)),(9,9,oc e),(14,16,oc v),(22,24,oc D)] (eN h (gg [] []))
 refine ab (au ?_);obtain rfl:=sI h;exact RI [.bool]
def cy(f:QQ)(v1:QX):(Int)→Option ((Int)⊕((Unit)⊕(Int))):=fun e =>
 (if(decide (e<(f.length:Int)))=true then(if 0≤e∧e<(f.length:Int)then(if(v1 == (f.getD e.toNat []))=true then some (Sum.inr (Sum.inr e))
 else some (Sum.inl (i64.wrap (e+1))))else none)
 else some (Sum.inr (Sum.inl ())))
def cX(e:QQ)(v1:QX):Option (Int) :=
 ((iter (cy e v1) (0:Int)).bind fun(f:((Unit)⊕(Int)))=>match f with
 | .inl _=>some (-1:Int)
 | .inr (j)=>some j)
theorem kf(f:Bool){q:QQ}{v1:QX}{j:Int}(h:cX q v1=some j):
  Pure Tryz.prog 156 [.p f (.slice .str) q,.st v1] (aM (bg false [⟨(.int .i64),j⟩])):=by
 refine PB Tryz.func156 (fun Bw w0=>?_);unfold cX at h;refine G (af (G (ak (kX h (fun v=>aA [(0,.p f (.slice .str) q),(1,.st v1),(7,.i64 (q.length:Int)),(8,.i64 v)] [] 0) (dL (fK Tryz.f156.ntmps 0 (fun _=>aA [] [] 0)) (gM tb Tryz.f156.results.toList (fun z=>[⟨(.int .i64),z⟩]))) (gg [] []) (fun v o h=>?_) (fun B h e σ' A=>?_)))))
 ·unfold cy at h;refine G (af (aC h (fun C h=>?_) (fun C h=>?_)))
  ·refine ae (ab (af (ak (G (GC 3 h (fun h=>aC h (fun D h=>?_) (fun D h=>?_)))))))
   ·refine G (au ?_);obtain rfl:=sI h;refine aB (ah (bL (aN ?_)));exact bK (RI [(.int .i64)])
   refine ae (ay (ab (Ge ?_)));exact eB h (gg [] [])
  refine aw (aR ?_);obtain rfl:=sI h;refine eo (bn ?_);exact bT (gg [] [])
 rcases B with _ | z
 ·obtain⟨rfl,u⟩:=A;refine cU ?_ u;refine az (ab (G (au ?_)));obtain rfl:=sI h;exact RI [(.int .i64)]
 obtain⟨rfl,E⟩:=A;refine aB (ah ?_);obtain rfl:=sI h;exact E
def bd(f e:Int)(j:QX)(q p3 p4 p5 p6:Int)(o1:QQ)(o2:QK)(o3:XJ)(o4:XX):Option ((Unit)⊕(Int×Int)):=some (Sum.inr (f,e))
theorem mf(v:Value)(e a:Int)(w:World):
  Calls Tryz.prog 81 #[v,.int .i64 e,.int .i64 a] w fun r f=>r = .panicked [{ v:=aZ 36 .i64 .i64 (e,a),recovered:=false }]∧f=w:=by
 go_enter Tryz.func81,Tryz.ntmps81;go_wp2
 exact⟨rfl,rfl,rfl⟩
theorem aY{j e:Int}{u:QX}{z p3 p4 p5 p6:Int}{o1:QQ}{o2:QK}{o3:XJ}{o4:XX}{f:(Unit)⊕(Int×Int)}(h:bd j e u z p3 p4 p5 p6 o1 o2 o3 o4=some f):
  jt Tryz.prog 81 [.adr 0 0 10 0,.i64 j,.i64 e] (bN u z p3 p4 p5 p6 o1 o2 o3 o4) (kH (fun(q:Unit)=>(.tup [],[])) (aZ 36 .i64 .i64) f):=by
 obtain rfl:=sI h;exact kg.Cy Tryz.func81 (by kernel_rfl) rfl (fun v w=>mf v _ _ w)
def dR(f:QX)(E I J L:Int)(o1:QQ)(o2:QK)(o3:XJ)(o4:XX):(Int)→Option ((Int)⊕((Int)⊕((Int×Int)⊕(Int×Int)))):=fun e =>
 (if(decide (e<(f.length:Int)))=true then(if 0≤e∧e<(f.length:Int)then(if(((f.getD e.toNat 0).toNat:Int) == 35)=true then(if 0≤e∧e≤(f.length:Int)∧(f.length:Int)≤(f.length:Int)then((eY ((f.take (f.length:Int).toNat).drop e.toNat) 10).bind fun j =>
 (((if(decide (j<0))=true then some ((i64.wrap ((f.length:Int) - e)))
 else some (j))).bind fun q=>some (Sum.inl (i64.wrap (e+q)))))else none)
 else((jb ((f.getD e.toNat 0).toNat:Int)).bind fun u =>
 (if u=true then some (Sum.inl (i64.wrap (e+1)))
 else((((dJ ((f.getD e.toNat 0).toNat:Int)).bind fun v =>
 (if(!v)=true then((eY ([40,41,91,93,94,124,42,43,63,46,59,47,61]:QX) ((f.getD e.toNat 0).toNat:Int)).bind fun z =>
 some ((decide (z<0))))
 else some (false)))).bind fun A=>(if A=true then((bd 20 e f e E I J L o1 o2 o3 o4).bind fun(B:(Unit)⊕(Int×Int))=>match B with
 | .inr (C,D)=>some (Sum.inr (Sum.inr (Sum.inl (C,D))))
 | .inl _=>none)
 else some (Sum.inr (Sum.inr (Sum.inr (((f.getD e.toNat 0).toNat:Int),e)))))))))else none)
 else some (Sum.inr (Sum.inl e)))
def bj(z:QX)(A B C D E:Int)(o1:QQ)(o2:QK)(o3:XJ)(o4:XX):Option ((Int×Int)⊕(Int×Int)) :=
 ((iter (dR z B C D E o1 o2 o3 o4) A).bind fun(e:((Int)⊕((Int×Int)⊕(Int×Int))))=>match e with
 | .inl f=>some (Sum.inl (0,f))
 | .inr (.inl (j,q))=>some (Sum.inr (j,q))
 | .inr (.inr ((u,v)))=>some (Sum.inl (u,v)))
theorem aS{v:QX}{d2 z A B C:Int}{o1:QQ}{o2:QK}{o3:XJ}{o4:XX}{J:(Int×Int)⊕(Int×Int)}(h:bj v d2 z A B C o1 o2 o3 o4=some J):
  jt Tryz.prog 114 [.adr 0 0 10 0] (bN v d2 z A B C o1 o2 o3 o4) (kH (fun(q:Int×Int)=>(.u8 q.1,(bN v q.2 z A B C o1 o2 o3 o4))) (aZ 36 .i64 .i64) J):=by
 refine DB Tryz.func114 (fun Bw w0=>?_);unfold bj at h;refine G (af (ak (kX h (fun j=>aA [(0,.adr 0 0 10 0)] (bN v j z A B C o1 o2 o3 o4) 5 5) (dL (fK Tryz.f114.ntmps 0 (fun D=>aA [] (bN v D z A B C o1 o2 o3 o4) 5 5)) (dL (tV (aZ 36 .i64 .i64)) (ED tb Tryz.f114.ntmps Tryz.f114.results.toList (fun(L,M)=>(.u8 L,(bN v M z A B C o1 o2 o3 o4)))))) (gg [] [0,1,2,3,4]) (fun j o h=>?_) (fun V h e σ' X=>?_))))
 ·unfold dR at h;refine af (GD a0 [] (aC h (fun Y h=>?_) (fun Y h=>?_)))
  ·refine ae (ab (ak ?_));obtain⟨Z,h⟩:=aE h;refine GD a0 [(8,8,oc Z)] (G (aC h (fun a1 h=>?_) (fun a1 h=>?_)))
   ·obtain⟨a2,h⟩:=aE h;obtain⟨ad,a3,h⟩:=aj h;have f:=(kz a3);refine GD ⟨[],[(9,(oP f))]⟩ [(8,8,oc a2),(9,9,oc f)] (af (G (bm h (fun E=>aA [(0,.adr 0 0 10 0),(4,.i64 E)] (bN v j z A B C o1 o2 o3 o4) 5 5) (fun E h=>?_) (fun E h=>?_))))
    ·refine aC h (fun a4 h=>?_) (fun a4 h=>?_)
     ·exact mu a0 [] (eN h (gg [] [0,1,2,3,4]))
     exact ae (eN h (gg [] [0,1,2,3,4]))
    refine ab (Ge (ay ?_));exact eB h (gg [] [0,1,2,3,4])
   obtain⟨ax,a5,h⟩:=aj h;refine GP 1 (wZ a5) (aC h (fun a6 h=>?_) (fun a6 h=>?_))
   ·refine Ge (ay ?_);exact eB h (gg [] [0,1,2,3,4])
   refine af (af (bm h (fun I=>aA [(0,.adr 0 0 10 0),(3,.u8 ((v.getD j.toNat 0).toNat:Int)),(72,.bo I)] (bN v j z A B C o1 o2 o3 o4) 5 5) (fun I h=>?_) (fun I h=>?_)))
   ·obtain⟨b1,N,h⟩:=aj h;rcases aI h with⟨u,h⟩ | ⟨u,h⟩
    ·obtain⟨b2,a7,h⟩:=aj h;have f:=(dh N);have O:=(kz a7);exact bq ⟨[(3,true),(7,true)],[(1,(oP f)),(5,(oP O))]⟩ [(1,1,oc f),(4,4,an u),(5,5,oc (And.intro u O)),(6,6,an u),(7,7,oc u)] (eN h (gg [] [0,1,2,3,4]))
    have f:=(dh N);exact bq ⟨[(3,false),(7,false)],[(1,(oP f))]⟩ [(1,1,oc f),(4,7,oc u)] (eN h (gg [] [0,1,2,3,4]))
   refine ab (aC h (fun a8 h=>?_) (fun a8 h=>?_))
   ·obtain⟨a9,aa,h⟩:=aj h;rcases a9 with _ | ⟨b3,b4⟩
    ·cases h
    refine GX 5 [0,1,2,3,4] (aY aa) (fun _=>?_);obtain rfl:=sI h;refine aF (bz (bW (aN (Cu ?_))));exact rfl
   refine ae (ab (G (au ?_)));obtain rfl:=sI h;refine aB (bL (aN (aN ?_)));exact zr (RO [some (.int .u8)] [] [0,1,2,3,4] [(2,.u8 ((v.getD j.toNat 0).toNat:Int))] (bN v j z A B C o1 o2 o3 o4) 5 5)
  refine aw (aR ?_);obtain rfl:=sI h;refine eo (bn ?_);exact bT (gg [] [0,1,2,3,4])
 rcases V with D | ⟨b5,b6⟩ | ⟨L,M⟩
 ·obtain⟨rfl,ac⟩:=X;refine cU ?_ ac;refine az (ab (G (au ?_)));obtain rfl:=sI h;exact RO [some (.int .u8)] [] [0,1,2,3,4] [(2,.u8 0)] (bN v D z A B C o1 o2 o3 o4) 5 5
 ·obtain rfl:=X;refine bz (aF ?_);obtain rfl:=sI h;exact rfl
 obtain⟨rfl,hr⟩:=X;refine aB (ah ?_);obtain rfl:=sI h;exact hr
def dS(f:QX):(Int)→Option ((Int)⊕(Int)):=fun e =>
 (((if(decide (e<(f.length:Int)))=true then(if 0≤e∧e<(f.length:Int)then((dJ ((f.getD e.toNat 0).toNat:Int)).bind fun j =>
 some (j))else none)
 else some (false))).bind fun q=>(if q=true then some (Sum.inl (i64.wrap (e+1)))
 else some (Sum.inr e)))
def cb(j:QX)(C p3 p4 p5 p6:Int)(o1:QQ)(o2:QK)(o3:XJ)(o4:XX):Option ((QX×Int×Int)⊕(Int×Int)) :=
 ((bj j C p3 p4 p5 p6 o1 o2 o3 o4).bind fun(D:(Int×Int)⊕(Int×Int))=>match D with
 | .inr (q,u)=>some (Sum.inr (q,u))
 | .inl (v,e)=>((dJ v).bind fun z =>
 (if(!z)=true then((bd 21 e j e p3 p4 p5 p6 o1 o2 o3 o4).bind fun(E:(Unit)⊕(Int×Int))=>match E with
 | .inr (A,B)=>some (Sum.inr (A,B))
 | .inl _=>none)
 else((iter (dS j) e).bind fun f=>(if 0≤e∧e≤f∧f≤(j.length:Int)then some (Sum.inl (((j.take f.toNat).drop e.toNat),e,f))else none)))))
theorem bB{v:QX}{V p3 p4 p5 p6:Int}{o1:QQ}{o2:QK}{o3:XJ}{o4:XX}{A:(QX×Int×Int)⊕(Int×Int)}(h:cb v V p3 p4 p5 p6 o1 o2 o3 o4=some A):
  jt Tryz.prog 115 [.adr 0 0 10 0] (bN v V p3 p4 p5 p6 o1 o2 o3 o4) (kH (fun(q:QX×Int×Int)=>(.tup [.st q.1,.i64 q.2.1],(bN v q.2.2 p3 p4 p5 p6 o1 o2 o3 o4))) (aZ 36 .i64 .i64) A):=by
 refine DB Tryz.func115 (fun Bw w0=>?_);unfold cb at h;refine G (af (af ?_));obtain⟨X,B,h⟩:=aj h;rcases X with⟨Y,f⟩ | ⟨Z,a1⟩
 ·obtain⟨a2,D,h⟩:=aj h;have j:=(aS B);have C:=(dh D);refine bq ⟨[],[(1,(oO j [0,1,2,3,4])),(2,(oP C))]⟩ [(1,1,oc j),(2,2,oc C)] (ab (aC h (fun E h=>?_) (fun E h=>?_)))
  ·obtain⟨z8,I,h⟩:=aj h;rcases z8 with _ | ⟨a3,a4⟩
   ·cases h
   refine GX 5 [0,1,2,3,4] (aY I) (fun _=>aF ?_);obtain rfl:=sI h;exact rfl
  refine ae (ab (G (af (ak (cM h (fun z=>aA [(0,.adr 0 0 10 0),(4,.i64 f)] (bN v z p3 p4 p5 p6 o1 o2 o3 o4) 5 5) 0 (fun u=>aA [(0,.adr 0 0 10 0),(4,.i64 f)] (bN v u p3 p4 p5 p6 o1 o2 o3 o4) 5 5) (gg [] [0,1,2,3,4]) (fun z o h=>?_) (fun u h=>?_))))))
  ·unfold dS at h;refine af (af (bm h (fun J=>aA [(0,.adr 0 0 10 0),(4,.i64 f),(40,.bo J)] (bN v z p3 p4 p5 p6 o1 o2 o3 o4) 5 5) (fun J h=>?_) (fun J h=>?_)))
   ·rcases aI h with⟨e,h⟩ | ⟨e,h⟩
    ·obtain⟨L,h⟩:=aE h;obtain⟨a5,M,h⟩:=aj h;have j:=(dh M);exact mu ⟨[(10,true),(21,true)],[(20,(oP j))]⟩ [(11,18,an e),(19,19,oc (And.intro e L)),(20,20,oc (And.intro e j)),(21,21,oc e)] (eN h (gg [] [0,1,2,3,4]))
    exact mu ⟨[(10,false),(21,false)],[]⟩ [(11,21,oc e)] (eN h (gg [] [0,1,2,3,4]))
   refine ab (aC h (fun N h=>?_) (fun N h=>?_))
   ·refine ae (ab (ak (Ge (ay ?_))));exact eB h (gg [] [0,1,2,3,4])
   refine aw (aR ?_);exact eX h (gg [] [0,1,2,3,4])
  refine az (ab ?_);obtain⟨O,h⟩:=aE h;refine GD a0 [(9,9,oc O)] (au ?_);obtain rfl:=sI h;exact RO [some .str,some (.int .i64)] [] [0,1,2,3,4] [(2,.st ((v.take u.toNat).drop f.toNat)),(3,.i64 f)] (bN v u p3 p4 p5 p6 o1 o2 o3 o4) 5 5
 refine GX 1 [0,1,2,3,4] (aS B) (fun _=>aF (aF ?_));obtain rfl:=sI h;exact rfl
def bk(f:Int)(j:QX)(q p3 p4 p5 p6:Int)(o1:QQ)(o2:QK)(o3:XJ)(o4:XX):Option ((Bool×Int)⊕(Int×Int)) :=
 ((bj j q p3 p4 p5 p6 o1 o2 o3 o4).bind fun(u:(Int×Int)⊕(Int×Int))=>match u with
 | .inr (v,z)=>some (Sum.inr (v,z))
 | .inl (A,e)=>(if(A != f)=true then some (Sum.inl (false,e))
 else some (Sum.inl (true,(i64.wrap (e+1))))))
theorem aL{j:Int}{e:QX}{u p3 p4 p5 p6:Int}{o1:QQ}{o2:QK}{o3:XJ}{o4:XX}{f:(Bool×Int)⊕(Int×Int)}(h:bk j e u p3 p4 p5 p6 o1 o2 o3 o4=some f):
  jt Tryz.prog 140 [.adr 0 0 10 0,.u8 j] (bN e u p3 p4 p5 p6 o1 o2 o3 o4) (kH (fun(q:Bool×Int)=>(.bo q.1,(bN e q.2 p3 p4 p5 p6 o1 o2 o3 o4))) (aZ 36 .i64 .i64) f):=by
 refine DB Tryz.func140 (fun Bw w0=>?_);unfold bk at h;refine G (af (af ?_));obtain⟨A,v,h⟩:=aj h;rcases A with⟨C,z⟩ | ⟨D,E⟩
 ·refine lH 1 [0,1,2,3,4] (aS v) (ab (aC h (fun B h=>?_) (fun B h=>?_)))
  ·refine G (au (ah ?_));obtain rfl:=sI h;exact RO [some .bool] [] [0,1,2,3,4] [(4,.bo false)] (bN e z p3 p4 p5 p6 o1 o2 o3 o4) 5 5
  refine ae (ab (G (G (au ?_))));obtain rfl:=sI h;exact RO [some .bool] [] [0,1,2,3,4] [(4,.bo true)] (bN e (i64.wrap (z+1)) p3 p4 p5 p6 o1 o2 o3 o4) 5 5
 refine GX 1 [0,1,2,3,4] (aS v) (fun _=>aF (aF ?_));obtain rfl:=sI h;exact rfl
def dq(A:QX)(B p3 p4 p5 p6:Int)(o1:QQ)(o2:QK)(o3:XJ)(o4:XX):Option (Z4⊕(Int×Int)) :=
 ((cb A B p3 p4 p5 p6 o1 o2 o3 o4).bind fun(C:(QX×Int×Int)⊕(Int×Int))=>match C with
 | .inr (j,q)=>some (Sum.inr (j,q))
 | .inl (e,u,f)=>(if((aT .str o4 e).isSome)=true then((bd 23 u A f p3 p4 p5 p6 o1 o2 o3 o4).bind fun(D:(Unit)⊕(Int×Int))=>match D with
 | .inr (v,z)=>some (Sum.inr (v,z))
 | .inl _=>none)
 else some (Sum.inl (e,f))))
theorem dD{f:QX}{v p3 p4 p5 p6:Int}{o1:QQ}{o2:QK}{o3:XJ}{o4:XX}{e:Z4⊕(Int×Int)}(h:dq f v p3 p4 p5 p6 o1 o2 o3 o4=some e):
  jt Tryz.prog 141 [.adr 0 0 10 0] (bN f v p3 p4 p5 p6 o1 o2 o3 o4) (kH (fun(q:QX×Int)=>(.st q.1,(bN f q.2 p3 p4 p5 p6 o1 o2 o3 o4))) (aZ 36 .i64 .i64) e):=by
 refine DB Tryz.func141 (fun Bw w0=>?_);unfold dq at h;refine G (af ?_);obtain⟨A,z,h⟩:=aj h;rcases A with⟨j,B,u⟩ | ⟨C,D⟩
 ·refine lH 1 [0,1,2,3,4] (bB z) (ab (af (G (G (aC h (fun E h=>?_) (fun E h=>?_))))))
  ·obtain⟨I,J,h⟩:=aj h;rcases I with _ | ⟨L,M⟩
   ·cases h
   refine GX 2 [0,1,2,3,4] (aY J) (fun _=>aF ?_);obtain rfl:=sI h;exact rfl
  refine ae (ab (G (au ?_)));obtain rfl:=sI h;exact RO [some .str] [] [0,1,2,3,4] [(2,.st j)] (bN f u p3 p4 p5 p6 o1 o2 o3 o4) 5 5
 refine GX 1 [0,1,2,3,4] (bB z) (fun _=>aF ?_);obtain rfl:=sI h;exact rfl
def iv(B:QX)(C D E I:Int)(o3:XJ):(Int×QQ×QK×XX)→Option ((Int×QQ×QK×XX)⊕((Int×QQ×QK×XX)⊕(Int×Int))):=fun(J,e,f,j) =>
 ((bk 59 B J C D E I e f o3 j).bind fun(L:(Bool×Int)⊕(Int×Int))=>match L with
 | .inr (M,N)=>some (Sum.inr (Sum.inr (M,N)))
 | .inl (O,u)=>(if(!O)=true then((bj B u C D E I e f o3 j).bind fun(V:(Int×Int)⊕(Int×Int))=>match V with
 | .inr (X,Y)=>some (Sum.inr (Sum.inr (X,Y)))
 | .inl (a5,v)=>((dq B v C D E I e f o3 j).bind fun(Z:Z4⊕(Int×Int))=>match Z with
 | .inr (a1,a2)=>some (Sum.inr (Sum.inr (a1,a2)))
 | .inl (q,z)=>(if(decide ((e.length:Int)≥24))=true then((bd 24 v B z C D E I e f o3 j).bind fun(a3:(Unit)⊕(Int×Int))=>match a3 with
 | .inr (a4,A)=>some (Sum.inr (Sum.inr (a4,A)))
 | .inl _=>none)
 else(if 0≤(e.length:Int)then(if(f.length+([(e.length:Int)]:QK).length)*8≤140737488355328∧f.length+([(e.length:Int)]:QK).length≤9223372036854775807 then(if(e.length+([q]:QQ).length)*16≤140737488355328∧e.length+([q]:QQ).length≤9223372036854775807 then some (Sum.inl (z,(e++([q]:QQ)),(f++([(e.length:Int)]:QK)),(cq .str j q (u32.wrap (1*2 ^ (min (e.length:Int).toNat u32.bits))))))else none)else none)else none))))
 else some (Sum.inr (Sum.inl (u,e,f,j)))))
def eP(u:QX)(v z A B C:Int)(o1:QQ)(o2:QK)(o3:XJ)(o4:XX):Option ((Int×QQ×QK×XX)⊕(Int×Int)) :=
 ((iter (iv u z A B C o3) (v,o1,o2,o4)).bind fun(e:((Int×QQ×QK×XX)⊕(Int×Int)))=>match e with
 | .inl (D,v10,v11,f)=>some (Sum.inl (D,v10,v11,f))
 | .inr ((j,q))=>some (Sum.inr (j,q)))
theorem iA{j:QX}{d2 u v z A:Int}{o1:QQ}{o2:QK}{o3:XJ}{o4:XX}{B:(Int×QQ×QK×XX)⊕(Int×Int)}(h:eP j d2 u v z A o1 o2 o3 o4=some B):
  jt Tryz.prog 110 [.adr 0 0 10 0] (bN j d2 u v z A o1 o2 o3 o4) (kH (fun(q:Int×QQ×QK×XX)=>(.tup [],(J5 j q.1 u v z A o3 q.2.2.2 q.2.1 q.2.2.1))) (aZ 36 .i64 .i64) B):=by
 refine DB Tryz.func110 (fun Bw w0=>?_);unfold eP at h;refine ak (kX h (fun(C,D,E,I)=>aA [(0,.adr 0 0 10 0)] (J5 j C u v z A o3 I D E) 7 5) (dL (fK Tryz.f110.ntmps 0 (fun(N,v10,v11,f)=>aA [] (J5 j N u v z A o3 f v10 v11) 7 5)) (tV (aZ 36 .i64 .i64))) (gg [] [0,1,2,3,4,1,2]) (fun y o h=>?_) (fun O h e σ' hq=>?_))
 ·obtain⟨C,D,E,I⟩:=y;unfold iv at h;refine af (af ?_);obtain⟨V,J,h⟩:=aj h;rcases V with⟨a8,a9⟩ | ⟨aa,ac⟩
  ·refine lH 1 [0,5,6,3,4] (aL J) (ab (aC h (fun X h=>?_) (fun X h=>?_)))
   ·refine ae (ab (ak (af ?_)));obtain⟨Y,L,h⟩:=aj h;rcases Y with⟨ad,ax⟩ | ⟨b1,b2⟩
    ·refine lH 1 [0,5,6,3,4] (aS L) (ab (G (af ?_)));obtain⟨Z,M,h⟩:=aj h;rcases Z with⟨b3,b4⟩ | ⟨b5,b6⟩
     ·refine lH 1 [0,5,6,3,4] (dD M) (ab (af (G (aC h (fun a1 h=>?_) (fun a1 h=>?_)))))
      ·obtain⟨a2,a3,h⟩:=aj h;rcases a2 with _ | ⟨b7,a7⟩
       ·cases h
       refine GX 2 [0,5,6,3,4] (aY a3) (fun _=>?_);obtain rfl:=sI h;refine aF (bz (bW (aN ?_)));exact rfl
      refine ae (ab ?_);obtain⟨a4,h⟩:=aE h;refine GD a0 [(11,11,oc a4)] ?_;obtain⟨a5,h⟩:=aE h;refine GD a0 [(13,13,oc a5)] (yK 8 h (fun h=>ay ?_));exact eB h (gg [] [0,1,2,3,4,479,375])
     refine GX 1 [0,5,6,3,4] (dD M) (fun _=>?_);obtain rfl:=sI h;refine aF (bz (bW (aN ?_)));exact rfl
    refine GX 1 [0,5,6,3,4] (aS L) (fun _=>?_);obtain rfl:=sI h;refine aF (bz (bW (aN ?_)));exact rfl
   refine aw (aR ?_);obtain rfl:=sI h;refine eo (bn ?_);exact bT (gg [] [0,1,2,3,4,5,6])
  refine GX 1 [0,5,6,3,4] (aL J) (fun _=>?_);obtain rfl:=sI h;refine aF (aF (bW (aN ?_)));exact rfl
 rcases O with⟨N,v10,v11,f⟩ | ⟨b8,b9⟩
 ·obtain⟨rfl,a6⟩:=hq;refine cU ?_ a6;refine az ?_;obtain rfl:=sI h;exact(RO [] [] [0,1,2,3,4,5,6] [] (J5 j N u v z A o3 f v10 v11) 7 5).normal
 obtain rfl:=hq;refine bz ?_;obtain rfl:=sI h;exact rfl
def bD(z:Int)(v:QX)(A p3 p4 p5 p6:Int)(o1:QQ)(o2:QK)(o3:XJ)(o4:XX):Option ((Int)⊕(Int×Int)) :=
 ((bk z v A p3 p4 p5 p6 o1 o2 o3 o4).bind fun(B:(Bool×Int)⊕(Int×Int))=>match B with
 | .inr (e,f)=>some (Sum.inr (e,f))
 | .inl (C,j)=>(if(!C)=true then((bd 21 j v j p3 p4 p5 p6 o1 o2 o3 o4).bind fun(D:(Unit)⊕(Int×Int))=>match D with
 | .inr (q,u)=>some (Sum.inr (q,u))
 | .inl _=>none)
 else some (Sum.inl j)))
theorem aV{j:Int}{f:QX}{u p3 p4 p5 p6:Int}{o1:QQ}{o2:QK}{o3:XJ}{o4:XX}{e:(Int)⊕(Int×Int)}(h:bD j f u p3 p4 p5 p6 o1 o2 o3 o4=some e):
  jt Tryz.prog 142 [.adr 0 0 10 0,.u8 j] (bN f u p3 p4 p5 p6 o1 o2 o3 o4) (kH (fun(q:Int)=>(.tup [],(bN f q p3 p4 p5 p6 o1 o2 o3 o4))) (aZ 36 .i64 .i64) e):=by
 refine DB Tryz.func142 (fun Bw w0=>?_);unfold bD at h;refine af ?_;obtain⟨z,v,h⟩:=aj h;rcases z with⟨M,A⟩ | ⟨B,C⟩
 ·refine lH 2 [0,1,2,3,4] (aL v) (ab (aC h (fun D h=>?_) (fun D h=>?_)))
  ·obtain⟨E,I,h⟩:=aj h;rcases E with _ | ⟨J,L⟩
   ·cases h
   refine GX 5 [0,1,2,3,4] (aY I) (fun _=>?_);obtain rfl:=sI h;exact rfl
  refine ae ?_;obtain rfl:=sI h;exact(RO [] [] [0,1,2,3,4] [] (bN f A p3 p4 p5 p6 o1 o2 o3 o4) 5 5).normal
 refine GX 2 [0,1,2,3,4] (aL v) (fun _=>aF ?_);obtain rfl:=sI h;exact rfl
def dv(A:QX)(B p3 p4 p5 p6:Int)(o1:QQ)(o2:QK)(o3:XJ)(o4:XX):Option ((Int×Int)⊕(Int×Int)) :=
 ((cb A B p3 p4 p5 p6 o1 o2 o3 o4).bind fun(C:(QX×Int×Int)⊕(Int×Int))=>match C with
 | .inr (j,q)=>some (Sum.inr (j,q))
 | .inl (e,u,f)=>(if((aT .str o4 e).isSome)=true then some (Sum.inl (((aT .str o4 e).getD 0),f))
 else((bd 22 u A f p3 p4 p5 p6 o1 o2 o3 o4).bind fun(D:(Unit)⊕(Int×Int))=>match D with
 | .inr (v,z)=>some (Sum.inr (v,z))
 | .inl _=>none)))
theorem dI{f:QX}{v p3 p4 p5 p6:Int}{o1:QQ}{o2:QK}{o3:XJ}{o4:XX}{e:(Int×Int)⊕(Int×Int)}(h:dv f v p3 p4 p5 p6 o1 o2 o3 o4=some e):
  jt Tryz.prog 155 [.adr 0 0 10 0] (bN f v p3 p4 p5 p6 o1 o2 o3 o4) (kH (fun(q:Int×Int)=>(.u32 q.1,(bN f q.2 p3 p4 p5 p6 o1 o2 o3 o4))) (aZ 36 .i64 .i64) e):=by
 refine DB Tryz.func155 (fun Bw w0=>?_);unfold dv at h;refine G (af ?_);obtain⟨A,z,h⟩:=aj h;rcases A with⟨j,B,u⟩ | ⟨C,D⟩
 ·refine lH 1 [0,1,2,3,4] (bB z) (ab (af (G (G (aC h (fun E h=>?_) (fun E h=>?_))))))
  ·refine G (au (ah ?_));obtain rfl:=sI h;exact RO [some (.int .u32)] [] [0,1,2,3,4] [(2,.u32 ((aT .str o4 j).getD 0))] (bN f u p3 p4 p5 p6 o1 o2 o3 o4) 5 5
  refine ae (ab (af ?_));obtain⟨I,J,h⟩:=aj h;rcases I with _ | ⟨L,M⟩
  ·cases h
  refine GX 2 [0,1,2,3,4] (aY J) (fun _=>aF ?_);obtain rfl:=sI h;exact rfl
 refine GX 1 [0,1,2,3,4] (bB z) (fun _=>aF ?_);obtain rfl:=sI h;exact rfl
def eL(f:Int)(J:QX)(p3 p4 p5 p6:Int)(o1:QQ)(o2:QK)(o3:XJ)(o4:XX):(Int×Int)→Option ((Int×Int)⊕((Int×Int)⊕(Int×Int))):=fun(q,e) =>
 ((bj J q p3 p4 p5 p6 o1 o2 o3 o4).bind fun(u:(Int×Int)⊕(Int×Int))=>match u with
 | .inr (v,z)=>some (Sum.inr (Sum.inr (v,z)))
 | .inl (A,j)=>(if(A != f)=true then((dv J j p3 p4 p5 p6 o1 o2 o3 o4).bind fun(B:(Int×Int)⊕(Int×Int))=>match B with
 | .inr (C,D)=>some (Sum.inr (Sum.inr (C,D)))
 | .inl (E,I)=>some (Sum.inl (I,(bitsOf .or .u32 e E))))
 else some (Sum.inr (Sum.inl (j,e)))))
def bI(f:Int)(z:QX)(A p3 p4 p5 p6:Int)(o1:QQ)(o2:QK)(o3:XJ)(o4:XX):Option ((Int×Int)⊕(Int×Int)) :=
 ((iter (eL f z p3 p4 p5 p6 o1 o2 o3 o4) (A,0)).bind fun(j:((Int×Int)⊕(Int×Int)))=>match j with
 | .inl (q,e)=>some (Sum.inl (e,(i64.wrap (q+1))))
 | .inr ((u,v))=>some (Sum.inr (u,v)))
theorem aK{j:Int}{z:QX}{M p3 p4 p5 p6:Int}{o1:QQ}{o2:QK}{o3:XJ}{o4:XX}{A:(Int×Int)⊕(Int×Int)}(h:bI j z M p3 p4 p5 p6 o1 o2 o3 o4=some A):
  jt Tryz.prog 143 [.adr 0 0 10 0,.u8 j] (bN z M p3 p4 p5 p6 o1 o2 o3 o4) (kH (fun(q:Int×Int)=>(.u32 q.1,(bN z q.2 p3 p4 p5 p6 o1 o2 o3 o4))) (aZ 36 .i64 .i64) A):=by
 refine DB Tryz.func143 (fun Bw w0=>?_);unfold bI at h;refine G (G (af (ak (kX h (fun(B,u)=>aA [(0,.adr 0 0 10 0),(1,.u8 j),(5,.u32 u)] (bN z B p3 p4 p5 p6 o1 o2 o3 o4) 5 5) (dL (fK Tryz.f143.ntmps 0 (fun(v,f)=>aA [(0,.adr 0 0 10 0),(5,.u32 f)] (bN z v p3 p4 p5 p6 o1 o2 o3 o4) 5 5)) (tV (aZ 36 .i64 .i64))) (gg [] [0,1,2,3,4]) (fun y o h=>?_) (fun E h e σ' N=>?_)))))
 ·obtain⟨B,u⟩:=y;unfold eL at h;refine af (af ?_);obtain⟨I,C,h⟩:=aj h;rcases I with⟨O,V⟩ | ⟨X,Y⟩
  ·refine lH 1 [0,1,2,3,4] (aS C) (ab (aC h (fun Z h=>?_) (fun Z h=>?_)))
   ·refine ae (ab (ak ?_));obtain⟨J,D,h⟩:=aj h;rcases J with⟨a1,a2⟩ | ⟨a3,a4⟩
    ·refine lH 2 [0,1,2,3,4] (dI D) (ay ?_);exact eB h (gg [] [0,1,2,3,4])
    refine GX 2 [0,1,2,3,4] (dI D) (fun _=>?_);obtain rfl:=sI h;refine bz (bW (aN ?_));exact rfl
   refine aw (aR ?_);obtain rfl:=sI h;refine eo (bn ?_);exact bT (gg [] [0,1,2,3,4])
  refine GX 1 [0,1,2,3,4] (aS C) (fun _=>?_);obtain rfl:=sI h;refine aF (aF (bW (aN ?_)));exact rfl
 rcases E with⟨v,f⟩ | ⟨a5,a6⟩
 ·obtain⟨rfl,L⟩:=N;refine cU ?_ L;refine az (ab (G (G (au ?_))));obtain rfl:=sI h;exact RO [some (.int .u32)] [] [0,1,2,3,4] [(4,.u32 f)] (bN z (i64.wrap (v+1)) p3 p4 p5 p6 o1 o2 o3 o4) 5 5
 obtain rfl:=N;refine bz (aF ?_);obtain rfl:=sI h;exact rfl
def fI(e:QX)(L p3 p4 p5 p6:Int)(o1:QQ)(o2:QK)(o3:XJ)(o4:XX):Option ((Int×XX)⊕(Int×Int)) :=
 ((dq e L p3 p4 p5 p6 o1 o2 o3 o4).bind fun(M:Z4⊕(Int×Int))=>match M with
 | .inr (f,j)=>some (Sum.inr (f,j))
 | .inl (q,u)=>((bD 61 e u p3 p4 p5 p6 o1 o2 o3 o4).bind fun(v:(Int)⊕(Int×Int))=>match v with
 | .inr (z,A)=>some (Sum.inr (z,A))
 | .inl B=>((bI 59 e B p3 p4 p5 p6 o1 o2 o3 o4).bind fun(C:(Int×Int)⊕(Int×Int))=>match C with
 | .inr (D,E)=>some (Sum.inr (D,E))
 | .inl (I,J)=>some (Sum.inl (J,(cq .str o4 q I))))))
theorem jl{v:QX}{M p3 p4 p5 p6:Int}{o1:QQ}{o2:QK}{o3:XJ}{o4:XX}{z:(Int×XX)⊕(Int×Int)}(h:fI v M p3 p4 p5 p6 o1 o2 o3 o4=some z):
  jt Tryz.prog 111 [.adr 0 0 10 0] (bN v M p3 p4 p5 p6 o1 o2 o3 o4) (kH (fun(q:Int×XX)=>(.tup [],(bN v q.1 p3 p4 p5 p6 o1 o2 o3 q.2))) (aZ 36 .i64 .i64) z):=by
 refine DB Tryz.func111 (fun Bw w0=>?_);unfold fI at h;refine af ?_;obtain⟨O,N,h⟩:=aj h;rcases O with⟨A,V⟩ | ⟨X,Y⟩
 ·refine lH 1 [0,1,2,3,4] (dD N) (ab (af ?_));obtain⟨I,B,h⟩:=aj h;rcases I with C | ⟨Z,a1⟩
  ·refine lH 1 [0,1,2,3,4] (aV B) (ab ?_);obtain⟨J,u,h⟩:=aj h;rcases J with⟨D,E⟩ | ⟨f,j⟩
   ·have e:=(aK u);refine qk iB mixed ⟨[],[(6,(oO e [0,1,2,3,4]))]⟩ (.one 0 (.one 1 (.one 2 (.one 4 (.one 5 (.two 3 (.one 6 (.one 7 (.leaf))) 6 (.one 3 (.one 7 (.leaf))))))))) [([],[]),([],[]),([],[]),([0],[]),([],[]),([],[]),([0,1,2,3,4],[0,1,2,3,4,93,94,95,96,97,98,99,100]),([4],[4])] 2 [] [] [0,1,2,3,4] [] (bN v E p3 p4 p5 p6 o1 o2 o3 (cq .str o4 A D)) 5 5 (Ts 6 ((pO e)::(pO e)::(Ts 3 []))) (by kernel_rfl) (by kernel_rfl) (tr 6 ⟨e,e,(tr 3 tt)⟩) (fun _=>?_) (fun y L=>by cases L);obtain rfl:=sI h;exact(RO [] [] [0,1,2,3,4] [] (bN v E p3 p4 p5 p6 o1 o2 o3 (cq .str o4 A D)) 5 5).normal
   have e:=(aK u);refine qk iB mixed ⟨[],[(6,(oD e [0,1,2,3,4]))]⟩ (.one 0 (.one 1 (.one 2 (.one 4 (.one 5 (.twoD 3 (.dead 6) 6)))))) [([],[]),([],[]),([],[]),([0],[]),([],[]),([],[]),([0,1,2,3,4],[0,1,2,3,4,93,94,95,96,97,98,99,100]),([],[])] 0 [(aZ 36 .i64 .i64 (f,j)),(aZ 36 .i64 .i64 (f,j))] [] [0,1,2,3,4] [] [] 5 5 (Ts 6 [kg Tryz.prog 143 [.adr 0 0 10 0,.u8 59] (bN v C p3 p4 p5 p6 o1 o2 o3 o4) (aZ 36 .i64 .i64 (f,j)),kg Tryz.prog 143 [.adr 0 0 10 0,.u8 59] (bN v C p3 p4 p5 p6 o1 o2 o3 o4) (aZ 36 .i64 .i64 (f,j))]) (by kernel_rfl) (by kernel_rfl) (tr 6 ⟨(aK u),(aK u),tt⟩) (fun h0=>absurd rfl h0) (fun y L σ1=>?_);obtain rfl:y=(aZ 36 .i64 .i64 (f,j)):=by simpa using L
   obtain rfl:=sI h;exact rfl
  refine GX 1 [0,1,2,3,4] (aV B) (fun _=>aF ?_);obtain rfl:=sI h;exact rfl
 refine GX 1 [0,1,2,3,4] (dD N) (fun _=>aF ?_);obtain rfl:=sI h;exact rfl
def fu(B:QX)(C p3 p4 p5 p6:Int)(o1:QQ)(o2:QK)(o3:XJ)(o4:XX):Option (Z8⊕(Int×Int)) :=
 ((bI 47 B C p3 p4 p5 p6 o1 o2 o3 o4).bind fun(D:(Int×Int)⊕(Int×Int))=>match D with
 | .inr (f,j)=>some (Sum.inr (f,j))
 | .inl (e,q)=>((bI 59 B q (bitsOf .or .u32 p3 e) p4 p5 p6 o1 o2 o3 o4).bind fun(E:(Int×Int)⊕(Int×Int))=>match E with
 | .inr (u,v)=>some (Sum.inr (u,v))
 | .inl (z,A)=>some (Sum.inl (A,(bitsOf .or .u32 p3 e),(bitsOf .or .u32 p4 z)))))
theorem je{A:QX}{J p3 p4 p5 p6:Int}{o1:QQ}{o2:QK}{o3:XJ}{o4:XX}{D:Z8⊕(Int×Int)}(h:fu A J p3 p4 p5 p6 o1 o2 o3 o4=some D):
  jt Tryz.prog 112 [.adr 0 0 10 0] (bN A J p3 p4 p5 p6 o1 o2 o3 o4) (kH (fun(q:Int×Int×Int)=>(.tup [],(bN A q.1 q.2.1 q.2.2 p5 p6 o1 o2 o3 o4))) (aZ 36 .i64 .i64) D):=by
 refine DB Tryz.func112 (fun Bw w0=>?_);unfold fu at h;refine af ?_;obtain⟨O,L,h⟩:=aj h;rcases O with⟨f,B⟩ | ⟨j,u⟩
 ·have e:=(aK L);refine qk iB mixed ⟨[],[(6,(oO e [0,1,2,3,4]))]⟩ (.one 0 (.one 1 (.one 2 (.one 3 (.one 5 (.two 4 (.one 6 (.one 7 (.one 8 (.one 9 (.one 10 (.one 11 (.leaf))))))) 6 (.one 4 (.one 7 (.one 8 (.one 9 (.one 10 (.one 11 (.leaf))))))))))))) [([],[]),([],[]),([],[]),([],[]),([0],[]),([],[]),([0,1,2,3,4],[0,1,2,3,4,53,54,55,56,57,58,59,60]),([],[]),([],[]),([],[]),([],[]),([0],[0])] 2 [] [] [0,1,2,3,4] [(0,.adr 0 0 10 0)] (bN A B (bitsOf .or .u32 p3 f) p4 p5 p6 o1 o2 o3 o4) 5 5 (Ts 6 ((pO e)::(pO e)::(Ts 11 []))) (by kernel_rfl) (by kernel_rfl) (tr 6 ⟨e,e,(tr 11 tt)⟩) (fun _=>?_) (fun y C=>by cases C);refine ab ?_;obtain⟨V,M,h⟩:=aj h;rcases V with⟨E,I⟩ | ⟨v,z⟩
  ·have e:=(aK M);refine qk iB mixed ⟨[],[(6,(oO e [0,1,2,3,4]))]⟩ (.one 0 (.one 1 (.one 2 (.one 3 (.one 5 (.two 4 (.one 6 (.one 7 (.one 8 (.one 9 (.one 10 (.one 11 (.leaf))))))) 6 (.one 4 (.one 7 (.one 8 (.one 9 (.one 10 (.one 11 (.leaf))))))))))))) [([],[]),([],[]),([],[]),([],[]),([0],[]),([],[]),([0,1,2,3,4],[0,1,2,3,4,53,54,55,56,57,58,59,60]),([],[]),([],[]),([],[]),([],[]),([0],[0])] 2 [] [] [0,1,2,3,4] [] (bN A I (bitsOf .or .u32 p3 f) (bitsOf .or .u32 p4 E) p5 p6 o1 o2 o3 o4) 5 5 (Ts 6 ((pO e)::(pO e)::(Ts 11 []))) (by kernel_rfl) (by kernel_rfl) (tr 6 ⟨e,e,(tr 11 tt)⟩) (fun _=>?_) (fun y C=>by cases C);obtain rfl:=sI h;exact(RO [] [] [0,1,2,3,4] [] (bN A I (bitsOf .or .u32 p3 f) (bitsOf .or .u32 p4 E) p5 p6 o1 o2 o3 o4) 5 5).normal
  have e:=(aK M);refine qk iB mixed ⟨[],[(6,(oD e [0,1,2,3,4]))]⟩ (.one 0 (.one 1 (.one 2 (.one 3 (.one 5 (.twoD 4 (.dead 6) 6)))))) [([],[]),([],[]),([],[]),([],[]),([0],[]),([],[]),([0,1,2,3,4],[0,1,2,3,4,53,54,55,56,57,58,59,60]),([],[]),([],[]),([],[]),([],[]),([],[])] 0 [(aZ 36 .i64 .i64 (v,z)),(aZ 36 .i64 .i64 (v,z))] [] [0,1,2,3,4] [] [] 5 5 (Ts 6 [kg Tryz.prog 143 [.adr 0 0 10 0,.u8 59] (bN A B (bitsOf .or .u32 p3 f) p4 p5 p6 o1 o2 o3 o4) (aZ 36 .i64 .i64 (v,z)),kg Tryz.prog 143 [.adr 0 0 10 0,.u8 59] (bN A B (bitsOf .or .u32 p3 f) p4 p5 p6 o1 o2 o3 o4) (aZ 36 .i64 .i64 (v,z))]) (by kernel_rfl) (by kernel_rfl) (tr 6 ⟨(aK M),(aK M),tt⟩) (fun N=>absurd rfl N) (fun y C σ1=>?_);obtain rfl:y=(aZ 36 .i64 .i64 (v,z)):=by simpa using C
  obtain rfl:=sI h;exact rfl
 have e:=(aK L);refine qk iB mixed ⟨[],[(6,(oD e [0,1,2,3,4]))]⟩ (.one 0 (.one 1 (.one 2 (.one 3 (.one 5 (.twoD 4 (.dead 6) 6)))))) [([],[]),([],[]),([],[]),([],[]),([0],[]),([],[]),([0,1,2,3,4],[0,1,2,3,4,53,54,55,56,57,58,59,60]),([],[]),([],[]),([],[]),([],[]),([],[])] 0 [(aZ 36 .i64 .i64 (j,u)),(aZ 36 .i64 .i64 (j,u))] [] [0,1,2,3,4] [] [] 5 5 (Ts 6 [kg Tryz.prog 143 [.adr 0 0 10 0,.u8 47] (bN A J p3 p4 p5 p6 o1 o2 o3 o4) (aZ 36 .i64 .i64 (j,u)),kg Tryz.prog 143 [.adr 0 0 10 0,.u8 47] (bN A J p3 p4 p5 p6 o1 o2 o3 o4) (aZ 36 .i64 .i64 (j,u))]) (by kernel_rfl) (by kernel_rfl) (tr 6 ⟨(aK L),(aK L),tt⟩) (fun N=>absurd rfl N) (fun y C σ1=>?_);obtain rfl:y=(aZ 36 .i64 .i64 (j,u)):=by simpa using C
 refine aF ?_;obtain rfl:=sI h;exact rfl
def ee(B:QX)(C p3 p4 p5 p6:Int)(o1:QQ)(o2:QK)(o3:XJ)(o4:XX):Option ((Int×Int)⊕(Int×Int)) :=
 ((cb B C p3 p4 p5 p6 o1 o2 o3 o4).bind fun(D:(QX×Int×Int)⊕(Int×Int))=>match D with
 | .inr (j,q)=>some (Sum.inr (j,q))
 | .inl (u,v,e)=>((cX o1 u).bind fun f =>
 (if(decide (f<0))=true then((bd 22 v B e p3 p4 p5 p6 o1 o2 o3 o4).bind fun(E:(Unit)⊕(Int×Int))=>match E with
 | .inr (z,A)=>some (Sum.inr (z,A))
 | .inl _=>none)
 else some (Sum.inl (f,e)))))
theorem cj{f:QX}{A p3 p4 p5 p6:Int}{o1:QQ}{o2:QK}{o3:XJ}{o4:XX}{e:(Int×Int)⊕(Int×Int)}(h:ee f A p3 p4 p5 p6 o1 o2 o3 o4=some e):
  jt Tryz.prog 144 [.adr 0 0 10 0] (bN f A p3 p4 p5 p6 o1 o2 o3 o4) (kH (fun(q:Int×Int)=>(.i64 q.1,(bN f q.2 p3 p4 p5 p6 o1 o2 o3 o4))) (aZ 36 .i64 .i64) e):=by
 refine DB Tryz.func144 (fun Bw w0=>?_);unfold ee at h;refine G (af ?_);obtain⟨C,B,h⟩:=aj h;rcases C with⟨D,E,j⟩ | ⟨I,J⟩
 ·refine lH 1 [0,1,2,3,4] (bB B) (ab ?_);obtain⟨u,v,h⟩:=aj h;refine GP 6 (kf true v) (af (G (aC h (fun L h=>?_) (fun L h=>?_))))
  ·obtain⟨M,z,h⟩:=aj h;rcases M with _ | ⟨N,O⟩
   ·cases h
   refine GX 2 [0,1,2,3,4] (aY z) (fun _=>aF ?_);obtain rfl:=sI h;exact rfl
  refine ae (ab (G (au ?_)));obtain rfl:=sI h;exact RO [some (.int .i64)] [] [0,1,2,3,4] [(2,.i64 u)] (bN f j p3 p4 p5 p6 o1 o2 o3 o4) 5 5
 refine GX 1 [0,1,2,3,4] (bB B) (fun _=>aF ?_);obtain rfl:=sI h;exact rfl
def eO(j:QX)(X p3 p4 p5 p6:Int)(o1:QQ)(o2:QK)(o3:XJ)(o4:XX):Option ((Int×QK)⊕(Int×Int)) :=
 ((ee j X p3 p4 p5 p6 o1 o2 o3 o4).bind fun(q:(Int×Int)⊕(Int×Int))=>match q with
 | .inr (u,v)=>some (Sum.inr (u,v))
 | .inl (e,z)=>((bD 61 j z p3 p4 p5 p6 o1 o2 o3 o4).bind fun(A:(Int)⊕(Int×Int))=>match A with
 | .inr (B,C)=>some (Sum.inr (B,C))
 | .inl D=>((ee j D p3 p4 p5 p6 o1 o2 o3 o4).bind fun(E:(Int×Int)⊕(Int×Int))=>match E with
 | .inr (I,J)=>some (Sum.inr (I,J))
 | .inl (f,L)=>(if 0≤e∧e<(o2.length:Int)then(if e.toNat<o2.length then((bD 59 j L p3 p4 p5 p6 o1 (o2.set e.toNat f) o3 o4).bind fun(M:(Int)⊕(Int×Int))=>match M with
 | .inr (N,O)=>some (Sum.inr (N,O))
 | .inl V=>some (Sum.inl (V,(o2.set e.toNat f))))else none)else none))))
theorem iC{z:QX}{Y p3 p4 p5 p6:Int}{o1:QQ}{o2:QK}{o3:XJ}{o4:XX}{A:(Int×QK)⊕(Int×Int)}(h:eO z Y p3 p4 p5 p6 o1 o2 o3 o4=some A):
  jt Tryz.prog 113 [.adr 0 0 10 0] (bN z Y p3 p4 p5 p6 o1 o2 o3 o4) (kH (fun(q:Int×QK)=>(.tup [],(bN z q.1 p3 p4 p5 p6 o1 q.2 o3 o4))) (aZ 36 .i64 .i64) A):=by
 refine DB Tryz.func113 (fun Bw w0=>?_);unfold eO at h;refine af ?_;obtain⟨J,B,h⟩:=aj h;rcases J with⟨e,a1⟩ | ⟨a2,a3⟩
 ·refine lH 1 [0,1,2,3,4] (cj B) (ab (af ?_));obtain⟨L,C,h⟩:=aj h;rcases L with D | ⟨a4,a5⟩
  ·refine lH 1 [0,1,2,3,4] (aV C) (ab (af ?_));obtain⟨M,v,h⟩:=aj h;rcases M with⟨E,N⟩ | ⟨j,u⟩
   ·obtain⟨Z,c8,h⟩:=g2 h;have f:=(cj v);refine qk iB mixed ⟨[],[(7,(oO f [0,1,2,3,4]))]⟩ (.one 0 (.one 1 (.one 2 (.one 3 (.one 5 (.one 6 (.two 4 (.one 7 (.one 8 (.one 9 (.leaf)))) 7 (.one 4 (.one 8 (.one 9 (.leaf))))))))))) [([],[]),([],[]),([],[]),([],[]),([0],[]),([],[]),([],[]),([0,1,2,3,4],[0,1,2,3,4,101,102,103,104,105,106,107,108]),([2],[]),([2],[2])] 2 [] [] [0,1,2,3,4] [(0,.adr 0 0 10 0)] (bN z N p3 p4 p5 p6 o1 (o2.set e.toNat E) o3 o4) 5 5 (Ts 7 [pO f,pO f,0≤e∧e<(o2.length:Int),e.toNat<o2.length,True,0≤e∧e<(o2.length:Int),e.toNat<o2.length]) (by kernel_rfl) (by kernel_rfl) (tr 7 ⟨f,f,Z,c8,tt,Z,c8,tt⟩) (fun _=>?_) (fun y O=>by cases O);refine ab ?_;obtain⟨V,I,h⟩:=aj h;rcases V with X | ⟨a6,a7⟩
    ·refine lH 1 [0,1,2,3,4] (aV I) ?_;obtain rfl:=sI h;exact(RO [] [] [0,1,2,3,4] [] (bN z X p3 p4 p5 p6 o1 (o2.set e.toNat E) o3 o4) 5 5).normal
    refine GX 1 [0,1,2,3,4] (aV I) (fun _=>?_);obtain rfl:=sI h;exact rfl
   have f:=(cj v);refine qk iB mixed ⟨[],[(7,(oD f [0,1,2,3,4]))]⟩ (.one 0 (.one 1 (.one 2 (.one 3 (.one 5 (.one 6 (.twoD 4 (.dead 7) 7))))))) [([],[]),([],[]),([],[]),([],[]),([0],[]),([],[]),([],[]),([0,1,2,3,4],[0,1,2,3,4,101,102,103,104,105,106,107,108]),([],[]),([],[])] 0 [(aZ 36 .i64 .i64 (j,u)),(aZ 36 .i64 .i64 (j,u))] [] [0,1,2,3,4] [] [] 5 5 (Ts 7 [kg Tryz.prog 144 [.adr 0 0 10 0] (bN z D p3 p4 p5 p6 o1 o2 o3 o4) (aZ 36 .i64 .i64 (j,u)),kg Tryz.prog 144 [.adr 0 0 10 0] (bN z D p3 p4 p5 p6 o1 o2 o3 o4) (aZ 36 .i64 .i64 (j,u))]) (by kernel_rfl) (by kernel_rfl) (tr 7 ⟨(cj v),(cj v),tt⟩) (fun h0=>absurd rfl h0) (fun y O σ1=>?_);obtain rfl:y=(aZ 36 .i64 .i64 (j,u)):=by simpa using O
   refine aF ?_;obtain rfl:=sI h;exact rfl
  refine GX 1 [0,1,2,3,4] (aV C) (fun _=>aF ?_);obtain rfl:=sI h;exact rfl
 refine GX 1 [0,1,2,3,4] (cj B) (fun _=>aF ?_);obtain rfl:=sI h;exact rfl
def eM(e:QX→Int→Int→Int→Int→Int→QQ→QK→XJ→XX→Option (pj⊕(Int×Int)))(q:QX)(d2 u v f j:Int)(o1:QQ)(o2:QK)(o3:XJ)(o4:XX):Option (pj⊕(Int×Int)) :=
 ((bk 40 q d2 u v f j o1 o2 o3 o4).bind fun(a5:(Bool×Int)⊕(Int×Int))=>match a5 with
 | .inr (a6,a7)=>some (Sum.inr (a6,a7))
 | .inl (a8,z)=>(if a8=true then(if(decide ((i64.wrap (j+1)) > 16))=true then((bd 25 d2 q z u v f (i64.wrap (j+1)) o1 o2 o3 o4).bind fun(a9:(Unit)⊕(Int×Int))=>match a9 with
 | .inr (aa,ac)=>some (Sum.inr (aa,ac))
 | .inl _=>none)
 else((e q z u v f (i64.wrap (j+1)) o1 o2 o3 o4).bind fun(ad:pj⊕(Int×Int))=>match ad with
 | .inr (ax,b1)=>some (Sum.inr (ax,b1))
 | .inl (A,b2,B,C)=>((bD 41 q b2 u v B C o1 o2 o3 o4).bind fun(b3:(Int)⊕(Int×Int))=>match b3 with
 | .inr (b4,b5)=>some (Sum.inr (b4,b5))
 | .inl b6=>some (Sum.inl ((Tree.node A.op A.set A.kids),b6,B,(i64.wrap (C - 1)))))))
 else(if(decide ((i64.wrap (f+1)) > 200))=true then((bd 26 d2 q z u v (i64.wrap (f+1)) j o1 o2 o3 o4).bind fun(b7:(Unit)⊕(Int×Int))=>match b7 with
 | .inr (b8,b9)=>some (Sum.inr (b8,b9))
 | .inl _=>none)
 else(if 0≤(o1.length:Int)then((bk 46 q z u v (i64.wrap (f+1)) j o1 o2 o3 o4).bind fun(be:(Bool×Int)⊕(Int×Int))=>match be with
 | .inr (bi,bs)=>some (Sum.inr (bi,bs))
 | .inl (bv,D)=>(((if bv=true then some ((Sum.inl ((u32.wrap ((u32.wrap (1*2 ^ (min (o1.length:Int).toNat u32.bits))) - 1)),D)))
 else((bk 91 q D u v (i64.wrap (f+1)) j o1 o2 o3 o4).bind fun(bx:(Bool×Int)⊕(Int×Int))=>match bx with
 | .inr (E,I)=>some ((Sum.inr (E,I)))
 | .inl (c1,J)=>(if c1=true then((bk 94 q J u v (i64.wrap (f+1)) j o1 o2 o3 o4).bind fun(c2:(Bool×Int)⊕(Int×Int))=>match c2 with
 | .inr (L,M)=>some ((Sum.inr (L,M)))
 | .inl (c3,c4)=>((bI 93 q c4 u v (i64.wrap (f+1)) j o1 o2 o3 o4).bind fun(c5:(Int×Int)⊕(Int×Int))=>match c5 with
 | .inr (N,O)=>some ((Sum.inr (N,O)))
 | .inl (V,X)=>(if c3=true then some ((Sum.inl ((bitsOf .andNot .u32 (u32.wrap ((u32.wrap (1*2 ^ (min (o1.length:Int).toNat u32.bits))) - 1)) V),X)))
 else some ((Sum.inl (V,X))))))
 else((dv q J u v (i64.wrap (f+1)) j o1 o2 o3 o4).bind fun(c6:(Int×Int)⊕(Int×Int))=>match c6 with
 | .inr (Y,Z)=>some ((Sum.inr (Y,Z)))
 | .inl (a1,a2)=>some ((Sum.inl (a1,a2)))))))).bind fun(a3:((Int×Int)⊕(Int×Int)))=>match a3 with
 | .inl (v6,v7)=>some (Sum.inl ((Tree.node 1 v6 ([]:XZ)),v7,(i64.wrap (f+1)),j))
 | .inr ((c7,a4))=>some (Sum.inr (c7,a4))))else none))))
theorem iE(j:QX→Int→Int→Int→Int→Int→QQ→QK→XJ→XX→Option (pj⊕(Int×Int)))(f:∀ {Y:QX} {p2 p3 p4 p5 p6:Int} {o1:QQ} {o2:QK} {o3:XJ} {o4:XX} {u:pj⊕(Int×Int)},j Y p2 p3 p4 p5 p6 o1 o2 o3 o4=some u→jt Tryz.prog 148 [.adr 0 0 10 0] (bN Y p2 p3 p4 p5 p6 o1 o2 o3 o4) (kH (fun(q:Tree×Int×Int×Int)=>(.agg [.u8 q.1.op,.u32 q.1.set,.p false (.slice (.tree .u8 .u32)) q.1.kids],(bN Y q.2.1 p3 p4 q.2.2.1 q.2.2.2 o1 o2 o3 o4))) (aZ 36 .i64 .i64) u)){A:QX}{d2 B C V X:Int}{o1:QQ}{o2:QK}{o3:XJ}{o4:XX}{u:pj⊕(Int×Int)}(h:eM j A d2 B C V X o1 o2 o3 o4=some u):
  jt Tryz.prog 167 [.adr 0 0 10 0] (bN A d2 B C V X o1 o2 o3 o4) (kH (fun(q:Tree×Int×Int×Int)=>(.agg [.u8 q.1.op,.u32 q.1.set,.p false (.slice (.tree .u8 .u32)) q.1.kids],(bN A q.2.1 B C q.2.2.1 q.2.2.2 o1 o2 o3 o4))) (aZ 36 .i64 .i64) u):=by
 refine DB Tryz.func167 (fun Bw w0=>?_);unfold eM at h;refine G (G (af (af ?_)));obtain⟨Z,D,h⟩:=aj h;rcases Z with⟨c6,c7⟩ | ⟨c8,c9⟩
 ·refine lH 1 [0,1,2,3,4] (aL D) (ab (aC h (fun a1 h=>?_) (fun a1 h=>?_)))
  ·refine af (G (G (aC h (fun a2 h=>?_) (fun a2 h=>?_))))
   ·obtain⟨a3,a4,h⟩:=aj h;rcases a3 with _ | ⟨cc,ch⟩
    ·cases h
    refine GX 2 [0,1,2,3,4] (aY a4) (fun _=>aF (aF ?_));obtain rfl:=sI h;exact rfl
   refine ae (ab (af ?_));obtain⟨a5,E,h⟩:=aj h;rcases a5 with⟨z,cp,a6,a7⟩ | ⟨cs,cx⟩
   ·refine lH 1 [0,1,2,3,4] (f E) (ab (af ?_));obtain⟨a8,I,h⟩:=aj h;rcases a8 with a9 | ⟨d7,d8⟩
    ·refine lH 1 [0,1,2,3,4] (aV I) (ab (G (G (au (ah ?_)))));obtain rfl:=sI h;exact RO [some (.tree .u8 .u32)] [] [0,1,2,3,4,5] [(2,.adr 5 0 3 0)] (Ed A a9 B C a6 (i64.wrap (a7 - 1)) o1 o2 o3 o4 z.op z.set z.kids) 6 5
    refine GX 1 [0,1,2,3,4] (aV I) (fun _=>aF (aF ?_));obtain rfl:=sI h;exact rfl
   refine GX 1 [0,1,2,3,4] (f E) (fun _=>aF (aF ?_));obtain rfl:=sI h;exact rfl
  refine ae (ab (af (G (G (aC h (fun aa h=>?_) (fun aa h=>?_))))))
  ·obtain⟨ac,ad,h⟩:=aj h;rcases ac with _ | ⟨d9,dd⟩
   ·cases h
   refine GX 2 [0,1,2,3,4] (aY ad) (fun _=>aF ?_);obtain rfl:=sI h;exact rfl
  refine ae (ab (G (GC 6 h (fun h=>af (ak (af ?_))))));obtain⟨ax,J,h⟩:=aj h;rcases ax with⟨de,di⟩ | ⟨dk,dm⟩
  ·refine lH 1 [0,1,2,3,4] (aL J) (ab (EC h (dL (o6 Tryz.f167.ntmps (fun(v6,v7)=>aA [(2,.adr 5 0 3 0),(5,.adr 6 0 3 0)] (Oj A v7 B C (i64.wrap (V+1)) X o1 o2 o3 o4 0 (0:Int) (1:Int) v6) 7 5)) (tV (aZ 36 .i64 .i64))) (fun v h=>?_) (fun v h e σ' hq=>?_)))
   ·refine aC h (fun b1 h=>?_) (fun b1 h=>?_)
    ·refine Ge ?_;obtain rfl:=sI h;exact bn (cW (gg [] [0,1,2,3,4,5,181]))
    refine af ?_;obtain⟨b2,L,h⟩:=aj h;rcases b2 with⟨ds,dt⟩ | ⟨b9,be⟩
    ·refine lH 1 [0,1,2,3,4] (aL L) (ab (aC h (fun b3 h=>?_) (fun b3 h=>?_)))
     ·refine af ?_;obtain⟨b4,M,h⟩:=aj h;rcases b4 with⟨du,e1⟩ | ⟨bi,bs⟩
      ·refine lH 1 [0,1,2,3,4] (aL M) (ab (af ?_));obtain⟨b5,N,h⟩:=aj h;rcases b5 with⟨e2,e3⟩ | ⟨bv,bx⟩
       ·refine lH 1 [0,1,2,3,4] (aK N) (ab (G (aC h (fun b6 h=>?_) (fun b6 h=>?_))))
        ·refine Ge ?_;obtain rfl:=sI h;exact bn (cW (gg [] [0,1,2,3,4,5,181]))
        refine ae ?_;obtain rfl:=sI h;exact bn (cW (gg [] [0,1,2,3,4,5,181]))
       refine GX 1 [0,1,2,3,4] (aK N) (fun _=>?_);obtain rfl:=sI h;refine aF (aN ?_);exact rfl
      refine GX 1 [0,1,2,3,4] (aL M) (fun _=>?_);obtain rfl:=sI h;refine aF (aN ?_);exact rfl
     obtain⟨b7,O,h⟩:=aj h;rcases b7 with⟨c1,c2⟩ | ⟨c3,c4⟩
     ·refine lH 1 [0,1,2,3,4] (dI O) ?_;obtain rfl:=sI h;exact bn (cW (gg [] [0,1,2,3,4,5,181]))
     refine GX 1 [0,1,2,3,4] (dI O) (fun _=>?_);obtain rfl:=sI h;exact aN (rfl)
    refine GX 1 [0,1,2,3,4] (aL L) (fun _=>?_);obtain rfl:=sI h;refine aF (aN ?_);exact rfl
   rcases v with⟨v6,v7⟩ | ⟨e4,c5⟩
   ·obtain⟨rfl,b8⟩:=hq;refine cU ?_ b8;refine ay (ab (G (au ?_)));obtain rfl:=sI h;exact RO [some (.tree .u8 .u32)] [] [0,1,2,3,4,5] [(2,.adr 5 0 3 0)] (M2 A v7 B C (i64.wrap (V+1)) X o1 o2 o3 o4 1 v6) 6 5
   obtain rfl:=hq;refine bz (aF ?_);obtain rfl:=sI h;exact rfl
  refine GX 1 [0,1,2,3,4] (aL J) (fun _=>aF (bz (aF ?_)));obtain rfl:=sI h;exact rfl
 refine GX 1 [0,1,2,3,4] (aL D) (fun _=>aF (aF ?_));obtain rfl:=sI h;exact rfl
def iw(M:QX)(p3 p4:Int)(o1:QQ)(o2:QK)(o3:XJ)(o4:XX)(f:Tree)(q u:Int):(Int×Int)→Option ((Int×Int)⊕((Int)⊕((Int×Int)⊕pj))):=fun(j,e) =>
 (if(decide (e<7))=true then(if 0≤e∧e<((7:Nat):Int)then(((if((([0,0,0,0,42,43,63]:QK).getD e.toNat 0) != 0)=true then((bk (([0,0,0,0,42,43,63]:QK).getD e.toNat 0) M j p3 p4 q u o1 o2 o3 o4).bind fun(z:(Bool×Int)⊕(Int×Int))=>match z with
 | .inr (A,B)=>some ((Sum.inr (A,B)))
 | .inl (C,D)=>some ((Sum.inl (D,C))))
 else some ((Sum.inl (j,false))))).bind fun(E:((Int×Bool)⊕(Int×Int)))=>match E with
 | .inl (v,I)=>(if I=true then some (Sum.inr (Sum.inr (Sum.inr ((Tree.node (u8.wrap e) (0:Int) ([(Tree.node f.op f.set f.kids)]:XZ)),v,q,u))))
 else some (Sum.inl (v,(i64.wrap (e+1)))))
 | .inr ((J,L))=>some (Sum.inr (Sum.inr (Sum.inl (J,L)))))else none)
 else some (Sum.inr (Sum.inl j)))
def eQ(e:QX→Int→Int→Int→Int→Int→QQ→QK→XJ→XX→Option (pj⊕(Int×Int)))(N:QX)(O p3 p4 p5 p6:Int)(o1:QQ)(o2:QK)(o3:XJ)(o4:XX):Option (pj⊕(Int×Int)) :=
 ((eM e N O p3 p4 p5 p6 o1 o2 o3 o4).bind fun(u:pj⊕(Int×Int))=>match u with
 | .inr (v,z)=>some (Sum.inr (v,z))
 | .inl (f,A,j,q)=>((iter (iw N p3 p4 o1 o2 o3 o4 f j q) (A,0)).bind fun(B:((Int)⊕((Int×Int)⊕pj)))=>match B with
 | .inl C=>some (Sum.inl ((Tree.node f.op f.set f.kids),C,j,q))
 | .inr (.inl (D,E))=>some (Sum.inr (D,E))
 | .inr (.inr ((I,J,L,M)))=>some (Sum.inl (I,J,L,M))))
theorem iy(f:QX→Int→Int→Int→Int→Int→QQ→QK→XJ→XX→Option (pj⊕(Int×Int)))(j:∀ {z:QX} {O p3 p4 p5 p6:Int} {o1:QQ} {o2:QK} {o3:XJ} {o4:XX} {B:pj⊕(Int×Int)},f z O p3 p4 p5 p6 o1 o2 o3 o4=some B→jt Tryz.prog 148 [.adr 0 0 10 0] (bN z O p3 p4 p5 p6 o1 o2 o3 o4) (kH (fun(q:Tree×Int×Int×Int)=>(.agg [.u8 q.1.op,.u32 q.1.set,.p false (.slice (.tree .u8 .u32)) q.1.kids],(bN z q.2.1 p3 p4 q.2.2.1 q.2.2.2 o1 o2 o3 o4))) (aZ 36 .i64 .i64) B)){z:QX}{O p3 p4 p5 p6:Int}{o1:QQ}{o2:QK}{o3:XJ}{o4:XX}{B:pj⊕(Int×Int)}(h:eQ f z O p3 p4 p5 p6 o1 o2 o3 o4=some B):
  jt Tryz.prog 164 [.adr 0 0 10 0] (bN z O p3 p4 p5 p6 o1 o2 o3 o4) (kH (fun(q:Tree×Int×Int×Int)=>(.agg [.u8 q.1.op,.u32 q.1.set,.p false (.slice (.tree .u8 .u32)) q.1.kids],(bN z q.2.1 p3 p4 q.2.2.1 q.2.2.2 o1 o2 o3 o4))) (aZ 36 .i64 .i64) B):=by
 refine DB Tryz.func164 (fun Bw w0=>?_);unfold eQ at h;refine G (af ?_);obtain⟨a5,V,h⟩:=aj h;rcases a5 with⟨u,aa,C,D⟩ | ⟨ac,ad⟩
 ·refine lH 1 [0,1,2,3,4] (iE f j V) (ab (af (G (ak ?_))));refine kX h (fun(X,E)=>aA [(0,.adr 0 0 10 0),(2,.adr 5 0 3 0),(3,.adr 6 0 3 0),(8,.agg [.u8 0,.u8 0,.u8 0,.u8 0,.u8 42,.u8 43,.u8 63]),(9,.i64 E)] (Lq z X p3 p4 C D o1 o2 o3 o4 0 (0:Int) u.op u.set u.kids) 7 5) (dL (fK Tryz.f164.ntmps 0 (fun J=>aA [(2,.adr 5 0 3 0),(3,.adr 6 0 3 0)] (Lq z J p3 p4 C D o1 o2 o3 o4 0 (0:Int) u.op u.set u.kids) 7 5)) (dL (tV (aZ 36 .i64 .i64)) (ED tb Tryz.f164.ntmps Tryz.f164.results.toList (fun(I,Y,Z,a1)=>(.agg [.u8 I.op,.u32 I.set,.p false (.slice (.tree .u8 .u32)) I.kids],(bN z Y p3 p4 Z a1 o1 o2 o3 o4)))))) (gg [] [0,1,2,3,4,5,29]) (fun y o h=>?_) (fun a6 h e σ' N=>?_)
  ·obtain⟨X,E⟩:=y;unfold iw at h;refine G (af (aC h (fun a7 h=>?_) (fun a7 h=>?_)))
   ·refine ae (ab (af (ak (GC 1 h (fun h=>af (EC h (dL (o6 Tryz.f164.ntmps (fun(L,a2)=>aA [(0,.adr 0 0 10 0),(2,.adr 5 0 3 0),(3,.adr 6 0 3 0),(4,.i64 E),(8,.agg [.u8 0,.u8 0,.u8 0,.u8 0,.u8 42,.u8 43,.u8 63]),(9,.i64 E),(19,.bo a2)] (Lq z L p3 p4 C D o1 o2 o3 o4 0 (0:Int) u.op u.set u.kids) 7 5)) (tV (aZ 36 .i64 .i64))) (fun a3 h=>?_) (fun a3 h e σ' N=>?_)))))))
    ·rcases aI h with⟨v,h⟩ | ⟨v,h⟩
     ·obtain⟨a8,a4,h⟩:=aj h;rcases a8 with⟨ax,b1⟩ | ⟨b2,b3⟩
      ·have A:=(aL a4);refine bq ⟨[(2,true),(6,true)],[(5,(oO A [0,1,2,3,4]))]⟩ [(3,4,an v),(5,5,oc (And.intro v A)),(6,6,oc v)] ?_;obtain rfl:=sI h;exact bn (cW (gg [] [0,1,2,3,4,5,6]))
      have A:=(aL a4);refine Pn A ⟨[(2,true)],[(5,(oD A [0,1,2,3,4]))]⟩ 5 [(3,4,an v),(5,5,oc (And.intro v A))] (fun _=>?_);obtain rfl:=sI h;exact aN (rfl)
     refine bq ⟨[(2,false),(6,false)],[]⟩ [(3,6,oc v)] ?_;obtain rfl:=sI h;exact bn (cW (gg [] [0,1,2,3,4,5,6]))
    rcases a3 with⟨L,a2⟩ | ⟨b4,b5⟩
    ·obtain⟨rfl,M⟩:=N;refine cU ?_ M;refine ab (aC h (fun a9 h=>?_) (fun a9 h=>?_))
     ·refine G (kM [.frzC 5 2] (by kernel_rfl) (au ?_));obtain rfl:=sI h;refine aB (ah (bL (aN (aN ?_))));exact zr (RO [some (.tree .u8 .u32)] [] [0,1,2,3,4,5] [(2,.adr 5 0 3 0)] (Ed z L p3 p4 C D o1 o2 o3 o4 (u8.wrap E) (0:Int) ([(Tree.node u.op u.set u.kids)]:XZ)) 6 5)
     refine ae (ay (ab (Ge ?_)));exact eB h (gg [] [0,1,2,3,4,5,6])
    obtain rfl:=N;obtain rfl:=sI h;refine aF (bz (aF (bW (aN (Cu ?_)))));exact rfl
   refine aw (aR ?_);obtain rfl:=sI h;refine eo (bn ?_);exact bT (gg [] [0,1,2,3,4,5,6])
  rcases a6 with J | ⟨b6,b7⟩ | ⟨I,Y,Z,a1⟩
  ·obtain⟨rfl,M⟩:=N;refine cU ?_ M;refine az (ab (G (au ?_)));obtain rfl:=sI h;exact RO [some (.tree .u8 .u32)] [] [0,1,2,3,4,5] [(2,.adr 5 0 3 0)] (Ed z J p3 p4 C D o1 o2 o3 o4 u.op u.set u.kids) 6 5
  ·obtain rfl:=N;refine bz (aF ?_);obtain rfl:=sI h;exact rfl
  obtain⟨rfl,hr⟩:=N;refine aB (ah ?_);obtain rfl:=sI h;exact hr
 refine GX 1 [0,1,2,3,4] (iE f j V) (fun _=>aF ?_);obtain rfl:=sI h;exact rfl
def jr(Y:QX)(p3 p4:Int)(o1:QQ)(o2:QK)(o3:XJ)(o4:XX)(e:QX→Int→Int→Int→Int→Int→QQ→QK→XJ→XX→Option (pj⊕(Int×Int))):(Int×Int×Int×XZ×Int)→Option ((Int×Int×Int×XZ×Int)⊕((XZ×Int×Int×Int)⊕(Int×Int))):=fun(j,q,u,B,C) =>
 ((((dJ C).bind fun D =>
 (if D=true then some (true)
 else(if(C == 40)=true then some (true)
 else(if(C == 91)=true then some (true)
 else some ((C == 46))))))).bind fun E=>(if E=true then((eQ e Y j p3 p4 q u o1 o2 o3 o4).bind fun(I:pj⊕(Int×Int))=>match I with
 | .inr (J,L)=>some (Sum.inr (Sum.inr (J,L)))
 | .inl (f,M,v,z)=>(if(B.length+([(Tree.node f.op f.set f.kids)]:XZ).length)*32≤140737488355328∧B.length+([(Tree.node f.op f.set f.kids)]:XZ).length≤9223372036854775807 then((bj Y M p3 p4 v z o1 o2 o3 o4).bind fun(N:(Int×Int)⊕(Int×Int))=>match N with
 | .inr (O,V)=>some (Sum.inr (Sum.inr (O,V)))
 | .inl (X,A)=>some (Sum.inl (A,v,z,(B++([(Tree.node f.op f.set f.kids)]:XZ)),X)))else none))
 else some (Sum.inr (Sum.inl (B,j,q,u)))))
def dY(e:QX→Int→Int→Int→Int→Int→QQ→QK→XJ→XX→Option (pj⊕(Int×Int)))(J:QX)(L p3 p4 p5 p6:Int)(o1:QQ)(o2:QK)(o3:XJ)(o4:XX):Option (pj⊕(Int×Int)) :=
 ((bj J L p3 p4 p5 p6 o1 o2 o3 o4).bind fun(z:(Int×Int)⊕(Int×Int))=>match z with
 | .inr (A,B)=>some (Sum.inr (A,B))
 | .inl (C,D)=>((iter (jr J p3 p4 o1 o2 o3 o4 e) (D,p5,p6,([]:XZ),C)).bind fun(v:((XZ×Int×Int×Int)⊕(Int×Int)))=>match v with
 | .inl (f,j,q,u)=>(if((f.length:Int) == 0)=true then some (Sum.inl ((Tree.node 0 (0:Int) ([]:XZ)),j,q,u))
 else(if((f.length:Int) == 1)=true then(if 0≤(0:Int)∧0<(f.length:Int)then(if(0:Int).toNat<f.length then some (Sum.inl ((Tree.node ((f.getD ((0:Int).toNat) (Tree.node 0 0 [])).op) ((f.getD ((0:Int).toNat) (Tree.node 0 0 [])).set) ((f.getD ((0:Int).toNat) (Tree.node 0 0 [])).kids)),j,q,u))else none)else none)
 else some (Sum.inl ((Tree.node 2 (0:Int) f),j,q,u))))
 | .inr ((E,I))=>some (Sum.inr (E,I))))
theorem eg(f:QX→Int→Int→Int→Int→Int→QQ→QK→XJ→XX→Option (pj⊕(Int×Int)))(j:∀ {z:QX} {X p3 p4 p5 p6:Int} {o1:QQ} {o2:QK} {o3:XJ} {o4:XX} {B:pj⊕(Int×Int)},f z X p3 p4 p5 p6 o1 o2 o3 o4=some B→jt Tryz.prog 148 [.adr 0 0 10 0] (bN z X p3 p4 p5 p6 o1 o2 o3 o4) (kH (fun(q:Tree×Int×Int×Int)=>(.agg [.u8 q.1.op,.u32 q.1.set,.p false (.slice (.tree .u8 .u32)) q.1.kids],(bN z q.2.1 p3 p4 q.2.2.1 q.2.2.2 o1 o2 o3 o4))) (aZ 36 .i64 .i64) B)){z:QX}{X p3 p4 p5 p6:Int}{o1:QQ}{o2:QK}{o3:XJ}{o4:XX}{B:pj⊕(Int×Int)}(h:dY f z X p3 p4 p5 p6 o1 o2 o3 o4=some B):
  jt Tryz.prog 158 [.adr 0 0 10 0] (bN z X p3 p4 p5 p6 o1 o2 o3 o4) (kH (fun(q:Tree×Int×Int×Int)=>(.agg [.u8 q.1.op,.u32 q.1.set,.p false (.slice (.tree .u8 .u32)) q.1.kids],(bN z q.2.1 p3 p4 q.2.2.1 q.2.2.2 o1 o2 o3 o4))) (aZ 36 .i64 .i64) B):=by
 refine DB Tryz.func158 (fun Bw w0=>?_);unfold dY at h;refine G (G (af (af ?_)));obtain⟨a3,Y,h⟩:=aj h;rcases a3 with⟨b1,b2⟩ | ⟨b3,b4⟩
 ·refine lH 1 [0,1,2,3,4] (aS Y) (ab (ak (kX h (fun(L,M,N,l5,c4)=>aA [(0,.adr 0 0 10 0),(2,.adr 5 0 3 0),(3,.sl 6),(4,.u8 c4)] (Jx z L p3 p4 M N o1 o2 o3 o4 0 (0:Int) l5) 7 5) (dL (fK Tryz.f158.ntmps 0 (fun(V,C,D,E)=>aA [(2,.adr 5 0 3 0),(3,.sl 6)] (Jx z C p3 p4 D E o1 o2 o3 o4 0 (0:Int) V) 7 5)) (tV (aZ 36 .i64 .i64))) (gg [.nilS 3 45 210 (.tree .u8 .u32)] [0,1,2,3,4,5,45]) (fun y o h=>?_) (fun Z h e σ' hq=>?_))))
  ·obtain⟨L,M,N,l5,c4⟩:=y;unfold jr at h;refine af (af (bm h (fun O=>aA [(0,.adr 0 0 10 0),(2,.adr 5 0 3 0),(3,.sl 6),(20,.bo O)] (Jx z L p3 p4 M N o1 o2 o3 o4 0 (0:Int) l5) 7 5) (fun O h=>?_) (fun O h=>?_)))
   ·obtain⟨b5,I,h⟩:=aj h;rcases aI h with⟨v,h⟩ | ⟨v,h⟩
    ·have u:=(dh I);exact bq ⟨[(2,true),(5,true)],[(1,(oP u))]⟩ [(1,1,oc u),(3,5,oc v)] (eN h (gg [] [0,1,2,3,4,5,6]))
    rcases aI h with⟨A,h⟩ | ⟨A,h⟩
    ·have u:=(dh I);exact bq ⟨[(2,false),(5,false),(6,true),(9,true)],[(1,(oP u))]⟩ [(1,1,oc u),(3,4,an v),(5,5,oc v),(7,9,oc A)] (eN h (gg [] [0,1,2,3,4,5,6]))
    rcases aI h with⟨J,h⟩ | ⟨J,h⟩
    ·have u:=(dh I);exact bq ⟨[(2,false),(5,false),(6,false),(9,false),(10,true),(13,true)],[(1,(oP u))]⟩ [(1,1,oc u),(3,4,an v),(5,5,oc v),(7,8,an A),(9,9,oc A),(11,13,oc J)] (eN h (gg [] [0,1,2,3,4,5,6]))
    have u:=(dh I);exact bq ⟨[(2,false),(5,false),(6,false),(9,false),(10,false),(13,false)],[(1,(oP u))]⟩ [(1,1,oc u),(3,4,an v),(5,5,oc v),(7,8,an A),(9,9,oc A),(11,12,an J),(13,13,oc J)] (eN h (gg [] [0,1,2,3,4,5,6]))
   refine ab (aC h (fun a4 h=>?_) (fun a4 h=>?_))
   ·refine ae (ab (af (ak ?_)));obtain⟨a5,a1,h⟩:=aj h;rcases a5 with⟨b6,b7,b8,b9⟩ | ⟨be,bi⟩
    ·obtain⟨a6,h⟩:=aE h;have u:=(iy f j a1);refine bq ⟨[],[(2,(oO u [0,1,2,3,4]))]⟩ [(2,2,oc u),(4,4,oc a6)] (ay (ab ?_));obtain⟨a7,a2,h⟩:=aj h;rcases a7 with⟨bs,ax⟩ | ⟨bv,bx⟩
     ·exact lH 1 [0,1,2,3,4] (aS a2) (eB h (gg [] [0,1,2,3,4,5,39]))
     refine GX 1 [0,1,2,3,4] (aS a2) (fun _=>?_);obtain rfl:=sI h;refine bW (aN ?_);exact rfl
    refine GX 2 [0,1,2,3,4] (iy f j a1) (fun _=>?_);obtain rfl:=sI h;refine bz (aF (bW (aN ?_)));exact rfl
   refine aw (aR ?_);obtain rfl:=sI h;refine eo (bn ?_);exact bT (gg [] [0,1,2,3,4,5,6])
  rcases Z with⟨V,C,D,E⟩ | ⟨c1,c2⟩
  ·obtain⟨rfl,a8⟩:=hq;refine cU ?_ a8;refine az (ab (af (G (ak (G (aC h (fun a9 h=>?_) (fun a9 h=>?_)))))))
   ·refine G (au (aB (ah ?_)));obtain rfl:=sI h;exact RO [some (.tree .u8 .u32)] [] [0,1,2,3,4,5] [(2,.adr 5 0 3 0)] (M2 z C p3 p4 D E o1 o2 o3 o4 0 (0:Int)) 6 5
   refine G (aC h (fun aa h=>?_) (fun aa h=>?_))
   ·obtain⟨ac,ad,h⟩:=g2 h;refine GN a0 [(1,1,oc ac),(2,2,oc ad)] (au (aB (ah ?_)));obtain rfl:=sI h;exact RO [some (.tree .u8 .u32)] [] [0,1,2,3,4,5] [(2,.adr 5 0 3 0)] (Ed z C p3 p4 D E o1 o2 o3 o4 ((V.getD ((0:Int).toNat) (Tree.node 0 0 [])).op) ((V.getD ((0:Int).toNat) (Tree.node 0 0 [])).set) ((V.getD ((0:Int).toNat) (Tree.node 0 0 [])).kids)) 6 5
   refine ae (ay (ab (G (kM [.frzC 5 2] (by kernel_rfl) (au ?_)))));obtain rfl:=sI h;exact RO [some (.tree .u8 .u32)] [] [0,1,2,3,4,5] [(2,.adr 5 0 3 0)] (Ed z C p3 p4 D E o1 o2 o3 o4 2 (0:Int) V) 6 5
  obtain rfl:=hq;refine bz (aF ?_);obtain rfl:=sI h;exact rfl
 refine GX 1 [0,1,2,3,4] (aS Y) (fun _=>aF (aF ?_));obtain rfl:=sI h;exact rfl
def ic(O:QX)(p3 p4:Int)(o1:QQ)(o2:QK)(o3:XJ)(o4:XX)(e:QX→Int→Int→Int→Int→Int→QQ→QK→XJ→XX→Option (pj⊕(Int×Int))):(Int×Int×Int×XZ)→Option ((Int×Int×Int×XZ)⊕((XZ×Int×Int×Int)⊕(Int×Int))):=fun(L,u,v,j) =>
 ((bk 124 O L p3 p4 u v o1 o2 o3 o4).bind fun(M:(Bool×Int)⊕(Int×Int))=>match M with
 | .inr (z,A)=>some (Sum.inr (Sum.inr (z,A)))
 | .inl (B,q)=>(if B=true then((dY e O q p3 p4 u v o1 o2 o3 o4).bind fun(N:pj⊕(Int×Int))=>match N with
 | .inr (C,D)=>some (Sum.inr (Sum.inr (C,D)))
 | .inl (f,E,I,J)=>(if(j.length+([(Tree.node f.op f.set f.kids)]:XZ).length)*32≤140737488355328∧j.length+([(Tree.node f.op f.set f.kids)]:XZ).length≤9223372036854775807 then some (Sum.inl (E,I,J,(j++([(Tree.node f.op f.set f.kids)]:XZ))))else none))
 else some (Sum.inr (Sum.inl (j,q,u,v)))))
def fE(e:QX→Int→Int→Int→Int→Int→QQ→QK→XJ→XX→Option (pj⊕(Int×Int)))(M:QX)(N p3 p4 p5 p6:Int)(o1:QQ)(o2:QK)(o3:XJ)(o4:XX):Option (pj⊕(Int×Int)) :=
 ((dY e M N p3 p4 p5 p6 o1 o2 o3 o4).bind fun(I:pj⊕(Int×Int))=>match I with
 | .inr (J,L)=>some (Sum.inr (J,L))
 | .inl (j,q,u,v)=>((iter (ic M p3 p4 o1 o2 o3 o4 e) (q,u,v,([(Tree.node j.op j.set j.kids)]:XZ))).bind fun(z:((XZ×Int×Int×Int)⊕(Int×Int)))=>match z with
 | .inl (f,A,B,C)=>(if((f.length:Int) == 1)=true then(if 0≤(0:Int)∧0<(f.length:Int)then(if(0:Int).toNat<f.length then some (Sum.inl ((Tree.node ((f.getD ((0:Int).toNat) (Tree.node 0 0 [])).op) ((f.getD ((0:Int).toNat) (Tree.node 0 0 [])).set) ((f.getD ((0:Int).toNat) (Tree.node 0 0 [])).kids)),A,B,C))else none)else none)
 else some (Sum.inl ((Tree.node 3 (0:Int) f),A,B,C)))
 | .inr ((D,E))=>some (Sum.inr (D,E))))
def bM:Nat→QX→Int→Int→Int→Int→Int→QQ→QK→XJ→XX→Option (pj⊕(Int×Int))
 | 0=>fun _ _ _ _ _ _ _ _ _ _=>none
 | n+1=>fE (bM n)
theorem lf(f:QX→Int→Int→Int→Int→Int→QQ→QK→XJ→XX→Option (pj⊕(Int×Int)))(j:∀ {v:QX} {D p3 p4 p5 p6:Int} {o1:QQ} {o2:QK} {o3:XJ} {o4:XX} {z:pj⊕(Int×Int)},f v D p3 p4 p5 p6 o1 o2 o3 o4=some z→jt Tryz.prog 148 [.adr 0 0 10 0] (bN v D p3 p4 p5 p6 o1 o2 o3 o4) (kH (fun(q:Tree×Int×Int×Int)=>(.agg [.u8 q.1.op,.u32 q.1.set,.p false (.slice (.tree .u8 .u32)) q.1.kids],(bN v q.2.1 p3 p4 q.2.2.1 q.2.2.2 o1 o2 o3 o4))) (aZ 36 .i64 .i64) z)){v:QX}{D p3 p4 p5 p6:Int}{o1:QQ}{o2:QK}{o3:XJ}{o4:XX}{z:pj⊕(Int×Int)}(h:fE f v D p3 p4 p5 p6 o1 o2 o3 o4=some z):
  jt Tryz.prog 148 [.adr 0 0 10 0] (bN v D p3 p4 p5 p6 o1 o2 o3 o4) (kH (fun(q:Tree×Int×Int×Int)=>(.agg [.u8 q.1.op,.u32 q.1.set,.p false (.slice (.tree .u8 .u32)) q.1.kids],(bN v q.2.1 p3 p4 q.2.2.1 q.2.2.2 o1 o2 o3 o4))) (aZ 36 .i64 .i64) z):=by
 refine DB Tryz.func148 (fun Bw w0=>?_);unfold fE at h;refine G (af ?_);obtain⟨Y,E,h⟩:=aj h;rcases Y with⟨a8,a9,aa,ac⟩ | ⟨bi,bs⟩
 ·refine lH 1 [0,1,2,3,4] (eg f j E) (ab (af (ak (kX h (fun(I,J,L,M)=>aA [(0,.adr 0 0 10 0),(2,.adr 5 0 3 0),(3,.sl 6)] (Jx v I p3 p4 J L o1 o2 o3 o4 0 (0:Int) M) 7 5) (dL (fK Tryz.f148.ntmps 0 (fun(u,A,B,C)=>aA [(2,.adr 5 0 3 0),(3,.sl 6)] (Jx v A p3 p4 B C o1 o2 o3 o4 0 (0:Int) u) 7 5)) (tV (aZ 36 .i64 .i64))) (gg [] [0,1,2,3,4,5,29]) (fun y o h=>?_) (fun N h e σ' hq=>?_)))))
  ·obtain⟨I,J,L,M⟩:=y;unfold ic at h;refine af (af ?_);obtain⟨Z,O,h⟩:=aj h;rcases Z with⟨ad,ax⟩ | ⟨b1,b2⟩
   ·refine lH 1 [0,1,2,3,4] (aL O) (ab (aC h (fun a1 h=>?_) (fun a1 h=>?_)))
    ·refine ae (ab (ak ?_));obtain⟨a2,V,h⟩:=aj h;rcases a2 with⟨b3,b4,b5,b6⟩ | ⟨b7,b8⟩
     ·obtain⟨a3,h⟩:=aE h;have X:=(eg f j V);refine bq ⟨[],[(2,(oO X [0,1,2,3,4]))]⟩ [(2,2,oc X),(4,4,oc a3)] (ay ?_);exact eB h (gg [] [0,1,2,3,4,5,55])
     refine GX 2 [0,1,2,3,4] (eg f j V) (fun _=>?_);obtain rfl:=sI h;refine bz (bW (aN ?_));exact rfl
    refine aw (aR ?_);obtain rfl:=sI h;refine eo (bn ?_);exact bT (gg [] [0,1,2,3,4,5,6])
   refine GX 1 [0,1,2,3,4] (aL O) (fun _=>?_);obtain rfl:=sI h;refine aF (aF (bW (aN ?_)));exact rfl
  rcases N with⟨u,A,B,C⟩ | ⟨b9,be⟩
  ·obtain⟨rfl,a4⟩:=hq;refine cU ?_ a4;refine az (ab (af (G (aC h (fun a5 h=>?_) (fun a5 h=>?_)))))
   ·obtain⟨a6,a7,h⟩:=g2 h;refine GN a0 [(1,1,oc a6),(2,2,oc a7)] (au (ah ?_));obtain rfl:=sI h;exact RO [some (.tree .u8 .u32)] [] [0,1,2,3,4,5] [(2,.adr 5 0 3 0)] (Ed v A p3 p4 B C o1 o2 o3 o4 ((u.getD ((0:Int).toNat) (Tree.node 0 0 [])).op) ((u.getD ((0:Int).toNat) (Tree.node 0 0 [])).set) ((u.getD ((0:Int).toNat) (Tree.node 0 0 [])).kids)) 6 5
   refine ae (ab (G (kM [.frzC 5 2] (by kernel_rfl) (au ?_))));obtain rfl:=sI h;exact RO [some (.tree .u8 .u32)] [] [0,1,2,3,4,5] [(2,.adr 5 0 3 0)] (Ed v A p3 p4 B C o1 o2 o3 o4 3 (0:Int) u) 6 5
  obtain rfl:=hq;refine bz (aF ?_);obtain rfl:=sI h;exact rfl
 refine GX 1 [0,1,2,3,4] (eg f j E) (fun _=>aF ?_);obtain rfl:=sI h;exact rfl
theorem cm:∀(n:Nat) {f:QX} {j p3 p4 p5 p6:Int} {o1:QQ} {o2:QK} {o3:XJ} {o4:XX} {e:pj⊕(Int×Int)},bM n f j p3 p4 p5 p6 o1 o2 o3 o4=some e→jt Tryz.prog 148 [.adr 0 0 10 0] (bN f j p3 p4 p5 p6 o1 o2 o3 o4) (kH (fun(q:Tree×Int×Int×Int)=>(.agg [.u8 q.1.op,.u32 q.1.set,.p false (.slice (.tree .u8 .u32)) q.1.kids],(bN f q.2.1 p3 p4 q.2.2.1 q.2.2.2 o1 o2 o3 o4))) (aZ 36 .i64 .i64) e)
 | 0,_,_,_,_,_,_,_,_,_,_,_,h=>by cases h
 | n+1,f,j,p3,p4,p5,p6,o1,o2,o3,o4,e,h=>lf (bM n) (cm n)  h
def fe(j B:Int)(q:QX)(p2 p3 p4 p5 p6:Int)(o1:QQ)(o2:QK)(o3:XJ)(o4:XX):Option ((Int×XJ×Int×Int)⊕(Int×Int)) :=
 (if(decide ((o3.length:Int)≥24))=true then((bd 24 B q p2 p3 p4 p5 p6 o1 o2 o3 o4).bind fun(C:(Unit)⊕(Int×Int))=>match C with
 | .inr (D,E)=>some (Sum.inr (D,E))
 | .inl _=>none)
 else((bM 1000 q p2 p3 p4 p5 p6 o1 o2 o3 o4).bind fun(I:pj⊕(Int×Int))=>match I with
 | .inr (J,L)=>some (Sum.inr (J,L))
 | .inl (e,M,u,v)=>((bD 47 q M p3 p4 u v o1 o2 o3 o4).bind fun(N:(Int)⊕(Int×Int))=>match N with
 | .inr (O,V)=>some (Sum.inr (O,V))
 | .inl X=>((bM 1000 q X p3 p4 u v o1 o2 o3 o4).bind fun(Y:pj⊕(Int×Int))=>match Y with
 | .inr (Z,a1)=>some (Sum.inr (Z,a1))
 | .inl (f,a2,z,A)=>((bD 59 q a2 p3 p4 z A o1 o2 o3 o4).bind fun(a3:(Int)⊕(Int×Int))=>match a3 with
 | .inr (a4,a5)=>some (Sum.inr (a4,a5))
 | .inl a6=>(if(o3.length+([(j,(Tree.node e.op e.set e.kids),(Tree.node f.op f.set f.kids))]:XJ).length)*72≤140737488355328∧o3.length+([(j,(Tree.node e.op e.set e.kids),(Tree.node f.op f.set f.kids))]:XJ).length≤9223372036854775807 then some (Sum.inl (a6,(o3++([(j,(Tree.node e.op e.set e.kids),(Tree.node f.op f.set f.kids))]:XJ)),z,A))else none))))))
theorem ja{e u:Int}{D:QX}{Y p3 p4 p5 p6:Int}{o1:QQ}{o2:QK}{o3:XJ}{o4:XX}{v:(Int×XJ×Int×Int)⊕(Int×Int)}(h:fe e u D Y p3 p4 p5 p6 o1 o2 o3 o4=some v):
  jt Tryz.prog 116 [.adr 0 0 10 0,.u8 e,.i64 u] (bN D Y p3 p4 p5 p6 o1 o2 o3 o4) (kH (fun(q:Int×XJ×Int×Int)=>(.tup [],(Nx D q.1 p3 p4 q.2.2.1 q.2.2.2 o1 o2 o4 q.2.1))) (aZ 36 .i64 .i64) v):=by
 refine DB Tryz.func116 (fun Bw w0=>?_);unfold fe at h;refine af (G (aC h (fun Z h=>?_) (fun Z h=>?_)))
 ·obtain⟨E,I,h⟩:=aj h;rcases E with _ | ⟨a1,a2⟩
  ·cases h
  refine GX 2 [0,1,2,3,4] (aY I) (fun _=>aF ?_);obtain rfl:=sI h;exact rfl
 refine ae (ab (G (af ?_)));obtain⟨J,z,h⟩:=aj h;rcases J with⟨f,a3,a4,a5⟩ | ⟨a6,a7⟩
 ·refine lH 1 [0,1,2,3,4] (cm 1000 z) (ab (af ?_));obtain⟨L,A,h⟩:=aj h;rcases L with a8 | ⟨a9,aa⟩
  ·refine lH 1 [0,1,2,3,4] (aV A) (ab (af ?_));obtain⟨M,B,h⟩:=aj h;rcases M with⟨j,ac,N,O⟩ | ⟨ad,ax⟩
   ·refine lH 1 [0,1,2,3,4] (cm 1000 B) (ab (af ?_));obtain⟨V,C,h⟩:=aj h;rcases V with X | ⟨b1,b2⟩
    ·refine lH 1 [0,1,2,3,4] (aV C) (ab ?_);obtain⟨c4,h⟩:=aE h;refine mu a0 [(8,8,oc c4)] ?_;obtain rfl:=sI h;exact(RO [] [] [0,1,2,3,4,253] [] (Nx D X p3 p4 N O o1 o2 o4 (o3++([(e,(Tree.node f.op f.set f.kids),(Tree.node j.op j.set j.kids))]:XJ))) 6 5).normal
    refine GX 1 [0,1,2,3,4] (aV C) (fun _=>aF ?_);obtain rfl:=sI h;exact rfl
   refine GX 1 [0,1,2,3,4] (cm 1000 B) (fun _=>aF ?_);obtain rfl:=sI h;exact rfl
  refine GX 1 [0,1,2,3,4] (aV A) (fun _=>aF ?_);obtain rfl:=sI h;exact rfl
 refine GX 1 [0,1,2,3,4] (cm 1000 z) (fun _=>aF ?_);obtain rfl:=sI h;exact rfl
def kR(D:QX):Mb→Option (Mb⊕(Mb⊕(Int×Int))):=fun(bi,e,f,j,z,q,A,u,v) =>
 ((bj D bi f j u v e z q A).bind fun(bs:(Int×Int)⊕(Int×Int))=>match bs with
 | .inr (J,L)=>some (Sum.inr (Sum.inr (J,L)))
 | .inl (M,E)=>(if(M != 0)=true then((cb D E f j u v e z q A).bind fun(bv:(QX×Int×Int)⊕(Int×Int))=>match bv with
 | .inr (N,O)=>some (Sum.inr (Sum.inr (N,O)))
 | .inl (B,I,C)=>(if(eD .str ([99,108,97,115,115]:QX) B)=true then((eP D C f j u v e z q A).bind fun(bx:(Int×QQ×QK×XX)⊕(Int×Int))=>match bx with
 | .inr (V,X)=>some (Sum.inr (Sum.inr (V,X)))
 | .inl (Y,Z,a1,a2)=>some (Sum.inl (Y,Z,f,j,a1,q,a2,u,v)))
 else(if(eD .str ([115,101,116]:QX) B)=true then((fI D C f j u v e z q A).bind fun(c1:(Int×XX)⊕(Int×Int))=>match c1 with
 | .inr (a3,a4)=>some (Sum.inr (Sum.inr (a3,a4)))
 | .inl (a5,a6)=>some (Sum.inl (a5,e,f,j,z,q,a6,u,v)))
 else(if(eD .str ([106,111,105,110]:QX) B)=true then((fu D C f j u v e z q A).bind fun(c2:Z8⊕(Int×Int))=>match c2 with
 | .inr (a7,a8)=>some (Sum.inr (Sum.inr (a7,a8)))
 | .inl (a9,aa,ac)=>some (Sum.inl (a9,e,aa,ac,z,q,A,u,v)))
 else(if(eD .str ([116,114,101,97,116]:QX) B)=true then((eO D C f j u v e z q A).bind fun(c3:(Int×QK)⊕(Int×Int))=>match c3 with
 | .inr (ad,ax)=>some (Sum.inr (Sum.inr (ad,ax)))
 | .inl (b1,b2)=>some (Sum.inl (b1,e,f,j,b2,q,A,u,v)))
 else(if((aT .str (cq .str (cq .str (cq .str ([]:XX) ([107,101,101,112]:QX) (0:Int)) ([109,97,121]:QX) (1:Int)) ([109,117,115,116]:QX) (2:Int)) B).isSome)=true then((fe ((aT .str (cq .str (cq .str (cq .str ([]:XX) ([107,101,101,112]:QX) (0:Int)) ([109,97,121]:QX) (1:Int)) ([109,117,115,116]:QX) (2:Int)) B).getD 0) I D C f j u v e z q A).bind fun(c4:(Int×XJ×Int×Int)⊕(Int×Int))=>match c4 with
 | .inr (b3,b4)=>some (Sum.inr (Sum.inr (b3,b4)))
 | .inl (b5,b6,b7,b8)=>some (Sum.inl (b5,e,f,j,z,b6,A,b7,b8)))
 else((bd 21 I D C f j u v e z q A).bind fun(c5:(Unit)⊕(Int×Int))=>match c5 with
 | .inr (b9,be)=>some (Sum.inr (Sum.inr (b9,be)))
 | .inl _=>none)))))))
 else some (Sum.inr (Sum.inl (E,e,f,j,z,q,A,u,v)))))
def hD(E:QX)(I p3 p4 p5 p6:Int)(o1:XX):Option (Mb⊕(Int×Int)) :=
 ((iter (kR E) (I,([]:QQ),p3,p4,([]:QK),([]:XJ),o1,p5,p6)).bind fun(e:(Mb⊕(Int×Int)))=>match e with
 | .inl (q,v20,u,v,z,A,B,C,D)=>some (Sum.inl (q,v20,u,v,z,A,B,C,D))
 | .inr ((f,j))=>some (Sum.inr (f,j)))
theorem iq{M:QX}{p2 p3 p4 p5 p6:Int}{o1:XX}{N:Mb⊕(Int×Int)}(h:hD M p2 p3 p4 p5 p6 o1=some N):
  jt Tryz.prog 82 [.adr 0 0 10 0] (NP M p2 p3 p4 p5 p6 o1) (kH (fun(q:Int×QQ×Int×Int×QK×XJ×XX×Int×Int)=>(.tup [],(Mx M q.1 q.2.2.1 q.2.2.2.1 q.2.2.2.2.2.2.2.1 q.2.2.2.2.2.2.2.2 q.2.2.2.2.2.2.1 q.2.1 q.2.2.2.2.1 q.2.2.2.2.2.1))) (aZ 36 .i64 .i64) N):=by
 refine DB Tryz.func82 (fun Bw w0=>?_);unfold hD at h;refine G (G (ak (kX h (fun(O,V,X,Y,Z,a1,a2,a3,a4)=>aA [(0,.adr 0 0 10 0),(2,.mp 5),(3,.mp 6)] (OG M O X Y a3 a4 a2 V Z a1 (cq .str (cq .str (cq .str ([]:XX) ([107,101,101,112]:QX) (0:Int)) ([109,97,121]:QX) (1:Int)) ([109,117,115,116]:QX) (2:Int))) 7 2) (dL (fK Tryz.f82.ntmps 0 (fun(z,v20,A,B,C,D,E,I,J)=>aA [] (Mx M z A B I J E v20 C D) 5 2)) (tV (aZ 36 .i64 .i64))) (gg [.nilC 0 2 106 9 .str,.nilC 0 5 107 3 (.int .i64),.nilC 0 6 108 212 (.prod (.int .u8) Y8)] [0,1,106,107,108,2,58]) (fun y o h=>?_) (fun a5 h e σ' hq=>?_))))
 ·obtain⟨O,V,X,Y,Z,a1,a2,a3,a4⟩:=y;unfold kR at h;refine af (af ?_);obtain⟨ax,a6,h⟩:=aj h;rcases ax with⟨bs,bv⟩ | ⟨bx,c1⟩
  ·refine lH 1 [0,2,3,4,1] (aS a6) (ab (aC h (fun b1 h=>?_) (fun b1 h=>?_)))
   ·refine ae (ab (ak (af ?_)));obtain⟨b2,a7,h⟩:=aj h;rcases b2 with⟨f,c2,c3⟩ | ⟨c4,c5⟩
    ·refine lH 1 [0,2,3,4,1] (bB a7) (ab (af ?_));rcases aI h with⟨j,h⟩ | ⟨j,h⟩
     ·refine bq ⟨[],[(2,⟨.unk,[],false,[],[0],[],none⟩)]⟩ [(2,2,oc (And.intro tt j))] (ab (G (m8 rfl ?_)));obtain⟨b3,a8,h⟩:=aj h;rcases b3 with⟨c6,c7,c8,c9⟩ | ⟨cc,ch⟩
      ·refine lH 2 [0,2,3,4,1] (iA a8) (ay ?_);exact eB h (gg [] [0,1,175,176,4,5,6])
      refine GX 2 [0,2,3,4,1] (iA a8) (fun _=>?_);obtain rfl:=sI h;refine bz (bW (aN ?_));exact rfl
     rcases aI h with⟨u,h⟩ | ⟨u,h⟩
     ·refine bq ⟨[],[(2,⟨.unk,[],false,[],[1],[],none⟩)]⟩ [(2,2,⟨True∧sd .str [(([99,108,97,115,115]:QX),(zO 110)),(([115,101,116]:QX),(zO 111)),(([106,111,105,110]:QX),(zO 112)),(([116,114,101,97,116]:QX),(zO 113))] f 1,⟨trivial,⟨j,u⟩⟩⟩)] (ab (G (m8 rfl ?_)));obtain⟨b4,a9,h⟩:=aj h;rcases b4 with⟨cp,cs⟩ | ⟨cx,d1⟩
      ·refine lH 2 [0,2,3,4,1] (jl a9) (ay ?_);exact eB h (gg [] [0,1,2,3,4,5,6])
      refine GX 2 [0,2,3,4,1] (jl a9) (fun _=>?_);obtain rfl:=sI h;refine bz (bW (aN ?_));exact rfl
     rcases aI h with⟨v,h⟩ | ⟨v,h⟩
     ·refine bq ⟨[],[(2,⟨.unk,[],false,[],[2],[],none⟩)]⟩ [(2,2,⟨True∧sd .str [(([99,108,97,115,115]:QX),(zO 110)),(([115,101,116]:QX),(zO 111)),(([106,111,105,110]:QX),(zO 112)),(([116,114,101,97,116]:QX),(zO 113))] f 2,⟨trivial,⟨j,⟨u,v⟩⟩⟩⟩)] (ab (G (m8 rfl ?_)));obtain⟨b5,aa,h⟩:=aj h;rcases b5 with⟨d2,d3,d4⟩ | ⟨d5,d6⟩
      ·refine lH 2 [0,2,3,4,1] (je aa) (ay ?_);exact eB h (gg [] [0,1,2,3,4,5,6])
      refine GX 2 [0,2,3,4,1] (je aa) (fun _=>?_);obtain rfl:=sI h;refine bz (bW (aN ?_));exact rfl
     rcases aI h with⟨L,h⟩ | ⟨L,h⟩
     ·refine bq ⟨[],[(2,⟨.unk,[],false,[],[3],[],none⟩)]⟩ [(2,2,⟨True∧sd .str [(([99,108,97,115,115]:QX),(zO 110)),(([115,101,116]:QX),(zO 111)),(([106,111,105,110]:QX),(zO 112)),(([116,114,101,97,116]:QX),(zO 113))] f 3,⟨trivial,⟨j,⟨u,⟨v,L⟩⟩⟩⟩⟩)] (ab (G (m8 rfl ?_)));obtain⟨b6,ac,h⟩:=aj h;rcases b6 with⟨d7,d8⟩ | ⟨d9,dd⟩
      ·refine lH 2 [0,2,3,4,1] (iC ac) (ay ?_);exact eB h (gg [] [0,1,2,3,4,5,6])
      refine GX 2 [0,2,3,4,1] (iC ac) (fun _=>?_);obtain rfl:=sI h;refine bz (bW (aN ?_));exact rfl
     refine bq ⟨[],[(2,⟨.unk,[],false,[],[4],[],none⟩)]⟩ [(2,2,⟨True∧sd .str [(([99,108,97,115,115]:QX),(zO 110)),(([115,101,116]:QX),(zO 111)),(([106,111,105,110]:QX),(zO 112)),(([116,114,101,97,116]:QX),(zO 113))] f 4,⟨trivial,⟨j,⟨u,⟨v,⟨L,trivial⟩⟩⟩⟩⟩⟩)] (ab (G (xp rfl (G (G (aC h (fun b7 h=>?_) (fun b7 h=>?_)))))))
     ·obtain⟨b8,ad,h⟩:=aj h;rcases b8 with⟨de,di,dk,dm⟩ | ⟨ds,dt⟩
      ·refine lH 3 [0,2,3,4,1] (ja ad) (ay ?_);exact eB h (gg [] [0,1,2,3,255,5,6])
      refine GX 3 [0,2,3,4,1] (ja ad) (fun _=>?_);obtain rfl:=sI h;refine bz (bW (aN ?_));exact rfl
     obtain⟨b9,be,h⟩:=aj h;rcases b9 with _ | ⟨du,e1⟩
     ·cases h
     refine GX 2 [0,2,3,4,1] (aY be) (fun _=>?_);obtain rfl:=sI h;refine bz (bW (aN ?_));exact rfl
    refine GX 1 [0,2,3,4,1] (bB a7) (fun _=>?_);obtain rfl:=sI h;refine aF (bz (bW (aN ?_)));exact rfl
   refine aw (aR ?_);obtain rfl:=sI h;refine eo (bn ?_);exact bT (gg [] [0,1,2,3,4])
  refine GX 1 [0,2,3,4,1] (aS a6) (fun _=>?_);obtain rfl:=sI h;refine aF (aF (bW (aN ?_)));exact rfl
 rcases a5 with⟨z,v20,A,B,C,D,E,I,J⟩ | ⟨e2,e3⟩
 ·obtain⟨rfl,bi⟩:=hq;refine cU ?_ bi;refine az ?_;obtain rfl:=sI h;exact(RO [] [] [0,1,2,3,4] [] (Mx M z A B I J E v20 C D) 5 2).normal
 obtain rfl:=hq;refine bz ?_;obtain rfl:=sI h;exact rfl
theorem sZ(e f:Int):tW Tryz.prog 80 [.adr 0 0 5 0,.adr 1 0 2 0] (LY 0 (0:Int) (0:Int) (0:Int)) (LY 0 (0:Int) e f) (aZ 36 .i64 .i64 (e,f)):=by
 refine tW.jZ (nx:=2) (pn:=2) Tryz.func80 rfl rfl rfl rfl rfl rfl rfl rfl (by kernel_rfl) rfl (fun Bw w0=>?_);have h:some ()=some ():=rfl;refine GN a0 [(1,1,⟨∃j,Tryz.prog.underlying 20=some (.interface j),⟨_,rfl⟩⟩)] (m8 rfl (GN a0 [(1,1,⟨∃d,Tryz.prog.underlying 36=some d∧(match d with | .interface _=>false | _=>true)=true,⟨_,rfl,rfl⟩⟩)] (af (G (xp rfl (ae (ab (mu a0 [] ?_))))))));exact eN h (gg [] [0,1])
theorem ss:Lh Tryz.prog 80 2:=by
 intro e w q;obtain⟨u,v,rfl⟩:∃u v,e = #[u,v]:=by
  match j:e.toList with
  | [a,b]=>exact⟨a,b,Array.ext' j⟩
  | []=>have:=congrArg List.length j;simp[q]at this
  | [_]=>have:=congrArg List.length j;simp[q]at this
  | _::_::_::_=>have:=congrArg List.length j;simp[q]at this
 refine callsD_of_wpS Tryz.func80 rfl fun f z hu=>?_
 apply wpS_seq;apply wpS_region;simp[wpOpsS,go_sem,recoverD,hu,Tryz.ntmps80,Exit.thenS];apply wpS_seq;apply wpS_region;simp[wpOpsS,go_sem,Exit.thenS,Act.eval,Act.put];refine wpS_cond (t:=false) (by simp[Act.eval,Array.replicate]) ?_;simp only[Bool.false_eq_true,if_false];refine wpS_of_wp (wp_skip ?_);cases f;simp_all [bodyPostS,results,Tryz.results80]
def j3(e:QX):Option ((KU×Int×Int)⊕(Int×Int)) :=
 (if(decide ((e.length:Int) > 4096))=true then((mJ 24 (4096:Int) e 0 (0:Int) (0:Int) (0:Int) (0:Int) ([]:XX)).bind fun(z:(Unit)⊕(Int×Int))=>match z with
 | .inr (A,B)=>some (Sum.inr (A,B))
 | .inl _=>none)
 else((hD e 0 (0:Int) (0:Int) (0:Int) (0:Int) ([]:XX)).bind fun(C:Mb⊕(Int×Int))=>match C with
 | .inr (D,E)=>some (Sum.inr (D,E))
 | .inl (I,f,j,q,u,v,J,L,M)=>some (Sum.inl ((f,j,q,u,v),0,0))))
def py:(KU×Int×Int)⊕(Int×Int)→KU×Int×Int
 | .inl x=>x
 | .inr e=>((([]:QQ),0,0,([]:QK),([]:XJ)),e.1,e.2)
def km(e:QX):Option (KU×Int×Int):=(j3 e).map py
theorem vR(f:QX)(v:(KU×Int×Int)⊕(Int×Int))(h:j3 f=some v):
  Pure Tryz.prog 51 [.st f] (aM (bg false (KX (fun(q:KU×Int×Int)=>([⟨L6,q.1⟩,⟨Y2,q.2⟩]:List (Σ T:Ty,T.den))) (fun(e:Int×Int)=>([⟨L6,(([]:QQ),0,0,([]:QK),([]:XJ))⟩,⟨Y2,(e.1,e.2)⟩]:List (Σ T:Ty,T.den))) v))):=by
 refine Pure.H3 (args:=[.st f]) (gd:=80) (fnd:=Tryz.f80) (l:=[(0,.st f),(2,.adr 0 0 5 0),(3,.adr 1 0 2 0),(4,.adr 2 0 10 0)]) (m:=(Pm 0 (0:Int) (0:Int) (0:Int) f 0 (0:Int) (0:Int) (0:Int) (0:Int) ([]:XX))) (nx:=4) (s2:=5) (s3:=2) (lp:=[(2,.adr 0 0 5 0),(3,.adr 1 0 2 0)]) (mp:=(LY 0 (0:Int) (0:Int) (0:Int))) (nxp:=2) (fv:=aZ 36 .i64 .i64) (hin:=(LY 0 (0:Int) (0:Int) (0:Int))) (hout:=fun e=>(LY 0 (0:Int) e.1 e.2)) (t2:=2) (t3:=3) (d:=9) iB Tryz.func51 (by kernel_rfl) Tryz.func80 (by kernel_rfl) rfl rfl rfl rfl rfl rfl rfl rfl (nl rfl) rfl rfl (by decide) rfl rfl (by decide) (fun Bw w0=>?_) (fun Bw w0 D=>?_) ss (fun e=>sZ e.1 e.2) (by kernel_rfl) (fun e=>by kernel_rfl) [L6,Y2] (fun e=>by kernel_rfl)
 ·clear h;have h:some ()=some ():=rfl;refine Ge (ab (Ge ?_));exact eN h (gg [] [0,8,40,24])
 unfold j3 at h;refine af (G (aC h (fun J h=>?_) (fun J h=>?_)))
 ·obtain⟨L,A,h⟩:=aj h;rcases L with _ | ⟨B,C⟩
  ·cases h
  have j:=(kB A);refine K3 iB ⟨[],[(1,(oD j [2,3]))]⟩ 1 (aZ 36 .i64 .i64 (B,C)) [] [0,1] [(2,.adr 0 0 5 0),(3,.adr 1 0 2 0)] (LY 0 (0:Int) (0:Int) (0:Int)) 2 2 [True,kg Tryz.prog 81 [.adr 0 0 10 0,.i64 24,.i64 4096] (NP f 0 (0:Int) (0:Int) (0:Int) (0:Int) ([]:XX)) (aZ 36 .i64 .i64 (B,C))] (by kernel_rfl) (by kernel_rfl) ⟨tt,(kB A),tt⟩ (fun σ1 u=>aF ?_);obtain rfl:=sI h;exact⟨rfl,u⟩
 refine ae (ab (af ?_));obtain⟨M,z,h⟩:=aj h;rcases M with⟨N,O,V,X,Y,Z,a1,a2,a3⟩ | ⟨E,I⟩
 ·refine lH 1 [2,3] (iq z) (ab (G (kM [.frzC 0 0,.frzC 0 3,.frzC 0 4] (by kernel_rfl) (au ?_))));obtain rfl:=sI h;exact⟨rfl,RI [L6,Y2]⟩
 have j:=(iq z);refine K3 iB ⟨[],[(1,(oD j [2,3]))]⟩ 1 (aZ 36 .i64 .i64 (E,I)) [] [0,1] [(2,.adr 0 0 5 0),(3,.adr 1 0 2 0)] (LY 0 (0:Int) (0:Int) (0:Int)) 2 2 [True,kg Tryz.prog 82 [.adr 0 0 10 0] (NP f 0 (0:Int) (0:Int) (0:Int) (0:Int) ([]:XX)) (aZ 36 .i64 .i64 (E,I))] (by kernel_rfl) (by kernel_rfl) ⟨tt,(iq z),tt⟩ (fun σ1 u=>aF ?_);obtain rfl:=sI h;exact⟨rfl,u⟩
theorem xR{f:QX}{j:KU×Int×Int}(h:km f=some j):
  Pure Tryz.prog 51 [.st f] (aM (bg false [⟨L6,j.1⟩,⟨Y2,j.2⟩])):=by
 unfold km at h;obtain⟨r,q,rfl⟩:=Option.map_eq_some_iff.1 h;have:=vR  f r q;cases r with
 | inl x=>exact this
 | inr e=>exact this
def tR(v:Int)(f:XZ)(e:Int→Int→XZ→Option (Tree)):(XZ×Int)→Option ((XZ×Int)⊕XZ):=fun(j,q) =>
 (if(decide (q<(f.length:Int)))=true then(if 0≤q∧q<(f.length:Int)then(((if(v == 2)=true then(if 0≤(i64.wrap ((i64.wrap ((f.length:Int) - 1)) - q))∧(i64.wrap ((i64.wrap ((f.length:Int) - 1)) - q))<(f.length:Int)then some (((f.getD ((i64.wrap ((i64.wrap ((f.length:Int) - 1)) - q)).toNat) (Tree.node 0 0 [])).op,(f.getD ((i64.wrap ((i64.wrap ((f.length:Int) - 1)) - q)).toNat) (Tree.node 0 0 [])).set,(f.getD ((i64.wrap ((i64.wrap ((f.length:Int) - 1)) - q)).toNat) (Tree.node 0 0 [])).kids))else none)
 else some (((f.getD q.toNat (Tree.node 0 0 [])).op,(f.getD q.toNat (Tree.node 0 0 [])).set,(f.getD q.toNat (Tree.node 0 0 [])).kids)))).bind fun(z,A,B)=>((e z A B).bind fun u =>
 (if(j.length+([(Tree.node u.op u.set u.kids)]:XZ).length)*32≤140737488355328∧j.length+([(Tree.node u.op u.set u.kids)]:XZ).length≤9223372036854775807 then some (Sum.inl ((j++([(Tree.node u.op u.set u.kids)]:XZ)),(i64.wrap (q+1))))else none)))else none)
 else some (Sum.inr j))
def mG(e:Int→Int→XZ→Option (Tree))(j q:Int)(u:XZ):Option (Tree) :=
 ((iter (tR j u e) (([]:XZ),0)).bind fun f=>some (Tree.node j q f))
def lD:Nat→Int→Int→XZ→Option (Tree)
 | 0=>fun _ _ _=>none
 | n+1=>mG (lD n)
theorem xw(e:Int→Int→XZ→Option (Tree))(f:∀(j:Bool) {v z:Int} {A:XZ} {q:Tree},e v z A=some q→Pure Tryz.prog 83 [.agg [.u8 v,.u32 z,.p j (.slice (.tree .u8 .u32)) A]] (aM (bg false [⟨(.tree .u8 .u32),q⟩])))(j:Bool){v z:Int}{A:XZ}{q:Tree}(h:mG e v z A=some q):
  Pure Tryz.prog 83 [.agg [.u8 v,.u32 z,.p j (.slice (.tree .u8 .u32)) A]] (aM (bg false [⟨(.tree .u8 .u32),q⟩])):=by
 refine PB Tryz.func83 (fun Bw w0=>?_);unfold mG at h;refine G (G (af (G (ak (cM h (fun(u,D)=>aA [(1,.adr 0 0 3 0),(2,.adr 1 0 3 0),(3,.adr 2 0 3 0),(13,.i64 (A.length:Int)),(14,.i64 D)] (Ow v z j A 0 (0:Int) v z u) 4) 0 (fun B=>aA [(2,.adr 0 0 3 0),(3,.adr 1 0 3 0)] (OE 0 (0:Int) v z B) 3) (gg [.nilC 56 2 104 210 (.tree .u8 .u32)] [0,8,56,104]) (fun y o h=>?_) (fun B h=>?_))))))
 ·obtain⟨u,D⟩:=y;unfold tR at h;refine G (af (aC h (fun N h=>?_) (fun N h=>?_)))
  ·refine ae (ab (af (ak (G (GC 3 h (fun h=>af (G (bm h (fun(I,J,L)=>aA [(1,.adr 0 0 3 0),(2,.adr 1 0 3 0),(3,.adr 2 0 3 0),(5,.adr 4 0 3 0),(13,.i64 (A.length:Int)),(14,.i64 D)] (N8 v z j A 0 (0:Int) v z u I J j L) 5) (fun M h=>?_) (fun M h=>?_)))))))))
   ·refine aC h (fun O h=>?_) (fun O h=>?_)
    ·refine yK 8 h (fun h=>?_);exact eN h (gg [] [0,1,2,3,68])
    exact ae (eN h (gg [] [0,1,2,3,68]))
   obtain⟨I,J,L⟩:=M;refine ab ?_;obtain⟨X,V,h⟩:=aj h;obtain⟨E,h⟩:=aE h;have C:=(f j V);refine mu ⟨[],[(3,(oP C))]⟩ [(3,3,oc C),(5,5,oc E)] (ay (ab (Ge ?_)));exact eB h (gg [] [0,1,2,45])
  refine aw (aR ?_);exact eX h (gg [] [1,2,3])
 refine az (ab (G (kM [.frzC 0 2] (by kernel_rfl) (au ?_))));obtain rfl:=sI h;exact RI [(.tree .u8 .u32)]
theorem tx:∀(n:Nat) (e:Bool) {j q:Int} {u:XZ} {f:Tree},lD n j q u=some f→Pure Tryz.prog 83 [.agg [.u8 j,.u32 q,.p e (.slice (.tree .u8 .u32)) u]] (aM (bg false [⟨(.tree .u8 .u32),f⟩]))
 | 0,_,_,_,_,_,h=>by cases h
 | n+1,e,j,q,u,f,h=>xw (lD n) (tx n) e h
def iN(e:Int)(v:Bool)(f j q u z A B C:Int):Option Z2 :=
 (if ¬(64:Int)=0 then(if 0≤(i64.wrap (Int.tdiv e 64))∧(i64.wrap (Int.tdiv e 64))<((4:Nat):Int)then(if ¬(64:Int)=0 then(if 0≤(Int.tmod e 64)then(if 0≤(i64.wrap (Int.tdiv e 64))∧(i64.wrap (Int.tdiv e 64))<((4:Nat):Int)then some ((if(i64.wrap (Int.tdiv e 64)).toNat=0 then(bitsOf .or .u64 (([f,j,q,u]:QK).getD ((i64.wrap (Int.tdiv e 64)).toNat) 0) (u64.wrap (1*2 ^ (min (Int.tmod e 64).toNat u64.bits))))else f),(if(i64.wrap (Int.tdiv e 64)).toNat=1 then(bitsOf .or .u64 (([f,j,q,u]:QK).getD ((i64.wrap (Int.tdiv e 64)).toNat) 0) (u64.wrap (1*2 ^ (min (Int.tmod e 64).toNat u64.bits))))else j),(if(i64.wrap (Int.tdiv e 64)).toNat=2 then(bitsOf .or .u64 (([f,j,q,u]:QK).getD ((i64.wrap (Int.tdiv e 64)).toNat) 0) (u64.wrap (1*2 ^ (min (Int.tmod e 64).toNat u64.bits))))else q),(if(i64.wrap (Int.tdiv e 64)).toNat=3 then(bitsOf .or .u64 (([f,j,q,u]:QK).getD ((i64.wrap (Int.tdiv e 64)).toNat) 0) (u64.wrap (1*2 ^ (min (Int.tmod e 64).toNat u64.bits))))else u))else none)else none)else none)else none)else none)
theorem rm{e:Int}{z:Bool}{j q u v A B C D:Int}{f:Int×Int×Int×Int}(h:iN e z j q u v A B C D=some f):
  gN Tryz.prog 121 [.adr 0 0 9 1,.i64 e] (Lw z j q u v A B C D) (.tup []) (Lw z f.1 f.2.1 f.2.2.1 f.2.2.2 A B C D):=by
 refine OB Tryz.func121 (fun Bw w0=>?_);unfold iN at h;obtain⟨E,I,J,L,h⟩:=g4 h;obtain⟨M,h⟩:=aE h;refine mu a0 [(2,2,oc E),(4,4,oc I),(7,7,oc J),(8,8,oc L),(11,11,oc M)] ?_;obtain rfl:=sI h;exact(RO [] [] [0] [] (Lw z (if(i64.wrap (Int.tdiv e 64)).toNat=0 then(bitsOf .or .u64 (([j,q,u,v]:QK).getD ((i64.wrap (Int.tdiv e 64)).toNat) 0) (u64.wrap (1*2 ^ (min (Int.tmod e 64).toNat u64.bits))))else j) (if(i64.wrap (Int.tdiv e 64)).toNat=1 then(bitsOf .or .u64 (([j,q,u,v]:QK).getD ((i64.wrap (Int.tdiv e 64)).toNat) 0) (u64.wrap (1*2 ^ (min (Int.tmod e 64).toNat u64.bits))))else q) (if(i64.wrap (Int.tdiv e 64)).toNat=2 then(bitsOf .or .u64 (([j,q,u,v]:QK).getD ((i64.wrap (Int.tdiv e 64)).toNat) 0) (u64.wrap (1*2 ^ (min (Int.tmod e 64).toNat u64.bits))))else u) (if(i64.wrap (Int.tdiv e 64)).toNat=3 then(bitsOf .or .u64 (([j,q,u,v]:QK).getD ((i64.wrap (Int.tdiv e 64)).toNat) 0) (u64.wrap (1*2 ^ (min (Int.tmod e 64).toNat u64.bits))))else v) A B C D) 1 1).normal
def hN(f j q u e:Int):Option (Bool) :=
 (if ¬(64:Int)=0 then(if 0≤(i64.wrap (Int.tdiv e 64))∧(i64.wrap (Int.tdiv e 64))<((4:Nat):Int)then(if ¬(64:Int)=0 then(if 0≤(Int.tmod e 64)then some ((bitsOf .and .u64 (Int.fdiv (([f,j,q,u]:QK).getD ((i64.wrap (Int.tdiv e 64)).toNat) 0) (2 ^ (min (Int.tmod e 64).toNat u64.bits))) (1:Int)) == 1)else none)else none)else none)else none)
theorem iK{f j q u v:Int}{e:Bool}(h:hN f j q u v=some e):
  Pure Tryz.prog 119 [.agg [.u64 f,.u64 j,.u64 q,.u64 u],.i64 v] (aM (bg false [⟨.bool,e⟩])):=by
 refine PB Tryz.func119 (fun Bw w0=>?_);unfold hN at h;refine G ?_;obtain⟨z,A,B,C,h⟩:=g4 h;refine GN a0 [(1,1,oc z),(2,2,oc A),(5,5,oc B),(6,6,oc C)] (au ?_);obtain rfl:=sI h;exact RI [.bool]
def pr(o1 o2 o3 o4:Int):(Int×Int×Int×Int×Int)→Option ((Int×Int×Int×Int×Int)⊕Z2):=fun(u,f,j,q,e) =>
 (if(decide (e<4))=true then(if 0≤e∧e<((4:Nat):Int)then(if 0≤e∧e<((4:Nat):Int)then(if 0≤e∧e<((4:Nat):Int)then some (Sum.inl ((if e.toNat=0 then(bitsOf .or .u64 (([u,f,j,q]:QK).getD e.toNat 0) (([o1,o2,o3,o4]:QK).getD e.toNat 0))else u),(if e.toNat=1 then(bitsOf .or .u64 (([u,f,j,q]:QK).getD e.toNat 0) (([o1,o2,o3,o4]:QK).getD e.toNat 0))else f),(if e.toNat=2 then(bitsOf .or .u64 (([u,f,j,q]:QK).getD e.toNat 0) (([o1,o2,o3,o4]:QK).getD e.toNat 0))else j),(if e.toNat=3 then(bitsOf .or .u64 (([u,f,j,q]:QK).getD e.toNat 0) (([o1,o2,o3,o4]:QK).getD e.toNat 0))else q),(i64.wrap (e+1))))else none)else none)else none)
 else some (Sum.inr (u,f,j,q)))
def dn(u v z A o1 o2 o3 o4:Int):Option Z2 :=
 ((iter (pr o1 o2 o3 o4) (u,v,z,A,0)).bind fun(e,f,j,q)=>some (e,f,j,q))
theorem db{E I J L o1 o2 o3 o4:Int}{e:Int×Int×Int×Int}(h:dn E I J L o1 o2 o3 o4=some e):
  Pure Tryz.prog 118 [.agg [.u64 E,.u64 I,.u64 J,.u64 L],.agg [.u64 o1,.u64 o2,.u64 o3,.u64 o4]] (aM (bg false [⟨mI,e⟩])):=by
 refine PB Tryz.func118 (fun Bw w0=>?_);unfold dn at h;refine G (af (G (ak (cM h (fun(M,f,j,q,N)=>aA [(2,.adr 0 0 4 0),(3,.adr 1 0 4 0),(4,.adr 2 0 4 0),(6,.i64 N)] (N7 M f j q o1 o2 o3 o4 0 (0:Int) (0:Int) (0:Int)) 3) 0 (fun(u,v,z,A)=>aA [(2,.adr 0 0 4 0),(4,.adr 1 0 4 0)] (Nh u v z A 0 (0:Int) (0:Int) (0:Int)) 2) (gg [] [0,8,16]) (fun y o h=>?_) (fun O h=>?_)))))
 ·obtain⟨M,f,j,q,N⟩:=y;unfold pr at h;refine G (af (aC h (fun V h=>?_) (fun V h=>?_)))
  ·refine ae (ab (af (ak (G ?_))));obtain⟨B,C,D,h⟩:=g3 h;refine mu a0 [(1,1,oc B),(4,4,oc C),(7,7,oc D)] (ay (ab (Ge ?_)));exact eB h (gg [] [0,1,2])
  refine aw (aR ?_);exact eX h (gg [] [0,2])
 obtain⟨u,v,z,A⟩:=O;refine az (ab (G (au ?_)));obtain rfl:=sI h;exact RI [mI]
def jJ(j q u v z A B C:Int)(o2:Qj):(Qj×Int)→Option ((Qj×Int)⊕Qj):=fun(e,v6) =>
 (if(decide (v6<(o2.length:Int)))=true then((hN j q u v v6).bind fun D =>
 (((if D=true then(if 0≤v6∧v6<(e.length:Int)then(if v6.toNat<e.length then((dn ((e.getD v6.toNat (0,0,0,0)).1) ((e.getD v6.toNat (0,0,0,0)).2.1) ((e.getD v6.toNat (0,0,0,0)).2.2.1) ((e.getD v6.toNat (0,0,0,0)).2.2.2) z A B C).bind fun f =>
 (if 0≤v6∧v6<(e.length:Int)then(if v6.toNat<e.length then some ((e.set v6.toNat (f.1,f.2.1,f.2.2.1,f.2.2.2)))else none)else none))else none)else none)
 else some (e))).bind fun E=>some (Sum.inl (E,(i64.wrap (v6+1))))))
 else some (Sum.inr e))
def eK(e f j q u v z A:Int)(C:Bool)(o1:QK)(o2:Qj):Option Qj :=
 ((iter (jJ e f j q u v z A o2) (o2,0)).bind fun B=>some B)
theorem jI{e f j q u v z A:Int}{B:Bool}{o1:QK}{o2 D:Qj}(h:eK e f j q u v z A B o1 o2=some D):
  gN Tryz.prog 149 [.adr 0 0 3 0,.agg [.u64 e,.u64 f,.u64 j,.u64 q],.agg [.u64 u,.u64 v,.u64 z,.u64 A]] (ER B o1 o2) (.tup []) (ER B o1 D):=by
 refine OB Tryz.func149 (fun Bw w0=>?_);unfold eK at h;refine G (G (ak (cM h (fun(E,v6)=>aA [(0,.adr 0 0 3 0),(4,.adr 3 0 4 0),(5,.adr 4 0 4 0),(11,.i64 (o2.length:Int)),(12,.i64 v6)] (Nk B o1 E e f j q u v z A) 5 3) 0 (fun J=>aA [] (ER B o1 J) 3 3) (gg [] [0,1,2,3,11]) (fun y o h=>?_) (fun J h=>?_))))
 ·obtain⟨E,v6⟩:=y;unfold jJ at h;refine G (af (aC h (fun L h=>?_) (fun L h=>?_)))
  ·refine ae (ab (af (ak (G ?_))));obtain⟨a1,M,h⟩:=aj h;refine GP 2 (iK M) (bm h (fun C=>aA [(0,.adr 0 0 3 0),(4,.adr 3 0 4 0),(5,.adr 4 0 4 0),(11,.i64 (o2.length:Int)),(12,.i64 v6)] (Nk B o1 C e f j q u v z A) 5 3) (fun C h=>?_) (fun C h=>?_))
   ·refine aC h (fun N h=>?_) (fun N h=>?_)
    ·obtain⟨O,V,h⟩:=g2 h;obtain⟨a2,X,h⟩:=aj h;obtain⟨Y,Z,h⟩:=g2 h;have I:=(db X);exact mu ⟨[],[(13,(oP I))]⟩ [(10,10,oc O),(11,11,oc V),(13,13,oc I),(14,14,oc Y),(15,15,oc Z)] (eN h (gg [] [0,1,2,3,4]))
    exact ae (eN h (gg [] [0,1,2,3,4]))
   refine ay (ab (Ge ?_));exact eB h (gg [] [0,1,2,3,4])
  refine aw (aR ?_);exact eX h (gg [] [0,1,2])
 refine az ?_;obtain rfl:=sI h;exact(RO [] [] [0,1,2] [] (ER B o1 J) 3 3).normal
def kQ(N:XZ)(f:Int→Int→XZ→Bool→QK→Qj→Option (ug×QK×Qj×Bool)):(QK×Qj×Bool×Bool×Int×Int×Int×Int×Int×Int×Int×Int×Int)→Option ((QK×Qj×Bool×Bool×Int×Int×Int×Int×Int×Int×Int×Int×Int)⊕(Bool×Int×Int×Int×Int×Int×Int×Int×Int×QK×Qj×Bool)):=fun(O,V,X,v,z,A,B,C,D,E,I,J,j) =>
 (if(decide (j<(N.length:Int)))=true then(if 0≤j∧j<(N.length:Int)then((f ((N.getD j.toNat (Tree.node 0 0 [])).op) ((N.getD j.toNat (Tree.node 0 0 [])).set) ((N.getD j.toNat (Tree.node 0 0 [])).kids) X O V).bind fun(e,L,Y,M) =>
 ((eK D E I J e.2.1.1 e.2.1.2.1 e.2.1.2.2.1 e.2.1.2.2.2 M L Y).bind fun Z =>
 (((if v=true then((dn z A B C e.2.1.1 e.2.1.2.1 e.2.1.2.2.1 e.2.1.2.2.2).bind fun q =>
 some ((q.1,q.2.1,q.2.2.1,q.2.2.2)))
 else some ((z,A,B,C)))).bind fun(a1,a2,a3,a4)=>(((if e.1=true then((dn e.2.2.1 e.2.2.2.1 e.2.2.2.2.1 e.2.2.2.2.2 D E I J).bind fun u =>
 some ((u.1,u.2.1,u.2.2.1,u.2.2.2)))
 else some ((e.2.2.1,e.2.2.2.1,e.2.2.2.2.1,e.2.2.2.2.2)))).bind fun(a5,a6,a7,a8)=>(((if v=true then some (e.1)
 else some (false))).bind fun a9=>some (Sum.inl (L,Z,M,a9,a1,a2,a3,a4,a5,a6,a7,a8,(i64.wrap (j+1)))))))))else none)
 else some (Sum.inr (v,z,A,B,C,D,E,I,J,O,V,X)))
def kP(N:XZ)(f:Int→Int→XZ→Bool→QK→Qj→Option (ug×QK×Qj×Bool)):(QK×Qj×Bool×Bool×Int×Int×Int×Int×Int×Int×Int×Int×Int)→Option ((QK×Qj×Bool×Bool×Int×Int×Int×Int×Int×Int×Int×Int×Int)⊕(Bool×Int×Int×Int×Int×Int×Int×Int×Int×QK×Qj×Bool)):=fun(O,V,X,M,A,B,C,D,E,I,J,L,j) =>
 (if(decide (j<(N.length:Int)))=true then(if 0≤j∧j<(N.length:Int)then((f ((N.getD j.toNat (Tree.node 0 0 [])).op) ((N.getD j.toNat (Tree.node 0 0 [])).set) ((N.getD j.toNat (Tree.node 0 0 [])).kids) X O V).bind fun(e,Y,Z,a1) =>
 (((if M=true then((dn A B C D e.2.1.1 e.2.1.2.1 e.2.1.2.2.1 e.2.1.2.2.2).bind fun q =>
 ((dn E I J L e.2.2.1 e.2.2.2.1 e.2.2.2.2.1 e.2.2.2.2.2).bind fun u =>
 some ((true,q.1,q.2.1,q.2.2.1,q.2.2.2,u.1,u.2.1,u.2.2.1,u.2.2.2))))
 else((dn A B C D e.2.1.1 e.2.1.2.1 e.2.1.2.2.1 e.2.1.2.2.2).bind fun v =>
 ((dn E I J L e.2.2.1 e.2.2.2.1 e.2.2.2.2.1 e.2.2.2.2.2).bind fun z =>
 some ((e.1,v.1,v.2.1,v.2.2.1,v.2.2.2,z.1,z.2.1,z.2.2.1,z.2.2.2)))))).bind fun(a2,a3,a4,a5,a6,a7,a8,a9,aa)=>some (Sum.inl (Y,Z,a1,a2,a3,a4,a5,a6,a7,a8,a9,aa,(i64.wrap (j+1))))))else none)
 else some (Sum.inr (M,A,B,C,D,E,I,J,L,O,V,X)))
def fY(e:Int→Int→XZ→Bool→QK→Qj→Option (ug×QK×Qj×Bool))(j i2:Int)(M:XZ)(N:Bool)(o1:QK)(o2:Qj):Option (ug×QK×Qj×Bool) :=
 (if(j == 1)=true then(if(decide ((o1.length:Int)≥200))=true then some ((false,(0,0,0,0),0,0,0,0),o1,o2,true)
 else((iN (o1.length:Int) false 0 (0:Int) (0:Int) (0:Int) (0:Int) (0:Int) (0:Int) (0:Int)).bind fun(q,u,v,z) =>
 (if(o1.length+([i2]:QK).length)*4≤140737488355328∧o1.length+([i2]:QK).length≤9223372036854775807 then(if(o2.length+([(0,0,0,0)]:Qj).length)*32≤140737488355328∧o2.length+([(0,0,0,0)]:Qj).length≤9223372036854775807 then some ((false,(q,u,v,z),q,u,v,z),(o1++([i2]:QK)),(o2++([(0,0,0,0)]:Qj)),N)else none)else none)))
 else(if(j == 2)=true then((iter (kQ M e) (o1,o2,N,true,0,0,0,0,0,0,0,0,0)).bind fun(O,V,X,Y,Z,a1,a2,a3,a4,a5,a6,a7)=>some ((O,(V,X,Y,Z),a1,a2,a3,a4),a5,a6,a7))
 else(if(j == 3)=true then((iter (kP M e) (o1,o2,N,false,0,0,0,0,0,0,0,0,0)).bind fun(a8,a9,aa,ac,ad,ax,b1,b2,b3,b4,b5,b6)=>some ((a8,(a9,aa,ac,ad),ax,b1,b2,b3),b4,b5,b6))
 else(((if(j == 4)=true then some ((j == 4))
 else(if(j == 5)=true then some ((j == 5))
 else some ((j == 6))))).bind fun b7=>(if b7=true then(((if(decide ((M.length:Int) > 0))=true then(if 0≤(0:Int)∧0<(M.length:Int)then((e ((M.getD ((0:Int).toNat) (Tree.node 0 0 [])).op) ((M.getD ((0:Int).toNat) (Tree.node 0 0 [])).set) ((M.getD ((0:Int).toNat) (Tree.node 0 0 [])).kids) N o1 o2).bind fun(f,b8,b9,be) =>
 some ((b8,b9,be,f.1,f.2.1.1,f.2.1.2.1,f.2.1.2.2.1,f.2.1.2.2.2,f.2.2.1,f.2.2.2.1,f.2.2.2.2.1,f.2.2.2.2.2)))else none)
 else some ((o1,o2,N,false,0,0,0,0,0,0,0,0)))).bind fun(bi,bs,bv,bx,A,B,C,D,E,I,J,L)=>(((if(j != 6)=true then((eK E I J L A B C D bv bi bs).bind fun c1 =>
 some (c1))
 else some (bs))).bind fun c2=>(((if bx=true then some (true)
 else some ((j != 5)))).bind fun c3=>some ((c3,(A,B,C,D),E,I,J,L),bi,c2,bv))))
 else some ((true,(0,0,0,0),0,0,0,0),o1,o2,N))))))
def eE:Nat→Int→Int→XZ→Bool→QK→Qj→Option (ug×QK×Qj×Bool)
 | 0=>fun _ _ _ _ _ _=>none
 | n+1=>fY (eE n)
theorem pc(f:Int→Int→XZ→Bool→QK→Qj→Option (ug×QK×Qj×Bool))(e:∀(u:Bool) {i1 i2:Int} {v:XZ} {d1:Bool} {o1:QK} {o2:Qj} {j:ug×QK×Qj×Bool},f i1 i2 v d1 o1 o2=some j→gN Tryz.prog 117 [.adr 0 0 3 0,.agg [.u8 i1,.u32 i2,.p u (.slice (.tree .u8 .u32)) v]] (ER d1 o1 o2) (.agg [.bo j.1.1,.u64 j.1.2.1.1,.u64 j.1.2.1.2.1,.u64 j.1.2.1.2.2.1,.u64 j.1.2.1.2.2.2,.u64 j.1.2.2.1,.u64 j.1.2.2.2.1,.u64 j.1.2.2.2.2.1,.u64 j.1.2.2.2.2.2]) (Ma j.2.2.2 j.2.1 j.2.2.1))(u:Bool){i1 i2:Int}{v:XZ}{d1:Bool}{o1:QK}{o2:Qj}{j:ug×QK×Qj×Bool}(h:fY f i1 i2 v d1 o1 o2=some j):
  gN Tryz.prog 117 [.adr 0 0 3 0,.agg [.u8 i1,.u32 i2,.p u (.slice (.tree .u8 .u32)) v]] (ER d1 o1 o2) (.agg [.bo j.1.1,.u64 j.1.2.1.1,.u64 j.1.2.1.2.1,.u64 j.1.2.1.2.2.1,.u64 j.1.2.1.2.2.2,.u64 j.1.2.2.1,.u64 j.1.2.2.2.1,.u64 j.1.2.2.2.2.1,.u64 j.1.2.2.2.2.2]) (Ma j.2.2.2 j.2.1 j.2.2.1):=by
 refine OB Tryz.func117 (fun Bw w0=>?_);unfold fY at h;refine G (af (G (ak (G (aC h (fun g6 h=>?_) (fun g6 h=>?_))))))
 ·refine af (G (aC h (fun g7 h=>?_) (fun g7 h=>?_)))
  ·refine G (G (au (ah (aB (ah ?_)))));obtain rfl:=sI h;exact RO [some Cs] [] [0,1,2,1,2,11] [(4,.adr 5 0 9 0)] (Hd true o1 o2 false 0 (0:Int) (0:Int) (0:Int) (0:Int) (0:Int) (0:Int) (0:Int)) 6 3
  refine ae (ab (G ?_));obtain⟨⟨d7,d8,d9,dd⟩,g8,h⟩:=aj h;refine GO 6 [99] (rm g8) (G ?_);obtain⟨g9,h⟩:=aE h;refine GD a0 [(8,8,oc g9)] (GC 7 h (fun h=>G (au (aB (ah ?_)))));obtain rfl:=sI h;exact RO [some Cs] [] [0,1,2,259,347,11] [(4,.adr 5 0 9 0)] (Hd d1 (o1++([i2]:QK)) (o2++([(0,0,0,0)]:Qj)) false d7 d8 d9 dd d7 d8 d9 dd) 6 3
 refine G (aC h (fun gb h=>?_) (fun gb h=>?_))
 ·refine G (af (G (ak (cM h (fun(er,es,et,O,de,di,dk,dm,V,X,Y,Z,z)=>aA [(0,.adr 0 0 3 0),(4,.adr 5 0 9 0),(6,.adr 6 0 9 0),(65,.p u (.slice (.tree .u8 .u32)) v),(66,.i64 (v.length:Int)),(67,.i64 z)] (Ks et er es false 0 (0:Int) (0:Int) (0:Int) (0:Int) (0:Int) (0:Int) (0:Int) O de di dk dm V X Y Z) 7 3) 1 (fun(a7,a8,a9,aa,ac,ad,ax,b1,b2,b3,b4,b5)=>aA [(4,.adr 3 0 9 0),(6,.adr 4 0 9 0)] (Mr b5 false 0 (0:Int) (0:Int) (0:Int) (0:Int) (0:Int) (0:Int) (0:Int) a7 a8 a9 aa ac ad ax b1 b2 b3 b4) 7 3) (gg [] [0,1,2,1,2,11,75]) (fun y o h=>?_) (fun eu h=>?_)))))
  ·obtain⟨er,es,et,O,de,di,dk,dm,V,X,Y,Z,z⟩:=y;unfold kQ at h;refine G (af (aC h (fun gd h=>?_) (fun gd h=>?_)))
   ·refine ae (ab (af (ak (GC 0 h (fun h=>?_)))));obtain⟨⟨q,b6,h4,b7⟩,ew,h⟩:=aj h;refine GO 2 [0,3,4] (e u ew) ?_;obtain⟨b8,ey,h⟩:=aj h;refine GO 5 [0,63,64] (jI ey) (af (G (bm h (fun(a1,a2,a3,a4)=>aA [(0,.adr 0 0 3 0),(4,.adr 5 0 9 0),(6,.adr 6 0 9 0),(9,.adr 7 0 9 0),(65,.p u (.slice (.tree .u8 .u32)) v),(66,.i64 (v.length:Int)),(67,.i64 z)] (M1 b7 b6 b8 false 0 (0:Int) (0:Int) (0:Int) (0:Int) (0:Int) (0:Int) (0:Int) O a1 a2 a3 a4 V X Y Z q.1 q.2.1.1 q.2.1.2.1 q.2.1.2.2.1 q.2.1.2.2.2 q.2.2.1 q.2.2.2.1 q.2.2.2.2.1 q.2.2.2.2.2) 8 3) (fun ds h=>?_) (fun ds h=>?_))))
    ·refine aC h (fun gi h=>?_) (fun gi h=>?_)
     ·obtain⟨h5,f1,h⟩:=aj h;exact NR 4 (db f1) (eN h (gg [] [0,1,2,63,64,5,6,71]))
     exact ae (eN h (gg [] [0,1,2,63,64,5,6,71]))
    obtain⟨a1,a2,a3,a4⟩:=ds;refine ab (af (G (bm h (fun(b9,be,bi,bs)=>aA [(0,.adr 0 0 3 0),(4,.adr 5 0 9 0),(6,.adr 6 0 9 0),(9,.adr 7 0 9 0),(65,.p u (.slice (.tree .u8 .u32)) v),(66,.i64 (v.length:Int)),(67,.i64 z)] (M1 b7 b6 b8 false 0 (0:Int) (0:Int) (0:Int) (0:Int) (0:Int) (0:Int) (0:Int) O a1 a2 a3 a4 V X Y Z q.1 q.2.1.1 q.2.1.2.1 q.2.1.2.2.1 q.2.1.2.2.2 b9 be bi bs) 8 3) (fun dt h=>?_) (fun dt h=>?_))))
    ·refine aC h (fun gj h=>?_) (fun gj h=>?_)
     ·obtain⟨h6,f2,h⟩:=aj h;exact NR 4 (db f2) (eN h (gg [] [0,1,2,3,4,5,6,7]))
     exact ae (eN h (gg [] [0,1,2,3,4,5,6,7]))
    obtain⟨b9,be,bi,bs⟩:=dt;refine ab (bm h (fun bv=>aA [(0,.adr 0 0 3 0),(4,.adr 5 0 9 0),(6,.adr 6 0 9 0),(65,.p u (.slice (.tree .u8 .u32)) v),(66,.i64 (v.length:Int)),(67,.i64 z)] (Ks b7 b6 b8 false 0 (0:Int) (0:Int) (0:Int) (0:Int) (0:Int) (0:Int) (0:Int) bv a1 a2 a3 a4 b9 be bi bs) 7 3) (fun bv h=>?_) (fun bv h=>?_))
    ·rcases aI h with⟨d5,h⟩ | ⟨d5,h⟩
     ·exact mu ⟨[(2,true),(5,true)],[]⟩ [(3,4,an d5),(5,5,oc d5)] (eN h (gg [] [0,1,2,3,4,5,6]))
     exact mu ⟨[(2,false),(5,false)],[]⟩ [(3,5,oc d5)] (eN h (gg [] [0,1,2,3,4,5,6]))
    refine ay (ab (Ge ?_));exact eB h (gg [] [0,1,2,3,4,5,6])
   refine aw (aR ?_);exact eX h (gg [] [0,1,2,5,6,3,4])
  obtain⟨a7,a8,a9,aa,ac,ad,ax,b1,b2,b3,b4,b5⟩:=eu;refine az (ab (G (au (aB (ah ?_)))));obtain rfl:=sI h;exact RO [some Cs] [] [0,1,2,5,6,3] [(4,.adr 5 0 9 0)] (Hd b5 b3 b4 a7 a8 a9 aa ac ad ax b1 b2) 6 3
 refine G (aC h (fun gp h=>?_) (fun gp h=>?_))
 ·refine G (af (G (ak (cM h (fun(f3,f4,f5,du,e1,e2,e3,e4,e5,e6,e7,e8,bx)=>aA [(0,.adr 0 0 3 0),(4,.adr 5 0 9 0),(10,.adr 6 0 9 0),(111,.p u (.slice (.tree .u8 .u32)) v),(112,.i64 (v.length:Int)),(113,.i64 bx)] (Ks f5 f3 f4 false 0 (0:Int) (0:Int) (0:Int) (0:Int) (0:Int) (0:Int) (0:Int) du e1 e2 e3 e4 e5 e6 e7 e8) 7 3) 3 (fun(c1,c2,c3,c4,c5,c6,c7,c8,c9,cc,ch,cp)=>aA [(4,.adr 3 0 9 0),(10,.adr 4 0 9 0)] (Mr cp false 0 (0:Int) (0:Int) (0:Int) (0:Int) (0:Int) (0:Int) (0:Int) c1 c2 c3 c4 c5 c6 c7 c8 c9 cc ch) 7 3) (gg [] [0,1,2,1,2,11,83]) (fun y o h=>?_) (fun f6 h=>?_)))))
  ·obtain⟨f3,f4,f5,du,e1,e2,e3,e4,e5,e6,e7,e8,bx⟩:=y;unfold kP at h;refine G (af (aC h (fun gs h=>?_) (fun gs h=>?_)))
   ·refine ae (ab (af (ak (GC 0 h (fun h=>?_)))));obtain⟨⟨h7,f7,f8,f9⟩,fa,h⟩:=aj h;refine GO 2 [0,3,4] (e u fa) (bm h (fun(e9,ea,eb,ec,ed,ef,eh,ei,ej)=>aA [(0,.adr 0 0 3 0),(4,.adr 5 0 9 0),(10,.adr 6 0 9 0),(111,.p u (.slice (.tree .u8 .u32)) v),(112,.i64 (v.length:Int)),(113,.i64 bx)] (Ks f9 f7 f8 false 0 (0:Int) (0:Int) (0:Int) (0:Int) (0:Int) (0:Int) (0:Int) e9 ea eb ec ed ef eh ei ej) 7 3) (fun ek h=>?_) (fun ek h=>?_))
    ·rcases aI h with⟨d6,h⟩ | ⟨d6,h⟩
     ·obtain⟨h8,fd,h⟩:=aj h;obtain⟨h9,fi,h⟩:=aj h;have A:=(db fd);have cs:=(db fi);exact mu ⟨[(2,true),(5,true)],[(10,(oP A)),(15,(oP cs))]⟩ [(3,5,oc d6),(10,10,oc A),(15,15,oc cs)] (eN h (gg [] [0,1,2,63,64,5,6]))
     obtain⟨hc,fo,h⟩:=aj h;obtain⟨he,fr,h⟩:=aj h;have A:=(db fo);have cs:=(db fr);exact mu ⟨[(2,false),(5,false)],[(10,(oP A)),(15,(oP cs))]⟩ [(3,4,an d6),(5,5,oc d6),(10,10,oc A),(15,15,oc cs)] (eN h (gg [] [0,1,2,63,64,5,6]))
    obtain⟨e9,ea,eb,ec,ed,ef,eh,ei,ej⟩:=ek;refine ay (ab (Ge ?_));exact eB h (gg [] [0,1,2,3,4,5,6])
   refine aw (aR ?_);exact eX h (gg [] [0,1,2,5,6,3,4])
  obtain⟨c1,c2,c3,c4,c5,c6,c7,c8,c9,cc,ch,cp⟩:=f6;refine az (ab (G (au (aB (ah ?_)))));obtain rfl:=sI h;exact RO [some Cs] [] [0,1,2,5,6,3] [(4,.adr 5 0 9 0)] (Hd cp cc ch c1 c2 c3 c4 c5 c6 c7 c8 c9) 6 3
 refine af (G (bm h (fun cx=>aA [(0,.adr 0 0 3 0),(3,.adr 3 0 3 0),(4,.adr 4 0 9 0),(139,.bo cx)] (Ol d1 o1 o2 i1 i2 u v false 0 (0:Int) (0:Int) (0:Int) (0:Int) (0:Int) (0:Int) (0:Int)) 5 3) (fun cx h=>?_) (fun cx h=>?_)))
 ·refine aC h (fun h1 h=>?_) (fun h1 h=>?_)
  ·exact ae (eN h (gg [] [0,1,2,3,11]))
  refine G (aC h (fun h2 h=>?_) (fun h2 h=>?_))
  ·exact ae (eN h (gg [] [0,1,2,3,11]))
  exact Ge (eN h (gg [] [0,1,2,3,11]))
 refine ab (aC h (fun fs h=>?_) (fun fs h=>?_))
 ·refine G (af (G (bm h (fun(d2,ft,d3,d4,B,C,D,E,I,J,L,M)=>aA [(0,.adr 0 0 3 0),(3,.adr 5 0 3 0),(4,.adr 6 0 9 0),(14,.adr 7 0 9 0)] (OF d3 d2 ft i1 i2 u v false 0 (0:Int) (0:Int) (0:Int) (0:Int) (0:Int) (0:Int) (0:Int) d4 B C D E I J L M) 8 3) (fun el h=>?_) (fun el h=>?_))))
  ·refine aC h (fun fv h=>?_) (fun fv h=>?_)
   ·obtain⟨h3,h⟩:=aE h;obtain⟨⟨hf,hg,hh,hj⟩,fw,h⟩:=aj h;have A:=(e u fw);exact bq ⟨[],[(5,(oO A [0,1,2]))]⟩ [(3,3,oc h3),(5,5,oc A)] (eN h (gg [] [0,1,2,85,86,3,4,5]))
   exact ae (eN h (gg [] [0,1,2,1,2,3,4,5]))
  obtain⟨d2,ft,d3,d4,B,C,D,E,I,J,L,M⟩:=el;refine ab (af (G (bm h (fun N=>aA [(3,.adr 3 0 3 0),(4,.adr 4 0 9 0),(14,.adr 5 0 9 0)] (Of d3 i1 i2 u v false 0 (0:Int) (0:Int) (0:Int) (0:Int) (0:Int) (0:Int) (0:Int) d4 B C D E I J L M d2 N) 8 3) (fun N h=>?_) (fun N h=>?_))))
  ·refine aC h (fun g1 h=>?_) (fun g1 h=>?_)
   ·obtain⟨hm,g5,h⟩:=aj h;exact lH 5 [0,3,4] (jI g5) (eN h (gg [] [0,1,2,5,6,7,3,4]))
   exact ae (eN h (gg [] [0,1,2,5,6,7,3,4]))
  refine ab (af (bm h (fun a5=>aA [(4,.adr 3 0 9 0),(14,.adr 4 0 9 0)] (Mr d3 false 0 (0:Int) (0:Int) (0:Int) (0:Int) (0:Int) (0:Int) (0:Int) a5 B C D E I J L M d2 N) 7 3) (fun a5 h=>?_) (fun a5 h=>?_)))
  ·rcases aI h with⟨a6,h⟩ | ⟨a6,h⟩
   ·exact bq ⟨[(2,true),(6,true)],[]⟩ [(3,6,oc a6)] (eN h (gg [] [0,1,2,4,5,6,7]))
   exact bq ⟨[(2,false),(6,false)],[]⟩ [(3,5,an a6),(6,6,oc a6)] (eN h (gg [] [0,1,2,4,5,6,7]))
  refine ab (G (au (aB (ah ?_))));obtain rfl:=sI h;exact RO [some Cs] [] [0,1,2,5,6,3] [(4,.adr 5 0 9 0)] (Hd d3 d2 N a5 B C D E I J L M) 6 3
 refine ae (ay (ab (G (au ?_))));obtain rfl:=sI h;exact RO [some Cs] [] [0,1,2,1,2,4] [(4,.adr 5 0 9 0)] (Hd d1 o1 o2 true 0 (0:Int) (0:Int) (0:Int) (0:Int) (0:Int) (0:Int) (0:Int)) 6 3
theorem kS:∀(n:Nat) (f:Bool) {j q:Int} {u:XZ} {v:Bool} {o1:QK} {o2:Qj} {e:ug×QK×Qj×Bool},eE n j q u v o1 o2=some e→gN Tryz.prog 117 [.adr 0 0 3 0,.agg [.u8 j,.u32 q,.p f (.slice (.tree .u8 .u32)) u]] (ER v o1 o2) (.agg [.bo e.1.1,.u64 e.1.2.1.1,.u64 e.1.2.1.2.1,.u64 e.1.2.1.2.2.1,.u64 e.1.2.1.2.2.2,.u64 e.1.2.2.1,.u64 e.1.2.2.2.1,.u64 e.1.2.2.2.2.1,.u64 e.1.2.2.2.2.2]) (Ma e.2.2.2 e.2.1 e.2.2.1)
 | 0,_,_,_,_,_,_,_,_,h=>by cases h
 | n+1,f,j,q,u,v,o1,o2,e,h=>pc (eE n) (kS n) f h
def qX(f j q u v z A B:Int):(Int)→Option ((Int)⊕((Unit)⊕(Bool))):=fun e =>
 (if(decide (e<4))=true then(if 0≤e∧e<((4:Nat):Int)then(if 0≤e∧e<((4:Nat):Int)then(if((bitsOf .and .u64 (([f,j,q,u]:QK).getD e.toNat 0) (([v,z,A,B]:QK).getD e.toNat 0)) != 0)=true then some (Sum.inr (Sum.inr true))
 else some (Sum.inl (i64.wrap (e+1))))else none)else none)
 else some (Sum.inr (Sum.inl ())))
def nX(e f j q u v z A:Int):Option (Bool) :=
 ((iter (qX e f j q u v z A) (0:Int)).bind fun(B:((Unit)⊕(Bool)))=>match B with
 | .inl _=>some false
 | .inr (C)=>some C)
theorem yY{j q u v z A B C:Int}{f:Bool}(h:nX j q u v z A B C=some f):
  Pure Tryz.prog 120 [.agg [.u64 j,.u64 q,.u64 u,.u64 v],.agg [.u64 z,.u64 A,.u64 B,.u64 C]] (aM (bg false [⟨.bool,f⟩])):=by
 refine PB Tryz.func120 (fun Bw w0=>?_);unfold nX at h;refine G (af (G (ak (kX h (fun J=>aA [(2,.adr 0 0 4 0),(3,.adr 1 0 4 0),(6,.i64 J)] (Nh j q u v z A B C) 2) (dL (fK Tryz.f120.ntmps 0 (fun _=>aA [] [] 0)) (gM tb Tryz.f120.results.toList (fun L=>[⟨.bool,L⟩]))) (gg [] [0,8]) (fun J o h=>?_) (fun N h e σ' M=>?_)))))
 ·unfold qX at h;refine G (af (aC h (fun O h=>?_) (fun O h=>?_)))
  ·refine ae (ab (af (ak (G ?_))));obtain⟨D,E,h⟩:=g2 h;refine GD a0 [(1,1,oc D),(4,4,oc E)] (aC h (fun V h=>?_) (fun V h=>?_))
   ·refine G (au ?_);obtain rfl:=sI h;refine aB (ah (bL (aN ?_)));exact bK (RI [.bool])
   refine ae (ay (ab (Ge ?_)));exact eB h (gg [] [0,1])
  refine aw (aR ?_);obtain rfl:=sI h;refine eo (bn ?_);exact bT (gg [] [])
 rcases N with _ | L
 ·obtain⟨rfl,I⟩:=M;refine cU ?_ I;refine az (ab (G (au ?_)));obtain rfl:=sI h;exact RI [.bool]
 obtain⟨rfl,X⟩:=M;refine aB (ah ?_);obtain rfl:=sI h;exact X
def iI(e f j q u:Int):Option Z2 :=
 (if ¬(64:Int)=0 then(if 0≤(i64.wrap (Int.tdiv e 64))∧(i64.wrap (Int.tdiv e 64))<((4:Nat):Int)then(if ¬(64:Int)=0 then(if 0≤(Int.tmod e 64)then(if 0≤(i64.wrap (Int.tdiv e 64))∧(i64.wrap (Int.tdiv e 64))<((4:Nat):Int)then some ((if(i64.wrap (Int.tdiv e 64)).toNat=0 then(bitsOf .or .u64 (([f,j,q,u]:QK).getD ((i64.wrap (Int.tdiv e 64)).toNat) 0) (u64.wrap (1*2 ^ (min (Int.tmod e 64).toNat u64.bits))))else f),(if(i64.wrap (Int.tdiv e 64)).toNat=1 then(bitsOf .or .u64 (([f,j,q,u]:QK).getD ((i64.wrap (Int.tdiv e 64)).toNat) 0) (u64.wrap (1*2 ^ (min (Int.tmod e 64).toNat u64.bits))))else j),(if(i64.wrap (Int.tdiv e 64)).toNat=2 then(bitsOf .or .u64 (([f,j,q,u]:QK).getD ((i64.wrap (Int.tdiv e 64)).toNat) 0) (u64.wrap (1*2 ^ (min (Int.tmod e 64).toNat u64.bits))))else q),(if(i64.wrap (Int.tdiv e 64)).toNat=3 then(bitsOf .or .u64 (([f,j,q,u]:QK).getD ((i64.wrap (Int.tdiv e 64)).toNat) 0) (u64.wrap (1*2 ^ (min (Int.tmod e 64).toNat u64.bits))))else u))else none)else none)else none)else none)else none)
theorem rq{e j q u v:Int}{f:Int×Int×Int×Int}(h:iI e j q u v=some f):
  gN Tryz.prog 121 [.adr 0 0 4 0,.i64 e] [(0,.box [.u64 j,.u64 q,.u64 u,.u64 v])] (.tup []) [(0,.box [.u64 f.1,.u64 f.2.1,.u64 f.2.2.1,.u64 f.2.2.2])]:=by
 refine OB Tryz.func121 (fun Bw w0=>?_);unfold iI at h;obtain⟨z,A,B,C,h⟩:=g4 h;obtain⟨D,h⟩:=aE h;refine mu a0 [(2,2,oc z),(4,4,oc A),(7,7,oc B),(8,8,oc C),(11,11,oc D)] ?_;obtain rfl:=sI h;exact(RO [] [] [0] [] [(0,.box [.u64 (if(i64.wrap (Int.tdiv e 64)).toNat=0 then(bitsOf .or .u64 (([j,q,u,v]:QK).getD ((i64.wrap (Int.tdiv e 64)).toNat) 0) (u64.wrap (1*2 ^ (min (Int.tmod e 64).toNat u64.bits))))else j),.u64 (if(i64.wrap (Int.tdiv e 64)).toNat=1 then(bitsOf .or .u64 (([j,q,u,v]:QK).getD ((i64.wrap (Int.tdiv e 64)).toNat) 0) (u64.wrap (1*2 ^ (min (Int.tmod e 64).toNat u64.bits))))else q),.u64 (if(i64.wrap (Int.tdiv e 64)).toNat=2 then(bitsOf .or .u64 (([j,q,u,v]:QK).getD ((i64.wrap (Int.tdiv e 64)).toNat) 0) (u64.wrap (1*2 ^ (min (Int.tmod e 64).toNat u64.bits))))else u),.u64 (if(i64.wrap (Int.tdiv e 64)).toNat=3 then(bitsOf .or .u64 (([j,q,u,v]:QK).getD ((i64.wrap (Int.tdiv e 64)).toNat) 0) (u64.wrap (1*2 ^ (min (Int.tmod e 64).toNat u64.bits))))else v)])] 1 1).normal
end
end Go.Proofs.YtbedjpdfkmfplaaGreatDoor.T
