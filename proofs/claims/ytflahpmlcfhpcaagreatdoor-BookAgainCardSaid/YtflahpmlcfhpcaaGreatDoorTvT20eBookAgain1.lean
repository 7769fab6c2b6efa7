import Derived.Test.YtflahpmlcfhpcaaGreatDoorTvT20e0
namespace Go.Proofs.YtflahpmlcfhpcaaGreatDoor.T
open Go Go.Tv Go.Proofs
open Go.IntKind (i64 u32 u64 u8)
noncomputable section
set_option maxRecDepth 100000
set_option maxHeartbeats 4000000
def fk  : Option (XK×XK×XK×XK×QX×QX×QX×Int×Int) :=
 some (([]:XK),([(10,10,2),(32,32,1)]:XK),([(32,126,1)]:XK),([]:XK),([99,108,97,115,115,32,79,59,32,109,97,121,32,79,32,47,32,79,59]:QX),([99,108,97,115,115,32,79,32,83,32,78,59,32,107,101,101,112,32,83,32,47,32,83,59,32,109,97,121,32,83,32,47,32,46,59,32,109,117,115,116,32,78,32,47,32,46,59,32,107,101,101,112,32,46,32,47,32,46,59]:QX),([]:QX),2,2)
theorem m5{e:XK×XK×XK×XK×QX×QX×QX×Int×Int}(h:fk=some e):
  Pure Tryz.prog 21 [] (aM (bk false [⟨Y7,e⟩])):=by
 refine PB Tryz.func21 (fun Bw w0=>?_);unfold fk at h;refine G (G (mi [.frzC 0 1,.frzC 0 2] (by kernel_rfl) (aw ?_)));obtain rfl:=sI h;exact RI [Y7]
def lX(f e:Int)(j:QX)(p p3 p4 p5 p6:Int)(o1:XQ):Option ((Unit)⊕(Int×Int)):=some (Sum.inr (f,e))
theorem mC(v:Value)(e a:Int)(w:World):
  Calls Tryz.prog 85 #[v,.int .i64 e,.int .i64 a] w fun r f=>r = .panicked [{ v:=aY 32 .i64 .i64 (e,a),recovered:=false }]∧f=w:=by
 go_enter Tryz.func85,Tryz.ntmps85;go_wp2
 exact⟨rfl,rfl,rfl⟩
theorem jW{j e:Int}{p:QX}{u p3 p4 p5 p6:Int}{o1:XQ}{f:(Unit)⊕(Int×Int)}(h:lX j e p u p3 p4 p5 p6 o1=some f):
  iQ Tryz.prog 85 [.adr 0 0 10 0,.i64 j,.i64 e] (Lq p u p3 p4 p5 p6 o1) (jZ (fun(q:Unit)=>(.tup [],[])) (aY 32 .i64 .i64) f):=by
 obtain rfl:=sI h;exact jK.Bc Tryz.func85 (by kernel_rfl) rfl (fun v w=>mC v _ _ w)
def ga(e:QX)(f:Int):Option (Int):=some (vl e f 0)
theorem kF(s:ByteArray)(c:Int)(w:World):
  Calls Tryz.prog 190 #[.string s,.int .u8 c] w fun e f=>e = .returned (.int .i64 (Lib.indexByte s.data.toList c.toNat.toUInt8))∧f=w:=by
 have hd:∀w,(callFunc 202 #[.string s,.int .u8 c]).run Tryz.prog w = .ok (.value (.int .i64 (Lib.indexByte s.data.toList c.toNat.toUInt8))) w:=fun w=>by rw[run_callFunc_extern (fn:=Tryz.f202) (e:=Extern.BytealgIndexByte.indexByte) Tryz.func202 (by kernel_rfl) rfl (by kernel_rfl) (by kernel_rfl),Lib.run_indexByteString];rfl
 go_enter Tryz.func190,Tryz.ntmps190;go_wp2
 go_ret
 exact⟨rfl,rfl⟩
theorem mu{f:QX}{j e:Int}(h:ga f j=some e):
  Pure Tryz.prog 190 [.st f,.u8 j] (aM (bk false [⟨(.int .i64),e⟩])):=by
 obtain rfl:=sI h;exact Pure.Jn Tryz.func190 (by kernel_rfl) rfl (fun s w=>kF s _ w)
def eV(e:QX)(f:Int):Option (Int) :=
 ((ga e f).bind fun j =>
 some j)
theorem jJ{f:QX}{j e:Int}(h:eV f j=some e):
  Pure Tryz.prog 167 [.st f,.u8 j] (aM (bk false [⟨(.int .i64),e⟩])):=by
 refine PB Tryz.func167 (fun Bw w0=>?_);unfold eV at h;refine G ?_;obtain⟨q,p,h⟩:=aj h;refine GP 2 (mu p) (aw ?_);obtain rfl:=sI h;exact RI [(.int .i64)]
def iC(e:Int):Option (Bool) :=
 (((if(e == 32)=true then some (true)
 else(if(e == 9)=true then some (true)
 else(if(e == 10)=true then some (true)
 else some ((e == 13)))))).bind fun v1=>some v1)
theorem vt{q:Int}{j:Bool}(h:iC q=some j):
  Pure Tryz.prog 168 [.u8 q] (aM (bk false [⟨.bool,j⟩])):=by
 refine PB Tryz.func168 (fun Bw w0=>?_);unfold iC at h;refine G (af (bn h (fun v1=>aA [(2,.bo v1)] [] 0) (fun v1 h=>?_) (fun v1 h=>?_)))
 ·rcases aL h with⟨e,h⟩ | ⟨e,h⟩
  ·exact bu ⟨[(2,true),(5,true)],[]⟩ [(3,5,oc e)] (eN h (gg [] []))
  rcases aL h with⟨f,h⟩ | ⟨f,h⟩
  ·exact bu ⟨[(2,false),(5,false),(6,true),(9,true)],[]⟩ [(3,4,an e),(5,5,oc e),(7,9,oc f)] (eN h (gg [] []))
  rcases aL h with⟨p,h⟩ | ⟨p,h⟩
  ·exact bu ⟨[(2,false),(5,false),(6,false),(9,false),(10,true),(13,true)],[]⟩ [(3,4,an e),(5,5,oc e),(7,8,an f),(9,9,oc f),(11,13,oc p)] (eN h (gg [] []))
  exact bu ⟨[(2,false),(5,false),(6,false),(9,false),(10,false),(13,false)],[]⟩ [(3,4,an e),(5,5,oc e),(7,8,an f),(9,9,oc f),(11,12,an p),(13,13,oc p)] (eN h (gg [] []))
 refine ab (aw ?_);obtain rfl:=sI h;exact RI [.bool]
def dD(e:Int):Option (Bool) :=
 (((if(e == 95)=true then some (true)
 else(if(decide (e≥97))=true then(if(decide (e≤122))=true then some (true)
 else(if(decide (e≥65))=true then(if(decide (e≤90))=true then some (true)
 else(if(decide (e≥48))=true then some ((decide (e≤57)))
 else some (false)))
 else(if(decide (e≥48))=true then some ((decide (e≤57)))
 else some (false))))
 else(if(decide (e≥65))=true then(if(decide (e≤90))=true then some (true)
 else(if(decide (e≥48))=true then some ((decide (e≤57)))
 else some (false)))
 else(if(decide (e≥48))=true then some ((decide (e≤57)))
 else some (false)))))).bind fun v1=>some v1)
theorem cY{D:Int}{C:Bool}(h:dD D=some C):
  Pure Tryz.prog 169 [.u8 D] (aM (bk false [⟨.bool,C⟩])):=by
 refine PB Tryz.func169 (fun Bw w0=>?_);unfold dD at h;refine G (af (bn h (fun v1=>aA [(2,.bo v1)] [] 0) (fun v1 h=>?_) (fun v1 h=>?_)))
 ·rcases aL h with⟨e,h⟩ | ⟨e,h⟩
  ·exact bu ⟨[(2,true),(9,true)],[]⟩ [(3,5,oc e),(8,9,oc e)] (eN h (gg [] []))
  rcases aL h with⟨f,h⟩ | ⟨f,h⟩
  ·rcases aL h with⟨j,h⟩ | ⟨j,h⟩
   ·exact bu ⟨[(2,false),(5,true),(8,true),(9,false),(10,true),(17,true)],[]⟩ [(3,5,an e),(6,7,an f),(8,8,oc (And.intro e f)),(9,9,oc e),(11,13,oc j),(16,17,oc j)] (eN h (gg [] []))
   rcases aL h with⟨p,h⟩ | ⟨p,h⟩
   ·rcases aL h with⟨q,h⟩ | ⟨q,h⟩
    ·exact bu ⟨[(2,false),(5,true),(8,true),(9,false),(10,false),(13,true),(16,true),(17,false),(18,true),(25,true)],[]⟩ [(3,5,an e),(6,7,an f),(8,8,oc (And.intro e f)),(9,9,oc e),(11,13,an j),(14,15,an p),(16,16,oc (And.intro j p)),(17,17,oc j),(19,21,oc q),(24,25,oc q)] (eN h (gg [] []))
    rcases aL h with⟨x,h⟩ | ⟨x,h⟩
    ·exact bu ⟨[(2,false),(5,true),(8,true),(9,false),(10,false),(13,true),(16,true),(17,false),(18,false),(21,true),(24,true),(25,false)],[]⟩ [(3,5,an e),(6,7,an f),(8,8,oc (And.intro e f)),(9,9,oc e),(11,13,an j),(14,15,an p),(16,16,oc (And.intro j p)),(17,17,oc j),(19,21,an q),(22,23,an x),(24,24,oc (And.intro q x)),(25,25,oc q)] (eN h (gg [] []))
    exact bu ⟨[(2,false),(5,true),(8,true),(9,false),(10,false),(13,true),(16,true),(17,false),(18,false),(21,false),(24,false),(25,false)],[]⟩ [(3,5,an e),(6,7,an f),(8,8,oc (And.intro e f)),(9,9,oc e),(11,13,an j),(14,15,an p),(16,16,oc (And.intro j p)),(17,17,oc j),(19,21,an q),(22,23,oc x),(24,24,oc (And.intro q x)),(25,25,oc q)] (eN h (gg [] []))
   rcases aL h with⟨A,h⟩ | ⟨A,h⟩
   ·exact bu ⟨[(2,false),(5,true),(8,true),(9,false),(10,false),(13,false),(16,false),(17,false),(21,true),(24,true)],[]⟩ [(3,5,an e),(6,7,an f),(8,8,oc (And.intro e f)),(9,9,oc e),(11,13,an j),(14,15,oc p),(16,16,oc (And.intro j p)),(17,17,oc j),(22,23,an A),(24,24,oc A)] (eN h (gg [] []))
   exact bu ⟨[(2,false),(5,true),(8,true),(9,false),(10,false),(13,false),(16,false),(17,false),(21,false),(24,false)],[]⟩ [(3,5,an e),(6,7,an f),(8,8,oc (And.intro e f)),(9,9,oc e),(11,13,an j),(14,15,oc p),(16,16,oc (And.intro j p)),(17,17,oc j),(22,24,oc A)] (eN h (gg [] []))
  rcases aL h with⟨u,h⟩ | ⟨u,h⟩
  ·rcases aL h with⟨v,h⟩ | ⟨v,h⟩
   ·exact bu ⟨[(2,false),(5,false),(8,false),(9,false),(13,true),(16,true),(18,true),(25,true)],[]⟩ [(3,5,an e),(6,7,oc f),(8,8,oc (And.intro e f)),(9,9,oc e),(14,15,an u),(16,16,oc u),(19,21,oc v),(24,25,oc v)] (eN h (gg [] []))
   rcases aL h with⟨z,h⟩ | ⟨z,h⟩
   ·exact bu ⟨[(2,false),(5,false),(8,false),(9,false),(13,true),(16,true),(18,false),(21,true),(24,true),(25,false)],[]⟩ [(3,5,an e),(6,7,oc f),(8,8,oc (And.intro e f)),(9,9,oc e),(14,15,an u),(16,16,oc u),(19,21,an v),(22,23,an z),(24,24,oc (And.intro v z)),(25,25,oc v)] (eN h (gg [] []))
   exact bu ⟨[(2,false),(5,false),(8,false),(9,false),(13,true),(16,true),(18,false),(21,false),(24,false),(25,false)],[]⟩ [(3,5,an e),(6,7,oc f),(8,8,oc (And.intro e f)),(9,9,oc e),(14,15,an u),(16,16,oc u),(19,21,an v),(22,23,oc z),(24,24,oc (And.intro v z)),(25,25,oc v)] (eN h (gg [] []))
  rcases aL h with⟨B,h⟩ | ⟨B,h⟩
  ·exact bu ⟨[(2,false),(5,false),(8,false),(9,false),(13,false),(16,false),(21,true),(24,true)],[]⟩ [(3,5,an e),(6,7,oc f),(8,8,oc (And.intro e f)),(9,9,oc e),(14,16,oc u),(22,23,an B),(24,24,oc B)] (eN h (gg [] []))
  exact bu ⟨[(2,false),(5,false),(8,false),(9,false),(13,false),(16,false),(21,false),(24,false)],[]⟩ [(3,5,an e),(6,7,oc f),(8,8,oc (And.intro e f)),(9,9,oc e),(14,16,oc u),(22,24,oc B)] (eN h (gg [] []))
 refine ab (aw ?_);obtain rfl:=sI h;exact RI [.bool]
def cv(f:QQ)(v1:QX):(Int)→Option ((Int)⊕((Unit)⊕(Int))):=fun e =>
 (if(decide (e<(f.length:Int)))=true then(if 0≤e∧e<(f.length:Int)then(if(v1 == (f.getD e.toNat []))=true then some (Sum.inr (Sum.inr e))
 else some (Sum.inl (i64.wrap (e+1))))else none)
 else some (Sum.inr (Sum.inl ())))
def cS(e:QQ)(v1:QX):Option (Int) :=
 ((iter (cv e v1) (0:Int)).bind fun(f:((Unit)⊕(Int)))=>match f with
 | .inl _=>some (-1:Int)
 | .inr (j)=>some j)
theorem jV(f:Bool){q:QQ}{v1:QX}{j:Int}(h:cS q v1=some j):
  Pure Tryz.prog 189 [.p f (.slice .str) q,.st v1] (aM (bk false [⟨(.int .i64),j⟩])):=by
 refine PB Tryz.func189 (fun Bw w0=>?_);unfold cS at h;refine G (af (G (ak (jT h (fun v=>aA [(0,.p f (.slice .str) q),(1,.st v1),(7,.i64 (q.length:Int)),(8,.i64 v)] [] 0) (dc (eO Tryz.f189.ntmps 0 (fun _=>aA [] [] 0)) (fQ tb Tryz.f189.results.toList (fun x=>[⟨(.int .i64),x⟩]))) (gg [] []) (fun v o h=>?_) (fun A h e σ' z=>?_)))))
 ·unfold cv at h;refine G (af (aC h (fun B h=>?_) (fun B h=>?_)))
  ·refine ae (ab (af (ak (G (GC 3 h (fun h=>aC h (fun C h=>?_) (fun C h=>?_)))))))
   ·refine G (aw ?_);obtain rfl:=sI h;refine az (ai (bG (aK ?_)));exact bH (RI [(.int .i64)])
   refine ae (ay (ab (Ge ?_)));exact eB h (gg [] [])
  refine au (aO ?_);obtain rfl:=sI h;refine dI (bf ?_);exact bM (gg [] [])
 rcases A with _ | x
 ·obtain⟨rfl,u⟩:=z;refine cz ?_ u;refine av (ab (G (aw ?_)));obtain rfl:=sI h;exact RI [(.int .i64)]
 obtain⟨rfl,D⟩:=z;refine az (ai ?_);obtain rfl:=sI h;exact D
def bc(f e:Int)(j:QX)(p p3 p4 p5 p6:Int)(o1:QQ)(o2:QK)(o3:XJ)(o4:XQ):Option ((Unit)⊕(Int×Int)):=some (Sum.inr (f,e))
theorem lu(v:Value)(e a:Int)(w:World):
  Calls Tryz.prog 85 #[v,.int .i64 e,.int .i64 a] w fun r f=>r = .panicked [{ v:=aY 32 .i64 .i64 (e,a),recovered:=false }]∧f=w:=by
 go_enter Tryz.func85,Tryz.ntmps85;go_wp2
 exact⟨rfl,rfl,rfl⟩
theorem aW{j e:Int}{p:QX}{u p3 p4 p5 p6:Int}{o1:QQ}{o2:QK}{o3:XJ}{o4:XQ}{f:(Unit)⊕(Int×Int)}(h:bc j e p u p3 p4 p5 p6 o1 o2 o3 o4=some f):
  iQ Tryz.prog 85 [.adr 0 0 10 0,.i64 j,.i64 e] (bO p u p3 p4 p5 p6 o1 o2 o3 o4) (jZ (fun(q:Unit)=>(.tup [],[])) (aY 32 .i64 .i64) f):=by
 obtain rfl:=sI h;exact jK.Bc Tryz.func85 (by kernel_rfl) rfl (fun v w=>lu v _ _ w)
def dK(f:QX)(D E I J:Int)(o1:QQ)(o2:QK)(o3:XJ)(o4:XQ):(Int)→Option ((Int)⊕((Int)⊕((Int×Int)⊕(Int×Int)))):=fun e =>
 (if(decide (e<(f.length:Int)))=true then(if 0≤e∧e<(f.length:Int)then(if(((f.getD e.toNat 0).toNat:Int) == 35)=true then(if 0≤e∧e≤(f.length:Int)∧(f.length:Int)≤(f.length:Int)then((eV ((f.take (f.length:Int).toNat).drop e.toNat) 10).bind fun j =>
 (((if(decide (j<0))=true then some ((i64.wrap ((f.length:Int) - e)))
 else some (j))).bind fun p=>some (Sum.inl (i64.wrap (e+p)))))else none)
 else((iC ((f.getD e.toNat 0).toNat:Int)).bind fun q =>
 (if q=true then some (Sum.inl (i64.wrap (e+1)))
 else((((dD ((f.getD e.toNat 0).toNat:Int)).bind fun u =>
 (if(!u)=true then((eV ([40,41,91,93,94,124,42,43,63,46,59,47,61]:QX) ((f.getD e.toNat 0).toNat:Int)).bind fun v =>
 some ((decide (v<0))))
 else some (false)))).bind fun z=>(if z=true then((bc 20 e f e D E I J o1 o2 o3 o4).bind fun(A:(Unit)⊕(Int×Int))=>match A with
 | .inr (B,C)=>some (Sum.inr (Sum.inr (Sum.inl (B,C))))
 | .inl _=>none)
 else some (Sum.inr (Sum.inr (Sum.inr (((f.getD e.toNat 0).toNat:Int),e)))))))))else none)
 else some (Sum.inr (Sum.inl e)))
def bj(v:QX)(z A B C D:Int)(o1:QQ)(o2:QK)(o3:XJ)(o4:XQ):Option ((Int×Int)⊕(Int×Int)) :=
 ((iter (dK v A B C D o1 o2 o3 o4) z).bind fun(e:((Int)⊕((Int×Int)⊕(Int×Int))))=>match e with
 | .inl f=>some (Sum.inl (0,f))
 | .inr (.inl (j,p))=>some (Sum.inr (j,p))
 | .inr (.inr ((q,u)))=>some (Sum.inl (q,u)))
theorem aP{u:QX}{d2 v x z A:Int}{o1:QQ}{o2:QK}{o3:XJ}{o4:XQ}{E:(Int×Int)⊕(Int×Int)}(h:bj u d2 v x z A o1 o2 o3 o4=some E):
  iQ Tryz.prog 123 [.adr 0 0 10 0] (bO u d2 v x z A o1 o2 o3 o4) (jZ (fun(q:Int×Int)=>(.u8 q.1,(bO u q.2 v x z A o1 o2 o3 o4))) (aY 32 .i64 .i64) E):=by
 refine DB Tryz.func123 (fun Bw w0=>?_);unfold bj at h;refine G (af (ak (jT h (fun j=>aA [(0,.adr 0 0 10 0)] (bO u j v x z A o1 o2 o3 o4) 5 5) (dc (eO Tryz.f123.ntmps 0 (fun B=>aA [] (bO u B v x z A o1 o2 o3 o4) 5 5)) (dc (rN (aY 32 .i64 .i64)) (Co tb Tryz.f123.ntmps Tryz.f123.results.toList (fun(I,J)=>(.u8 I,(bO u J v x z A o1 o2 o3 o4)))))) (gg [] [0,1,2,3,4]) (fun j o h=>?_) (fun N h e σ' O=>?_))))
 ·unfold dK at h;refine af (GD a0 [] (aC h (fun V h=>?_) (fun V h=>?_)))
  ·refine ae (ab (ak ?_));obtain⟨X,h⟩:=aE h;refine GD a0 [(8,8,oc X)] (G (aC h (fun Y h=>?_) (fun Y h=>?_)))
   ·obtain⟨Z,h⟩:=aE h;obtain⟨aa,a1,h⟩:=aj h;have f:=(jJ a1);refine GD ⟨[],[(9,(oP f))]⟩ [(8,8,oc Z),(9,9,oc f)] (af (G (bn h (fun C=>aA [(0,.adr 0 0 10 0),(4,.i64 C)] (bO u j v x z A o1 o2 o3 o4) 5 5) (fun C h=>?_) (fun C h=>?_))))
    ·refine aC h (fun a2 h=>?_) (fun a2 h=>?_)
     ·exact mZ a0 [] (eN h (gg [] [0,1,2,3,4]))
     exact ae (eN h (gg [] [0,1,2,3,4]))
    refine ab (Ge (ay ?_));exact eB h (gg [] [0,1,2,3,4])
   obtain⟨ac,a3,h⟩:=aj h;refine GP 1 (vt a3) (aC h (fun a4 h=>?_) (fun a4 h=>?_))
   ·refine Ge (ay ?_);exact eB h (gg [] [0,1,2,3,4])
   refine af (af (bn h (fun D=>aA [(0,.adr 0 0 10 0),(3,.u8 ((u.getD j.toNat 0).toNat:Int)),(72,.bo D)] (bO u j v x z A o1 o2 o3 o4) 5 5) (fun D h=>?_) (fun D h=>?_)))
   ·obtain⟨ad,L,h⟩:=aj h;rcases aL h with⟨p,h⟩ | ⟨p,h⟩
    ·obtain⟨ax,a5,h⟩:=aj h;have f:=(cY L);have M:=(jJ a5);exact bu ⟨[(3,true),(7,true)],[(1,(oP f)),(5,(oP M))]⟩ [(1,1,oc f),(4,4,an p),(5,5,oc (And.intro p M)),(6,6,an p),(7,7,oc p)] (eN h (gg [] [0,1,2,3,4]))
    have f:=(cY L);exact bu ⟨[(3,false),(7,false)],[(1,(oP f))]⟩ [(1,1,oc f),(4,7,oc p)] (eN h (gg [] [0,1,2,3,4]))
   refine ab (aC h (fun a6 h=>?_) (fun a6 h=>?_))
   ·obtain⟨a7,a8,h⟩:=aj h;rcases a7 with _ | ⟨b1,b2⟩
    ·cases h
    refine GX 5 [0,1,2,3,4] (aW a8) (fun _=>?_);obtain rfl:=sI h;refine aD (br (bY (aK (Bq ?_))));exact rfl
   refine ae (ab (G (aw ?_)));obtain rfl:=sI h;refine az (bG (aK (aK ?_)));exact xZ (RO [some (.int .u8)] [] [0,1,2,3,4] [(2,.u8 ((u.getD j.toNat 0).toNat:Int))] (bO u j v x z A o1 o2 o3 o4) 5 5)
  refine au (aO ?_);obtain rfl:=sI h;refine dI (bf ?_);exact bM (gg [] [0,1,2,3,4])
 rcases N with B | ⟨b3,b4⟩ | ⟨I,J⟩
 ·obtain⟨rfl,a9⟩:=O;refine cz ?_ a9;refine av (ab (G (aw ?_)));obtain rfl:=sI h;exact RO [some (.int .u8)] [] [0,1,2,3,4] [(2,.u8 0)] (bO u B v x z A o1 o2 o3 o4) 5 5
 ·obtain rfl:=O;refine br (aD ?_);obtain rfl:=sI h;exact rfl
 obtain⟨rfl,hr⟩:=O;refine az (ai ?_);obtain rfl:=sI h;exact hr
def dJ(f:QX):(Int)→Option ((Int)⊕(Int)):=fun e =>
 (((if(decide (e<(f.length:Int)))=true then(if 0≤e∧e<(f.length:Int)then((dD ((f.getD e.toNat 0).toNat:Int)).bind fun j =>
 some (j))else none)
 else some (false))).bind fun p=>(if p=true then some (Sum.inl (i64.wrap (e+1)))
 else some (Sum.inr e)))
def cf(j:QX)(A p3 p4 p5 p6:Int)(o1:QQ)(o2:QK)(o3:XJ)(o4:XQ):Option ((QX×Int×Int)⊕(Int×Int)) :=
 ((bj j A p3 p4 p5 p6 o1 o2 o3 o4).bind fun(B:(Int×Int)⊕(Int×Int))=>match B with
 | .inr (p,q)=>some (Sum.inr (p,q))
 | .inl (u,e)=>((dD u).bind fun v =>
 (if(!v)=true then((bc 21 e j e p3 p4 p5 p6 o1 o2 o3 o4).bind fun(C:(Unit)⊕(Int×Int))=>match C with
 | .inr (x,z)=>some (Sum.inr (x,z))
 | .inl _=>none)
 else((iter (dJ j) e).bind fun f=>(if 0≤e∧e≤f∧f≤(j.length:Int)then some (Sum.inl (((j.take f.toNat).drop e.toNat),e,f))else none)))))
theorem bA{u:QX}{N p3 p4 p5 p6:Int}{o1:QQ}{o2:QK}{o3:XJ}{o4:XQ}{x:(QX×Int×Int)⊕(Int×Int)}(h:cf u N p3 p4 p5 p6 o1 o2 o3 o4=some x):
  iQ Tryz.prog 124 [.adr 0 0 10 0] (bO u N p3 p4 p5 p6 o1 o2 o3 o4) (jZ (fun(q:QX×Int×Int)=>(.tup [.st q.1,.i64 q.2.1],(bO u q.2.2 p3 p4 p5 p6 o1 o2 o3 o4))) (aY 32 .i64 .i64) x):=by
 refine DB Tryz.func124 (fun Bw w0=>?_);unfold cf at h;refine G (af (af ?_));obtain⟨O,z,h⟩:=aj h;rcases O with⟨V,f⟩ | ⟨X,Y⟩
 ·obtain⟨Z,B,h⟩:=aj h;have j:=(aP z);have A:=(cY B);refine bu ⟨[],[(1,(oO j [0,1,2,3,4])),(2,(oP A))]⟩ [(1,1,oc j),(2,2,oc A)] (ab (aC h (fun C h=>?_) (fun C h=>?_)))
  ·obtain⟨z8,D,h⟩:=aj h;rcases z8 with _ | ⟨a1,a2⟩
   ·cases h
   refine GX 5 [0,1,2,3,4] (aW D) (fun _=>aD ?_);obtain rfl:=sI h;exact rfl
  refine ae (ab (G (af (ak (cH h (fun v=>aA [(0,.adr 0 0 10 0),(4,.i64 f)] (bO u v p3 p4 p5 p6 o1 o2 o3 o4) 5 5) 0 (fun p=>aA [(0,.adr 0 0 10 0),(4,.i64 f)] (bO u p p3 p4 p5 p6 o1 o2 o3 o4) 5 5) (gg [] [0,1,2,3,4]) (fun v o h=>?_) (fun p h=>?_))))))
  ·unfold dJ at h;refine af (af (bn h (fun E=>aA [(0,.adr 0 0 10 0),(4,.i64 f),(40,.bo E)] (bO u v p3 p4 p5 p6 o1 o2 o3 o4) 5 5) (fun E h=>?_) (fun E h=>?_)))
   ·rcases aL h with⟨e,h⟩ | ⟨e,h⟩
    ·obtain⟨I,h⟩:=aE h;obtain⟨a3,J,h⟩:=aj h;have j:=(cY J);exact mZ ⟨[(10,true),(21,true)],[(20,(oP j))]⟩ [(11,18,an e),(19,19,oc (And.intro e I)),(20,20,oc (And.intro e j)),(21,21,oc e)] (eN h (gg [] [0,1,2,3,4]))
    exact mZ ⟨[(10,false),(21,false)],[]⟩ [(11,21,oc e)] (eN h (gg [] [0,1,2,3,4]))
   refine ab (aC h (fun L h=>?_) (fun L h=>?_))
   ·refine ae (ab (ak (Ge (ay ?_))));exact eB h (gg [] [0,1,2,3,4])
   refine au (aO ?_);exact eX h (gg [] [0,1,2,3,4])
  refine av (ab ?_);obtain⟨M,h⟩:=aE h;refine GD a0 [(9,9,oc M)] (aw ?_);obtain rfl:=sI h;exact RO [some .str,some (.int .i64)] [] [0,1,2,3,4] [(2,.st ((u.take p.toNat).drop f.toNat)),(3,.i64 f)] (bO u p p3 p4 p5 p6 o1 o2 o3 o4) 5 5
 refine GX 1 [0,1,2,3,4] (aP z) (fun _=>aD (aD ?_));obtain rfl:=sI h;exact rfl
def bh(f:Int)(j:QX)(p p3 p4 p5 p6:Int)(o1:QQ)(o2:QK)(o3:XJ)(o4:XQ):Option ((Bool×Int)⊕(Int×Int)) :=
 ((bj j p p3 p4 p5 p6 o1 o2 o3 o4).bind fun(q:(Int×Int)⊕(Int×Int))=>match q with
 | .inr (u,v)=>some (Sum.inr (u,v))
 | .inl (x,e)=>(if(x != f)=true then some (Sum.inl (false,e))
 else some (Sum.inl (true,(i64.wrap (e+1))))))
theorem aJ{j:Int}{e:QX}{p p3 p4 p5 p6:Int}{o1:QQ}{o2:QK}{o3:XJ}{o4:XQ}{f:(Bool×Int)⊕(Int×Int)}(h:bh j e p p3 p4 p5 p6 o1 o2 o3 o4=some f):
  iQ Tryz.prog 162 [.adr 0 0 10 0,.u8 j] (bO e p p3 p4 p5 p6 o1 o2 o3 o4) (jZ (fun(q:Bool×Int)=>(.bo q.1,(bO e q.2 p3 p4 p5 p6 o1 o2 o3 o4))) (aY 32 .i64 .i64) f):=by
 refine DB Tryz.func162 (fun Bw w0=>?_);unfold bh at h;refine G (af (af ?_));obtain⟨x,u,h⟩:=aj h;rcases x with⟨A,v⟩ | ⟨B,C⟩
 ·refine jY 1 [0,1,2,3,4] (aP u) (ab (aC h (fun z h=>?_) (fun z h=>?_)))
  ·refine G (aw (ai ?_));obtain rfl:=sI h;exact RO [some .bool] [] [0,1,2,3,4] [(4,.bo false)] (bO e v p3 p4 p5 p6 o1 o2 o3 o4) 5 5
  refine ae (ab (G (G (aw ?_))));obtain rfl:=sI h;exact RO [some .bool] [] [0,1,2,3,4] [(4,.bo true)] (bO e (i64.wrap (v+1)) p3 p4 p5 p6 o1 o2 o3 o4) 5 5
 refine GX 1 [0,1,2,3,4] (aP u) (fun _=>aD (aD ?_));obtain rfl:=sI h;exact rfl
def dn(x:QX)(z p3 p4 p5 p6:Int)(o1:QQ)(o2:QK)(o3:XJ)(o4:XQ):Option (Z4⊕(Int×Int)) :=
 ((cf x z p3 p4 p5 p6 o1 o2 o3 o4).bind fun(A:(QX×Int×Int)⊕(Int×Int))=>match A with
 | .inr (j,p)=>some (Sum.inr (j,p))
 | .inl (e,q,f)=>(if((bg .str o4 e).isSome)=true then((bc 23 q x f p3 p4 p5 p6 o1 o2 o3 o4).bind fun(B:(Unit)⊕(Int×Int))=>match B with
 | .inr (u,v)=>some (Sum.inr (u,v))
 | .inl _=>none)
 else some (Sum.inl (e,f))))
theorem dF{f:QX}{u p3 p4 p5 p6:Int}{o1:QQ}{o2:QK}{o3:XJ}{o4:XQ}{e:Z4⊕(Int×Int)}(h:dn f u p3 p4 p5 p6 o1 o2 o3 o4=some e):
  iQ Tryz.prog 163 [.adr 0 0 10 0] (bO f u p3 p4 p5 p6 o1 o2 o3 o4) (jZ (fun(q:QX×Int)=>(.st q.1,(bO f q.2 p3 p4 p5 p6 o1 o2 o3 o4))) (aY 32 .i64 .i64) e):=by
 refine DB Tryz.func163 (fun Bw w0=>?_);unfold dn at h;refine G (af ?_);obtain⟨x,v,h⟩:=aj h;rcases x with⟨j,z,p⟩ | ⟨A,B⟩
 ·refine jY 1 [0,1,2,3,4] (bA v) (ab (af (G (G (aC h (fun C h=>?_) (fun C h=>?_))))))
  ·obtain⟨D,E,h⟩:=aj h;rcases D with _ | ⟨I,J⟩
   ·cases h
   refine GX 2 [0,1,2,3,4] (aW E) (fun _=>aD ?_);obtain rfl:=sI h;exact rfl
  refine ae (ab (G (aw ?_)));obtain rfl:=sI h;exact RO [some .str] [] [0,1,2,3,4] [(2,.st j)] (bO f p p3 p4 p5 p6 o1 o2 o3 o4) 5 5
 refine GX 1 [0,1,2,3,4] (bA v) (fun _=>aD ?_);obtain rfl:=sI h;exact rfl
def hU(z:QX)(A B C D:Int)(o3:XJ):(Int×QQ×QK×XQ)→Option ((Int×QQ×QK×XQ)⊕((Int×QQ×QK×XQ)⊕(Int×Int))):=fun(E,e,f,j) =>
 ((bh 59 z E A B C D e f o3 j).bind fun(I:(Bool×Int)⊕(Int×Int))=>match I with
 | .inr (J,L)=>some (Sum.inr (Sum.inr (J,L)))
 | .inl (M,q)=>(if(!M)=true then((bj z q A B C D e f o3 j).bind fun(N:(Int×Int)⊕(Int×Int))=>match N with
 | .inr (O,V)=>some (Sum.inr (Sum.inr (O,V)))
 | .inl (a3,u)=>((dn z u A B C D e f o3 j).bind fun(X:Z4⊕(Int×Int))=>match X with
 | .inr (Y,Z)=>some (Sum.inr (Sum.inr (Y,Z)))
 | .inl (p,v)=>(if(decide ((e.length:Int)≥24))=true then((bc 24 u z v A B C D e f o3 j).bind fun(a1:(Unit)⊕(Int×Int))=>match a1 with
 | .inr (a2,x)=>some (Sum.inr (Sum.inr (a2,x)))
 | .inl _=>none)
 else(if 0≤(e.length:Int)then(if(f.length+([(e.length:Int)]:QK).length)*8≤140737488355328∧f.length+([(e.length:Int)]:QK).length≤9223372036854775807 then(if(e.length+([p]:QQ).length)*16≤140737488355328∧e.length+([p]:QQ).length≤9223372036854775807 then some (Sum.inl (v,(e++([p]:QQ)),(f++([(e.length:Int)]:QK)),(cO .str j p (u32.wrap (1*2 ^ (min (e.length:Int).toNat u32.bits))))))else none)else none)else none))))
 else some (Sum.inr (Sum.inl (q,e,f,j)))))
def eA(q:QX)(u v x z A:Int)(o1:QQ)(o2:QK)(o3:XJ)(o4:XQ):Option ((Int×QQ×QK×XQ)⊕(Int×Int)) :=
 ((iter (hU q v x z A o3) (u,o1,o2,o4)).bind fun(e:((Int×QQ×QK×XQ)⊕(Int×Int)))=>match e with
 | .inl (B,v10,v11,f)=>some (Sum.inl (B,v10,v11,f))
 | .inr ((j,p))=>some (Sum.inr (j,p)))
theorem ib{j:QX}{d2 p u v x:Int}{o1:QQ}{o2:QK}{o3:XJ}{o4:XQ}{z:(Int×QQ×QK×XQ)⊕(Int×Int)}(h:eA j d2 p u v x o1 o2 o3 o4=some z):
  iQ Tryz.prog 119 [.adr 0 0 10 0] (bO j d2 p u v x o1 o2 o3 o4) (jZ (fun(q:Int×QQ×QK×XQ)=>(.tup [],(Im j q.1 p u v x o3 q.2.2.2 q.2.1 q.2.2.1))) (aY 32 .i64 .i64) z):=by
 refine DB Tryz.func119 (fun Bw w0=>?_);unfold eA at h;refine ak (jT h (fun(A,B,C,D)=>aA [(0,.adr 0 0 10 0)] (Im j A p u v x o3 D B C) 7 5) (dc (eO Tryz.f119.ntmps 0 (fun(L,v10,v11,f)=>aA [] (Im j L p u v x o3 f v10 v11) 7 5)) (rN (aY 32 .i64 .i64))) (gg [] [0,1,2,3,4,1,2]) (fun y o h=>?_) (fun M h e σ' hq=>?_))
 ·obtain⟨A,B,C,D⟩:=y;unfold hU at h;refine af (af ?_);obtain⟨N,E,h⟩:=aj h;rcases N with⟨a6,a7⟩ | ⟨a8,a9⟩
  ·refine jY 1 [0,5,6,3,4] (aJ E) (ab (aC h (fun O h=>?_) (fun O h=>?_)))
   ·refine ae (ab (ak (af ?_)));obtain⟨V,I,h⟩:=aj h;rcases V with⟨aa,ac⟩ | ⟨ad,ax⟩
    ·refine jY 1 [0,5,6,3,4] (aP I) (ab (G (af ?_)));obtain⟨X,J,h⟩:=aj h;rcases X with⟨b1,b2⟩ | ⟨b3,b4⟩
     ·refine jY 1 [0,5,6,3,4] (dF J) (ab (af (G (aC h (fun Y h=>?_) (fun Y h=>?_)))))
      ·obtain⟨Z,a1,h⟩:=aj h;rcases Z with _ | ⟨b5,a5⟩
       ·cases h
       refine GX 2 [0,5,6,3,4] (aW a1) (fun _=>?_);obtain rfl:=sI h;refine aD (br (bY (aK ?_)));exact rfl
      refine ae (ab ?_);obtain⟨a2,h⟩:=aE h;refine GD a0 [(11,11,oc a2)] ?_;obtain⟨a3,h⟩:=aE h;refine GD a0 [(13,13,oc a3)] (zB 8 h (fun h=>ay ?_));exact eB h (gg [] [0,1,2,3,4,479,375])
     refine GX 1 [0,5,6,3,4] (dF J) (fun _=>?_);obtain rfl:=sI h;refine aD (br (bY (aK ?_)));exact rfl
    refine GX 1 [0,5,6,3,4] (aP I) (fun _=>?_);obtain rfl:=sI h;refine aD (br (bY (aK ?_)));exact rfl
   refine au (aO ?_);obtain rfl:=sI h;refine dI (bf ?_);exact bM (gg [] [0,1,2,3,4,5,6])
  refine GX 1 [0,5,6,3,4] (aJ E) (fun _=>?_);obtain rfl:=sI h;refine aD (aD (bY (aK ?_)));exact rfl
 rcases M with⟨L,v10,v11,f⟩ | ⟨b6,b7⟩
 ·obtain⟨rfl,a4⟩:=hq;refine cz ?_ a4;refine av ?_;obtain rfl:=sI h;exact(RO [] [] [0,1,2,3,4,5,6] [] (Im j L p u v x o3 f v10 v11) 7 5).normal
 obtain rfl:=hq;refine br ?_;obtain rfl:=sI h;exact rfl
def bC(v:Int)(u:QX)(x p3 p4 p5 p6:Int)(o1:QQ)(o2:QK)(o3:XJ)(o4:XQ):Option ((Int)⊕(Int×Int)) :=
 ((bh v u x p3 p4 p5 p6 o1 o2 o3 o4).bind fun(z:(Bool×Int)⊕(Int×Int))=>match z with
 | .inr (e,f)=>some (Sum.inr (e,f))
 | .inl (A,j)=>(if(!A)=true then((bc 21 j u j p3 p4 p5 p6 o1 o2 o3 o4).bind fun(B:(Unit)⊕(Int×Int))=>match B with
 | .inr (p,q)=>some (Sum.inr (p,q))
 | .inl _=>none)
 else some (Sum.inl j)))
theorem aT{j:Int}{f:QX}{p p3 p4 p5 p6:Int}{o1:QQ}{o2:QK}{o3:XJ}{o4:XQ}{e:(Int)⊕(Int×Int)}(h:bC j f p p3 p4 p5 p6 o1 o2 o3 o4=some e):
  iQ Tryz.prog 164 [.adr 0 0 10 0,.u8 j] (bO f p p3 p4 p5 p6 o1 o2 o3 o4) (jZ (fun(q:Int)=>(.tup [],(bO f q p3 p4 p5 p6 o1 o2 o3 o4))) (aY 32 .i64 .i64) e):=by
 refine DB Tryz.func164 (fun Bw w0=>?_);unfold bC at h;refine af ?_;obtain⟨v,u,h⟩:=aj h;rcases v with⟨J,x⟩ | ⟨z,A⟩
 ·refine jY 2 [0,1,2,3,4] (aJ u) (ab (aC h (fun B h=>?_) (fun B h=>?_)))
  ·obtain⟨C,D,h⟩:=aj h;rcases C with _ | ⟨E,I⟩
   ·cases h
   refine GX 5 [0,1,2,3,4] (aW D) (fun _=>?_);obtain rfl:=sI h;exact rfl
  refine ae ?_;obtain rfl:=sI h;exact(RO [] [] [0,1,2,3,4] [] (bO f x p3 p4 p5 p6 o1 o2 o3 o4) 5 5).normal
 refine GX 2 [0,1,2,3,4] (aJ u) (fun _=>aD ?_);obtain rfl:=sI h;exact rfl
def dh(x:QX)(z p3 p4 p5 p6:Int)(o1:QQ)(o2:QK)(o3:XJ)(o4:XQ):Option ((Int×Int)⊕(Int×Int)) :=
 ((cf x z p3 p4 p5 p6 o1 o2 o3 o4).bind fun(A:(QX×Int×Int)⊕(Int×Int))=>match A with
 | .inr (j,p)=>some (Sum.inr (j,p))
 | .inl (e,q,f)=>(if((bg .str o4 e).isSome)=true then some (Sum.inl (((bg .str o4 e).getD 0),f))
 else((bc 22 q x f p3 p4 p5 p6 o1 o2 o3 o4).bind fun(B:(Unit)⊕(Int×Int))=>match B with
 | .inr (u,v)=>some (Sum.inr (u,v))
 | .inl _=>none)))
theorem dE{f:QX}{u p3 p4 p5 p6:Int}{o1:QQ}{o2:QK}{o3:XJ}{o4:XQ}{e:(Int×Int)⊕(Int×Int)}(h:dh f u p3 p4 p5 p6 o1 o2 o3 o4=some e):
  iQ Tryz.prog 188 [.adr 0 0 10 0] (bO f u p3 p4 p5 p6 o1 o2 o3 o4) (jZ (fun(q:Int×Int)=>(.u32 q.1,(bO f q.2 p3 p4 p5 p6 o1 o2 o3 o4))) (aY 32 .i64 .i64) e):=by
 refine DB Tryz.func188 (fun Bw w0=>?_);unfold dh at h;refine G (af ?_);obtain⟨x,v,h⟩:=aj h;rcases x with⟨j,z,p⟩ | ⟨A,B⟩
 ·refine jY 1 [0,1,2,3,4] (bA v) (ab (af (G (G (aC h (fun C h=>?_) (fun C h=>?_))))))
  ·refine G (aw (ai ?_));obtain rfl:=sI h;exact RO [some (.int .u32)] [] [0,1,2,3,4] [(2,.u32 ((bg .str o4 j).getD 0))] (bO f p p3 p4 p5 p6 o1 o2 o3 o4) 5 5
  refine ae (ab (af ?_));obtain⟨D,E,h⟩:=aj h;rcases D with _ | ⟨I,J⟩
  ·cases h
  refine GX 2 [0,1,2,3,4] (aW E) (fun _=>aD ?_);obtain rfl:=sI h;exact rfl
 refine GX 1 [0,1,2,3,4] (bA v) (fun _=>aD ?_);obtain rfl:=sI h;exact rfl
def eo(f:Int)(E:QX)(p3 p4 p5 p6:Int)(o1:QQ)(o2:QK)(o3:XJ)(o4:XQ):(Int×Int)→Option ((Int×Int)⊕((Int×Int)⊕(Int×Int))):=fun(p,e) =>
 ((bj E p p3 p4 p5 p6 o1 o2 o3 o4).bind fun(q:(Int×Int)⊕(Int×Int))=>match q with
 | .inr (u,v)=>some (Sum.inr (Sum.inr (u,v)))
 | .inl (x,j)=>(if(x != f)=true then((dh E j p3 p4 p5 p6 o1 o2 o3 o4).bind fun(z:(Int×Int)⊕(Int×Int))=>match z with
 | .inr (A,B)=>some (Sum.inr (Sum.inr (A,B)))
 | .inl (C,D)=>some (Sum.inl (D,(bitsOf .or .u32 e C))))
 else some (Sum.inr (Sum.inl (j,e)))))
def bJ(f:Int)(v:QX)(x p3 p4 p5 p6:Int)(o1:QQ)(o2:QK)(o3:XJ)(o4:XQ):Option ((Int×Int)⊕(Int×Int)) :=
 ((iter (eo f v p3 p4 p5 p6 o1 o2 o3 o4) (x,0)).bind fun(j:((Int×Int)⊕(Int×Int)))=>match j with
 | .inl (p,e)=>some (Sum.inl (e,(i64.wrap (p+1))))
 | .inr ((q,u))=>some (Sum.inr (q,u)))
theorem aI{j:Int}{v:QX}{J p3 p4 p5 p6:Int}{o1:QQ}{o2:QK}{o3:XJ}{o4:XQ}{x:(Int×Int)⊕(Int×Int)}(h:bJ j v J p3 p4 p5 p6 o1 o2 o3 o4=some x):
  iQ Tryz.prog 165 [.adr 0 0 10 0,.u8 j] (bO v J p3 p4 p5 p6 o1 o2 o3 o4) (jZ (fun(q:Int×Int)=>(.u32 q.1,(bO v q.2 p3 p4 p5 p6 o1 o2 o3 o4))) (aY 32 .i64 .i64) x):=by
 refine DB Tryz.func165 (fun Bw w0=>?_);unfold bJ at h;refine G (G (af (ak (jT h (fun(z,p)=>aA [(0,.adr 0 0 10 0),(1,.u8 j),(5,.u32 p)] (bO v z p3 p4 p5 p6 o1 o2 o3 o4) 5 5) (dc (eO Tryz.f165.ntmps 0 (fun(u,f)=>aA [(0,.adr 0 0 10 0),(5,.u32 f)] (bO v u p3 p4 p5 p6 o1 o2 o3 o4) 5 5)) (rN (aY 32 .i64 .i64))) (gg [] [0,1,2,3,4]) (fun y o h=>?_) (fun C h e σ' L=>?_)))))
 ·obtain⟨z,p⟩:=y;unfold eo at h;refine af (af ?_);obtain⟨D,A,h⟩:=aj h;rcases D with⟨M,N⟩ | ⟨O,V⟩
  ·refine jY 1 [0,1,2,3,4] (aP A) (ab (aC h (fun X h=>?_) (fun X h=>?_)))
   ·refine ae (ab (ak ?_));obtain⟨E,B,h⟩:=aj h;rcases E with⟨Y,Z⟩ | ⟨a1,a2⟩
    ·refine jY 2 [0,1,2,3,4] (dE B) (ay ?_);exact eB h (gg [] [0,1,2,3,4])
    refine GX 2 [0,1,2,3,4] (dE B) (fun _=>?_);obtain rfl:=sI h;refine br (bY (aK ?_));exact rfl
   refine au (aO ?_);obtain rfl:=sI h;refine dI (bf ?_);exact bM (gg [] [0,1,2,3,4])
  refine GX 1 [0,1,2,3,4] (aP A) (fun _=>?_);obtain rfl:=sI h;refine aD (aD (bY (aK ?_)));exact rfl
 rcases C with⟨u,f⟩ | ⟨a3,a4⟩
 ·obtain⟨rfl,I⟩:=L;refine cz ?_ I;refine av (ab (G (G (aw ?_))));obtain rfl:=sI h;exact RO [some (.int .u32)] [] [0,1,2,3,4] [(4,.u32 f)] (bO v (i64.wrap (u+1)) p3 p4 p5 p6 o1 o2 o3 o4) 5 5
 obtain rfl:=L;refine br (aD ?_);obtain rfl:=sI h;exact rfl
def fj(e:QX)(I p3 p4 p5 p6:Int)(o1:QQ)(o2:QK)(o3:XJ)(o4:XQ):Option ((Int×XQ)⊕(Int×Int)) :=
 ((dn e I p3 p4 p5 p6 o1 o2 o3 o4).bind fun(J:Z4⊕(Int×Int))=>match J with
 | .inr (f,j)=>some (Sum.inr (f,j))
 | .inl (p,q)=>((bC 61 e q p3 p4 p5 p6 o1 o2 o3 o4).bind fun(u:(Int)⊕(Int×Int))=>match u with
 | .inr (v,x)=>some (Sum.inr (v,x))
 | .inl z=>((bJ 59 e z p3 p4 p5 p6 o1 o2 o3 o4).bind fun(A:(Int×Int)⊕(Int×Int))=>match A with
 | .inr (B,C)=>some (Sum.inr (B,C))
 | .inl (D,E)=>some (Sum.inl (E,(cO .str o4 p D))))))
theorem iO{u:QX}{J p3 p4 p5 p6:Int}{o1:QQ}{o2:QK}{o3:XJ}{o4:XQ}{v:(Int×XQ)⊕(Int×Int)}(h:fj u J p3 p4 p5 p6 o1 o2 o3 o4=some v):
  iQ Tryz.prog 120 [.adr 0 0 10 0] (bO u J p3 p4 p5 p6 o1 o2 o3 o4) (jZ (fun(q:Int×XQ)=>(.tup [],(bO u q.1 p3 p4 p5 p6 o1 o2 o3 q.2))) (aY 32 .i64 .i64) v):=by
 refine DB Tryz.func120 (fun Bw w0=>?_);unfold fj at h;refine af ?_;obtain⟨M,L,h⟩:=aj h;rcases M with⟨x,N⟩ | ⟨O,V⟩
 ·refine jY 1 [0,1,2,3,4] (dF L) (ab (af ?_));obtain⟨D,z,h⟩:=aj h;rcases D with A | ⟨X,Y⟩
  ·refine jY 1 [0,1,2,3,4] (aT z) (ab ?_);obtain⟨E,p,h⟩:=aj h;rcases E with⟨B,C⟩ | ⟨f,j⟩
   ·have e:=(aI p);refine ox iP mixed ⟨[],[(6,(oO e [0,1,2,3,4]))]⟩ (.one 0 (.one 1 (.one 2 (.one 4 (.one 5 (.two 3 (.one 6 (.one 7 (.leaf))) 6 (.one 3 (.one 7 (.leaf))))))))) [([],[]),([],[]),([],[]),([0],[]),([],[]),([],[]),([0,1,2,3,4],[0,1,2,3,4,93,94,95,96,97,98,99,100]),([4],[4])] 2 [] [] [0,1,2,3,4] [] (bO u C p3 p4 p5 p6 o1 o2 o3 (cO .str o4 x B)) 5 5 (Ts 6 ((pO e)::(pO e)::(Ts 3 []))) (by kernel_rfl) (by kernel_rfl) (tr 6 ⟨e,e,(tr 3 tt)⟩) (fun _=>?_) (fun y I=>by cases I);obtain rfl:=sI h;exact(RO [] [] [0,1,2,3,4] [] (bO u C p3 p4 p5 p6 o1 o2 o3 (cO .str o4 x B)) 5 5).normal
   have e:=(aI p);refine ox iP mixed ⟨[],[(6,(oD e [0,1,2,3,4]))]⟩ (.one 0 (.one 1 (.one 2 (.one 4 (.one 5 (.twoD 3 (.dead 6) 6)))))) [([],[]),([],[]),([],[]),([0],[]),([],[]),([],[]),([0,1,2,3,4],[0,1,2,3,4,93,94,95,96,97,98,99,100]),([],[])] 0 [(aY 32 .i64 .i64 (f,j)),(aY 32 .i64 .i64 (f,j))] [] [0,1,2,3,4] [] [] 5 5 (Ts 6 [jK Tryz.prog 165 [.adr 0 0 10 0,.u8 59] (bO u A p3 p4 p5 p6 o1 o2 o3 o4) (aY 32 .i64 .i64 (f,j)),jK Tryz.prog 165 [.adr 0 0 10 0,.u8 59] (bO u A p3 p4 p5 p6 o1 o2 o3 o4) (aY 32 .i64 .i64 (f,j))]) (by kernel_rfl) (by kernel_rfl) (tr 6 ⟨(aI p),(aI p),tt⟩) (fun Z=>absurd rfl Z) (fun y I σ1=>?_);obtain rfl:y=(aY 32 .i64 .i64 (f,j)):=by simpa using I
   obtain rfl:=sI h;exact rfl
  refine GX 1 [0,1,2,3,4] (aT z) (fun _=>aD ?_);obtain rfl:=sI h;exact rfl
 refine GX 1 [0,1,2,3,4] (dF L) (fun _=>aD ?_);obtain rfl:=sI h;exact rfl
def eY(z:QX)(A p3 p4 p5 p6:Int)(o1:QQ)(o2:QK)(o3:XJ)(o4:XQ):Option (Z7⊕(Int×Int)) :=
 ((bJ 47 z A p3 p4 p5 p6 o1 o2 o3 o4).bind fun(B:(Int×Int)⊕(Int×Int))=>match B with
 | .inr (f,j)=>some (Sum.inr (f,j))
 | .inl (e,p)=>((bJ 59 z p (bitsOf .or .u32 p3 e) p4 p5 p6 o1 o2 o3 o4).bind fun(C:(Int×Int)⊕(Int×Int))=>match C with
 | .inr (q,u)=>some (Sum.inr (q,u))
 | .inl (v,x)=>some (Sum.inl (x,(bitsOf .or .u32 p3 e),(bitsOf .or .u32 p4 v)))))
theorem iJ{x:QX}{E p3 p4 p5 p6:Int}{o1:QQ}{o2:QK}{o3:XJ}{o4:XQ}{B:Z7⊕(Int×Int)}(h:eY x E p3 p4 p5 p6 o1 o2 o3 o4=some B):
  iQ Tryz.prog 121 [.adr 0 0 10 0] (bO x E p3 p4 p5 p6 o1 o2 o3 o4) (jZ (fun(q:Int×Int×Int)=>(.tup [],(bO x q.1 q.2.1 q.2.2 p5 p6 o1 o2 o3 o4))) (aY 32 .i64 .i64) B):=by
 refine DB Tryz.func121 (fun Bw w0=>?_);unfold eY at h;refine af ?_;obtain⟨M,I,h⟩:=aj h;rcases M with⟨f,z⟩ | ⟨j,p⟩
 ·have e:=(aI I);refine ox iP mixed ⟨[],[(6,(oO e [0,1,2,3,4]))]⟩ (.one 0 (.one 1 (.one 2 (.one 3 (.one 5 (.two 4 (.one 6 (.one 7 (.one 8 (.one 9 (.one 10 (.one 11 (.leaf))))))) 6 (.one 4 (.one 7 (.one 8 (.one 9 (.one 10 (.one 11 (.leaf))))))))))))) [([],[]),([],[]),([],[]),([],[]),([0],[]),([],[]),([0,1,2,3,4],[0,1,2,3,4,53,54,55,56,57,58,59,60]),([],[]),([],[]),([],[]),([],[]),([0],[0])] 2 [] [] [0,1,2,3,4] [(0,.adr 0 0 10 0)] (bO x z (bitsOf .or .u32 p3 f) p4 p5 p6 o1 o2 o3 o4) 5 5 (Ts 6 ((pO e)::(pO e)::(Ts 11 []))) (by kernel_rfl) (by kernel_rfl) (tr 6 ⟨e,e,(tr 11 tt)⟩) (fun _=>?_) (fun y A=>by cases A);refine ab ?_;obtain⟨N,J,h⟩:=aj h;rcases N with⟨C,D⟩ | ⟨u,v⟩
  ·have e:=(aI J);refine ox iP mixed ⟨[],[(6,(oO e [0,1,2,3,4]))]⟩ (.one 0 (.one 1 (.one 2 (.one 3 (.one 5 (.two 4 (.one 6 (.one 7 (.one 8 (.one 9 (.one 10 (.one 11 (.leaf))))))) 6 (.one 4 (.one 7 (.one 8 (.one 9 (.one 10 (.one 11 (.leaf))))))))))))) [([],[]),([],[]),([],[]),([],[]),([0],[]),([],[]),([0,1,2,3,4],[0,1,2,3,4,53,54,55,56,57,58,59,60]),([],[]),([],[]),([],[]),([],[]),([0],[0])] 2 [] [] [0,1,2,3,4] [] (bO x D (bitsOf .or .u32 p3 f) (bitsOf .or .u32 p4 C) p5 p6 o1 o2 o3 o4) 5 5 (Ts 6 ((pO e)::(pO e)::(Ts 11 []))) (by kernel_rfl) (by kernel_rfl) (tr 6 ⟨e,e,(tr 11 tt)⟩) (fun _=>?_) (fun y A=>by cases A);obtain rfl:=sI h;exact(RO [] [] [0,1,2,3,4] [] (bO x D (bitsOf .or .u32 p3 f) (bitsOf .or .u32 p4 C) p5 p6 o1 o2 o3 o4) 5 5).normal
  have e:=(aI J);refine ox iP mixed ⟨[],[(6,(oD e [0,1,2,3,4]))]⟩ (.one 0 (.one 1 (.one 2 (.one 3 (.one 5 (.twoD 4 (.dead 6) 6)))))) [([],[]),([],[]),([],[]),([],[]),([0],[]),([],[]),([0,1,2,3,4],[0,1,2,3,4,53,54,55,56,57,58,59,60]),([],[]),([],[]),([],[]),([],[]),([],[])] 0 [(aY 32 .i64 .i64 (u,v)),(aY 32 .i64 .i64 (u,v))] [] [0,1,2,3,4] [] [] 5 5 (Ts 6 [jK Tryz.prog 165 [.adr 0 0 10 0,.u8 59] (bO x z (bitsOf .or .u32 p3 f) p4 p5 p6 o1 o2 o3 o4) (aY 32 .i64 .i64 (u,v)),jK Tryz.prog 165 [.adr 0 0 10 0,.u8 59] (bO x z (bitsOf .or .u32 p3 f) p4 p5 p6 o1 o2 o3 o4) (aY 32 .i64 .i64 (u,v))]) (by kernel_rfl) (by kernel_rfl) (tr 6 ⟨(aI J),(aI J),tt⟩) (fun L=>absurd rfl L) (fun y A σ1=>?_);obtain rfl:y=(aY 32 .i64 .i64 (u,v)):=by simpa using A
  obtain rfl:=sI h;exact rfl
 have e:=(aI I);refine ox iP mixed ⟨[],[(6,(oD e [0,1,2,3,4]))]⟩ (.one 0 (.one 1 (.one 2 (.one 3 (.one 5 (.twoD 4 (.dead 6) 6)))))) [([],[]),([],[]),([],[]),([],[]),([0],[]),([],[]),([0,1,2,3,4],[0,1,2,3,4,53,54,55,56,57,58,59,60]),([],[]),([],[]),([],[]),([],[]),([],[])] 0 [(aY 32 .i64 .i64 (j,p)),(aY 32 .i64 .i64 (j,p))] [] [0,1,2,3,4] [] [] 5 5 (Ts 6 [jK Tryz.prog 165 [.adr 0 0 10 0,.u8 47] (bO x E p3 p4 p5 p6 o1 o2 o3 o4) (aY 32 .i64 .i64 (j,p)),jK Tryz.prog 165 [.adr 0 0 10 0,.u8 47] (bO x E p3 p4 p5 p6 o1 o2 o3 o4) (aY 32 .i64 .i64 (j,p))]) (by kernel_rfl) (by kernel_rfl) (tr 6 ⟨(aI I),(aI I),tt⟩) (fun L=>absurd rfl L) (fun y A σ1=>?_);obtain rfl:y=(aY 32 .i64 .i64 (j,p)):=by simpa using A
 refine aD ?_;obtain rfl:=sI h;exact rfl
def dO(z:QX)(A p3 p4 p5 p6:Int)(o1:QQ)(o2:QK)(o3:XJ)(o4:XQ):Option ((Int×Int)⊕(Int×Int)) :=
 ((cf z A p3 p4 p5 p6 o1 o2 o3 o4).bind fun(B:(QX×Int×Int)⊕(Int×Int))=>match B with
 | .inr (j,p)=>some (Sum.inr (j,p))
 | .inl (q,u,e)=>((cS o1 q).bind fun f =>
 (if(decide (f<0))=true then((bc 22 u z e p3 p4 p5 p6 o1 o2 o3 o4).bind fun(C:(Unit)⊕(Int×Int))=>match C with
 | .inr (v,x)=>some (Sum.inr (v,x))
 | .inl _=>none)
 else some (Sum.inl (f,e)))))
theorem cj{f:QX}{x p3 p4 p5 p6:Int}{o1:QQ}{o2:QK}{o3:XJ}{o4:XQ}{e:(Int×Int)⊕(Int×Int)}(h:dO f x p3 p4 p5 p6 o1 o2 o3 o4=some e):
  iQ Tryz.prog 166 [.adr 0 0 10 0] (bO f x p3 p4 p5 p6 o1 o2 o3 o4) (jZ (fun(q:Int×Int)=>(.i64 q.1,(bO f q.2 p3 p4 p5 p6 o1 o2 o3 o4))) (aY 32 .i64 .i64) e):=by
 refine DB Tryz.func166 (fun Bw w0=>?_);unfold dO at h;refine G (af ?_);obtain⟨A,z,h⟩:=aj h;rcases A with⟨B,C,j⟩ | ⟨D,E⟩
 ·refine jY 1 [0,1,2,3,4] (bA z) (ab ?_);obtain⟨p,u,h⟩:=aj h;refine GP 6 (jV true u) (af (G (aC h (fun I h=>?_) (fun I h=>?_))))
  ·obtain⟨J,v,h⟩:=aj h;rcases J with _ | ⟨L,M⟩
   ·cases h
   refine GX 2 [0,1,2,3,4] (aW v) (fun _=>aD ?_);obtain rfl:=sI h;exact rfl
  refine ae (ab (G (aw ?_)));obtain rfl:=sI h;exact RO [some (.int .i64)] [] [0,1,2,3,4] [(2,.i64 p)] (bO f j p3 p4 p5 p6 o1 o2 o3 o4) 5 5
 refine GX 1 [0,1,2,3,4] (bA z) (fun _=>aD ?_);obtain rfl:=sI h;exact rfl
def eF(j:QX)(O p3 p4 p5 p6:Int)(o1:QQ)(o2:QK)(o3:XJ)(o4:XQ):Option ((Int×QK)⊕(Int×Int)) :=
 ((dO j O p3 p4 p5 p6 o1 o2 o3 o4).bind fun(p:(Int×Int)⊕(Int×Int))=>match p with
 | .inr (q,u)=>some (Sum.inr (q,u))
 | .inl (e,v)=>((bC 61 j v p3 p4 p5 p6 o1 o2 o3 o4).bind fun(x:(Int)⊕(Int×Int))=>match x with
 | .inr (z,A)=>some (Sum.inr (z,A))
 | .inl B=>((dO j B p3 p4 p5 p6 o1 o2 o3 o4).bind fun(C:(Int×Int)⊕(Int×Int))=>match C with
 | .inr (D,E)=>some (Sum.inr (D,E))
 | .inl (f,I)=>(if 0≤e∧e<(o2.length:Int)then(if e.toNat<o2.length then((bC 59 j I p3 p4 p5 p6 o1 (o2.set e.toNat f) o3 o4).bind fun(J:(Int)⊕(Int×Int))=>match J with
 | .inr (L,M)=>some (Sum.inr (L,M))
 | .inl N=>some (Sum.inl (N,(o2.set e.toNat f))))else none)else none))))
theorem ij{v:QX}{V p3 p4 p5 p6:Int}{o1:QQ}{o2:QK}{o3:XJ}{o4:XQ}{x:(Int×QK)⊕(Int×Int)}(h:eF v V p3 p4 p5 p6 o1 o2 o3 o4=some x):
  iQ Tryz.prog 122 [.adr 0 0 10 0] (bO v V p3 p4 p5 p6 o1 o2 o3 o4) (jZ (fun(q:Int×QK)=>(.tup [],(bO v q.1 p3 p4 p5 p6 o1 q.2 o3 o4))) (aY 32 .i64 .i64) x):=by
 refine DB Tryz.func122 (fun Bw w0=>?_);unfold eF at h;refine af ?_;obtain⟨E,z,h⟩:=aj h;rcases E with⟨e,Z⟩ | ⟨a1,a2⟩
 ·refine jY 1 [0,1,2,3,4] (cj z) (ab (af ?_));obtain⟨I,A,h⟩:=aj h;rcases I with B | ⟨a3,a4⟩
  ·refine jY 1 [0,1,2,3,4] (aT A) (ab (af ?_));obtain⟨J,u,h⟩:=aj h;rcases J with⟨C,L⟩ | ⟨j,p⟩
   ·obtain⟨X,Y,h⟩:=g2 h;have f:=(cj u);refine ox iP mixed ⟨[],[(7,(oO f [0,1,2,3,4]))]⟩ (.one 0 (.one 1 (.one 2 (.one 3 (.one 5 (.one 6 (.two 4 (.one 7 (.one 8 (.one 9 (.leaf)))) 7 (.one 4 (.one 8 (.one 9 (.leaf))))))))))) [([],[]),([],[]),([],[]),([],[]),([0],[]),([],[]),([],[]),([0,1,2,3,4],[0,1,2,3,4,101,102,103,104,105,106,107,108]),([2],[]),([2],[2])] 2 [] [] [0,1,2,3,4] [(0,.adr 0 0 10 0)] (bO v L p3 p4 p5 p6 o1 (o2.set e.toNat C) o3 o4) 5 5 (Ts 7 [pO f,pO f,0≤e∧e<(o2.length:Int),e.toNat<o2.length,True,0≤e∧e<(o2.length:Int),e.toNat<o2.length]) (by kernel_rfl) (by kernel_rfl) (tr 7 ⟨f,f,X,Y,tt,X,Y,tt⟩) (fun _=>?_) (fun y M=>by cases M);refine ab ?_;obtain⟨N,D,h⟩:=aj h;rcases N with O | ⟨a5,a6⟩
    ·refine jY 1 [0,1,2,3,4] (aT D) ?_;obtain rfl:=sI h;exact(RO [] [] [0,1,2,3,4] [] (bO v O p3 p4 p5 p6 o1 (o2.set e.toNat C) o3 o4) 5 5).normal
    refine GX 1 [0,1,2,3,4] (aT D) (fun _=>?_);obtain rfl:=sI h;exact rfl
   have f:=(cj u);refine ox iP mixed ⟨[],[(7,(oD f [0,1,2,3,4]))]⟩ (.one 0 (.one 1 (.one 2 (.one 3 (.one 5 (.one 6 (.twoD 4 (.dead 7) 7))))))) [([],[]),([],[]),([],[]),([],[]),([0],[]),([],[]),([],[]),([0,1,2,3,4],[0,1,2,3,4,101,102,103,104,105,106,107,108]),([],[]),([],[])] 0 [(aY 32 .i64 .i64 (j,p)),(aY 32 .i64 .i64 (j,p))] [] [0,1,2,3,4] [] [] 5 5 (Ts 7 [jK Tryz.prog 166 [.adr 0 0 10 0] (bO v B p3 p4 p5 p6 o1 o2 o3 o4) (aY 32 .i64 .i64 (j,p)),jK Tryz.prog 166 [.adr 0 0 10 0] (bO v B p3 p4 p5 p6 o1 o2 o3 o4) (aY 32 .i64 .i64 (j,p))]) (by kernel_rfl) (by kernel_rfl) (tr 7 ⟨(cj u),(cj u),tt⟩) (fun h0=>absurd rfl h0) (fun y M σ1=>?_);obtain rfl:y=(aY 32 .i64 .i64 (j,p)):=by simpa using M
   refine aD ?_;obtain rfl:=sI h;exact rfl
  refine GX 1 [0,1,2,3,4] (aT A) (fun _=>aD ?_);obtain rfl:=sI h;exact rfl
 refine GX 1 [0,1,2,3,4] (cj z) (fun _=>aD ?_);obtain rfl:=sI h;exact rfl
def eE(e:QX→Int→Int→Int→Int→Int→QQ→QK→XJ→XQ→Option (oa⊕(Int×Int)))(p:QX)(d2 q u f j:Int)(o1:QQ)(o2:QK)(o3:XJ)(o4:XQ):Option (oa⊕(Int×Int)) :=
 ((bh 40 p d2 q u f j o1 o2 o3 o4).bind fun(a3:(Bool×Int)⊕(Int×Int))=>match a3 with
 | .inr (a4,a5)=>some (Sum.inr (a4,a5))
 | .inl (a6,v)=>(if a6=true then(if(decide ((i64.wrap (j+1)) > 16))=true then((bc 25 d2 p v q u f (i64.wrap (j+1)) o1 o2 o3 o4).bind fun(a7:(Unit)⊕(Int×Int))=>match a7 with
 | .inr (a8,a9)=>some (Sum.inr (a8,a9))
 | .inl _=>none)
 else((e p v q u f (i64.wrap (j+1)) o1 o2 o3 o4).bind fun(aa:oa⊕(Int×Int))=>match aa with
 | .inr (ac,ad)=>some (Sum.inr (ac,ad))
 | .inl (x,ax,z,A)=>((bC 41 p ax q u z A o1 o2 o3 o4).bind fun(b1:(Int)⊕(Int×Int))=>match b1 with
 | .inr (b2,b3)=>some (Sum.inr (b2,b3))
 | .inl b4=>some (Sum.inl ((Tree.node x.op x.set x.kids),b4,z,(i64.wrap (A - 1)))))))
 else(if(decide ((i64.wrap (f+1)) > 200))=true then((bc 26 d2 p v q u (i64.wrap (f+1)) j o1 o2 o3 o4).bind fun(b5:(Unit)⊕(Int×Int))=>match b5 with
 | .inr (b6,b7)=>some (Sum.inr (b6,b7))
 | .inl _=>none)
 else(if 0≤(o1.length:Int)then((bh 46 p v q u (i64.wrap (f+1)) j o1 o2 o3 o4).bind fun(b8:(Bool×Int)⊕(Int×Int))=>match b8 with
 | .inr (b9,be)=>some (Sum.inr (b9,be))
 | .inl (bi,B)=>(((if bi=true then some ((Sum.inl ((u32.wrap ((u32.wrap (1*2 ^ (min (o1.length:Int).toNat u32.bits))) - 1)),B)))
 else((bh 91 p B q u (i64.wrap (f+1)) j o1 o2 o3 o4).bind fun(bs:(Bool×Int)⊕(Int×Int))=>match bs with
 | .inr (C,D)=>some ((Sum.inr (C,D)))
 | .inl (bv,E)=>(if bv=true then((bh 94 p E q u (i64.wrap (f+1)) j o1 o2 o3 o4).bind fun(bx:(Bool×Int)⊕(Int×Int))=>match bx with
 | .inr (I,J)=>some ((Sum.inr (I,J)))
 | .inl (c1,c2)=>((bJ 93 p c2 q u (i64.wrap (f+1)) j o1 o2 o3 o4).bind fun(c3:(Int×Int)⊕(Int×Int))=>match c3 with
 | .inr (L,M)=>some ((Sum.inr (L,M)))
 | .inl (N,O)=>(if c1=true then some ((Sum.inl ((bitsOf .andNot .u32 (u32.wrap ((u32.wrap (1*2 ^ (min (o1.length:Int).toNat u32.bits))) - 1)) N),O)))
 else some ((Sum.inl (N,O))))))
 else((dh p E q u (i64.wrap (f+1)) j o1 o2 o3 o4).bind fun(c4:(Int×Int)⊕(Int×Int))=>match c4 with
 | .inr (V,X)=>some ((Sum.inr (V,X)))
 | .inl (Y,Z)=>some ((Sum.inl (Y,Z)))))))).bind fun(a1:((Int×Int)⊕(Int×Int)))=>match a1 with
 | .inl (v6,v7)=>some (Sum.inl ((Tree.node 1 v6 ([]:XX)),v7,(i64.wrap (f+1)),j))
 | .inr ((c5,a2))=>some (Sum.inr (c5,a2))))else none))))
theorem ia(j:QX→Int→Int→Int→Int→Int→QQ→QK→XJ→XQ→Option (oa⊕(Int×Int)))(f:∀ {X:QX} {p2 p3 p4 p5 p6:Int} {o1:QQ} {o2:QK} {o3:XJ} {o4:XQ} {u:oa⊕(Int×Int)},j X p2 p3 p4 p5 p6 o1 o2 o3 o4=some u→iQ Tryz.prog 170 [.adr 0 0 10 0] (bO X p2 p3 p4 p5 p6 o1 o2 o3 o4) (jZ (fun(q:Tree×Int×Int×Int)=>(.agg [.u8 q.1.op,.u32 q.1.set,.p false (.slice (.tree .u8 .u32)) q.1.kids],(bO X q.2.1 p3 p4 q.2.2.1 q.2.2.2 o1 o2 o3 o4))) (aY 32 .i64 .i64) u)){z:QX}{d2 A B O V:Int}{o1:QQ}{o2:QK}{o3:XJ}{o4:XQ}{u:oa⊕(Int×Int)}(h:eE j z d2 A B O V o1 o2 o3 o4=some u):
  iQ Tryz.prog 208 [.adr 0 0 10 0] (bO z d2 A B O V o1 o2 o3 o4) (jZ (fun(q:Tree×Int×Int×Int)=>(.agg [.u8 q.1.op,.u32 q.1.set,.p false (.slice (.tree .u8 .u32)) q.1.kids],(bO z q.2.1 A B q.2.2.1 q.2.2.2 o1 o2 o3 o4))) (aY 32 .i64 .i64) u):=by
 refine DB Tryz.func208 (fun Bw w0=>?_);unfold eE at h;refine G (G (af (af ?_)));obtain⟨Y,C,h⟩:=aj h;rcases Y with⟨c5,c6⟩ | ⟨c7,c8⟩
 ·refine jY 1 [0,1,2,3,4] (aJ C) (ab (aC h (fun Z h=>?_) (fun Z h=>?_)))
  ·refine af (G (G (aC h (fun a1 h=>?_) (fun a1 h=>?_))))
   ·obtain⟨a2,a3,h⟩:=aj h;rcases a2 with _ | ⟨c9,cc⟩
    ·cases h
    refine GX 2 [0,1,2,3,4] (aW a3) (fun _=>aD (aD ?_));obtain rfl:=sI h;exact rfl
   refine ae (ab (af ?_));obtain⟨a4,D,h⟩:=aj h;rcases a4 with⟨x,ch,a5,a6⟩ | ⟨cl,cp⟩
   ·refine jY 1 [0,1,2,3,4] (f D) (ab (af ?_));obtain⟨a7,E,h⟩:=aj h;rcases a7 with a8 | ⟨cs,cx⟩
    ·refine jY 1 [0,1,2,3,4] (aT E) (ab (G (G (aw (ai ?_)))));obtain rfl:=sI h;exact RO [some (.tree .u8 .u32)] [] [0,1,2,3,4,5] [(2,.adr 5 0 3 0)] (BN z a8 A B a5 (i64.wrap (a6 - 1)) o1 o2 o3 o4 x.op x.set x.kids) 6 5
    refine GX 1 [0,1,2,3,4] (aT E) (fun _=>aD (aD ?_));obtain rfl:=sI h;exact rfl
   refine GX 1 [0,1,2,3,4] (f D) (fun _=>aD (aD ?_));obtain rfl:=sI h;exact rfl
  refine ae (ab (af (G (G (aC h (fun a9 h=>?_) (fun a9 h=>?_))))))
  ·obtain⟨aa,ac,h⟩:=aj h;rcases aa with _ | ⟨d7,d8⟩
   ·cases h
   refine GX 2 [0,1,2,3,4] (aW ac) (fun _=>aD ?_);obtain rfl:=sI h;exact rfl
  refine ae (ab (G (GC 6 h (fun h=>af (ak (af ?_))))));obtain⟨ad,I,h⟩:=aj h;rcases ad with⟨d9,dd⟩ | ⟨de,di⟩
  ·refine jY 1 [0,1,2,3,4] (aJ I) (ab (CQ h (dc (nV Tryz.f208.ntmps (fun(v6,v7)=>aA [(2,.adr 5 0 3 0),(5,.adr 6 0 3 0)] (LK z v7 A B (i64.wrap (O+1)) V o1 o2 o3 o4 0 (0:Int) (1:Int) v6) 7 5)) (rN (aY 32 .i64 .i64))) (fun v h=>?_) (fun v h e σ' hq=>?_)))
   ·refine aC h (fun ax h=>?_) (fun ax h=>?_)
    ·refine Ge ?_;obtain rfl:=sI h;exact bf (cU (gg [] [0,1,2,3,4,5,181]))
    refine af ?_;obtain⟨b1,J,h⟩:=aj h;rcases b1 with⟨dk,dm⟩ | ⟨b8,b9⟩
    ·refine jY 1 [0,1,2,3,4] (aJ J) (ab (aC h (fun b2 h=>?_) (fun b2 h=>?_)))
     ·refine af ?_;obtain⟨b3,L,h⟩:=aj h;rcases b3 with⟨ds,dt⟩ | ⟨be,bi⟩
      ·refine jY 1 [0,1,2,3,4] (aJ L) (ab (af ?_));obtain⟨b4,M,h⟩:=aj h;rcases b4 with⟨du,e1⟩ | ⟨bs,bv⟩
       ·refine jY 1 [0,1,2,3,4] (aI M) (ab (G (aC h (fun b5 h=>?_) (fun b5 h=>?_))))
        ·refine Ge ?_;obtain rfl:=sI h;exact bf (cU (gg [] [0,1,2,3,4,5,181]))
        refine ae ?_;obtain rfl:=sI h;exact bf (cU (gg [] [0,1,2,3,4,5,181]))
       refine GX 1 [0,1,2,3,4] (aI M) (fun _=>?_);obtain rfl:=sI h;refine aD (aK ?_);exact rfl
      refine GX 1 [0,1,2,3,4] (aJ L) (fun _=>?_);obtain rfl:=sI h;refine aD (aK ?_);exact rfl
     obtain⟨b6,N,h⟩:=aj h;rcases b6 with⟨bx,c1⟩ | ⟨c2,c3⟩
     ·refine jY 1 [0,1,2,3,4] (dE N) ?_;obtain rfl:=sI h;exact bf (cU (gg [] [0,1,2,3,4,5,181]))
     refine GX 1 [0,1,2,3,4] (dE N) (fun _=>?_);obtain rfl:=sI h;exact aK (rfl)
    refine GX 1 [0,1,2,3,4] (aJ J) (fun _=>?_);obtain rfl:=sI h;refine aD (aK ?_);exact rfl
   rcases v with⟨v6,v7⟩ | ⟨e2,c4⟩
   ·obtain⟨rfl,b7⟩:=hq;refine cz ?_ b7;refine ay (ab (G (aw ?_)));obtain rfl:=sI h;exact RO [some (.tree .u8 .u32)] [] [0,1,2,3,4,5] [(2,.adr 5 0 3 0)] (KV z v7 A B (i64.wrap (O+1)) V o1 o2 o3 o4 1 v6) 6 5
   obtain rfl:=hq;refine br (aD ?_);obtain rfl:=sI h;exact rfl
  refine GX 1 [0,1,2,3,4] (aJ I) (fun _=>aD (br (aD ?_)));obtain rfl:=sI h;exact rfl
 refine GX 1 [0,1,2,3,4] (aJ C) (fun _=>aD (aD ?_));obtain rfl:=sI h;exact rfl
def hX(J:QX)(p3 p4:Int)(o1:QQ)(o2:QK)(o3:XJ)(o4:XQ)(f:Tree)(p q:Int):(Int×Int)→Option ((Int×Int)⊕((Int)⊕((Int×Int)⊕oa))):=fun(j,e) =>
 (if(decide (e<7))=true then(if 0≤e∧e<((7:Nat):Int)then(((if((([0,0,0,0,42,43,63]:QK).getD e.toNat 0) != 0)=true then((bh (([0,0,0,0,42,43,63]:QK).getD e.toNat 0) J j p3 p4 p q o1 o2 o3 o4).bind fun(v:(Bool×Int)⊕(Int×Int))=>match v with
 | .inr (x,z)=>some ((Sum.inr (x,z)))
 | .inl (A,B)=>some ((Sum.inl (B,A))))
 else some ((Sum.inl (j,false))))).bind fun(C:((Int×Bool)⊕(Int×Int)))=>match C with
 | .inl (u,D)=>(if D=true then some (Sum.inr (Sum.inr (Sum.inr ((Tree.node (u8.wrap e) (0:Int) ([(Tree.node f.op f.set f.kids)]:XX)),u,p,q))))
 else some (Sum.inl (u,(i64.wrap (e+1)))))
 | .inr ((E,I))=>some (Sum.inr (Sum.inr (Sum.inl (E,I)))))else none)
 else some (Sum.inr (Sum.inl j)))
def eC(e:QX→Int→Int→Int→Int→Int→QQ→QK→XJ→XQ→Option (oa⊕(Int×Int)))(L:QX)(M p3 p4 p5 p6:Int)(o1:QQ)(o2:QK)(o3:XJ)(o4:XQ):Option (oa⊕(Int×Int)) :=
 ((eE e L M p3 p4 p5 p6 o1 o2 o3 o4).bind fun(q:oa⊕(Int×Int))=>match q with
 | .inr (u,v)=>some (Sum.inr (u,v))
 | .inl (f,x,j,p)=>((iter (hX L p3 p4 o1 o2 o3 o4 f j p) (x,0)).bind fun(z:((Int)⊕((Int×Int)⊕oa)))=>match z with
 | .inl A=>some (Sum.inl ((Tree.node f.op f.set f.kids),A,j,p))
 | .inr (.inl (B,C))=>some (Sum.inr (B,C))
 | .inr (.inr ((D,E,I,J)))=>some (Sum.inl (D,E,I,J))))
theorem hZ(f:QX→Int→Int→Int→Int→Int→QQ→QK→XJ→XQ→Option (oa⊕(Int×Int)))(j:∀ {x:QX} {N p3 p4 p5 p6:Int} {o1:QQ} {o2:QK} {o3:XJ} {o4:XQ} {A:oa⊕(Int×Int)},f x N p3 p4 p5 p6 o1 o2 o3 o4=some A→iQ Tryz.prog 170 [.adr 0 0 10 0] (bO x N p3 p4 p5 p6 o1 o2 o3 o4) (jZ (fun(q:Tree×Int×Int×Int)=>(.agg [.u8 q.1.op,.u32 q.1.set,.p false (.slice (.tree .u8 .u32)) q.1.kids],(bO x q.2.1 p3 p4 q.2.2.1 q.2.2.2 o1 o2 o3 o4))) (aY 32 .i64 .i64) A)){x:QX}{N p3 p4 p5 p6:Int}{o1:QQ}{o2:QK}{o3:XJ}{o4:XQ}{A:oa⊕(Int×Int)}(h:eC f x N p3 p4 p5 p6 o1 o2 o3 o4=some A):
  iQ Tryz.prog 203 [.adr 0 0 10 0] (bO x N p3 p4 p5 p6 o1 o2 o3 o4) (jZ (fun(q:Tree×Int×Int×Int)=>(.agg [.u8 q.1.op,.u32 q.1.set,.p false (.slice (.tree .u8 .u32)) q.1.kids],(bO x q.2.1 p3 p4 q.2.2.1 q.2.2.2 o1 o2 o3 o4))) (aY 32 .i64 .i64) A):=by
 refine DB Tryz.func203 (fun Bw w0=>?_);unfold eC at h;refine G (af ?_);obtain⟨a4,O,h⟩:=aj h;rcases a4 with⟨u,a9,B,C⟩ | ⟨aa,ac⟩
 ·refine jY 1 [0,1,2,3,4] (ia f j O) (ab (af (G (ak ?_))));refine jT h (fun(V,D)=>aA [(0,.adr 0 0 10 0),(2,.adr 5 0 3 0),(3,.adr 6 0 3 0),(8,.agg [.u8 0,.u8 0,.u8 0,.u8 0,.u8 42,.u8 43,.u8 63]),(9,.i64 D)] (J9 x V p3 p4 B C o1 o2 o3 o4 0 (0:Int) u.op u.set u.kids) 7 5) (dc (eO Tryz.f203.ntmps 0 (fun I=>aA [(2,.adr 5 0 3 0),(3,.adr 6 0 3 0)] (J9 x I p3 p4 B C o1 o2 o3 o4 0 (0:Int) u.op u.set u.kids) 7 5)) (dc (rN (aY 32 .i64 .i64)) (Co tb Tryz.f203.ntmps Tryz.f203.results.toList (fun(E,X,Y,Z)=>(.agg [.u8 E.op,.u32 E.set,.p false (.slice (.tree .u8 .u32)) E.kids],(bO x X p3 p4 Y Z o1 o2 o3 o4)))))) (gg [] [0,1,2,3,4,5,29]) (fun y o h=>?_) (fun a5 h e σ' M=>?_)
  ·obtain⟨V,D⟩:=y;unfold hX at h;refine G (af (aC h (fun a6 h=>?_) (fun a6 h=>?_)))
   ·refine ae (ab (af (ak (GC 1 h (fun h=>af (CQ h (dc (nV Tryz.f203.ntmps (fun(J,a1)=>aA [(0,.adr 0 0 10 0),(2,.adr 5 0 3 0),(3,.adr 6 0 3 0),(4,.i64 D),(8,.agg [.u8 0,.u8 0,.u8 0,.u8 0,.u8 42,.u8 43,.u8 63]),(9,.i64 D),(19,.bo a1)] (J9 x J p3 p4 B C o1 o2 o3 o4 0 (0:Int) u.op u.set u.kids) 7 5)) (rN (aY 32 .i64 .i64))) (fun a2 h=>?_) (fun a2 h e σ' M=>?_)))))))
    ·rcases aL h with⟨v,h⟩ | ⟨v,h⟩
     ·obtain⟨a7,a3,h⟩:=aj h;rcases a7 with⟨ad,ax⟩ | ⟨b1,b2⟩
      ·have z:=(aJ a3);refine bu ⟨[(2,true),(6,true)],[(5,(oO z [0,1,2,3,4]))]⟩ [(3,4,an v),(5,5,oc (And.intro v z)),(6,6,oc v)] ?_;obtain rfl:=sI h;exact bf (cU (gg [] [0,1,2,3,4,5,6]))
      have z:=(aJ a3);refine MH z ⟨[(2,true)],[(5,(oD z [0,1,2,3,4]))]⟩ 5 [(3,4,an v),(5,5,oc (And.intro v z))] (fun _=>?_);obtain rfl:=sI h;exact aK (rfl)
     refine bu ⟨[(2,false),(6,false)],[]⟩ [(3,6,oc v)] ?_;obtain rfl:=sI h;exact bf (cU (gg [] [0,1,2,3,4,5,6]))
    rcases a2 with⟨J,a1⟩ | ⟨b3,b4⟩
    ·obtain⟨rfl,L⟩:=M;refine cz ?_ L;refine ab (aC h (fun a8 h=>?_) (fun a8 h=>?_))
     ·refine G (mi [.frzC 5 2] (by kernel_rfl) (aw ?_));obtain rfl:=sI h;refine az (ai (bG (aK (aK ?_))));exact xZ (RO [some (.tree .u8 .u32)] [] [0,1,2,3,4,5] [(2,.adr 5 0 3 0)] (BN x J p3 p4 B C o1 o2 o3 o4 (u8.wrap D) (0:Int) ([(Tree.node u.op u.set u.kids)]:XX)) 6 5)
     refine ae (ay (ab (Ge ?_)));exact eB h (gg [] [0,1,2,3,4,5,6])
    obtain rfl:=M;obtain rfl:=sI h;refine aD (br (aD (bY (aK (Bq ?_)))));exact rfl
   refine au (aO ?_);obtain rfl:=sI h;refine dI (bf ?_);exact bM (gg [] [0,1,2,3,4,5,6])
  rcases a5 with I | ⟨b5,b6⟩ | ⟨E,X,Y,Z⟩
  ·obtain⟨rfl,L⟩:=M;refine cz ?_ L;refine av (ab (G (aw ?_)));obtain rfl:=sI h;exact RO [some (.tree .u8 .u32)] [] [0,1,2,3,4,5] [(2,.adr 5 0 3 0)] (BN x I p3 p4 B C o1 o2 o3 o4 u.op u.set u.kids) 6 5
  ·obtain rfl:=M;refine br (aD ?_);obtain rfl:=sI h;exact rfl
  obtain⟨rfl,hr⟩:=M;refine az (ai ?_);obtain rfl:=sI h;exact hr
 refine GX 1 [0,1,2,3,4] (ia f j O) (fun _=>aD ?_);obtain rfl:=sI h;exact rfl
def jb(V:QX)(p3 p4:Int)(o1:QQ)(o2:QK)(o3:XJ)(o4:XQ)(e:QX→Int→Int→Int→Int→Int→QQ→QK→XJ→XQ→Option (oa⊕(Int×Int))):(Int×Int×Int×XX×Int)→Option ((Int×Int×Int×XX×Int)⊕((XX×Int×Int×Int)⊕(Int×Int))):=fun(j,p,q,z,A) =>
 ((((dD A).bind fun B =>
 (if B=true then some (true)
 else(if(A == 40)=true then some (true)
 else(if(A == 91)=true then some (true)
 else some ((A == 46))))))).bind fun C=>(if C=true then((eC e V j p3 p4 p q o1 o2 o3 o4).bind fun(D:oa⊕(Int×Int))=>match D with
 | .inr (E,I)=>some (Sum.inr (Sum.inr (E,I)))
 | .inl (f,J,u,v)=>(if(z.length+([(Tree.node f.op f.set f.kids)]:XX).length)*32≤140737488355328∧z.length+([(Tree.node f.op f.set f.kids)]:XX).length≤9223372036854775807 then((bj V J p3 p4 u v o1 o2 o3 o4).bind fun(L:(Int×Int)⊕(Int×Int))=>match L with
 | .inr (M,N)=>some (Sum.inr (Sum.inr (M,N)))
 | .inl (O,x)=>some (Sum.inl (x,u,v,(z++([(Tree.node f.op f.set f.kids)]:XX)),O)))else none))
 else some (Sum.inr (Sum.inl (z,j,p,q)))))
def dQ(e:QX→Int→Int→Int→Int→Int→QQ→QK→XJ→XQ→Option (oa⊕(Int×Int)))(E:QX)(I p3 p4 p5 p6:Int)(o1:QQ)(o2:QK)(o3:XJ)(o4:XQ):Option (oa⊕(Int×Int)) :=
 ((bj E I p3 p4 p5 p6 o1 o2 o3 o4).bind fun(v:(Int×Int)⊕(Int×Int))=>match v with
 | .inr (x,z)=>some (Sum.inr (x,z))
 | .inl (A,B)=>((iter (jb E p3 p4 o1 o2 o3 o4 e) (B,p5,p6,([]:XX),A)).bind fun(u:((XX×Int×Int×Int)⊕(Int×Int)))=>match u with
 | .inl (f,j,p,q)=>(if((f.length:Int) == 0)=true then some (Sum.inl ((Tree.node 0 (0:Int) ([]:XX)),j,p,q))
 else(if((f.length:Int) == 1)=true then(if 0≤(0:Int)∧0<(f.length:Int)then(if(0:Int).toNat<f.length then some (Sum.inl ((Tree.node ((f.getD ((0:Int).toNat) (Tree.node 0 0 [])).op) ((f.getD ((0:Int).toNat) (Tree.node 0 0 [])).set) ((f.getD ((0:Int).toNat) (Tree.node 0 0 [])).kids)),j,p,q))else none)else none)
 else some (Sum.inl ((Tree.node 2 (0:Int) f),j,p,q))))
 | .inr ((C,D))=>some (Sum.inr (C,D))))
theorem dT(f:QX→Int→Int→Int→Int→Int→QQ→QK→XJ→XQ→Option (oa⊕(Int×Int)))(j:∀ {x:QX} {V p3 p4 p5 p6:Int} {o1:QQ} {o2:QK} {o3:XJ} {o4:XQ} {A:oa⊕(Int×Int)},f x V p3 p4 p5 p6 o1 o2 o3 o4=some A→iQ Tryz.prog 170 [.adr 0 0 10 0] (bO x V p3 p4 p5 p6 o1 o2 o3 o4) (jZ (fun(q:Tree×Int×Int×Int)=>(.agg [.u8 q.1.op,.u32 q.1.set,.p false (.slice (.tree .u8 .u32)) q.1.kids],(bO x q.2.1 p3 p4 q.2.2.1 q.2.2.2 o1 o2 o3 o4))) (aY 32 .i64 .i64) A)){x:QX}{V p3 p4 p5 p6:Int}{o1:QQ}{o2:QK}{o3:XJ}{o4:XQ}{A:oa⊕(Int×Int)}(h:dQ f x V p3 p4 p5 p6 o1 o2 o3 o4=some A):
  iQ Tryz.prog 191 [.adr 0 0 10 0] (bO x V p3 p4 p5 p6 o1 o2 o3 o4) (jZ (fun(q:Tree×Int×Int×Int)=>(.agg [.u8 q.1.op,.u32 q.1.set,.p false (.slice (.tree .u8 .u32)) q.1.kids],(bO x q.2.1 p3 p4 q.2.2.1 q.2.2.2 o1 o2 o3 o4))) (aY 32 .i64 .i64) A):=by
 refine DB Tryz.func191 (fun Bw w0=>?_);unfold dQ at h;refine G (G (af (af ?_)));obtain⟨a2,X,h⟩:=aj h;rcases a2 with⟨ax,b1⟩ | ⟨b2,b3⟩
 ·refine jY 1 [0,1,2,3,4] (aP X) (ab (ak (jT h (fun(J,L,M,l5,c4)=>aA [(0,.adr 0 0 10 0),(2,.adr 5 0 3 0),(3,.sl 6),(4,.u8 c4)] (FU x J p3 p4 L M o1 o2 o3 o4 0 (0:Int) l5) 7 5) (dc (eO Tryz.f191.ntmps 0 (fun(O,B,C,D)=>aA [(2,.adr 5 0 3 0),(3,.sl 6)] (FU x B p3 p4 C D o1 o2 o3 o4 0 (0:Int) O) 7 5)) (rN (aY 32 .i64 .i64))) (gg [.nilS 3 45 183 (.tree .u8 .u32)] [0,1,2,3,4,5,45]) (fun y o h=>?_) (fun Y h e σ' hq=>?_))))
  ·obtain⟨J,L,M,l5,c4⟩:=y;unfold jb at h;refine af (af (bn h (fun N=>aA [(0,.adr 0 0 10 0),(2,.adr 5 0 3 0),(3,.sl 6),(20,.bo N)] (FU x J p3 p4 L M o1 o2 o3 o4 0 (0:Int) l5) 7 5) (fun N h=>?_) (fun N h=>?_)))
   ·obtain⟨b4,E,h⟩:=aj h;rcases aL h with⟨v,h⟩ | ⟨v,h⟩
    ·have u:=(cY E);exact bu ⟨[(2,true),(5,true)],[(1,(oP u))]⟩ [(1,1,oc u),(3,5,oc v)] (eN h (gg [] [0,1,2,3,4,5,6]))
    rcases aL h with⟨z,h⟩ | ⟨z,h⟩
    ·have u:=(cY E);exact bu ⟨[(2,false),(5,false),(6,true),(9,true)],[(1,(oP u))]⟩ [(1,1,oc u),(3,4,an v),(5,5,oc v),(7,9,oc z)] (eN h (gg [] [0,1,2,3,4,5,6]))
    rcases aL h with⟨I,h⟩ | ⟨I,h⟩
    ·have u:=(cY E);exact bu ⟨[(2,false),(5,false),(6,false),(9,false),(10,true),(13,true)],[(1,(oP u))]⟩ [(1,1,oc u),(3,4,an v),(5,5,oc v),(7,8,an z),(9,9,oc z),(11,13,oc I)] (eN h (gg [] [0,1,2,3,4,5,6]))
    have u:=(cY E);exact bu ⟨[(2,false),(5,false),(6,false),(9,false),(10,false),(13,false)],[(1,(oP u))]⟩ [(1,1,oc u),(3,4,an v),(5,5,oc v),(7,8,an z),(9,9,oc z),(11,12,an I),(13,13,oc I)] (eN h (gg [] [0,1,2,3,4,5,6]))
   refine ab (aC h (fun a3 h=>?_) (fun a3 h=>?_))
   ·refine ae (ab (af (ak ?_)));obtain⟨a4,Z,h⟩:=aj h;rcases a4 with⟨b5,b6,b7,b8⟩ | ⟨b9,be⟩
    ·obtain⟨a5,h⟩:=aE h;have u:=(hZ f j Z);refine bu ⟨[],[(2,(oO u [0,1,2,3,4]))]⟩ [(2,2,oc u),(4,4,oc a5)] (ay (ab ?_));obtain⟨a6,a1,h⟩:=aj h;rcases a6 with⟨bi,ad⟩ | ⟨bs,bv⟩
     ·exact jY 1 [0,1,2,3,4] (aP a1) (eB h (gg [] [0,1,2,3,4,5,39]))
     refine GX 1 [0,1,2,3,4] (aP a1) (fun _=>?_);obtain rfl:=sI h;refine bY (aK ?_);exact rfl
    refine GX 2 [0,1,2,3,4] (hZ f j Z) (fun _=>?_);obtain rfl:=sI h;refine br (aD (bY (aK ?_)));exact rfl
   refine au (aO ?_);obtain rfl:=sI h;refine dI (bf ?_);exact bM (gg [] [0,1,2,3,4,5,6])
  rcases Y with⟨O,B,C,D⟩ | ⟨bx,c1⟩
  ·obtain⟨rfl,a7⟩:=hq;refine cz ?_ a7;refine av (ab (af (G (ak (G (aC h (fun a8 h=>?_) (fun a8 h=>?_)))))))
   ·refine G (aw (az (ai ?_)));obtain rfl:=sI h;exact RO [some (.tree .u8 .u32)] [] [0,1,2,3,4,5] [(2,.adr 5 0 3 0)] (KV x B p3 p4 C D o1 o2 o3 o4 0 (0:Int)) 6 5
   refine G (aC h (fun a9 h=>?_) (fun a9 h=>?_))
   ·obtain⟨aa,ac,h⟩:=g2 h;refine GN a0 [(1,1,oc aa),(2,2,oc ac)] (aw (az (ai ?_)));obtain rfl:=sI h;exact RO [some (.tree .u8 .u32)] [] [0,1,2,3,4,5] [(2,.adr 5 0 3 0)] (BN x B p3 p4 C D o1 o2 o3 o4 ((O.getD ((0:Int).toNat) (Tree.node 0 0 [])).op) ((O.getD ((0:Int).toNat) (Tree.node 0 0 [])).set) ((O.getD ((0:Int).toNat) (Tree.node 0 0 [])).kids)) 6 5
   refine ae (ay (ab (G (mi [.frzC 5 2] (by kernel_rfl) (aw ?_)))));obtain rfl:=sI h;exact RO [some (.tree .u8 .u32)] [] [0,1,2,3,4,5] [(2,.adr 5 0 3 0)] (BN x B p3 p4 C D o1 o2 o3 o4 2 (0:Int) O) 6 5
  obtain rfl:=hq;refine br (aD ?_);obtain rfl:=sI h;exact rfl
 refine GX 1 [0,1,2,3,4] (aP X) (fun _=>aD (aD ?_));obtain rfl:=sI h;exact rfl
def gS(M:QX)(p3 p4:Int)(o1:QQ)(o2:QK)(o3:XJ)(o4:XQ)(e:QX→Int→Int→Int→Int→Int→QQ→QK→XJ→XQ→Option (oa⊕(Int×Int))):(Int×Int×Int×XX)→Option ((Int×Int×Int×XX)⊕((XX×Int×Int×Int)⊕(Int×Int))):=fun(I,q,u,j) =>
 ((bh 124 M I p3 p4 q u o1 o2 o3 o4).bind fun(J:(Bool×Int)⊕(Int×Int))=>match J with
 | .inr (v,x)=>some (Sum.inr (Sum.inr (v,x)))
 | .inl (z,p)=>(if z=true then((dQ e M p p3 p4 q u o1 o2 o3 o4).bind fun(L:oa⊕(Int×Int))=>match L with
 | .inr (A,B)=>some (Sum.inr (Sum.inr (A,B)))
 | .inl (f,C,D,E)=>(if(j.length+([(Tree.node f.op f.set f.kids)]:XX).length)*32≤140737488355328∧j.length+([(Tree.node f.op f.set f.kids)]:XX).length≤9223372036854775807 then some (Sum.inl (C,D,E,(j++([(Tree.node f.op f.set f.kids)]:XX))))else none))
 else some (Sum.inr (Sum.inl (j,p,q,u)))))
def fe(e:QX→Int→Int→Int→Int→Int→QQ→QK→XJ→XQ→Option (oa⊕(Int×Int)))(J:QX)(L p3 p4 p5 p6:Int)(o1:QQ)(o2:QK)(o3:XJ)(o4:XQ):Option (oa⊕(Int×Int)) :=
 ((dQ e J L p3 p4 p5 p6 o1 o2 o3 o4).bind fun(D:oa⊕(Int×Int))=>match D with
 | .inr (E,I)=>some (Sum.inr (E,I))
 | .inl (j,p,q,u)=>((iter (gS J p3 p4 o1 o2 o3 o4 e) (p,q,u,([(Tree.node j.op j.set j.kids)]:XX))).bind fun(v:((XX×Int×Int×Int)⊕(Int×Int)))=>match v with
 | .inl (f,x,z,A)=>(if((f.length:Int) == 1)=true then(if 0≤(0:Int)∧0<(f.length:Int)then(if(0:Int).toNat<f.length then some (Sum.inl ((Tree.node ((f.getD ((0:Int).toNat) (Tree.node 0 0 [])).op) ((f.getD ((0:Int).toNat) (Tree.node 0 0 [])).set) ((f.getD ((0:Int).toNat) (Tree.node 0 0 [])).kids)),x,z,A))else none)else none)
 else some (Sum.inl ((Tree.node 3 (0:Int) f),x,z,A)))
 | .inr ((B,C))=>some (Sum.inr (B,C))))
def bN:Nat→QX→Int→Int→Int→Int→Int→QQ→QK→XJ→XQ→Option (oa⊕(Int×Int))
 | 0=>fun _ _ _ _ _ _ _ _ _ _=>none
 | n+1=>fe (bN n)
theorem kA(f:QX→Int→Int→Int→Int→Int→QQ→QK→XJ→XQ→Option (oa⊕(Int×Int)))(j:∀ {v:QX} {C p3 p4 p5 p6:Int} {o1:QQ} {o2:QK} {o3:XJ} {o4:XQ} {x:oa⊕(Int×Int)},f v C p3 p4 p5 p6 o1 o2 o3 o4=some x→iQ Tryz.prog 170 [.adr 0 0 10 0] (bO v C p3 p4 p5 p6 o1 o2 o3 o4) (jZ (fun(q:Tree×Int×Int×Int)=>(.agg [.u8 q.1.op,.u32 q.1.set,.p false (.slice (.tree .u8 .u32)) q.1.kids],(bO v q.2.1 p3 p4 q.2.2.1 q.2.2.2 o1 o2 o3 o4))) (aY 32 .i64 .i64) x)){v:QX}{C p3 p4 p5 p6:Int}{o1:QQ}{o2:QK}{o3:XJ}{o4:XQ}{x:oa⊕(Int×Int)}(h:fe f v C p3 p4 p5 p6 o1 o2 o3 o4=some x):
  iQ Tryz.prog 170 [.adr 0 0 10 0] (bO v C p3 p4 p5 p6 o1 o2 o3 o4) (jZ (fun(q:Tree×Int×Int×Int)=>(.agg [.u8 q.1.op,.u32 q.1.set,.p false (.slice (.tree .u8 .u32)) q.1.kids],(bO v q.2.1 p3 p4 q.2.2.1 q.2.2.2 o1 o2 o3 o4))) (aY 32 .i64 .i64) x):=by
 refine DB Tryz.func170 (fun Bw w0=>?_);unfold fe at h;refine G (af ?_);obtain⟨X,D,h⟩:=aj h;rcases X with⟨a7,a8,a9,aa⟩ | ⟨be,bi⟩
 ·refine jY 1 [0,1,2,3,4] (dT f j D) (ab (af (ak (jT h (fun(E,I,J,L)=>aA [(0,.adr 0 0 10 0),(2,.adr 5 0 3 0),(3,.sl 6)] (FU v E p3 p4 I J o1 o2 o3 o4 0 (0:Int) L) 7 5) (dc (eO Tryz.f170.ntmps 0 (fun(u,z,A,B)=>aA [(2,.adr 5 0 3 0),(3,.sl 6)] (FU v z p3 p4 A B o1 o2 o3 o4 0 (0:Int) u) 7 5)) (rN (aY 32 .i64 .i64))) (gg [] [0,1,2,3,4,5,29]) (fun y o h=>?_) (fun M h e σ' hq=>?_)))))
  ·obtain⟨E,I,J,L⟩:=y;unfold gS at h;refine af (af ?_);obtain⟨Y,N,h⟩:=aj h;rcases Y with⟨ac,ad⟩ | ⟨ax,b1⟩
   ·refine jY 1 [0,1,2,3,4] (aJ N) (ab (aC h (fun Z h=>?_) (fun Z h=>?_)))
    ·refine ae (ab (ak ?_));obtain⟨a1,O,h⟩:=aj h;rcases a1 with⟨b2,b3,b4,b5⟩ | ⟨b6,b7⟩
     ·obtain⟨a2,h⟩:=aE h;have V:=(dT f j O);refine bu ⟨[],[(2,(oO V [0,1,2,3,4]))]⟩ [(2,2,oc V),(4,4,oc a2)] (ay ?_);exact eB h (gg [] [0,1,2,3,4,5,55])
     refine GX 2 [0,1,2,3,4] (dT f j O) (fun _=>?_);obtain rfl:=sI h;refine br (bY (aK ?_));exact rfl
    refine au (aO ?_);obtain rfl:=sI h;refine dI (bf ?_);exact bM (gg [] [0,1,2,3,4,5,6])
   refine GX 1 [0,1,2,3,4] (aJ N) (fun _=>?_);obtain rfl:=sI h;refine aD (aD (bY (aK ?_)));exact rfl
  rcases M with⟨u,z,A,B⟩ | ⟨b8,b9⟩
  ·obtain⟨rfl,a3⟩:=hq;refine cz ?_ a3;refine av (ab (af (G (aC h (fun a4 h=>?_) (fun a4 h=>?_)))))
   ·obtain⟨a5,a6,h⟩:=g2 h;refine GN a0 [(1,1,oc a5),(2,2,oc a6)] (aw (ai ?_));obtain rfl:=sI h;exact RO [some (.tree .u8 .u32)] [] [0,1,2,3,4,5] [(2,.adr 5 0 3 0)] (BN v z p3 p4 A B o1 o2 o3 o4 ((u.getD ((0:Int).toNat) (Tree.node 0 0 [])).op) ((u.getD ((0:Int).toNat) (Tree.node 0 0 [])).set) ((u.getD ((0:Int).toNat) (Tree.node 0 0 [])).kids)) 6 5
   refine ae (ab (G (mi [.frzC 5 2] (by kernel_rfl) (aw ?_))));obtain rfl:=sI h;exact RO [some (.tree .u8 .u32)] [] [0,1,2,3,4,5] [(2,.adr 5 0 3 0)] (BN v z p3 p4 A B o1 o2 o3 o4 3 (0:Int) u) 6 5
  obtain rfl:=hq;refine br (aD ?_);obtain rfl:=sI h;exact rfl
 refine GX 1 [0,1,2,3,4] (dT f j D) (fun _=>aD ?_);obtain rfl:=sI h;exact rfl
theorem ck:∀(n:Nat) {f:QX} {j p3 p4 p5 p6:Int} {o1:QQ} {o2:QK} {o3:XJ} {o4:XQ} {e:oa⊕(Int×Int)},bN n f j p3 p4 p5 p6 o1 o2 o3 o4=some e→iQ Tryz.prog 170 [.adr 0 0 10 0] (bO f j p3 p4 p5 p6 o1 o2 o3 o4) (jZ (fun(q:Tree×Int×Int×Int)=>(.agg [.u8 q.1.op,.u32 q.1.set,.p false (.slice (.tree .u8 .u32)) q.1.kids],(bO f q.2.1 p3 p4 q.2.2.1 q.2.2.2 o1 o2 o3 o4))) (aY 32 .i64 .i64) e)
 | 0,_,_,_,_,_,_,_,_,_,_,_,h=>by cases h
 | n+1,f,j,p3,p4,p5,p6,o1,o2,o3,o4,e,h=>kA (bN n) (ck n)  h
def eR(j z:Int)(p:QX)(p2 p3 p4 p5 p6:Int)(o1:QQ)(o2:QK)(o3:XJ)(o4:XQ):Option ((Int×XJ×Int×Int)⊕(Int×Int)) :=
 (if(decide ((o3.length:Int)≥24))=true then((bc 24 z p p2 p3 p4 p5 p6 o1 o2 o3 o4).bind fun(A:(Unit)⊕(Int×Int))=>match A with
 | .inr (B,C)=>some (Sum.inr (B,C))
 | .inl _=>none)
 else((bN 1000 p p2 p3 p4 p5 p6 o1 o2 o3 o4).bind fun(D:oa⊕(Int×Int))=>match D with
 | .inr (E,I)=>some (Sum.inr (E,I))
 | .inl (e,J,q,u)=>((bC 47 p J p3 p4 q u o1 o2 o3 o4).bind fun(L:(Int)⊕(Int×Int))=>match L with
 | .inr (M,N)=>some (Sum.inr (M,N))
 | .inl O=>((bN 1000 p O p3 p4 q u o1 o2 o3 o4).bind fun(V:oa⊕(Int×Int))=>match V with
 | .inr (X,Y)=>some (Sum.inr (X,Y))
 | .inl (f,Z,v,x)=>((bC 59 p Z p3 p4 v x o1 o2 o3 o4).bind fun(a1:(Int)⊕(Int×Int))=>match a1 with
 | .inr (a2,a3)=>some (Sum.inr (a2,a3))
 | .inl a4=>(if(o3.length+([(j,(Tree.node e.op e.set e.kids),(Tree.node f.op f.set f.kids))]:XJ).length)*72≤140737488355328∧o3.length+([(j,(Tree.node e.op e.set e.kids),(Tree.node f.op f.set f.kids))]:XJ).length≤9223372036854775807 then some (Sum.inl (a4,(o3++([(j,(Tree.node e.op e.set e.kids),(Tree.node f.op f.set f.kids))]:XJ)),v,x))else none))))))
theorem iD{e p:Int}{B:QX}{V p3 p4 p5 p6:Int}{o1:QQ}{o2:QK}{o3:XJ}{o4:XQ}{u:(Int×XJ×Int×Int)⊕(Int×Int)}(h:eR e p B V p3 p4 p5 p6 o1 o2 o3 o4=some u):
  iQ Tryz.prog 125 [.adr 0 0 10 0,.u8 e,.i64 p] (bO B V p3 p4 p5 p6 o1 o2 o3 o4) (jZ (fun(q:Int×XJ×Int×Int)=>(.tup [],(K9 B q.1 p3 p4 q.2.2.1 q.2.2.2 o1 o2 o4 q.2.1))) (aY 32 .i64 .i64) u):=by
 refine DB Tryz.func125 (fun Bw w0=>?_);unfold eR at h;refine af (G (aC h (fun X h=>?_) (fun X h=>?_)))
 ·obtain⟨C,D,h⟩:=aj h;rcases C with _ | ⟨Y,Z⟩
  ·cases h
  refine GX 2 [0,1,2,3,4] (aW D) (fun _=>aD ?_);obtain rfl:=sI h;exact rfl
 refine ae (ab (G (af ?_)));obtain⟨E,v,h⟩:=aj h;rcases E with⟨f,a1,a2,a3⟩ | ⟨a4,a5⟩
 ·refine jY 1 [0,1,2,3,4] (ck 1000 v) (ab (af ?_));obtain⟨I,x,h⟩:=aj h;rcases I with a6 | ⟨a7,a8⟩
  ·refine jY 1 [0,1,2,3,4] (aT x) (ab (af ?_));obtain⟨J,z,h⟩:=aj h;rcases J with⟨j,a9,L,M⟩ | ⟨aa,ac⟩
   ·refine jY 1 [0,1,2,3,4] (ck 1000 z) (ab (af ?_));obtain⟨N,A,h⟩:=aj h;rcases N with O | ⟨ad,ax⟩
    ·refine jY 1 [0,1,2,3,4] (aT A) (ab ?_);obtain⟨c4,h⟩:=aE h;refine mZ a0 [(8,8,oc c4)] ?_;obtain rfl:=sI h;exact(RO [] [] [0,1,2,3,4,253] [] (K9 B O p3 p4 L M o1 o2 o4 (o3++([(e,(Tree.node f.op f.set f.kids),(Tree.node j.op j.set j.kids))]:XJ))) 6 5).normal
    refine GX 1 [0,1,2,3,4] (aT A) (fun _=>aD ?_);obtain rfl:=sI h;exact rfl
   refine GX 1 [0,1,2,3,4] (ck 1000 z) (fun _=>aD ?_);obtain rfl:=sI h;exact rfl
  refine GX 1 [0,1,2,3,4] (aT x) (fun _=>aD ?_);obtain rfl:=sI h;exact rfl
 refine GX 1 [0,1,2,3,4] (ck 1000 v) (fun _=>aD ?_);obtain rfl:=sI h;exact rfl
def kq(B:QX):Jg→Option (Jg⊕(Jg⊕(Int×Int))):=fun(b9,e,f,j,v,p,x,q,u) =>
 ((bj B b9 f j q u e v p x).bind fun(be:(Int×Int)⊕(Int×Int))=>match be with
 | .inr (E,I)=>some (Sum.inr (Sum.inr (E,I)))
 | .inl (J,C)=>(if(J != 0)=true then((cf B C f j q u e v p x).bind fun(bi:(QX×Int×Int)⊕(Int×Int))=>match bi with
 | .inr (L,M)=>some (Sum.inr (Sum.inr (L,M)))
 | .inl (z,D,A)=>(if(eI .str ([99,108,97,115,115]:QX) z)=true then((eA B A f j q u e v p x).bind fun(bs:(Int×QQ×QK×XQ)⊕(Int×Int))=>match bs with
 | .inr (N,O)=>some (Sum.inr (Sum.inr (N,O)))
 | .inl (V,X,Y,Z)=>some (Sum.inl (V,X,f,j,Y,p,Z,q,u)))
 else(if(eI .str ([115,101,116]:QX) z)=true then((fj B A f j q u e v p x).bind fun(bv:(Int×XQ)⊕(Int×Int))=>match bv with
 | .inr (a1,a2)=>some (Sum.inr (Sum.inr (a1,a2)))
 | .inl (a3,a4)=>some (Sum.inl (a3,e,f,j,v,p,a4,q,u)))
 else(if(eI .str ([106,111,105,110]:QX) z)=true then((eY B A f j q u e v p x).bind fun(bx:Z7⊕(Int×Int))=>match bx with
 | .inr (a5,a6)=>some (Sum.inr (Sum.inr (a5,a6)))
 | .inl (a7,a8,a9)=>some (Sum.inl (a7,e,a8,a9,v,p,x,q,u)))
 else(if(eI .str ([116,114,101,97,116]:QX) z)=true then((eF B A f j q u e v p x).bind fun(c1:(Int×QK)⊕(Int×Int))=>match c1 with
 | .inr (aa,ac)=>some (Sum.inr (Sum.inr (aa,ac)))
 | .inl (ad,ax)=>some (Sum.inl (ad,e,f,j,ax,p,x,q,u)))
 else(if((bg .str (cO .str (cO .str (cO .str ([]:XQ) ([107,101,101,112]:QX) (0:Int)) ([109,97,121]:QX) (1:Int)) ([109,117,115,116]:QX) (2:Int)) z).isSome)=true then((eR ((bg .str (cO .str (cO .str (cO .str ([]:XQ) ([107,101,101,112]:QX) (0:Int)) ([109,97,121]:QX) (1:Int)) ([109,117,115,116]:QX) (2:Int)) z).getD 0) D B A f j q u e v p x).bind fun(c2:(Int×XJ×Int×Int)⊕(Int×Int))=>match c2 with
 | .inr (b1,b2)=>some (Sum.inr (Sum.inr (b1,b2)))
 | .inl (b3,b4,b5,b6)=>some (Sum.inl (b3,e,f,j,v,b4,x,b5,b6)))
 else((bc 21 D B A f j q u e v p x).bind fun(c3:(Unit)⊕(Int×Int))=>match c3 with
 | .inr (b7,b8)=>some (Sum.inr (Sum.inr (b7,b8)))
 | .inl _=>none)))))))
 else some (Sum.inr (Sum.inl (C,e,f,j,v,p,x,q,u)))))
def gQ(C:QX)(D p3 p4 p5 p6:Int)(o1:XQ):Option (Jg⊕(Int×Int)) :=
 ((iter (kq C) (D,([]:QQ),p3,p4,([]:QK),([]:XJ),o1,p5,p6)).bind fun(e:(Jg⊕(Int×Int)))=>match e with
 | .inl (p,v20,q,u,v,x,z,A,B)=>some (Sum.inl (p,v20,q,u,v,x,z,A,B))
 | .inr ((f,j))=>some (Sum.inr (f,j)))
theorem gU{J:QX}{p2 p3 p4 p5 p6:Int}{o1:XQ}{L:Jg⊕(Int×Int)}(h:gQ J p2 p3 p4 p5 p6 o1=some L):
  iQ Tryz.prog 86 [.adr 0 0 10 0] (Lq J p2 p3 p4 p5 p6 o1) (jZ (fun(q:Int×QQ×Int×Int×QK×XJ×XQ×Int×Int)=>(.tup [],(JU J q.1 q.2.2.1 q.2.2.2.1 q.2.2.2.2.2.2.2.1 q.2.2.2.2.2.2.2.2 q.2.2.2.2.2.2.1 q.2.1 q.2.2.2.2.1 q.2.2.2.2.2.1))) (aY 32 .i64 .i64) L):=by
 refine DB Tryz.func86 (fun Bw w0=>?_);unfold gQ at h;refine G (G (ak (jT h (fun(M,N,O,V,X,Y,Z,a1,a2)=>aA [(0,.adr 0 0 10 0),(2,.mp 5),(3,.mp 6)] (LC J M O V a1 a2 Z N X Y (cO .str (cO .str (cO .str ([]:XQ) ([107,101,101,112]:QX) (0:Int)) ([109,97,121]:QX) (1:Int)) ([109,117,115,116]:QX) (2:Int))) 7 2) (dc (eO Tryz.f86.ntmps 0 (fun(v,v20,x,z,A,B,C,D,E)=>aA [] (JU J v x z D E C v20 A B) 5 2)) (rN (aY 32 .i64 .i64))) (gg [.nilC 0 2 106 9 .str,.nilC 0 5 107 3 (.int .i64),.nilC 0 6 108 185 (.prod (.int .u8) Y8)] [0,1,106,107,108,2,58]) (fun y o h=>?_) (fun a3 h e σ' hq=>?_))))
 ·obtain⟨M,N,O,V,X,Y,Z,a1,a2⟩:=y;unfold kq at h;refine af (af ?_);obtain⟨ac,a4,h⟩:=aj h;rcases ac with⟨be,bi⟩ | ⟨bs,bv⟩
  ·refine jY 1 [0,2,3,4,1] (aP a4) (ab (aC h (fun ad h=>?_) (fun ad h=>?_)))
   ·refine ae (ab (ak (af ?_)));obtain⟨ax,a5,h⟩:=aj h;rcases ax with⟨f,bx,c1⟩ | ⟨c2,c3⟩
    ·refine jY 1 [0,2,3,4,1] (bA a5) (ab (af ?_));rcases aL h with⟨j,h⟩ | ⟨j,h⟩
     ·refine bu ⟨[],[(2,⟨.unk,[],false,[],[0],[],none⟩)]⟩ [(2,2,oc (And.intro tt j))] (ab (G (zp rfl ?_)));obtain⟨b1,a6,h⟩:=aj h;rcases b1 with⟨c4,c5,c6,c7⟩ | ⟨c8,c9⟩
      ·refine jY 2 [0,2,3,4,1] (ib a6) (ay ?_);exact eB h (gg [] [0,1,175,176,4,5,6])
      refine GX 2 [0,2,3,4,1] (ib a6) (fun _=>?_);obtain rfl:=sI h;refine br (bY (aK ?_));exact rfl
     rcases aL h with⟨p,h⟩ | ⟨p,h⟩
     ·refine bu ⟨[],[(2,⟨.unk,[],false,[],[1],[],none⟩)]⟩ [(2,2,⟨True∧rO .str [(([99,108,97,115,115]:QX),(yk 119)),(([115,101,116]:QX),(yk 120)),(([106,111,105,110]:QX),(yk 121)),(([116,114,101,97,116]:QX),(yk 122))] f 1,⟨trivial,⟨j,p⟩⟩⟩)] (ab (G (zp rfl ?_)));obtain⟨b2,a7,h⟩:=aj h;rcases b2 with⟨cc,ch⟩ | ⟨cl,cp⟩
      ·refine jY 2 [0,2,3,4,1] (iO a7) (ay ?_);exact eB h (gg [] [0,1,2,3,4,5,6])
      refine GX 2 [0,2,3,4,1] (iO a7) (fun _=>?_);obtain rfl:=sI h;refine br (bY (aK ?_));exact rfl
     rcases aL h with⟨u,h⟩ | ⟨u,h⟩
     ·refine bu ⟨[],[(2,⟨.unk,[],false,[],[2],[],none⟩)]⟩ [(2,2,⟨True∧rO .str [(([99,108,97,115,115]:QX),(yk 119)),(([115,101,116]:QX),(yk 120)),(([106,111,105,110]:QX),(yk 121)),(([116,114,101,97,116]:QX),(yk 122))] f 2,⟨trivial,⟨j,⟨p,u⟩⟩⟩⟩)] (ab (G (zp rfl ?_)));obtain⟨b3,a8,h⟩:=aj h;rcases b3 with⟨cs,cx,d1⟩ | ⟨d2,d3⟩
      ·refine jY 2 [0,2,3,4,1] (iJ a8) (ay ?_);exact eB h (gg [] [0,1,2,3,4,5,6])
      refine GX 2 [0,2,3,4,1] (iJ a8) (fun _=>?_);obtain rfl:=sI h;refine br (bY (aK ?_));exact rfl
     rcases aL h with⟨I,h⟩ | ⟨I,h⟩
     ·refine bu ⟨[],[(2,⟨.unk,[],false,[],[3],[],none⟩)]⟩ [(2,2,⟨True∧rO .str [(([99,108,97,115,115]:QX),(yk 119)),(([115,101,116]:QX),(yk 120)),(([106,111,105,110]:QX),(yk 121)),(([116,114,101,97,116]:QX),(yk 122))] f 3,⟨trivial,⟨j,⟨p,⟨u,I⟩⟩⟩⟩⟩)] (ab (G (zp rfl ?_)));obtain⟨b4,a9,h⟩:=aj h;rcases b4 with⟨d4,d5⟩ | ⟨d6,d7⟩
      ·refine jY 2 [0,2,3,4,1] (ij a9) (ay ?_);exact eB h (gg [] [0,1,2,3,4,5,6])
      refine GX 2 [0,2,3,4,1] (ij a9) (fun _=>?_);obtain rfl:=sI h;refine br (bY (aK ?_));exact rfl
     refine bu ⟨[],[(2,⟨.unk,[],false,[],[4],[],none⟩)]⟩ [(2,2,⟨True∧rO .str [(([99,108,97,115,115]:QX),(yk 119)),(([115,101,116]:QX),(yk 120)),(([106,111,105,110]:QX),(yk 121)),(([116,114,101,97,116]:QX),(yk 122))] f 4,⟨trivial,⟨j,⟨p,⟨u,⟨I,trivial⟩⟩⟩⟩⟩⟩)] (ab (G (Ic rfl (G (G (aC h (fun b5 h=>?_) (fun b5 h=>?_)))))))
     ·obtain⟨b6,aa,h⟩:=aj h;rcases b6 with⟨d8,d9,dd,de⟩ | ⟨di,dk⟩
      ·refine jY 3 [0,2,3,4,1] (iD aa) (ay ?_);exact eB h (gg [] [0,1,2,3,255,5,6])
      refine GX 3 [0,2,3,4,1] (iD aa) (fun _=>?_);obtain rfl:=sI h;refine br (bY (aK ?_));exact rfl
     obtain⟨b7,b8,h⟩:=aj h;rcases b7 with _ | ⟨dm,ds⟩
     ·cases h
     refine GX 2 [0,2,3,4,1] (aW b8) (fun _=>?_);obtain rfl:=sI h;refine br (bY (aK ?_));exact rfl
    refine GX 1 [0,2,3,4,1] (bA a5) (fun _=>?_);obtain rfl:=sI h;refine aD (br (bY (aK ?_)));exact rfl
   refine au (aO ?_);obtain rfl:=sI h;refine dI (bf ?_);exact bM (gg [] [0,1,2,3,4])
  refine GX 1 [0,2,3,4,1] (aP a4) (fun _=>?_);obtain rfl:=sI h;refine aD (aD (bY (aK ?_)));exact rfl
 rcases a3 with⟨v,v20,x,z,A,B,C,D,E⟩ | ⟨dt,du⟩
 ·obtain⟨rfl,b9⟩:=hq;refine cz ?_ b9;refine av ?_;obtain rfl:=sI h;exact(RO [] [] [0,1,2,3,4] [] (JU J v x z D E C v20 A B) 5 2).normal
 obtain rfl:=hq;refine br ?_;obtain rfl:=sI h;exact rfl
theorem rL(e f:Int):rn Tryz.prog 84 [.adr 0 0 5 0,.adr 1 0 2 0] (JQ 0 (0:Int) (0:Int) (0:Int)) (JQ 0 (0:Int) e f) (aY 32 .i64 .i64 (e,f)):=by
 refine rn.jC (nx:=2) (pn:=2) Tryz.func84 rfl rfl rfl rfl rfl rfl rfl rfl (by kernel_rfl) rfl (fun Bw w0=>?_);have h:some ()=some ():=rfl;refine GN a0 [(1,1,⟨∃j,Tryz.prog.underlying 20=some (.interface j),⟨_,rfl⟩⟩)] (zp rfl (GN a0 [(1,1,⟨∃d,Tryz.prog.underlying 32=some d∧(match d with | .interface _=>false | _=>true)=true,⟨_,rfl,rfl⟩⟩)] (af (G (Ic rfl (ae (ab (mZ a0 [] ?_))))))));exact eN h (gg [] [0,1])
theorem qZ:I2 Tryz.prog 84 2:=by
 intro e w p;obtain⟨q,u,rfl⟩:∃q u,e = #[q,u]:=by
  match j:e.toList with
  | [a,b]=>exact⟨a,b,Array.ext' j⟩
  | []=>have:=congrArg List.length j;simp[p]at this
  | [_]=>have:=congrArg List.length j;simp[p]at this
  | _::_::_::_=>have:=congrArg List.length j;simp[p]at this
 refine callsD_of_wpS Tryz.func84 rfl fun f v hu=>?_
 apply wpS_seq;apply wpS_region;simp[wpOpsS,go_sem,recoverD,hu,Tryz.ntmps84,Exit.thenS];apply wpS_seq;apply wpS_region;simp[wpOpsS,go_sem,Exit.thenS,Act.eval,Act.put];refine wpS_cond (t:=false) (by simp[Act.eval,Array.replicate]) ?_;simp only[Bool.false_eq_true,if_false];refine wpS_of_wp (wp_skip ?_);cases f;simp_all [bodyPostS,results,Tryz.results84]
def jA(e:QX):Option ((IV×Int×Int)⊕(Int×Int)) :=
 (if(decide ((e.length:Int) > 4096))=true then((lX 24 (4096:Int) e 0 (0:Int) (0:Int) (0:Int) (0:Int) ([]:XQ)).bind fun(v:(Unit)⊕(Int×Int))=>match v with
 | .inr (x,z)=>some (Sum.inr (x,z))
 | .inl _=>none)
 else((gQ e 0 (0:Int) (0:Int) (0:Int) (0:Int) ([]:XQ)).bind fun(A:Jg⊕(Int×Int))=>match A with
 | .inr (B,C)=>some (Sum.inr (B,C))
 | .inl (D,f,j,p,q,u,E,I,J)=>some (Sum.inl ((f,j,p,q,u),0,0))))
def oB:(IV×Int×Int)⊕(Int×Int)→IV×Int×Int
 | .inl x=>x
 | .inr e=>((([]:QQ),0,0,([]:QK),([]:XJ)),e.1,e.2)
def jS(e:QX):Option (IV×Int×Int):=(jA e).map oB
theorem uh(f:QX)(u:(IV×Int×Int)⊕(Int×Int))(h:jA f=some u):
  Pure Tryz.prog 51 [.st f] (aM (bk false (IZ (fun(q:IV×Int×Int)=>([⟨JC,q.1⟩,⟨Y2,q.2⟩]:List (Σ T:Ty,T.den))) (fun(e:Int×Int)=>([⟨JC,(([]:QQ),0,0,([]:QK),([]:XJ))⟩,⟨Y2,(e.1,e.2)⟩]:List (Σ T:Ty,T.den))) u))):=by
 refine Pure.F0 (args:=[.st f]) (gd:=84) (fnd:=Tryz.f84) (l:=[(0,.st f),(2,.adr 0 0 5 0),(3,.adr 1 0 2 0),(4,.adr 2 0 10 0)]) (m:=(MG 0 (0:Int) (0:Int) (0:Int) f 0 (0:Int) (0:Int) (0:Int) (0:Int) ([]:XQ))) (nx:=4) (s2:=5) (s3:=2) (lp:=[(2,.adr 0 0 5 0),(3,.adr 1 0 2 0)]) (mp:=(JQ 0 (0:Int) (0:Int) (0:Int))) (nxp:=2) (fv:=aY 32 .i64 .i64) (hin:=(JQ 0 (0:Int) (0:Int) (0:Int))) (hout:=fun e=>(JQ 0 (0:Int) e.1 e.2)) (t2:=2) (t3:=3) (d:=9) iP Tryz.func51 (by kernel_rfl) Tryz.func84 (by kernel_rfl) rfl rfl rfl rfl rfl rfl rfl rfl (nl rfl) rfl rfl (by decide) rfl rfl (by decide) (fun Bw w0=>?_) (fun Bw w0 D=>?_) qZ (fun e=>rL e.1 e.2) (by kernel_rfl) (fun e=>by kernel_rfl) [JC,Y2] (fun e=>by kernel_rfl)
 ·clear h;have h:some ()=some ():=rfl;refine Ge (ab (Ge ?_));exact eN h (gg [] [0,8,40,24])
 unfold jA at h;refine af (G (aC h (fun E h=>?_) (fun E h=>?_)))
 ·obtain⟨I,x,h⟩:=aj h;rcases I with _ | ⟨z,A⟩
  ·cases h
  have j:=(jW x);refine IF iP ⟨[],[(1,(oD j [2,3]))]⟩ 1 (aY 32 .i64 .i64 (z,A)) [] [0,1] [(2,.adr 0 0 5 0),(3,.adr 1 0 2 0)] (JQ 0 (0:Int) (0:Int) (0:Int)) 2 2 [True,jK Tryz.prog 85 [.adr 0 0 10 0,.i64 24,.i64 4096] (Lq f 0 (0:Int) (0:Int) (0:Int) (0:Int) ([]:XQ)) (aY 32 .i64 .i64 (z,A))] (by kernel_rfl) (by kernel_rfl) ⟨tt,(jW x),tt⟩ (fun σ1 p=>aD ?_);obtain rfl:=sI h;exact⟨rfl,p⟩
 refine ae (ab (af ?_));obtain⟨J,v,h⟩:=aj h;rcases J with⟨L,M,N,O,V,X,Y,Z,a1⟩ | ⟨B,C⟩
 ·refine jY 1 [2,3] (gU v) (ab (G (mi [.frzC 0 0,.frzC 0 3,.frzC 0 4] (by kernel_rfl) (aw ?_))));obtain rfl:=sI h;exact⟨rfl,RI [JC,Y2]⟩
 have j:=(gU v);refine IF iP ⟨[],[(1,(oD j [2,3]))]⟩ 1 (aY 32 .i64 .i64 (B,C)) [] [0,1] [(2,.adr 0 0 5 0),(3,.adr 1 0 2 0)] (JQ 0 (0:Int) (0:Int) (0:Int)) 2 2 [True,jK Tryz.prog 86 [.adr 0 0 10 0] (Lq f 0 (0:Int) (0:Int) (0:Int) (0:Int) ([]:XQ)) (aY 32 .i64 .i64 (B,C))] (by kernel_rfl) (by kernel_rfl) ⟨tt,(gU v),tt⟩ (fun σ1 p=>aD ?_);obtain rfl:=sI h;exact⟨rfl,p⟩
theorem wq{f:QX}{j:IV×Int×Int}(h:jS f=some j):
  Pure Tryz.prog 51 [.st f] (aM (bk false [⟨JC,j.1⟩,⟨Y2,j.2⟩])):=by
 unfold jS at h;obtain⟨r,p,rfl⟩:=Option.map_eq_some_iff.1 h;have:=uh  f r p;cases r with
 | inl x=>exact this
 | inr e=>exact this
def rW(u:Int)(f:XX)(e:Int→Int→XX→Option (Tree)):(XX×Int)→Option ((XX×Int)⊕XX):=fun(j,p) =>
 (if(decide (p<(f.length:Int)))=true then(if 0≤p∧p<(f.length:Int)then(((if(u == 2)=true then(if 0≤(i64.wrap ((i64.wrap ((f.length:Int) - 1)) - p))∧(i64.wrap ((i64.wrap ((f.length:Int) - 1)) - p))<(f.length:Int)then some (((f.getD ((i64.wrap ((i64.wrap ((f.length:Int) - 1)) - p)).toNat) (Tree.node 0 0 [])).op,(f.getD ((i64.wrap ((i64.wrap ((f.length:Int) - 1)) - p)).toNat) (Tree.node 0 0 [])).set,(f.getD ((i64.wrap ((i64.wrap ((f.length:Int) - 1)) - p)).toNat) (Tree.node 0 0 [])).kids))else none)
 else some (((f.getD p.toNat (Tree.node 0 0 [])).op,(f.getD p.toNat (Tree.node 0 0 [])).set,(f.getD p.toNat (Tree.node 0 0 [])).kids)))).bind fun(v,x,z)=>((e v x z).bind fun q =>
 (if(j.length+([(Tree.node q.op q.set q.kids)]:XX).length)*32≤140737488355328∧j.length+([(Tree.node q.op q.set q.kids)]:XX).length≤9223372036854775807 then some (Sum.inl ((j++([(Tree.node q.op q.set q.kids)]:XX)),(i64.wrap (p+1))))else none)))else none)
 else some (Sum.inr j))
def lR(e:Int→Int→XX→Option (Tree))(j p:Int)(q:XX):Option (Tree) :=
 ((iter (rW j q e) (([]:XX),0)).bind fun f=>some (Tree.node j p f))
def kN:Nat→Int→Int→XX→Option (Tree)
 | 0=>fun _ _ _=>none
 | n+1=>lR (kN n)
theorem vZ(e:Int→Int→XX→Option (Tree))(f:∀(j:Bool) {v x:Int} {z:XX} {q:Tree},e v x z=some q→Pure Tryz.prog 87 [.agg [.u8 v,.u32 x,.p j (.slice (.tree .u8 .u32)) z]] (aM (bk false [⟨(.tree .u8 .u32),q⟩])))(j:Bool){v x:Int}{z:XX}{q:Tree}(h:lR e v x z=some q):
  Pure Tryz.prog 87 [.agg [.u8 v,.u32 x,.p j (.slice (.tree .u8 .u32)) z]] (aM (bk false [⟨(.tree .u8 .u32),q⟩])):=by
 refine PB Tryz.func87 (fun Bw w0=>?_);unfold lR at h;refine G (G (af (G (ak (cH h (fun(u,C)=>aA [(1,.adr 0 0 3 0),(2,.adr 1 0 3 0),(3,.adr 2 0 3 0),(13,.i64 (z.length:Int)),(14,.i64 C)] (LN v x j z 0 (0:Int) v x u) 4) 0 (fun A=>aA [(2,.adr 0 0 3 0),(3,.adr 1 0 3 0)] (LB 0 (0:Int) v x A) 3) (gg [.nilC 56 2 104 183 (.tree .u8 .u32)] [0,8,56,104]) (fun y o h=>?_) (fun A h=>?_))))))
 ·obtain⟨u,C⟩:=y;unfold rW at h;refine G (af (aC h (fun M h=>?_) (fun M h=>?_)))
  ·refine ae (ab (af (ak (G (GC 3 h (fun h=>af (G (bn h (fun(E,I,J)=>aA [(1,.adr 0 0 3 0),(2,.adr 1 0 3 0),(3,.adr 2 0 3 0),(5,.adr 4 0 3 0),(13,.i64 (z.length:Int)),(14,.i64 C)] (L3 v x j z 0 (0:Int) v x u E I j J) 5) (fun L h=>?_) (fun L h=>?_)))))))))
   ·refine aC h (fun N h=>?_) (fun N h=>?_)
    ·refine zB 8 h (fun h=>?_);exact eN h (gg [] [0,1,2,3,68])
    exact ae (eN h (gg [] [0,1,2,3,68]))
   obtain⟨E,I,J⟩:=L;refine ab ?_;obtain⟨V,O,h⟩:=aj h;obtain⟨D,h⟩:=aE h;have B:=(f j O);refine mZ ⟨[],[(3,(oP B))]⟩ [(3,3,oc B),(5,5,oc D)] (ay (ab (Ge ?_)));exact eB h (gg [] [0,1,2,45])
  refine au (aO ?_);exact eX h (gg [] [1,2,3])
 refine av (ab (G (mi [.frzC 0 2] (by kernel_rfl) (aw ?_))));obtain rfl:=sI h;exact RI [(.tree .u8 .u32)]
theorem qB:∀(n:Nat) (e:Bool) {j q:Int} {u:XX} {f:Tree},kN n j q u=some f→Pure Tryz.prog 87 [.agg [.u8 j,.u32 q,.p e (.slice (.tree .u8 .u32)) u]] (aM (bk false [⟨(.tree .u8 .u32),f⟩]))
 | 0,_,_,_,_,_,h=>by cases h
 | n+1,e,j,q,u,f,h=>vZ (kN n) (qB n) e h
def ir(e:Int)(u:Bool)(f j p q v x z A:Int):Option Z2 :=
 (if ¬(64:Int)=0 then(if 0≤(i64.wrap (Int.tdiv e 64))∧(i64.wrap (Int.tdiv e 64))<((4:Nat):Int)then(if ¬(64:Int)=0 then(if 0≤(Int.tmod e 64)then(if 0≤(i64.wrap (Int.tdiv e 64))∧(i64.wrap (Int.tdiv e 64))<((4:Nat):Int)then some ((if(i64.wrap (Int.tdiv e 64)).toNat=0 then(bitsOf .or .u64 (([f,j,p,q]:QK).getD ((i64.wrap (Int.tdiv e 64)).toNat) 0) (u64.wrap (1*2 ^ (min (Int.tmod e 64).toNat u64.bits))))else f),(if(i64.wrap (Int.tdiv e 64)).toNat=1 then(bitsOf .or .u64 (([f,j,p,q]:QK).getD ((i64.wrap (Int.tdiv e 64)).toNat) 0) (u64.wrap (1*2 ^ (min (Int.tmod e 64).toNat u64.bits))))else j),(if(i64.wrap (Int.tdiv e 64)).toNat=2 then(bitsOf .or .u64 (([f,j,p,q]:QK).getD ((i64.wrap (Int.tdiv e 64)).toNat) 0) (u64.wrap (1*2 ^ (min (Int.tmod e 64).toNat u64.bits))))else p),(if(i64.wrap (Int.tdiv e 64)).toNat=3 then(bitsOf .or .u64 (([f,j,p,q]:QK).getD ((i64.wrap (Int.tdiv e 64)).toNat) 0) (u64.wrap (1*2 ^ (min (Int.tmod e 64).toNat u64.bits))))else q))else none)else none)else none)else none)else none)
theorem qv{e:Int}{v:Bool}{j p q u x z A B:Int}{f:Int×Int×Int×Int}(h:ir e v j p q u x z A B=some f):
  hY Tryz.prog 130 [.adr 0 0 9 1,.i64 e] (Je v j p q u x z A B) (.tup []) (Je v f.1 f.2.1 f.2.2.1 f.2.2.2 x z A B):=by
 refine OB Tryz.func130 (fun Bw w0=>?_);unfold ir at h;obtain⟨C,D,E,I,h⟩:=g4 h;obtain⟨J,h⟩:=aE h;refine mZ a0 [(2,2,oc C),(4,4,oc D),(7,7,oc E),(8,8,oc I),(11,11,oc J)] ?_;obtain rfl:=sI h;exact(RO [] [] [0] [] (Je v (if(i64.wrap (Int.tdiv e 64)).toNat=0 then(bitsOf .or .u64 (([j,p,q,u]:QK).getD ((i64.wrap (Int.tdiv e 64)).toNat) 0) (u64.wrap (1*2 ^ (min (Int.tmod e 64).toNat u64.bits))))else j) (if(i64.wrap (Int.tdiv e 64)).toNat=1 then(bitsOf .or .u64 (([j,p,q,u]:QK).getD ((i64.wrap (Int.tdiv e 64)).toNat) 0) (u64.wrap (1*2 ^ (min (Int.tmod e 64).toNat u64.bits))))else p) (if(i64.wrap (Int.tdiv e 64)).toNat=2 then(bitsOf .or .u64 (([j,p,q,u]:QK).getD ((i64.wrap (Int.tdiv e 64)).toNat) 0) (u64.wrap (1*2 ^ (min (Int.tmod e 64).toNat u64.bits))))else q) (if(i64.wrap (Int.tdiv e 64)).toNat=3 then(bitsOf .or .u64 (([j,p,q,u]:QK).getD ((i64.wrap (Int.tdiv e 64)).toNat) 0) (u64.wrap (1*2 ^ (min (Int.tmod e 64).toNat u64.bits))))else u) x z A B) 1 1).normal
def gP(f j p q e:Int):Option (Bool) :=
 (if ¬(64:Int)=0 then(if 0≤(i64.wrap (Int.tdiv e 64))∧(i64.wrap (Int.tdiv e 64))<((4:Nat):Int)then(if ¬(64:Int)=0 then(if 0≤(Int.tmod e 64)then some ((bitsOf .and .u64 (Int.fdiv (([f,j,p,q]:QK).getD ((i64.wrap (Int.tdiv e 64)).toNat) 0) (2 ^ (min (Int.tmod e 64).toNat u64.bits))) (1:Int)) == 1)else none)else none)else none)else none)
theorem iq{f j p q u:Int}{e:Bool}(h:gP f j p q u=some e):
  Pure Tryz.prog 128 [.agg [.u64 f,.u64 j,.u64 p,.u64 q],.i64 u] (aM (bk false [⟨.bool,e⟩])):=by
 refine PB Tryz.func128 (fun Bw w0=>?_);unfold gP at h;refine G ?_;obtain⟨v,x,z,A,h⟩:=g4 h;refine GN a0 [(1,1,oc v),(2,2,oc x),(5,5,oc z),(6,6,oc A)] (aw ?_);obtain rfl:=sI h;exact RI [.bool]
def o8(o1 o2 o3 o4:Int):(Int×Int×Int×Int×Int)→Option ((Int×Int×Int×Int×Int)⊕Z2):=fun(q,f,j,p,e) =>
 (if(decide (e<4))=true then(if 0≤e∧e<((4:Nat):Int)then(if 0≤e∧e<((4:Nat):Int)then(if 0≤e∧e<((4:Nat):Int)then some (Sum.inl ((if e.toNat=0 then(bitsOf .or .u64 (([q,f,j,p]:QK).getD e.toNat 0) (([o1,o2,o3,o4]:QK).getD e.toNat 0))else q),(if e.toNat=1 then(bitsOf .or .u64 (([q,f,j,p]:QK).getD e.toNat 0) (([o1,o2,o3,o4]:QK).getD e.toNat 0))else f),(if e.toNat=2 then(bitsOf .or .u64 (([q,f,j,p]:QK).getD e.toNat 0) (([o1,o2,o3,o4]:QK).getD e.toNat 0))else j),(if e.toNat=3 then(bitsOf .or .u64 (([q,f,j,p]:QK).getD e.toNat 0) (([o1,o2,o3,o4]:QK).getD e.toNat 0))else p),(i64.wrap (e+1))))else none)else none)else none)
 else some (Sum.inr (q,f,j,p)))
def cZ(q u v x o1 o2 o3 o4:Int):Option Z2 :=
 ((iter (o8 o1 o2 o3 o4) (q,u,v,x,0)).bind fun(e,f,j,p)=>some (e,f,j,p))
theorem cT{C D E I o1 o2 o3 o4:Int}{e:Int×Int×Int×Int}(h:cZ C D E I o1 o2 o3 o4=some e):
  Pure Tryz.prog 127 [.agg [.u64 C,.u64 D,.u64 E,.u64 I],.agg [.u64 o1,.u64 o2,.u64 o3,.u64 o4]] (aM (bk false [⟨lW,e⟩])):=by
 refine PB Tryz.func127 (fun Bw w0=>?_);unfold cZ at h;refine G (af (G (ak (cH h (fun(J,f,j,p,L)=>aA [(2,.adr 0 0 4 0),(3,.adr 1 0 4 0),(4,.adr 2 0 4 0),(6,.i64 L)] (LL J f j p o1 o2 o3 o4 0 (0:Int) (0:Int) (0:Int)) 3) 0 (fun(q,u,v,x)=>aA [(2,.adr 0 0 4 0),(4,.adr 1 0 4 0)] (K7 q u v x 0 (0:Int) (0:Int) (0:Int)) 2) (gg [] [0,8,16]) (fun y o h=>?_) (fun M h=>?_)))))
 ·obtain⟨J,f,j,p,L⟩:=y;unfold o8 at h;refine G (af (aC h (fun N h=>?_) (fun N h=>?_)))
  ·refine ae (ab (af (ak (G ?_))));obtain⟨z,A,B,h⟩:=g3 h;refine mZ a0 [(1,1,oc z),(4,4,oc A),(7,7,oc B)] (ay (ab (Ge ?_)));exact eB h (gg [] [0,1,2])
  refine au (aO ?_);exact eX h (gg [] [0,2])
 obtain⟨q,u,v,x⟩:=M;refine av (ab (G (aw ?_)));obtain rfl:=sI h;exact RI [lW]
def jl(j p q u v x z A:Int)(o2:Qj):(Qj×Int)→Option ((Qj×Int)⊕Qj):=fun(e,v6) =>
 (if(decide (v6<(o2.length:Int)))=true then((gP j p q u v6).bind fun B =>
 (((if B=true then(if 0≤v6∧v6<(e.length:Int)then(if v6.toNat<e.length then((cZ ((e.getD v6.toNat (0,0,0,0)).1) ((e.getD v6.toNat (0,0,0,0)).2.1) ((e.getD v6.toNat (0,0,0,0)).2.2.1) ((e.getD v6.toNat (0,0,0,0)).2.2.2) v x z A).bind fun f =>
 (if 0≤v6∧v6<(e.length:Int)then(if v6.toNat<e.length then some ((e.set v6.toNat (f.1,f.2.1,f.2.2.1,f.2.2.2)))else none)else none))else none)else none)
 else some (e))).bind fun C=>some (Sum.inl (C,(i64.wrap (v6+1))))))
 else some (Sum.inr e))
def ee(e f j p q u v x:Int)(A:Bool)(o1:QK)(o2:Qj):Option Qj :=
 ((iter (jl e f j p q u v x o2) (o2,0)).bind fun z=>some z)
theorem jk{e f j p q u v x:Int}{z:Bool}{o1:QK}{o2 B:Qj}(h:ee e f j p q u v x z o1 o2=some B):
  hY Tryz.prog 171 [.adr 0 0 3 0,.agg [.u64 e,.u64 f,.u64 j,.u64 p],.agg [.u64 q,.u64 u,.u64 v,.u64 x]] (BM z o1 o2) (.tup []) (BM z o1 B):=by
 refine OB Tryz.func171 (fun Bw w0=>?_);unfold ee at h;refine G (G (ak (cH h (fun(C,v6)=>aA [(0,.adr 0 0 3 0),(4,.adr 3 0 4 0),(5,.adr 4 0 4 0),(11,.i64 (o2.length:Int)),(12,.i64 v6)] (Kj z o1 C e f j p q u v x) 5 3) 0 (fun E=>aA [] (BM z o1 E) 3 3) (gg [] [0,1,2,3,11]) (fun y o h=>?_) (fun E h=>?_))))
 ·obtain⟨C,v6⟩:=y;unfold jl at h;refine G (af (aC h (fun I h=>?_) (fun I h=>?_)))
  ·refine ae (ab (af (ak (G ?_))));obtain⟨Y,J,h⟩:=aj h;refine GP 2 (iq J) (bn h (fun A=>aA [(0,.adr 0 0 3 0),(4,.adr 3 0 4 0),(5,.adr 4 0 4 0),(11,.i64 (o2.length:Int)),(12,.i64 v6)] (Kj z o1 A e f j p q u v x) 5 3) (fun A h=>?_) (fun A h=>?_))
   ·refine aC h (fun L h=>?_) (fun L h=>?_)
    ·obtain⟨M,N,h⟩:=g2 h;obtain⟨Z,O,h⟩:=aj h;obtain⟨V,X,h⟩:=g2 h;have D:=(cT O);exact mZ ⟨[],[(13,(oP D))]⟩ [(10,10,oc M),(11,11,oc N),(13,13,oc D),(14,14,oc V),(15,15,oc X)] (eN h (gg [] [0,1,2,3,4]))
    exact ae (eN h (gg [] [0,1,2,3,4]))
   refine ay (ab (Ge ?_));exact eB h (gg [] [0,1,2,3,4])
  refine au (aO ?_);exact eX h (gg [] [0,1,2])
 refine av ?_;obtain rfl:=sI h;exact(RO [] [] [0,1,2] [] (BM z o1 E) 3 3).normal
def ku(L:XX)(f:Int→Int→XX→Bool→QK→Qj→Option (Z9×QK×Qj×Bool)):(QK×Qj×Bool×Bool×Int×Int×Int×Int×Int×Int×Int×Int×Int)→Option ((QK×Qj×Bool×Bool×Int×Int×Int×Int×Int×Int×Int×Int×Int)⊕(Bool×Int×Int×Int×Int×Int×Int×Int×Int×QK×Qj×Bool)):=fun(M,N,O,u,v,x,z,A,B,C,D,E,j) =>
 (if(decide (j<(L.length:Int)))=true then(if 0≤j∧j<(L.length:Int)then((f ((L.getD j.toNat (Tree.node 0 0 [])).op) ((L.getD j.toNat (Tree.node 0 0 [])).set) ((L.getD j.toNat (Tree.node 0 0 [])).kids) O M N).bind fun(e,I,V,J) =>
 ((ee B C D E e.2.1.1 e.2.1.2.1 e.2.1.2.2.1 e.2.1.2.2.2 J I V).bind fun X =>
 (((if u=true then((cZ v x z A e.2.1.1 e.2.1.2.1 e.2.1.2.2.1 e.2.1.2.2.2).bind fun p =>
 some ((p.1,p.2.1,p.2.2.1,p.2.2.2)))
 else some ((v,x,z,A)))).bind fun(Y,Z,a1,a2)=>(((if e.1=true then((cZ e.2.2.1 e.2.2.2.1 e.2.2.2.2.1 e.2.2.2.2.2 B C D E).bind fun q =>
 some ((q.1,q.2.1,q.2.2.1,q.2.2.2)))
 else some ((e.2.2.1,e.2.2.2.1,e.2.2.2.2.1,e.2.2.2.2.2)))).bind fun(a3,a4,a5,a6)=>(((if u=true then some (e.1)
 else some (false))).bind fun a7=>some (Sum.inl (I,X,J,a7,Y,Z,a1,a2,a3,a4,a5,a6,(i64.wrap (j+1)))))))))else none)
 else some (Sum.inr (u,v,x,z,A,B,C,D,E,M,N,O)))
def kr(L:XX)(f:Int→Int→XX→Bool→QK→Qj→Option (Z9×QK×Qj×Bool)):(QK×Qj×Bool×Bool×Int×Int×Int×Int×Int×Int×Int×Int×Int)→Option ((QK×Qj×Bool×Bool×Int×Int×Int×Int×Int×Int×Int×Int×Int)⊕(Bool×Int×Int×Int×Int×Int×Int×Int×Int×QK×Qj×Bool)):=fun(M,N,O,J,x,z,A,B,C,D,E,I,j) =>
 (if(decide (j<(L.length:Int)))=true then(if 0≤j∧j<(L.length:Int)then((f ((L.getD j.toNat (Tree.node 0 0 [])).op) ((L.getD j.toNat (Tree.node 0 0 [])).set) ((L.getD j.toNat (Tree.node 0 0 [])).kids) O M N).bind fun(e,V,X,Y) =>
 (((if J=true then((cZ x z A B e.2.1.1 e.2.1.2.1 e.2.1.2.2.1 e.2.1.2.2.2).bind fun p =>
 ((cZ C D E I e.2.2.1 e.2.2.2.1 e.2.2.2.2.1 e.2.2.2.2.2).bind fun q =>
 some ((true,p.1,p.2.1,p.2.2.1,p.2.2.2,q.1,q.2.1,q.2.2.1,q.2.2.2))))
 else((cZ x z A B e.2.1.1 e.2.1.2.1 e.2.1.2.2.1 e.2.1.2.2.2).bind fun u =>
 ((cZ C D E I e.2.2.1 e.2.2.2.1 e.2.2.2.2.1 e.2.2.2.2.2).bind fun v =>
 some ((e.1,u.1,u.2.1,u.2.2.1,u.2.2.2,v.1,v.2.1,v.2.2.1,v.2.2.2)))))).bind fun(Z,a1,a2,a3,a4,a5,a6,a7,a8)=>some (Sum.inl (V,X,Y,Z,a1,a2,a3,a4,a5,a6,a7,a8,(i64.wrap (j+1))))))else none)
 else some (Sum.inr (J,x,z,A,B,C,D,E,I,M,N,O)))
def fE(e:Int→Int→XX→Bool→QK→Qj→Option (Z9×QK×Qj×Bool))(j i2:Int)(J:XX)(L:Bool)(o1:QK)(o2:Qj):Option (Z9×QK×Qj×Bool) :=
 (if(j == 1)=true then(if(decide ((o1.length:Int)≥200))=true then some ((false,(0,0,0,0),0,0,0,0),o1,o2,true)
 else((ir (o1.length:Int) false 0 (0:Int) (0:Int) (0:Int) (0:Int) (0:Int) (0:Int) (0:Int)).bind fun(p,q,u,v) =>
 (if(o1.length+([i2]:QK).length)*4≤140737488355328∧o1.length+([i2]:QK).length≤9223372036854775807 then(if(o2.length+([(0,0,0,0)]:Qj).length)*32≤140737488355328∧o2.length+([(0,0,0,0)]:Qj).length≤9223372036854775807 then some ((false,(p,q,u,v),p,q,u,v),(o1++([i2]:QK)),(o2++([(0,0,0,0)]:Qj)),L)else none)else none)))
 else(if(j == 2)=true then((iter (ku J e) (o1,o2,L,true,0,0,0,0,0,0,0,0,0)).bind fun(M,N,O,V,X,Y,Z,a1,a2,a3,a4,a5)=>some ((M,(N,O,V,X),Y,Z,a1,a2),a3,a4,a5))
 else(if(j == 3)=true then((iter (kr J e) (o1,o2,L,false,0,0,0,0,0,0,0,0,0)).bind fun(a6,a7,a8,a9,aa,ac,ad,ax,b1,b2,b3,b4)=>some ((a6,(a7,a8,a9,aa),ac,ad,ax,b1),b2,b3,b4))
 else(((if(j == 4)=true then some ((j == 4))
 else(if(j == 5)=true then some ((j == 5))
 else some ((j == 6))))).bind fun b5=>(if b5=true then(((if(decide ((J.length:Int) > 0))=true then(if 0≤(0:Int)∧0<(J.length:Int)then((e ((J.getD ((0:Int).toNat) (Tree.node 0 0 [])).op) ((J.getD ((0:Int).toNat) (Tree.node 0 0 [])).set) ((J.getD ((0:Int).toNat) (Tree.node 0 0 [])).kids) L o1 o2).bind fun(f,b6,b7,b8) =>
 some ((b6,b7,b8,f.1,f.2.1.1,f.2.1.2.1,f.2.1.2.2.1,f.2.1.2.2.2,f.2.2.1,f.2.2.2.1,f.2.2.2.2.1,f.2.2.2.2.2)))else none)
 else some ((o1,o2,L,false,0,0,0,0,0,0,0,0)))).bind fun(b9,be,bi,bs,x,z,A,B,C,D,E,I)=>(((if(j != 6)=true then((ee C D E I x z A B bi b9 be).bind fun bv =>
 some (bv))
 else some (be))).bind fun bx=>(((if bs=true then some (true)
 else some ((j != 5)))).bind fun c1=>some ((c1,(x,z,A,B),C,D,E,I),b9,bx,bi))))
 else some ((true,(0,0,0,0),0,0,0,0),o1,o2,L))))))
def dZ:Nat→Int→Int→XX→Bool→QK→Qj→Option (Z9×QK×Qj×Bool)
 | 0=>fun _ _ _ _ _ _=>none
 | n+1=>fE (dZ n)
theorem n7(f:Int→Int→XX→Bool→QK→Qj→Option (Z9×QK×Qj×Bool))(e:∀(u:Bool) {i1 i2:Int} {v:XX} {d1:Bool} {o1:QK} {o2:Qj} {j:Z9×QK×Qj×Bool},f i1 i2 v d1 o1 o2=some j→hY Tryz.prog 126 [.adr 0 0 3 0,.agg [.u8 i1,.u32 i2,.p u (.slice (.tree .u8 .u32)) v]] (BM d1 o1 o2) (.agg [.bo j.1.1,.u64 j.1.2.1.1,.u64 j.1.2.1.2.1,.u64 j.1.2.1.2.2.1,.u64 j.1.2.1.2.2.2,.u64 j.1.2.2.1,.u64 j.1.2.2.2.1,.u64 j.1.2.2.2.2.1,.u64 j.1.2.2.2.2.2]) (JA j.2.2.2 j.2.1 j.2.2.1))(u:Bool){i1 i2:Int}{v:XX}{d1:Bool}{o1:QK}{o2:Qj}{j:Z9×QK×Qj×Bool}(h:fE f i1 i2 v d1 o1 o2=some j):
  hY Tryz.prog 126 [.adr 0 0 3 0,.agg [.u8 i1,.u32 i2,.p u (.slice (.tree .u8 .u32)) v]] (BM d1 o1 o2) (.agg [.bo j.1.1,.u64 j.1.2.1.1,.u64 j.1.2.1.2.1,.u64 j.1.2.1.2.2.1,.u64 j.1.2.1.2.2.2,.u64 j.1.2.2.1,.u64 j.1.2.2.2.1,.u64 j.1.2.2.2.2.1,.u64 j.1.2.2.2.2.2]) (JA j.2.2.2 j.2.1 j.2.2.1):=by
 refine OB Tryz.func126 (fun Bw w0=>?_);unfold fE at h;refine G (af (G (ak (G (aC h (fun fw h=>?_) (fun fw h=>?_))))))
 ·refine af (G (aC h (fun g1 h=>?_) (fun g1 h=>?_)))
  ·refine G (G (aw (ai (az (ai ?_)))));obtain rfl:=sI h;exact RO [some BH] [] [0,1,2,1,2,11] [(4,.adr 5 0 9 0)] (El true o1 o2 false 0 (0:Int) (0:Int) (0:Int) (0:Int) (0:Int) (0:Int) (0:Int)) 6 3
  refine ae (ab (G ?_));obtain⟨⟨d5,d6,d7,d8⟩,g5,h⟩:=aj h;refine GO 6 [99] (qv g5) (G ?_);obtain⟨g6,h⟩:=aE h;refine GD a0 [(8,8,oc g6)] (GC 7 h (fun h=>G (aw (az (ai ?_)))));obtain rfl:=sI h;exact RO [some BH] [] [0,1,2,259,347,11] [(4,.adr 5 0 9 0)] (El d1 (o1++([i2]:QK)) (o2++([(0,0,0,0)]:Qj)) false d5 d6 d7 d8 d5 d6 d7 d8) 6 3
 refine G (aC h (fun g7 h=>?_) (fun g7 h=>?_))
 ·refine G (af (G (ak (cH h (fun(ek,el,ep,N,d9,dd,de,di,O,V,X,Y,x)=>aA [(0,.adr 0 0 3 0),(4,.adr 5 0 9 0),(6,.adr 6 0 9 0),(65,.p u (.slice (.tree .u8 .u32)) v),(66,.i64 (v.length:Int)),(67,.i64 x)] (Il ep ek el false 0 (0:Int) (0:Int) (0:Int) (0:Int) (0:Int) (0:Int) (0:Int) N d9 dd de di O V X Y) 7 3) 1 (fun(a6,a7,a8,a9,aa,ac,ad,ax,b1,b2,b3,b4)=>aA [(4,.adr 3 0 9 0),(6,.adr 4 0 9 0)] (JN b4 false 0 (0:Int) (0:Int) (0:Int) (0:Int) (0:Int) (0:Int) (0:Int) a6 a7 a8 a9 aa ac ad ax b1 b2 b3) 7 3) (gg [] [0,1,2,1,2,11,75]) (fun y o h=>?_) (fun er h=>?_)))))
  ·obtain⟨ek,el,ep,N,d9,dd,de,di,O,V,X,Y,x⟩:=y;unfold ku at h;refine G (af (aC h (fun g8 h=>?_) (fun g8 h=>?_)))
   ·refine ae (ab (af (ak (GC 0 h (fun h=>?_)))));obtain⟨⟨q,b5,h1,b6⟩,es,h⟩:=aj h;refine GO 2 [0,3,4] (e u es) ?_;obtain⟨b7,et,h⟩:=aj h;refine GO 5 [0,63,64] (jk et) (af (G (bn h (fun(Z,a1,a2,a3)=>aA [(0,.adr 0 0 3 0),(4,.adr 5 0 9 0),(6,.adr 6 0 9 0),(9,.adr 7 0 9 0),(65,.p u (.slice (.tree .u8 .u32)) v),(66,.i64 (v.length:Int)),(67,.i64 x)] (Lf b6 b5 b7 false 0 (0:Int) (0:Int) (0:Int) (0:Int) (0:Int) (0:Int) (0:Int) N Z a1 a2 a3 O V X Y q.1 q.2.1.1 q.2.1.2.1 q.2.1.2.2.1 q.2.1.2.2.2 q.2.2.1 q.2.2.2.1 q.2.2.2.2.1 q.2.2.2.2.2) 8 3) (fun dk h=>?_) (fun dk h=>?_))))
    ·refine aC h (fun g9 h=>?_) (fun g9 h=>?_)
     ·obtain⟨h2,eu,h⟩:=aj h;exact Ll 4 (cT eu) (eN h (gg [] [0,1,2,63,64,5,6,71]))
     exact ae (eN h (gg [] [0,1,2,63,64,5,6,71]))
    obtain⟨Z,a1,a2,a3⟩:=dk;refine ab (af (G (bn h (fun(b8,b9,be,bi)=>aA [(0,.adr 0 0 3 0),(4,.adr 5 0 9 0),(6,.adr 6 0 9 0),(9,.adr 7 0 9 0),(65,.p u (.slice (.tree .u8 .u32)) v),(66,.i64 (v.length:Int)),(67,.i64 x)] (Lf b6 b5 b7 false 0 (0:Int) (0:Int) (0:Int) (0:Int) (0:Int) (0:Int) (0:Int) N Z a1 a2 a3 O V X Y q.1 q.2.1.1 q.2.1.2.1 q.2.1.2.2.1 q.2.1.2.2.2 b8 b9 be bi) 8 3) (fun dm h=>?_) (fun dm h=>?_))))
    ·refine aC h (fun gb h=>?_) (fun gb h=>?_)
     ·obtain⟨h3,ew,h⟩:=aj h;exact Ll 4 (cT ew) (eN h (gg [] [0,1,2,3,4,5,6,7]))
     exact ae (eN h (gg [] [0,1,2,3,4,5,6,7]))
    obtain⟨b8,b9,be,bi⟩:=dm;refine ab (bn h (fun bs=>aA [(0,.adr 0 0 3 0),(4,.adr 5 0 9 0),(6,.adr 6 0 9 0),(65,.p u (.slice (.tree .u8 .u32)) v),(66,.i64 (v.length:Int)),(67,.i64 x)] (Il b6 b5 b7 false 0 (0:Int) (0:Int) (0:Int) (0:Int) (0:Int) (0:Int) (0:Int) bs Z a1 a2 a3 b8 b9 be bi) 7 3) (fun bs h=>?_) (fun bs h=>?_))
    ·rcases aL h with⟨d3,h⟩ | ⟨d3,h⟩
     ·exact mZ ⟨[(2,true),(5,true)],[]⟩ [(3,4,an d3),(5,5,oc d3)] (eN h (gg [] [0,1,2,3,4,5,6]))
     exact mZ ⟨[(2,false),(5,false)],[]⟩ [(3,5,oc d3)] (eN h (gg [] [0,1,2,3,4,5,6]))
    refine ay (ab (Ge ?_));exact eB h (gg [] [0,1,2,3,4,5,6])
   refine au (aO ?_);exact eX h (gg [] [0,1,2,5,6,3,4])
  obtain⟨a6,a7,a8,a9,aa,ac,ad,ax,b1,b2,b3,b4⟩:=er;refine av (ab (G (aw (az (ai ?_)))));obtain rfl:=sI h;exact RO [some BH] [] [0,1,2,5,6,3] [(4,.adr 5 0 9 0)] (El b4 b2 b3 a6 a7 a8 a9 aa ac ad ax b1) 6 3
 refine G (aC h (fun gd h=>?_) (fun gd h=>?_))
 ·refine G (af (G (ak (cH h (fun(ey,f1,f2,ds,dt,du,e1,e2,e3,e4,e5,e6,bv)=>aA [(0,.adr 0 0 3 0),(4,.adr 5 0 9 0),(10,.adr 6 0 9 0),(111,.p u (.slice (.tree .u8 .u32)) v),(112,.i64 (v.length:Int)),(113,.i64 bv)] (Il f2 ey f1 false 0 (0:Int) (0:Int) (0:Int) (0:Int) (0:Int) (0:Int) (0:Int) ds dt du e1 e2 e3 e4 e5 e6) 7 3) 3 (fun(bx,c1,c2,c3,c4,c5,c6,c7,c8,c9,cc,ch)=>aA [(4,.adr 3 0 9 0),(10,.adr 4 0 9 0)] (JN ch false 0 (0:Int) (0:Int) (0:Int) (0:Int) (0:Int) (0:Int) (0:Int) bx c1 c2 c3 c4 c5 c6 c7 c8 c9 cc) 7 3) (gg [] [0,1,2,1,2,11,83]) (fun y o h=>?_) (fun f3 h=>?_)))))
  ·obtain⟨ey,f1,f2,ds,dt,du,e1,e2,e3,e4,e5,e6,bv⟩:=y;unfold kr at h;refine G (af (aC h (fun gi h=>?_) (fun gi h=>?_)))
   ·refine ae (ab (af (ak (GC 0 h (fun h=>?_)))));obtain⟨⟨h4,f4,f5,f6⟩,f7,h⟩:=aj h;refine GO 2 [0,3,4] (e u f7) (bn h (fun(e7,e8,e9,ea,eb,ec,ed,ef,eh)=>aA [(0,.adr 0 0 3 0),(4,.adr 5 0 9 0),(10,.adr 6 0 9 0),(111,.p u (.slice (.tree .u8 .u32)) v),(112,.i64 (v.length:Int)),(113,.i64 bv)] (Il f6 f4 f5 false 0 (0:Int) (0:Int) (0:Int) (0:Int) (0:Int) (0:Int) (0:Int) e7 e8 e9 ea eb ec ed ef eh) 7 3) (fun ei h=>?_) (fun ei h=>?_))
    ·rcases aL h with⟨d4,h⟩ | ⟨d4,h⟩
     ·obtain⟨h5,f8,h⟩:=aj h;obtain⟨h6,f9,h⟩:=aj h;have z:=(cT f8);have cl:=(cT f9);exact mZ ⟨[(2,true),(5,true)],[(10,(oP z)),(15,(oP cl))]⟩ [(3,5,oc d4),(10,10,oc z),(15,15,oc cl)] (eN h (gg [] [0,1,2,63,64,5,6]))
     obtain⟨h7,fa,h⟩:=aj h;obtain⟨h8,fd,h⟩:=aj h;have z:=(cT fa);have cl:=(cT fd);exact mZ ⟨[(2,false),(5,false)],[(10,(oP z)),(15,(oP cl))]⟩ [(3,4,an d4),(5,5,oc d4),(10,10,oc z),(15,15,oc cl)] (eN h (gg [] [0,1,2,63,64,5,6]))
    obtain⟨e7,e8,e9,ea,eb,ec,ed,ef,eh⟩:=ei;refine ay (ab (Ge ?_));exact eB h (gg [] [0,1,2,3,4,5,6])
   refine au (aO ?_);exact eX h (gg [] [0,1,2,5,6,3,4])
  obtain⟨bx,c1,c2,c3,c4,c5,c6,c7,c8,c9,cc,ch⟩:=f3;refine av (ab (G (aw (az (ai ?_)))));obtain rfl:=sI h;exact RO [some BH] [] [0,1,2,5,6,3] [(4,.adr 5 0 9 0)] (El ch c9 cc bx c1 c2 c3 c4 c5 c6 c7 c8) 6 3
 refine af (G (bn h (fun cp=>aA [(0,.adr 0 0 3 0),(3,.adr 3 0 3 0),(4,.adr 4 0 9 0),(139,.bo cp)] (Mc d1 o1 o2 i1 i2 u v false 0 (0:Int) (0:Int) (0:Int) (0:Int) (0:Int) (0:Int) (0:Int)) 5 3) (fun cp h=>?_) (fun cp h=>?_)))
 ·refine aC h (fun gj h=>?_) (fun gj h=>?_)
  ·exact ae (eN h (gg [] [0,1,2,3,11]))
  refine G (aC h (fun gp h=>?_) (fun gp h=>?_))
  ·exact ae (eN h (gg [] [0,1,2,3,11]))
  exact Ge (eN h (gg [] [0,1,2,3,11]))
 refine ab (aC h (fun fi h=>?_) (fun fi h=>?_))
 ·refine G (af (G (bn h (fun(cs,fo,cx,d2,A,B,C,D,E,I,J,L)=>aA [(0,.adr 0 0 3 0),(3,.adr 5 0 3 0),(4,.adr 6 0 9 0),(14,.adr 7 0 9 0)] (LG cx cs fo i1 i2 u v false 0 (0:Int) (0:Int) (0:Int) (0:Int) (0:Int) (0:Int) (0:Int) d2 A B C D E I J L) 8 3) (fun ej h=>?_) (fun ej h=>?_))))
  ·refine aC h (fun fr h=>?_) (fun fr h=>?_)
   ·obtain⟨gs,h⟩:=aE h;obtain⟨⟨h9,he,hf,hg⟩,fs,h⟩:=aj h;have z:=(e u fs);exact bu ⟨[],[(5,(oO z [0,1,2]))]⟩ [(3,3,oc gs),(5,5,oc z)] (eN h (gg [] [0,1,2,85,86,3,4,5]))
   exact ae (eN h (gg [] [0,1,2,1,2,3,4,5]))
  obtain⟨cs,fo,cx,d2,A,B,C,D,E,I,J,L⟩:=ej;refine ab (af (G (bn h (fun M=>aA [(3,.adr 3 0 3 0),(4,.adr 4 0 9 0),(14,.adr 5 0 9 0)] (LZ cx i1 i2 u v false 0 (0:Int) (0:Int) (0:Int) (0:Int) (0:Int) (0:Int) (0:Int) d2 A B C D E I J L cs M) 8 3) (fun M h=>?_) (fun M h=>?_))))
  ·refine aC h (fun ft h=>?_) (fun ft h=>?_)
   ·obtain⟨hh,fv,h⟩:=aj h;exact jY 5 [0,3,4] (jk fv) (eN h (gg [] [0,1,2,5,6,7,3,4]))
   exact ae (eN h (gg [] [0,1,2,5,6,7,3,4]))
  refine ab (af (bn h (fun a4=>aA [(4,.adr 3 0 9 0),(14,.adr 4 0 9 0)] (JN cx false 0 (0:Int) (0:Int) (0:Int) (0:Int) (0:Int) (0:Int) (0:Int) a4 A B C D E I J L cs M) 7 3) (fun a4 h=>?_) (fun a4 h=>?_)))
  ·rcases aL h with⟨a5,h⟩ | ⟨a5,h⟩
   ·exact bu ⟨[(2,true),(6,true)],[]⟩ [(3,6,oc a5)] (eN h (gg [] [0,1,2,4,5,6,7]))
   exact bu ⟨[(2,false),(6,false)],[]⟩ [(3,5,an a5),(6,6,oc a5)] (eN h (gg [] [0,1,2,4,5,6,7]))
  refine ab (G (aw (az (ai ?_))));obtain rfl:=sI h;exact RO [some BH] [] [0,1,2,5,6,3] [(4,.adr 5 0 9 0)] (El cx cs M a4 A B C D E I J L) 6 3
 refine ae (ay (ab (G (aw ?_))));obtain rfl:=sI h;exact RO [some BH] [] [0,1,2,1,2,4] [(4,.adr 5 0 9 0)] (El d1 o1 o2 true 0 (0:Int) (0:Int) (0:Int) (0:Int) (0:Int) (0:Int) (0:Int)) 6 3
theorem km:∀(n:Nat) (f:Bool) {j q:Int} {u:XX} {v:Bool} {o1:QK} {o2:Qj} {e:Z9×QK×Qj×Bool},dZ n j q u v o1 o2=some e→hY Tryz.prog 126 [.adr 0 0 3 0,.agg [.u8 j,.u32 q,.p f (.slice (.tree .u8 .u32)) u]] (BM v o1 o2) (.agg [.bo e.1.1,.u64 e.1.2.1.1,.u64 e.1.2.1.2.1,.u64 e.1.2.1.2.2.1,.u64 e.1.2.1.2.2.2,.u64 e.1.2.2.1,.u64 e.1.2.2.2.1,.u64 e.1.2.2.2.2.1,.u64 e.1.2.2.2.2.2]) (JA e.2.2.2 e.2.1 e.2.2.1)
 | 0,_,_,_,_,_,_,_,_,h=>by cases h
 | n+1,f,j,q,u,v,o1,o2,e,h=>n7 (dZ n) (km n) f h
def pK(f j p q u v x z:Int):(Int)→Option ((Int)⊕((Unit)⊕(Bool))):=fun e =>
 (if(decide (e<4))=true then(if 0≤e∧e<((4:Nat):Int)then(if 0≤e∧e<((4:Nat):Int)then(if((bitsOf .and .u64 (([f,j,p,q]:QK).getD e.toNat 0) (([u,v,x,z]:QK).getD e.toNat 0)) != 0)=true then some (Sum.inr (Sum.inr true))
 else some (Sum.inl (i64.wrap (e+1))))else none)else none)
 else some (Sum.inr (Sum.inl ())))
def nc(e f j p q u v x:Int):Option (Bool) :=
 ((iter (pK e f j p q u v x) (0:Int)).bind fun(z:((Unit)⊕(Bool)))=>match z with
 | .inl _=>some false
 | .inr (A)=>some A)
theorem wZ{j p q u v x z A:Int}{f:Bool}(h:nc j p q u v x z A=some f):
  Pure Tryz.prog 129 [.agg [.u64 j,.u64 p,.u64 q,.u64 u],.agg [.u64 v,.u64 x,.u64 z,.u64 A]] (aM (bk false [⟨.bool,f⟩])):=by
 refine PB Tryz.func129 (fun Bw w0=>?_);unfold nc at h;refine G (af (G (ak (jT h (fun E=>aA [(2,.adr 0 0 4 0),(3,.adr 1 0 4 0),(6,.i64 E)] (K7 j p q u v x z A) 2) (dc (eO Tryz.f129.ntmps 0 (fun _=>aA [] [] 0)) (fQ tb Tryz.f129.results.toList (fun I=>[⟨.bool,I⟩]))) (gg [] [0,8]) (fun E o h=>?_) (fun L h e σ' J=>?_)))))
 ·unfold pK at h;refine G (af (aC h (fun M h=>?_) (fun M h=>?_)))
  ·refine ae (ab (af (ak (G ?_))));obtain⟨B,C,h⟩:=g2 h;refine GD a0 [(1,1,oc B),(4,4,oc C)] (aC h (fun N h=>?_) (fun N h=>?_))
   ·refine G (aw ?_);obtain rfl:=sI h;refine az (ai (bG (aK ?_)));exact bH (RI [.bool])
   refine ae (ay (ab (Ge ?_)));exact eB h (gg [] [0,1])
  refine au (aO ?_);obtain rfl:=sI h;refine dI (bf ?_);exact bM (gg [] [])
 rcases L with _ | I
 ·obtain⟨rfl,D⟩:=J;refine cz ?_ D;refine av (ab (G (aw ?_)));obtain rfl:=sI h;exact RI [.bool]
 obtain⟨rfl,O⟩:=J;refine az (ai ?_);obtain rfl:=sI h;exact O
end
end Go.Proofs.YtflahpmlcfhpcaaGreatDoor.T
