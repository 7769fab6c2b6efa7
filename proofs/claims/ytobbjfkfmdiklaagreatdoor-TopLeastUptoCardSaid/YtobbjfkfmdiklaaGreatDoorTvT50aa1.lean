import Derived.Test.YtobbjfkfmdiklaaGreatDoorTvT50a0
namespace Go.Proofs.YtobbjfkfmdiklaaGreatDoor.T
open Go Go.Tv Go.Proofs
open Go.IntKind (i64 u32 u64 u8)
noncomputable section
set_option maxRecDepth 100000
set_option maxHeartbeats 4000000
def fg  : Option (XK×XK×XK×XK×QX×QX×QX×Int×Int) :=
 some (([]:XK),([(10,10,2),(32,32,1)]:XK),([(32,126,1)]:XK),([]:XK),([99,108,97,115,115,32,79,59,32,109,97,121,32,79,32,47,32,79,59]:QX),([99,108,97,115,115,32,79,32,83,32,78,59,32,107,101,101,112,32,83,32,47,32,83,59,32,109,97,121,32,83,32,47,32,46,59,32,109,117,115,116,32,78,32,47,32,46,59,32,107,101,101,112,32,46,32,47,32,46,59]:QX),([]:QX),2,2)
theorem nF{f:XK×XK×XK×XK×QX×QX×QX×Int×Int}(h:fg=some f):
  Pure Tryz.prog 22 [] (aL (bd false [⟨Y7,f⟩])):=by
 refine PB Tryz.func22 (fun Bw w0=>?_);unfold fg at h;refine G (G (lZ [.frzC 0 1,.frzC 0 2] (by kernel_rfl) (av ?_)));obtain rfl:=sI h;exact RI [Y7]
def l8(j f:Int)(p:QX)(q p3 p4 p5 p6:Int)(o1:XX):Option ((Unit)⊕(Int×Int)):=some (Sum.inr (j,f))
theorem mW(v:Value)(e a:Int)(w:World):
  Calls Tryz.prog 85 #[v,.int .i64 e,.int .i64 a] w fun r f=>r = .panicked [{ v:=aY 72 .i64 .i64 (e,a),recovered:=false }]∧f=w:=by
 go_enter Tryz.func85,Tryz.ntmps85;go_wp2
 exact⟨rfl,rfl,rfl⟩
theorem jU{p f:Int}{u:QX}{x p3 p4 p5 p6:Int}{o1:XX}{j:(Unit)⊕(Int×Int)}(h:l8 p f u x p3 p4 p5 p6 o1=some j):
  iT Tryz.prog 85 [.adr 0 0 10 0,.i64 p,.i64 f] (Ml u x p3 p4 p5 p6 o1) (ky (fun(q:Unit)=>(.tup [],[])) (aY 72 .i64 .i64) j):=by
 obtain rfl:=sI h;exact jR.Cd Tryz.func85 (by kernel_rfl) rfl (fun v w=>mW v _ _ w)
def gm(f:QX)(j:Int):Option (Int):=some (wZ f j 0)
theorem kM(s:ByteArray)(c:Int)(w:World):
  Calls Tryz.prog 132 #[.string s,.int .u8 c] w fun e f=>e = .returned (.int .i64 (Lib.indexByte s.data.toList c.toNat.toUInt8))∧f=w:=by
 have hd:∀w,(callFunc 134 #[.string s,.int .u8 c]).run Tryz.prog w = .ok (.value (.int .i64 (Lib.indexByte s.data.toList c.toNat.toUInt8))) w:=fun w=>by rw[run_callFunc_extern (fn:=Tryz.f134) (e:=Extern.BytealgIndexByte.indexByte) Tryz.func134 (by kernel_rfl) rfl (by kernel_rfl) (by kernel_rfl),Lib.run_indexByteString];rfl
 go_enter Tryz.func132,Tryz.ntmps132;go_wp2
 go_ret
 exact⟨rfl,rfl⟩
theorem mG{j:QX}{p f:Int}(h:gm j p=some f):
  Pure Tryz.prog 132 [.st j,.u8 p] (aL (bd false [⟨(.int .i64),f⟩])):=by
 obtain rfl:=sI h;exact Pure.J2 Tryz.func132 (by kernel_rfl) rfl (fun s w=>kM s _ w)
def eH(f:QX)(j:Int):Option (Int) :=
 ((gm f j).bind fun p =>
 some p)
theorem jY{j:QX}{p f:Int}(h:eH j p=some f):
  Pure Tryz.prog 124 [.st j,.u8 p] (aL (bd false [⟨(.int .i64),f⟩])):=by
 refine PB Tryz.func124 (fun Bw w0=>?_);unfold eH at h;refine G ?_;obtain⟨u,q,h⟩:=ai h;refine GP 2 (mG q) (av ?_);obtain rfl:=sI h;exact RI [(.int .i64)]
def iM(f:Int):Option (Bool) :=
 (((if(f == 32)=true then some (true)
 else(if(f == 9)=true then some (true)
 else(if(f == 10)=true then some (true)
 else some ((f == 13)))))).bind fun v1=>some v1)
theorem vR{u:Int}{p:Bool}(h:iM u=some p):
  Pure Tryz.prog 125 [.u8 u] (aL (bd false [⟨.bool,p⟩])):=by
 refine PB Tryz.func125 (fun Bw w0=>?_);unfold iM at h;refine G (ag (br h (fun v1=>az [(2,.bo v1)] [] 0) (fun v1 h=>?_) (fun v1 h=>?_)))
 ·rcases aN h with⟨f,h⟩ | ⟨f,h⟩
  ·exact bC ⟨[(2,true),(5,true)],[]⟩ [(3,5,oc f)] (eN h (gg [] []))
  rcases aN h with⟨j,h⟩ | ⟨j,h⟩
  ·exact bC ⟨[(2,false),(5,false),(6,true),(9,true)],[]⟩ [(3,4,an f),(5,5,oc f),(7,9,oc j)] (eN h (gg [] []))
  rcases aN h with⟨q,h⟩ | ⟨q,h⟩
  ·exact bC ⟨[(2,false),(5,false),(6,false),(9,false),(10,true),(13,true)],[]⟩ [(3,4,an f),(5,5,oc f),(7,8,an j),(9,9,oc j),(11,13,oc q)] (eN h (gg [] []))
  exact bC ⟨[(2,false),(5,false),(6,false),(9,false),(10,false),(13,false)],[]⟩ [(3,4,an f),(5,5,oc f),(7,8,an j),(9,9,oc j),(11,12,an q),(13,13,oc q)] (eN h (gg [] []))
 refine ab (av ?_);obtain rfl:=sI h;exact RI [.bool]
def dw(f:Int):Option (Bool) :=
 (((if(f == 95)=true then some (true)
 else(if(decide (f≥97))=true then(if(decide (f≤122))=true then some (true)
 else(if(decide (f≥65))=true then(if(decide (f≤90))=true then some (true)
 else(if(decide (f≥48))=true then some ((decide (f≤57)))
 else some (false)))
 else(if(decide (f≥48))=true then some ((decide (f≤57)))
 else some (false))))
 else(if(decide (f≥65))=true then(if(decide (f≤90))=true then some (true)
 else(if(decide (f≥48))=true then some ((decide (f≤57)))
 else some (false)))
 else(if(decide (f≥48))=true then some ((decide (f≤57)))
 else some (false)))))).bind fun v1=>some v1)
theorem cS{E:Int}{D:Bool}(h:dw E=some D):
  Pure Tryz.prog 126 [.u8 E] (aL (bd false [⟨.bool,D⟩])):=by
 refine PB Tryz.func126 (fun Bw w0=>?_);unfold dw at h;refine G (ag (br h (fun v1=>az [(2,.bo v1)] [] 0) (fun v1 h=>?_) (fun v1 h=>?_)))
 ·rcases aN h with⟨f,h⟩ | ⟨f,h⟩
  ·exact bC ⟨[(2,true),(9,true)],[]⟩ [(3,5,oc f),(8,9,oc f)] (eN h (gg [] []))
  rcases aN h with⟨j,h⟩ | ⟨j,h⟩
  ·rcases aN h with⟨p,h⟩ | ⟨p,h⟩
   ·exact bC ⟨[(2,false),(5,true),(8,true),(9,false),(10,true),(17,true)],[]⟩ [(3,5,an f),(6,7,an j),(8,8,oc (And.intro f j)),(9,9,oc f),(11,13,oc p),(16,17,oc p)] (eN h (gg [] []))
   rcases aN h with⟨q,h⟩ | ⟨q,h⟩
   ·rcases aN h with⟨u,h⟩ | ⟨u,h⟩
    ·exact bC ⟨[(2,false),(5,true),(8,true),(9,false),(10,false),(13,true),(16,true),(17,false),(18,true),(25,true)],[]⟩ [(3,5,an f),(6,7,an j),(8,8,oc (And.intro f j)),(9,9,oc f),(11,13,an p),(14,15,an q),(16,16,oc (And.intro p q)),(17,17,oc p),(19,21,oc u),(24,25,oc u)] (eN h (gg [] []))
    rcases aN h with⟨z,h⟩ | ⟨z,h⟩
    ·exact bC ⟨[(2,false),(5,true),(8,true),(9,false),(10,false),(13,true),(16,true),(17,false),(18,false),(21,true),(24,true),(25,false)],[]⟩ [(3,5,an f),(6,7,an j),(8,8,oc (And.intro f j)),(9,9,oc f),(11,13,an p),(14,15,an q),(16,16,oc (And.intro p q)),(17,17,oc p),(19,21,an u),(22,23,an z),(24,24,oc (And.intro u z)),(25,25,oc u)] (eN h (gg [] []))
    exact bC ⟨[(2,false),(5,true),(8,true),(9,false),(10,false),(13,true),(16,true),(17,false),(18,false),(21,false),(24,false),(25,false)],[]⟩ [(3,5,an f),(6,7,an j),(8,8,oc (And.intro f j)),(9,9,oc f),(11,13,an p),(14,15,an q),(16,16,oc (And.intro p q)),(17,17,oc p),(19,21,an u),(22,23,oc z),(24,24,oc (And.intro u z)),(25,25,oc u)] (eN h (gg [] []))
   rcases aN h with⟨B,h⟩ | ⟨B,h⟩
   ·exact bC ⟨[(2,false),(5,true),(8,true),(9,false),(10,false),(13,false),(16,false),(17,false),(21,true),(24,true)],[]⟩ [(3,5,an f),(6,7,an j),(8,8,oc (And.intro f j)),(9,9,oc f),(11,13,an p),(14,15,oc q),(16,16,oc (And.intro p q)),(17,17,oc p),(22,23,an B),(24,24,oc B)] (eN h (gg [] []))
   exact bC ⟨[(2,false),(5,true),(8,true),(9,false),(10,false),(13,false),(16,false),(17,false),(21,false),(24,false)],[]⟩ [(3,5,an f),(6,7,an j),(8,8,oc (And.intro f j)),(9,9,oc f),(11,13,an p),(14,15,oc q),(16,16,oc (And.intro p q)),(17,17,oc p),(22,24,oc B)] (eN h (gg [] []))
  rcases aN h with⟨v,h⟩ | ⟨v,h⟩
  ·rcases aN h with⟨x,h⟩ | ⟨x,h⟩
   ·exact bC ⟨[(2,false),(5,false),(8,false),(9,false),(13,true),(16,true),(18,true),(25,true)],[]⟩ [(3,5,an f),(6,7,oc j),(8,8,oc (And.intro f j)),(9,9,oc f),(14,15,an v),(16,16,oc v),(19,21,oc x),(24,25,oc x)] (eN h (gg [] []))
   rcases aN h with⟨A,h⟩ | ⟨A,h⟩
   ·exact bC ⟨[(2,false),(5,false),(8,false),(9,false),(13,true),(16,true),(18,false),(21,true),(24,true),(25,false)],[]⟩ [(3,5,an f),(6,7,oc j),(8,8,oc (And.intro f j)),(9,9,oc f),(14,15,an v),(16,16,oc v),(19,21,an x),(22,23,an A),(24,24,oc (And.intro x A)),(25,25,oc x)] (eN h (gg [] []))
   exact bC ⟨[(2,false),(5,false),(8,false),(9,false),(13,true),(16,true),(18,false),(21,false),(24,false),(25,false)],[]⟩ [(3,5,an f),(6,7,oc j),(8,8,oc (And.intro f j)),(9,9,oc f),(14,15,an v),(16,16,oc v),(19,21,an x),(22,23,oc A),(24,24,oc (And.intro x A)),(25,25,oc x)] (eN h (gg [] []))
  rcases aN h with⟨C,h⟩ | ⟨C,h⟩
  ·exact bC ⟨[(2,false),(5,false),(8,false),(9,false),(13,false),(16,false),(21,true),(24,true)],[]⟩ [(3,5,an f),(6,7,oc j),(8,8,oc (And.intro f j)),(9,9,oc f),(14,16,oc v),(22,23,an C),(24,24,oc C)] (eN h (gg [] []))
  exact bC ⟨[(2,false),(5,false),(8,false),(9,false),(13,false),(16,false),(21,false),(24,false)],[]⟩ [(3,5,an f),(6,7,oc j),(8,8,oc (And.intro f j)),(9,9,oc f),(14,16,oc v),(22,24,oc C)] (eN h (gg [] []))
 refine ab (av ?_);obtain rfl:=sI h;exact RI [.bool]
def cq(j:QQ)(v1:QX):(Int)→Option ((Int)⊕((Unit)⊕(Int))):=fun f =>
 (if(decide (f<(j.length:Int)))=true then(if 0≤f∧f<(j.length:Int)then(if(v1 == (j.getD f.toNat []))=true then some (Sum.inr (Sum.inr f))
 else some (Sum.inl (i64.wrap (f+1))))else none)
 else some (Sum.inr (Sum.inl ())))
def cM(f:QQ)(v1:QX):Option (Int) :=
 ((iter (cq f v1) (0:Int)).bind fun(j:((Unit)⊕(Int)))=>match j with
 | .inl _=>some (-1:Int)
 | .inr (p)=>some p)
theorem jV(f:Bool){q:QQ}{v1:QX}{j:Int}(h:cM q v1=some j):
  Pure Tryz.prog 131 [.p f (.slice .str) q,.st v1] (aL (bd false [⟨(.int .i64),j⟩])):=by
 refine PB Tryz.func131 (fun Bw w0=>?_);unfold cM at h;refine G (ag (G (ak (kS h (fun v=>az [(0,.p f (.slice .str) q),(1,.st v1),(7,.i64 (q.length:Int)),(8,.i64 v)] [] 0) (dz (fD Tryz.f131.ntmps 0 (fun _=>az [] [] 0)) (gB tb Tryz.f131.results.toList (fun x=>[⟨(.int .i64),x⟩]))) (gg [] []) (fun v o h=>?_) (fun A h e σ' z=>?_)))))
 ·unfold cq at h;refine G (ag (aC h (fun B h=>?_) (fun B h=>?_)))
  ·refine ae (ab (ag (ak (G (GC 3 h (fun h=>aC h (fun C h=>?_) (fun C h=>?_)))))))
   ·refine G (av ?_);obtain rfl:=sI h;refine aA (aj (bM (aM ?_)));exact bL (RI [(.int .i64)])
   refine ae (ay (ab (Ge ?_)));exact eB h (gg [] [])
  refine au (aQ ?_);obtain rfl:=sI h;refine dL (bk ?_);exact bT (gg [] [])
 rcases A with _ | x
 ·obtain⟨rfl,u⟩:=z;refine cH ?_ u;refine aw (ab (G (av ?_)));obtain rfl:=sI h;exact RI [(.int .i64)]
 obtain⟨rfl,D⟩:=z;refine aA (aj ?_);obtain rfl:=sI h;exact D
def bc(j f:Int)(p:QX)(q p3 p4 p5 p6:Int)(o1:QQ)(o2:QK)(o3:XJ)(o4:XX):Option ((Unit)⊕(Int×Int)):=some (Sum.inr (j,f))
theorem lR(v:Value)(e a:Int)(w:World):
  Calls Tryz.prog 85 #[v,.int .i64 e,.int .i64 a] w fun r f=>r = .panicked [{ v:=aY 72 .i64 .i64 (e,a),recovered:=false }]∧f=w:=by
 go_enter Tryz.func85,Tryz.ntmps85;go_wp2
 exact⟨rfl,rfl,rfl⟩
theorem aX{p f:Int}{u:QX}{x p3 p4 p5 p6:Int}{o1:QQ}{o2:QK}{o3:XJ}{o4:XX}{j:(Unit)⊕(Int×Int)}(h:bc p f u x p3 p4 p5 p6 o1 o2 o3 o4=some j):
  iT Tryz.prog 85 [.adr 0 0 10 0,.i64 p,.i64 f] (bN u x p3 p4 p5 p6 o1 o2 o3 o4) (ky (fun(q:Unit)=>(.tup [],[])) (aY 72 .i64 .i64) j):=by
 obtain rfl:=sI h;exact jR.Cd Tryz.func85 (by kernel_rfl) rfl (fun v w=>lR v _ _ w)
def dC(j:QX)(E I J L:Int)(o1:QQ)(o2:QK)(o3:XJ)(o4:XX):(Int)→Option ((Int)⊕((Int)⊕((Int×Int)⊕(Int×Int)))):=fun f =>
 (if(decide (f<(j.length:Int)))=true then(if 0≤f∧f<(j.length:Int)then(if(((j.getD f.toNat 0).toNat:Int) == 35)=true then(if 0≤f∧f≤(j.length:Int)∧(j.length:Int)≤(j.length:Int)then((eH ((j.take (j.length:Int).toNat).drop f.toNat) 10).bind fun p =>
 (((if(decide (p<0))=true then some ((i64.wrap ((j.length:Int) - f)))
 else some (p))).bind fun q=>some (Sum.inl (i64.wrap (f+q)))))else none)
 else((iM ((j.getD f.toNat 0).toNat:Int)).bind fun u =>
 (if u=true then some (Sum.inl (i64.wrap (f+1)))
 else((((dw ((j.getD f.toNat 0).toNat:Int)).bind fun v =>
 (if(!v)=true then((eH ([40,41,91,93,94,124,42,43,63,46,59,47,61]:QX) ((j.getD f.toNat 0).toNat:Int)).bind fun z =>
 some ((decide (z<0))))
 else some (false)))).bind fun A=>(if A=true then((bc 20 f j f E I J L o1 o2 o3 o4).bind fun(B:(Unit)⊕(Int×Int))=>match B with
 | .inr (C,D)=>some (Sum.inr (Sum.inr (Sum.inl (C,D))))
 | .inl _=>none)
 else some (Sum.inr (Sum.inr (Sum.inr (((j.getD f.toNat 0).toNat:Int),f)))))))))else none)
 else some (Sum.inr (Sum.inl f)))
def bh(z:QX)(A B C D E:Int)(o1:QQ)(o2:QK)(o3:XJ)(o4:XX):Option ((Int×Int)⊕(Int×Int)) :=
 ((iter (dC z B C D E o1 o2 o3 o4) A).bind fun(f:((Int)⊕((Int×Int)⊕(Int×Int))))=>match f with
 | .inl j=>some (Sum.inl (0,j))
 | .inr (.inl (p,q))=>some (Sum.inr (p,q))
 | .inr (.inr ((u,v)))=>some (Sum.inl (u,v)))
theorem aP{u:QX}{d2 v x z A:Int}{o1:QQ}{o2:QK}{o3:XJ}{o4:XX}{E:(Int×Int)⊕(Int×Int)}(h:bh u d2 v x z A o1 o2 o3 o4=some E):
  iT Tryz.prog 102 [.adr 0 0 10 0] (bN u d2 v x z A o1 o2 o3 o4) (ky (fun(q:Int×Int)=>(.u8 q.1,(bN u q.2 v x z A o1 o2 o3 o4))) (aY 72 .i64 .i64) E):=by
 refine DB Tryz.func102 (fun Bw w0=>?_);unfold bh at h;refine G (ag (ak (kS h (fun j=>az [(0,.adr 0 0 10 0)] (bN u j v x z A o1 o2 o3 o4) 5 5) (dz (fD Tryz.f102.ntmps 0 (fun B=>az [] (bN u B v x z A o1 o2 o3 o4) 5 5)) (dz (rH (aY 72 .i64 .i64)) (Df tb Tryz.f102.ntmps Tryz.f102.results.toList (fun(I,J)=>(.u8 I,(bN u J v x z A o1 o2 o3 o4)))))) (gg [] [0,1,2,3,4]) (fun j o h=>?_) (fun N h e σ' O=>?_))))
 ·unfold dC at h;refine ag (GD a0 [] (aC h (fun V h=>?_) (fun V h=>?_)))
  ·refine ae (ab (ak ?_));obtain⟨X,h⟩:=aD h;refine GD a0 [(8,8,oc X)] (G (aC h (fun Y h=>?_) (fun Y h=>?_)))
   ·obtain⟨Z,h⟩:=aD h;obtain⟨aa,a1,h⟩:=ai h;have f:=(jY a1);refine GD ⟨[],[(9,(oP f))]⟩ [(8,8,oc Z),(9,9,oc f)] (ag (G (br h (fun C=>az [(0,.adr 0 0 10 0),(4,.i64 C)] (bN u j v x z A o1 o2 o3 o4) 5 5) (fun C h=>?_) (fun C h=>?_))))
    ·refine aC h (fun a2 h=>?_) (fun a2 h=>?_)
     ·exact nj a0 [] (eN h (gg [] [0,1,2,3,4]))
     exact ae (eN h (gg [] [0,1,2,3,4]))
    refine ab (Ge (ay ?_));exact eB h (gg [] [0,1,2,3,4])
   obtain⟨ac,a3,h⟩:=ai h;refine GP 1 (vR a3) (aC h (fun a4 h=>?_) (fun a4 h=>?_))
   ·refine Ge (ay ?_);exact eB h (gg [] [0,1,2,3,4])
   refine ag (ag (br h (fun D=>az [(0,.adr 0 0 10 0),(3,.u8 ((u.getD j.toNat 0).toNat:Int)),(72,.bo D)] (bN u j v x z A o1 o2 o3 o4) 5 5) (fun D h=>?_) (fun D h=>?_)))
   ·obtain⟨ad,L,h⟩:=ai h;rcases aN h with⟨p,h⟩ | ⟨p,h⟩
    ·obtain⟨ax,a5,h⟩:=ai h;have f:=(cS L);have M:=(jY a5);exact bC ⟨[(3,true),(7,true)],[(1,(oP f)),(5,(oP M))]⟩ [(1,1,oc f),(4,4,an p),(5,5,oc (And.intro p M)),(6,6,an p),(7,7,oc p)] (eN h (gg [] [0,1,2,3,4]))
    have f:=(cS L);exact bC ⟨[(3,false),(7,false)],[(1,(oP f))]⟩ [(1,1,oc f),(4,7,oc p)] (eN h (gg [] [0,1,2,3,4]))
   refine ab (aC h (fun a6 h=>?_) (fun a6 h=>?_))
   ·obtain⟨a7,a8,h⟩:=ai h;rcases a7 with _ | ⟨b1,b2⟩
    ·cases h
    refine GX 5 [0,1,2,3,4] (aX a8) (fun _=>?_);obtain rfl:=sI h;refine aE (bp (bW (aM (Ck ?_))));exact rfl
   refine ae (ab (G (av ?_)));obtain rfl:=sI h;refine aA (bM (aM (aM ?_)));exact yL (RO [some (.int .u8)] [] [0,1,2,3,4] [(2,.u8 ((u.getD j.toNat 0).toNat:Int))] (bN u j v x z A o1 o2 o3 o4) 5 5)
  refine au (aQ ?_);obtain rfl:=sI h;refine dL (bk ?_);exact bT (gg [] [0,1,2,3,4])
 rcases N with B | ⟨b3,b4⟩ | ⟨I,J⟩
 ·obtain⟨rfl,a9⟩:=O;refine cH ?_ a9;refine aw (ab (G (av ?_)));obtain rfl:=sI h;exact RO [some (.int .u8)] [] [0,1,2,3,4] [(2,.u8 0)] (bN u B v x z A o1 o2 o3 o4) 5 5
 ·obtain rfl:=O;refine bp (aE ?_);obtain rfl:=sI h;exact rfl
 obtain⟨rfl,hr⟩:=O;refine aA (aj ?_);obtain rfl:=sI h;exact hr
def dB(j:QX):(Int)→Option ((Int)⊕(Int)):=fun f =>
 (((if(decide (f<(j.length:Int)))=true then(if 0≤f∧f<(j.length:Int)then((dw ((j.getD f.toNat 0).toNat:Int)).bind fun p =>
 some (p))else none)
 else some (false))).bind fun q=>(if q=true then some (Sum.inl (i64.wrap (f+1)))
 else some (Sum.inr f)))
def bY(p:QX)(B p3 p4 p5 p6:Int)(o1:QQ)(o2:QK)(o3:XJ)(o4:XX):Option ((QX×Int×Int)⊕(Int×Int)) :=
 ((bh p B p3 p4 p5 p6 o1 o2 o3 o4).bind fun(C:(Int×Int)⊕(Int×Int))=>match C with
 | .inr (q,u)=>some (Sum.inr (q,u))
 | .inl (v,f)=>((dw v).bind fun x =>
 (if(!x)=true then((bc 21 f p f p3 p4 p5 p6 o1 o2 o3 o4).bind fun(D:(Unit)⊕(Int×Int))=>match D with
 | .inr (z,A)=>some (Sum.inr (z,A))
 | .inl _=>none)
 else((iter (dB p) f).bind fun j=>(if 0≤f∧f≤j∧j≤(p.length:Int)then some (Sum.inl (((p.take j.toNat).drop f.toNat),f,j))else none)))))
theorem bA{v:QX}{O p3 p4 p5 p6:Int}{o1:QQ}{o2:QK}{o3:XJ}{o4:XX}{z:(QX×Int×Int)⊕(Int×Int)}(h:bY v O p3 p4 p5 p6 o1 o2 o3 o4=some z):
  iT Tryz.prog 103 [.adr 0 0 10 0] (bN v O p3 p4 p5 p6 o1 o2 o3 o4) (ky (fun(q:QX×Int×Int)=>(.tup [.st q.1,.i64 q.2.1],(bN v q.2.2 p3 p4 p5 p6 o1 o2 o3 o4))) (aY 72 .i64 .i64) z):=by
 refine DB Tryz.func103 (fun Bw w0=>?_);unfold bY at h;refine G (ag (ag ?_));obtain⟨V,A,h⟩:=ai h;rcases V with⟨X,j⟩ | ⟨Y,Z⟩
 ·obtain⟨a1,C,h⟩:=ai h;have p:=(aP A);have B:=(cS C);refine bC ⟨[],[(1,(oO p [0,1,2,3,4])),(2,(oP B))]⟩ [(1,1,oc p),(2,2,oc B)] (ab (aC h (fun D h=>?_) (fun D h=>?_)))
  ·obtain⟨z8,E,h⟩:=ai h;rcases z8 with _ | ⟨a2,a3⟩
   ·cases h
   refine GX 5 [0,1,2,3,4] (aX E) (fun _=>aE ?_);obtain rfl:=sI h;exact rfl
  refine ae (ab (G (ag (ak (cz h (fun x=>az [(0,.adr 0 0 10 0),(4,.i64 j)] (bN v x p3 p4 p5 p6 o1 o2 o3 o4) 5 5) 0 (fun u=>az [(0,.adr 0 0 10 0),(4,.i64 j)] (bN v u p3 p4 p5 p6 o1 o2 o3 o4) 5 5) (gg [] [0,1,2,3,4]) (fun x o h=>?_) (fun u h=>?_))))))
  ·unfold dB at h;refine ag (ag (br h (fun I=>az [(0,.adr 0 0 10 0),(4,.i64 j),(40,.bo I)] (bN v x p3 p4 p5 p6 o1 o2 o3 o4) 5 5) (fun I h=>?_) (fun I h=>?_)))
   ·rcases aN h with⟨f,h⟩ | ⟨f,h⟩
    ·obtain⟨J,h⟩:=aD h;obtain⟨a4,L,h⟩:=ai h;have p:=(cS L);exact nj ⟨[(10,true),(21,true)],[(20,(oP p))]⟩ [(11,18,an f),(19,19,oc (And.intro f J)),(20,20,oc (And.intro f p)),(21,21,oc f)] (eN h (gg [] [0,1,2,3,4]))
    exact nj ⟨[(10,false),(21,false)],[]⟩ [(11,21,oc f)] (eN h (gg [] [0,1,2,3,4]))
   refine ab (aC h (fun M h=>?_) (fun M h=>?_))
   ·refine ae (ab (ak (Ge (ay ?_))));exact eB h (gg [] [0,1,2,3,4])
   refine au (aQ ?_);exact eX h (gg [] [0,1,2,3,4])
  refine aw (ab ?_);obtain⟨N,h⟩:=aD h;refine GD a0 [(9,9,oc N)] (av ?_);obtain rfl:=sI h;exact RO [some .str,some (.int .i64)] [] [0,1,2,3,4] [(2,.st ((v.take u.toNat).drop j.toNat)),(3,.i64 j)] (bN v u p3 p4 p5 p6 o1 o2 o3 o4) 5 5
 refine GX 1 [0,1,2,3,4] (aP A) (fun _=>aE (aE ?_));obtain rfl:=sI h;exact rfl
def bj(j:Int)(p:QX)(q p3 p4 p5 p6:Int)(o1:QQ)(o2:QK)(o3:XJ)(o4:XX):Option ((Bool×Int)⊕(Int×Int)) :=
 ((bh p q p3 p4 p5 p6 o1 o2 o3 o4).bind fun(u:(Int×Int)⊕(Int×Int))=>match u with
 | .inr (v,x)=>some (Sum.inr (v,x))
 | .inl (z,f)=>(if(z != j)=true then some (Sum.inl (false,f))
 else some (Sum.inl (true,(i64.wrap (f+1))))))
theorem aK{p:Int}{f:QX}{u p3 p4 p5 p6:Int}{o1:QQ}{o2:QK}{o3:XJ}{o4:XX}{j:(Bool×Int)⊕(Int×Int)}(h:bj p f u p3 p4 p5 p6 o1 o2 o3 o4=some j):
  iT Tryz.prog 119 [.adr 0 0 10 0,.u8 p] (bN f u p3 p4 p5 p6 o1 o2 o3 o4) (ky (fun(q:Bool×Int)=>(.bo q.1,(bN f q.2 p3 p4 p5 p6 o1 o2 o3 o4))) (aY 72 .i64 .i64) j):=by
 refine DB Tryz.func119 (fun Bw w0=>?_);unfold bj at h;refine G (ag (ag ?_));obtain⟨z,v,h⟩:=ai h;rcases z with⟨B,x⟩ | ⟨C,D⟩
 ·refine mN 1 [0,1,2,3,4] (aP v) (ab (aC h (fun A h=>?_) (fun A h=>?_)))
  ·refine G (av (aj ?_));obtain rfl:=sI h;exact RO [some .bool] [] [0,1,2,3,4] [(4,.bo false)] (bN f x p3 p4 p5 p6 o1 o2 o3 o4) 5 5
  refine ae (ab (G (G (av ?_))));obtain rfl:=sI h;exact RO [some .bool] [] [0,1,2,3,4] [(4,.bo true)] (bN f (i64.wrap (x+1)) p3 p4 p5 p6 o1 o2 o3 o4) 5 5
 refine GX 1 [0,1,2,3,4] (aP v) (fun _=>aE (aE ?_));obtain rfl:=sI h;exact rfl
def cY(z:QX)(A p3 p4 p5 p6:Int)(o1:QQ)(o2:QK)(o3:XJ)(o4:XX):Option (Z4⊕(Int×Int)) :=
 ((bY z A p3 p4 p5 p6 o1 o2 o3 o4).bind fun(B:(QX×Int×Int)⊕(Int×Int))=>match B with
 | .inr (p,q)=>some (Sum.inr (p,q))
 | .inl (f,u,j)=>(if((bg .str o4 f).isSome)=true then((bc 23 u z j p3 p4 p5 p6 o1 o2 o3 o4).bind fun(C:(Unit)⊕(Int×Int))=>match C with
 | .inr (v,x)=>some (Sum.inr (v,x))
 | .inl _=>none)
 else some (Sum.inl (f,j))))
theorem dx{j:QX}{v p3 p4 p5 p6:Int}{o1:QQ}{o2:QK}{o3:XJ}{o4:XX}{f:Z4⊕(Int×Int)}(h:cY j v p3 p4 p5 p6 o1 o2 o3 o4=some f):
  iT Tryz.prog 120 [.adr 0 0 10 0] (bN j v p3 p4 p5 p6 o1 o2 o3 o4) (ky (fun(q:QX×Int)=>(.st q.1,(bN j q.2 p3 p4 p5 p6 o1 o2 o3 o4))) (aY 72 .i64 .i64) f):=by
 refine DB Tryz.func120 (fun Bw w0=>?_);unfold cY at h;refine G (ag ?_);obtain⟨z,x,h⟩:=ai h;rcases z with⟨p,A,u⟩ | ⟨B,C⟩
 ·refine mN 1 [0,1,2,3,4] (bA x) (ab (ag (G (G (aC h (fun D h=>?_) (fun D h=>?_))))))
  ·obtain⟨E,I,h⟩:=ai h;rcases E with _ | ⟨J,L⟩
   ·cases h
   refine GX 2 [0,1,2,3,4] (aX I) (fun _=>aE ?_);obtain rfl:=sI h;exact rfl
  refine ae (ab (G (av ?_)));obtain rfl:=sI h;exact RO [some .str] [] [0,1,2,3,4] [(2,.st p)] (bN j u p3 p4 p5 p6 o1 o2 o3 o4) 5 5
 refine GX 1 [0,1,2,3,4] (bA x) (fun _=>aE ?_);obtain rfl:=sI h;exact rfl
def ie(A:QX)(B C D E:Int)(o3:XJ):(Int×QQ×QK×XX)→Option ((Int×QQ×QK×XX)⊕((Int×QQ×QK×XX)⊕(Int×Int))):=fun(I,f,j,p) =>
 ((bj 59 A I B C D E f j o3 p).bind fun(J:(Bool×Int)⊕(Int×Int))=>match J with
 | .inr (L,M)=>some (Sum.inr (Sum.inr (L,M)))
 | .inl (N,u)=>(if(!N)=true then((bh A u B C D E f j o3 p).bind fun(O:(Int×Int)⊕(Int×Int))=>match O with
 | .inr (V,X)=>some (Sum.inr (Sum.inr (V,X)))
 | .inl (a4,v)=>((cY A v B C D E f j o3 p).bind fun(Y:Z4⊕(Int×Int))=>match Y with
 | .inr (Z,a1)=>some (Sum.inr (Sum.inr (Z,a1)))
 | .inl (q,x)=>(if(decide ((f.length:Int)≥24))=true then((bc 24 v A x B C D E f j o3 p).bind fun(a2:(Unit)⊕(Int×Int))=>match a2 with
 | .inr (a3,z)=>some (Sum.inr (Sum.inr (a3,z)))
 | .inl _=>none)
 else(if 0≤(f.length:Int)then(if(j.length+([(f.length:Int)]:QK).length)*8≤140737488355328∧j.length+([(f.length:Int)]:QK).length≤9223372036854775807 then(if(f.length+([q]:QQ).length)*16≤140737488355328∧f.length+([q]:QQ).length≤9223372036854775807 then some (Sum.inl (x,(f++([q]:QQ)),(j++([(f.length:Int)]:QK)),(cF .str p q (u32.wrap (1*2 ^ (min (f.length:Int).toNat u32.bits))))))else none)else none)else none))))
 else some (Sum.inr (Sum.inl (u,f,j,p)))))
def eC(u:QX)(v x z A B:Int)(o1:QQ)(o2:QK)(o3:XJ)(o4:XX):Option ((Int×QQ×QK×XX)⊕(Int×Int)) :=
 ((iter (ie u x z A B o3) (v,o1,o2,o4)).bind fun(f:((Int×QQ×QK×XX)⊕(Int×Int)))=>match f with
 | .inl (C,v10,v11,j)=>some (Sum.inl (C,v10,v11,j))
 | .inr ((p,q))=>some (Sum.inr (p,q)))
theorem hJ{j:QX}{d2 p u v x:Int}{o1:QQ}{o2:QK}{o3:XJ}{o4:XX}{z:(Int×QQ×QK×XX)⊕(Int×Int)}(h:eC j d2 p u v x o1 o2 o3 o4=some z):
  iT Tryz.prog 98 [.adr 0 0 10 0] (bN j d2 p u v x o1 o2 o3 o4) (ky (fun(q:Int×QQ×QK×XX)=>(.tup [],(Jl j q.1 p u v x o3 q.2.2.2 q.2.1 q.2.2.1))) (aY 72 .i64 .i64) z):=by
 refine DB Tryz.func98 (fun Bw w0=>?_);unfold eC at h;refine ak (kS h (fun(A,B,C,D)=>az [(0,.adr 0 0 10 0)] (Jl j A p u v x o3 D B C) 7 5) (dz (fD Tryz.f98.ntmps 0 (fun(L,v10,v11,f)=>az [] (Jl j L p u v x o3 f v10 v11) 7 5)) (rH (aY 72 .i64 .i64))) (gg [] [0,1,2,3,4,1,2]) (fun y o h=>?_) (fun M h e σ' hq=>?_))
 ·obtain⟨A,B,C,D⟩:=y;unfold ie at h;refine ag (ag ?_);obtain⟨N,E,h⟩:=ai h;rcases N with⟨a6,a7⟩ | ⟨a8,a9⟩
  ·refine mN 1 [0,5,6,3,4] (aK E) (ab (aC h (fun O h=>?_) (fun O h=>?_)))
   ·refine ae (ab (ak (ag ?_)));obtain⟨V,I,h⟩:=ai h;rcases V with⟨aa,ac⟩ | ⟨ad,ax⟩
    ·refine mN 1 [0,5,6,3,4] (aP I) (ab (G (ag ?_)));obtain⟨X,J,h⟩:=ai h;rcases X with⟨b1,b2⟩ | ⟨b3,b4⟩
     ·refine mN 1 [0,5,6,3,4] (dx J) (ab (ag (G (aC h (fun Y h=>?_) (fun Y h=>?_)))))
      ·obtain⟨Z,a1,h⟩:=ai h;rcases Z with _ | ⟨b5,a5⟩
       ·cases h
       refine GX 2 [0,5,6,3,4] (aX a1) (fun _=>?_);obtain rfl:=sI h;refine aE (bp (bW (aM ?_)));exact rfl
      refine ae (ab ?_);obtain⟨a2,h⟩:=aD h;refine GD a0 [(11,11,oc a2)] ?_;obtain⟨a3,h⟩:=aD h;refine GD a0 [(13,13,oc a3)] (Ak 8 h (fun h=>ay ?_));exact eB h (gg [] [0,1,2,3,4,479,375])
     refine GX 1 [0,5,6,3,4] (dx J) (fun _=>?_);obtain rfl:=sI h;refine aE (bp (bW (aM ?_)));exact rfl
    refine GX 1 [0,5,6,3,4] (aP I) (fun _=>?_);obtain rfl:=sI h;refine aE (bp (bW (aM ?_)));exact rfl
   refine au (aQ ?_);obtain rfl:=sI h;refine dL (bk ?_);exact bT (gg [] [0,1,2,3,4,5,6])
  refine GX 1 [0,5,6,3,4] (aK E) (fun _=>?_);obtain rfl:=sI h;refine aE (aE (bW (aM ?_)));exact rfl
 rcases M with⟨L,v10,v11,f⟩ | ⟨b6,b7⟩
 ·obtain⟨rfl,a4⟩:=hq;refine cH ?_ a4;refine aw ?_;obtain rfl:=sI h;exact(RO [] [] [0,1,2,3,4,5,6] [] (Jl j L p u v x o3 f v10 v11) 7 5).normal
 obtain rfl:=hq;refine bp ?_;obtain rfl:=sI h;exact rfl
def bF(x:Int)(v:QX)(z p3 p4 p5 p6:Int)(o1:QQ)(o2:QK)(o3:XJ)(o4:XX):Option ((Int)⊕(Int×Int)) :=
 ((bj x v z p3 p4 p5 p6 o1 o2 o3 o4).bind fun(A:(Bool×Int)⊕(Int×Int))=>match A with
 | .inr (f,j)=>some (Sum.inr (f,j))
 | .inl (B,p)=>(if(!B)=true then((bc 21 p v p p3 p4 p5 p6 o1 o2 o3 o4).bind fun(C:(Unit)⊕(Int×Int))=>match C with
 | .inr (q,u)=>some (Sum.inr (q,u))
 | .inl _=>none)
 else some (Sum.inl p)))
theorem aT{p:Int}{j:QX}{u p3 p4 p5 p6:Int}{o1:QQ}{o2:QK}{o3:XJ}{o4:XX}{f:(Int)⊕(Int×Int)}(h:bF p j u p3 p4 p5 p6 o1 o2 o3 o4=some f):
  iT Tryz.prog 121 [.adr 0 0 10 0,.u8 p] (bN j u p3 p4 p5 p6 o1 o2 o3 o4) (ky (fun(q:Int)=>(.tup [],(bN j q p3 p4 p5 p6 o1 o2 o3 o4))) (aY 72 .i64 .i64) f):=by
 refine DB Tryz.func121 (fun Bw w0=>?_);unfold bF at h;refine ag ?_;obtain⟨x,v,h⟩:=ai h;rcases x with⟨L,z⟩ | ⟨A,B⟩
 ·refine mN 2 [0,1,2,3,4] (aK v) (ab (aC h (fun C h=>?_) (fun C h=>?_)))
  ·obtain⟨D,E,h⟩:=ai h;rcases D with _ | ⟨I,J⟩
   ·cases h
   refine GX 5 [0,1,2,3,4] (aX E) (fun _=>?_);obtain rfl:=sI h;exact rfl
  refine ae ?_;obtain rfl:=sI h;exact(RO [] [] [0,1,2,3,4] [] (bN j z p3 p4 p5 p6 o1 o2 o3 o4) 5 5).normal
 refine GX 2 [0,1,2,3,4] (aK v) (fun _=>aE ?_);obtain rfl:=sI h;exact rfl
def cW(z:QX)(A p3 p4 p5 p6:Int)(o1:QQ)(o2:QK)(o3:XJ)(o4:XX):Option ((Int×Int)⊕(Int×Int)) :=
 ((bY z A p3 p4 p5 p6 o1 o2 o3 o4).bind fun(B:(QX×Int×Int)⊕(Int×Int))=>match B with
 | .inr (p,q)=>some (Sum.inr (p,q))
 | .inl (f,u,j)=>(if((bg .str o4 f).isSome)=true then some (Sum.inl (((bg .str o4 f).getD 0),j))
 else((bc 22 u z j p3 p4 p5 p6 o1 o2 o3 o4).bind fun(C:(Unit)⊕(Int×Int))=>match C with
 | .inr (v,x)=>some (Sum.inr (v,x))
 | .inl _=>none)))
theorem dr{j:QX}{v p3 p4 p5 p6:Int}{o1:QQ}{o2:QK}{o3:XJ}{o4:XX}{f:(Int×Int)⊕(Int×Int)}(h:cW j v p3 p4 p5 p6 o1 o2 o3 o4=some f):
  iT Tryz.prog 130 [.adr 0 0 10 0] (bN j v p3 p4 p5 p6 o1 o2 o3 o4) (ky (fun(q:Int×Int)=>(.u32 q.1,(bN j q.2 p3 p4 p5 p6 o1 o2 o3 o4))) (aY 72 .i64 .i64) f):=by
 refine DB Tryz.func130 (fun Bw w0=>?_);unfold cW at h;refine G (ag ?_);obtain⟨z,x,h⟩:=ai h;rcases z with⟨p,A,u⟩ | ⟨B,C⟩
 ·refine mN 1 [0,1,2,3,4] (bA x) (ab (ag (G (G (aC h (fun D h=>?_) (fun D h=>?_))))))
  ·refine G (av (aj ?_));obtain rfl:=sI h;exact RO [some (.int .u32)] [] [0,1,2,3,4] [(2,.u32 ((bg .str o4 p).getD 0))] (bN j u p3 p4 p5 p6 o1 o2 o3 o4) 5 5
  refine ae (ab (ag ?_));obtain⟨E,I,h⟩:=ai h;rcases E with _ | ⟨J,L⟩
  ·cases h
  refine GX 2 [0,1,2,3,4] (aX I) (fun _=>aE ?_);obtain rfl:=sI h;exact rfl
 refine GX 1 [0,1,2,3,4] (bA x) (fun _=>aE ?_);obtain rfl:=sI h;exact rfl
def dX(j:Int)(I:QX)(p3 p4 p5 p6:Int)(o1:QQ)(o2:QK)(o3:XJ)(o4:XX):(Int×Int)→Option ((Int×Int)⊕((Int×Int)⊕(Int×Int))):=fun(q,f) =>
 ((bh I q p3 p4 p5 p6 o1 o2 o3 o4).bind fun(u:(Int×Int)⊕(Int×Int))=>match u with
 | .inr (v,x)=>some (Sum.inr (Sum.inr (v,x)))
 | .inl (z,p)=>(if(z != j)=true then((cW I p p3 p4 p5 p6 o1 o2 o3 o4).bind fun(A:(Int×Int)⊕(Int×Int))=>match A with
 | .inr (B,C)=>some (Sum.inr (Sum.inr (B,C)))
 | .inl (D,E)=>some (Sum.inl (E,(bitsOf .or .u32 f D))))
 else some (Sum.inr (Sum.inl (p,f)))))
def bI(j:Int)(x:QX)(z p3 p4 p5 p6:Int)(o1:QQ)(o2:QK)(o3:XJ)(o4:XX):Option ((Int×Int)⊕(Int×Int)) :=
 ((iter (dX j x p3 p4 p5 p6 o1 o2 o3 o4) (z,0)).bind fun(p:((Int×Int)⊕(Int×Int)))=>match p with
 | .inl (q,f)=>some (Sum.inl (f,(i64.wrap (q+1))))
 | .inr ((u,v))=>some (Sum.inr (u,v)))
theorem aJ{j:Int}{v:QX}{J p3 p4 p5 p6:Int}{o1:QQ}{o2:QK}{o3:XJ}{o4:XX}{x:(Int×Int)⊕(Int×Int)}(h:bI j v J p3 p4 p5 p6 o1 o2 o3 o4=some x):
  iT Tryz.prog 122 [.adr 0 0 10 0,.u8 j] (bN v J p3 p4 p5 p6 o1 o2 o3 o4) (ky (fun(q:Int×Int)=>(.u32 q.1,(bN v q.2 p3 p4 p5 p6 o1 o2 o3 o4))) (aY 72 .i64 .i64) x):=by
 refine DB Tryz.func122 (fun Bw w0=>?_);unfold bI at h;refine G (G (ag (ak (kS h (fun(z,p)=>az [(0,.adr 0 0 10 0),(1,.u8 j),(5,.u32 p)] (bN v z p3 p4 p5 p6 o1 o2 o3 o4) 5 5) (dz (fD Tryz.f122.ntmps 0 (fun(u,f)=>az [(0,.adr 0 0 10 0),(5,.u32 f)] (bN v u p3 p4 p5 p6 o1 o2 o3 o4) 5 5)) (rH (aY 72 .i64 .i64))) (gg [] [0,1,2,3,4]) (fun y o h=>?_) (fun C h e σ' L=>?_)))))
 ·obtain⟨z,p⟩:=y;unfold dX at h;refine ag (ag ?_);obtain⟨D,A,h⟩:=ai h;rcases D with⟨M,N⟩ | ⟨O,V⟩
  ·refine mN 1 [0,1,2,3,4] (aP A) (ab (aC h (fun X h=>?_) (fun X h=>?_)))
   ·refine ae (ab (ak ?_));obtain⟨E,B,h⟩:=ai h;rcases E with⟨Y,Z⟩ | ⟨a1,a2⟩
    ·refine mN 2 [0,1,2,3,4] (dr B) (ay ?_);exact eB h (gg [] [0,1,2,3,4])
    refine GX 2 [0,1,2,3,4] (dr B) (fun _=>?_);obtain rfl:=sI h;refine bp (bW (aM ?_));exact rfl
   refine au (aQ ?_);obtain rfl:=sI h;refine dL (bk ?_);exact bT (gg [] [0,1,2,3,4])
  refine GX 1 [0,1,2,3,4] (aP A) (fun _=>?_);obtain rfl:=sI h;refine aE (aE (bW (aM ?_)));exact rfl
 rcases C with⟨u,f⟩ | ⟨a3,a4⟩
 ·obtain⟨rfl,I⟩:=L;refine cH ?_ I;refine aw (ab (G (G (av ?_))));obtain rfl:=sI h;exact RO [some (.int .u32)] [] [0,1,2,3,4] [(4,.u32 f)] (bN v (i64.wrap (u+1)) p3 p4 p5 p6 o1 o2 o3 o4) 5 5
 obtain rfl:=L;refine bp (aE ?_);obtain rfl:=sI h;exact rfl
def fh(f:QX)(J p3 p4 p5 p6:Int)(o1:QQ)(o2:QK)(o3:XJ)(o4:XX):Option ((Int×XX)⊕(Int×Int)) :=
 ((cY f J p3 p4 p5 p6 o1 o2 o3 o4).bind fun(L:Z4⊕(Int×Int))=>match L with
 | .inr (j,p)=>some (Sum.inr (j,p))
 | .inl (q,u)=>((bF 61 f u p3 p4 p5 p6 o1 o2 o3 o4).bind fun(v:(Int)⊕(Int×Int))=>match v with
 | .inr (x,z)=>some (Sum.inr (x,z))
 | .inl A=>((bI 59 f A p3 p4 p5 p6 o1 o2 o3 o4).bind fun(B:(Int×Int)⊕(Int×Int))=>match B with
 | .inr (C,D)=>some (Sum.inr (C,D))
 | .inl (E,I)=>some (Sum.inl (I,(cF .str o4 q E))))))
theorem jm{v:QX}{L p3 p4 p5 p6:Int}{o1:QQ}{o2:QK}{o3:XJ}{o4:XX}{x:(Int×XX)⊕(Int×Int)}(h:fh v L p3 p4 p5 p6 o1 o2 o3 o4=some x):
  iT Tryz.prog 99 [.adr 0 0 10 0] (bN v L p3 p4 p5 p6 o1 o2 o3 o4) (ky (fun(q:Int×XX)=>(.tup [],(bN v q.1 p3 p4 p5 p6 o1 o2 o3 q.2))) (aY 72 .i64 .i64) x):=by
 refine DB Tryz.func99 (fun Bw w0=>?_);unfold fh at h;refine ag ?_;obtain⟨N,M,h⟩:=ai h;rcases N with⟨z,O⟩ | ⟨V,X⟩
 ·refine mN 1 [0,1,2,3,4] (dx M) (ab (ag ?_));obtain⟨E,A,h⟩:=ai h;rcases E with B | ⟨Y,Z⟩
  ·refine mN 1 [0,1,2,3,4] (aT A) (ab ?_);obtain⟨I,u,h⟩:=ai h;rcases I with⟨C,D⟩ | ⟨j,p⟩
   ·have f:=(aJ u);refine oI je mixed ⟨[],[(6,(oO f [0,1,2,3,4]))]⟩ (.one 0 (.one 1 (.one 2 (.one 4 (.one 5 (.two 3 (.one 6 (.one 7 (.leaf))) 6 (.one 3 (.one 7 (.leaf))))))))) [([],[]),([],[]),([],[]),([0],[]),([],[]),([],[]),([0,1,2,3,4],[0,1,2,3,4,93,94,95,96,97,98,99,100]),([4],[4])] 2 [] [] [0,1,2,3,4] [] (bN v D p3 p4 p5 p6 o1 o2 o3 (cF .str o4 z C)) 5 5 (Ts 6 ((pO f)::(pO f)::(Ts 3 []))) (by kernel_rfl) (by kernel_rfl) (tr 6 ⟨f,f,(tr 3 tt)⟩) (fun _=>?_) (fun y J=>by cases J);obtain rfl:=sI h;exact(RO [] [] [0,1,2,3,4] [] (bN v D p3 p4 p5 p6 o1 o2 o3 (cF .str o4 z C)) 5 5).normal
   have f:=(aJ u);refine oI je mixed ⟨[],[(6,(oD f [0,1,2,3,4]))]⟩ (.one 0 (.one 1 (.one 2 (.one 4 (.one 5 (.twoD 3 (.dead 6) 6)))))) [([],[]),([],[]),([],[]),([0],[]),([],[]),([],[]),([0,1,2,3,4],[0,1,2,3,4,93,94,95,96,97,98,99,100]),([],[])] 0 [(aY 72 .i64 .i64 (j,p)),(aY 72 .i64 .i64 (j,p))] [] [0,1,2,3,4] [] [] 5 5 (Ts 6 [jR Tryz.prog 122 [.adr 0 0 10 0,.u8 59] (bN v B p3 p4 p5 p6 o1 o2 o3 o4) (aY 72 .i64 .i64 (j,p)),jR Tryz.prog 122 [.adr 0 0 10 0,.u8 59] (bN v B p3 p4 p5 p6 o1 o2 o3 o4) (aY 72 .i64 .i64 (j,p))]) (by kernel_rfl) (by kernel_rfl) (tr 6 ⟨(aJ u),(aJ u),tt⟩) (fun h0=>absurd rfl h0) (fun y J σ1=>?_);obtain rfl:y=(aY 72 .i64 .i64 (j,p)):=by simpa using J
   obtain rfl:=sI h;exact rfl
  refine GX 1 [0,1,2,3,4] (aT A) (fun _=>aE ?_);obtain rfl:=sI h;exact rfl
 refine GX 1 [0,1,2,3,4] (dx M) (fun _=>aE ?_);obtain rfl:=sI h;exact rfl
def eS(A:QX)(B p3 p4 p5 p6:Int)(o1:QQ)(o2:QK)(o3:XJ)(o4:XX):Option (Z7⊕(Int×Int)) :=
 ((bI 47 A B p3 p4 p5 p6 o1 o2 o3 o4).bind fun(C:(Int×Int)⊕(Int×Int))=>match C with
 | .inr (j,p)=>some (Sum.inr (j,p))
 | .inl (f,q)=>((bI 59 A q (bitsOf .or .u32 p3 f) p4 p5 p6 o1 o2 o3 o4).bind fun(D:(Int×Int)⊕(Int×Int))=>match D with
 | .inr (u,v)=>some (Sum.inr (u,v))
 | .inl (x,z)=>some (Sum.inl (z,(bitsOf .or .u32 p3 f),(bitsOf .or .u32 p4 x)))))
theorem iN{z:QX}{I p3 p4 p5 p6:Int}{o1:QQ}{o2:QK}{o3:XJ}{o4:XX}{C:Z7⊕(Int×Int)}(h:eS z I p3 p4 p5 p6 o1 o2 o3 o4=some C):
  iT Tryz.prog 100 [.adr 0 0 10 0] (bN z I p3 p4 p5 p6 o1 o2 o3 o4) (ky (fun(q:Int×Int×Int)=>(.tup [],(bN z q.1 q.2.1 q.2.2 p5 p6 o1 o2 o3 o4))) (aY 72 .i64 .i64) C):=by
 refine DB Tryz.func100 (fun Bw w0=>?_);unfold eS at h;refine ag ?_;obtain⟨N,J,h⟩:=ai h;rcases N with⟨j,A⟩ | ⟨p,u⟩
 ·have f:=(aJ J);refine oI je mixed ⟨[],[(6,(oO f [0,1,2,3,4]))]⟩ (.one 0 (.one 1 (.one 2 (.one 3 (.one 5 (.two 4 (.one 6 (.one 7 (.one 8 (.one 9 (.one 10 (.one 11 (.leaf))))))) 6 (.one 4 (.one 7 (.one 8 (.one 9 (.one 10 (.one 11 (.leaf))))))))))))) [([],[]),([],[]),([],[]),([],[]),([0],[]),([],[]),([0,1,2,3,4],[0,1,2,3,4,53,54,55,56,57,58,59,60]),([],[]),([],[]),([],[]),([],[]),([0],[0])] 2 [] [] [0,1,2,3,4] [(0,.adr 0 0 10 0)] (bN z A (bitsOf .or .u32 p3 j) p4 p5 p6 o1 o2 o3 o4) 5 5 (Ts 6 ((pO f)::(pO f)::(Ts 11 []))) (by kernel_rfl) (by kernel_rfl) (tr 6 ⟨f,f,(tr 11 tt)⟩) (fun _=>?_) (fun y B=>by cases B);refine ab ?_;obtain⟨O,L,h⟩:=ai h;rcases O with⟨D,E⟩ | ⟨v,x⟩
  ·have f:=(aJ L);refine oI je mixed ⟨[],[(6,(oO f [0,1,2,3,4]))]⟩ (.one 0 (.one 1 (.one 2 (.one 3 (.one 5 (.two 4 (.one 6 (.one 7 (.one 8 (.one 9 (.one 10 (.one 11 (.leaf))))))) 6 (.one 4 (.one 7 (.one 8 (.one 9 (.one 10 (.one 11 (.leaf))))))))))))) [([],[]),([],[]),([],[]),([],[]),([0],[]),([],[]),([0,1,2,3,4],[0,1,2,3,4,53,54,55,56,57,58,59,60]),([],[]),([],[]),([],[]),([],[]),([0],[0])] 2 [] [] [0,1,2,3,4] [] (bN z E (bitsOf .or .u32 p3 j) (bitsOf .or .u32 p4 D) p5 p6 o1 o2 o3 o4) 5 5 (Ts 6 ((pO f)::(pO f)::(Ts 11 []))) (by kernel_rfl) (by kernel_rfl) (tr 6 ⟨f,f,(tr 11 tt)⟩) (fun _=>?_) (fun y B=>by cases B);obtain rfl:=sI h;exact(RO [] [] [0,1,2,3,4] [] (bN z E (bitsOf .or .u32 p3 j) (bitsOf .or .u32 p4 D) p5 p6 o1 o2 o3 o4) 5 5).normal
  have f:=(aJ L);refine oI je mixed ⟨[],[(6,(oD f [0,1,2,3,4]))]⟩ (.one 0 (.one 1 (.one 2 (.one 3 (.one 5 (.twoD 4 (.dead 6) 6)))))) [([],[]),([],[]),([],[]),([],[]),([0],[]),([],[]),([0,1,2,3,4],[0,1,2,3,4,53,54,55,56,57,58,59,60]),([],[]),([],[]),([],[]),([],[]),([],[])] 0 [(aY 72 .i64 .i64 (v,x)),(aY 72 .i64 .i64 (v,x))] [] [0,1,2,3,4] [] [] 5 5 (Ts 6 [jR Tryz.prog 122 [.adr 0 0 10 0,.u8 59] (bN z A (bitsOf .or .u32 p3 j) p4 p5 p6 o1 o2 o3 o4) (aY 72 .i64 .i64 (v,x)),jR Tryz.prog 122 [.adr 0 0 10 0,.u8 59] (bN z A (bitsOf .or .u32 p3 j) p4 p5 p6 o1 o2 o3 o4) (aY 72 .i64 .i64 (v,x))]) (by kernel_rfl) (by kernel_rfl) (tr 6 ⟨(aJ L),(aJ L),tt⟩) (fun M=>absurd rfl M) (fun y B σ1=>?_);obtain rfl:y=(aY 72 .i64 .i64 (v,x)):=by simpa using B
  obtain rfl:=sI h;exact rfl
 have f:=(aJ J);refine oI je mixed ⟨[],[(6,(oD f [0,1,2,3,4]))]⟩ (.one 0 (.one 1 (.one 2 (.one 3 (.one 5 (.twoD 4 (.dead 6) 6)))))) [([],[]),([],[]),([],[]),([],[]),([0],[]),([],[]),([0,1,2,3,4],[0,1,2,3,4,53,54,55,56,57,58,59,60]),([],[]),([],[]),([],[]),([],[]),([],[])] 0 [(aY 72 .i64 .i64 (p,u)),(aY 72 .i64 .i64 (p,u))] [] [0,1,2,3,4] [] [] 5 5 (Ts 6 [jR Tryz.prog 122 [.adr 0 0 10 0,.u8 47] (bN z I p3 p4 p5 p6 o1 o2 o3 o4) (aY 72 .i64 .i64 (p,u)),jR Tryz.prog 122 [.adr 0 0 10 0,.u8 47] (bN z I p3 p4 p5 p6 o1 o2 o3 o4) (aY 72 .i64 .i64 (p,u))]) (by kernel_rfl) (by kernel_rfl) (tr 6 ⟨(aJ J),(aJ J),tt⟩) (fun M=>absurd rfl M) (fun y B σ1=>?_);obtain rfl:y=(aY 72 .i64 .i64 (p,u)):=by simpa using B
 refine aE ?_;obtain rfl:=sI h;exact rfl
def dJ(A:QX)(B p3 p4 p5 p6:Int)(o1:QQ)(o2:QK)(o3:XJ)(o4:XX):Option ((Int×Int)⊕(Int×Int)) :=
 ((bY A B p3 p4 p5 p6 o1 o2 o3 o4).bind fun(C:(QX×Int×Int)⊕(Int×Int))=>match C with
 | .inr (p,q)=>some (Sum.inr (p,q))
 | .inl (u,v,f)=>((cM o1 u).bind fun j =>
 (if(decide (j<0))=true then((bc 22 v A f p3 p4 p5 p6 o1 o2 o3 o4).bind fun(D:(Unit)⊕(Int×Int))=>match D with
 | .inr (x,z)=>some (Sum.inr (x,z))
 | .inl _=>none)
 else some (Sum.inl (j,f)))))
theorem cd{j:QX}{z p3 p4 p5 p6:Int}{o1:QQ}{o2:QK}{o3:XJ}{o4:XX}{f:(Int×Int)⊕(Int×Int)}(h:dJ j z p3 p4 p5 p6 o1 o2 o3 o4=some f):
  iT Tryz.prog 123 [.adr 0 0 10 0] (bN j z p3 p4 p5 p6 o1 o2 o3 o4) (ky (fun(q:Int×Int)=>(.i64 q.1,(bN j q.2 p3 p4 p5 p6 o1 o2 o3 o4))) (aY 72 .i64 .i64) f):=by
 refine DB Tryz.func123 (fun Bw w0=>?_);unfold dJ at h;refine G (ag ?_);obtain⟨B,A,h⟩:=ai h;rcases B with⟨C,D,p⟩ | ⟨E,I⟩
 ·refine mN 1 [0,1,2,3,4] (bA A) (ab ?_);obtain⟨u,v,h⟩:=ai h;refine GP 6 (jV true v) (ag (G (aC h (fun J h=>?_) (fun J h=>?_))))
  ·obtain⟨L,x,h⟩:=ai h;rcases L with _ | ⟨M,N⟩
   ·cases h
   refine GX 2 [0,1,2,3,4] (aX x) (fun _=>aE ?_);obtain rfl:=sI h;exact rfl
  refine ae (ab (G (av ?_)));obtain rfl:=sI h;exact RO [some (.int .i64)] [] [0,1,2,3,4] [(2,.i64 u)] (bN j p p3 p4 p5 p6 o1 o2 o3 o4) 5 5
 refine GX 1 [0,1,2,3,4] (bA A) (fun _=>aE ?_);obtain rfl:=sI h;exact rfl
def ez(p:QX)(V p3 p4 p5 p6:Int)(o1:QQ)(o2:QK)(o3:XJ)(o4:XX):Option ((Int×QK)⊕(Int×Int)) :=
 ((dJ p V p3 p4 p5 p6 o1 o2 o3 o4).bind fun(q:(Int×Int)⊕(Int×Int))=>match q with
 | .inr (u,v)=>some (Sum.inr (u,v))
 | .inl (f,x)=>((bF 61 p x p3 p4 p5 p6 o1 o2 o3 o4).bind fun(z:(Int)⊕(Int×Int))=>match z with
 | .inr (A,B)=>some (Sum.inr (A,B))
 | .inl C=>((dJ p C p3 p4 p5 p6 o1 o2 o3 o4).bind fun(D:(Int×Int)⊕(Int×Int))=>match D with
 | .inr (E,I)=>some (Sum.inr (E,I))
 | .inl (j,J)=>(if 0≤f∧f<(o2.length:Int)then(if f.toNat<o2.length then((bF 59 p J p3 p4 p5 p6 o1 (o2.set f.toNat j) o3 o4).bind fun(L:(Int)⊕(Int×Int))=>match L with
 | .inr (M,N)=>some (Sum.inr (M,N))
 | .inl O=>some (Sum.inl (O,(o2.set f.toNat j))))else none)else none))))
theorem hY{x:QX}{X p3 p4 p5 p6:Int}{o1:QQ}{o2:QK}{o3:XJ}{o4:XX}{z:(Int×QK)⊕(Int×Int)}(h:ez x X p3 p4 p5 p6 o1 o2 o3 o4=some z):
  iT Tryz.prog 101 [.adr 0 0 10 0] (bN x X p3 p4 p5 p6 o1 o2 o3 o4) (ky (fun(q:Int×QK)=>(.tup [],(bN x q.1 p3 p4 p5 p6 o1 q.2 o3 o4))) (aY 72 .i64 .i64) z):=by
 refine DB Tryz.func101 (fun Bw w0=>?_);unfold ez at h;refine ag ?_;obtain⟨I,A,h⟩:=ai h;rcases I with⟨f,a1⟩ | ⟨a2,a3⟩
 ·refine mN 1 [0,1,2,3,4] (cd A) (ab (ag ?_));obtain⟨J,B,h⟩:=ai h;rcases J with C | ⟨a4,a5⟩
  ·refine mN 1 [0,1,2,3,4] (aT B) (ab (ag ?_));obtain⟨L,v,h⟩:=ai h;rcases L with⟨D,M⟩ | ⟨p,u⟩
   ·obtain⟨Y,Z,h⟩:=g2 h;have j:=(cd v);refine oI je mixed ⟨[],[(7,(oO j [0,1,2,3,4]))]⟩ (.one 0 (.one 1 (.one 2 (.one 3 (.one 5 (.one 6 (.two 4 (.one 7 (.one 8 (.one 9 (.leaf)))) 7 (.one 4 (.one 8 (.one 9 (.leaf))))))))))) [([],[]),([],[]),([],[]),([],[]),([0],[]),([],[]),([],[]),([0,1,2,3,4],[0,1,2,3,4,101,102,103,104,105,106,107,108]),([2],[]),([2],[2])] 2 [] [] [0,1,2,3,4] [(0,.adr 0 0 10 0)] (bN x M p3 p4 p5 p6 o1 (o2.set f.toNat D) o3 o4) 5 5 (Ts 7 [pO j,pO j,0≤f∧f<(o2.length:Int),f.toNat<o2.length,True,0≤f∧f<(o2.length:Int),f.toNat<o2.length]) (by kernel_rfl) (by kernel_rfl) (tr 7 ⟨j,j,Y,Z,tt,Y,Z,tt⟩) (fun _=>?_) (fun y N=>by cases N);refine ab ?_;obtain⟨O,E,h⟩:=ai h;rcases O with V | ⟨a6,a7⟩
    ·refine mN 1 [0,1,2,3,4] (aT E) ?_;obtain rfl:=sI h;exact(RO [] [] [0,1,2,3,4] [] (bN x V p3 p4 p5 p6 o1 (o2.set f.toNat D) o3 o4) 5 5).normal
    refine GX 1 [0,1,2,3,4] (aT E) (fun _=>?_);obtain rfl:=sI h;exact rfl
   have j:=(cd v);refine oI je mixed ⟨[],[(7,(oD j [0,1,2,3,4]))]⟩ (.one 0 (.one 1 (.one 2 (.one 3 (.one 5 (.one 6 (.twoD 4 (.dead 7) 7))))))) [([],[]),([],[]),([],[]),([],[]),([0],[]),([],[]),([],[]),([0,1,2,3,4],[0,1,2,3,4,101,102,103,104,105,106,107,108]),([],[]),([],[])] 0 [(aY 72 .i64 .i64 (p,u)),(aY 72 .i64 .i64 (p,u))] [] [0,1,2,3,4] [] [] 5 5 (Ts 7 [jR Tryz.prog 123 [.adr 0 0 10 0] (bN x C p3 p4 p5 p6 o1 o2 o3 o4) (aY 72 .i64 .i64 (p,u)),jR Tryz.prog 123 [.adr 0 0 10 0] (bN x C p3 p4 p5 p6 o1 o2 o3 o4) (aY 72 .i64 .i64 (p,u))]) (by kernel_rfl) (by kernel_rfl) (tr 7 ⟨(cd v),(cd v),tt⟩) (fun h0=>absurd rfl h0) (fun y N σ1=>?_);obtain rfl:y=(aY 72 .i64 .i64 (p,u)):=by simpa using N
   refine aE ?_;obtain rfl:=sI h;exact rfl
  refine GX 1 [0,1,2,3,4] (aT B) (fun _=>aE ?_);obtain rfl:=sI h;exact rfl
 refine GX 1 [0,1,2,3,4] (cd A) (fun _=>aE ?_);obtain rfl:=sI h;exact rfl
def ee(f:QX→Int→Int→Int→Int→Int→QQ→QK→XJ→XX→Option (oB⊕(Int×Int)))(q:QX)(d2 u v j p:Int)(o1:QQ)(o2:QK)(o3:XJ)(o4:XX):Option (oB⊕(Int×Int)) :=
 ((bj 40 q d2 u v j p o1 o2 o3 o4).bind fun(a4:(Bool×Int)⊕(Int×Int))=>match a4 with
 | .inr (a5,a6)=>some (Sum.inr (a5,a6))
 | .inl (a7,x)=>(if a7=true then(if(decide ((i64.wrap (p+1)) > 16))=true then((bc 25 d2 q x u v j (i64.wrap (p+1)) o1 o2 o3 o4).bind fun(a8:(Unit)⊕(Int×Int))=>match a8 with
 | .inr (a9,aa)=>some (Sum.inr (a9,aa))
 | .inl _=>none)
 else((f q x u v j (i64.wrap (p+1)) o1 o2 o3 o4).bind fun(ac:oB⊕(Int×Int))=>match ac with
 | .inr (ad,ax)=>some (Sum.inr (ad,ax))
 | .inl (z,b1,A,B)=>((bF 41 q b1 u v A B o1 o2 o3 o4).bind fun(b2:(Int)⊕(Int×Int))=>match b2 with
 | .inr (b3,b4)=>some (Sum.inr (b3,b4))
 | .inl b5=>some (Sum.inl ((Tree.node z.op z.set z.kids),b5,A,(i64.wrap (B - 1)))))))
 else(if(decide ((i64.wrap (j+1)) > 200))=true then((bc 26 d2 q x u v (i64.wrap (j+1)) p o1 o2 o3 o4).bind fun(b6:(Unit)⊕(Int×Int))=>match b6 with
 | .inr (b7,b8)=>some (Sum.inr (b7,b8))
 | .inl _=>none)
 else(if 0≤(o1.length:Int)then((bj 46 q x u v (i64.wrap (j+1)) p o1 o2 o3 o4).bind fun(b9:(Bool×Int)⊕(Int×Int))=>match b9 with
 | .inr (be,bi)=>some (Sum.inr (be,bi))
 | .inl (bs,C)=>(((if bs=true then some ((Sum.inl ((u32.wrap ((u32.wrap (1*2 ^ (min (o1.length:Int).toNat u32.bits))) - 1)),C)))
 else((bj 91 q C u v (i64.wrap (j+1)) p o1 o2 o3 o4).bind fun(bv:(Bool×Int)⊕(Int×Int))=>match bv with
 | .inr (D,E)=>some ((Sum.inr (D,E)))
 | .inl (bx,I)=>(if bx=true then((bj 94 q I u v (i64.wrap (j+1)) p o1 o2 o3 o4).bind fun(c1:(Bool×Int)⊕(Int×Int))=>match c1 with
 | .inr (J,L)=>some ((Sum.inr (J,L)))
 | .inl (c2,c3)=>((bI 93 q c3 u v (i64.wrap (j+1)) p o1 o2 o3 o4).bind fun(c4:(Int×Int)⊕(Int×Int))=>match c4 with
 | .inr (M,N)=>some ((Sum.inr (M,N)))
 | .inl (O,V)=>(if c2=true then some ((Sum.inl ((bitsOf .andNot .u32 (u32.wrap ((u32.wrap (1*2 ^ (min (o1.length:Int).toNat u32.bits))) - 1)) O),V)))
 else some ((Sum.inl (O,V))))))
 else((cW q I u v (i64.wrap (j+1)) p o1 o2 o3 o4).bind fun(c5:(Int×Int)⊕(Int×Int))=>match c5 with
 | .inr (X,Y)=>some ((Sum.inr (X,Y)))
 | .inl (Z,a1)=>some ((Sum.inl (Z,a1)))))))).bind fun(a2:((Int×Int)⊕(Int×Int)))=>match a2 with
 | .inl (v6,v7)=>some (Sum.inl ((Tree.node 1 v6 ([]:XZ)),v7,(i64.wrap (j+1)),p))
 | .inr ((c6,a3))=>some (Sum.inr (c6,a3))))else none))))
theorem ia(j:QX→Int→Int→Int→Int→Int→QQ→QK→XJ→XX→Option (oB⊕(Int×Int)))(f:∀ {X:QX} {p2 p3 p4 p5 p6:Int} {o1:QQ} {o2:QK} {o3:XJ} {o4:XX} {u:oB⊕(Int×Int)},j X p2 p3 p4 p5 p6 o1 o2 o3 o4=some u→iT Tryz.prog 127 [.adr 0 0 10 0] (bN X p2 p3 p4 p5 p6 o1 o2 o3 o4) (ky (fun(q:Tree×Int×Int×Int)=>(.agg [.u8 q.1.op,.u32 q.1.set,.p false (.slice (.tree .u8 .u32)) q.1.kids],(bN X q.2.1 p3 p4 q.2.2.1 q.2.2.2 o1 o2 o3 o4))) (aY 72 .i64 .i64) u)){z:QX}{d2 A B O V:Int}{o1:QQ}{o2:QK}{o3:XJ}{o4:XX}{u:oB⊕(Int×Int)}(h:ee j z d2 A B O V o1 o2 o3 o4=some u):
  iT Tryz.prog 136 [.adr 0 0 10 0] (bN z d2 A B O V o1 o2 o3 o4) (ky (fun(q:Tree×Int×Int×Int)=>(.agg [.u8 q.1.op,.u32 q.1.set,.p false (.slice (.tree .u8 .u32)) q.1.kids],(bN z q.2.1 A B q.2.2.1 q.2.2.2 o1 o2 o3 o4))) (aY 72 .i64 .i64) u):=by
 refine DB Tryz.func136 (fun Bw w0=>?_);unfold ee at h;refine G (G (ag (ag ?_)));obtain⟨Y,C,h⟩:=ai h;rcases Y with⟨c5,c6⟩ | ⟨c7,c8⟩
 ·refine mN 1 [0,1,2,3,4] (aK C) (ab (aC h (fun Z h=>?_) (fun Z h=>?_)))
  ·refine ag (G (G (aC h (fun a1 h=>?_) (fun a1 h=>?_))))
   ·obtain⟨a2,a3,h⟩:=ai h;rcases a2 with _ | ⟨c9,cc⟩
    ·cases h
    refine GX 2 [0,1,2,3,4] (aX a3) (fun _=>aE (aE ?_));obtain rfl:=sI h;exact rfl
   refine ae (ab (ag ?_));obtain⟨a4,D,h⟩:=ai h;rcases a4 with⟨x,ch,a5,a6⟩ | ⟨cp,cs⟩
   ·refine mN 1 [0,1,2,3,4] (f D) (ab (ag ?_));obtain⟨a7,E,h⟩:=ai h;rcases a7 with a8 | ⟨cx,d7⟩
    ·refine mN 1 [0,1,2,3,4] (aT E) (ab (G (G (av (aj ?_)))));obtain rfl:=sI h;exact RO [some (.tree .u8 .u32)] [] [0,1,2,3,4,5] [(2,.adr 5 0 3 0)] (DN z a8 A B a5 (i64.wrap (a6 - 1)) o1 o2 o3 o4 x.op x.set x.kids) 6 5
    refine GX 1 [0,1,2,3,4] (aT E) (fun _=>aE (aE ?_));obtain rfl:=sI h;exact rfl
   refine GX 1 [0,1,2,3,4] (f D) (fun _=>aE (aE ?_));obtain rfl:=sI h;exact rfl
  refine ae (ab (ag (G (G (aC h (fun a9 h=>?_) (fun a9 h=>?_))))))
  ·obtain⟨aa,ac,h⟩:=ai h;rcases aa with _ | ⟨d8,d9⟩
   ·cases h
   refine GX 2 [0,1,2,3,4] (aX ac) (fun _=>aE ?_);obtain rfl:=sI h;exact rfl
  refine ae (ab (G (GC 6 h (fun h=>ag (ak (ag ?_))))));obtain⟨ad,I,h⟩:=ai h;rcases ad with⟨dd,de⟩ | ⟨di,dk⟩
  ·refine mN 1 [0,1,2,3,4] (aK I) (ab (DK h (dz (oa Tryz.f136.ntmps (fun(v6,v7)=>az [(2,.adr 5 0 3 0),(5,.adr 6 0 3 0)] (My z v7 A B (i64.wrap (O+1)) V o1 o2 o3 o4 0 (0:Int) (1:Int) v6) 7 5)) (rH (aY 72 .i64 .i64))) (fun v h=>?_) (fun v h e σ' hq=>?_)))
   ·refine aC h (fun ax h=>?_) (fun ax h=>?_)
    ·refine Ge ?_;obtain rfl:=sI h;exact bk (cJ (gg [] [0,1,2,3,4,5,181]))
    refine ag ?_;obtain⟨b1,J,h⟩:=ai h;rcases b1 with⟨dm,ds⟩ | ⟨b8,b9⟩
    ·refine mN 1 [0,1,2,3,4] (aK J) (ab (aC h (fun b2 h=>?_) (fun b2 h=>?_)))
     ·refine ag ?_;obtain⟨b3,L,h⟩:=ai h;rcases b3 with⟨dt,du⟩ | ⟨be,bi⟩
      ·refine mN 1 [0,1,2,3,4] (aK L) (ab (ag ?_));obtain⟨b4,M,h⟩:=ai h;rcases b4 with⟨e1,e2⟩ | ⟨bs,bv⟩
       ·refine mN 1 [0,1,2,3,4] (aJ M) (ab (G (aC h (fun b5 h=>?_) (fun b5 h=>?_))))
        ·refine Ge ?_;obtain rfl:=sI h;exact bk (cJ (gg [] [0,1,2,3,4,5,181]))
        refine ae ?_;obtain rfl:=sI h;exact bk (cJ (gg [] [0,1,2,3,4,5,181]))
       refine GX 1 [0,1,2,3,4] (aJ M) (fun _=>?_);obtain rfl:=sI h;refine aE (aM ?_);exact rfl
      refine GX 1 [0,1,2,3,4] (aK L) (fun _=>?_);obtain rfl:=sI h;refine aE (aM ?_);exact rfl
     obtain⟨b6,N,h⟩:=ai h;rcases b6 with⟨bx,c1⟩ | ⟨c2,c3⟩
     ·refine mN 1 [0,1,2,3,4] (dr N) ?_;obtain rfl:=sI h;exact bk (cJ (gg [] [0,1,2,3,4,5,181]))
     refine GX 1 [0,1,2,3,4] (dr N) (fun _=>?_);obtain rfl:=sI h;exact aM (rfl)
    refine GX 1 [0,1,2,3,4] (aK J) (fun _=>?_);obtain rfl:=sI h;refine aE (aM ?_);exact rfl
   rcases v with⟨v6,v7⟩ | ⟨e3,c4⟩
   ·obtain⟨rfl,b7⟩:=hq;refine cH ?_ b7;refine ay (ab (G (av ?_)));obtain rfl:=sI h;exact RO [some (.tree .u8 .u32)] [] [0,1,2,3,4,5] [(2,.adr 5 0 3 0)] (LV z v7 A B (i64.wrap (O+1)) V o1 o2 o3 o4 1 v6) 6 5
   obtain rfl:=hq;refine bp (aE ?_);obtain rfl:=sI h;exact rfl
  refine GX 1 [0,1,2,3,4] (aK I) (fun _=>aE (bp (aE ?_)));obtain rfl:=sI h;exact rfl
 refine GX 1 [0,1,2,3,4] (aK C) (fun _=>aE (aE ?_));obtain rfl:=sI h;exact rfl
def ik(L:QX)(p3 p4:Int)(o1:QQ)(o2:QK)(o3:XJ)(o4:XX)(j:Tree)(q u:Int):(Int×Int)→Option ((Int×Int)⊕((Int)⊕((Int×Int)⊕oB))):=fun(p,f) =>
 (if(decide (f<7))=true then(if 0≤f∧f<((7:Nat):Int)then(((if((([0,0,0,0,42,43,63]:QK).getD f.toNat 0) != 0)=true then((bj (([0,0,0,0,42,43,63]:QK).getD f.toNat 0) L p p3 p4 q u o1 o2 o3 o4).bind fun(x:(Bool×Int)⊕(Int×Int))=>match x with
 | .inr (z,A)=>some ((Sum.inr (z,A)))
 | .inl (B,C)=>some ((Sum.inl (C,B))))
 else some ((Sum.inl (p,false))))).bind fun(D:((Int×Bool)⊕(Int×Int)))=>match D with
 | .inl (v,E)=>(if E=true then some (Sum.inr (Sum.inr (Sum.inr ((Tree.node (u8.wrap f) (0:Int) ([(Tree.node j.op j.set j.kids)]:XZ)),v,q,u))))
 else some (Sum.inl (v,(i64.wrap (f+1)))))
 | .inr ((I,J))=>some (Sum.inr (Sum.inr (Sum.inl (I,J)))))else none)
 else some (Sum.inr (Sum.inl p)))
def eA(f:QX→Int→Int→Int→Int→Int→QQ→QK→XJ→XX→Option (oB⊕(Int×Int)))(M:QX)(N p3 p4 p5 p6:Int)(o1:QQ)(o2:QK)(o3:XJ)(o4:XX):Option (oB⊕(Int×Int)) :=
 ((ee f M N p3 p4 p5 p6 o1 o2 o3 o4).bind fun(u:oB⊕(Int×Int))=>match u with
 | .inr (v,x)=>some (Sum.inr (v,x))
 | .inl (j,z,p,q)=>((iter (ik M p3 p4 o1 o2 o3 o4 j p q) (z,0)).bind fun(A:((Int)⊕((Int×Int)⊕oB)))=>match A with
 | .inl B=>some (Sum.inl ((Tree.node j.op j.set j.kids),B,p,q))
 | .inr (.inl (C,D))=>some (Sum.inr (C,D))
 | .inr (.inr ((E,I,J,L)))=>some (Sum.inl (E,I,J,L))))
theorem il(f:QX→Int→Int→Int→Int→Int→QQ→QK→XJ→XX→Option (oB⊕(Int×Int)))(j:∀ {x:QX} {N p3 p4 p5 p6:Int} {o1:QQ} {o2:QK} {o3:XJ} {o4:XX} {A:oB⊕(Int×Int)},f x N p3 p4 p5 p6 o1 o2 o3 o4=some A→iT Tryz.prog 127 [.adr 0 0 10 0] (bN x N p3 p4 p5 p6 o1 o2 o3 o4) (ky (fun(q:Tree×Int×Int×Int)=>(.agg [.u8 q.1.op,.u32 q.1.set,.p false (.slice (.tree .u8 .u32)) q.1.kids],(bN x q.2.1 p3 p4 q.2.2.1 q.2.2.2 o1 o2 o3 o4))) (aY 72 .i64 .i64) A)){x:QX}{N p3 p4 p5 p6:Int}{o1:QQ}{o2:QK}{o3:XJ}{o4:XX}{A:oB⊕(Int×Int)}(h:eA f x N p3 p4 p5 p6 o1 o2 o3 o4=some A):
  iT Tryz.prog 135 [.adr 0 0 10 0] (bN x N p3 p4 p5 p6 o1 o2 o3 o4) (ky (fun(q:Tree×Int×Int×Int)=>(.agg [.u8 q.1.op,.u32 q.1.set,.p false (.slice (.tree .u8 .u32)) q.1.kids],(bN x q.2.1 p3 p4 q.2.2.1 q.2.2.2 o1 o2 o3 o4))) (aY 72 .i64 .i64) A):=by
 refine DB Tryz.func135 (fun Bw w0=>?_);unfold eA at h;refine G (ag ?_);obtain⟨a4,O,h⟩:=ai h;rcases a4 with⟨u,a9,B,C⟩ | ⟨aa,ac⟩
 ·refine mN 1 [0,1,2,3,4] (ia f j O) (ab (ag (G (ak ?_))));refine kS h (fun(V,D)=>az [(0,.adr 0 0 10 0),(2,.adr 5 0 3 0),(3,.adr 6 0 3 0),(8,.agg [.u8 0,.u8 0,.u8 0,.u8 0,.u8 42,.u8 43,.u8 63]),(9,.i64 D)] (K9 x V p3 p4 B C o1 o2 o3 o4 0 (0:Int) u.op u.set u.kids) 7 5) (dz (fD Tryz.f135.ntmps 0 (fun I=>az [(2,.adr 5 0 3 0),(3,.adr 6 0 3 0)] (K9 x I p3 p4 B C o1 o2 o3 o4 0 (0:Int) u.op u.set u.kids) 7 5)) (dz (rH (aY 72 .i64 .i64)) (Df tb Tryz.f135.ntmps Tryz.f135.results.toList (fun(E,X,Y,Z)=>(.agg [.u8 E.op,.u32 E.set,.p false (.slice (.tree .u8 .u32)) E.kids],(bN x X p3 p4 Y Z o1 o2 o3 o4)))))) (gg [] [0,1,2,3,4,5,29]) (fun y o h=>?_) (fun a5 h e σ' M=>?_)
  ·obtain⟨V,D⟩:=y;unfold ik at h;refine G (ag (aC h (fun a6 h=>?_) (fun a6 h=>?_)))
   ·refine ae (ab (ag (ak (GC 1 h (fun h=>ag (DK h (dz (oa Tryz.f135.ntmps (fun(J,a1)=>az [(0,.adr 0 0 10 0),(2,.adr 5 0 3 0),(3,.adr 6 0 3 0),(4,.i64 D),(8,.agg [.u8 0,.u8 0,.u8 0,.u8 0,.u8 42,.u8 43,.u8 63]),(9,.i64 D),(19,.bo a1)] (K9 x J p3 p4 B C o1 o2 o3 o4 0 (0:Int) u.op u.set u.kids) 7 5)) (rH (aY 72 .i64 .i64))) (fun a2 h=>?_) (fun a2 h e σ' M=>?_)))))))
    ·rcases aN h with⟨v,h⟩ | ⟨v,h⟩
     ·obtain⟨a7,a3,h⟩:=ai h;rcases a7 with⟨ad,ax⟩ | ⟨b1,b2⟩
      ·have z:=(aK a3);refine bC ⟨[(2,true),(6,true)],[(5,(oO z [0,1,2,3,4]))]⟩ [(3,4,an v),(5,5,oc (And.intro v z)),(6,6,oc v)] ?_;obtain rfl:=sI h;exact bk (cJ (gg [] [0,1,2,3,4,5,6]))
      have z:=(aK a3);refine NT z ⟨[(2,true)],[(5,(oD z [0,1,2,3,4]))]⟩ 5 [(3,4,an v),(5,5,oc (And.intro v z))] (fun _=>?_);obtain rfl:=sI h;exact aM (rfl)
     refine bC ⟨[(2,false),(6,false)],[]⟩ [(3,6,oc v)] ?_;obtain rfl:=sI h;exact bk (cJ (gg [] [0,1,2,3,4,5,6]))
    rcases a2 with⟨J,a1⟩ | ⟨b3,b4⟩
    ·obtain⟨rfl,L⟩:=M;refine cH ?_ L;refine ab (aC h (fun a8 h=>?_) (fun a8 h=>?_))
     ·refine G (lZ [.frzC 5 2] (by kernel_rfl) (av ?_));obtain rfl:=sI h;refine aA (aj (bM (aM (aM ?_))));exact yL (RO [some (.tree .u8 .u32)] [] [0,1,2,3,4,5] [(2,.adr 5 0 3 0)] (DN x J p3 p4 B C o1 o2 o3 o4 (u8.wrap D) (0:Int) ([(Tree.node u.op u.set u.kids)]:XZ)) 6 5)
     refine ae (ay (ab (Ge ?_)));exact eB h (gg [] [0,1,2,3,4,5,6])
    obtain rfl:=M;obtain rfl:=sI h;refine aE (bp (aE (bW (aM (Ck ?_)))));exact rfl
   refine au (aQ ?_);obtain rfl:=sI h;refine dL (bk ?_);exact bT (gg [] [0,1,2,3,4,5,6])
  rcases a5 with I | ⟨b5,b6⟩ | ⟨E,X,Y,Z⟩
  ·obtain⟨rfl,L⟩:=M;refine cH ?_ L;refine aw (ab (G (av ?_)));obtain rfl:=sI h;exact RO [some (.tree .u8 .u32)] [] [0,1,2,3,4,5] [(2,.adr 5 0 3 0)] (DN x I p3 p4 B C o1 o2 o3 o4 u.op u.set u.kids) 6 5
  ·obtain rfl:=M;refine bp (aE ?_);obtain rfl:=sI h;exact rfl
  obtain⟨rfl,hr⟩:=M;refine aA (aj ?_);obtain rfl:=sI h;exact hr
 refine GX 1 [0,1,2,3,4] (ia f j O) (fun _=>aE ?_);obtain rfl:=sI h;exact rfl
def iX(X:QX)(p3 p4:Int)(o1:QQ)(o2:QK)(o3:XJ)(o4:XX)(f:QX→Int→Int→Int→Int→Int→QQ→QK→XJ→XX→Option (oB⊕(Int×Int))):(Int×Int×Int×XZ×Int)→Option ((Int×Int×Int×XZ×Int)⊕((XZ×Int×Int×Int)⊕(Int×Int))):=fun(p,q,u,A,B) =>
 ((((dw B).bind fun C =>
 (if C=true then some (true)
 else(if(B == 40)=true then some (true)
 else(if(B == 91)=true then some (true)
 else some ((B == 46))))))).bind fun D=>(if D=true then((eA f X p p3 p4 q u o1 o2 o3 o4).bind fun(E:oB⊕(Int×Int))=>match E with
 | .inr (I,J)=>some (Sum.inr (Sum.inr (I,J)))
 | .inl (j,L,v,x)=>(if(A.length+([(Tree.node j.op j.set j.kids)]:XZ).length)*32≤140737488355328∧A.length+([(Tree.node j.op j.set j.kids)]:XZ).length≤9223372036854775807 then((bh X L p3 p4 v x o1 o2 o3 o4).bind fun(M:(Int×Int)⊕(Int×Int))=>match M with
 | .inr (N,O)=>some (Sum.inr (Sum.inr (N,O)))
 | .inl (V,z)=>some (Sum.inl (z,v,x,(A++([(Tree.node j.op j.set j.kids)]:XZ)),V)))else none))
 else some (Sum.inr (Sum.inl (A,p,q,u)))))
def dH(f:QX→Int→Int→Int→Int→Int→QQ→QK→XJ→XX→Option (oB⊕(Int×Int)))(I:QX)(J p3 p4 p5 p6:Int)(o1:QQ)(o2:QK)(o3:XJ)(o4:XX):Option (oB⊕(Int×Int)) :=
 ((bh I J p3 p4 p5 p6 o1 o2 o3 o4).bind fun(x:(Int×Int)⊕(Int×Int))=>match x with
 | .inr (z,A)=>some (Sum.inr (z,A))
 | .inl (B,C)=>((iter (iX I p3 p4 o1 o2 o3 o4 f) (C,p5,p6,([]:XZ),B)).bind fun(v:((XZ×Int×Int×Int)⊕(Int×Int)))=>match v with
 | .inl (j,p,q,u)=>(if((j.length:Int) == 0)=true then some (Sum.inl ((Tree.node 0 (0:Int) ([]:XZ)),p,q,u))
 else(if((j.length:Int) == 1)=true then(if 0≤(0:Int)∧0<(j.length:Int)then(if(0:Int).toNat<j.length then some (Sum.inl ((Tree.node ((j.getD ((0:Int).toNat) (Tree.node 0 0 [])).op) ((j.getD ((0:Int).toNat) (Tree.node 0 0 [])).set) ((j.getD ((0:Int).toNat) (Tree.node 0 0 [])).kids)),p,q,u))else none)else none)
 else some (Sum.inl ((Tree.node 2 (0:Int) j),p,q,u))))
 | .inr ((D,E))=>some (Sum.inr (D,E))))
theorem dM(f:QX→Int→Int→Int→Int→Int→QQ→QK→XJ→XX→Option (oB⊕(Int×Int)))(j:∀ {x:QX} {V p3 p4 p5 p6:Int} {o1:QQ} {o2:QK} {o3:XJ} {o4:XX} {A:oB⊕(Int×Int)},f x V p3 p4 p5 p6 o1 o2 o3 o4=some A→iT Tryz.prog 127 [.adr 0 0 10 0] (bN x V p3 p4 p5 p6 o1 o2 o3 o4) (ky (fun(q:Tree×Int×Int×Int)=>(.agg [.u8 q.1.op,.u32 q.1.set,.p false (.slice (.tree .u8 .u32)) q.1.kids],(bN x q.2.1 p3 p4 q.2.2.1 q.2.2.2 o1 o2 o3 o4))) (aY 72 .i64 .i64) A)){x:QX}{V p3 p4 p5 p6:Int}{o1:QQ}{o2:QK}{o3:XJ}{o4:XX}{A:oB⊕(Int×Int)}(h:dH f x V p3 p4 p5 p6 o1 o2 o3 o4=some A):
  iT Tryz.prog 133 [.adr 0 0 10 0] (bN x V p3 p4 p5 p6 o1 o2 o3 o4) (ky (fun(q:Tree×Int×Int×Int)=>(.agg [.u8 q.1.op,.u32 q.1.set,.p false (.slice (.tree .u8 .u32)) q.1.kids],(bN x q.2.1 p3 p4 q.2.2.1 q.2.2.2 o1 o2 o3 o4))) (aY 72 .i64 .i64) A):=by
 refine DB Tryz.func133 (fun Bw w0=>?_);unfold dH at h;refine G (G (ag (ag ?_)));obtain⟨a2,X,h⟩:=ai h;rcases a2 with⟨ax,b1⟩ | ⟨b2,b3⟩
 ·refine mN 1 [0,1,2,3,4] (aP X) (ab (ak (kS h (fun(J,L,M,l5,c4)=>az [(0,.adr 0 0 10 0),(2,.adr 5 0 3 0),(3,.sl 6),(4,.u8 c4)] (Ij x J p3 p4 L M o1 o2 o3 o4 0 (0:Int) l5) 7 5) (dz (fD Tryz.f133.ntmps 0 (fun(O,B,C,D)=>az [(2,.adr 5 0 3 0),(3,.sl 6)] (Ij x B p3 p4 C D o1 o2 o3 o4 0 (0:Int) O) 7 5)) (rH (aY 72 .i64 .i64))) (gg [.nilS 3 45 146 (.tree .u8 .u32)] [0,1,2,3,4,5,45]) (fun y o h=>?_) (fun Y h e σ' hq=>?_))))
  ·obtain⟨J,L,M,l5,c4⟩:=y;unfold iX at h;refine ag (ag (br h (fun N=>az [(0,.adr 0 0 10 0),(2,.adr 5 0 3 0),(3,.sl 6),(20,.bo N)] (Ij x J p3 p4 L M o1 o2 o3 o4 0 (0:Int) l5) 7 5) (fun N h=>?_) (fun N h=>?_)))
   ·obtain⟨b4,E,h⟩:=ai h;rcases aN h with⟨v,h⟩ | ⟨v,h⟩
    ·have u:=(cS E);exact bC ⟨[(2,true),(5,true)],[(1,(oP u))]⟩ [(1,1,oc u),(3,5,oc v)] (eN h (gg [] [0,1,2,3,4,5,6]))
    rcases aN h with⟨z,h⟩ | ⟨z,h⟩
    ·have u:=(cS E);exact bC ⟨[(2,false),(5,false),(6,true),(9,true)],[(1,(oP u))]⟩ [(1,1,oc u),(3,4,an v),(5,5,oc v),(7,9,oc z)] (eN h (gg [] [0,1,2,3,4,5,6]))
    rcases aN h with⟨I,h⟩ | ⟨I,h⟩
    ·have u:=(cS E);exact bC ⟨[(2,false),(5,false),(6,false),(9,false),(10,true),(13,true)],[(1,(oP u))]⟩ [(1,1,oc u),(3,4,an v),(5,5,oc v),(7,8,an z),(9,9,oc z),(11,13,oc I)] (eN h (gg [] [0,1,2,3,4,5,6]))
    have u:=(cS E);exact bC ⟨[(2,false),(5,false),(6,false),(9,false),(10,false),(13,false)],[(1,(oP u))]⟩ [(1,1,oc u),(3,4,an v),(5,5,oc v),(7,8,an z),(9,9,oc z),(11,12,an I),(13,13,oc I)] (eN h (gg [] [0,1,2,3,4,5,6]))
   refine ab (aC h (fun a3 h=>?_) (fun a3 h=>?_))
   ·refine ae (ab (ag (ak ?_)));obtain⟨a4,Z,h⟩:=ai h;rcases a4 with⟨b5,b6,b7,b8⟩ | ⟨b9,be⟩
    ·obtain⟨a5,h⟩:=aD h;have u:=(il f j Z);refine bC ⟨[],[(2,(oO u [0,1,2,3,4]))]⟩ [(2,2,oc u),(4,4,oc a5)] (ay (ab ?_));obtain⟨a6,a1,h⟩:=ai h;rcases a6 with⟨bi,ad⟩ | ⟨bs,bv⟩
     ·exact mN 1 [0,1,2,3,4] (aP a1) (eB h (gg [] [0,1,2,3,4,5,39]))
     refine GX 1 [0,1,2,3,4] (aP a1) (fun _=>?_);obtain rfl:=sI h;refine bW (aM ?_);exact rfl
    refine GX 2 [0,1,2,3,4] (il f j Z) (fun _=>?_);obtain rfl:=sI h;refine bp (aE (bW (aM ?_)));exact rfl
   refine au (aQ ?_);obtain rfl:=sI h;refine dL (bk ?_);exact bT (gg [] [0,1,2,3,4,5,6])
  rcases Y with⟨O,B,C,D⟩ | ⟨bx,c1⟩
  ·obtain⟨rfl,a7⟩:=hq;refine cH ?_ a7;refine aw (ab (ag (G (ak (G (aC h (fun a8 h=>?_) (fun a8 h=>?_)))))))
   ·refine G (av (aA (aj ?_)));obtain rfl:=sI h;exact RO [some (.tree .u8 .u32)] [] [0,1,2,3,4,5] [(2,.adr 5 0 3 0)] (LV x B p3 p4 C D o1 o2 o3 o4 0 (0:Int)) 6 5
   refine G (aC h (fun a9 h=>?_) (fun a9 h=>?_))
   ·obtain⟨aa,ac,h⟩:=g2 h;refine GN a0 [(1,1,oc aa),(2,2,oc ac)] (av (aA (aj ?_)));obtain rfl:=sI h;exact RO [some (.tree .u8 .u32)] [] [0,1,2,3,4,5] [(2,.adr 5 0 3 0)] (DN x B p3 p4 C D o1 o2 o3 o4 ((O.getD ((0:Int).toNat) (Tree.node 0 0 [])).op) ((O.getD ((0:Int).toNat) (Tree.node 0 0 [])).set) ((O.getD ((0:Int).toNat) (Tree.node 0 0 [])).kids)) 6 5
   refine ae (ay (ab (G (lZ [.frzC 5 2] (by kernel_rfl) (av ?_)))));obtain rfl:=sI h;exact RO [some (.tree .u8 .u32)] [] [0,1,2,3,4,5] [(2,.adr 5 0 3 0)] (DN x B p3 p4 C D o1 o2 o3 o4 2 (0:Int) O) 6 5
  obtain rfl:=hq;refine bp (aE ?_);obtain rfl:=sI h;exact rfl
 refine GX 1 [0,1,2,3,4] (aP X) (fun _=>aE (aE ?_));obtain rfl:=sI h;exact rfl
def gS(N:QX)(p3 p4:Int)(o1:QQ)(o2:QK)(o3:XJ)(o4:XX)(f:QX→Int→Int→Int→Int→Int→QQ→QK→XJ→XX→Option (oB⊕(Int×Int))):(Int×Int×Int×XZ)→Option ((Int×Int×Int×XZ)⊕((XZ×Int×Int×Int)⊕(Int×Int))):=fun(J,u,v,p) =>
 ((bj 124 N J p3 p4 u v o1 o2 o3 o4).bind fun(L:(Bool×Int)⊕(Int×Int))=>match L with
 | .inr (x,z)=>some (Sum.inr (Sum.inr (x,z)))
 | .inl (A,q)=>(if A=true then((dH f N q p3 p4 u v o1 o2 o3 o4).bind fun(M:oB⊕(Int×Int))=>match M with
 | .inr (B,C)=>some (Sum.inr (Sum.inr (B,C)))
 | .inl (j,D,E,I)=>(if(p.length+([(Tree.node j.op j.set j.kids)]:XZ).length)*32≤140737488355328∧p.length+([(Tree.node j.op j.set j.kids)]:XZ).length≤9223372036854775807 then some (Sum.inl (D,E,I,(p++([(Tree.node j.op j.set j.kids)]:XZ))))else none))
 else some (Sum.inr (Sum.inl (p,q,u,v)))))
def fe(f:QX→Int→Int→Int→Int→Int→QQ→QK→XJ→XX→Option (oB⊕(Int×Int)))(L:QX)(M p3 p4 p5 p6:Int)(o1:QQ)(o2:QK)(o3:XJ)(o4:XX):Option (oB⊕(Int×Int)) :=
 ((dH f L M p3 p4 p5 p6 o1 o2 o3 o4).bind fun(E:oB⊕(Int×Int))=>match E with
 | .inr (I,J)=>some (Sum.inr (I,J))
 | .inl (p,q,u,v)=>((iter (gS L p3 p4 o1 o2 o3 o4 f) (q,u,v,([(Tree.node p.op p.set p.kids)]:XZ))).bind fun(x:((XZ×Int×Int×Int)⊕(Int×Int)))=>match x with
 | .inl (j,z,A,B)=>(if((j.length:Int) == 1)=true then(if 0≤(0:Int)∧0<(j.length:Int)then(if(0:Int).toNat<j.length then some (Sum.inl ((Tree.node ((j.getD ((0:Int).toNat) (Tree.node 0 0 [])).op) ((j.getD ((0:Int).toNat) (Tree.node 0 0 [])).set) ((j.getD ((0:Int).toNat) (Tree.node 0 0 [])).kids)),z,A,B))else none)else none)
 else some (Sum.inl ((Tree.node 3 (0:Int) j),z,A,B)))
 | .inr ((C,D))=>some (Sum.inr (C,D))))
def bO:Nat→QX→Int→Int→Int→Int→Int→QQ→QK→XJ→XX→Option (oB⊕(Int×Int))
 | 0=>fun _ _ _ _ _ _ _ _ _ _=>none
 | n+1=>fe (bO n)
theorem kI(f:QX→Int→Int→Int→Int→Int→QQ→QK→XJ→XX→Option (oB⊕(Int×Int)))(j:∀ {v:QX} {C p3 p4 p5 p6:Int} {o1:QQ} {o2:QK} {o3:XJ} {o4:XX} {x:oB⊕(Int×Int)},f v C p3 p4 p5 p6 o1 o2 o3 o4=some x→iT Tryz.prog 127 [.adr 0 0 10 0] (bN v C p3 p4 p5 p6 o1 o2 o3 o4) (ky (fun(q:Tree×Int×Int×Int)=>(.agg [.u8 q.1.op,.u32 q.1.set,.p false (.slice (.tree .u8 .u32)) q.1.kids],(bN v q.2.1 p3 p4 q.2.2.1 q.2.2.2 o1 o2 o3 o4))) (aY 72 .i64 .i64) x)){v:QX}{C p3 p4 p5 p6:Int}{o1:QQ}{o2:QK}{o3:XJ}{o4:XX}{x:oB⊕(Int×Int)}(h:fe f v C p3 p4 p5 p6 o1 o2 o3 o4=some x):
  iT Tryz.prog 127 [.adr 0 0 10 0] (bN v C p3 p4 p5 p6 o1 o2 o3 o4) (ky (fun(q:Tree×Int×Int×Int)=>(.agg [.u8 q.1.op,.u32 q.1.set,.p false (.slice (.tree .u8 .u32)) q.1.kids],(bN v q.2.1 p3 p4 q.2.2.1 q.2.2.2 o1 o2 o3 o4))) (aY 72 .i64 .i64) x):=by
 refine DB Tryz.func127 (fun Bw w0=>?_);unfold fe at h;refine G (ag ?_);obtain⟨X,D,h⟩:=ai h;rcases X with⟨a7,a8,a9,aa⟩ | ⟨be,bi⟩
 ·refine mN 1 [0,1,2,3,4] (dM f j D) (ab (ag (ak (kS h (fun(E,I,J,L)=>az [(0,.adr 0 0 10 0),(2,.adr 5 0 3 0),(3,.sl 6)] (Ij v E p3 p4 I J o1 o2 o3 o4 0 (0:Int) L) 7 5) (dz (fD Tryz.f127.ntmps 0 (fun(u,z,A,B)=>az [(2,.adr 5 0 3 0),(3,.sl 6)] (Ij v z p3 p4 A B o1 o2 o3 o4 0 (0:Int) u) 7 5)) (rH (aY 72 .i64 .i64))) (gg [] [0,1,2,3,4,5,29]) (fun y o h=>?_) (fun M h e σ' hq=>?_)))))
  ·obtain⟨E,I,J,L⟩:=y;unfold gS at h;refine ag (ag ?_);obtain⟨Y,N,h⟩:=ai h;rcases Y with⟨ac,ad⟩ | ⟨ax,b1⟩
   ·refine mN 1 [0,1,2,3,4] (aK N) (ab (aC h (fun Z h=>?_) (fun Z h=>?_)))
    ·refine ae (ab (ak ?_));obtain⟨a1,O,h⟩:=ai h;rcases a1 with⟨b2,b3,b4,b5⟩ | ⟨b6,b7⟩
     ·obtain⟨a2,h⟩:=aD h;have V:=(dM f j O);refine bC ⟨[],[(2,(oO V [0,1,2,3,4]))]⟩ [(2,2,oc V),(4,4,oc a2)] (ay ?_);exact eB h (gg [] [0,1,2,3,4,5,55])
     refine GX 2 [0,1,2,3,4] (dM f j O) (fun _=>?_);obtain rfl:=sI h;refine bp (bW (aM ?_));exact rfl
    refine au (aQ ?_);obtain rfl:=sI h;refine dL (bk ?_);exact bT (gg [] [0,1,2,3,4,5,6])
   refine GX 1 [0,1,2,3,4] (aK N) (fun _=>?_);obtain rfl:=sI h;refine aE (aE (bW (aM ?_)));exact rfl
  rcases M with⟨u,z,A,B⟩ | ⟨b8,b9⟩
  ·obtain⟨rfl,a3⟩:=hq;refine cH ?_ a3;refine aw (ab (ag (G (aC h (fun a4 h=>?_) (fun a4 h=>?_)))))
   ·obtain⟨a5,a6,h⟩:=g2 h;refine GN a0 [(1,1,oc a5),(2,2,oc a6)] (av (aj ?_));obtain rfl:=sI h;exact RO [some (.tree .u8 .u32)] [] [0,1,2,3,4,5] [(2,.adr 5 0 3 0)] (DN v z p3 p4 A B o1 o2 o3 o4 ((u.getD ((0:Int).toNat) (Tree.node 0 0 [])).op) ((u.getD ((0:Int).toNat) (Tree.node 0 0 [])).set) ((u.getD ((0:Int).toNat) (Tree.node 0 0 [])).kids)) 6 5
   refine ae (ab (G (lZ [.frzC 5 2] (by kernel_rfl) (av ?_))));obtain rfl:=sI h;exact RO [some (.tree .u8 .u32)] [] [0,1,2,3,4,5] [(2,.adr 5 0 3 0)] (DN v z p3 p4 A B o1 o2 o3 o4 3 (0:Int) u) 6 5
  obtain rfl:=hq;refine bp (aE ?_);obtain rfl:=sI h;exact rfl
 refine GX 1 [0,1,2,3,4] (dM f j D) (fun _=>aE ?_);obtain rfl:=sI h;exact rfl
theorem cf:∀(n:Nat) {j:QX} {u p3 p4 p5 p6:Int} {o1:QQ} {o2:QK} {o3:XJ} {o4:XX} {f:oB⊕(Int×Int)},bO n j u p3 p4 p5 p6 o1 o2 o3 o4=some f→iT Tryz.prog 127 [.adr 0 0 10 0] (bN j u p3 p4 p5 p6 o1 o2 o3 o4) (ky (fun(q:Tree×Int×Int×Int)=>(.agg [.u8 q.1.op,.u32 q.1.set,.p false (.slice (.tree .u8 .u32)) q.1.kids],(bN j q.2.1 p3 p4 q.2.2.1 q.2.2.2 o1 o2 o3 o4))) (aY 72 .i64 .i64) f)
 | 0,_,_,_,_,_,_,_,_,_,_,_,h=>by cases h
 | n+1,j,u,p3,p4,p5,p6,o1,o2,o3,o4,f,h=>kI (bO n) (cf n)  h
def eR(p A:Int)(q:QX)(p2 p3 p4 p5 p6:Int)(o1:QQ)(o2:QK)(o3:XJ)(o4:XX):Option ((Int×XJ×Int×Int)⊕(Int×Int)) :=
 (if(decide ((o3.length:Int)≥24))=true then((bc 24 A q p2 p3 p4 p5 p6 o1 o2 o3 o4).bind fun(B:(Unit)⊕(Int×Int))=>match B with
 | .inr (C,D)=>some (Sum.inr (C,D))
 | .inl _=>none)
 else((bO 1000 q p2 p3 p4 p5 p6 o1 o2 o3 o4).bind fun(E:oB⊕(Int×Int))=>match E with
 | .inr (I,J)=>some (Sum.inr (I,J))
 | .inl (f,L,u,v)=>((bF 47 q L p3 p4 u v o1 o2 o3 o4).bind fun(M:(Int)⊕(Int×Int))=>match M with
 | .inr (N,O)=>some (Sum.inr (N,O))
 | .inl V=>((bO 1000 q V p3 p4 u v o1 o2 o3 o4).bind fun(X:oB⊕(Int×Int))=>match X with
 | .inr (Y,Z)=>some (Sum.inr (Y,Z))
 | .inl (j,a1,x,z)=>((bF 59 q a1 p3 p4 x z o1 o2 o3 o4).bind fun(a2:(Int)⊕(Int×Int))=>match a2 with
 | .inr (a3,a4)=>some (Sum.inr (a3,a4))
 | .inl a5=>(if(o3.length+([(p,(Tree.node f.op f.set f.kids),(Tree.node j.op j.set j.kids))]:XJ).length)*72≤140737488355328∧o3.length+([(p,(Tree.node f.op f.set f.kids),(Tree.node j.op j.set j.kids))]:XJ).length≤9223372036854775807 then some (Sum.inl (a5,(o3++([(p,(Tree.node f.op f.set f.kids),(Tree.node j.op j.set j.kids))]:XJ)),x,z))else none))))))
theorem iL{f u:Int}{C:QX}{X p3 p4 p5 p6:Int}{o1:QQ}{o2:QK}{o3:XJ}{o4:XX}{v:(Int×XJ×Int×Int)⊕(Int×Int)}(h:eR f u C X p3 p4 p5 p6 o1 o2 o3 o4=some v):
  iT Tryz.prog 104 [.adr 0 0 10 0,.u8 f,.i64 u] (bN C X p3 p4 p5 p6 o1 o2 o3 o4) (ky (fun(q:Int×XJ×Int×Int)=>(.tup [],(L5 C q.1 p3 p4 q.2.2.1 q.2.2.2 o1 o2 o4 q.2.1))) (aY 72 .i64 .i64) v):=by
 refine DB Tryz.func104 (fun Bw w0=>?_);unfold eR at h;refine ag (G (aC h (fun Y h=>?_) (fun Y h=>?_)))
 ·obtain⟨D,E,h⟩:=ai h;rcases D with _ | ⟨Z,a1⟩
  ·cases h
  refine GX 2 [0,1,2,3,4] (aX E) (fun _=>aE ?_);obtain rfl:=sI h;exact rfl
 refine ae (ab (G (ag ?_)));obtain⟨I,x,h⟩:=ai h;rcases I with⟨j,a2,a3,a4⟩ | ⟨a5,a6⟩
 ·refine mN 1 [0,1,2,3,4] (cf 1000 x) (ab (ag ?_));obtain⟨J,z,h⟩:=ai h;rcases J with a7 | ⟨a8,a9⟩
  ·refine mN 1 [0,1,2,3,4] (aT z) (ab (ag ?_));obtain⟨L,A,h⟩:=ai h;rcases L with⟨p,aa,M,N⟩ | ⟨ac,ad⟩
   ·refine mN 1 [0,1,2,3,4] (cf 1000 A) (ab (ag ?_));obtain⟨O,B,h⟩:=ai h;rcases O with V | ⟨ax,b1⟩
    ·refine mN 1 [0,1,2,3,4] (aT B) (ab ?_);obtain⟨c4,h⟩:=aD h;refine nj a0 [(8,8,oc c4)] ?_;obtain rfl:=sI h;exact(RO [] [] [0,1,2,3,4,253] [] (L5 C V p3 p4 M N o1 o2 o4 (o3++([(f,(Tree.node j.op j.set j.kids),(Tree.node p.op p.set p.kids))]:XJ))) 6 5).normal
    refine GX 1 [0,1,2,3,4] (aT B) (fun _=>aE ?_);obtain rfl:=sI h;exact rfl
   refine GX 1 [0,1,2,3,4] (cf 1000 A) (fun _=>aE ?_);obtain rfl:=sI h;exact rfl
  refine GX 1 [0,1,2,3,4] (aT z) (fun _=>aE ?_);obtain rfl:=sI h;exact rfl
 refine GX 1 [0,1,2,3,4] (cf 1000 x) (fun _=>aE ?_);obtain rfl:=sI h;exact rfl
def kG(C:QX):Lh→Option (Lh⊕(Lh⊕(Int×Int))):=fun(be,f,j,p,x,q,z,u,v) =>
 ((bh C be j p u v f x q z).bind fun(bi:(Int×Int)⊕(Int×Int))=>match bi with
 | .inr (I,J)=>some (Sum.inr (Sum.inr (I,J)))
 | .inl (L,D)=>(if(L != 0)=true then((bY C D j p u v f x q z).bind fun(bs:(QX×Int×Int)⊕(Int×Int))=>match bs with
 | .inr (M,N)=>some (Sum.inr (Sum.inr (M,N)))
 | .inl (A,E,B)=>(if(eE .str ([99,108,97,115,115]:QX) A)=true then((eC C B j p u v f x q z).bind fun(bv:(Int×QQ×QK×XX)⊕(Int×Int))=>match bv with
 | .inr (O,V)=>some (Sum.inr (Sum.inr (O,V)))
 | .inl (X,Y,Z,a1)=>some (Sum.inl (X,Y,j,p,Z,q,a1,u,v)))
 else(if(eE .str ([115,101,116]:QX) A)=true then((fh C B j p u v f x q z).bind fun(bx:(Int×XX)⊕(Int×Int))=>match bx with
 | .inr (a2,a3)=>some (Sum.inr (Sum.inr (a2,a3)))
 | .inl (a4,a5)=>some (Sum.inl (a4,f,j,p,x,q,a5,u,v)))
 else(if(eE .str ([106,111,105,110]:QX) A)=true then((eS C B j p u v f x q z).bind fun(c1:Z7⊕(Int×Int))=>match c1 with
 | .inr (a6,a7)=>some (Sum.inr (Sum.inr (a6,a7)))
 | .inl (a8,a9,aa)=>some (Sum.inl (a8,f,a9,aa,x,q,z,u,v)))
 else(if(eE .str ([116,114,101,97,116]:QX) A)=true then((ez C B j p u v f x q z).bind fun(c2:(Int×QK)⊕(Int×Int))=>match c2 with
 | .inr (ac,ad)=>some (Sum.inr (Sum.inr (ac,ad)))
 | .inl (ax,b1)=>some (Sum.inl (ax,f,j,p,b1,q,z,u,v)))
 else(if((bg .str (cF .str (cF .str (cF .str ([]:XX) ([107,101,101,112]:QX) (0:Int)) ([109,97,121]:QX) (1:Int)) ([109,117,115,116]:QX) (2:Int)) A).isSome)=true then((eR ((bg .str (cF .str (cF .str (cF .str ([]:XX) ([107,101,101,112]:QX) (0:Int)) ([109,97,121]:QX) (1:Int)) ([109,117,115,116]:QX) (2:Int)) A).getD 0) E C B j p u v f x q z).bind fun(c3:(Int×XJ×Int×Int)⊕(Int×Int))=>match c3 with
 | .inr (b2,b3)=>some (Sum.inr (Sum.inr (b2,b3)))
 | .inl (b4,b5,b6,b7)=>some (Sum.inl (b4,f,j,p,x,b5,z,b6,b7)))
 else((bc 21 E C B j p u v f x q z).bind fun(c4:(Unit)⊕(Int×Int))=>match c4 with
 | .inr (b8,b9)=>some (Sum.inr (Sum.inr (b8,b9)))
 | .inl _=>none)))))))
 else some (Sum.inr (Sum.inl (D,f,j,p,x,q,z,u,v)))))
def gJ(D:QX)(E p3 p4 p5 p6:Int)(o1:XX):Option (Lh⊕(Int×Int)) :=
 ((iter (kG D) (E,([]:QQ),p3,p4,([]:QK),([]:XJ),o1,p5,p6)).bind fun(f:(Lh⊕(Int×Int)))=>match f with
 | .inl (q,v20,u,v,x,z,A,B,C)=>some (Sum.inl (q,v20,u,v,x,z,A,B,C))
 | .inr ((j,p))=>some (Sum.inr (j,p)))
theorem gV{J:QX}{p2 p3 p4 p5 p6:Int}{o1:XX}{L:Lh⊕(Int×Int)}(h:gJ J p2 p3 p4 p5 p6 o1=some L):
  iT Tryz.prog 86 [.adr 0 0 10 0] (Ml J p2 p3 p4 p5 p6 o1) (ky (fun(q:Int×QQ×Int×Int×QK×XJ×XX×Int×Int)=>(.tup [],(KR J q.1 q.2.2.1 q.2.2.2.1 q.2.2.2.2.2.2.2.1 q.2.2.2.2.2.2.2.2 q.2.2.2.2.2.2.1 q.2.1 q.2.2.2.2.1 q.2.2.2.2.2.1))) (aY 72 .i64 .i64) L):=by
 refine DB Tryz.func86 (fun Bw w0=>?_);unfold gJ at h;refine G (G (ak (kS h (fun(M,N,O,V,X,Y,Z,a1,a2)=>az [(0,.adr 0 0 10 0),(2,.mp 5),(3,.mp 6)] (Mx J M O V a1 a2 Z N X Y (cF .str (cF .str (cF .str ([]:XX) ([107,101,101,112]:QX) (0:Int)) ([109,97,121]:QX) (1:Int)) ([109,117,115,116]:QX) (2:Int))) 7 2) (dz (fD Tryz.f86.ntmps 0 (fun(v,v20,x,z,A,B,C,D,E)=>az [] (KR J v x z D E C v20 A B) 5 2)) (rH (aY 72 .i64 .i64))) (gg [.nilC 0 2 106 9 .str,.nilC 0 5 107 3 (.int .i64),.nilC 0 6 108 148 (.prod (.int .u8) Y8)] [0,1,106,107,108,2,58]) (fun y o h=>?_) (fun a3 h e σ' hq=>?_))))
 ·obtain⟨M,N,O,V,X,Y,Z,a1,a2⟩:=y;unfold kG at h;refine ag (ag ?_);obtain⟨ac,a4,h⟩:=ai h;rcases ac with⟨be,bi⟩ | ⟨bs,bv⟩
  ·refine mN 1 [0,2,3,4,1] (aP a4) (ab (aC h (fun ad h=>?_) (fun ad h=>?_)))
   ·refine ae (ab (ak (ag ?_)));obtain⟨ax,a5,h⟩:=ai h;rcases ax with⟨f,bx,c1⟩ | ⟨c2,c3⟩
    ·refine mN 1 [0,2,3,4,1] (bA a5) (ab (ag ?_));rcases aN h with⟨j,h⟩ | ⟨j,h⟩
     ·refine bC ⟨[],[(2,⟨.unk,[],false,[],[0],[],none⟩)]⟩ [(2,2,oc (And.intro tt j))] (ab (G (zB rfl ?_)));obtain⟨b1,a6,h⟩:=ai h;rcases b1 with⟨c4,c5,c6,c7⟩ | ⟨c8,c9⟩
      ·refine mN 2 [0,2,3,4,1] (hJ a6) (ay ?_);exact eB h (gg [] [0,1,175,176,4,5,6])
      refine GX 2 [0,2,3,4,1] (hJ a6) (fun _=>?_);obtain rfl:=sI h;refine bp (bW (aM ?_));exact rfl
     rcases aN h with⟨p,h⟩ | ⟨p,h⟩
     ·refine bC ⟨[],[(2,⟨.unk,[],false,[],[1],[],none⟩)]⟩ [(2,2,⟨True∧rz .str [(([99,108,97,115,115]:QX),(yi 98)),(([115,101,116]:QX),(yi 99)),(([106,111,105,110]:QX),(yi 100)),(([116,114,101,97,116]:QX),(yi 101))] f 1,⟨trivial,⟨j,p⟩⟩⟩)] (ab (G (zB rfl ?_)));obtain⟨b2,a7,h⟩:=ai h;rcases b2 with⟨cc,ch⟩ | ⟨cp,cs⟩
      ·refine mN 2 [0,2,3,4,1] (jm a7) (ay ?_);exact eB h (gg [] [0,1,2,3,4,5,6])
      refine GX 2 [0,2,3,4,1] (jm a7) (fun _=>?_);obtain rfl:=sI h;refine bp (bW (aM ?_));exact rfl
     rcases aN h with⟨u,h⟩ | ⟨u,h⟩
     ·refine bC ⟨[],[(2,⟨.unk,[],false,[],[2],[],none⟩)]⟩ [(2,2,⟨True∧rz .str [(([99,108,97,115,115]:QX),(yi 98)),(([115,101,116]:QX),(yi 99)),(([106,111,105,110]:QX),(yi 100)),(([116,114,101,97,116]:QX),(yi 101))] f 2,⟨trivial,⟨j,⟨p,u⟩⟩⟩⟩)] (ab (G (zB rfl ?_)));obtain⟨b3,a8,h⟩:=ai h;rcases b3 with⟨cx,d1,d2⟩ | ⟨d3,d4⟩
      ·refine mN 2 [0,2,3,4,1] (iN a8) (ay ?_);exact eB h (gg [] [0,1,2,3,4,5,6])
      refine GX 2 [0,2,3,4,1] (iN a8) (fun _=>?_);obtain rfl:=sI h;refine bp (bW (aM ?_));exact rfl
     rcases aN h with⟨I,h⟩ | ⟨I,h⟩
     ·refine bC ⟨[],[(2,⟨.unk,[],false,[],[3],[],none⟩)]⟩ [(2,2,⟨True∧rz .str [(([99,108,97,115,115]:QX),(yi 98)),(([115,101,116]:QX),(yi 99)),(([106,111,105,110]:QX),(yi 100)),(([116,114,101,97,116]:QX),(yi 101))] f 3,⟨trivial,⟨j,⟨p,⟨u,I⟩⟩⟩⟩⟩)] (ab (G (zB rfl ?_)));obtain⟨b4,a9,h⟩:=ai h;rcases b4 with⟨d5,d6⟩ | ⟨d7,d8⟩
      ·refine mN 2 [0,2,3,4,1] (hY a9) (ay ?_);exact eB h (gg [] [0,1,2,3,4,5,6])
      refine GX 2 [0,2,3,4,1] (hY a9) (fun _=>?_);obtain rfl:=sI h;refine bp (bW (aM ?_));exact rfl
     refine bC ⟨[],[(2,⟨.unk,[],false,[],[4],[],none⟩)]⟩ [(2,2,⟨True∧rz .str [(([99,108,97,115,115]:QX),(yi 98)),(([115,101,116]:QX),(yi 99)),(([106,111,105,110]:QX),(yi 100)),(([116,114,101,97,116]:QX),(yi 101))] f 4,⟨trivial,⟨j,⟨p,⟨u,⟨I,trivial⟩⟩⟩⟩⟩⟩)] (ab (G (Jq rfl (G (G (aC h (fun b5 h=>?_) (fun b5 h=>?_)))))))
     ·obtain⟨b6,aa,h⟩:=ai h;rcases b6 with⟨d9,dd,de,di⟩ | ⟨dk,dm⟩
      ·refine mN 3 [0,2,3,4,1] (iL aa) (ay ?_);exact eB h (gg [] [0,1,2,3,255,5,6])
      refine GX 3 [0,2,3,4,1] (iL aa) (fun _=>?_);obtain rfl:=sI h;refine bp (bW (aM ?_));exact rfl
     obtain⟨b7,b8,h⟩:=ai h;rcases b7 with _ | ⟨ds,dt⟩
     ·cases h
     refine GX 2 [0,2,3,4,1] (aX b8) (fun _=>?_);obtain rfl:=sI h;refine bp (bW (aM ?_));exact rfl
    refine GX 1 [0,2,3,4,1] (bA a5) (fun _=>?_);obtain rfl:=sI h;refine aE (bp (bW (aM ?_)));exact rfl
   refine au (aQ ?_);obtain rfl:=sI h;refine dL (bk ?_);exact bT (gg [] [0,1,2,3,4])
  refine GX 1 [0,2,3,4,1] (aP a4) (fun _=>?_);obtain rfl:=sI h;refine aE (aE (bW (aM ?_)));exact rfl
 rcases a3 with⟨v,v20,x,z,A,B,C,D,E⟩ | ⟨du,e1⟩
 ·obtain⟨rfl,b9⟩:=hq;refine cH ?_ b9;refine aw ?_;obtain rfl:=sI h;exact(RO [] [] [0,1,2,3,4] [] (KR J v x z D E C v20 A B) 5 2).normal
 obtain rfl:=hq;refine bp ?_;obtain rfl:=sI h;exact rfl
theorem rJ(f j:Int):sD Tryz.prog 84 [.adr 0 0 5 0,.adr 1 0 2 0] (Kv 0 (0:Int) (0:Int) (0:Int)) (Kv 0 (0:Int) f j) (aY 72 .i64 .i64 (f,j)):=by
 refine sD.jO (nx:=2) (pn:=2) Tryz.func84 rfl rfl rfl rfl rfl rfl rfl rfl (by kernel_rfl) rfl (fun Bw w0=>?_);have h:some ()=some ():=rfl;refine GN a0 [(1,1,⟨∃p,Tryz.prog.underlying 20=some (.interface p),⟨_,rfl⟩⟩)] (zB rfl (GN a0 [(1,1,⟨∃d,Tryz.prog.underlying 72=some d∧(match d with | .interface _=>false | _=>true)=true,⟨_,rfl,rfl⟩⟩)] (ag (G (Jq rfl (ae (ab (nj a0 [] ?_))))))));exact eN h (gg [] [0,1])
theorem rO:JD Tryz.prog 84 2:=by
 intro f w q;obtain⟨u,v,rfl⟩:∃u v,f = #[u,v]:=by
  match p:f.toList with
  | [a,b]=>exact⟨a,b,Array.ext' p⟩
  | []=>have:=congrArg List.length p;simp[q]at this
  | [_]=>have:=congrArg List.length p;simp[q]at this
  | _::_::_::_=>have:=congrArg List.length p;simp[q]at this
 refine callsD_of_wpS Tryz.func84 rfl fun j x hu=>?_
 apply wpS_seq;apply wpS_region;simp[wpOpsS,go_sem,recoverD,hu,Tryz.ntmps84,Exit.thenS];apply wpS_seq;apply wpS_region;simp[wpOpsS,go_sem,Exit.thenS,Act.eval,Act.put];refine wpS_cond (t:=false) (by simp[Act.eval,Array.replicate]) ?_;simp only[Bool.false_eq_true,if_false];refine wpS_of_wp (wp_skip ?_);cases j;simp_all [bodyPostS,results,Tryz.results84]
def jQ(f:QX):Option ((J0×Int×Int)⊕(Int×Int)) :=
 (if(decide ((f.length:Int) > 4096))=true then((l8 24 (4096:Int) f 0 (0:Int) (0:Int) (0:Int) (0:Int) ([]:XX)).bind fun(x:(Unit)⊕(Int×Int))=>match x with
 | .inr (z,A)=>some (Sum.inr (z,A))
 | .inl _=>none)
 else((gJ f 0 (0:Int) (0:Int) (0:Int) (0:Int) ([]:XX)).bind fun(B:Lh⊕(Int×Int))=>match B with
 | .inr (C,D)=>some (Sum.inr (C,D))
 | .inl (E,j,p,q,u,v,I,J,L)=>some (Sum.inl ((j,p,q,u,v),0,0))))
def oC:(J0×Int×Int)⊕(Int×Int)→J0×Int×Int
 | .inl x=>x
 | .inr e=>((([]:QQ),0,0,([]:QK),([]:XJ)),e.1,e.2)
def j9(f:QX):Option (J0×Int×Int):=(jQ f).map oC
theorem uP(f:QX)(u:(J0×Int×Int)⊕(Int×Int))(h:jQ f=some u):
  Pure Tryz.prog 59 [.st f] (aL (bd false (JW (fun(q:J0×Int×Int)=>([⟨KK,q.1⟩,⟨Y2,q.2⟩]:List (Σ T:Ty,T.den))) (fun(e:Int×Int)=>([⟨KK,(([]:QQ),0,0,([]:QK),([]:XJ))⟩,⟨Y2,(e.1,e.2)⟩]:List (Σ T:Ty,T.den))) u))):=by
 refine Pure.Ib (args:=[.st f]) (gd:=84) (fnd:=Tryz.f84) (l:=[(0,.st f),(2,.adr 0 0 5 0),(3,.adr 1 0 2 0),(4,.adr 2 0 10 0)]) (m:=(NU 0 (0:Int) (0:Int) (0:Int) f 0 (0:Int) (0:Int) (0:Int) (0:Int) ([]:XX))) (nx:=4) (s2:=5) (s3:=2) (lp:=[(2,.adr 0 0 5 0),(3,.adr 1 0 2 0)]) (mp:=(Kv 0 (0:Int) (0:Int) (0:Int))) (nxp:=2) (fv:=aY 72 .i64 .i64) (hin:=(Kv 0 (0:Int) (0:Int) (0:Int))) (hout:=fun e=>(Kv 0 (0:Int) e.1 e.2)) (t2:=2) (t3:=3) (d:=9) je Tryz.func59 (by kernel_rfl) Tryz.func84 (by kernel_rfl) rfl rfl rfl rfl rfl rfl rfl rfl (nl rfl) rfl rfl (by decide) rfl rfl (by decide) (fun Bw w0=>?_) (fun Bw w0 D=>?_) rO (fun e=>rJ e.1 e.2) (by kernel_rfl) (fun e=>by kernel_rfl) [KK,Y2] (fun e=>by kernel_rfl)
 ·clear h;have h:some ()=some ():=rfl;refine Ge (ab (Ge ?_));exact eN h (gg [] [0,8,40,24])
 unfold jQ at h;refine ag (G (aC h (fun E h=>?_) (fun E h=>?_)))
 ·obtain⟨I,x,h⟩:=ai h;rcases I with _ | ⟨z,A⟩
  ·cases h
  have j:=(jU x);refine JK je ⟨[],[(1,(oD j [2,3]))]⟩ 1 (aY 72 .i64 .i64 (z,A)) [] [0,1] [(2,.adr 0 0 5 0),(3,.adr 1 0 2 0)] (Kv 0 (0:Int) (0:Int) (0:Int)) 2 2 [True,jR Tryz.prog 85 [.adr 0 0 10 0,.i64 24,.i64 4096] (Ml f 0 (0:Int) (0:Int) (0:Int) (0:Int) ([]:XX)) (aY 72 .i64 .i64 (z,A))] (by kernel_rfl) (by kernel_rfl) ⟨tt,(jU x),tt⟩ (fun σ1 p=>aE ?_);obtain rfl:=sI h;exact⟨rfl,p⟩
 refine ae (ab (ag ?_));obtain⟨J,v,h⟩:=ai h;rcases J with⟨L,M,N,O,V,X,Y,Z,a1⟩ | ⟨B,C⟩
 ·refine mN 1 [2,3] (gV v) (ab (G (lZ [.frzC 0 0,.frzC 0 3,.frzC 0 4] (by kernel_rfl) (av ?_))));obtain rfl:=sI h;exact⟨rfl,RI [KK,Y2]⟩
 have j:=(gV v);refine JK je ⟨[],[(1,(oD j [2,3]))]⟩ 1 (aY 72 .i64 .i64 (B,C)) [] [0,1] [(2,.adr 0 0 5 0),(3,.adr 1 0 2 0)] (Kv 0 (0:Int) (0:Int) (0:Int)) 2 2 [True,jR Tryz.prog 86 [.adr 0 0 10 0] (Ml f 0 (0:Int) (0:Int) (0:Int) (0:Int) ([]:XX)) (aY 72 .i64 .i64 (B,C))] (by kernel_rfl) (by kernel_rfl) ⟨tt,(gV v),tt⟩ (fun σ1 p=>aE ?_);obtain rfl:=sI h;exact⟨rfl,p⟩
theorem wF{f:QX}{j:J0×Int×Int}(h:j9 f=some j):
  Pure Tryz.prog 59 [.st f] (aL (bd false [⟨KK,j.1⟩,⟨Y2,j.2⟩])):=by
 unfold j9 at h;obtain⟨r,p,rfl⟩:=Option.map_eq_some_iff.1 h;have:=uP  f r p;cases r with
 | inl x=>exact this
 | inr e=>exact this
def rj(v:Int)(j:XZ)(f:Int→Int→XZ→Option (Tree)):(XZ×Int)→Option ((XZ×Int)⊕XZ):=fun(p,q) =>
 (if(decide (q<(j.length:Int)))=true then(if 0≤q∧q<(j.length:Int)then(((if(v == 2)=true then(if 0≤(i64.wrap ((i64.wrap ((j.length:Int) - 1)) - q))∧(i64.wrap ((i64.wrap ((j.length:Int) - 1)) - q))<(j.length:Int)then some (((j.getD ((i64.wrap ((i64.wrap ((j.length:Int) - 1)) - q)).toNat) (Tree.node 0 0 [])).op,(j.getD ((i64.wrap ((i64.wrap ((j.length:Int) - 1)) - q)).toNat) (Tree.node 0 0 [])).set,(j.getD ((i64.wrap ((i64.wrap ((j.length:Int) - 1)) - q)).toNat) (Tree.node 0 0 [])).kids))else none)
 else some (((j.getD q.toNat (Tree.node 0 0 [])).op,(j.getD q.toNat (Tree.node 0 0 [])).set,(j.getD q.toNat (Tree.node 0 0 [])).kids)))).bind fun(x,z,A)=>((f x z A).bind fun u =>
 (if(p.length+([(Tree.node u.op u.set u.kids)]:XZ).length)*32≤140737488355328∧p.length+([(Tree.node u.op u.set u.kids)]:XZ).length≤9223372036854775807 then some (Sum.inl ((p++([(Tree.node u.op u.set u.kids)]:XZ)),(i64.wrap (q+1))))else none)))else none)
 else some (Sum.inr p))
def mv(f:Int→Int→XZ→Option (Tree))(p q:Int)(u:XZ):Option (Tree) :=
 ((iter (rj p u f) (([]:XZ),0)).bind fun j=>some (Tree.node p q j))
def lf:Nat→Int→Int→XZ→Option (Tree)
 | 0=>fun _ _ _=>none
 | n+1=>mv (lf n)
theorem wA(f:Int→Int→XZ→Option (Tree))(j:∀(q:Bool) {x z:Int} {A:XZ} {u:Tree},f x z A=some u→Pure Tryz.prog 87 [.agg [.u8 x,.u32 z,.p q (.slice (.tree .u8 .u32)) A]] (aL (bd false [⟨(.tree .u8 .u32),u⟩])))(q:Bool){x z:Int}{A:XZ}{u:Tree}(h:mv f x z A=some u):
  Pure Tryz.prog 87 [.agg [.u8 x,.u32 z,.p q (.slice (.tree .u8 .u32)) A]] (aL (bd false [⟨(.tree .u8 .u32),u⟩])):=by
 refine PB Tryz.func87 (fun Bw w0=>?_);unfold mv at h;refine G (G (ag (G (ak (cz h (fun(v,D)=>az [(1,.adr 0 0 3 0),(2,.adr 1 0 3 0),(3,.adr 2 0 3 0),(13,.i64 (A.length:Int)),(14,.i64 D)] (MH x z q A 0 (0:Int) x z v) 4) 0 (fun B=>az [(2,.adr 0 0 3 0),(3,.adr 1 0 3 0)] (M1 0 (0:Int) x z B) 3) (gg [.nilC 56 2 104 146 (.tree .u8 .u32)] [0,8,56,104]) (fun y o h=>?_) (fun B h=>?_))))))
 ·obtain⟨v,D⟩:=y;unfold rj at h;refine G (ag (aC h (fun N h=>?_) (fun N h=>?_)))
  ·refine ae (ab (ag (ak (G (GC 3 h (fun h=>ag (G (br h (fun(I,J,L)=>az [(1,.adr 0 0 3 0),(2,.adr 1 0 3 0),(3,.adr 2 0 3 0),(5,.adr 4 0 3 0),(13,.i64 (A.length:Int)),(14,.i64 D)] (MY x z q A 0 (0:Int) x z v I J q L) 5) (fun M h=>?_) (fun M h=>?_)))))))))
   ·refine aC h (fun O h=>?_) (fun O h=>?_)
    ·refine Ak 8 h (fun h=>?_);exact eN h (gg [] [0,1,2,3,68])
    exact ae (eN h (gg [] [0,1,2,3,68]))
   obtain⟨I,J,L⟩:=M;refine ab ?_;obtain⟨X,V,h⟩:=ai h;obtain⟨E,h⟩:=aD h;have C:=(j q V);refine nj ⟨[],[(3,(oP C))]⟩ [(3,3,oc C),(5,5,oc E)] (ay (ab (Ge ?_)));exact eB h (gg [] [0,1,2,45])
  refine au (aQ ?_);exact eX h (gg [] [1,2,3])
 refine aw (ab (G (lZ [.frzC 0 2] (by kernel_rfl) (av ?_))));obtain rfl:=sI h;exact RI [(.tree .u8 .u32)]
theorem sF:∀(n:Nat) (f:Bool) {q u:Int} {v:XZ} {j:Tree},lf n q u v=some j→Pure Tryz.prog 87 [.agg [.u8 q,.u32 u,.p f (.slice (.tree .u8 .u32)) v]] (aL (bd false [⟨(.tree .u8 .u32),j⟩]))
 | 0,_,_,_,_,_,h=>by cases h
 | n+1,f,q,u,v,j,h=>wA (lf n) (sF n) f h
def iv(f:Int)(v:Bool)(j p q u x z A B:Int):Option Z2 :=
 (if ¬(64:Int)=0 then(if 0≤(i64.wrap (Int.tdiv f 64))∧(i64.wrap (Int.tdiv f 64))<((4:Nat):Int)then(if ¬(64:Int)=0 then(if 0≤(Int.tmod f 64)then(if 0≤(i64.wrap (Int.tdiv f 64))∧(i64.wrap (Int.tdiv f 64))<((4:Nat):Int)then some ((if(i64.wrap (Int.tdiv f 64)).toNat=0 then(bitsOf .or .u64 (([j,p,q,u]:QK).getD ((i64.wrap (Int.tdiv f 64)).toNat) 0) (u64.wrap (1*2 ^ (min (Int.tmod f 64).toNat u64.bits))))else j),(if(i64.wrap (Int.tdiv f 64)).toNat=1 then(bitsOf .or .u64 (([j,p,q,u]:QK).getD ((i64.wrap (Int.tdiv f 64)).toNat) 0) (u64.wrap (1*2 ^ (min (Int.tmod f 64).toNat u64.bits))))else p),(if(i64.wrap (Int.tdiv f 64)).toNat=2 then(bitsOf .or .u64 (([j,p,q,u]:QK).getD ((i64.wrap (Int.tdiv f 64)).toNat) 0) (u64.wrap (1*2 ^ (min (Int.tmod f 64).toNat u64.bits))))else q),(if(i64.wrap (Int.tdiv f 64)).toNat=3 then(bitsOf .or .u64 (([j,p,q,u]:QK).getD ((i64.wrap (Int.tdiv f 64)).toNat) 0) (u64.wrap (1*2 ^ (min (Int.tmod f 64).toNat u64.bits))))else u))else none)else none)else none)else none)else none)
theorem qS{f:Int}{x:Bool}{p q u v z A B C:Int}{j:Int×Int×Int×Int}(h:iv f x p q u v z A B C=some j):
  jy Tryz.prog 109 [.adr 0 0 9 1,.i64 f] (J5 x p q u v z A B C) (.tup []) (J5 x j.1 j.2.1 j.2.2.1 j.2.2.2 z A B C):=by
 refine OB Tryz.func109 (fun Bw w0=>?_);unfold iv at h;obtain⟨D,E,I,J,h⟩:=g4 h;obtain⟨L,h⟩:=aD h;refine nj a0 [(2,2,oc D),(4,4,oc E),(7,7,oc I),(8,8,oc J),(11,11,oc L)] ?_;obtain rfl:=sI h;exact(RO [] [] [0] [] (J5 x (if(i64.wrap (Int.tdiv f 64)).toNat=0 then(bitsOf .or .u64 (([p,q,u,v]:QK).getD ((i64.wrap (Int.tdiv f 64)).toNat) 0) (u64.wrap (1*2 ^ (min (Int.tmod f 64).toNat u64.bits))))else p) (if(i64.wrap (Int.tdiv f 64)).toNat=1 then(bitsOf .or .u64 (([p,q,u,v]:QK).getD ((i64.wrap (Int.tdiv f 64)).toNat) 0) (u64.wrap (1*2 ^ (min (Int.tmod f 64).toNat u64.bits))))else q) (if(i64.wrap (Int.tdiv f 64)).toNat=2 then(bitsOf .or .u64 (([p,q,u,v]:QK).getD ((i64.wrap (Int.tdiv f 64)).toNat) 0) (u64.wrap (1*2 ^ (min (Int.tmod f 64).toNat u64.bits))))else u) (if(i64.wrap (Int.tdiv f 64)).toNat=3 then(bitsOf .or .u64 (([p,q,u,v]:QK).getD ((i64.wrap (Int.tdiv f 64)).toNat) 0) (u64.wrap (1*2 ^ (min (Int.tmod f 64).toNat u64.bits))))else v) z A B C) 1 1).normal
def gO(j p q u f:Int):Option (Bool) :=
 (if ¬(64:Int)=0 then(if 0≤(i64.wrap (Int.tdiv f 64))∧(i64.wrap (Int.tdiv f 64))<((4:Nat):Int)then(if ¬(64:Int)=0 then(if 0≤(Int.tmod f 64)then some ((bitsOf .and .u64 (Int.fdiv (([j,p,q,u]:QK).getD ((i64.wrap (Int.tdiv f 64)).toNat) 0) (2 ^ (min (Int.tmod f 64).toNat u64.bits))) (1:Int)) == 1)else none)else none)else none)else none)
theorem iu{j p q u v:Int}{f:Bool}(h:gO j p q u v=some f):
  Pure Tryz.prog 107 [.agg [.u64 j,.u64 p,.u64 q,.u64 u],.i64 v] (aL (bd false [⟨.bool,f⟩])):=by
 refine PB Tryz.func107 (fun Bw w0=>?_);unfold gO at h;refine G ?_;obtain⟨x,z,A,B,h⟩:=g4 h;refine GN a0 [(1,1,oc x),(2,2,oc z),(5,5,oc A),(6,6,oc B)] (av ?_);obtain rfl:=sI h;exact RI [.bool]
def pt(o1 o2 o3 o4:Int):(Int×Int×Int×Int×Int)→Option ((Int×Int×Int×Int×Int)⊕Z2):=fun(u,j,p,q,f) =>
 (if(decide (f<4))=true then(if 0≤f∧f<((4:Nat):Int)then(if 0≤f∧f<((4:Nat):Int)then(if 0≤f∧f<((4:Nat):Int)then some (Sum.inl ((if f.toNat=0 then(bitsOf .or .u64 (([u,j,p,q]:QK).getD f.toNat 0) (([o1,o2,o3,o4]:QK).getD f.toNat 0))else u),(if f.toNat=1 then(bitsOf .or .u64 (([u,j,p,q]:QK).getD f.toNat 0) (([o1,o2,o3,o4]:QK).getD f.toNat 0))else j),(if f.toNat=2 then(bitsOf .or .u64 (([u,j,p,q]:QK).getD f.toNat 0) (([o1,o2,o3,o4]:QK).getD f.toNat 0))else p),(if f.toNat=3 then(bitsOf .or .u64 (([u,j,p,q]:QK).getD f.toNat 0) (([o1,o2,o3,o4]:QK).getD f.toNat 0))else q),(i64.wrap (f+1))))else none)else none)else none)
 else some (Sum.inr (u,j,p,q)))
def cU(u v x z o1 o2 o3 o4:Int):Option Z2 :=
 ((iter (pt o1 o2 o3 o4) (u,v,x,z,0)).bind fun(f,j,p,q)=>some (f,j,p,q))
theorem cI{D E I J o1 o2 o3 o4:Int}{f:Int×Int×Int×Int}(h:cU D E I J o1 o2 o3 o4=some f):
  Pure Tryz.prog 106 [.agg [.u64 D,.u64 E,.u64 I,.u64 J],.agg [.u64 o1,.u64 o2,.u64 o3,.u64 o4]] (aL (bd false [⟨ma,f⟩])):=by
 refine PB Tryz.func106 (fun Bw w0=>?_);unfold cU at h;refine G (ag (G (ak (cz h (fun(L,j,p,q,M)=>az [(2,.adr 0 0 4 0),(3,.adr 1 0 4 0),(4,.adr 2 0 4 0),(6,.i64 M)] (MJ L j p q o1 o2 o3 o4 0 (0:Int) (0:Int) (0:Int)) 3) 0 (fun(u,v,x,z)=>az [(2,.adr 0 0 4 0),(4,.adr 1 0 4 0)] (LL u v x z 0 (0:Int) (0:Int) (0:Int)) 2) (gg [] [0,8,16]) (fun y o h=>?_) (fun N h=>?_)))))
 ·obtain⟨L,j,p,q,M⟩:=y;unfold pt at h;refine G (ag (aC h (fun O h=>?_) (fun O h=>?_)))
  ·refine ae (ab (ag (ak (G ?_))));obtain⟨A,B,C,h⟩:=g3 h;refine nj a0 [(1,1,oc A),(4,4,oc B),(7,7,oc C)] (ay (ab (Ge ?_)));exact eB h (gg [] [0,1,2])
  refine au (aQ ?_);exact eX h (gg [] [0,2])
 obtain⟨u,v,x,z⟩:=N;refine aw (ab (G (av ?_)));obtain rfl:=sI h;exact RI [ma]
def ju(p q u v x z A B:Int)(o2:Qj):(Qj×Int)→Option ((Qj×Int)⊕Qj):=fun(f,v6) =>
 (if(decide (v6<(o2.length:Int)))=true then((gO p q u v v6).bind fun C =>
 (((if C=true then(if 0≤v6∧v6<(f.length:Int)then(if v6.toNat<f.length then((cU ((f.getD v6.toNat (0,0,0,0)).1) ((f.getD v6.toNat (0,0,0,0)).2.1) ((f.getD v6.toNat (0,0,0,0)).2.2.1) ((f.getD v6.toNat (0,0,0,0)).2.2.2) x z A B).bind fun j =>
 (if 0≤v6∧v6<(f.length:Int)then(if v6.toNat<f.length then some ((f.set v6.toNat (j.1,j.2.1,j.2.2.1,j.2.2.2)))else none)else none))else none)else none)
 else some (f))).bind fun D=>some (Sum.inl (D,(i64.wrap (v6+1))))))
 else some (Sum.inr f))
def dT(f j p q u v x z:Int)(B:Bool)(o1:QK)(o2:Qj):Option Qj :=
 ((iter (ju f j p q u v x z o2) (o2,0)).bind fun A=>some A)
theorem jt{f j p q u v x z:Int}{A:Bool}{o1:QK}{o2 C:Qj}(h:dT f j p q u v x z A o1 o2=some C):
  jy Tryz.prog 128 [.adr 0 0 3 0,.agg [.u64 f,.u64 j,.u64 p,.u64 q],.agg [.u64 u,.u64 v,.u64 x,.u64 z]] (C2 A o1 o2) (.tup []) (C2 A o1 C):=by
 refine OB Tryz.func128 (fun Bw w0=>?_);unfold dT at h;refine G (G (ak (cz h (fun(D,v6)=>az [(0,.adr 0 0 3 0),(4,.adr 3 0 4 0),(5,.adr 4 0 4 0),(11,.i64 (o2.length:Int)),(12,.i64 v6)] (Lx A o1 D f j p q u v x z) 5 3) 0 (fun I=>az [] (C2 A o1 I) 3 3) (gg [] [0,1,2,3,11]) (fun y o h=>?_) (fun I h=>?_))))
 ·obtain⟨D,v6⟩:=y;unfold ju at h;refine G (ag (aC h (fun J h=>?_) (fun J h=>?_)))
  ·refine ae (ab (ag (ak (G ?_))));obtain⟨Z,L,h⟩:=ai h;refine GP 2 (iu L) (br h (fun B=>az [(0,.adr 0 0 3 0),(4,.adr 3 0 4 0),(5,.adr 4 0 4 0),(11,.i64 (o2.length:Int)),(12,.i64 v6)] (Lx A o1 B f j p q u v x z) 5 3) (fun B h=>?_) (fun B h=>?_))
   ·refine aC h (fun M h=>?_) (fun M h=>?_)
    ·obtain⟨N,O,h⟩:=g2 h;obtain⟨a1,V,h⟩:=ai h;obtain⟨X,Y,h⟩:=g2 h;have E:=(cI V);exact nj ⟨[],[(13,(oP E))]⟩ [(10,10,oc N),(11,11,oc O),(13,13,oc E),(14,14,oc X),(15,15,oc Y)] (eN h (gg [] [0,1,2,3,4]))
    exact ae (eN h (gg [] [0,1,2,3,4]))
   refine ay (ab (Ge ?_));exact eB h (gg [] [0,1,2,3,4])
  refine au (aQ ?_);exact eX h (gg [] [0,1,2])
 refine aw ?_;obtain rfl:=sI h;exact(RO [] [] [0,1,2] [] (C2 A o1 I) 3 3).normal
def kF(M:XZ)(j:Int→Int→XZ→Bool→QK→Qj→Option (Z9×QK×Qj×Bool)):(QK×Qj×Bool×Bool×Int×Int×Int×Int×Int×Int×Int×Int×Int)→Option ((QK×Qj×Bool×Bool×Int×Int×Int×Int×Int×Int×Int×Int×Int)⊕(Bool×Int×Int×Int×Int×Int×Int×Int×Int×QK×Qj×Bool)):=fun(N,O,V,v,x,z,A,B,C,D,E,I,p) =>
 (if(decide (p<(M.length:Int)))=true then(if 0≤p∧p<(M.length:Int)then((j ((M.getD p.toNat (Tree.node 0 0 [])).op) ((M.getD p.toNat (Tree.node 0 0 [])).set) ((M.getD p.toNat (Tree.node 0 0 [])).kids) V N O).bind fun(f,J,X,L) =>
 ((dT C D E I f.2.1.1 f.2.1.2.1 f.2.1.2.2.1 f.2.1.2.2.2 L J X).bind fun Y =>
 (((if v=true then((cU x z A B f.2.1.1 f.2.1.2.1 f.2.1.2.2.1 f.2.1.2.2.2).bind fun q =>
 some ((q.1,q.2.1,q.2.2.1,q.2.2.2)))
 else some ((x,z,A,B)))).bind fun(Z,a1,a2,a3)=>(((if f.1=true then((cU f.2.2.1 f.2.2.2.1 f.2.2.2.2.1 f.2.2.2.2.2 C D E I).bind fun u =>
 some ((u.1,u.2.1,u.2.2.1,u.2.2.2)))
 else some ((f.2.2.1,f.2.2.2.1,f.2.2.2.2.1,f.2.2.2.2.2)))).bind fun(a4,a5,a6,a7)=>(((if v=true then some (f.1)
 else some (false))).bind fun a8=>some (Sum.inl (J,Y,L,a8,Z,a1,a2,a3,a4,a5,a6,a7,(i64.wrap (p+1)))))))))else none)
 else some (Sum.inr (v,x,z,A,B,C,D,E,I,N,O,V)))
def kE(M:XZ)(j:Int→Int→XZ→Bool→QK→Qj→Option (Z9×QK×Qj×Bool)):(QK×Qj×Bool×Bool×Int×Int×Int×Int×Int×Int×Int×Int×Int)→Option ((QK×Qj×Bool×Bool×Int×Int×Int×Int×Int×Int×Int×Int×Int)⊕(Bool×Int×Int×Int×Int×Int×Int×Int×Int×QK×Qj×Bool)):=fun(N,O,V,L,z,A,B,C,D,E,I,J,p) =>
 (if(decide (p<(M.length:Int)))=true then(if 0≤p∧p<(M.length:Int)then((j ((M.getD p.toNat (Tree.node 0 0 [])).op) ((M.getD p.toNat (Tree.node 0 0 [])).set) ((M.getD p.toNat (Tree.node 0 0 [])).kids) V N O).bind fun(f,X,Y,Z) =>
 (((if L=true then((cU z A B C f.2.1.1 f.2.1.2.1 f.2.1.2.2.1 f.2.1.2.2.2).bind fun q =>
 ((cU D E I J f.2.2.1 f.2.2.2.1 f.2.2.2.2.1 f.2.2.2.2.2).bind fun u =>
 some ((true,q.1,q.2.1,q.2.2.1,q.2.2.2,u.1,u.2.1,u.2.2.1,u.2.2.2))))
 else((cU z A B C f.2.1.1 f.2.1.2.1 f.2.1.2.2.1 f.2.1.2.2.2).bind fun v =>
 ((cU D E I J f.2.2.1 f.2.2.2.1 f.2.2.2.2.1 f.2.2.2.2.2).bind fun x =>
 some ((f.1,v.1,v.2.1,v.2.2.1,v.2.2.2,x.1,x.2.1,x.2.2.1,x.2.2.2)))))).bind fun(a1,a2,a3,a4,a5,a6,a7,a8,a9)=>some (Sum.inl (X,Y,Z,a1,a2,a3,a4,a5,a6,a7,a8,a9,(i64.wrap (p+1))))))else none)
 else some (Sum.inr (L,z,A,B,C,D,E,I,J,N,O,V)))
def fJ(f:Int→Int→XZ→Bool→QK→Qj→Option (Z9×QK×Qj×Bool))(p i2:Int)(L:XZ)(M:Bool)(o1:QK)(o2:Qj):Option (Z9×QK×Qj×Bool) :=
 (if(p == 1)=true then(if(decide ((o1.length:Int)≥200))=true then some ((false,(0,0,0,0),0,0,0,0),o1,o2,true)
 else((iv (o1.length:Int) false 0 (0:Int) (0:Int) (0:Int) (0:Int) (0:Int) (0:Int) (0:Int)).bind fun(q,u,v,x) =>
 (if(o1.length+([i2]:QK).length)*4≤140737488355328∧o1.length+([i2]:QK).length≤9223372036854775807 then(if(o2.length+([(0,0,0,0)]:Qj).length)*32≤140737488355328∧o2.length+([(0,0,0,0)]:Qj).length≤9223372036854775807 then some ((false,(q,u,v,x),q,u,v,x),(o1++([i2]:QK)),(o2++([(0,0,0,0)]:Qj)),M)else none)else none)))
 else(if(p == 2)=true then((iter (kF L f) (o1,o2,M,true,0,0,0,0,0,0,0,0,0)).bind fun(N,O,V,X,Y,Z,a1,a2,a3,a4,a5,a6)=>some ((N,(O,V,X,Y),Z,a1,a2,a3),a4,a5,a6))
 else(if(p == 3)=true then((iter (kE L f) (o1,o2,M,false,0,0,0,0,0,0,0,0,0)).bind fun(a7,a8,a9,aa,ac,ad,ax,b1,b2,b3,b4,b5)=>some ((a7,(a8,a9,aa,ac),ad,ax,b1,b2),b3,b4,b5))
 else(((if(p == 4)=true then some ((p == 4))
 else(if(p == 5)=true then some ((p == 5))
 else some ((p == 6))))).bind fun b6=>(if b6=true then(((if(decide ((L.length:Int) > 0))=true then(if 0≤(0:Int)∧0<(L.length:Int)then((f ((L.getD ((0:Int).toNat) (Tree.node 0 0 [])).op) ((L.getD ((0:Int).toNat) (Tree.node 0 0 [])).set) ((L.getD ((0:Int).toNat) (Tree.node 0 0 [])).kids) M o1 o2).bind fun(j,b7,b8,b9) =>
 some ((b7,b8,b9,j.1,j.2.1.1,j.2.1.2.1,j.2.1.2.2.1,j.2.1.2.2.2,j.2.2.1,j.2.2.2.1,j.2.2.2.2.1,j.2.2.2.2.2)))else none)
 else some ((o1,o2,M,false,0,0,0,0,0,0,0,0)))).bind fun(be,bi,bs,bv,z,A,B,C,D,E,I,J)=>(((if(p != 6)=true then((dT D E I J z A B C bs be bi).bind fun bx =>
 some (bx))
 else some (bi))).bind fun c1=>(((if bv=true then some (true)
 else some ((p != 5)))).bind fun c2=>some ((c2,(z,A,B,C),D,E,I,J),be,c1,bs))))
 else some ((true,(0,0,0,0),0,0,0,0),o1,o2,M))))))
def dS:Nat→Int→Int→XZ→Bool→QK→Qj→Option (Z9×QK×Qj×Bool)
 | 0=>fun _ _ _ _ _ _=>none
 | n+1=>fJ (dS n)
theorem oz(j:Int→Int→XZ→Bool→QK→Qj→Option (Z9×QK×Qj×Bool))(f:∀(v:Bool) {i1 i2:Int} {x:XZ} {d1:Bool} {o1:QK} {o2:Qj} {q:Z9×QK×Qj×Bool},j i1 i2 x d1 o1 o2=some q→jy Tryz.prog 105 [.adr 0 0 3 0,.agg [.u8 i1,.u32 i2,.p v (.slice (.tree .u8 .u32)) x]] (C2 d1 o1 o2) (.agg [.bo q.1.1,.u64 q.1.2.1.1,.u64 q.1.2.1.2.1,.u64 q.1.2.1.2.2.1,.u64 q.1.2.1.2.2.2,.u64 q.1.2.2.1,.u64 q.1.2.2.2.1,.u64 q.1.2.2.2.2.1,.u64 q.1.2.2.2.2.2]) (Kc q.2.2.2 q.2.1 q.2.2.1))(v:Bool){i1 i2:Int}{x:XZ}{d1:Bool}{o1:QK}{o2:Qj}{q:Z9×QK×Qj×Bool}(h:fJ j i1 i2 x d1 o1 o2=some q):
  jy Tryz.prog 105 [.adr 0 0 3 0,.agg [.u8 i1,.u32 i2,.p v (.slice (.tree .u8 .u32)) x]] (C2 d1 o1 o2) (.agg [.bo q.1.1,.u64 q.1.2.1.1,.u64 q.1.2.1.2.1,.u64 q.1.2.1.2.2.1,.u64 q.1.2.1.2.2.2,.u64 q.1.2.2.1,.u64 q.1.2.2.2.1,.u64 q.1.2.2.2.2.1,.u64 q.1.2.2.2.2.2]) (Kc q.2.2.2 q.2.1 q.2.2.1):=by
 refine OB Tryz.func105 (fun Bw w0=>?_);unfold fJ at h;refine G (ag (G (ak (G (aC h (fun g1 h=>?_) (fun g1 h=>?_))))))
 ·refine ag (G (aC h (fun g5 h=>?_) (fun g5 h=>?_)))
  ·refine G (G (av (aj (aA (aj ?_)))));obtain rfl:=sI h;exact RO [some Cx] [] [0,1,2,1,2,11] [(4,.adr 5 0 9 0)] (Fp true o1 o2 false 0 (0:Int) (0:Int) (0:Int) (0:Int) (0:Int) (0:Int) (0:Int)) 6 3
  refine ae (ab (G ?_));obtain⟨⟨d7,d8,d9,dd⟩,g6,h⟩:=ai h;refine GO 6 [99] (qS g6) (G ?_);obtain⟨g7,h⟩:=aD h;refine GD a0 [(8,8,oc g7)] (GC 7 h (fun h=>G (av (aA (aj ?_)))));obtain rfl:=sI h;exact RO [some Cx] [] [0,1,2,259,347,11] [(4,.adr 5 0 9 0)] (Fp d1 (o1++([i2]:QK)) (o2++([(0,0,0,0)]:Qj)) false d7 d8 d9 dd d7 d8 d9 dd) 6 3
 refine G (aC h (fun g8 h=>?_) (fun g8 h=>?_))
 ·refine G (ag (G (ak (cz h (fun(eo,ep,er,O,de,di,dk,dm,V,X,Y,Z,z)=>az [(0,.adr 0 0 3 0),(4,.adr 5 0 9 0),(6,.adr 6 0 9 0),(65,.p v (.slice (.tree .u8 .u32)) x),(66,.i64 (x.length:Int)),(67,.i64 z)] (IZ er eo ep false 0 (0:Int) (0:Int) (0:Int) (0:Int) (0:Int) (0:Int) (0:Int) O de di dk dm V X Y Z) 7 3) 1 (fun(a7,a8,a9,aa,ac,ad,ax,b1,b2,b3,b4,b5)=>az [(4,.adr 3 0 9 0),(6,.adr 4 0 9 0)] (Lg b5 false 0 (0:Int) (0:Int) (0:Int) (0:Int) (0:Int) (0:Int) (0:Int) a7 a8 a9 aa ac ad ax b1 b2 b3 b4) 7 3) (gg [] [0,1,2,1,2,11,75]) (fun y o h=>?_) (fun es h=>?_)))))
  ·obtain⟨eo,ep,er,O,de,di,dk,dm,V,X,Y,Z,z⟩:=y;unfold kF at h;refine G (ag (aC h (fun g9 h=>?_) (fun g9 h=>?_)))
   ·refine ae (ab (ag (ak (GC 0 h (fun h=>?_)))));obtain⟨⟨u,b6,h4,b7⟩,et,h⟩:=ai h;refine GO 2 [0,3,4] (f v et) ?_;obtain⟨b8,eu,h⟩:=ai h;refine GO 5 [0,63,64] (jt eu) (ag (G (br h (fun(a1,a2,a3,a4)=>az [(0,.adr 0 0 3 0),(4,.adr 5 0 9 0),(6,.adr 6 0 9 0),(9,.adr 7 0 9 0),(65,.p v (.slice (.tree .u8 .u32)) x),(66,.i64 (x.length:Int)),(67,.i64 z)] (LP b7 b6 b8 false 0 (0:Int) (0:Int) (0:Int) (0:Int) (0:Int) (0:Int) (0:Int) O a1 a2 a3 a4 V X Y Z u.1 u.2.1.1 u.2.1.2.1 u.2.1.2.2.1 u.2.1.2.2.2 u.2.2.1 u.2.2.2.1 u.2.2.2.2.1 u.2.2.2.2.2) 8 3) (fun ds h=>?_) (fun ds h=>?_))))
    ·refine aC h (fun gb h=>?_) (fun gb h=>?_)
     ·obtain⟨h5,ew,h⟩:=ai h;exact Mt 4 (cI ew) (eN h (gg [] [0,1,2,63,64,5,6,71]))
     exact ae (eN h (gg [] [0,1,2,63,64,5,6,71]))
    obtain⟨a1,a2,a3,a4⟩:=ds;refine ab (ag (G (br h (fun(b9,be,bi,bs)=>az [(0,.adr 0 0 3 0),(4,.adr 5 0 9 0),(6,.adr 6 0 9 0),(9,.adr 7 0 9 0),(65,.p v (.slice (.tree .u8 .u32)) x),(66,.i64 (x.length:Int)),(67,.i64 z)] (LP b7 b6 b8 false 0 (0:Int) (0:Int) (0:Int) (0:Int) (0:Int) (0:Int) (0:Int) O a1 a2 a3 a4 V X Y Z u.1 u.2.1.1 u.2.1.2.1 u.2.1.2.2.1 u.2.1.2.2.2 b9 be bi bs) 8 3) (fun dt h=>?_) (fun dt h=>?_))))
    ·refine aC h (fun gd h=>?_) (fun gd h=>?_)
     ·obtain⟨h6,ey,h⟩:=ai h;exact Mt 4 (cI ey) (eN h (gg [] [0,1,2,3,4,5,6,7]))
     exact ae (eN h (gg [] [0,1,2,3,4,5,6,7]))
    obtain⟨b9,be,bi,bs⟩:=dt;refine ab (br h (fun bv=>az [(0,.adr 0 0 3 0),(4,.adr 5 0 9 0),(6,.adr 6 0 9 0),(65,.p v (.slice (.tree .u8 .u32)) x),(66,.i64 (x.length:Int)),(67,.i64 z)] (IZ b7 b6 b8 false 0 (0:Int) (0:Int) (0:Int) (0:Int) (0:Int) (0:Int) (0:Int) bv a1 a2 a3 a4 b9 be bi bs) 7 3) (fun bv h=>?_) (fun bv h=>?_))
    ·rcases aN h with⟨d5,h⟩ | ⟨d5,h⟩
     ·exact nj ⟨[(2,true),(5,true)],[]⟩ [(3,4,an d5),(5,5,oc d5)] (eN h (gg [] [0,1,2,3,4,5,6]))
     exact nj ⟨[(2,false),(5,false)],[]⟩ [(3,5,oc d5)] (eN h (gg [] [0,1,2,3,4,5,6]))
    refine ay (ab (Ge ?_));exact eB h (gg [] [0,1,2,3,4,5,6])
   refine au (aQ ?_);exact eX h (gg [] [0,1,2,5,6,3,4])
  obtain⟨a7,a8,a9,aa,ac,ad,ax,b1,b2,b3,b4,b5⟩:=es;refine aw (ab (G (av (aA (aj ?_)))));obtain rfl:=sI h;exact RO [some Cx] [] [0,1,2,5,6,3] [(4,.adr 5 0 9 0)] (Fp b5 b3 b4 a7 a8 a9 aa ac ad ax b1 b2) 6 3
 refine G (aC h (fun gi h=>?_) (fun gi h=>?_))
 ·refine G (ag (G (ak (cz h (fun(f1,f2,f3,du,e1,e2,e3,e4,e5,e6,e7,e8,bx)=>az [(0,.adr 0 0 3 0),(4,.adr 5 0 9 0),(10,.adr 6 0 9 0),(111,.p v (.slice (.tree .u8 .u32)) x),(112,.i64 (x.length:Int)),(113,.i64 bx)] (IZ f3 f1 f2 false 0 (0:Int) (0:Int) (0:Int) (0:Int) (0:Int) (0:Int) (0:Int) du e1 e2 e3 e4 e5 e6 e7 e8) 7 3) 3 (fun(c1,c2,c3,c4,c5,c6,c7,c8,c9,cc,ch,cp)=>az [(4,.adr 3 0 9 0),(10,.adr 4 0 9 0)] (Lg cp false 0 (0:Int) (0:Int) (0:Int) (0:Int) (0:Int) (0:Int) (0:Int) c1 c2 c3 c4 c5 c6 c7 c8 c9 cc ch) 7 3) (gg [] [0,1,2,1,2,11,83]) (fun y o h=>?_) (fun f4 h=>?_)))))
  ·obtain⟨f1,f2,f3,du,e1,e2,e3,e4,e5,e6,e7,e8,bx⟩:=y;unfold kE at h;refine G (ag (aC h (fun gj h=>?_) (fun gj h=>?_)))
   ·refine ae (ab (ag (ak (GC 0 h (fun h=>?_)))));obtain⟨⟨h7,f5,f6,f7⟩,f8,h⟩:=ai h;refine GO 2 [0,3,4] (f v f8) (br h (fun(e9,ea,eb,ec,ed,ef,eh,ei,ej)=>az [(0,.adr 0 0 3 0),(4,.adr 5 0 9 0),(10,.adr 6 0 9 0),(111,.p v (.slice (.tree .u8 .u32)) x),(112,.i64 (x.length:Int)),(113,.i64 bx)] (IZ f7 f5 f6 false 0 (0:Int) (0:Int) (0:Int) (0:Int) (0:Int) (0:Int) (0:Int) e9 ea eb ec ed ef eh ei ej) 7 3) (fun ek h=>?_) (fun ek h=>?_))
    ·rcases aN h with⟨d6,h⟩ | ⟨d6,h⟩
     ·obtain⟨h8,f9,h⟩:=ai h;obtain⟨h9,fa,h⟩:=ai h;have A:=(cI f9);have cs:=(cI fa);exact nj ⟨[(2,true),(5,true)],[(10,(oP A)),(15,(oP cs))]⟩ [(3,5,oc d6),(10,10,oc A),(15,15,oc cs)] (eN h (gg [] [0,1,2,63,64,5,6]))
     obtain⟨he,fd,h⟩:=ai h;obtain⟨hf,fi,h⟩:=ai h;have A:=(cI fd);have cs:=(cI fi);exact nj ⟨[(2,false),(5,false)],[(10,(oP A)),(15,(oP cs))]⟩ [(3,4,an d6),(5,5,oc d6),(10,10,oc A),(15,15,oc cs)] (eN h (gg [] [0,1,2,63,64,5,6]))
    obtain⟨e9,ea,eb,ec,ed,ef,eh,ei,ej⟩:=ek;refine ay (ab (Ge ?_));exact eB h (gg [] [0,1,2,3,4,5,6])
   refine au (aQ ?_);exact eX h (gg [] [0,1,2,5,6,3,4])
  obtain⟨c1,c2,c3,c4,c5,c6,c7,c8,c9,cc,ch,cp⟩:=f4;refine aw (ab (G (av (aA (aj ?_)))));obtain rfl:=sI h;exact RO [some Cx] [] [0,1,2,5,6,3] [(4,.adr 5 0 9 0)] (Fp cp cc ch c1 c2 c3 c4 c5 c6 c7 c8 c9) 6 3
 refine ag (G (br h (fun cx=>az [(0,.adr 0 0 3 0),(3,.adr 3 0 3 0),(4,.adr 4 0 9 0),(139,.bo cx)] (M0 d1 o1 o2 i1 i2 v x false 0 (0:Int) (0:Int) (0:Int) (0:Int) (0:Int) (0:Int) (0:Int)) 5 3) (fun cx h=>?_) (fun cx h=>?_)))
 ·refine aC h (fun gp h=>?_) (fun gp h=>?_)
  ·exact ae (eN h (gg [] [0,1,2,3,11]))
  refine G (aC h (fun gs h=>?_) (fun gs h=>?_))
  ·exact ae (eN h (gg [] [0,1,2,3,11]))
  exact Ge (eN h (gg [] [0,1,2,3,11]))
 refine ab (aC h (fun fo h=>?_) (fun fo h=>?_))
 ·refine G (ag (G (br h (fun(d2,fr,d3,d4,B,C,D,E,I,J,L,M)=>az [(0,.adr 0 0 3 0),(3,.adr 5 0 3 0),(4,.adr 6 0 9 0),(14,.adr 7 0 9 0)] (MK d3 d2 fr i1 i2 v x false 0 (0:Int) (0:Int) (0:Int) (0:Int) (0:Int) (0:Int) (0:Int) d4 B C D E I J L M) 8 3) (fun el h=>?_) (fun el h=>?_))))
  ·refine aC h (fun fs h=>?_) (fun fs h=>?_)
   ·obtain⟨h3,h⟩:=aD h;obtain⟨⟨hg,hh,hj,hq⟩,ft,h⟩:=ai h;have A:=(f v ft);exact bC ⟨[],[(5,(oO A [0,1,2]))]⟩ [(3,3,oc h3),(5,5,oc A)] (eN h (gg [] [0,1,2,85,86,3,4,5]))
   exact ae (eN h (gg [] [0,1,2,1,2,3,4,5]))
  obtain⟨d2,fr,d3,d4,B,C,D,E,I,J,L,M⟩:=el;refine ab (ag (G (br h (fun N=>az [(3,.adr 3 0 3 0),(4,.adr 4 0 9 0),(14,.adr 5 0 9 0)] (MQ d3 i1 i2 v x false 0 (0:Int) (0:Int) (0:Int) (0:Int) (0:Int) (0:Int) (0:Int) d4 B C D E I J L M d2 N) 8 3) (fun N h=>?_) (fun N h=>?_))))
  ·refine aC h (fun fv h=>?_) (fun fv h=>?_)
   ·obtain⟨hr,fw,h⟩:=ai h;exact mN 5 [0,3,4] (jt fw) (eN h (gg [] [0,1,2,5,6,7,3,4]))
   exact ae (eN h (gg [] [0,1,2,5,6,7,3,4]))
  refine ab (ag (br h (fun a5=>az [(4,.adr 3 0 9 0),(14,.adr 4 0 9 0)] (Lg d3 false 0 (0:Int) (0:Int) (0:Int) (0:Int) (0:Int) (0:Int) (0:Int) a5 B C D E I J L M d2 N) 7 3) (fun a5 h=>?_) (fun a5 h=>?_)))
  ·rcases aN h with⟨a6,h⟩ | ⟨a6,h⟩
   ·exact bC ⟨[(2,true),(6,true)],[]⟩ [(3,6,oc a6)] (eN h (gg [] [0,1,2,4,5,6,7]))
   exact bC ⟨[(2,false),(6,false)],[]⟩ [(3,5,an a6),(6,6,oc a6)] (eN h (gg [] [0,1,2,4,5,6,7]))
  refine ab (G (av (aA (aj ?_))));obtain rfl:=sI h;exact RO [some Cx] [] [0,1,2,5,6,3] [(4,.adr 5 0 9 0)] (Fp d3 d2 N a5 B C D E I J L M) 6 3
 refine ae (ay (ab (G (av ?_))));obtain rfl:=sI h;exact RO [some Cx] [] [0,1,2,1,2,4] [(4,.adr 5 0 9 0)] (Fp d1 o1 o2 true 0 (0:Int) (0:Int) (0:Int) (0:Int) (0:Int) (0:Int) (0:Int)) 6 3
theorem kB:∀(n:Nat) (j:Bool) {q u:Int} {v:XZ} {x:Bool} {o1:QK} {o2:Qj} {f:Z9×QK×Qj×Bool},dS n q u v x o1 o2=some f→jy Tryz.prog 105 [.adr 0 0 3 0,.agg [.u8 q,.u32 u,.p j (.slice (.tree .u8 .u32)) v]] (C2 x o1 o2) (.agg [.bo f.1.1,.u64 f.1.2.1.1,.u64 f.1.2.1.2.1,.u64 f.1.2.1.2.2.1,.u64 f.1.2.1.2.2.2,.u64 f.1.2.2.1,.u64 f.1.2.2.2.1,.u64 f.1.2.2.2.2.1,.u64 f.1.2.2.2.2.2]) (Kc f.2.2.2 f.2.1 f.2.2.1)
 | 0,_,_,_,_,_,_,_,_,h=>by cases h
 | n+1,j,q,u,v,x,o1,o2,f,h=>oz (dS n) (kB n) j h
def qa(j p q u v x z A:Int):(Int)→Option ((Int)⊕((Unit)⊕(Bool))):=fun f =>
 (if(decide (f<4))=true then(if 0≤f∧f<((4:Nat):Int)then(if 0≤f∧f<((4:Nat):Int)then(if((bitsOf .and .u64 (([j,p,q,u]:QK).getD f.toNat 0) (([v,x,z,A]:QK).getD f.toNat 0)) != 0)=true then some (Sum.inr (Sum.inr true))
 else some (Sum.inl (i64.wrap (f+1))))else none)else none)
 else some (Sum.inr (Sum.inl ())))
def nR(f j p q u v x z:Int):Option (Bool) :=
 ((iter (qa f j p q u v x z) (0:Int)).bind fun(A:((Unit)⊕(Bool)))=>match A with
 | .inl _=>some false
 | .inr (B)=>some B)
theorem xS{j p q u v x z A:Int}{f:Bool}(h:nR j p q u v x z A=some f):
  Pure Tryz.prog 108 [.agg [.u64 j,.u64 p,.u64 q,.u64 u],.agg [.u64 v,.u64 x,.u64 z,.u64 A]] (aL (bd false [⟨.bool,f⟩])):=by
 refine PB Tryz.func108 (fun Bw w0=>?_);unfold nR at h;refine G (ag (G (ak (kS h (fun E=>az [(2,.adr 0 0 4 0),(3,.adr 1 0 4 0),(6,.i64 E)] (LL j p q u v x z A) 2) (dz (fD Tryz.f108.ntmps 0 (fun _=>az [] [] 0)) (gB tb Tryz.f108.results.toList (fun I=>[⟨.bool,I⟩]))) (gg [] [0,8]) (fun E o h=>?_) (fun L h e σ' J=>?_)))))
 ·unfold qa at h;refine G (ag (aC h (fun M h=>?_) (fun M h=>?_)))
  ·refine ae (ab (ag (ak (G ?_))));obtain⟨B,C,h⟩:=g2 h;refine GD a0 [(1,1,oc B),(4,4,oc C)] (aC h (fun N h=>?_) (fun N h=>?_))
   ·refine G (av ?_);obtain rfl:=sI h;refine aA (aj (bM (aM ?_)));exact bL (RI [.bool])
   refine ae (ay (ab (Ge ?_)));exact eB h (gg [] [0,1])
  refine au (aQ ?_);obtain rfl:=sI h;refine dL (bk ?_);exact bT (gg [] [])
 rcases L with _ | I
 ·obtain⟨rfl,D⟩:=J;refine cH ?_ D;refine aw (ab (G (av ?_)));obtain rfl:=sI h;exact RI [.bool]
 obtain⟨rfl,O⟩:=J;refine aA (aj ?_);obtain rfl:=sI h;exact O
def ir(f j p q u:Int):Option Z2 :=
 (if ¬(64:Int)=0 then(if 0≤(i64.wrap (Int.tdiv f 64))∧(i64.wrap (Int.tdiv f 64))<((4:Nat):Int)then(if ¬(64:Int)=0 then(if 0≤(Int.tmod f 64)then(if 0≤(i64.wrap (Int.tdiv f 64))∧(i64.wrap (Int.tdiv f 64))<((4:Nat):Int)then some ((if(i64.wrap (Int.tdiv f 64)).toNat=0 then(bitsOf .or .u64 (([j,p,q,u]:QK).getD ((i64.wrap (Int.tdiv f 64)).toNat) 0) (u64.wrap (1*2 ^ (min (Int.tmod f 64).toNat u64.bits))))else j),(if(i64.wrap (Int.tdiv f 64)).toNat=1 then(bitsOf .or .u64 (([j,p,q,u]:QK).getD ((i64.wrap (Int.tdiv f 64)).toNat) 0) (u64.wrap (1*2 ^ (min (Int.tmod f 64).toNat u64.bits))))else p),(if(i64.wrap (Int.tdiv f 64)).toNat=2 then(bitsOf .or .u64 (([j,p,q,u]:QK).getD ((i64.wrap (Int.tdiv f 64)).toNat) 0) (u64.wrap (1*2 ^ (min (Int.tmod f 64).toNat u64.bits))))else q),(if(i64.wrap (Int.tdiv f 64)).toNat=3 then(bitsOf .or .u64 (([j,p,q,u]:QK).getD ((i64.wrap (Int.tdiv f 64)).toNat) 0) (u64.wrap (1*2 ^ (min (Int.tmod f 64).toNat u64.bits))))else u))else none)else none)else none)else none)else none)
theorem qN{f p q u v:Int}{j:Int×Int×Int×Int}(h:ir f p q u v=some j):
  jy Tryz.prog 109 [.adr 0 0 4 0,.i64 f] [(0,.box [.u64 p,.u64 q,.u64 u,.u64 v])] (.tup []) [(0,.box [.u64 j.1,.u64 j.2.1,.u64 j.2.2.1,.u64 j.2.2.2])]:=by
 refine OB Tryz.func109 (fun Bw w0=>?_);unfold ir at h;obtain⟨x,z,A,B,h⟩:=g4 h;obtain⟨C,h⟩:=aD h;refine nj a0 [(2,2,oc x),(4,4,oc z),(7,7,oc A),(8,8,oc B),(11,11,oc C)] ?_;obtain rfl:=sI h;exact(RO [] [] [0] [] [(0,.box [.u64 (if(i64.wrap (Int.tdiv f 64)).toNat=0 then(bitsOf .or .u64 (([p,q,u,v]:QK).getD ((i64.wrap (Int.tdiv f 64)).toNat) 0) (u64.wrap (1*2 ^ (min (Int.tmod f 64).toNat u64.bits))))else p),.u64 (if(i64.wrap (Int.tdiv f 64)).toNat=1 then(bitsOf .or .u64 (([p,q,u,v]:QK).getD ((i64.wrap (Int.tdiv f 64)).toNat) 0) (u64.wrap (1*2 ^ (min (Int.tmod f 64).toNat u64.bits))))else q),.u64 (if(i64.wrap (Int.tdiv f 64)).toNat=2 then(bitsOf .or .u64 (([p,q,u,v]:QK).getD ((i64.wrap (Int.tdiv f 64)).toNat) 0) (u64.wrap (1*2 ^ (min (Int.tmod f 64).toNat u64.bits))))else u),.u64 (if(i64.wrap (Int.tdiv f 64)).toNat=3 then(bitsOf .or .u64 (([p,q,u,v]:QK).getD ((i64.wrap (Int.tdiv f 64)).toNat) 0) (u64.wrap (1*2 ^ (min (Int.tmod f 64).toNat u64.bits))))else v)])] 1 1).normal
end
end Go.Proofs.YtobbjfkfmdiklaaGreatDoor.T
