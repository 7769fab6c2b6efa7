import Derived.Test.YtobbjfkfmdiklaaGreatDoorTvT50e0
namespace Go.Proofs.YtobbjfkfmdiklaaGreatDoor.T
open Go Go.Tv Go.Proofs
open Go.IntKind (i64 u32 u64 u8)
noncomputable section
set_option maxRecDepth 100000
set_option maxHeartbeats 4000000
def fm  : Option (XK×XK×XK×XK×QX×QX×QX×Int×Int) :=
 some (([]:XK),([(10,10,2),(32,32,1)]:XK),([(32,126,1)]:XK),([]:XK),([99,108,97,115,115,32,79,59,32,109,97,121,32,79,32,47,32,79,59]:QX),([99,108,97,115,115,32,79,32,83,32,78,59,32,107,101,101,112,32,83,32,47,32,83,59,32,109,97,121,32,83,32,47,32,46,59,32,109,117,115,116,32,78,32,47,32,46,59,32,107,101,101,112,32,46,32,47,32,46,59]:QX),([]:QX),2,2)
theorem nZ{j:XK×XK×XK×XK×QX×QX×QX×Int×Int}(h:fm=some j):
  Pure Tryz.prog 22 [] (aK (bd false [⟨Y7,j⟩])):=by
 refine PB Tryz.func22 (fun Bw w0=>?_);unfold fm at h;refine G (G (lS [.frzC 0 1,.frzC 0 2] (by kernel_rfl) (aw ?_)));obtain rfl:=sI h;exact RI [Y7]
def lZ(p j:Int)(q:QX)(u p3 p4 p5 p6:Int)(o1:XQ):Option ((Unit)⊕(Int×Int)):=some (Sum.inr (p,j))
theorem mU(v:Value)(e a:Int)(w:World):
  Calls Tryz.prog 85 #[v,.int .i64 e,.int .i64 a] w fun r j=>r = .panicked [{ v:=aW 72 .i64 .i64 (e,a),recovered:=false }]∧j=w:=by
 go_enter Tryz.func85,Tryz.ntmps85;go_wp2
 exact⟨rfl,rfl,rfl⟩
theorem j9{u j:Int}{x:QX}{z p3 p4 p5 p6:Int}{o1:XQ}{p:(Unit)⊕(Int×Int)}(h:lZ u j x z p3 p4 p5 p6 o1=some p):
  iV Tryz.prog 85 [.adr 0 0 10 0,.i64 u,.i64 j] (MQ x z p3 p4 p5 p6 o1) (kd (fun(q:Unit)=>(.tup [],[])) (aW 72 .i64 .i64) p):=by
 obtain rfl:=sI h;exact jV.BR Tryz.func85 (by kernel_rfl) rfl (fun v w=>mU v _ _ w)
def gm(j:QX)(p:Int):Option (Int):=some (xf j p 0)
theorem kG(s:ByteArray)(c:Int)(w:World):
  Calls Tryz.prog 132 #[.string s,.int .u8 c] w fun e j=>e = .returned (.int .i64 (Lib.indexByte s.data.toList c.toNat.toUInt8))∧j=w:=by
 have hd:∀w,(callFunc 134 #[.string s,.int .u8 c]).run Tryz.prog w = .ok (.value (.int .i64 (Lib.indexByte s.data.toList c.toNat.toUInt8))) w:=fun w=>by rw[run_callFunc_extern (fn:=Tryz.f134) (e:=Extern.BytealgIndexByte.indexByte) Tryz.func134 (by kernel_rfl) rfl (by kernel_rfl) (by kernel_rfl),Lib.run_indexByteString];rfl
 go_enter Tryz.func132,Tryz.ntmps132;go_wp2
 go_ret
 exact⟨rfl,rfl⟩
theorem mG{p:QX}{q j:Int}(h:gm p q=some j):
  Pure Tryz.prog 132 [.st p,.u8 q] (aK (bd false [⟨(.int .i64),j⟩])):=by
 obtain rfl:=sI h;exact Pure.Lt Tryz.func132 (by kernel_rfl) rfl (fun s w=>kG s _ w)
def eY(j:QX)(p:Int):Option (Int) :=
 ((gm j p).bind fun q =>
 some q)
theorem j6{p:QX}{q j:Int}(h:eY p q=some j):
  Pure Tryz.prog 124 [.st p,.u8 q] (aK (bd false [⟨(.int .i64),j⟩])):=by
 refine PB Tryz.func124 (fun Bw w0=>?_);unfold eY at h;refine G ?_;obtain⟨v,u,h⟩:=aj h;refine GP 2 (mG u) (aw ?_);obtain rfl:=sI h;exact RI [(.int .i64)]
def iK(j:Int):Option (Bool) :=
 (((if(j == 32)=true then some (true)
 else(if(j == 9)=true then some (true)
 else(if(j == 10)=true then some (true)
 else some ((j == 13)))))).bind fun v1=>some v1)
theorem wP{v:Int}{q:Bool}(h:iK v=some q):
  Pure Tryz.prog 125 [.u8 v] (aK (bd false [⟨.bool,q⟩])):=by
 refine PB Tryz.func125 (fun Bw w0=>?_);unfold iK at h;refine G (af (bz h (fun v1=>aA [(2,.bo v1)] [] 0) (fun v1 h=>?_) (fun v1 h=>?_)))
 ·rcases aM h with⟨j,h⟩ | ⟨j,h⟩
  ·exact bC ⟨[(2,true),(5,true)],[]⟩ [(3,5,oc j)] (eN h (gg [] []))
  rcases aM h with⟨p,h⟩ | ⟨p,h⟩
  ·exact bC ⟨[(2,false),(5,false),(6,true),(9,true)],[]⟩ [(3,4,an j),(5,5,oc j),(7,9,oc p)] (eN h (gg [] []))
  rcases aM h with⟨u,h⟩ | ⟨u,h⟩
  ·exact bC ⟨[(2,false),(5,false),(6,false),(9,false),(10,true),(13,true)],[]⟩ [(3,4,an j),(5,5,oc j),(7,8,an p),(9,9,oc p),(11,13,oc u)] (eN h (gg [] []))
  exact bC ⟨[(2,false),(5,false),(6,false),(9,false),(10,false),(13,false)],[]⟩ [(3,4,an j),(5,5,oc j),(7,8,an p),(9,9,oc p),(11,12,an u),(13,13,oc u)] (eN h (gg [] []))
 refine ab (aw ?_);obtain rfl:=sI h;exact RI [.bool]
def dA(j:Int):Option (Bool) :=
 (((if(j == 95)=true then some (true)
 else(if(decide (j≥97))=true then(if(decide (j≤122))=true then some (true)
 else(if(decide (j≥65))=true then(if(decide (j≤90))=true then some (true)
 else(if(decide (j≥48))=true then some ((decide (j≤57)))
 else some (false)))
 else(if(decide (j≥48))=true then some ((decide (j≤57)))
 else some (false))))
 else(if(decide (j≥65))=true then(if(decide (j≤90))=true then some (true)
 else(if(decide (j≥48))=true then some ((decide (j≤57)))
 else some (false)))
 else(if(decide (j≥48))=true then some ((decide (j≤57)))
 else some (false)))))).bind fun v1=>some v1)
theorem da{I:Int}{E:Bool}(h:dA I=some E):
  Pure Tryz.prog 126 [.u8 I] (aK (bd false [⟨.bool,E⟩])):=by
 refine PB Tryz.func126 (fun Bw w0=>?_);unfold dA at h;refine G (af (bz h (fun v1=>aA [(2,.bo v1)] [] 0) (fun v1 h=>?_) (fun v1 h=>?_)))
 ·rcases aM h with⟨j,h⟩ | ⟨j,h⟩
  ·exact bC ⟨[(2,true),(9,true)],[]⟩ [(3,5,oc j),(8,9,oc j)] (eN h (gg [] []))
  rcases aM h with⟨p,h⟩ | ⟨p,h⟩
  ·rcases aM h with⟨q,h⟩ | ⟨q,h⟩
   ·exact bC ⟨[(2,false),(5,true),(8,true),(9,false),(10,true),(17,true)],[]⟩ [(3,5,an j),(6,7,an p),(8,8,oc (And.intro j p)),(9,9,oc j),(11,13,oc q),(16,17,oc q)] (eN h (gg [] []))
   rcases aM h with⟨u,h⟩ | ⟨u,h⟩
   ·rcases aM h with⟨v,h⟩ | ⟨v,h⟩
    ·exact bC ⟨[(2,false),(5,true),(8,true),(9,false),(10,false),(13,true),(16,true),(17,false),(18,true),(25,true)],[]⟩ [(3,5,an j),(6,7,an p),(8,8,oc (And.intro j p)),(9,9,oc j),(11,13,an q),(14,15,an u),(16,16,oc (And.intro q u)),(17,17,oc q),(19,21,oc v),(24,25,oc v)] (eN h (gg [] []))
    rcases aM h with⟨A,h⟩ | ⟨A,h⟩
    ·exact bC ⟨[(2,false),(5,true),(8,true),(9,false),(10,false),(13,true),(16,true),(17,false),(18,false),(21,true),(24,true),(25,false)],[]⟩ [(3,5,an j),(6,7,an p),(8,8,oc (And.intro j p)),(9,9,oc j),(11,13,an q),(14,15,an u),(16,16,oc (And.intro q u)),(17,17,oc q),(19,21,an v),(22,23,an A),(24,24,oc (And.intro v A)),(25,25,oc v)] (eN h (gg [] []))
    exact bC ⟨[(2,false),(5,true),(8,true),(9,false),(10,false),(13,true),(16,true),(17,false),(18,false),(21,false),(24,false),(25,false)],[]⟩ [(3,5,an j),(6,7,an p),(8,8,oc (And.intro j p)),(9,9,oc j),(11,13,an q),(14,15,an u),(16,16,oc (And.intro q u)),(17,17,oc q),(19,21,an v),(22,23,oc A),(24,24,oc (And.intro v A)),(25,25,oc v)] (eN h (gg [] []))
   rcases aM h with⟨C,h⟩ | ⟨C,h⟩
   ·exact bC ⟨[(2,false),(5,true),(8,true),(9,false),(10,false),(13,false),(16,false),(17,false),(21,true),(24,true)],[]⟩ [(3,5,an j),(6,7,an p),(8,8,oc (And.intro j p)),(9,9,oc j),(11,13,an q),(14,15,oc u),(16,16,oc (And.intro q u)),(17,17,oc q),(22,23,an C),(24,24,oc C)] (eN h (gg [] []))
   exact bC ⟨[(2,false),(5,true),(8,true),(9,false),(10,false),(13,false),(16,false),(17,false),(21,false),(24,false)],[]⟩ [(3,5,an j),(6,7,an p),(8,8,oc (And.intro j p)),(9,9,oc j),(11,13,an q),(14,15,oc u),(16,16,oc (And.intro q u)),(17,17,oc q),(22,24,oc C)] (eN h (gg [] []))
  rcases aM h with⟨x,h⟩ | ⟨x,h⟩
  ·rcases aM h with⟨z,h⟩ | ⟨z,h⟩
   ·exact bC ⟨[(2,false),(5,false),(8,false),(9,false),(13,true),(16,true),(18,true),(25,true)],[]⟩ [(3,5,an j),(6,7,oc p),(8,8,oc (And.intro j p)),(9,9,oc j),(14,15,an x),(16,16,oc x),(19,21,oc z),(24,25,oc z)] (eN h (gg [] []))
   rcases aM h with⟨B,h⟩ | ⟨B,h⟩
   ·exact bC ⟨[(2,false),(5,false),(8,false),(9,false),(13,true),(16,true),(18,false),(21,true),(24,true),(25,false)],[]⟩ [(3,5,an j),(6,7,oc p),(8,8,oc (And.intro j p)),(9,9,oc j),(14,15,an x),(16,16,oc x),(19,21,an z),(22,23,an B),(24,24,oc (And.intro z B)),(25,25,oc z)] (eN h (gg [] []))
   exact bC ⟨[(2,false),(5,false),(8,false),(9,false),(13,true),(16,true),(18,false),(21,false),(24,false),(25,false)],[]⟩ [(3,5,an j),(6,7,oc p),(8,8,oc (And.intro j p)),(9,9,oc j),(14,15,an x),(16,16,oc x),(19,21,an z),(22,23,oc B),(24,24,oc (And.intro z B)),(25,25,oc z)] (eN h (gg [] []))
  rcases aM h with⟨D,h⟩ | ⟨D,h⟩
  ·exact bC ⟨[(2,false),(5,false),(8,false),(9,false),(13,false),(16,false),(21,true),(24,true)],[]⟩ [(3,5,an j),(6,7,oc p),(8,8,oc (And.intro j p)),(9,9,oc j),(14,16,oc x),(22,23,an D),(24,24,oc D)] (eN h (gg [] []))
  exact bC ⟨[(2,false),(5,false),(8,false),(9,false),(13,false),(16,false),(21,false),(24,false)],[]⟩ [(3,5,an j),(6,7,oc p),(8,8,oc (And.intro j p)),(9,9,oc j),(14,16,oc x),(22,24,oc D)] (eN h (gg [] []))
 refine ab (aw ?_);obtain rfl:=sI h;exact RI [.bool]
def cu(p:QQ)(v1:QX):(Int)→Option ((Int)⊕((Unit)⊕(Int))):=fun j =>
 (if(decide (j<(p.length:Int)))=true then(if 0≤j∧j<(p.length:Int)then(if(v1 == (p.getD j.toNat []))=true then some (Sum.inr (Sum.inr j))
 else some (Sum.inl (i64.wrap (j+1))))else none)
 else some (Sum.inr (Sum.inl ())))
def cU(j:QQ)(v1:QX):Option (Int) :=
 ((iter (cu j v1) (0:Int)).bind fun(p:((Unit)⊕(Int)))=>match p with
 | .inl _=>some (-1:Int)
 | .inr (q)=>some q)
theorem j7(j:Bool){u:QQ}{v1:QX}{q:Int}(h:cU u v1=some q):
  Pure Tryz.prog 131 [.p j (.slice .str) u,.st v1] (aK (bd false [⟨(.int .i64),q⟩])):=by
 refine PB Tryz.func131 (fun Bw w0=>?_);unfold cU at h;refine G (af (G (ak (kg h (fun x=>aA [(0,.p j (.slice .str) u),(1,.st v1),(7,.i64 (u.length:Int)),(8,.i64 x)] [] 0) (dy (fj Tryz.f131.ntmps 0 (fun _=>aA [] [] 0)) (gr tb Tryz.f131.results.toList (fun z=>[⟨(.int .i64),z⟩]))) (gg [] []) (fun x o h=>?_) (fun B h e σ' A=>?_)))))
 ·unfold cu at h;refine G (af (aC h (fun C h=>?_) (fun C h=>?_)))
  ·refine ae (ab (af (ak (G (GC 3 h (fun h=>aC h (fun D h=>?_) (fun D h=>?_)))))))
   ·refine G (aw ?_);obtain rfl:=sI h;refine au (ah (bK (aL ?_)));exact bH (RI [(.int .i64)])
   refine ae (ay (ab (Ge ?_)));exact eB h (gg [] [])
  refine av (aP ?_);obtain rfl:=sI h;refine dL (bk ?_);exact bS (gg [] [])
 rcases B with _ | z
 ·obtain⟨rfl,v⟩:=A;refine cF ?_ v;refine az (ab (G (aw ?_)));obtain rfl:=sI h;exact RI [(.int .i64)]
 obtain⟨rfl,E⟩:=A;refine au (ah ?_);obtain rfl:=sI h;exact E
def bc(p j:Int)(q:QX)(u p3 p4 p5 p6:Int)(o1:QQ)(o2:QK)(o3:XJ)(o4:XQ):Option ((Unit)⊕(Int×Int)):=some (Sum.inr (p,j))
theorem lI(v:Value)(e a:Int)(w:World):
  Calls Tryz.prog 85 #[v,.int .i64 e,.int .i64 a] w fun r j=>r = .panicked [{ v:=aW 72 .i64 .i64 (e,a),recovered:=false }]∧j=w:=by
 go_enter Tryz.func85,Tryz.ntmps85;go_wp2
 exact⟨rfl,rfl,rfl⟩
theorem aX{u j:Int}{x:QX}{z p3 p4 p5 p6:Int}{o1:QQ}{o2:QK}{o3:XJ}{o4:XQ}{p:(Unit)⊕(Int×Int)}(h:bc u j x z p3 p4 p5 p6 o1 o2 o3 o4=some p):
  iV Tryz.prog 85 [.adr 0 0 10 0,.i64 u,.i64 j] (bO x z p3 p4 p5 p6 o1 o2 o3 o4) (kd (fun(q:Unit)=>(.tup [],[])) (aW 72 .i64 .i64) p):=by
 obtain rfl:=sI h;exact jV.BR Tryz.func85 (by kernel_rfl) rfl (fun v w=>lI v _ _ w)
def dK(p:QX)(I J L M:Int)(o1:QQ)(o2:QK)(o3:XJ)(o4:XQ):(Int)→Option ((Int)⊕((Int)⊕((Int×Int)⊕(Int×Int)))):=fun j =>
 (if(decide (j<(p.length:Int)))=true then(if 0≤j∧j<(p.length:Int)then(if(((p.getD j.toNat 0).toNat:Int) == 35)=true then(if 0≤j∧j≤(p.length:Int)∧(p.length:Int)≤(p.length:Int)then((eY ((p.take (p.length:Int).toNat).drop j.toNat) 10).bind fun q =>
 (((if(decide (q<0))=true then some ((i64.wrap ((p.length:Int) - j)))
 else some (q))).bind fun u=>some (Sum.inl (i64.wrap (j+u)))))else none)
 else((iK ((p.getD j.toNat 0).toNat:Int)).bind fun v =>
 (if v=true then some (Sum.inl (i64.wrap (j+1)))
 else((((dA ((p.getD j.toNat 0).toNat:Int)).bind fun z =>
 (if(!z)=true then((eY ([40,41,91,93,94,124,42,43,63,46,59,47,61]:QX) ((p.getD j.toNat 0).toNat:Int)).bind fun A =>
 some ((decide (A<0))))
 else some (false)))).bind fun B=>(if B=true then((bc 20 j p j I J L M o1 o2 o3 o4).bind fun(C:(Unit)⊕(Int×Int))=>match C with
 | .inr (D,E)=>some (Sum.inr (Sum.inr (Sum.inl (D,E))))
 | .inl _=>none)
 else some (Sum.inr (Sum.inr (Sum.inr (((p.getD j.toNat 0).toNat:Int),j)))))))))else none)
 else some (Sum.inr (Sum.inl j)))
def bg(A:QX)(B C D E I:Int)(o1:QQ)(o2:QK)(o3:XJ)(o4:XQ):Option ((Int×Int)⊕(Int×Int)) :=
 ((iter (dK A C D E I o1 o2 o3 o4) B).bind fun(j:((Int)⊕((Int×Int)⊕(Int×Int))))=>match j with
 | .inl p=>some (Sum.inl (0,p))
 | .inr (.inl (q,u))=>some (Sum.inr (q,u))
 | .inr (.inr ((v,z)))=>some (Sum.inl (v,z)))
theorem aO{v:QX}{d2 x z A B:Int}{o1:QQ}{o2:QK}{o3:XJ}{o4:XQ}{I:(Int×Int)⊕(Int×Int)}(h:bg v d2 x z A B o1 o2 o3 o4=some I):
  iV Tryz.prog 102 [.adr 0 0 10 0] (bO v d2 x z A B o1 o2 o3 o4) (kd (fun(q:Int×Int)=>(.u8 q.1,(bO v q.2 x z A B o1 o2 o3 o4))) (aW 72 .i64 .i64) I):=by
 refine DB Tryz.func102 (fun Bw w0=>?_);unfold bg at h;refine G (af (ak (kg h (fun p=>aA [(0,.adr 0 0 10 0)] (bO v p x z A B o1 o2 o3 o4) 5 5) (dy (fj Tryz.f102.ntmps 0 (fun C=>aA [] (bO v C x z A B o1 o2 o3 o4) 5 5)) (dy (rS (aW 72 .i64 .i64)) (CS tb Tryz.f102.ntmps Tryz.f102.results.toList (fun(J,L)=>(.u8 J,(bO v L x z A B o1 o2 o3 o4)))))) (gg [] [0,1,2,3,4]) (fun p o h=>?_) (fun O h e σ' V=>?_))))
 ·unfold dK at h;refine af (GD a0 [] (aC h (fun X h=>?_) (fun X h=>?_)))
  ·refine ae (ab (ak ?_));obtain⟨Y,h⟩:=aD h;refine GD a0 [(8,8,oc Y)] (G (aC h (fun Z h=>?_) (fun Z h=>?_)))
   ·obtain⟨a1,h⟩:=aD h;obtain⟨ac,a2,h⟩:=aj h;have j:=(j6 a2);refine GD ⟨[],[(9,(oP j))]⟩ [(8,8,oc a1),(9,9,oc j)] (af (G (bz h (fun D=>aA [(0,.adr 0 0 10 0),(4,.i64 D)] (bO v p x z A B o1 o2 o3 o4) 5 5) (fun D h=>?_) (fun D h=>?_))))
    ·refine aC h (fun a3 h=>?_) (fun a3 h=>?_)
     ·exact nf a0 [] (eN h (gg [] [0,1,2,3,4]))
     exact ae (eN h (gg [] [0,1,2,3,4]))
    refine ab (Ge (ay ?_));exact eB h (gg [] [0,1,2,3,4])
   obtain⟨ad,a4,h⟩:=aj h;refine GP 1 (wP a4) (aC h (fun a5 h=>?_) (fun a5 h=>?_))
   ·refine Ge (ay ?_);exact eB h (gg [] [0,1,2,3,4])
   refine af (af (bz h (fun E=>aA [(0,.adr 0 0 10 0),(3,.u8 ((v.getD p.toNat 0).toNat:Int)),(72,.bo E)] (bO v p x z A B o1 o2 o3 o4) 5 5) (fun E h=>?_) (fun E h=>?_)))
   ·obtain⟨ax,M,h⟩:=aj h;rcases aM h with⟨u,h⟩ | ⟨u,h⟩
    ·obtain⟨b1,a6,h⟩:=aj h;have j:=(da M);have N:=(j6 a6);exact bC ⟨[(3,true),(7,true)],[(1,(oP j)),(5,(oP N))]⟩ [(1,1,oc j),(4,4,an u),(5,5,oc (And.intro u N)),(6,6,an u),(7,7,oc u)] (eN h (gg [] [0,1,2,3,4]))
    have j:=(da M);exact bC ⟨[(3,false),(7,false)],[(1,(oP j))]⟩ [(1,1,oc j),(4,7,oc u)] (eN h (gg [] [0,1,2,3,4]))
   refine ab (aC h (fun a7 h=>?_) (fun a7 h=>?_))
   ·obtain⟨a8,a9,h⟩:=aj h;rcases a8 with _ | ⟨b2,b3⟩
    ·cases h
    refine GX 5 [0,1,2,3,4] (aX a9) (fun _=>?_);obtain rfl:=sI h;refine aE (bq (bY (aL (A4 ?_))));exact rfl
   refine ae (ab (G (aw ?_)));obtain rfl:=sI h;refine au (bK (aL (aL ?_)));exact yJ (RO [some (.int .u8)] [] [0,1,2,3,4] [(2,.u8 ((v.getD p.toNat 0).toNat:Int))] (bO v p x z A B o1 o2 o3 o4) 5 5)
  refine av (aP ?_);obtain rfl:=sI h;refine dL (bk ?_);exact bS (gg [] [0,1,2,3,4])
 rcases O with C | ⟨b4,b5⟩ | ⟨J,L⟩
 ·obtain⟨rfl,aa⟩:=V;refine cF ?_ aa;refine az (ab (G (aw ?_)));obtain rfl:=sI h;exact RO [some (.int .u8)] [] [0,1,2,3,4] [(2,.u8 0)] (bO v C x z A B o1 o2 o3 o4) 5 5
 ·obtain rfl:=V;refine bq (aE ?_);obtain rfl:=sI h;exact rfl
 obtain⟨rfl,hr⟩:=V;refine au (ah ?_);obtain rfl:=sI h;exact hr
def dJ(p:QX):(Int)→Option ((Int)⊕(Int)):=fun j =>
 (((if(decide (j<(p.length:Int)))=true then(if 0≤j∧j<(p.length:Int)then((dA ((p.getD j.toNat 0).toNat:Int)).bind fun q =>
 some (q))else none)
 else some (false))).bind fun u=>(if u=true then some (Sum.inl (i64.wrap (j+1)))
 else some (Sum.inr j)))
def cb(q:QX)(C p3 p4 p5 p6:Int)(o1:QQ)(o2:QK)(o3:XJ)(o4:XQ):Option ((QX×Int×Int)⊕(Int×Int)) :=
 ((bg q C p3 p4 p5 p6 o1 o2 o3 o4).bind fun(D:(Int×Int)⊕(Int×Int))=>match D with
 | .inr (u,v)=>some (Sum.inr (u,v))
 | .inl (x,j)=>((dA x).bind fun z =>
 (if(!z)=true then((bc 21 j q j p3 p4 p5 p6 o1 o2 o3 o4).bind fun(E:(Unit)⊕(Int×Int))=>match E with
 | .inr (A,B)=>some (Sum.inr (A,B))
 | .inl _=>none)
 else((iter (dJ q) j).bind fun p=>(if 0≤j∧j≤p∧p≤(q.length:Int)then some (Sum.inl (((q.take p.toNat).drop j.toNat),j,p))else none)))))
theorem bA{x:QX}{V p3 p4 p5 p6:Int}{o1:QQ}{o2:QK}{o3:XJ}{o4:XQ}{A:(QX×Int×Int)⊕(Int×Int)}(h:cb x V p3 p4 p5 p6 o1 o2 o3 o4=some A):
  iV Tryz.prog 103 [.adr 0 0 10 0] (bO x V p3 p4 p5 p6 o1 o2 o3 o4) (kd (fun(q:QX×Int×Int)=>(.tup [.st q.1,.i64 q.2.1],(bO x q.2.2 p3 p4 p5 p6 o1 o2 o3 o4))) (aW 72 .i64 .i64) A):=by
 refine DB Tryz.func103 (fun Bw w0=>?_);unfold cb at h;refine G (af (af ?_));obtain⟨X,B,h⟩:=aj h;rcases X with⟨Y,p⟩ | ⟨Z,a1⟩
 ·obtain⟨a2,D,h⟩:=aj h;have u:=(aO B);have C:=(da D);refine bC ⟨[],[(1,(oO u [0,1,2,3,4])),(2,(oP C))]⟩ [(1,1,oc u),(2,2,oc C)] (ab (aC h (fun E h=>?_) (fun E h=>?_)))
  ·obtain⟨z8,I,h⟩:=aj h;rcases z8 with _ | ⟨a3,a4⟩
   ·cases h
   refine GX 5 [0,1,2,3,4] (aX I) (fun _=>aE ?_);obtain rfl:=sI h;exact rfl
  refine ae (ab (G (af (ak (cM h (fun z=>aA [(0,.adr 0 0 10 0),(4,.i64 p)] (bO x z p3 p4 p5 p6 o1 o2 o3 o4) 5 5) 0 (fun v=>aA [(0,.adr 0 0 10 0),(4,.i64 p)] (bO x v p3 p4 p5 p6 o1 o2 o3 o4) 5 5) (gg [] [0,1,2,3,4]) (fun z o h=>?_) (fun v h=>?_))))))
  ·unfold dJ at h;refine af (af (bz h (fun J=>aA [(0,.adr 0 0 10 0),(4,.i64 p),(40,.bo J)] (bO x z p3 p4 p5 p6 o1 o2 o3 o4) 5 5) (fun J h=>?_) (fun J h=>?_)))
   ·rcases aM h with⟨j,h⟩ | ⟨j,h⟩
    ·obtain⟨L,h⟩:=aD h;obtain⟨a5,M,h⟩:=aj h;have u:=(da M);exact nf ⟨[(10,true),(21,true)],[(20,(oP u))]⟩ [(11,18,an j),(19,19,oc (And.intro j L)),(20,20,oc (And.intro j u)),(21,21,oc j)] (eN h (gg [] [0,1,2,3,4]))
    exact nf ⟨[(10,false),(21,false)],[]⟩ [(11,21,oc j)] (eN h (gg [] [0,1,2,3,4]))
   refine ab (aC h (fun N h=>?_) (fun N h=>?_))
   ·refine ae (ab (ak (Ge (ay ?_))));exact eB h (gg [] [0,1,2,3,4])
   refine av (aP ?_);exact eX h (gg [] [0,1,2,3,4])
  refine az (ab ?_);obtain⟨O,h⟩:=aD h;refine GD a0 [(9,9,oc O)] (aw ?_);obtain rfl:=sI h;exact RO [some .str,some (.int .i64)] [] [0,1,2,3,4] [(2,.st ((x.take v.toNat).drop p.toNat)),(3,.i64 p)] (bO x v p3 p4 p5 p6 o1 o2 o3 o4) 5 5
 refine GX 1 [0,1,2,3,4] (aO B) (fun _=>aE (aE ?_));obtain rfl:=sI h;exact rfl
def bj(p:Int)(q:QX)(u p3 p4 p5 p6:Int)(o1:QQ)(o2:QK)(o3:XJ)(o4:XQ):Option ((Bool×Int)⊕(Int×Int)) :=
 ((bg q u p3 p4 p5 p6 o1 o2 o3 o4).bind fun(v:(Int×Int)⊕(Int×Int))=>match v with
 | .inr (x,z)=>some (Sum.inr (x,z))
 | .inl (A,j)=>(if(A != p)=true then some (Sum.inl (false,j))
 else some (Sum.inl (true,(i64.wrap (j+1))))))
theorem aJ{u:Int}{j:QX}{v p3 p4 p5 p6:Int}{o1:QQ}{o2:QK}{o3:XJ}{o4:XQ}{p:(Bool×Int)⊕(Int×Int)}(h:bj u j v p3 p4 p5 p6 o1 o2 o3 o4=some p):
  iV Tryz.prog 119 [.adr 0 0 10 0,.u8 u] (bO j v p3 p4 p5 p6 o1 o2 o3 o4) (kd (fun(q:Bool×Int)=>(.bo q.1,(bO j q.2 p3 p4 p5 p6 o1 o2 o3 o4))) (aW 72 .i64 .i64) p):=by
 refine DB Tryz.func119 (fun Bw w0=>?_);unfold bj at h;refine G (af (af ?_));obtain⟨A,x,h⟩:=aj h;rcases A with⟨C,z⟩ | ⟨D,E⟩
 ·refine mJ 1 [0,1,2,3,4] (aO x) (ab (aC h (fun B h=>?_) (fun B h=>?_)))
  ·refine G (aw (ah ?_));obtain rfl:=sI h;exact RO [some .bool] [] [0,1,2,3,4] [(4,.bo false)] (bO j z p3 p4 p5 p6 o1 o2 o3 o4) 5 5
  refine ae (ab (G (G (aw ?_))));obtain rfl:=sI h;exact RO [some .bool] [] [0,1,2,3,4] [(4,.bo true)] (bO j (i64.wrap (z+1)) p3 p4 p5 p6 o1 o2 o3 o4) 5 5
 refine GX 1 [0,1,2,3,4] (aO x) (fun _=>aE (aE ?_));obtain rfl:=sI h;exact rfl
def dh(A:QX)(B p3 p4 p5 p6:Int)(o1:QQ)(o2:QK)(o3:XJ)(o4:XQ):Option (Z4⊕(Int×Int)) :=
 ((cb A B p3 p4 p5 p6 o1 o2 o3 o4).bind fun(C:(QX×Int×Int)⊕(Int×Int))=>match C with
 | .inr (q,u)=>some (Sum.inr (q,u))
 | .inl (j,v,p)=>(if((bh .str o4 j).isSome)=true then((bc 23 v A p p3 p4 p5 p6 o1 o2 o3 o4).bind fun(D:(Unit)⊕(Int×Int))=>match D with
 | .inr (x,z)=>some (Sum.inr (x,z))
 | .inl _=>none)
 else some (Sum.inl (j,p))))
theorem dB{p:QX}{x p3 p4 p5 p6:Int}{o1:QQ}{o2:QK}{o3:XJ}{o4:XQ}{j:Z4⊕(Int×Int)}(h:dh p x p3 p4 p5 p6 o1 o2 o3 o4=some j):
  iV Tryz.prog 120 [.adr 0 0 10 0] (bO p x p3 p4 p5 p6 o1 o2 o3 o4) (kd (fun(q:QX×Int)=>(.st q.1,(bO p q.2 p3 p4 p5 p6 o1 o2 o3 o4))) (aW 72 .i64 .i64) j):=by
 refine DB Tryz.func120 (fun Bw w0=>?_);unfold dh at h;refine G (af ?_);obtain⟨A,z,h⟩:=aj h;rcases A with⟨u,B,v⟩ | ⟨C,D⟩
 ·refine mJ 1 [0,1,2,3,4] (bA z) (ab (af (G (G (aC h (fun E h=>?_) (fun E h=>?_))))))
  ·obtain⟨I,J,h⟩:=aj h;rcases I with _ | ⟨L,M⟩
   ·cases h
   refine GX 2 [0,1,2,3,4] (aX J) (fun _=>aE ?_);obtain rfl:=sI h;exact rfl
  refine ae (ab (G (aw ?_)));obtain rfl:=sI h;exact RO [some .str] [] [0,1,2,3,4] [(2,.st u)] (bO p v p3 p4 p5 p6 o1 o2 o3 o4) 5 5
 refine GX 1 [0,1,2,3,4] (bA z) (fun _=>aE ?_);obtain rfl:=sI h;exact rfl
def hZ(B:QX)(C D E I:Int)(o3:XJ):(Int×QQ×QK×XQ)→Option ((Int×QQ×QK×XQ)⊕((Int×QQ×QK×XQ)⊕(Int×Int))):=fun(J,j,p,q) =>
 ((bj 59 B J C D E I j p o3 q).bind fun(L:(Bool×Int)⊕(Int×Int))=>match L with
 | .inr (M,N)=>some (Sum.inr (Sum.inr (M,N)))
 | .inl (O,v)=>(if(!O)=true then((bg B v C D E I j p o3 q).bind fun(V:(Int×Int)⊕(Int×Int))=>match V with
 | .inr (X,Y)=>some (Sum.inr (Sum.inr (X,Y)))
 | .inl (a5,x)=>((dh B x C D E I j p o3 q).bind fun(Z:Z4⊕(Int×Int))=>match Z with
 | .inr (a1,a2)=>some (Sum.inr (Sum.inr (a1,a2)))
 | .inl (u,z)=>(if(decide ((j.length:Int)≥24))=true then((bc 24 x B z C D E I j p o3 q).bind fun(a3:(Unit)⊕(Int×Int))=>match a3 with
 | .inr (a4,A)=>some (Sum.inr (Sum.inr (a4,A)))
 | .inl _=>none)
 else(if 0≤(j.length:Int)then(if(p.length+([(j.length:Int)]:QK).length)*8≤140737488355328∧p.length+([(j.length:Int)]:QK).length≤9223372036854775807 then(if(j.length+([u]:QQ).length)*16≤140737488355328∧j.length+([u]:QQ).length≤9223372036854775807 then some (Sum.inl (z,(j++([u]:QQ)),(p++([(j.length:Int)]:QK)),(cN .str q u (u32.wrap (1*2 ^ (min (j.length:Int).toNat u32.bits))))))else none)else none)else none))))
 else some (Sum.inr (Sum.inl (v,j,p,q)))))
def eG(v:QX)(x z A B C:Int)(o1:QQ)(o2:QK)(o3:XJ)(o4:XQ):Option ((Int×QQ×QK×XQ)⊕(Int×Int)) :=
 ((iter (hZ v z A B C o3) (x,o1,o2,o4)).bind fun(j:((Int×QQ×QK×XQ)⊕(Int×Int)))=>match j with
 | .inl (D,v10,v11,p)=>some (Sum.inl (D,v10,v11,p))
 | .inr ((q,u))=>some (Sum.inr (q,u)))
theorem ib{p:QX}{d2 u v x z:Int}{o1:QQ}{o2:QK}{o3:XJ}{o4:XQ}{A:(Int×QQ×QK×XQ)⊕(Int×Int)}(h:eG p d2 u v x z o1 o2 o3 o4=some A):
  iV Tryz.prog 98 [.adr 0 0 10 0] (bO p d2 u v x z o1 o2 o3 o4) (kd (fun(q:Int×QQ×QK×XQ)=>(.tup [],(JJ p q.1 u v x z o3 q.2.2.2 q.2.1 q.2.2.1))) (aW 72 .i64 .i64) A):=by
 refine DB Tryz.func98 (fun Bw w0=>?_);unfold eG at h;refine ak (kg h (fun(B,C,D,E)=>aA [(0,.adr 0 0 10 0)] (JJ p B u v x z o3 E C D) 7 5) (dy (fj Tryz.f98.ntmps 0 (fun(M,v10,v11,j)=>aA [] (JJ p M u v x z o3 j v10 v11) 7 5)) (rS (aW 72 .i64 .i64))) (gg [] [0,1,2,3,4,1,2]) (fun y o h=>?_) (fun N h e σ' hq=>?_))
 ·obtain⟨B,C,D,E⟩:=y;unfold hZ at h;refine af (af ?_);obtain⟨O,I,h⟩:=aj h;rcases O with⟨a7,a8⟩ | ⟨a9,aa⟩
  ·refine mJ 1 [0,5,6,3,4] (aJ I) (ab (aC h (fun V h=>?_) (fun V h=>?_)))
   ·refine ae (ab (ak (af ?_)));obtain⟨X,J,h⟩:=aj h;rcases X with⟨ac,ad⟩ | ⟨ax,b1⟩
    ·refine mJ 1 [0,5,6,3,4] (aO J) (ab (G (af ?_)));obtain⟨Y,L,h⟩:=aj h;rcases Y with⟨b2,b3⟩ | ⟨b4,b5⟩
     ·refine mJ 1 [0,5,6,3,4] (dB L) (ab (af (G (aC h (fun Z h=>?_) (fun Z h=>?_)))))
      ·obtain⟨a1,a2,h⟩:=aj h;rcases a1 with _ | ⟨b6,a6⟩
       ·cases h
       refine GX 2 [0,5,6,3,4] (aX a2) (fun _=>?_);obtain rfl:=sI h;refine aE (bq (bY (aL ?_)));exact rfl
      refine ae (ab ?_);obtain⟨a3,h⟩:=aD h;refine GD a0 [(11,11,oc a3)] ?_;obtain⟨a4,h⟩:=aD h;refine GD a0 [(13,13,oc a4)] (xq 8 h (fun h=>ay ?_));exact eB h (gg [] [0,1,2,3,4,479,375])
     refine GX 1 [0,5,6,3,4] (dB L) (fun _=>?_);obtain rfl:=sI h;refine aE (bq (bY (aL ?_)));exact rfl
    refine GX 1 [0,5,6,3,4] (aO J) (fun _=>?_);obtain rfl:=sI h;refine aE (bq (bY (aL ?_)));exact rfl
   refine av (aP ?_);obtain rfl:=sI h;refine dL (bk ?_);exact bS (gg [] [0,1,2,3,4,5,6])
  refine GX 1 [0,5,6,3,4] (aJ I) (fun _=>?_);obtain rfl:=sI h;refine aE (aE (bY (aL ?_)));exact rfl
 rcases N with⟨M,v10,v11,j⟩ | ⟨b7,b8⟩
 ·obtain⟨rfl,a5⟩:=hq;refine cF ?_ a5;refine az ?_;obtain rfl:=sI h;exact(RO [] [] [0,1,2,3,4,5,6] [] (JJ p M u v x z o3 j v10 v11) 7 5).normal
 obtain rfl:=hq;refine bq ?_;obtain rfl:=sI h;exact rfl
def bE(z:Int)(x:QX)(A p3 p4 p5 p6:Int)(o1:QQ)(o2:QK)(o3:XJ)(o4:XQ):Option ((Int)⊕(Int×Int)) :=
 ((bj z x A p3 p4 p5 p6 o1 o2 o3 o4).bind fun(B:(Bool×Int)⊕(Int×Int))=>match B with
 | .inr (j,p)=>some (Sum.inr (j,p))
 | .inl (C,q)=>(if(!C)=true then((bc 21 q x q p3 p4 p5 p6 o1 o2 o3 o4).bind fun(D:(Unit)⊕(Int×Int))=>match D with
 | .inr (u,v)=>some (Sum.inr (u,v))
 | .inl _=>none)
 else some (Sum.inl q)))
theorem aT{u:Int}{p:QX}{v p3 p4 p5 p6:Int}{o1:QQ}{o2:QK}{o3:XJ}{o4:XQ}{j:(Int)⊕(Int×Int)}(h:bE u p v p3 p4 p5 p6 o1 o2 o3 o4=some j):
  iV Tryz.prog 121 [.adr 0 0 10 0,.u8 u] (bO p v p3 p4 p5 p6 o1 o2 o3 o4) (kd (fun(q:Int)=>(.tup [],(bO p q p3 p4 p5 p6 o1 o2 o3 o4))) (aW 72 .i64 .i64) j):=by
 refine DB Tryz.func121 (fun Bw w0=>?_);unfold bE at h;refine af ?_;obtain⟨z,x,h⟩:=aj h;rcases z with⟨M,A⟩ | ⟨B,C⟩
 ·refine mJ 2 [0,1,2,3,4] (aJ x) (ab (aC h (fun D h=>?_) (fun D h=>?_)))
  ·obtain⟨E,I,h⟩:=aj h;rcases E with _ | ⟨J,L⟩
   ·cases h
   refine GX 5 [0,1,2,3,4] (aX I) (fun _=>?_);obtain rfl:=sI h;exact rfl
  refine ae ?_;obtain rfl:=sI h;exact(RO [] [] [0,1,2,3,4] [] (bO p A p3 p4 p5 p6 o1 o2 o3 o4) 5 5).normal
 refine GX 2 [0,1,2,3,4] (aJ x) (fun _=>aE ?_);obtain rfl:=sI h;exact rfl
def db(A:QX)(B p3 p4 p5 p6:Int)(o1:QQ)(o2:QK)(o3:XJ)(o4:XQ):Option ((Int×Int)⊕(Int×Int)) :=
 ((cb A B p3 p4 p5 p6 o1 o2 o3 o4).bind fun(C:(QX×Int×Int)⊕(Int×Int))=>match C with
 | .inr (q,u)=>some (Sum.inr (q,u))
 | .inl (j,v,p)=>(if((bh .str o4 j).isSome)=true then some (Sum.inl (((bh .str o4 j).getD 0),p))
 else((bc 22 v A p p3 p4 p5 p6 o1 o2 o3 o4).bind fun(D:(Unit)⊕(Int×Int))=>match D with
 | .inr (x,z)=>some (Sum.inr (x,z))
 | .inl _=>none)))
theorem dC{p:QX}{x p3 p4 p5 p6:Int}{o1:QQ}{o2:QK}{o3:XJ}{o4:XQ}{j:(Int×Int)⊕(Int×Int)}(h:db p x p3 p4 p5 p6 o1 o2 o3 o4=some j):
  iV Tryz.prog 130 [.adr 0 0 10 0] (bO p x p3 p4 p5 p6 o1 o2 o3 o4) (kd (fun(q:Int×Int)=>(.u32 q.1,(bO p q.2 p3 p4 p5 p6 o1 o2 o3 o4))) (aW 72 .i64 .i64) j):=by
 refine DB Tryz.func130 (fun Bw w0=>?_);unfold db at h;refine G (af ?_);obtain⟨A,z,h⟩:=aj h;rcases A with⟨u,B,v⟩ | ⟨C,D⟩
 ·refine mJ 1 [0,1,2,3,4] (bA z) (ab (af (G (G (aC h (fun E h=>?_) (fun E h=>?_))))))
  ·refine G (aw (ah ?_));obtain rfl:=sI h;exact RO [some (.int .u32)] [] [0,1,2,3,4] [(2,.u32 ((bh .str o4 u).getD 0))] (bO p v p3 p4 p5 p6 o1 o2 o3 o4) 5 5
  refine ae (ab (af ?_));obtain⟨I,J,h⟩:=aj h;rcases I with _ | ⟨L,M⟩
  ·cases h
  refine GX 2 [0,1,2,3,4] (aX J) (fun _=>aE ?_);obtain rfl:=sI h;exact rfl
 refine GX 1 [0,1,2,3,4] (bA z) (fun _=>aE ?_);obtain rfl:=sI h;exact rfl
def dY(p:Int)(J:QX)(p3 p4 p5 p6:Int)(o1:QQ)(o2:QK)(o3:XJ)(o4:XQ):(Int×Int)→Option ((Int×Int)⊕((Int×Int)⊕(Int×Int))):=fun(u,j) =>
 ((bg J u p3 p4 p5 p6 o1 o2 o3 o4).bind fun(v:(Int×Int)⊕(Int×Int))=>match v with
 | .inr (x,z)=>some (Sum.inr (Sum.inr (x,z)))
 | .inl (A,q)=>(if(A != p)=true then((db J q p3 p4 p5 p6 o1 o2 o3 o4).bind fun(B:(Int×Int)⊕(Int×Int))=>match B with
 | .inr (C,D)=>some (Sum.inr (Sum.inr (C,D)))
 | .inl (E,I)=>some (Sum.inl (I,(bitsOf .or .u32 j E))))
 else some (Sum.inr (Sum.inl (q,j)))))
def bI(p:Int)(z:QX)(A p3 p4 p5 p6:Int)(o1:QQ)(o2:QK)(o3:XJ)(o4:XQ):Option ((Int×Int)⊕(Int×Int)) :=
 ((iter (dY p z p3 p4 p5 p6 o1 o2 o3 o4) (A,0)).bind fun(q:((Int×Int)⊕(Int×Int)))=>match q with
 | .inl (u,j)=>some (Sum.inl (j,(i64.wrap (u+1))))
 | .inr ((v,x))=>some (Sum.inr (v,x)))
theorem aI{p:Int}{x:QX}{L p3 p4 p5 p6:Int}{o1:QQ}{o2:QK}{o3:XJ}{o4:XQ}{z:(Int×Int)⊕(Int×Int)}(h:bI p x L p3 p4 p5 p6 o1 o2 o3 o4=some z):
  iV Tryz.prog 122 [.adr 0 0 10 0,.u8 p] (bO x L p3 p4 p5 p6 o1 o2 o3 o4) (kd (fun(q:Int×Int)=>(.u32 q.1,(bO x q.2 p3 p4 p5 p6 o1 o2 o3 o4))) (aW 72 .i64 .i64) z):=by
 refine DB Tryz.func122 (fun Bw w0=>?_);unfold bI at h;refine G (G (af (ak (kg h (fun(A,u)=>aA [(0,.adr 0 0 10 0),(1,.u8 p),(5,.u32 u)] (bO x A p3 p4 p5 p6 o1 o2 o3 o4) 5 5) (dy (fj Tryz.f122.ntmps 0 (fun(v,j)=>aA [(0,.adr 0 0 10 0),(5,.u32 j)] (bO x v p3 p4 p5 p6 o1 o2 o3 o4) 5 5)) (rS (aW 72 .i64 .i64))) (gg [] [0,1,2,3,4]) (fun y o h=>?_) (fun D h e σ' M=>?_)))))
 ·obtain⟨A,u⟩:=y;unfold dY at h;refine af (af ?_);obtain⟨E,B,h⟩:=aj h;rcases E with⟨N,O⟩ | ⟨V,X⟩
  ·refine mJ 1 [0,1,2,3,4] (aO B) (ab (aC h (fun Y h=>?_) (fun Y h=>?_)))
   ·refine ae (ab (ak ?_));obtain⟨I,C,h⟩:=aj h;rcases I with⟨Z,a1⟩ | ⟨a2,a3⟩
    ·refine mJ 2 [0,1,2,3,4] (dC C) (ay ?_);exact eB h (gg [] [0,1,2,3,4])
    refine GX 2 [0,1,2,3,4] (dC C) (fun _=>?_);obtain rfl:=sI h;refine bq (bY (aL ?_));exact rfl
   refine av (aP ?_);obtain rfl:=sI h;refine dL (bk ?_);exact bS (gg [] [0,1,2,3,4])
  refine GX 1 [0,1,2,3,4] (aO B) (fun _=>?_);obtain rfl:=sI h;refine aE (aE (bY (aL ?_)));exact rfl
 rcases D with⟨v,j⟩ | ⟨a4,a5⟩
 ·obtain⟨rfl,J⟩:=M;refine cF ?_ J;refine az (ab (G (G (aw ?_))));obtain rfl:=sI h;exact RO [some (.int .u32)] [] [0,1,2,3,4] [(4,.u32 j)] (bO x (i64.wrap (v+1)) p3 p4 p5 p6 o1 o2 o3 o4) 5 5
 obtain rfl:=M;refine bq (aE ?_);obtain rfl:=sI h;exact rfl
def fq(j:QX)(L p3 p4 p5 p6:Int)(o1:QQ)(o2:QK)(o3:XJ)(o4:XQ):Option ((Int×XQ)⊕(Int×Int)) :=
 ((dh j L p3 p4 p5 p6 o1 o2 o3 o4).bind fun(M:Z4⊕(Int×Int))=>match M with
 | .inr (p,q)=>some (Sum.inr (p,q))
 | .inl (u,v)=>((bE 61 j v p3 p4 p5 p6 o1 o2 o3 o4).bind fun(x:(Int)⊕(Int×Int))=>match x with
 | .inr (z,A)=>some (Sum.inr (z,A))
 | .inl B=>((bI 59 j B p3 p4 p5 p6 o1 o2 o3 o4).bind fun(C:(Int×Int)⊕(Int×Int))=>match C with
 | .inr (D,E)=>some (Sum.inr (D,E))
 | .inl (I,J)=>some (Sum.inl (J,(cN .str o4 u I))))))
theorem ja{x:QX}{M p3 p4 p5 p6:Int}{o1:QQ}{o2:QK}{o3:XJ}{o4:XQ}{z:(Int×XQ)⊕(Int×Int)}(h:fq x M p3 p4 p5 p6 o1 o2 o3 o4=some z):
  iV Tryz.prog 99 [.adr 0 0 10 0] (bO x M p3 p4 p5 p6 o1 o2 o3 o4) (kd (fun(q:Int×XQ)=>(.tup [],(bO x q.1 p3 p4 p5 p6 o1 o2 o3 q.2))) (aW 72 .i64 .i64) z):=by
 refine DB Tryz.func99 (fun Bw w0=>?_);unfold fq at h;refine af ?_;obtain⟨O,N,h⟩:=aj h;rcases O with⟨A,V⟩ | ⟨X,Y⟩
 ·refine mJ 1 [0,1,2,3,4] (dB N) (ab (af ?_));obtain⟨I,B,h⟩:=aj h;rcases I with C | ⟨Z,a1⟩
  ·refine mJ 1 [0,1,2,3,4] (aT B) (ab ?_);obtain⟨J,v,h⟩:=aj h;rcases J with⟨D,E⟩ | ⟨p,u⟩
   ·have j:=(aI v);refine oU iQ mixed ⟨[],[(6,(oO j [0,1,2,3,4]))]⟩ (.one 0 (.one 1 (.one 2 (.one 4 (.one 5 (.two 3 (.one 6 (.one 7 (.leaf))) 6 (.one 3 (.one 7 (.leaf))))))))) [([],[]),([],[]),([],[]),([0],[]),([],[]),([],[]),([0,1,2,3,4],[0,1,2,3,4,93,94,95,96,97,98,99,100]),([4],[4])] 2 [] [] [0,1,2,3,4] [] (bO x E p3 p4 p5 p6 o1 o2 o3 (cN .str o4 A D)) 5 5 (Ts 6 ((pO j)::(pO j)::(Ts 3 []))) (by kernel_rfl) (by kernel_rfl) (tr 6 ⟨j,j,(tr 3 tt)⟩) (fun _=>?_) (fun y L=>by cases L);obtain rfl:=sI h;exact(RO [] [] [0,1,2,3,4] [] (bO x E p3 p4 p5 p6 o1 o2 o3 (cN .str o4 A D)) 5 5).normal
   have j:=(aI v);refine oU iQ mixed ⟨[],[(6,(oD j [0,1,2,3,4]))]⟩ (.one 0 (.one 1 (.one 2 (.one 4 (.one 5 (.twoD 3 (.dead 6) 6)))))) [([],[]),([],[]),([],[]),([0],[]),([],[]),([],[]),([0,1,2,3,4],[0,1,2,3,4,93,94,95,96,97,98,99,100]),([],[])] 0 [(aW 72 .i64 .i64 (p,u)),(aW 72 .i64 .i64 (p,u))] [] [0,1,2,3,4] [] [] 5 5 (Ts 6 [jV Tryz.prog 122 [.adr 0 0 10 0,.u8 59] (bO x C p3 p4 p5 p6 o1 o2 o3 o4) (aW 72 .i64 .i64 (p,u)),jV Tryz.prog 122 [.adr 0 0 10 0,.u8 59] (bO x C p3 p4 p5 p6 o1 o2 o3 o4) (aW 72 .i64 .i64 (p,u))]) (by kernel_rfl) (by kernel_rfl) (tr 6 ⟨(aI v),(aI v),tt⟩) (fun h0=>absurd rfl h0) (fun y L σ1=>?_);obtain rfl:y=(aW 72 .i64 .i64 (p,u)):=by simpa using L
   obtain rfl:=sI h;exact rfl
  refine GX 1 [0,1,2,3,4] (aT B) (fun _=>aE ?_);obtain rfl:=sI h;exact rfl
 refine GX 1 [0,1,2,3,4] (dB N) (fun _=>aE ?_);obtain rfl:=sI h;exact rfl
def eO(B:QX)(C p3 p4 p5 p6:Int)(o1:QQ)(o2:QK)(o3:XJ)(o4:XQ):Option (Z7⊕(Int×Int)) :=
 ((bI 47 B C p3 p4 p5 p6 o1 o2 o3 o4).bind fun(D:(Int×Int)⊕(Int×Int))=>match D with
 | .inr (p,q)=>some (Sum.inr (p,q))
 | .inl (j,u)=>((bI 59 B u (bitsOf .or .u32 p3 j) p4 p5 p6 o1 o2 o3 o4).bind fun(E:(Int×Int)⊕(Int×Int))=>match E with
 | .inr (v,x)=>some (Sum.inr (v,x))
 | .inl (z,A)=>some (Sum.inl (A,(bitsOf .or .u32 p3 j),(bitsOf .or .u32 p4 z)))))
theorem iF{A:QX}{J p3 p4 p5 p6:Int}{o1:QQ}{o2:QK}{o3:XJ}{o4:XQ}{D:Z7⊕(Int×Int)}(h:eO A J p3 p4 p5 p6 o1 o2 o3 o4=some D):
  iV Tryz.prog 100 [.adr 0 0 10 0] (bO A J p3 p4 p5 p6 o1 o2 o3 o4) (kd (fun(q:Int×Int×Int)=>(.tup [],(bO A q.1 q.2.1 q.2.2 p5 p6 o1 o2 o3 o4))) (aW 72 .i64 .i64) D):=by
 refine DB Tryz.func100 (fun Bw w0=>?_);unfold eO at h;refine af ?_;obtain⟨O,L,h⟩:=aj h;rcases O with⟨p,B⟩ | ⟨u,v⟩
 ·have j:=(aI L);refine oU iQ mixed ⟨[],[(6,(oO j [0,1,2,3,4]))]⟩ (.one 0 (.one 1 (.one 2 (.one 3 (.one 5 (.two 4 (.one 6 (.one 7 (.one 8 (.one 9 (.one 10 (.one 11 (.leaf))))))) 6 (.one 4 (.one 7 (.one 8 (.one 9 (.one 10 (.one 11 (.leaf))))))))))))) [([],[]),([],[]),([],[]),([],[]),([0],[]),([],[]),([0,1,2,3,4],[0,1,2,3,4,53,54,55,56,57,58,59,60]),([],[]),([],[]),([],[]),([],[]),([0],[0])] 2 [] [] [0,1,2,3,4] [(0,.adr 0 0 10 0)] (bO A B (bitsOf .or .u32 p3 p) p4 p5 p6 o1 o2 o3 o4) 5 5 (Ts 6 ((pO j)::(pO j)::(Ts 11 []))) (by kernel_rfl) (by kernel_rfl) (tr 6 ⟨j,j,(tr 11 tt)⟩) (fun _=>?_) (fun y C=>by cases C);refine ab ?_;obtain⟨V,M,h⟩:=aj h;rcases V with⟨E,I⟩ | ⟨x,z⟩
  ·have j:=(aI M);refine oU iQ mixed ⟨[],[(6,(oO j [0,1,2,3,4]))]⟩ (.one 0 (.one 1 (.one 2 (.one 3 (.one 5 (.two 4 (.one 6 (.one 7 (.one 8 (.one 9 (.one 10 (.one 11 (.leaf))))))) 6 (.one 4 (.one 7 (.one 8 (.one 9 (.one 10 (.one 11 (.leaf))))))))))))) [([],[]),([],[]),([],[]),([],[]),([0],[]),([],[]),([0,1,2,3,4],[0,1,2,3,4,53,54,55,56,57,58,59,60]),([],[]),([],[]),([],[]),([],[]),([0],[0])] 2 [] [] [0,1,2,3,4] [] (bO A I (bitsOf .or .u32 p3 p) (bitsOf .or .u32 p4 E) p5 p6 o1 o2 o3 o4) 5 5 (Ts 6 ((pO j)::(pO j)::(Ts 11 []))) (by kernel_rfl) (by kernel_rfl) (tr 6 ⟨j,j,(tr 11 tt)⟩) (fun _=>?_) (fun y C=>by cases C);obtain rfl:=sI h;exact(RO [] [] [0,1,2,3,4] [] (bO A I (bitsOf .or .u32 p3 p) (bitsOf .or .u32 p4 E) p5 p6 o1 o2 o3 o4) 5 5).normal
  have j:=(aI M);refine oU iQ mixed ⟨[],[(6,(oD j [0,1,2,3,4]))]⟩ (.one 0 (.one 1 (.one 2 (.one 3 (.one 5 (.twoD 4 (.dead 6) 6)))))) [([],[]),([],[]),([],[]),([],[]),([0],[]),([],[]),([0,1,2,3,4],[0,1,2,3,4,53,54,55,56,57,58,59,60]),([],[]),([],[]),([],[]),([],[]),([],[])] 0 [(aW 72 .i64 .i64 (x,z)),(aW 72 .i64 .i64 (x,z))] [] [0,1,2,3,4] [] [] 5 5 (Ts 6 [jV Tryz.prog 122 [.adr 0 0 10 0,.u8 59] (bO A B (bitsOf .or .u32 p3 p) p4 p5 p6 o1 o2 o3 o4) (aW 72 .i64 .i64 (x,z)),jV Tryz.prog 122 [.adr 0 0 10 0,.u8 59] (bO A B (bitsOf .or .u32 p3 p) p4 p5 p6 o1 o2 o3 o4) (aW 72 .i64 .i64 (x,z))]) (by kernel_rfl) (by kernel_rfl) (tr 6 ⟨(aI M),(aI M),tt⟩) (fun N=>absurd rfl N) (fun y C σ1=>?_);obtain rfl:y=(aW 72 .i64 .i64 (x,z)):=by simpa using C
  obtain rfl:=sI h;exact rfl
 have j:=(aI L);refine oU iQ mixed ⟨[],[(6,(oD j [0,1,2,3,4]))]⟩ (.one 0 (.one 1 (.one 2 (.one 3 (.one 5 (.twoD 4 (.dead 6) 6)))))) [([],[]),([],[]),([],[]),([],[]),([0],[]),([],[]),([0,1,2,3,4],[0,1,2,3,4,53,54,55,56,57,58,59,60]),([],[]),([],[]),([],[]),([],[]),([],[])] 0 [(aW 72 .i64 .i64 (u,v)),(aW 72 .i64 .i64 (u,v))] [] [0,1,2,3,4] [] [] 5 5 (Ts 6 [jV Tryz.prog 122 [.adr 0 0 10 0,.u8 47] (bO A J p3 p4 p5 p6 o1 o2 o3 o4) (aW 72 .i64 .i64 (u,v)),jV Tryz.prog 122 [.adr 0 0 10 0,.u8 47] (bO A J p3 p4 p5 p6 o1 o2 o3 o4) (aW 72 .i64 .i64 (u,v))]) (by kernel_rfl) (by kernel_rfl) (tr 6 ⟨(aI L),(aI L),tt⟩) (fun N=>absurd rfl N) (fun y C σ1=>?_);obtain rfl:y=(aW 72 .i64 .i64 (u,v)):=by simpa using C
 refine aE ?_;obtain rfl:=sI h;exact rfl
def dM(B:QX)(C p3 p4 p5 p6:Int)(o1:QQ)(o2:QK)(o3:XJ)(o4:XQ):Option ((Int×Int)⊕(Int×Int)) :=
 ((cb B C p3 p4 p5 p6 o1 o2 o3 o4).bind fun(D:(QX×Int×Int)⊕(Int×Int))=>match D with
 | .inr (q,u)=>some (Sum.inr (q,u))
 | .inl (v,x,j)=>((cU o1 v).bind fun p =>
 (if(decide (p<0))=true then((bc 22 x B j p3 p4 p5 p6 o1 o2 o3 o4).bind fun(E:(Unit)⊕(Int×Int))=>match E with
 | .inr (z,A)=>some (Sum.inr (z,A))
 | .inl _=>none)
 else some (Sum.inl (p,j)))))
theorem cg{p:QX}{A p3 p4 p5 p6:Int}{o1:QQ}{o2:QK}{o3:XJ}{o4:XQ}{j:(Int×Int)⊕(Int×Int)}(h:dM p A p3 p4 p5 p6 o1 o2 o3 o4=some j):
  iV Tryz.prog 123 [.adr 0 0 10 0] (bO p A p3 p4 p5 p6 o1 o2 o3 o4) (kd (fun(q:Int×Int)=>(.i64 q.1,(bO p q.2 p3 p4 p5 p6 o1 o2 o3 o4))) (aW 72 .i64 .i64) j):=by
 refine DB Tryz.func123 (fun Bw w0=>?_);unfold dM at h;refine G (af ?_);obtain⟨C,B,h⟩:=aj h;rcases C with⟨D,E,u⟩ | ⟨I,J⟩
 ·refine mJ 1 [0,1,2,3,4] (bA B) (ab ?_);obtain⟨v,x,h⟩:=aj h;refine GP 6 (j7 true x) (af (G (aC h (fun L h=>?_) (fun L h=>?_))))
  ·obtain⟨M,z,h⟩:=aj h;rcases M with _ | ⟨N,O⟩
   ·cases h
   refine GX 2 [0,1,2,3,4] (aX z) (fun _=>aE ?_);obtain rfl:=sI h;exact rfl
  refine ae (ab (G (aw ?_)));obtain rfl:=sI h;exact RO [some (.int .i64)] [] [0,1,2,3,4] [(2,.i64 v)] (bO p u p3 p4 p5 p6 o1 o2 o3 o4) 5 5
 refine GX 1 [0,1,2,3,4] (bA B) (fun _=>aE ?_);obtain rfl:=sI h;exact rfl
def eF(q:QX)(X p3 p4 p5 p6:Int)(o1:QQ)(o2:QK)(o3:XJ)(o4:XQ):Option ((Int×QK)⊕(Int×Int)) :=
 ((dM q X p3 p4 p5 p6 o1 o2 o3 o4).bind fun(u:(Int×Int)⊕(Int×Int))=>match u with
 | .inr (v,x)=>some (Sum.inr (v,x))
 | .inl (j,z)=>((bE 61 q z p3 p4 p5 p6 o1 o2 o3 o4).bind fun(A:(Int)⊕(Int×Int))=>match A with
 | .inr (B,C)=>some (Sum.inr (B,C))
 | .inl D=>((dM q D p3 p4 p5 p6 o1 o2 o3 o4).bind fun(E:(Int×Int)⊕(Int×Int))=>match E with
 | .inr (I,J)=>some (Sum.inr (I,J))
 | .inl (p,L)=>(if 0≤j∧j<(o2.length:Int)then(if j.toNat<o2.length then((bE 59 q L p3 p4 p5 p6 o1 (o2.set j.toNat p) o3 o4).bind fun(M:(Int)⊕(Int×Int))=>match M with
 | .inr (N,O)=>some (Sum.inr (N,O))
 | .inl V=>some (Sum.inl (V,(o2.set j.toNat p))))else none)else none))))
theorem hU{z:QX}{Y p3 p4 p5 p6:Int}{o1:QQ}{o2:QK}{o3:XJ}{o4:XQ}{A:(Int×QK)⊕(Int×Int)}(h:eF z Y p3 p4 p5 p6 o1 o2 o3 o4=some A):
  iV Tryz.prog 101 [.adr 0 0 10 0] (bO z Y p3 p4 p5 p6 o1 o2 o3 o4) (kd (fun(q:Int×QK)=>(.tup [],(bO z q.1 p3 p4 p5 p6 o1 q.2 o3 o4))) (aW 72 .i64 .i64) A):=by
 refine DB Tryz.func101 (fun Bw w0=>?_);unfold eF at h;refine af ?_;obtain⟨J,B,h⟩:=aj h;rcases J with⟨j,a1⟩ | ⟨a2,a3⟩
 ·refine mJ 1 [0,1,2,3,4] (cg B) (ab (af ?_));obtain⟨L,C,h⟩:=aj h;rcases L with D | ⟨a4,a5⟩
  ·refine mJ 1 [0,1,2,3,4] (aT C) (ab (af ?_));obtain⟨M,x,h⟩:=aj h;rcases M with⟨E,N⟩ | ⟨u,v⟩
   ·obtain⟨Z,c8,h⟩:=g2 h;have p:=(cg x);refine oU iQ mixed ⟨[],[(7,(oO p [0,1,2,3,4]))]⟩ (.one 0 (.one 1 (.one 2 (.one 3 (.one 5 (.one 6 (.two 4 (.one 7 (.one 8 (.one 9 (.leaf)))) 7 (.one 4 (.one 8 (.one 9 (.leaf))))))))))) [([],[]),([],[]),([],[]),([],[]),([0],[]),([],[]),([],[]),([0,1,2,3,4],[0,1,2,3,4,101,102,103,104,105,106,107,108]),([2],[]),([2],[2])] 2 [] [] [0,1,2,3,4] [(0,.adr 0 0 10 0)] (bO z N p3 p4 p5 p6 o1 (o2.set j.toNat E) o3 o4) 5 5 (Ts 7 [pO p,pO p,0≤j∧j<(o2.length:Int),j.toNat<o2.length,True,0≤j∧j<(o2.length:Int),j.toNat<o2.length]) (by kernel_rfl) (by kernel_rfl) (tr 7 ⟨p,p,Z,c8,tt,Z,c8,tt⟩) (fun _=>?_) (fun y O=>by cases O);refine ab ?_;obtain⟨V,I,h⟩:=aj h;rcases V with X | ⟨a6,a7⟩
    ·refine mJ 1 [0,1,2,3,4] (aT I) ?_;obtain rfl:=sI h;exact(RO [] [] [0,1,2,3,4] [] (bO z X p3 p4 p5 p6 o1 (o2.set j.toNat E) o3 o4) 5 5).normal
    refine GX 1 [0,1,2,3,4] (aT I) (fun _=>?_);obtain rfl:=sI h;exact rfl
   have p:=(cg x);refine oU iQ mixed ⟨[],[(7,(oD p [0,1,2,3,4]))]⟩ (.one 0 (.one 1 (.one 2 (.one 3 (.one 5 (.one 6 (.twoD 4 (.dead 7) 7))))))) [([],[]),([],[]),([],[]),([],[]),([0],[]),([],[]),([],[]),([0,1,2,3,4],[0,1,2,3,4,101,102,103,104,105,106,107,108]),([],[]),([],[])] 0 [(aW 72 .i64 .i64 (u,v)),(aW 72 .i64 .i64 (u,v))] [] [0,1,2,3,4] [] [] 5 5 (Ts 7 [jV Tryz.prog 123 [.adr 0 0 10 0] (bO z D p3 p4 p5 p6 o1 o2 o3 o4) (aW 72 .i64 .i64 (u,v)),jV Tryz.prog 123 [.adr 0 0 10 0] (bO z D p3 p4 p5 p6 o1 o2 o3 o4) (aW 72 .i64 .i64 (u,v))]) (by kernel_rfl) (by kernel_rfl) (tr 7 ⟨(cg x),(cg x),tt⟩) (fun h0=>absurd rfl h0) (fun y O σ1=>?_);obtain rfl:y=(aW 72 .i64 .i64 (u,v)):=by simpa using O
   refine aE ?_;obtain rfl:=sI h;exact rfl
  refine GX 1 [0,1,2,3,4] (aT C) (fun _=>aE ?_);obtain rfl:=sI h;exact rfl
 refine GX 1 [0,1,2,3,4] (cg B) (fun _=>aE ?_);obtain rfl:=sI h;exact rfl
def eD(j:QX→Int→Int→Int→Int→Int→QQ→QK→XJ→XQ→Option (oz⊕(Int×Int)))(u:QX)(d2 v x p q:Int)(o1:QQ)(o2:QK)(o3:XJ)(o4:XQ):Option (oz⊕(Int×Int)) :=
 ((bj 40 u d2 v x p q o1 o2 o3 o4).bind fun(a5:(Bool×Int)⊕(Int×Int))=>match a5 with
 | .inr (a6,a7)=>some (Sum.inr (a6,a7))
 | .inl (a8,z)=>(if a8=true then(if(decide ((i64.wrap (q+1)) > 16))=true then((bc 25 d2 u z v x p (i64.wrap (q+1)) o1 o2 o3 o4).bind fun(a9:(Unit)⊕(Int×Int))=>match a9 with
 | .inr (aa,ac)=>some (Sum.inr (aa,ac))
 | .inl _=>none)
 else((j u z v x p (i64.wrap (q+1)) o1 o2 o3 o4).bind fun(ad:oz⊕(Int×Int))=>match ad with
 | .inr (ax,b1)=>some (Sum.inr (ax,b1))
 | .inl (A,b2,B,C)=>((bE 41 u b2 v x B C o1 o2 o3 o4).bind fun(b3:(Int)⊕(Int×Int))=>match b3 with
 | .inr (b4,b5)=>some (Sum.inr (b4,b5))
 | .inl b6=>some (Sum.inl ((Tree.node A.op A.set A.kids),b6,B,(i64.wrap (C - 1)))))))
 else(if(decide ((i64.wrap (p+1)) > 200))=true then((bc 26 d2 u z v x (i64.wrap (p+1)) q o1 o2 o3 o4).bind fun(b7:(Unit)⊕(Int×Int))=>match b7 with
 | .inr (b8,b9)=>some (Sum.inr (b8,b9))
 | .inl _=>none)
 else(if 0≤(o1.length:Int)then((bj 46 u z v x (i64.wrap (p+1)) q o1 o2 o3 o4).bind fun(be:(Bool×Int)⊕(Int×Int))=>match be with
 | .inr (bi,bs)=>some (Sum.inr (bi,bs))
 | .inl (bv,D)=>(((if bv=true then some ((Sum.inl ((u32.wrap ((u32.wrap (1*2 ^ (min (o1.length:Int).toNat u32.bits))) - 1)),D)))
 else((bj 91 u D v x (i64.wrap (p+1)) q o1 o2 o3 o4).bind fun(bx:(Bool×Int)⊕(Int×Int))=>match bx with
 | .inr (E,I)=>some ((Sum.inr (E,I)))
 | .inl (c1,J)=>(if c1=true then((bj 94 u J v x (i64.wrap (p+1)) q o1 o2 o3 o4).bind fun(c2:(Bool×Int)⊕(Int×Int))=>match c2 with
 | .inr (L,M)=>some ((Sum.inr (L,M)))
 | .inl (c3,c4)=>((bI 93 u c4 v x (i64.wrap (p+1)) q o1 o2 o3 o4).bind fun(c5:(Int×Int)⊕(Int×Int))=>match c5 with
 | .inr (N,O)=>some ((Sum.inr (N,O)))
 | .inl (V,X)=>(if c3=true then some ((Sum.inl ((bitsOf .andNot .u32 (u32.wrap ((u32.wrap (1*2 ^ (min (o1.length:Int).toNat u32.bits))) - 1)) V),X)))
 else some ((Sum.inl (V,X))))))
 else((db u J v x (i64.wrap (p+1)) q o1 o2 o3 o4).bind fun(c6:(Int×Int)⊕(Int×Int))=>match c6 with
 | .inr (Y,Z)=>some ((Sum.inr (Y,Z)))
 | .inl (a1,a2)=>some ((Sum.inl (a1,a2)))))))).bind fun(a3:((Int×Int)⊕(Int×Int)))=>match a3 with
 | .inl (v6,v7)=>some (Sum.inl ((Tree.node 1 v6 ([]:XX)),v7,(i64.wrap (p+1)),q))
 | .inr ((c7,a4))=>some (Sum.inr (c7,a4))))else none))))
theorem ig(u:QX→Int→Int→Int→Int→Int→QQ→QK→XJ→XQ→Option (oz⊕(Int×Int)))(j:∀ {Y:QX} {p2 p3 p4 p5 p6:Int} {o1:QQ} {o2:QK} {o3:XJ} {o4:XQ} {v:oz⊕(Int×Int)},u Y p2 p3 p4 p5 p6 o1 o2 o3 o4=some v→iV Tryz.prog 127 [.adr 0 0 10 0] (bO Y p2 p3 p4 p5 p6 o1 o2 o3 o4) (kd (fun(q:Tree×Int×Int×Int)=>(.agg [.u8 q.1.op,.u32 q.1.set,.p false (.slice (.tree .u8 .u32)) q.1.kids],(bO Y q.2.1 p3 p4 q.2.2.1 q.2.2.2 o1 o2 o3 o4))) (aW 72 .i64 .i64) v)){A:QX}{d2 B C V X:Int}{o1:QQ}{o2:QK}{o3:XJ}{o4:XQ}{v:oz⊕(Int×Int)}(h:eD u A d2 B C V X o1 o2 o3 o4=some v):
  iV Tryz.prog 136 [.adr 0 0 10 0] (bO A d2 B C V X o1 o2 o3 o4) (kd (fun(q:Tree×Int×Int×Int)=>(.agg [.u8 q.1.op,.u32 q.1.set,.p false (.slice (.tree .u8 .u32)) q.1.kids],(bO A q.2.1 B C q.2.2.1 q.2.2.2 o1 o2 o3 o4))) (aW 72 .i64 .i64) v):=by
 refine DB Tryz.func136 (fun Bw w0=>?_);unfold eD at h;refine G (G (af (af ?_)));obtain⟨Z,D,h⟩:=aj h;rcases Z with⟨c6,c7⟩ | ⟨c8,c9⟩
 ·refine mJ 1 [0,1,2,3,4] (aJ D) (ab (aC h (fun a1 h=>?_) (fun a1 h=>?_)))
  ·refine af (G (G (aC h (fun a2 h=>?_) (fun a2 h=>?_))))
   ·obtain⟨a3,a4,h⟩:=aj h;rcases a3 with _ | ⟨cc,ch⟩
    ·cases h
    refine GX 2 [0,1,2,3,4] (aX a4) (fun _=>aE (aE ?_));obtain rfl:=sI h;exact rfl
   refine ae (ab (af ?_));obtain⟨a5,E,h⟩:=aj h;rcases a5 with⟨z,cp,a6,a7⟩ | ⟨cs,cx⟩
   ·refine mJ 1 [0,1,2,3,4] (j E) (ab (af ?_));obtain⟨a8,I,h⟩:=aj h;rcases a8 with a9 | ⟨d7,d8⟩
    ·refine mJ 1 [0,1,2,3,4] (aT I) (ab (G (G (aw (ah ?_)))));obtain rfl:=sI h;exact RO [some (.tree .u8 .u32)] [] [0,1,2,3,4,5] [(2,.adr 5 0 3 0)] (D4 A a9 B C a6 (i64.wrap (a7 - 1)) o1 o2 o3 o4 z.op z.set z.kids) 6 5
    refine GX 1 [0,1,2,3,4] (aT I) (fun _=>aE (aE ?_));obtain rfl:=sI h;exact rfl
   refine GX 1 [0,1,2,3,4] (j E) (fun _=>aE (aE ?_));obtain rfl:=sI h;exact rfl
  refine ae (ab (af (G (G (aC h (fun aa h=>?_) (fun aa h=>?_))))))
  ·obtain⟨ac,ad,h⟩:=aj h;rcases ac with _ | ⟨d9,dd⟩
   ·cases h
   refine GX 2 [0,1,2,3,4] (aX ad) (fun _=>aE ?_);obtain rfl:=sI h;exact rfl
  refine ae (ab (G (GC 6 h (fun h=>af (ak (af ?_))))));obtain⟨ax,J,h⟩:=aj h;rcases ax with⟨de,di⟩ | ⟨dk,dm⟩
  ·refine mJ 1 [0,1,2,3,4] (aJ J) (ab (DJ h (dy (n9 Tryz.f136.ntmps (fun(v6,v7)=>aA [(2,.adr 5 0 3 0),(5,.adr 6 0 3 0)] (Nx A v7 B C (i64.wrap (V+1)) X o1 o2 o3 o4 0 (0:Int) (1:Int) v6) 7 5)) (rS (aW 72 .i64 .i64))) (fun x h=>?_) (fun x h e σ' hq=>?_)))
   ·refine aC h (fun b1 h=>?_) (fun b1 h=>?_)
    ·refine Ge ?_;obtain rfl:=sI h;exact bk (cV (gg [] [0,1,2,3,4,5,181]))
    refine af ?_;obtain⟨b2,L,h⟩:=aj h;rcases b2 with⟨ds,dt⟩ | ⟨b9,be⟩
    ·refine mJ 1 [0,1,2,3,4] (aJ L) (ab (aC h (fun b3 h=>?_) (fun b3 h=>?_)))
     ·refine af ?_;obtain⟨b4,M,h⟩:=aj h;rcases b4 with⟨du,e1⟩ | ⟨bi,bs⟩
      ·refine mJ 1 [0,1,2,3,4] (aJ M) (ab (af ?_));obtain⟨b5,N,h⟩:=aj h;rcases b5 with⟨e2,e3⟩ | ⟨bv,bx⟩
       ·refine mJ 1 [0,1,2,3,4] (aI N) (ab (G (aC h (fun b6 h=>?_) (fun b6 h=>?_))))
        ·refine Ge ?_;obtain rfl:=sI h;exact bk (cV (gg [] [0,1,2,3,4,5,181]))
        refine ae ?_;obtain rfl:=sI h;exact bk (cV (gg [] [0,1,2,3,4,5,181]))
       refine GX 1 [0,1,2,3,4] (aI N) (fun _=>?_);obtain rfl:=sI h;refine aE (aL ?_);exact rfl
      refine GX 1 [0,1,2,3,4] (aJ M) (fun _=>?_);obtain rfl:=sI h;refine aE (aL ?_);exact rfl
     obtain⟨b7,O,h⟩:=aj h;rcases b7 with⟨c1,c2⟩ | ⟨c3,c4⟩
     ·refine mJ 1 [0,1,2,3,4] (dC O) ?_;obtain rfl:=sI h;exact bk (cV (gg [] [0,1,2,3,4,5,181]))
     refine GX 1 [0,1,2,3,4] (dC O) (fun _=>?_);obtain rfl:=sI h;exact aL (rfl)
    refine GX 1 [0,1,2,3,4] (aJ L) (fun _=>?_);obtain rfl:=sI h;refine aE (aL ?_);exact rfl
   rcases x with⟨v6,v7⟩ | ⟨e4,c5⟩
   ·obtain⟨rfl,b8⟩:=hq;refine cF ?_ b8;refine ay (ab (G (aw ?_)));obtain rfl:=sI h;exact RO [some (.tree .u8 .u32)] [] [0,1,2,3,4,5] [(2,.adr 5 0 3 0)] (Mp A v7 B C (i64.wrap (V+1)) X o1 o2 o3 o4 1 v6) 6 5
   obtain rfl:=hq;refine bq (aE ?_);obtain rfl:=sI h;exact rfl
  refine GX 1 [0,1,2,3,4] (aJ J) (fun _=>aE (bq (aE ?_)));obtain rfl:=sI h;exact rfl
 refine GX 1 [0,1,2,3,4] (aJ D) (fun _=>aE (aE ?_));obtain rfl:=sI h;exact rfl
def hN(M:QX)(p3 p4:Int)(o1:QQ)(o2:QK)(o3:XJ)(o4:XQ)(p:Tree)(u v:Int):(Int×Int)→Option ((Int×Int)⊕((Int)⊕((Int×Int)⊕oz))):=fun(q,j) =>
 (if(decide (j<7))=true then(if 0≤j∧j<((7:Nat):Int)then(((if((([0,0,0,0,42,43,63]:QK).getD j.toNat 0) != 0)=true then((bj (([0,0,0,0,42,43,63]:QK).getD j.toNat 0) M q p3 p4 u v o1 o2 o3 o4).bind fun(z:(Bool×Int)⊕(Int×Int))=>match z with
 | .inr (A,B)=>some ((Sum.inr (A,B)))
 | .inl (C,D)=>some ((Sum.inl (D,C))))
 else some ((Sum.inl (q,false))))).bind fun(E:((Int×Bool)⊕(Int×Int)))=>match E with
 | .inl (x,I)=>(if I=true then some (Sum.inr (Sum.inr (Sum.inr ((Tree.node (u8.wrap j) (0:Int) ([(Tree.node p.op p.set p.kids)]:XX)),x,u,v))))
 else some (Sum.inl (x,(i64.wrap (j+1)))))
 | .inr ((J,L))=>some (Sum.inr (Sum.inr (Sum.inl (J,L)))))else none)
 else some (Sum.inr (Sum.inl q)))
def eE(j:QX→Int→Int→Int→Int→Int→QQ→QK→XJ→XQ→Option (oz⊕(Int×Int)))(N:QX)(O p3 p4 p5 p6:Int)(o1:QQ)(o2:QK)(o3:XJ)(o4:XQ):Option (oz⊕(Int×Int)) :=
 ((eD j N O p3 p4 p5 p6 o1 o2 o3 o4).bind fun(v:oz⊕(Int×Int))=>match v with
 | .inr (x,z)=>some (Sum.inr (x,z))
 | .inl (p,A,q,u)=>((iter (hN N p3 p4 o1 o2 o3 o4 p q u) (A,0)).bind fun(B:((Int)⊕((Int×Int)⊕oz)))=>match B with
 | .inl C=>some (Sum.inl ((Tree.node p.op p.set p.kids),C,q,u))
 | .inr (.inl (D,E))=>some (Sum.inr (D,E))
 | .inr (.inr ((I,J,L,M)))=>some (Sum.inl (I,J,L,M))))
theorem ia(j:QX→Int→Int→Int→Int→Int→QQ→QK→XJ→XQ→Option (oz⊕(Int×Int)))(u:∀ {z:QX} {O p3 p4 p5 p6:Int} {o1:QQ} {o2:QK} {o3:XJ} {o4:XQ} {B:oz⊕(Int×Int)},j z O p3 p4 p5 p6 o1 o2 o3 o4=some B→iV Tryz.prog 127 [.adr 0 0 10 0] (bO z O p3 p4 p5 p6 o1 o2 o3 o4) (kd (fun(q:Tree×Int×Int×Int)=>(.agg [.u8 q.1.op,.u32 q.1.set,.p false (.slice (.tree .u8 .u32)) q.1.kids],(bO z q.2.1 p3 p4 q.2.2.1 q.2.2.2 o1 o2 o3 o4))) (aW 72 .i64 .i64) B)){z:QX}{O p3 p4 p5 p6:Int}{o1:QQ}{o2:QK}{o3:XJ}{o4:XQ}{B:oz⊕(Int×Int)}(h:eE j z O p3 p4 p5 p6 o1 o2 o3 o4=some B):
  iV Tryz.prog 135 [.adr 0 0 10 0] (bO z O p3 p4 p5 p6 o1 o2 o3 o4) (kd (fun(q:Tree×Int×Int×Int)=>(.agg [.u8 q.1.op,.u32 q.1.set,.p false (.slice (.tree .u8 .u32)) q.1.kids],(bO z q.2.1 p3 p4 q.2.2.1 q.2.2.2 o1 o2 o3 o4))) (aW 72 .i64 .i64) B):=by
 refine DB Tryz.func135 (fun Bw w0=>?_);unfold eE at h;refine G (af ?_);obtain⟨a5,V,h⟩:=aj h;rcases a5 with⟨v,aa,C,D⟩ | ⟨ac,ad⟩
 ·refine mJ 1 [0,1,2,3,4] (ig j u V) (ab (af (G (ak ?_))));refine kg h (fun(X,E)=>aA [(0,.adr 0 0 10 0),(2,.adr 5 0 3 0),(3,.adr 6 0 3 0),(8,.agg [.u8 0,.u8 0,.u8 0,.u8 0,.u8 42,.u8 43,.u8 63]),(9,.i64 E)] (Ll z X p3 p4 C D o1 o2 o3 o4 0 (0:Int) v.op v.set v.kids) 7 5) (dy (fj Tryz.f135.ntmps 0 (fun J=>aA [(2,.adr 5 0 3 0),(3,.adr 6 0 3 0)] (Ll z J p3 p4 C D o1 o2 o3 o4 0 (0:Int) v.op v.set v.kids) 7 5)) (dy (rS (aW 72 .i64 .i64)) (CS tb Tryz.f135.ntmps Tryz.f135.results.toList (fun(I,Y,Z,a1)=>(.agg [.u8 I.op,.u32 I.set,.p false (.slice (.tree .u8 .u32)) I.kids],(bO z Y p3 p4 Z a1 o1 o2 o3 o4)))))) (gg [] [0,1,2,3,4,5,29]) (fun y o h=>?_) (fun a6 h e σ' N=>?_)
  ·obtain⟨X,E⟩:=y;unfold hN at h;refine G (af (aC h (fun a7 h=>?_) (fun a7 h=>?_)))
   ·refine ae (ab (af (ak (GC 1 h (fun h=>af (DJ h (dy (n9 Tryz.f135.ntmps (fun(L,a2)=>aA [(0,.adr 0 0 10 0),(2,.adr 5 0 3 0),(3,.adr 6 0 3 0),(4,.i64 E),(8,.agg [.u8 0,.u8 0,.u8 0,.u8 0,.u8 42,.u8 43,.u8 63]),(9,.i64 E),(19,.bo a2)] (Ll z L p3 p4 C D o1 o2 o3 o4 0 (0:Int) v.op v.set v.kids) 7 5)) (rS (aW 72 .i64 .i64))) (fun a3 h=>?_) (fun a3 h e σ' N=>?_)))))))
    ·rcases aM h with⟨x,h⟩ | ⟨x,h⟩
     ·obtain⟨a8,a4,h⟩:=aj h;rcases a8 with⟨ax,b1⟩ | ⟨b2,b3⟩
      ·have A:=(aJ a4);refine bC ⟨[(2,true),(6,true)],[(5,(oO A [0,1,2,3,4]))]⟩ [(3,4,an x),(5,5,oc (And.intro x A)),(6,6,oc x)] ?_;obtain rfl:=sI h;exact bk (cV (gg [] [0,1,2,3,4,5,6]))
      have A:=(aJ a4);refine N9 A ⟨[(2,true)],[(5,(oD A [0,1,2,3,4]))]⟩ 5 [(3,4,an x),(5,5,oc (And.intro x A))] (fun _=>?_);obtain rfl:=sI h;exact aL (rfl)
     refine bC ⟨[(2,false),(6,false)],[]⟩ [(3,6,oc x)] ?_;obtain rfl:=sI h;exact bk (cV (gg [] [0,1,2,3,4,5,6]))
    rcases a3 with⟨L,a2⟩ | ⟨b4,b5⟩
    ·obtain⟨rfl,M⟩:=N;refine cF ?_ M;refine ab (aC h (fun a9 h=>?_) (fun a9 h=>?_))
     ·refine G (lS [.frzC 5 2] (by kernel_rfl) (aw ?_));obtain rfl:=sI h;refine au (ah (bK (aL (aL ?_))));exact yJ (RO [some (.tree .u8 .u32)] [] [0,1,2,3,4,5] [(2,.adr 5 0 3 0)] (D4 z L p3 p4 C D o1 o2 o3 o4 (u8.wrap E) (0:Int) ([(Tree.node v.op v.set v.kids)]:XX)) 6 5)
     refine ae (ay (ab (Ge ?_)));exact eB h (gg [] [0,1,2,3,4,5,6])
    obtain rfl:=N;obtain rfl:=sI h;refine aE (bq (aE (bY (aL (A4 ?_)))));exact rfl
   refine av (aP ?_);obtain rfl:=sI h;refine dL (bk ?_);exact bS (gg [] [0,1,2,3,4,5,6])
  rcases a6 with J | ⟨b6,b7⟩ | ⟨I,Y,Z,a1⟩
  ·obtain⟨rfl,M⟩:=N;refine cF ?_ M;refine az (ab (G (aw ?_)));obtain rfl:=sI h;exact RO [some (.tree .u8 .u32)] [] [0,1,2,3,4,5] [(2,.adr 5 0 3 0)] (D4 z J p3 p4 C D o1 o2 o3 o4 v.op v.set v.kids) 6 5
  ·obtain rfl:=N;refine bq (aE ?_);obtain rfl:=sI h;exact rfl
  obtain⟨rfl,hr⟩:=N;refine au (ah ?_);obtain rfl:=sI h;exact hr
 refine GX 1 [0,1,2,3,4] (ig j u V) (fun _=>aE ?_);obtain rfl:=sI h;exact rfl
def jm(Y:QX)(p3 p4:Int)(o1:QQ)(o2:QK)(o3:XJ)(o4:XQ)(j:QX→Int→Int→Int→Int→Int→QQ→QK→XJ→XQ→Option (oz⊕(Int×Int))):(Int×Int×Int×XX×Int)→Option ((Int×Int×Int×XX×Int)⊕((XX×Int×Int×Int)⊕(Int×Int))):=fun(q,u,v,B,C) =>
 ((((dA C).bind fun D =>
 (if D=true then some (true)
 else(if(C == 40)=true then some (true)
 else(if(C == 91)=true then some (true)
 else some ((C == 46))))))).bind fun E=>(if E=true then((eE j Y q p3 p4 u v o1 o2 o3 o4).bind fun(I:oz⊕(Int×Int))=>match I with
 | .inr (J,L)=>some (Sum.inr (Sum.inr (J,L)))
 | .inl (p,M,x,z)=>(if(B.length+([(Tree.node p.op p.set p.kids)]:XX).length)*32≤140737488355328∧B.length+([(Tree.node p.op p.set p.kids)]:XX).length≤9223372036854775807 then((bg Y M p3 p4 x z o1 o2 o3 o4).bind fun(N:(Int×Int)⊕(Int×Int))=>match N with
 | .inr (O,V)=>some (Sum.inr (Sum.inr (O,V)))
 | .inl (X,A)=>some (Sum.inl (A,x,z,(B++([(Tree.node p.op p.set p.kids)]:XX)),X)))else none))
 else some (Sum.inr (Sum.inl (B,q,u,v)))))
def dP(j:QX→Int→Int→Int→Int→Int→QQ→QK→XJ→XQ→Option (oz⊕(Int×Int)))(J:QX)(L p3 p4 p5 p6:Int)(o1:QQ)(o2:QK)(o3:XJ)(o4:XQ):Option (oz⊕(Int×Int)) :=
 ((bg J L p3 p4 p5 p6 o1 o2 o3 o4).bind fun(z:(Int×Int)⊕(Int×Int))=>match z with
 | .inr (A,B)=>some (Sum.inr (A,B))
 | .inl (C,D)=>((iter (jm J p3 p4 o1 o2 o3 o4 j) (D,p5,p6,([]:XX),C)).bind fun(x:((XX×Int×Int×Int)⊕(Int×Int)))=>match x with
 | .inl (p,q,u,v)=>(if((p.length:Int) == 0)=true then some (Sum.inl ((Tree.node 0 (0:Int) ([]:XX)),q,u,v))
 else(if((p.length:Int) == 1)=true then(if 0≤(0:Int)∧0<(p.length:Int)then(if(0:Int).toNat<p.length then some (Sum.inl ((Tree.node ((p.getD ((0:Int).toNat) (Tree.node 0 0 [])).op) ((p.getD ((0:Int).toNat) (Tree.node 0 0 [])).set) ((p.getD ((0:Int).toNat) (Tree.node 0 0 [])).kids)),q,u,v))else none)else none)
 else some (Sum.inl ((Tree.node 2 (0:Int) p),q,u,v))))
 | .inr ((E,I))=>some (Sum.inr (E,I))))
theorem dS(j:QX→Int→Int→Int→Int→Int→QQ→QK→XJ→XQ→Option (oz⊕(Int×Int)))(u:∀ {z:QX} {X p3 p4 p5 p6:Int} {o1:QQ} {o2:QK} {o3:XJ} {o4:XQ} {B:oz⊕(Int×Int)},j z X p3 p4 p5 p6 o1 o2 o3 o4=some B→iV Tryz.prog 127 [.adr 0 0 10 0] (bO z X p3 p4 p5 p6 o1 o2 o3 o4) (kd (fun(q:Tree×Int×Int×Int)=>(.agg [.u8 q.1.op,.u32 q.1.set,.p false (.slice (.tree .u8 .u32)) q.1.kids],(bO z q.2.1 p3 p4 q.2.2.1 q.2.2.2 o1 o2 o3 o4))) (aW 72 .i64 .i64) B)){z:QX}{X p3 p4 p5 p6:Int}{o1:QQ}{o2:QK}{o3:XJ}{o4:XQ}{B:oz⊕(Int×Int)}(h:dP j z X p3 p4 p5 p6 o1 o2 o3 o4=some B):
  iV Tryz.prog 133 [.adr 0 0 10 0] (bO z X p3 p4 p5 p6 o1 o2 o3 o4) (kd (fun(q:Tree×Int×Int×Int)=>(.agg [.u8 q.1.op,.u32 q.1.set,.p false (.slice (.tree .u8 .u32)) q.1.kids],(bO z q.2.1 p3 p4 q.2.2.1 q.2.2.2 o1 o2 o3 o4))) (aW 72 .i64 .i64) B):=by
 refine DB Tryz.func133 (fun Bw w0=>?_);unfold dP at h;refine G (G (af (af ?_)));obtain⟨a3,Y,h⟩:=aj h;rcases a3 with⟨b1,b2⟩ | ⟨b3,b4⟩
 ·refine mJ 1 [0,1,2,3,4] (aO Y) (ab (ak (kg h (fun(L,M,N,l5,c4)=>aA [(0,.adr 0 0 10 0),(2,.adr 5 0 3 0),(3,.sl 6),(4,.u8 c4)] (Hw z L p3 p4 M N o1 o2 o3 o4 0 (0:Int) l5) 7 5) (dy (fj Tryz.f133.ntmps 0 (fun(V,C,D,E)=>aA [(2,.adr 5 0 3 0),(3,.sl 6)] (Hw z C p3 p4 D E o1 o2 o3 o4 0 (0:Int) V) 7 5)) (rS (aW 72 .i64 .i64))) (gg [.nilS 3 45 146 (.tree .u8 .u32)] [0,1,2,3,4,5,45]) (fun y o h=>?_) (fun Z h e σ' hq=>?_))))
  ·obtain⟨L,M,N,l5,c4⟩:=y;unfold jm at h;refine af (af (bz h (fun O=>aA [(0,.adr 0 0 10 0),(2,.adr 5 0 3 0),(3,.sl 6),(20,.bo O)] (Hw z L p3 p4 M N o1 o2 o3 o4 0 (0:Int) l5) 7 5) (fun O h=>?_) (fun O h=>?_)))
   ·obtain⟨b5,I,h⟩:=aj h;rcases aM h with⟨x,h⟩ | ⟨x,h⟩
    ·have v:=(da I);exact bC ⟨[(2,true),(5,true)],[(1,(oP v))]⟩ [(1,1,oc v),(3,5,oc x)] (eN h (gg [] [0,1,2,3,4,5,6]))
    rcases aM h with⟨A,h⟩ | ⟨A,h⟩
    ·have v:=(da I);exact bC ⟨[(2,false),(5,false),(6,true),(9,true)],[(1,(oP v))]⟩ [(1,1,oc v),(3,4,an x),(5,5,oc x),(7,9,oc A)] (eN h (gg [] [0,1,2,3,4,5,6]))
    rcases aM h with⟨J,h⟩ | ⟨J,h⟩
    ·have v:=(da I);exact bC ⟨[(2,false),(5,false),(6,false),(9,false),(10,true),(13,true)],[(1,(oP v))]⟩ [(1,1,oc v),(3,4,an x),(5,5,oc x),(7,8,an A),(9,9,oc A),(11,13,oc J)] (eN h (gg [] [0,1,2,3,4,5,6]))
    have v:=(da I);exact bC ⟨[(2,false),(5,false),(6,false),(9,false),(10,false),(13,false)],[(1,(oP v))]⟩ [(1,1,oc v),(3,4,an x),(5,5,oc x),(7,8,an A),(9,9,oc A),(11,12,an J),(13,13,oc J)] (eN h (gg [] [0,1,2,3,4,5,6]))
   refine ab (aC h (fun a4 h=>?_) (fun a4 h=>?_))
   ·refine ae (ab (af (ak ?_)));obtain⟨a5,a1,h⟩:=aj h;rcases a5 with⟨b6,b7,b8,b9⟩ | ⟨be,bi⟩
    ·obtain⟨a6,h⟩:=aD h;have v:=(ia j u a1);refine bC ⟨[],[(2,(oO v [0,1,2,3,4]))]⟩ [(2,2,oc v),(4,4,oc a6)] (ay (ab ?_));obtain⟨a7,a2,h⟩:=aj h;rcases a7 with⟨bs,ax⟩ | ⟨bv,bx⟩
     ·exact mJ 1 [0,1,2,3,4] (aO a2) (eB h (gg [] [0,1,2,3,4,5,39]))
     refine GX 1 [0,1,2,3,4] (aO a2) (fun _=>?_);obtain rfl:=sI h;refine bY (aL ?_);exact rfl
    refine GX 2 [0,1,2,3,4] (ia j u a1) (fun _=>?_);obtain rfl:=sI h;refine bq (aE (bY (aL ?_)));exact rfl
   refine av (aP ?_);obtain rfl:=sI h;refine dL (bk ?_);exact bS (gg [] [0,1,2,3,4,5,6])
  rcases Z with⟨V,C,D,E⟩ | ⟨c1,c2⟩
  ·obtain⟨rfl,a8⟩:=hq;refine cF ?_ a8;refine az (ab (af (G (ak (G (aC h (fun a9 h=>?_) (fun a9 h=>?_)))))))
   ·refine G (aw (au (ah ?_)));obtain rfl:=sI h;exact RO [some (.tree .u8 .u32)] [] [0,1,2,3,4,5] [(2,.adr 5 0 3 0)] (Mp z C p3 p4 D E o1 o2 o3 o4 0 (0:Int)) 6 5
   refine G (aC h (fun aa h=>?_) (fun aa h=>?_))
   ·obtain⟨ac,ad,h⟩:=g2 h;refine GN a0 [(1,1,oc ac),(2,2,oc ad)] (aw (au (ah ?_)));obtain rfl:=sI h;exact RO [some (.tree .u8 .u32)] [] [0,1,2,3,4,5] [(2,.adr 5 0 3 0)] (D4 z C p3 p4 D E o1 o2 o3 o4 ((V.getD ((0:Int).toNat) (Tree.node 0 0 [])).op) ((V.getD ((0:Int).toNat) (Tree.node 0 0 [])).set) ((V.getD ((0:Int).toNat) (Tree.node 0 0 [])).kids)) 6 5
   refine ae (ay (ab (G (lS [.frzC 5 2] (by kernel_rfl) (aw ?_)))));obtain rfl:=sI h;exact RO [some (.tree .u8 .u32)] [] [0,1,2,3,4,5] [(2,.adr 5 0 3 0)] (D4 z C p3 p4 D E o1 o2 o3 o4 2 (0:Int) V) 6 5
  obtain rfl:=hq;refine bq (aE ?_);obtain rfl:=sI h;exact rfl
 refine GX 1 [0,1,2,3,4] (aO Y) (fun _=>aE (aE ?_));obtain rfl:=sI h;exact rfl
def gR(O:QX)(p3 p4:Int)(o1:QQ)(o2:QK)(o3:XJ)(o4:XQ)(j:QX→Int→Int→Int→Int→Int→QQ→QK→XJ→XQ→Option (oz⊕(Int×Int))):(Int×Int×Int×XX)→Option ((Int×Int×Int×XX)⊕((XX×Int×Int×Int)⊕(Int×Int))):=fun(L,v,x,q) =>
 ((bj 124 O L p3 p4 v x o1 o2 o3 o4).bind fun(M:(Bool×Int)⊕(Int×Int))=>match M with
 | .inr (z,A)=>some (Sum.inr (Sum.inr (z,A)))
 | .inl (B,u)=>(if B=true then((dP j O u p3 p4 v x o1 o2 o3 o4).bind fun(N:oz⊕(Int×Int))=>match N with
 | .inr (C,D)=>some (Sum.inr (Sum.inr (C,D)))
 | .inl (p,E,I,J)=>(if(q.length+([(Tree.node p.op p.set p.kids)]:XX).length)*32≤140737488355328∧q.length+([(Tree.node p.op p.set p.kids)]:XX).length≤9223372036854775807 then some (Sum.inl (E,I,J,(q++([(Tree.node p.op p.set p.kids)]:XX))))else none))
 else some (Sum.inr (Sum.inl (q,u,v,x)))))
def fg(j:QX→Int→Int→Int→Int→Int→QQ→QK→XJ→XQ→Option (oz⊕(Int×Int)))(M:QX)(N p3 p4 p5 p6:Int)(o1:QQ)(o2:QK)(o3:XJ)(o4:XQ):Option (oz⊕(Int×Int)) :=
 ((dP j M N p3 p4 p5 p6 o1 o2 o3 o4).bind fun(I:oz⊕(Int×Int))=>match I with
 | .inr (J,L)=>some (Sum.inr (J,L))
 | .inl (q,u,v,x)=>((iter (gR M p3 p4 o1 o2 o3 o4 j) (u,v,x,([(Tree.node q.op q.set q.kids)]:XX))).bind fun(z:((XX×Int×Int×Int)⊕(Int×Int)))=>match z with
 | .inl (p,A,B,C)=>(if((p.length:Int) == 1)=true then(if 0≤(0:Int)∧0<(p.length:Int)then(if(0:Int).toNat<p.length then some (Sum.inl ((Tree.node ((p.getD ((0:Int).toNat) (Tree.node 0 0 [])).op) ((p.getD ((0:Int).toNat) (Tree.node 0 0 [])).set) ((p.getD ((0:Int).toNat) (Tree.node 0 0 [])).kids)),A,B,C))else none)else none)
 else some (Sum.inl ((Tree.node 3 (0:Int) p),A,B,C)))
 | .inr ((D,E))=>some (Sum.inr (D,E))))
def bP:Nat→QX→Int→Int→Int→Int→Int→QQ→QK→XJ→XQ→Option (oz⊕(Int×Int))
 | 0=>fun _ _ _ _ _ _ _ _ _ _=>none
 | n+1=>fg (bP n)
theorem kH(j:QX→Int→Int→Int→Int→Int→QQ→QK→XJ→XQ→Option (oz⊕(Int×Int)))(u:∀ {x:QX} {D p3 p4 p5 p6:Int} {o1:QQ} {o2:QK} {o3:XJ} {o4:XQ} {z:oz⊕(Int×Int)},j x D p3 p4 p5 p6 o1 o2 o3 o4=some z→iV Tryz.prog 127 [.adr 0 0 10 0] (bO x D p3 p4 p5 p6 o1 o2 o3 o4) (kd (fun(q:Tree×Int×Int×Int)=>(.agg [.u8 q.1.op,.u32 q.1.set,.p false (.slice (.tree .u8 .u32)) q.1.kids],(bO x q.2.1 p3 p4 q.2.2.1 q.2.2.2 o1 o2 o3 o4))) (aW 72 .i64 .i64) z)){x:QX}{D p3 p4 p5 p6:Int}{o1:QQ}{o2:QK}{o3:XJ}{o4:XQ}{z:oz⊕(Int×Int)}(h:fg j x D p3 p4 p5 p6 o1 o2 o3 o4=some z):
  iV Tryz.prog 127 [.adr 0 0 10 0] (bO x D p3 p4 p5 p6 o1 o2 o3 o4) (kd (fun(q:Tree×Int×Int×Int)=>(.agg [.u8 q.1.op,.u32 q.1.set,.p false (.slice (.tree .u8 .u32)) q.1.kids],(bO x q.2.1 p3 p4 q.2.2.1 q.2.2.2 o1 o2 o3 o4))) (aW 72 .i64 .i64) z):=by
 refine DB Tryz.func127 (fun Bw w0=>?_);unfold fg at h;refine G (af ?_);obtain⟨Y,E,h⟩:=aj h;rcases Y with⟨a8,a9,aa,ac⟩ | ⟨bi,bs⟩
 ·refine mJ 1 [0,1,2,3,4] (dS j u E) (ab (af (ak (kg h (fun(I,J,L,M)=>aA [(0,.adr 0 0 10 0),(2,.adr 5 0 3 0),(3,.sl 6)] (Hw x I p3 p4 J L o1 o2 o3 o4 0 (0:Int) M) 7 5) (dy (fj Tryz.f127.ntmps 0 (fun(v,A,B,C)=>aA [(2,.adr 5 0 3 0),(3,.sl 6)] (Hw x A p3 p4 B C o1 o2 o3 o4 0 (0:Int) v) 7 5)) (rS (aW 72 .i64 .i64))) (gg [] [0,1,2,3,4,5,29]) (fun y o h=>?_) (fun N h e σ' hq=>?_)))))
  ·obtain⟨I,J,L,M⟩:=y;unfold gR at h;refine af (af ?_);obtain⟨Z,O,h⟩:=aj h;rcases Z with⟨ad,ax⟩ | ⟨b1,b2⟩
   ·refine mJ 1 [0,1,2,3,4] (aJ O) (ab (aC h (fun a1 h=>?_) (fun a1 h=>?_)))
    ·refine ae (ab (ak ?_));obtain⟨a2,V,h⟩:=aj h;rcases a2 with⟨b3,b4,b5,b6⟩ | ⟨b7,b8⟩
     ·obtain⟨a3,h⟩:=aD h;have X:=(dS j u V);refine bC ⟨[],[(2,(oO X [0,1,2,3,4]))]⟩ [(2,2,oc X),(4,4,oc a3)] (ay ?_);exact eB h (gg [] [0,1,2,3,4,5,55])
     refine GX 2 [0,1,2,3,4] (dS j u V) (fun _=>?_);obtain rfl:=sI h;refine bq (bY (aL ?_));exact rfl
    refine av (aP ?_);obtain rfl:=sI h;refine dL (bk ?_);exact bS (gg [] [0,1,2,3,4,5,6])
   refine GX 1 [0,1,2,3,4] (aJ O) (fun _=>?_);obtain rfl:=sI h;refine aE (aE (bY (aL ?_)));exact rfl
  rcases N with⟨v,A,B,C⟩ | ⟨b9,be⟩
  ·obtain⟨rfl,a4⟩:=hq;refine cF ?_ a4;refine az (ab (af (G (aC h (fun a5 h=>?_) (fun a5 h=>?_)))))
   ·obtain⟨a6,a7,h⟩:=g2 h;refine GN a0 [(1,1,oc a6),(2,2,oc a7)] (aw (ah ?_));obtain rfl:=sI h;exact RO [some (.tree .u8 .u32)] [] [0,1,2,3,4,5] [(2,.adr 5 0 3 0)] (D4 x A p3 p4 B C o1 o2 o3 o4 ((v.getD ((0:Int).toNat) (Tree.node 0 0 [])).op) ((v.getD ((0:Int).toNat) (Tree.node 0 0 [])).set) ((v.getD ((0:Int).toNat) (Tree.node 0 0 [])).kids)) 6 5
   refine ae (ab (G (lS [.frzC 5 2] (by kernel_rfl) (aw ?_))));obtain rfl:=sI h;exact RO [some (.tree .u8 .u32)] [] [0,1,2,3,4,5] [(2,.adr 5 0 3 0)] (D4 x A p3 p4 B C o1 o2 o3 o4 3 (0:Int) v) 6 5
  obtain rfl:=hq;refine bq (aE ?_);obtain rfl:=sI h;exact rfl
 refine GX 1 [0,1,2,3,4] (dS j u E) (fun _=>aE ?_);obtain rfl:=sI h;exact rfl
theorem cq:∀(n:Nat) {u:QX} {v p3 p4 p5 p6:Int} {o1:QQ} {o2:QK} {o3:XJ} {o4:XQ} {j:oz⊕(Int×Int)},bP n u v p3 p4 p5 p6 o1 o2 o3 o4=some j→iV Tryz.prog 127 [.adr 0 0 10 0] (bO u v p3 p4 p5 p6 o1 o2 o3 o4) (kd (fun(q:Tree×Int×Int×Int)=>(.agg [.u8 q.1.op,.u32 q.1.set,.p false (.slice (.tree .u8 .u32)) q.1.kids],(bO u q.2.1 p3 p4 q.2.2.1 q.2.2.2 o1 o2 o3 o4))) (aW 72 .i64 .i64) j)
 | 0,_,_,_,_,_,_,_,_,_,_,_,h=>by cases h
 | n+1,u,v,p3,p4,p5,p6,o1,o2,o3,o4,j,h=>kH (bP n) (cq n)  h
def eT(q B:Int)(u:QX)(p2 p3 p4 p5 p6:Int)(o1:QQ)(o2:QK)(o3:XJ)(o4:XQ):Option ((Int×XJ×Int×Int)⊕(Int×Int)) :=
 (if(decide ((o3.length:Int)≥24))=true then((bc 24 B u p2 p3 p4 p5 p6 o1 o2 o3 o4).bind fun(C:(Unit)⊕(Int×Int))=>match C with
 | .inr (D,E)=>some (Sum.inr (D,E))
 | .inl _=>none)
 else((bP 1000 u p2 p3 p4 p5 p6 o1 o2 o3 o4).bind fun(I:oz⊕(Int×Int))=>match I with
 | .inr (J,L)=>some (Sum.inr (J,L))
 | .inl (j,M,v,x)=>((bE 47 u M p3 p4 v x o1 o2 o3 o4).bind fun(N:(Int)⊕(Int×Int))=>match N with
 | .inr (O,V)=>some (Sum.inr (O,V))
 | .inl X=>((bP 1000 u X p3 p4 v x o1 o2 o3 o4).bind fun(Y:oz⊕(Int×Int))=>match Y with
 | .inr (Z,a1)=>some (Sum.inr (Z,a1))
 | .inl (p,a2,z,A)=>((bE 59 u a2 p3 p4 z A o1 o2 o3 o4).bind fun(a3:(Int)⊕(Int×Int))=>match a3 with
 | .inr (a4,a5)=>some (Sum.inr (a4,a5))
 | .inl a6=>(if(o3.length+([(q,(Tree.node j.op j.set j.kids),(Tree.node p.op p.set p.kids))]:XJ).length)*72≤140737488355328∧o3.length+([(q,(Tree.node j.op j.set j.kids),(Tree.node p.op p.set p.kids))]:XJ).length≤9223372036854775807 then some (Sum.inl (a6,(o3++([(q,(Tree.node j.op j.set j.kids),(Tree.node p.op p.set p.kids))]:XJ)),z,A))else none))))))
theorem iI{j v:Int}{D:QX}{Y p3 p4 p5 p6:Int}{o1:QQ}{o2:QK}{o3:XJ}{o4:XQ}{x:(Int×XJ×Int×Int)⊕(Int×Int)}(h:eT j v D Y p3 p4 p5 p6 o1 o2 o3 o4=some x):
  iV Tryz.prog 104 [.adr 0 0 10 0,.u8 j,.i64 v] (bO D Y p3 p4 p5 p6 o1 o2 o3 o4) (kd (fun(q:Int×XJ×Int×Int)=>(.tup [],(LZ D q.1 p3 p4 q.2.2.1 q.2.2.2 o1 o2 o4 q.2.1))) (aW 72 .i64 .i64) x):=by
 refine DB Tryz.func104 (fun Bw w0=>?_);unfold eT at h;refine af (G (aC h (fun Z h=>?_) (fun Z h=>?_)))
 ·obtain⟨E,I,h⟩:=aj h;rcases E with _ | ⟨a1,a2⟩
  ·cases h
  refine GX 2 [0,1,2,3,4] (aX I) (fun _=>aE ?_);obtain rfl:=sI h;exact rfl
 refine ae (ab (G (af ?_)));obtain⟨J,z,h⟩:=aj h;rcases J with⟨p,a3,a4,a5⟩ | ⟨a6,a7⟩
 ·refine mJ 1 [0,1,2,3,4] (cq 1000 z) (ab (af ?_));obtain⟨L,A,h⟩:=aj h;rcases L with a8 | ⟨a9,aa⟩
  ·refine mJ 1 [0,1,2,3,4] (aT A) (ab (af ?_));obtain⟨M,B,h⟩:=aj h;rcases M with⟨u,ac,N,O⟩ | ⟨ad,ax⟩
   ·refine mJ 1 [0,1,2,3,4] (cq 1000 B) (ab (af ?_));obtain⟨V,C,h⟩:=aj h;rcases V with X | ⟨b1,b2⟩
    ·refine mJ 1 [0,1,2,3,4] (aT C) (ab ?_);obtain⟨c4,h⟩:=aD h;refine nf a0 [(8,8,oc c4)] ?_;obtain rfl:=sI h;exact(RO [] [] [0,1,2,3,4,253] [] (LZ D X p3 p4 N O o1 o2 o4 (o3++([(j,(Tree.node p.op p.set p.kids),(Tree.node u.op u.set u.kids))]:XJ))) 6 5).normal
    refine GX 1 [0,1,2,3,4] (aT C) (fun _=>aE ?_);obtain rfl:=sI h;exact rfl
   refine GX 1 [0,1,2,3,4] (cq 1000 B) (fun _=>aE ?_);obtain rfl:=sI h;exact rfl
  refine GX 1 [0,1,2,3,4] (aT A) (fun _=>aE ?_);obtain rfl:=sI h;exact rfl
 refine GX 1 [0,1,2,3,4] (cq 1000 z) (fun _=>aE ?_);obtain rfl:=sI h;exact rfl
def kA(D:QX):K6→Option (K6⊕(K6⊕(Int×Int))):=fun(bi,j,p,q,z,u,A,v,x) =>
 ((bg D bi p q v x j z u A).bind fun(bs:(Int×Int)⊕(Int×Int))=>match bs with
 | .inr (J,L)=>some (Sum.inr (Sum.inr (J,L)))
 | .inl (M,E)=>(if(M != 0)=true then((cb D E p q v x j z u A).bind fun(bv:(QX×Int×Int)⊕(Int×Int))=>match bv with
 | .inr (N,O)=>some (Sum.inr (Sum.inr (N,O)))
 | .inl (B,I,C)=>(if(eI .str ([99,108,97,115,115]:QX) B)=true then((eG D C p q v x j z u A).bind fun(bx:(Int×QQ×QK×XQ)⊕(Int×Int))=>match bx with
 | .inr (V,X)=>some (Sum.inr (Sum.inr (V,X)))
 | .inl (Y,Z,a1,a2)=>some (Sum.inl (Y,Z,p,q,a1,u,a2,v,x)))
 else(if(eI .str ([115,101,116]:QX) B)=true then((fq D C p q v x j z u A).bind fun(c1:(Int×XQ)⊕(Int×Int))=>match c1 with
 | .inr (a3,a4)=>some (Sum.inr (Sum.inr (a3,a4)))
 | .inl (a5,a6)=>some (Sum.inl (a5,j,p,q,z,u,a6,v,x)))
 else(if(eI .str ([106,111,105,110]:QX) B)=true then((eO D C p q v x j z u A).bind fun(c2:Z7⊕(Int×Int))=>match c2 with
 | .inr (a7,a8)=>some (Sum.inr (Sum.inr (a7,a8)))
 | .inl (a9,aa,ac)=>some (Sum.inl (a9,j,aa,ac,z,u,A,v,x)))
 else(if(eI .str ([116,114,101,97,116]:QX) B)=true then((eF D C p q v x j z u A).bind fun(c3:(Int×QK)⊕(Int×Int))=>match c3 with
 | .inr (ad,ax)=>some (Sum.inr (Sum.inr (ad,ax)))
 | .inl (b1,b2)=>some (Sum.inl (b1,j,p,q,b2,u,A,v,x)))
 else(if((bh .str (cN .str (cN .str (cN .str ([]:XQ) ([107,101,101,112]:QX) (0:Int)) ([109,97,121]:QX) (1:Int)) ([109,117,115,116]:QX) (2:Int)) B).isSome)=true then((eT ((bh .str (cN .str (cN .str (cN .str ([]:XQ) ([107,101,101,112]:QX) (0:Int)) ([109,97,121]:QX) (1:Int)) ([109,117,115,116]:QX) (2:Int)) B).getD 0) I D C p q v x j z u A).bind fun(c4:(Int×XJ×Int×Int)⊕(Int×Int))=>match c4 with
 | .inr (b3,b4)=>some (Sum.inr (Sum.inr (b3,b4)))
 | .inl (b5,b6,b7,b8)=>some (Sum.inl (b5,j,p,q,z,b6,A,b7,b8)))
 else((bc 21 I D C p q v x j z u A).bind fun(c5:(Unit)⊕(Int×Int))=>match c5 with
 | .inr (b9,be)=>some (Sum.inr (Sum.inr (b9,be)))
 | .inl _=>none)))))))
 else some (Sum.inr (Sum.inl (E,j,p,q,z,u,A,v,x)))))
def gI(E:QX)(I p3 p4 p5 p6:Int)(o1:XQ):Option (K6⊕(Int×Int)) :=
 ((iter (kA E) (I,([]:QQ),p3,p4,([]:QK),([]:XJ),o1,p5,p6)).bind fun(j:(K6⊕(Int×Int)))=>match j with
 | .inl (u,v20,v,x,z,A,B,C,D)=>some (Sum.inl (u,v20,v,x,z,A,B,C,D))
 | .inr ((p,q))=>some (Sum.inr (p,q)))
theorem gU{L:QX}{p2 p3 p4 p5 p6:Int}{o1:XQ}{M:K6⊕(Int×Int)}(h:gI L p2 p3 p4 p5 p6 o1=some M):
  iV Tryz.prog 86 [.adr 0 0 10 0] (MQ L p2 p3 p4 p5 p6 o1) (kd (fun(q:Int×QQ×Int×Int×QK×XJ×XQ×Int×Int)=>(.tup [],(LC L q.1 q.2.2.1 q.2.2.2.1 q.2.2.2.2.2.2.2.1 q.2.2.2.2.2.2.2.2 q.2.2.2.2.2.2.1 q.2.1 q.2.2.2.2.1 q.2.2.2.2.2.1))) (aW 72 .i64 .i64) M):=by
 refine DB Tryz.func86 (fun Bw w0=>?_);unfold gI at h;refine G (G (ak (kg h (fun(N,O,V,X,Y,Z,a1,a2,a3)=>aA [(0,.adr 0 0 10 0),(2,.mp 5),(3,.mp 6)] (Nj L N V X a2 a3 a1 O Y Z (cN .str (cN .str (cN .str ([]:XQ) ([107,101,101,112]:QX) (0:Int)) ([109,97,121]:QX) (1:Int)) ([109,117,115,116]:QX) (2:Int))) 7 2) (dy (fj Tryz.f86.ntmps 0 (fun(x,v20,z,A,B,C,D,E,I)=>aA [] (LC L x z A E I D v20 B C) 5 2)) (rS (aW 72 .i64 .i64))) (gg [.nilC 0 2 106 9 .str,.nilC 0 5 107 3 (.int .i64),.nilC 0 6 108 148 (.prod (.int .u8) Y8)] [0,1,106,107,108,2,58]) (fun y o h=>?_) (fun a4 h e σ' hq=>?_))))
 ·obtain⟨N,O,V,X,Y,Z,a1,a2,a3⟩:=y;unfold kA at h;refine af (af ?_);obtain⟨ad,a5,h⟩:=aj h;rcases ad with⟨bi,bs⟩ | ⟨bv,bx⟩
  ·refine mJ 1 [0,2,3,4,1] (aO a5) (ab (aC h (fun ax h=>?_) (fun ax h=>?_)))
   ·refine ae (ab (ak (af ?_)));obtain⟨b1,a6,h⟩:=aj h;rcases b1 with⟨j,c1,c2⟩ | ⟨c3,c4⟩
    ·refine mJ 1 [0,2,3,4,1] (bA a6) (ab (af ?_));rcases aM h with⟨p,h⟩ | ⟨p,h⟩
     ·refine bC ⟨[],[(2,⟨.unk,[],false,[],[0],[],none⟩)]⟩ [(2,2,oc (And.intro tt p))] (ab (G (tF rfl ?_)));obtain⟨b2,a7,h⟩:=aj h;rcases b2 with⟨c5,c6,c7,c8⟩ | ⟨c9,cc⟩
      ·refine mJ 2 [0,2,3,4,1] (ib a7) (ay ?_);exact eB h (gg [] [0,1,175,176,4,5,6])
      refine GX 2 [0,2,3,4,1] (ib a7) (fun _=>?_);obtain rfl:=sI h;refine bq (bY (aL ?_));exact rfl
     rcases aM h with⟨u,h⟩ | ⟨u,h⟩
     ·refine bC ⟨[],[(2,⟨.unk,[],false,[],[1],[],none⟩)]⟩ [(2,2,⟨True∧rF .str [(([99,108,97,115,115]:QX),(yB 98)),(([115,101,116]:QX),(yB 99)),(([106,111,105,110]:QX),(yB 100)),(([116,114,101,97,116]:QX),(yB 101))] j 1,⟨trivial,⟨p,u⟩⟩⟩)] (ab (G (tF rfl ?_)));obtain⟨b3,a8,h⟩:=aj h;rcases b3 with⟨ch,cp⟩ | ⟨cs,cx⟩
      ·refine mJ 2 [0,2,3,4,1] (ja a8) (ay ?_);exact eB h (gg [] [0,1,2,3,4,5,6])
      refine GX 2 [0,2,3,4,1] (ja a8) (fun _=>?_);obtain rfl:=sI h;refine bq (bY (aL ?_));exact rfl
     rcases aM h with⟨v,h⟩ | ⟨v,h⟩
     ·refine bC ⟨[],[(2,⟨.unk,[],false,[],[2],[],none⟩)]⟩ [(2,2,⟨True∧rF .str [(([99,108,97,115,115]:QX),(yB 98)),(([115,101,116]:QX),(yB 99)),(([106,111,105,110]:QX),(yB 100)),(([116,114,101,97,116]:QX),(yB 101))] j 2,⟨trivial,⟨p,⟨u,v⟩⟩⟩⟩)] (ab (G (tF rfl ?_)));obtain⟨b4,a9,h⟩:=aj h;rcases b4 with⟨d1,d2,d3⟩ | ⟨d4,d5⟩
      ·refine mJ 2 [0,2,3,4,1] (iF a9) (ay ?_);exact eB h (gg [] [0,1,2,3,4,5,6])
      refine GX 2 [0,2,3,4,1] (iF a9) (fun _=>?_);obtain rfl:=sI h;refine bq (bY (aL ?_));exact rfl
     rcases aM h with⟨J,h⟩ | ⟨J,h⟩
     ·refine bC ⟨[],[(2,⟨.unk,[],false,[],[3],[],none⟩)]⟩ [(2,2,⟨True∧rF .str [(([99,108,97,115,115]:QX),(yB 98)),(([115,101,116]:QX),(yB 99)),(([106,111,105,110]:QX),(yB 100)),(([116,114,101,97,116]:QX),(yB 101))] j 3,⟨trivial,⟨p,⟨u,⟨v,J⟩⟩⟩⟩⟩)] (ab (G (tF rfl ?_)));obtain⟨b5,aa,h⟩:=aj h;rcases b5 with⟨d6,d7⟩ | ⟨d8,d9⟩
      ·refine mJ 2 [0,2,3,4,1] (hU aa) (ay ?_);exact eB h (gg [] [0,1,2,3,4,5,6])
      refine GX 2 [0,2,3,4,1] (hU aa) (fun _=>?_);obtain rfl:=sI h;refine bq (bY (aL ?_));exact rfl
     refine bC ⟨[],[(2,⟨.unk,[],false,[],[4],[],none⟩)]⟩ [(2,2,⟨True∧rF .str [(([99,108,97,115,115]:QX),(yB 98)),(([115,101,116]:QX),(yB 99)),(([106,111,105,110]:QX),(yB 100)),(([116,114,101,97,116]:QX),(yB 101))] j 4,⟨trivial,⟨p,⟨u,⟨v,⟨J,trivial⟩⟩⟩⟩⟩⟩)] (ab (G (HF rfl (G (G (aC h (fun b6 h=>?_) (fun b6 h=>?_)))))))
     ·obtain⟨b7,ac,h⟩:=aj h;rcases b7 with⟨dd,de,di,dk⟩ | ⟨dm,ds⟩
      ·refine mJ 3 [0,2,3,4,1] (iI ac) (ay ?_);exact eB h (gg [] [0,1,2,3,255,5,6])
      refine GX 3 [0,2,3,4,1] (iI ac) (fun _=>?_);obtain rfl:=sI h;refine bq (bY (aL ?_));exact rfl
     obtain⟨b8,b9,h⟩:=aj h;rcases b8 with _ | ⟨dt,du⟩
     ·cases h
     refine GX 2 [0,2,3,4,1] (aX b9) (fun _=>?_);obtain rfl:=sI h;refine bq (bY (aL ?_));exact rfl
    refine GX 1 [0,2,3,4,1] (bA a6) (fun _=>?_);obtain rfl:=sI h;refine aE (bq (bY (aL ?_)));exact rfl
   refine av (aP ?_);obtain rfl:=sI h;refine dL (bk ?_);exact bS (gg [] [0,1,2,3,4])
  refine GX 1 [0,2,3,4,1] (aO a5) (fun _=>?_);obtain rfl:=sI h;refine aE (aE (bY (aL ?_)));exact rfl
 rcases a4 with⟨x,v20,z,A,B,C,D,E,I⟩ | ⟨e1,e2⟩
 ·obtain⟨rfl,be⟩:=hq;refine cF ?_ be;refine az ?_;obtain rfl:=sI h;exact(RO [] [] [0,1,2,3,4] [] (LC L x z A E I D v20 B C) 5 2).normal
 obtain rfl:=hq;refine bq ?_;obtain rfl:=sI h;exact rfl
theorem rB(j p:Int):qY Tryz.prog 84 [.adr 0 0 5 0,.adr 1 0 2 0] (LH 0 (0:Int) (0:Int) (0:Int)) (LH 0 (0:Int) j p) (aW 72 .i64 .i64 (j,p)):=by
 refine qY.jK (nx:=2) (pn:=2) Tryz.func84 rfl rfl rfl rfl rfl rfl rfl rfl (by kernel_rfl) rfl (fun Bw w0=>?_);have h:some ()=some ():=rfl;refine GN a0 [(1,1,⟨∃q,Tryz.prog.underlying 20=some (.interface q),⟨_,rfl⟩⟩)] (tF rfl (GN a0 [(1,1,⟨∃d,Tryz.prog.underlying 72=some d∧(match d with | .interface _=>false | _=>true)=true,⟨_,rfl,rfl⟩⟩)] (af (G (HF rfl (ae (ab (nf a0 [] ?_))))))));exact eN h (gg [] [0,1])
theorem sa:Kb Tryz.prog 84 2:=by
 intro j w u;obtain⟨v,x,rfl⟩:∃v x,j = #[v,x]:=by
  match q:j.toList with
  | [a,b]=>exact⟨a,b,Array.ext' q⟩
  | []=>have:=congrArg List.length q;simp[u]at this
  | [_]=>have:=congrArg List.length q;simp[u]at this
  | _::_::_::_=>have:=congrArg List.length q;simp[u]at this
 refine callsD_of_wpS Tryz.func84 rfl fun p z hu=>?_
 apply wpS_seq;apply wpS_region;simp[wpOpsS,go_sem,recoverD,hu,Tryz.ntmps84,Exit.thenS];apply wpS_seq;apply wpS_region;simp[wpOpsS,go_sem,Exit.thenS,Act.eval,Act.put];refine wpS_cond (t:=false) (by simp[Act.eval,Array.replicate]) ?_;simp only[Bool.false_eq_true,if_false];refine wpS_of_wp (wp_skip ?_);cases p;simp_all [bodyPostS,results,Tryz.results84]
def jM(j:QX):Option ((Kt×Int×Int)⊕(Int×Int)) :=
 (if(decide ((j.length:Int) > 4096))=true then((lZ 24 (4096:Int) j 0 (0:Int) (0:Int) (0:Int) (0:Int) ([]:XQ)).bind fun(z:(Unit)⊕(Int×Int))=>match z with
 | .inr (A,B)=>some (Sum.inr (A,B))
 | .inl _=>none)
 else((gI j 0 (0:Int) (0:Int) (0:Int) (0:Int) ([]:XQ)).bind fun(C:K6⊕(Int×Int))=>match C with
 | .inr (D,E)=>some (Sum.inr (D,E))
 | .inl (I,p,q,u,v,x,J,L,M)=>some (Sum.inl ((p,q,u,v,x),0,0))))
def oE:(Kt×Int×Int)⊕(Int×Int)→Kt×Int×Int
 | .inl x=>x
 | .inr e=>((([]:QQ),0,0,([]:QK),([]:XJ)),e.1,e.2)
def jZ(j:QX):Option (Kt×Int×Int):=(jM j).map oE
theorem uQ(j:QX)(v:(Kt×Int×Int)⊕(Int×Int))(h:jM j=some v):
  Pure Tryz.prog 59 [.st j] (aK (bd false (Km (fun(q:Kt×Int×Int)=>([⟨Kw,q.1⟩,⟨Y2,q.2⟩]:List (Σ T:Ty,T.den))) (fun(e:Int×Int)=>([⟨Kw,(([]:QQ),0,0,([]:QK),([]:XJ))⟩,⟨Y2,(e.1,e.2)⟩]:List (Σ T:Ty,T.den))) v))):=by
 refine Pure.Hf (args:=[.st j]) (gd:=84) (fnd:=Tryz.f84) (l:=[(0,.st j),(2,.adr 0 0 5 0),(3,.adr 1 0 2 0),(4,.adr 2 0 10 0)]) (m:=(N8 0 (0:Int) (0:Int) (0:Int) j 0 (0:Int) (0:Int) (0:Int) (0:Int) ([]:XQ))) (nx:=4) (s2:=5) (s3:=2) (lp:=[(2,.adr 0 0 5 0),(3,.adr 1 0 2 0)]) (mp:=(LH 0 (0:Int) (0:Int) (0:Int))) (nxp:=2) (fv:=aW 72 .i64 .i64) (hin:=(LH 0 (0:Int) (0:Int) (0:Int))) (hout:=fun e=>(LH 0 (0:Int) e.1 e.2)) (t2:=2) (t3:=3) (d:=9) iQ Tryz.func59 (by kernel_rfl) Tryz.func84 (by kernel_rfl) rfl rfl rfl rfl rfl rfl rfl rfl (nl rfl) rfl rfl (by decide) rfl rfl (by decide) (fun Bw w0=>?_) (fun Bw w0 D=>?_) sa (fun e=>rB e.1 e.2) (by kernel_rfl) (fun e=>by kernel_rfl) [Kw,Y2] (fun e=>by kernel_rfl)
 ·clear h;have h:some ()=some ():=rfl;refine Ge (ab (Ge ?_));exact eN h (gg [] [0,8,40,24])
 unfold jM at h;refine af (G (aC h (fun I h=>?_) (fun I h=>?_)))
 ·obtain⟨J,z,h⟩:=aj h;rcases J with _ | ⟨A,B⟩
  ·cases h
  have p:=(j9 z);refine Kj iQ ⟨[],[(1,(oD p [2,3]))]⟩ 1 (aW 72 .i64 .i64 (A,B)) [] [0,1] [(2,.adr 0 0 5 0),(3,.adr 1 0 2 0)] (LH 0 (0:Int) (0:Int) (0:Int)) 2 2 [True,jV Tryz.prog 85 [.adr 0 0 10 0,.i64 24,.i64 4096] (MQ j 0 (0:Int) (0:Int) (0:Int) (0:Int) ([]:XQ)) (aW 72 .i64 .i64 (A,B))] (by kernel_rfl) (by kernel_rfl) ⟨tt,(j9 z),tt⟩ (fun σ1 u=>aE ?_);obtain rfl:=sI h;exact⟨rfl,u⟩
 refine ae (ab (af ?_));obtain⟨L,x,h⟩:=aj h;rcases L with⟨M,N,O,V,X,Y,Z,a1,a2⟩ | ⟨C,E⟩
 ·refine mJ 1 [2,3] (gU x) (ab (G (lS [.frzC 0 0,.frzC 0 3,.frzC 0 4] (by kernel_rfl) (aw ?_))));obtain rfl:=sI h;exact⟨rfl,RI [Kw,Y2]⟩
 have p:=(gU x);refine Kj iQ ⟨[],[(1,(oD p [2,3]))]⟩ 1 (aW 72 .i64 .i64 (C,E)) [] [0,1] [(2,.adr 0 0 5 0),(3,.adr 1 0 2 0)] (LH 0 (0:Int) (0:Int) (0:Int)) 2 2 [True,jV Tryz.prog 86 [.adr 0 0 10 0] (MQ j 0 (0:Int) (0:Int) (0:Int) (0:Int) ([]:XQ)) (aW 72 .i64 .i64 (C,E))] (by kernel_rfl) (by kernel_rfl) ⟨tt,(gU x),tt⟩ (fun σ1 u=>aE ?_);obtain rfl:=sI h;exact⟨rfl,u⟩
theorem xp{j:QX}{p:Kt×Int×Int}(h:jZ j=some p):
  Pure Tryz.prog 59 [.st j] (aK (bd false [⟨Kw,p.1⟩,⟨Y2,p.2⟩])):=by
 unfold jZ at h;obtain⟨r,q,rfl⟩:=Option.map_eq_some_iff.1 h;have:=uQ  j r q;cases r with
 | inl x=>exact this
 | inr e=>exact this
def sH(x:Int)(p:XX)(j:Int→Int→XX→Option (Tree)):(XX×Int)→Option ((XX×Int)⊕XX):=fun(q,u) =>
 (if(decide (u<(p.length:Int)))=true then(if 0≤u∧u<(p.length:Int)then(((if(x == 2)=true then(if 0≤(i64.wrap ((i64.wrap ((p.length:Int) - 1)) - u))∧(i64.wrap ((i64.wrap ((p.length:Int) - 1)) - u))<(p.length:Int)then some (((p.getD ((i64.wrap ((i64.wrap ((p.length:Int) - 1)) - u)).toNat) (Tree.node 0 0 [])).op,(p.getD ((i64.wrap ((i64.wrap ((p.length:Int) - 1)) - u)).toNat) (Tree.node 0 0 [])).set,(p.getD ((i64.wrap ((i64.wrap ((p.length:Int) - 1)) - u)).toNat) (Tree.node 0 0 [])).kids))else none)
 else some (((p.getD u.toNat (Tree.node 0 0 [])).op,(p.getD u.toNat (Tree.node 0 0 [])).set,(p.getD u.toNat (Tree.node 0 0 [])).kids)))).bind fun(z,A,B)=>((j z A B).bind fun v =>
 (if(q.length+([(Tree.node v.op v.set v.kids)]:XX).length)*32≤140737488355328∧q.length+([(Tree.node v.op v.set v.kids)]:XX).length≤9223372036854775807 then some (Sum.inl ((q++([(Tree.node v.op v.set v.kids)]:XX)),(i64.wrap (u+1))))else none)))else none)
 else some (Sum.inr q))
def me(j:Int→Int→XX→Option (Tree))(q u:Int)(v:XX):Option (Tree) :=
 ((iter (sH q v j) (([]:XX),0)).bind fun p=>some (Tree.node q u p))
def kX:Nat→Int→Int→XX→Option (Tree)
 | 0=>fun _ _ _=>none
 | n+1=>me (kX n)
theorem wH(j:Int→Int→XX→Option (Tree))(q:∀(u:Bool) {z A:Int} {B:XX} {v:Tree},j z A B=some v→Pure Tryz.prog 87 [.agg [.u8 z,.u32 A,.p u (.slice (.tree .u8 .u32)) B]] (aK (bd false [⟨(.tree .u8 .u32),v⟩])))(u:Bool){z A:Int}{B:XX}{v:Tree}(h:me j z A B=some v):
  Pure Tryz.prog 87 [.agg [.u8 z,.u32 A,.p u (.slice (.tree .u8 .u32)) B]] (aK (bd false [⟨(.tree .u8 .u32),v⟩])):=by
 refine PB Tryz.func87 (fun Bw w0=>?_);unfold me at h;refine G (G (af (G (ak (cM h (fun(x,E)=>aA [(1,.adr 0 0 3 0),(2,.adr 1 0 3 0),(3,.adr 2 0 3 0),(13,.i64 (B.length:Int)),(14,.i64 E)] (M7 z A u B 0 (0:Int) z A x) 4) 0 (fun C=>aA [(2,.adr 0 0 3 0),(3,.adr 1 0 3 0)] (Na 0 (0:Int) z A C) 3) (gg [.nilC 56 2 104 146 (.tree .u8 .u32)] [0,8,56,104]) (fun y o h=>?_) (fun C h=>?_))))))
 ·obtain⟨x,E⟩:=y;unfold sH at h;refine G (af (aC h (fun O h=>?_) (fun O h=>?_)))
  ·refine ae (ab (af (ak (G (GC 3 h (fun h=>af (G (bz h (fun(J,L,M)=>aA [(1,.adr 0 0 3 0),(2,.adr 1 0 3 0),(3,.adr 2 0 3 0),(5,.adr 4 0 3 0),(13,.i64 (B.length:Int)),(14,.i64 E)] (M8 z A u B 0 (0:Int) z A x J L u M) 5) (fun N h=>?_) (fun N h=>?_)))))))))
   ·refine aC h (fun V h=>?_) (fun V h=>?_)
    ·refine xq 8 h (fun h=>?_);exact eN h (gg [] [0,1,2,3,68])
    exact ae (eN h (gg [] [0,1,2,3,68]))
   obtain⟨J,L,M⟩:=N;refine ab ?_;obtain⟨Y,X,h⟩:=aj h;obtain⟨I,h⟩:=aD h;have D:=(q u X);refine nf ⟨[],[(3,(oP D))]⟩ [(3,3,oc D),(5,5,oc I)] (ay (ab (Ge ?_)));exact eB h (gg [] [0,1,2,45])
  refine av (aP ?_);exact eX h (gg [] [1,2,3])
 refine az (ab (G (lS [.frzC 0 2] (by kernel_rfl) (aw ?_))));obtain rfl:=sI h;exact RI [(.tree .u8 .u32)]
theorem rE:∀(n:Nat) (j:Bool) {u v:Int} {x:XX} {q:Tree},kX n u v x=some q→Pure Tryz.prog 87 [.agg [.u8 u,.u32 v,.p j (.slice (.tree .u8 .u32)) x]] (aK (bd false [⟨(.tree .u8 .u32),q⟩]))
 | 0,_,_,_,_,_,h=>by cases h
 | n+1,j,u,v,x,q,h=>wH (kX n) (rE n) j h
def iv(j:Int)(x:Bool)(p q u v z A B C:Int):Option Z2 :=
 (if ¬(64:Int)=0 then(if 0≤(i64.wrap (Int.tdiv j 64))∧(i64.wrap (Int.tdiv j 64))<((4:Nat):Int)then(if ¬(64:Int)=0 then(if 0≤(Int.tmod j 64)then(if 0≤(i64.wrap (Int.tdiv j 64))∧(i64.wrap (Int.tdiv j 64))<((4:Nat):Int)then some ((if(i64.wrap (Int.tdiv j 64)).toNat=0 then(bitsOf .or .u64 (([p,q,u,v]:QK).getD ((i64.wrap (Int.tdiv j 64)).toNat) 0) (u64.wrap (1*2 ^ (min (Int.tmod j 64).toNat u64.bits))))else p),(if(i64.wrap (Int.tdiv j 64)).toNat=1 then(bitsOf .or .u64 (([p,q,u,v]:QK).getD ((i64.wrap (Int.tdiv j 64)).toNat) 0) (u64.wrap (1*2 ^ (min (Int.tmod j 64).toNat u64.bits))))else q),(if(i64.wrap (Int.tdiv j 64)).toNat=2 then(bitsOf .or .u64 (([p,q,u,v]:QK).getD ((i64.wrap (Int.tdiv j 64)).toNat) 0) (u64.wrap (1*2 ^ (min (Int.tmod j 64).toNat u64.bits))))else u),(if(i64.wrap (Int.tdiv j 64)).toNat=3 then(bitsOf .or .u64 (([p,q,u,v]:QK).getD ((i64.wrap (Int.tdiv j 64)).toNat) 0) (u64.wrap (1*2 ^ (min (Int.tmod j 64).toNat u64.bits))))else v))else none)else none)else none)else none)else none)
theorem qx{j:Int}{z:Bool}{q u v x A B C D:Int}{p:Int×Int×Int×Int}(h:iv j z q u v x A B C D=some p):
  jD Tryz.prog 109 [.adr 0 0 9 1,.i64 j] (KY z q u v x A B C D) (.tup []) (KY z p.1 p.2.1 p.2.2.1 p.2.2.2 A B C D):=by
 refine OB Tryz.func109 (fun Bw w0=>?_);unfold iv at h;obtain⟨E,I,J,L,h⟩:=g4 h;obtain⟨M,h⟩:=aD h;refine nf a0 [(2,2,oc E),(4,4,oc I),(7,7,oc J),(8,8,oc L),(11,11,oc M)] ?_;obtain rfl:=sI h;exact(RO [] [] [0] [] (KY z (if(i64.wrap (Int.tdiv j 64)).toNat=0 then(bitsOf .or .u64 (([q,u,v,x]:QK).getD ((i64.wrap (Int.tdiv j 64)).toNat) 0) (u64.wrap (1*2 ^ (min (Int.tmod j 64).toNat u64.bits))))else q) (if(i64.wrap (Int.tdiv j 64)).toNat=1 then(bitsOf .or .u64 (([q,u,v,x]:QK).getD ((i64.wrap (Int.tdiv j 64)).toNat) 0) (u64.wrap (1*2 ^ (min (Int.tmod j 64).toNat u64.bits))))else u) (if(i64.wrap (Int.tdiv j 64)).toNat=2 then(bitsOf .or .u64 (([q,u,v,x]:QK).getD ((i64.wrap (Int.tdiv j 64)).toNat) 0) (u64.wrap (1*2 ^ (min (Int.tmod j 64).toNat u64.bits))))else v) (if(i64.wrap (Int.tdiv j 64)).toNat=3 then(bitsOf .or .u64 (([q,u,v,x]:QK).getD ((i64.wrap (Int.tdiv j 64)).toNat) 0) (u64.wrap (1*2 ^ (min (Int.tmod j 64).toNat u64.bits))))else x) A B C D) 1 1).normal
def gH(p q u v j:Int):Option (Bool) :=
 (if ¬(64:Int)=0 then(if 0≤(i64.wrap (Int.tdiv j 64))∧(i64.wrap (Int.tdiv j 64))<((4:Nat):Int)then(if ¬(64:Int)=0 then(if 0≤(Int.tmod j 64)then some ((bitsOf .and .u64 (Int.fdiv (([p,q,u,v]:QK).getD ((i64.wrap (Int.tdiv j 64)).toNat) 0) (2 ^ (min (Int.tmod j 64).toNat u64.bits))) (1:Int)) == 1)else none)else none)else none)else none)
theorem iu{p q u v x:Int}{j:Bool}(h:gH p q u v x=some j):
  Pure Tryz.prog 107 [.agg [.u64 p,.u64 q,.u64 u,.u64 v],.i64 x] (aK (bd false [⟨.bool,j⟩])):=by
 refine PB Tryz.func107 (fun Bw w0=>?_);unfold gH at h;refine G ?_;obtain⟨z,A,B,C,h⟩:=g4 h;refine GN a0 [(1,1,oc z),(2,2,oc A),(5,5,oc B),(6,6,oc C)] (aw ?_);obtain rfl:=sI h;exact RI [.bool]
def oW(o1 o2 o3 o4:Int):(Int×Int×Int×Int×Int)→Option ((Int×Int×Int×Int×Int)⊕Z2):=fun(v,p,q,u,j) =>
 (if(decide (j<4))=true then(if 0≤j∧j<((4:Nat):Int)then(if 0≤j∧j<((4:Nat):Int)then(if 0≤j∧j<((4:Nat):Int)then some (Sum.inl ((if j.toNat=0 then(bitsOf .or .u64 (([v,p,q,u]:QK).getD j.toNat 0) (([o1,o2,o3,o4]:QK).getD j.toNat 0))else v),(if j.toNat=1 then(bitsOf .or .u64 (([v,p,q,u]:QK).getD j.toNat 0) (([o1,o2,o3,o4]:QK).getD j.toNat 0))else p),(if j.toNat=2 then(bitsOf .or .u64 (([v,p,q,u]:QK).getD j.toNat 0) (([o1,o2,o3,o4]:QK).getD j.toNat 0))else q),(if j.toNat=3 then(bitsOf .or .u64 (([v,p,q,u]:QK).getD j.toNat 0) (([o1,o2,o3,o4]:QK).getD j.toNat 0))else u),(i64.wrap (j+1))))else none)else none)else none)
 else some (Sum.inr (v,p,q,u)))
def cZ(v x z A o1 o2 o3 o4:Int):Option Z2 :=
 ((iter (oW o1 o2 o3 o4) (v,x,z,A,0)).bind fun(j,p,q,u)=>some (j,p,q,u))
theorem cS{E I J L o1 o2 o3 o4:Int}{j:Int×Int×Int×Int}(h:cZ E I J L o1 o2 o3 o4=some j):
  Pure Tryz.prog 106 [.agg [.u64 E,.u64 I,.u64 J,.u64 L],.agg [.u64 o1,.u64 o2,.u64 o3,.u64 o4]] (aK (bd false [⟨mv,j⟩])):=by
 refine PB Tryz.func106 (fun Bw w0=>?_);unfold cZ at h;refine G (af (G (ak (cM h (fun(M,p,q,u,N)=>aA [(2,.adr 0 0 4 0),(3,.adr 1 0 4 0),(4,.adr 2 0 4 0),(6,.i64 N)] (Nq M p q u o1 o2 o3 o4 0 (0:Int) (0:Int) (0:Int)) 3) 0 (fun(v,x,z,A)=>aA [(2,.adr 0 0 4 0),(4,.adr 1 0 4 0)] (Md v x z A 0 (0:Int) (0:Int) (0:Int)) 2) (gg [] [0,8,16]) (fun y o h=>?_) (fun O h=>?_)))))
 ·obtain⟨M,p,q,u,N⟩:=y;unfold oW at h;refine G (af (aC h (fun V h=>?_) (fun V h=>?_)))
  ·refine ae (ab (af (ak (G ?_))));obtain⟨B,C,D,h⟩:=g3 h;refine nf a0 [(1,1,oc B),(4,4,oc C),(7,7,oc D)] (ay (ab (Ge ?_)));exact eB h (gg [] [0,1,2])
  refine av (aP ?_);exact eX h (gg [] [0,2])
 obtain⟨v,x,z,A⟩:=O;refine az (ab (G (aw ?_)));obtain rfl:=sI h;exact RI [mv]
def jr(q u v x z A B C:Int)(o2:Qj):(Qj×Int)→Option ((Qj×Int)⊕Qj):=fun(j,v6) =>
 (if(decide (v6<(o2.length:Int)))=true then((gH q u v x v6).bind fun D =>
 (((if D=true then(if 0≤v6∧v6<(j.length:Int)then(if v6.toNat<j.length then((cZ ((j.getD v6.toNat (0,0,0,0)).1) ((j.getD v6.toNat (0,0,0,0)).2.1) ((j.getD v6.toNat (0,0,0,0)).2.2.1) ((j.getD v6.toNat (0,0,0,0)).2.2.2) z A B C).bind fun p =>
 (if 0≤v6∧v6<(j.length:Int)then(if v6.toNat<j.length then some ((j.set v6.toNat (p.1,p.2.1,p.2.2.1,p.2.2.2)))else none)else none))else none)else none)
 else some (j))).bind fun E=>some (Sum.inl (E,(i64.wrap (v6+1))))))
 else some (Sum.inr j))
def ee(j p q u v x z A:Int)(C:Bool)(o1:QK)(o2:Qj):Option Qj :=
 ((iter (jr j p q u v x z A o2) (o2,0)).bind fun B=>some B)
theorem ju{j p q u v x z A:Int}{B:Bool}{o1:QK}{o2 D:Qj}(h:ee j p q u v x z A B o1 o2=some D):
  jD Tryz.prog 128 [.adr 0 0 3 0,.agg [.u64 j,.u64 p,.u64 q,.u64 u],.agg [.u64 v,.u64 x,.u64 z,.u64 A]] (Dm B o1 o2) (.tup []) (Dm B o1 D):=by
 refine OB Tryz.func128 (fun Bw w0=>?_);unfold ee at h;refine G (G (ak (cM h (fun(E,v6)=>aA [(0,.adr 0 0 3 0),(4,.adr 3 0 4 0),(5,.adr 4 0 4 0),(11,.i64 (o2.length:Int)),(12,.i64 v6)] (MG B o1 E j p q u v x z A) 5 3) 0 (fun J=>aA [] (Dm B o1 J) 3 3) (gg [] [0,1,2,3,11]) (fun y o h=>?_) (fun J h=>?_))))
 ·obtain⟨E,v6⟩:=y;unfold jr at h;refine G (af (aC h (fun L h=>?_) (fun L h=>?_)))
  ·refine ae (ab (af (ak (G ?_))));obtain⟨a1,M,h⟩:=aj h;refine GP 2 (iu M) (bz h (fun C=>aA [(0,.adr 0 0 3 0),(4,.adr 3 0 4 0),(5,.adr 4 0 4 0),(11,.i64 (o2.length:Int)),(12,.i64 v6)] (MG B o1 C j p q u v x z A) 5 3) (fun C h=>?_) (fun C h=>?_))
   ·refine aC h (fun N h=>?_) (fun N h=>?_)
    ·obtain⟨O,V,h⟩:=g2 h;obtain⟨a2,X,h⟩:=aj h;obtain⟨Y,Z,h⟩:=g2 h;have I:=(cS X);exact nf ⟨[],[(13,(oP I))]⟩ [(10,10,oc O),(11,11,oc V),(13,13,oc I),(14,14,oc Y),(15,15,oc Z)] (eN h (gg [] [0,1,2,3,4]))
    exact ae (eN h (gg [] [0,1,2,3,4]))
   refine ay (ab (Ge ?_));exact eB h (gg [] [0,1,2,3,4])
  refine av (aP ?_);exact eX h (gg [] [0,1,2])
 refine az ?_;obtain rfl:=sI h;exact(RO [] [] [0,1,2] [] (Dm B o1 J) 3 3).normal
def kC(N:XX)(p:Int→Int→XX→Bool→QK→Qj→Option (Z9×QK×Qj×Bool)):(QK×Qj×Bool×Bool×Int×Int×Int×Int×Int×Int×Int×Int×Int)→Option ((QK×Qj×Bool×Bool×Int×Int×Int×Int×Int×Int×Int×Int×Int)⊕(Bool×Int×Int×Int×Int×Int×Int×Int×Int×QK×Qj×Bool)):=fun(O,V,X,x,z,A,B,C,D,E,I,J,q) =>
 (if(decide (q<(N.length:Int)))=true then(if 0≤q∧q<(N.length:Int)then((p ((N.getD q.toNat (Tree.node 0 0 [])).op) ((N.getD q.toNat (Tree.node 0 0 [])).set) ((N.getD q.toNat (Tree.node 0 0 [])).kids) X O V).bind fun(j,L,Y,M) =>
 ((ee D E I J j.2.1.1 j.2.1.2.1 j.2.1.2.2.1 j.2.1.2.2.2 M L Y).bind fun Z =>
 (((if x=true then((cZ z A B C j.2.1.1 j.2.1.2.1 j.2.1.2.2.1 j.2.1.2.2.2).bind fun u =>
 some ((u.1,u.2.1,u.2.2.1,u.2.2.2)))
 else some ((z,A,B,C)))).bind fun(a1,a2,a3,a4)=>(((if j.1=true then((cZ j.2.2.1 j.2.2.2.1 j.2.2.2.2.1 j.2.2.2.2.2 D E I J).bind fun v =>
 some ((v.1,v.2.1,v.2.2.1,v.2.2.2)))
 else some ((j.2.2.1,j.2.2.2.1,j.2.2.2.2.1,j.2.2.2.2.2)))).bind fun(a5,a6,a7,a8)=>(((if x=true then some (j.1)
 else some (false))).bind fun a9=>some (Sum.inl (L,Z,M,a9,a1,a2,a3,a4,a5,a6,a7,a8,(i64.wrap (q+1)))))))))else none)
 else some (Sum.inr (x,z,A,B,C,D,E,I,J,O,V,X)))
def kE(N:XX)(p:Int→Int→XX→Bool→QK→Qj→Option (Z9×QK×Qj×Bool)):(QK×Qj×Bool×Bool×Int×Int×Int×Int×Int×Int×Int×Int×Int)→Option ((QK×Qj×Bool×Bool×Int×Int×Int×Int×Int×Int×Int×Int×Int)⊕(Bool×Int×Int×Int×Int×Int×Int×Int×Int×QK×Qj×Bool)):=fun(O,V,X,M,A,B,C,D,E,I,J,L,q) =>
 (if(decide (q<(N.length:Int)))=true then(if 0≤q∧q<(N.length:Int)then((p ((N.getD q.toNat (Tree.node 0 0 [])).op) ((N.getD q.toNat (Tree.node 0 0 [])).set) ((N.getD q.toNat (Tree.node 0 0 [])).kids) X O V).bind fun(j,Y,Z,a1) =>
 (((if M=true then((cZ A B C D j.2.1.1 j.2.1.2.1 j.2.1.2.2.1 j.2.1.2.2.2).bind fun u =>
 ((cZ E I J L j.2.2.1 j.2.2.2.1 j.2.2.2.2.1 j.2.2.2.2.2).bind fun v =>
 some ((true,u.1,u.2.1,u.2.2.1,u.2.2.2,v.1,v.2.1,v.2.2.1,v.2.2.2))))
 else((cZ A B C D j.2.1.1 j.2.1.2.1 j.2.1.2.2.1 j.2.1.2.2.2).bind fun x =>
 ((cZ E I J L j.2.2.1 j.2.2.2.1 j.2.2.2.2.1 j.2.2.2.2.2).bind fun z =>
 some ((j.1,x.1,x.2.1,x.2.2.1,x.2.2.2,z.1,z.2.1,z.2.2.1,z.2.2.2)))))).bind fun(a2,a3,a4,a5,a6,a7,a8,a9,aa)=>some (Sum.inl (Y,Z,a1,a2,a3,a4,a5,a6,a7,a8,a9,aa,(i64.wrap (q+1))))))else none)
 else some (Sum.inr (M,A,B,C,D,E,I,J,L,O,V,X)))
def fM(j:Int→Int→XX→Bool→QK→Qj→Option (Z9×QK×Qj×Bool))(q i2:Int)(M:XX)(N:Bool)(o1:QK)(o2:Qj):Option (Z9×QK×Qj×Bool) :=
 (if(q == 1)=true then(if(decide ((o1.length:Int)≥200))=true then some ((false,(0,0,0,0),0,0,0,0),o1,o2,true)
 else((iv (o1.length:Int) false 0 (0:Int) (0:Int) (0:Int) (0:Int) (0:Int) (0:Int) (0:Int)).bind fun(u,v,x,z) =>
 (if(o1.length+([i2]:QK).length)*4≤140737488355328∧o1.length+([i2]:QK).length≤9223372036854775807 then(if(o2.length+([(0,0,0,0)]:Qj).length)*32≤140737488355328∧o2.length+([(0,0,0,0)]:Qj).length≤9223372036854775807 then some ((false,(u,v,x,z),u,v,x,z),(o1++([i2]:QK)),(o2++([(0,0,0,0)]:Qj)),N)else none)else none)))
 else(if(q == 2)=true then((iter (kC M j) (o1,o2,N,true,0,0,0,0,0,0,0,0,0)).bind fun(O,V,X,Y,Z,a1,a2,a3,a4,a5,a6,a7)=>some ((O,(V,X,Y,Z),a1,a2,a3,a4),a5,a6,a7))
 else(if(q == 3)=true then((iter (kE M j) (o1,o2,N,false,0,0,0,0,0,0,0,0,0)).bind fun(a8,a9,aa,ac,ad,ax,b1,b2,b3,b4,b5,b6)=>some ((a8,(a9,aa,ac,ad),ax,b1,b2,b3),b4,b5,b6))
 else(((if(q == 4)=true then some ((q == 4))
 else(if(q == 5)=true then some ((q == 5))
 else some ((q == 6))))).bind fun b7=>(if b7=true then(((if(decide ((M.length:Int) > 0))=true then(if 0≤(0:Int)∧0<(M.length:Int)then((j ((M.getD ((0:Int).toNat) (Tree.node 0 0 [])).op) ((M.getD ((0:Int).toNat) (Tree.node 0 0 [])).set) ((M.getD ((0:Int).toNat) (Tree.node 0 0 [])).kids) N o1 o2).bind fun(p,b8,b9,be) =>
 some ((b8,b9,be,p.1,p.2.1.1,p.2.1.2.1,p.2.1.2.2.1,p.2.1.2.2.2,p.2.2.1,p.2.2.2.1,p.2.2.2.2.1,p.2.2.2.2.2)))else none)
 else some ((o1,o2,N,false,0,0,0,0,0,0,0,0)))).bind fun(bi,bs,bv,bx,A,B,C,D,E,I,J,L)=>(((if(q != 6)=true then((ee E I J L A B C D bv bi bs).bind fun c1 =>
 some (c1))
 else some (bs))).bind fun c2=>(((if bx=true then some (true)
 else some ((q != 5)))).bind fun c3=>some ((c3,(A,B,C,D),E,I,J,L),bi,c2,bv))))
 else some ((true,(0,0,0,0),0,0,0,0),o1,o2,N))))))
def dX:Nat→Int→Int→XX→Bool→QK→Qj→Option (Z9×QK×Qj×Bool)
 | 0=>fun _ _ _ _ _ _=>none
 | n+1=>fM (dX n)
theorem oy(q:Int→Int→XX→Bool→QK→Qj→Option (Z9×QK×Qj×Bool))(j:∀(x:Bool) {i1 i2:Int} {z:XX} {d1:Bool} {o1:QK} {o2:Qj} {u:Z9×QK×Qj×Bool},q i1 i2 z d1 o1 o2=some u→jD Tryz.prog 105 [.adr 0 0 3 0,.agg [.u8 i1,.u32 i2,.p x (.slice (.tree .u8 .u32)) z]] (Dm d1 o1 o2) (.agg [.bo u.1.1,.u64 u.1.2.1.1,.u64 u.1.2.1.2.1,.u64 u.1.2.1.2.2.1,.u64 u.1.2.1.2.2.2,.u64 u.1.2.2.1,.u64 u.1.2.2.2.1,.u64 u.1.2.2.2.2.1,.u64 u.1.2.2.2.2.2]) (Ky u.2.2.2 u.2.1 u.2.2.1))(x:Bool){i1 i2:Int}{z:XX}{d1:Bool}{o1:QK}{o2:Qj}{u:Z9×QK×Qj×Bool}(h:fM q i1 i2 z d1 o1 o2=some u):
  jD Tryz.prog 105 [.adr 0 0 3 0,.agg [.u8 i1,.u32 i2,.p x (.slice (.tree .u8 .u32)) z]] (Dm d1 o1 o2) (.agg [.bo u.1.1,.u64 u.1.2.1.1,.u64 u.1.2.1.2.1,.u64 u.1.2.1.2.2.1,.u64 u.1.2.1.2.2.2,.u64 u.1.2.2.1,.u64 u.1.2.2.2.1,.u64 u.1.2.2.2.2.1,.u64 u.1.2.2.2.2.2]) (Ky u.2.2.2 u.2.1 u.2.2.1):=by
 refine OB Tryz.func105 (fun Bw w0=>?_);unfold fM at h;refine G (af (G (ak (G (aC h (fun g5 h=>?_) (fun g5 h=>?_))))))
 ·refine af (G (aC h (fun g6 h=>?_) (fun g6 h=>?_)))
  ·refine G (G (aw (ah (au (ah ?_)))));obtain rfl:=sI h;exact RO [some Bd] [] [0,1,2,1,2,11] [(4,.adr 5 0 9 0)] (Fu true o1 o2 false 0 (0:Int) (0:Int) (0:Int) (0:Int) (0:Int) (0:Int) (0:Int)) 6 3
  refine ae (ab (G ?_));obtain⟨⟨d8,d9,dd,de⟩,g7,h⟩:=aj h;refine GO 6 [99] (qx g7) (G ?_);obtain⟨g8,h⟩:=aD h;refine GD a0 [(8,8,oc g8)] (GC 7 h (fun h=>G (aw (au (ah ?_)))));obtain rfl:=sI h;exact RO [some Bd] [] [0,1,2,259,347,11] [(4,.adr 5 0 9 0)] (Fu d1 (o1++([i2]:QK)) (o2++([(0,0,0,0)]:Qj)) false d8 d9 dd de d8 d9 dd de) 6 3
 refine G (aC h (fun g9 h=>?_) (fun g9 h=>?_))
 ·refine G (af (G (ak (cM h (fun(ep,er,es,V,di,dk,dm,ds,X,Y,Z,a1,A)=>aA [(0,.adr 0 0 3 0),(4,.adr 5 0 9 0),(6,.adr 6 0 9 0),(65,.p x (.slice (.tree .u8 .u32)) z),(66,.i64 (z.length:Int)),(67,.i64 A)] (IQ es ep er false 0 (0:Int) (0:Int) (0:Int) (0:Int) (0:Int) (0:Int) (0:Int) V di dk dm ds X Y Z a1) 7 3) 1 (fun(a8,a9,aa,ac,ad,ax,b1,b2,b3,b4,b5,b6)=>aA [(4,.adr 3 0 9 0),(6,.adr 4 0 9 0)] (KJ b6 false 0 (0:Int) (0:Int) (0:Int) (0:Int) (0:Int) (0:Int) (0:Int) a8 a9 aa ac ad ax b1 b2 b3 b4 b5) 7 3) (gg [] [0,1,2,1,2,11,75]) (fun y o h=>?_) (fun et h=>?_)))))
  ·obtain⟨ep,er,es,V,di,dk,dm,ds,X,Y,Z,a1,A⟩:=y;unfold kC at h;refine G (af (aC h (fun gb h=>?_) (fun gb h=>?_)))
   ·refine ae (ab (af (ak (GC 0 h (fun h=>?_)))));obtain⟨⟨v,b7,h5,b8⟩,eu,h⟩:=aj h;refine GO 2 [0,3,4] (j x eu) ?_;obtain⟨b9,ew,h⟩:=aj h;refine GO 5 [0,63,64] (ju ew) (af (G (bz h (fun(a2,a3,a4,a5)=>aA [(0,.adr 0 0 3 0),(4,.adr 5 0 9 0),(6,.adr 6 0 9 0),(9,.adr 7 0 9 0),(65,.p x (.slice (.tree .u8 .u32)) z),(66,.i64 (z.length:Int)),(67,.i64 A)] (L1 b8 b7 b9 false 0 (0:Int) (0:Int) (0:Int) (0:Int) (0:Int) (0:Int) (0:Int) V a2 a3 a4 a5 X Y Z a1 v.1 v.2.1.1 v.2.1.2.1 v.2.1.2.2.1 v.2.1.2.2.2 v.2.2.1 v.2.2.2.1 v.2.2.2.2.1 v.2.2.2.2.2) 8 3) (fun dt h=>?_) (fun dt h=>?_))))
    ·refine aC h (fun gd h=>?_) (fun gd h=>?_)
     ·obtain⟨h6,ey,h⟩:=aj h;exact MR 4 (cS ey) (eN h (gg [] [0,1,2,63,64,5,6,71]))
     exact ae (eN h (gg [] [0,1,2,63,64,5,6,71]))
    obtain⟨a2,a3,a4,a5⟩:=dt;refine ab (af (G (bz h (fun(be,bi,bs,bv)=>aA [(0,.adr 0 0 3 0),(4,.adr 5 0 9 0),(6,.adr 6 0 9 0),(9,.adr 7 0 9 0),(65,.p x (.slice (.tree .u8 .u32)) z),(66,.i64 (z.length:Int)),(67,.i64 A)] (L1 b8 b7 b9 false 0 (0:Int) (0:Int) (0:Int) (0:Int) (0:Int) (0:Int) (0:Int) V a2 a3 a4 a5 X Y Z a1 v.1 v.2.1.1 v.2.1.2.1 v.2.1.2.2.1 v.2.1.2.2.2 be bi bs bv) 8 3) (fun du h=>?_) (fun du h=>?_))))
    ·refine aC h (fun gi h=>?_) (fun gi h=>?_)
     ·obtain⟨h7,f1,h⟩:=aj h;exact MR 4 (cS f1) (eN h (gg [] [0,1,2,3,4,5,6,7]))
     exact ae (eN h (gg [] [0,1,2,3,4,5,6,7]))
    obtain⟨be,bi,bs,bv⟩:=du;refine ab (bz h (fun bx=>aA [(0,.adr 0 0 3 0),(4,.adr 5 0 9 0),(6,.adr 6 0 9 0),(65,.p x (.slice (.tree .u8 .u32)) z),(66,.i64 (z.length:Int)),(67,.i64 A)] (IQ b8 b7 b9 false 0 (0:Int) (0:Int) (0:Int) (0:Int) (0:Int) (0:Int) (0:Int) bx a2 a3 a4 a5 be bi bs bv) 7 3) (fun bx h=>?_) (fun bx h=>?_))
    ·rcases aM h with⟨d6,h⟩ | ⟨d6,h⟩
     ·exact nf ⟨[(2,true),(5,true)],[]⟩ [(3,4,an d6),(5,5,oc d6)] (eN h (gg [] [0,1,2,3,4,5,6]))
     exact nf ⟨[(2,false),(5,false)],[]⟩ [(3,5,oc d6)] (eN h (gg [] [0,1,2,3,4,5,6]))
    refine ay (ab (Ge ?_));exact eB h (gg [] [0,1,2,3,4,5,6])
   refine av (aP ?_);exact eX h (gg [] [0,1,2,5,6,3,4])
  obtain⟨a8,a9,aa,ac,ad,ax,b1,b2,b3,b4,b5,b6⟩:=et;refine az (ab (G (aw (au (ah ?_)))));obtain rfl:=sI h;exact RO [some Bd] [] [0,1,2,5,6,3] [(4,.adr 5 0 9 0)] (Fu b6 b4 b5 a8 a9 aa ac ad ax b1 b2 b3) 6 3
 refine G (aC h (fun gj h=>?_) (fun gj h=>?_))
 ·refine G (af (G (ak (cM h (fun(f2,f3,f4,e1,e2,e3,e4,e5,e6,e7,e8,e9,c1)=>aA [(0,.adr 0 0 3 0),(4,.adr 5 0 9 0),(10,.adr 6 0 9 0),(111,.p x (.slice (.tree .u8 .u32)) z),(112,.i64 (z.length:Int)),(113,.i64 c1)] (IQ f4 f2 f3 false 0 (0:Int) (0:Int) (0:Int) (0:Int) (0:Int) (0:Int) (0:Int) e1 e2 e3 e4 e5 e6 e7 e8 e9) 7 3) 3 (fun(c2,c3,c4,c5,c6,c7,c8,c9,cc,ch,cp,cs)=>aA [(4,.adr 3 0 9 0),(10,.adr 4 0 9 0)] (KJ cs false 0 (0:Int) (0:Int) (0:Int) (0:Int) (0:Int) (0:Int) (0:Int) c2 c3 c4 c5 c6 c7 c8 c9 cc ch cp) 7 3) (gg [] [0,1,2,1,2,11,83]) (fun y o h=>?_) (fun f5 h=>?_)))))
  ·obtain⟨f2,f3,f4,e1,e2,e3,e4,e5,e6,e7,e8,e9,c1⟩:=y;unfold kE at h;refine G (af (aC h (fun gp h=>?_) (fun gp h=>?_)))
   ·refine ae (ab (af (ak (GC 0 h (fun h=>?_)))));obtain⟨⟨h8,f6,f7,f8⟩,f9,h⟩:=aj h;refine GO 2 [0,3,4] (j x f9) (bz h (fun(ea,eb,ec,ed,ef,eh,ei,ej,ek)=>aA [(0,.adr 0 0 3 0),(4,.adr 5 0 9 0),(10,.adr 6 0 9 0),(111,.p x (.slice (.tree .u8 .u32)) z),(112,.i64 (z.length:Int)),(113,.i64 c1)] (IQ f8 f6 f7 false 0 (0:Int) (0:Int) (0:Int) (0:Int) (0:Int) (0:Int) (0:Int) ea eb ec ed ef eh ei ej ek) 7 3) (fun el h=>?_) (fun el h=>?_))
    ·rcases aM h with⟨d7,h⟩ | ⟨d7,h⟩
     ·obtain⟨h9,fa,h⟩:=aj h;obtain⟨he,fd,h⟩:=aj h;have B:=(cS fa);have cx:=(cS fd);exact nf ⟨[(2,true),(5,true)],[(10,(oP B)),(15,(oP cx))]⟩ [(3,5,oc d7),(10,10,oc B),(15,15,oc cx)] (eN h (gg [] [0,1,2,63,64,5,6]))
     obtain⟨hg,fi,h⟩:=aj h;obtain⟨hh,fo,h⟩:=aj h;have B:=(cS fi);have cx:=(cS fo);exact nf ⟨[(2,false),(5,false)],[(10,(oP B)),(15,(oP cx))]⟩ [(3,4,an d7),(5,5,oc d7),(10,10,oc B),(15,15,oc cx)] (eN h (gg [] [0,1,2,63,64,5,6]))
    obtain⟨ea,eb,ec,ed,ef,eh,ei,ej,ek⟩:=el;refine ay (ab (Ge ?_));exact eB h (gg [] [0,1,2,3,4,5,6])
   refine av (aP ?_);exact eX h (gg [] [0,1,2,5,6,3,4])
  obtain⟨c2,c3,c4,c5,c6,c7,c8,c9,cc,ch,cp,cs⟩:=f5;refine az (ab (G (aw (au (ah ?_)))));obtain rfl:=sI h;exact RO [some Bd] [] [0,1,2,5,6,3] [(4,.adr 5 0 9 0)] (Fu cs ch cp c2 c3 c4 c5 c6 c7 c8 c9 cc) 6 3
 refine af (G (bz h (fun d2=>aA [(0,.adr 0 0 3 0),(3,.adr 3 0 3 0),(4,.adr 4 0 9 0),(139,.bo d2)] (NH d1 o1 o2 i1 i2 x z false 0 (0:Int) (0:Int) (0:Int) (0:Int) (0:Int) (0:Int) (0:Int)) 5 3) (fun d2 h=>?_) (fun d2 h=>?_)))
 ·refine aC h (fun gs h=>?_) (fun gs h=>?_)
  ·exact ae (eN h (gg [] [0,1,2,3,11]))
  refine G (aC h (fun h3 h=>?_) (fun h3 h=>?_))
  ·exact ae (eN h (gg [] [0,1,2,3,11]))
  exact Ge (eN h (gg [] [0,1,2,3,11]))
 refine ab (aC h (fun fr h=>?_) (fun fr h=>?_))
 ·refine G (af (G (bz h (fun(d3,fs,d4,d5,C,D,E,I,J,L,M,N)=>aA [(0,.adr 0 0 3 0),(3,.adr 5 0 3 0),(4,.adr 6 0 9 0),(14,.adr 7 0 9 0)] (NI d4 d3 fs i1 i2 x z false 0 (0:Int) (0:Int) (0:Int) (0:Int) (0:Int) (0:Int) (0:Int) d5 C D E I J L M N) 8 3) (fun eo h=>?_) (fun eo h=>?_))))
  ·refine aC h (fun ft h=>?_) (fun ft h=>?_)
   ·obtain⟨h4,h⟩:=aD h;obtain⟨⟨hj,ho,hq,hr⟩,fv,h⟩:=aj h;have B:=(j x fv);exact bC ⟨[],[(5,(oO B [0,1,2]))]⟩ [(3,3,oc h4),(5,5,oc B)] (eN h (gg [] [0,1,2,85,86,3,4,5]))
   exact ae (eN h (gg [] [0,1,2,1,2,3,4,5]))
  obtain⟨d3,fs,d4,d5,C,D,E,I,J,L,M,N⟩:=eo;refine ab (af (G (bz h (fun O=>aA [(3,.adr 3 0 3 0),(4,.adr 4 0 9 0),(14,.adr 5 0 9 0)] (M6 d4 i1 i2 x z false 0 (0:Int) (0:Int) (0:Int) (0:Int) (0:Int) (0:Int) (0:Int) d5 C D E I J L M N d3 O) 8 3) (fun O h=>?_) (fun O h=>?_))))
  ·refine aC h (fun fw h=>?_) (fun fw h=>?_)
   ·obtain⟨hs,g1,h⟩:=aj h;exact mJ 5 [0,3,4] (ju g1) (eN h (gg [] [0,1,2,5,6,7,3,4]))
   exact ae (eN h (gg [] [0,1,2,5,6,7,3,4]))
  refine ab (af (bz h (fun a6=>aA [(4,.adr 3 0 9 0),(14,.adr 4 0 9 0)] (KJ d4 false 0 (0:Int) (0:Int) (0:Int) (0:Int) (0:Int) (0:Int) (0:Int) a6 C D E I J L M N d3 O) 7 3) (fun a6 h=>?_) (fun a6 h=>?_)))
  ·rcases aM h with⟨a7,h⟩ | ⟨a7,h⟩
   ·exact bC ⟨[(2,true),(6,true)],[]⟩ [(3,6,oc a7)] (eN h (gg [] [0,1,2,4,5,6,7]))
   exact bC ⟨[(2,false),(6,false)],[]⟩ [(3,5,an a7),(6,6,oc a7)] (eN h (gg [] [0,1,2,4,5,6,7]))
  refine ab (G (aw (au (ah ?_))));obtain rfl:=sI h;exact RO [some Bd] [] [0,1,2,5,6,3] [(4,.adr 5 0 9 0)] (Fu d4 d3 O a6 C D E I J L M N) 6 3
 refine ae (ay (ab (G (aw ?_))));obtain rfl:=sI h;exact RO [some Bd] [] [0,1,2,1,2,4] [(4,.adr 5 0 9 0)] (Fu d1 o1 o2 true 0 (0:Int) (0:Int) (0:Int) (0:Int) (0:Int) (0:Int) (0:Int)) 6 3
theorem kx:∀(n:Nat) (q:Bool) {u v:Int} {x:XX} {z:Bool} {o1:QK} {o2:Qj} {j:Z9×QK×Qj×Bool},dX n u v x z o1 o2=some j→jD Tryz.prog 105 [.adr 0 0 3 0,.agg [.u8 u,.u32 v,.p q (.slice (.tree .u8 .u32)) x]] (Dm z o1 o2) (.agg [.bo j.1.1,.u64 j.1.2.1.1,.u64 j.1.2.1.2.1,.u64 j.1.2.1.2.2.1,.u64 j.1.2.1.2.2.2,.u64 j.1.2.2.1,.u64 j.1.2.2.2.1,.u64 j.1.2.2.2.2.1,.u64 j.1.2.2.2.2.2]) (Ky j.2.2.2 j.2.1 j.2.2.1)
 | 0,_,_,_,_,_,_,_,_,h=>by cases h
 | n+1,q,u,v,x,z,o1,o2,j,h=>oy (dX n) (kx n) q h
def p0(p q u v x z A B:Int):(Int)→Option ((Int)⊕((Unit)⊕(Bool))):=fun j =>
 (if(decide (j<4))=true then(if 0≤j∧j<((4:Nat):Int)then(if 0≤j∧j<((4:Nat):Int)then(if((bitsOf .and .u64 (([p,q,u,v]:QK).getD j.toNat 0) (([x,z,A,B]:QK).getD j.toNat 0)) != 0)=true then some (Sum.inr (Sum.inr true))
 else some (Sum.inl (i64.wrap (j+1))))else none)else none)
 else some (Sum.inr (Sum.inl ())))
def nv(j p q u v x z A:Int):Option (Bool) :=
 ((iter (p0 j p q u v x z A) (0:Int)).bind fun(B:((Unit)⊕(Bool)))=>match B with
 | .inl _=>some false
 | .inr (C)=>some C)
theorem xZ{p q u v x z A B:Int}{j:Bool}(h:nv p q u v x z A B=some j):
  Pure Tryz.prog 108 [.agg [.u64 p,.u64 q,.u64 u,.u64 v],.agg [.u64 x,.u64 z,.u64 A,.u64 B]] (aK (bd false [⟨.bool,j⟩])):=by
 refine PB Tryz.func108 (fun Bw w0=>?_);unfold nv at h;refine G (af (G (ak (kg h (fun I=>aA [(2,.adr 0 0 4 0),(3,.adr 1 0 4 0),(6,.i64 I)] (Md p q u v x z A B) 2) (dy (fj Tryz.f108.ntmps 0 (fun _=>aA [] [] 0)) (gr tb Tryz.f108.results.toList (fun J=>[⟨.bool,J⟩]))) (gg [] [0,8]) (fun I o h=>?_) (fun M h e σ' L=>?_)))))
 ·unfold p0 at h;refine G (af (aC h (fun N h=>?_) (fun N h=>?_)))
  ·refine ae (ab (af (ak (G ?_))));obtain⟨C,D,h⟩:=g2 h;refine GD a0 [(1,1,oc C),(4,4,oc D)] (aC h (fun O h=>?_) (fun O h=>?_))
   ·refine G (aw ?_);obtain rfl:=sI h;refine au (ah (bK (aL ?_)));exact bH (RI [.bool])
   refine ae (ay (ab (Ge ?_)));exact eB h (gg [] [0,1])
  refine av (aP ?_);obtain rfl:=sI h;refine dL (bk ?_);exact bS (gg [] [])
 rcases M with _ | J
 ·obtain⟨rfl,E⟩:=L;refine cF ?_ E;refine az (ab (G (aw ?_)));obtain rfl:=sI h;exact RI [.bool]
 obtain⟨rfl,V⟩:=L;refine au (ah ?_);obtain rfl:=sI h;exact V
def iq(j p q u v:Int):Option Z2 :=
 (if ¬(64:Int)=0 then(if 0≤(i64.wrap (Int.tdiv j 64))∧(i64.wrap (Int.tdiv j 64))<((4:Nat):Int)then(if ¬(64:Int)=0 then(if 0≤(Int.tmod j 64)then(if 0≤(i64.wrap (Int.tdiv j 64))∧(i64.wrap (Int.tdiv j 64))<((4:Nat):Int)then some ((if(i64.wrap (Int.tdiv j 64)).toNat=0 then(bitsOf .or .u64 (([p,q,u,v]:QK).getD ((i64.wrap (Int.tdiv j 64)).toNat) 0) (u64.wrap (1*2 ^ (min (Int.tmod j 64).toNat u64.bits))))else p),(if(i64.wrap (Int.tdiv j 64)).toNat=1 then(bitsOf .or .u64 (([p,q,u,v]:QK).getD ((i64.wrap (Int.tdiv j 64)).toNat) 0) (u64.wrap (1*2 ^ (min (Int.tmod j 64).toNat u64.bits))))else q),(if(i64.wrap (Int.tdiv j 64)).toNat=2 then(bitsOf .or .u64 (([p,q,u,v]:QK).getD ((i64.wrap (Int.tdiv j 64)).toNat) 0) (u64.wrap (1*2 ^ (min (Int.tmod j 64).toNat u64.bits))))else u),(if(i64.wrap (Int.tdiv j 64)).toNat=3 then(bitsOf .or .u64 (([p,q,u,v]:QK).getD ((i64.wrap (Int.tdiv j 64)).toNat) 0) (u64.wrap (1*2 ^ (min (Int.tmod j 64).toNat u64.bits))))else v))else none)else none)else none)else none)else none)
theorem qp{j q u v x:Int}{p:Int×Int×Int×Int}(h:iq j q u v x=some p):
  jD Tryz.prog 109 [.adr 0 0 4 0,.i64 j] [(0,.box [.u64 q,.u64 u,.u64 v,.u64 x])] (.tup []) [(0,.box [.u64 p.1,.u64 p.2.1,.u64 p.2.2.1,.u64 p.2.2.2])]:=by
 refine OB Tryz.func109 (fun Bw w0=>?_);unfold iq at h;obtain⟨z,A,B,C,h⟩:=g4 h;obtain⟨D,h⟩:=aD h;refine nf a0 [(2,2,oc z),(4,4,oc A),(7,7,oc B),(8,8,oc C),(11,11,oc D)] ?_;obtain rfl:=sI h;exact(RO [] [] [0] [] [(0,.box [.u64 (if(i64.wrap (Int.tdiv j 64)).toNat=0 then(bitsOf .or .u64 (([q,u,v,x]:QK).getD ((i64.wrap (Int.tdiv j 64)).toNat) 0) (u64.wrap (1*2 ^ (min (Int.tmod j 64).toNat u64.bits))))else q),.u64 (if(i64.wrap (Int.tdiv j 64)).toNat=1 then(bitsOf .or .u64 (([q,u,v,x]:QK).getD ((i64.wrap (Int.tdiv j 64)).toNat) 0) (u64.wrap (1*2 ^ (min (Int.tmod j 64).toNat u64.bits))))else u),.u64 (if(i64.wrap (Int.tdiv j 64)).toNat=2 then(bitsOf .or .u64 (([q,u,v,x]:QK).getD ((i64.wrap (Int.tdiv j 64)).toNat) 0) (u64.wrap (1*2 ^ (min (Int.tmod j 64).toNat u64.bits))))else v),.u64 (if(i64.wrap (Int.tdiv j 64)).toNat=3 then(bitsOf .or .u64 (([q,u,v,x]:QK).getD ((i64.wrap (Int.tdiv j 64)).toNat) 0) (u64.wrap (1*2 ^ (min (Int.tmod j 64).toNat u64.bits))))else x)])] 1 1).normal
end
end Go.Proofs.YtobbjfkfmdiklaaGreatDoor.T
