/- Functions of the program as functions on data, and that the program's own come to them. -/
import Derived.Test.YtmcemnfjddoejaaGreatDoorTvT23a0
namespace Go.Proofs.YtmcemnfjddoejaaGreatDoor.T
open Go Go.Tv Go.Proofs
open Go.IntKind (i64 u32 u64 u8)
noncomputable section
set_option maxRecDepth 100000
set_option maxHeartbeats 4000000
def dF  : Option ((List eD)×(List eD)×(List eD)×(List eD)×(List UInt8)×(List UInt8)×(List UInt8)×Int×Int) :=
 some (([]:List eD),([(10,10,2),(32,32,1)]:List eD),([(32,126,1)]:List eD),([]:List eD),([99,108,97,115,115,32,79,59,32,109,97,121,32,79,32,47,32,79,59]:List UInt8),([99,108,97,115,115,32,79,32,83,32,78,59,32,107,101,101,112,32,83,32,47,32,83,59,32,109,97,121,32,83,32,47,32,46,59,32,109,117,115,116,32,78,32,47,32,46,59,32,107,101,101,112,32,46,32,47,32,46,59]:List UInt8),([]:List UInt8),2,2)
theorem gO{c:(List eD)×(List eD)×(List eD)×(List eD)×(List UInt8)×(List UInt8)×(List UInt8)×Int×Int}(h:dF=some c):
  Pure Tryz.prog 21 [] (aG (aU false [⟨Y7,c⟩])):=by
 refine PB Tryz.func21 (fun Bw w0=> ?_);unfold dF at h;refine G (G (nA [.frzC 0 1,.frzC 0 2] (by kernel_rfl) (ao ?_)));obtain rfl:=sI h;exact RI [Y7]
def lN(e c:Int)(_:List UInt8)(_ _ _ _ _:Int)(_:List Z6):Option ((Unit)⊕(Int×Int)):=some (Sum.inr (e,c))
theorem mS(v:Value)(e a:Int)(w:World):
  Calls Tryz.prog 71 #[v,.int .i64 e,.int .i64 a] w fun r c=>r = .panicked [{ v:=aT 47 .i64 .i64 (e,a),recovered:=false }]∧c=w:=by
 go_enter Tryz.func71,Tryz.ntmps71;go_wp2
 exact⟨rfl,rfl,rfl⟩
theorem jU{f c:Int}{j:List UInt8}{k p:Int}{u x z:Int}{A:List Z6}{e:(Unit)⊕(Int×Int)}(h:lN f c j k p u x z A=some e):
  iO Tryz.prog 71 [.adr 0 0 10 0,.i64 f,.i64 c] (Lt j k p u x z A) (j8 (fun(q:Unit)=>(.tup [],[])) (aT 47 .i64 .i64) e):=by
 obtain rfl:=sI h;exact jP.B0 Tryz.func71 (by kernel_rfl) rfl (fun v w=>mS v _ _ w)
def jf(c:List UInt8)(e:Int):Option (Int):=some (Fp c e 0)
theorem km(s:ByteArray)(c:Int)(w:World):
  Calls Tryz.prog 152 #[.string s,.int .u8 c] w fun e f=>e = .returned (.int .i64 (Lib.indexByte s.data.toList c.toNat.toUInt8))∧f=w:=by
 have j:∀w,(callFunc 158 #[.string s,.int .u8 c]).run Tryz.prog w = .ok (.value (.int .i64 (Lib.indexByte s.data.toList c.toNat.toUInt8))) w:=fun w=>by rw[run_callFunc_extern (fn:=Tryz.f158) (e:=Extern.BytealgIndexByte.indexByte) Tryz.func158 (by kernel_rfl) rfl (by kernel_rfl) (by kernel_rfl),Lib.run_indexByteString];rfl
 go_enter Tryz.func152,Tryz.ntmps152;go_wp2
 go_ret
 exact⟨rfl,rfl⟩
theorem l9{e:List UInt8}{f c:Int}(h:jf e f=some c):
  Pure Tryz.prog 152 [.st e,.u8 f] (aG (aU false [⟨(.int .i64),c⟩])):=by
 obtain rfl:=sI h;exact Pure.JB Tryz.func152 (by kernel_rfl) rfl (fun s w=>km s _ w)
def fK(c:List UInt8)(e:Int):Option (Int) :=
 ((jf c e).bind fun f =>
 some f)
theorem jI{e:List UInt8}{f c:Int}(h:fK e f=some c):
  Pure Tryz.prog 135 [.st e,.u8 f] (aG (aU false [⟨(.int .i64),c⟩])):=by
 refine PB Tryz.func135 (fun Bw w0=> ?_);unfold fK at h;refine G ?_;obtain⟨k,j,h⟩:=aj h;refine GP 2 (l9 j) (ao ?_);obtain rfl:=sI h;exact RI [(.int .i64)]
def oL(c:Int):Option (Bool) :=
 (((if(c == 32)=true then some (true)
 else(if(c == 9)=true then some (true)
 else(if(c == 10)=true then some (true)
 else some ((c == 13)))))).bind fun v1=>some v1)
theorem wi{k:Int}{f:Bool}(h:oL k=some f):
  Pure Tryz.prog 136 [.u8 k] (aG (aU false [⟨.bool,f⟩])):=by
 refine PB Tryz.func136 (fun Bw w0=> ?_);unfold oL at h;refine G (af (bg h (fun v1=>ay [(2,.bo v1)] [] 0) (fun v1 h=> ?_) (fun v1 h=> ?_)))
 ·rcases aF h with⟨c,h⟩ | ⟨c,h⟩
  ·exact bq ⟨[(2,true),(5,true)],[]⟩ [(3,5,oc c)] (eN h (gg [] []))
  rcases aF h with⟨e,h⟩ | ⟨e,h⟩
  ·exact bq ⟨[(2,false),(5,false),(6,true),(9,true)],[]⟩ [(3,4,an c),(5,5,oc c),(7,9,oc e)] (eN h (gg [] []))
  rcases aF h with⟨j,h⟩ | ⟨j,h⟩
  ·exact bq ⟨[(2,false),(5,false),(6,false),(9,false),(10,true),(13,true)],[]⟩ [(3,4,an c),(5,5,oc c),(7,8,an e),(9,9,oc e),(11,13,oc j)] (eN h (gg [] []))
  exact bq ⟨[(2,false),(5,false),(6,false),(9,false),(10,false),(13,false)],[]⟩ [(3,4,an c),(5,5,oc c),(7,8,an e),(9,9,oc e),(11,12,an j),(13,13,oc j)] (eN h (gg [] []))
 refine ab (ao ?_);obtain rfl:=sI h;exact RI [.bool]
def gz(c:Int):Option (Bool) :=
 (((if(c == 95)=true then some (true)
 else(if(decide (c≥97))=true then(if(decide (c≤122))=true then some (true)
 else(if(decide (c≥65))=true then(if(decide (c≤90))=true then some (true)
 else(if(decide (c≥48))=true then some ((decide (c≤57)))
 else some (false)))
 else(if(decide (c≥48))=true then some ((decide (c≤57)))
 else some (false))))
 else(if(decide (c≥65))=true then(if(decide (c≤90))=true then some (true)
 else(if(decide (c≥48))=true then some ((decide (c≤57)))
 else some (false)))
 else(if(decide (c≥48))=true then some ((decide (c≤57)))
 else some (false)))))).bind fun v1=>some v1)
theorem cJ{A:Int}{z:Bool}(h:gz A=some z):
  Pure Tryz.prog 137 [.u8 A] (aG (aU false [⟨.bool,z⟩])):=by
 refine PB Tryz.func137 (fun Bw w0=> ?_);unfold gz at h;refine G (af (bg h (fun v1=>ay [(2,.bo v1)] [] 0) (fun v1 h=> ?_) (fun v1 h=> ?_)))
 ·rcases aF h with⟨c,h⟩ | ⟨c,h⟩
  ·exact bq ⟨[(2,true),(9,true)],[]⟩ [(3,5,oc c),(8,9,oc c)] (eN h (gg [] []))
  rcases aF h with⟨e,h⟩ | ⟨e,h⟩
  ·rcases aF h with⟨f,h⟩ | ⟨f,h⟩
   ·exact bq ⟨[(2,false),(5,true),(8,true),(9,false),(10,true),(17,true)],[]⟩ [(3,5,an c),(6,7,an e),(8,8,oc (And.intro c e)),(9,9,oc c),(11,13,oc f),(16,17,oc f)] (eN h (gg [] []))
   rcases aF h with⟨j,h⟩ | ⟨j,h⟩
   ·rcases aF h with⟨k,h⟩ | ⟨k,h⟩
    ·exact bq ⟨[(2,false),(5,true),(8,true),(9,false),(10,false),(13,true),(16,true),(17,false),(18,true),(25,true)],[]⟩ [(3,5,an c),(6,7,an e),(8,8,oc (And.intro c e)),(9,9,oc c),(11,13,an f),(14,15,an j),(16,16,oc (And.intro f j)),(17,17,oc f),(19,21,oc k),(24,25,oc k)] (eN h (gg [] []))
    rcases aF h with⟨q,h⟩ | ⟨q,h⟩
    ·exact bq ⟨[(2,false),(5,true),(8,true),(9,false),(10,false),(13,true),(16,true),(17,false),(18,false),(21,true),(24,true),(25,false)],[]⟩ [(3,5,an c),(6,7,an e),(8,8,oc (And.intro c e)),(9,9,oc c),(11,13,an f),(14,15,an j),(16,16,oc (And.intro f j)),(17,17,oc f),(19,21,an k),(22,23,an q),(24,24,oc (And.intro k q)),(25,25,oc k)] (eN h (gg [] []))
    exact bq ⟨[(2,false),(5,true),(8,true),(9,false),(10,false),(13,true),(16,true),(17,false),(18,false),(21,false),(24,false),(25,false)],[]⟩ [(3,5,an c),(6,7,an e),(8,8,oc (And.intro c e)),(9,9,oc c),(11,13,an f),(14,15,an j),(16,16,oc (And.intro f j)),(17,17,oc f),(19,21,an k),(22,23,oc q),(24,24,oc (And.intro k q)),(25,25,oc k)] (eN h (gg [] []))
   rcases aF h with⟨v,h⟩ | ⟨v,h⟩
   ·exact bq ⟨[(2,false),(5,true),(8,true),(9,false),(10,false),(13,false),(16,false),(17,false),(21,true),(24,true)],[]⟩ [(3,5,an c),(6,7,an e),(8,8,oc (And.intro c e)),(9,9,oc c),(11,13,an f),(14,15,oc j),(16,16,oc (And.intro f j)),(17,17,oc f),(22,23,an v),(24,24,oc v)] (eN h (gg [] []))
   exact bq ⟨[(2,false),(5,true),(8,true),(9,false),(10,false),(13,false),(16,false),(17,false),(21,false),(24,false)],[]⟩ [(3,5,an c),(6,7,an e),(8,8,oc (And.intro c e)),(9,9,oc c),(11,13,an f),(14,15,oc j),(16,16,oc (And.intro f j)),(17,17,oc f),(22,24,oc v)] (eN h (gg [] []))
  rcases aF h with⟨m,h⟩ | ⟨m,h⟩
  ·rcases aF h with⟨p,h⟩ | ⟨p,h⟩
   ·exact bq ⟨[(2,false),(5,false),(8,false),(9,false),(13,true),(16,true),(18,true),(25,true)],[]⟩ [(3,5,an c),(6,7,oc e),(8,8,oc (And.intro c e)),(9,9,oc c),(14,15,an m),(16,16,oc m),(19,21,oc p),(24,25,oc p)] (eN h (gg [] []))
   rcases aF h with⟨u,h⟩ | ⟨u,h⟩
   ·exact bq ⟨[(2,false),(5,false),(8,false),(9,false),(13,true),(16,true),(18,false),(21,true),(24,true),(25,false)],[]⟩ [(3,5,an c),(6,7,oc e),(8,8,oc (And.intro c e)),(9,9,oc c),(14,15,an m),(16,16,oc m),(19,21,an p),(22,23,an u),(24,24,oc (And.intro p u)),(25,25,oc p)] (eN h (gg [] []))
   exact bq ⟨[(2,false),(5,false),(8,false),(9,false),(13,true),(16,true),(18,false),(21,false),(24,false),(25,false)],[]⟩ [(3,5,an c),(6,7,oc e),(8,8,oc (And.intro c e)),(9,9,oc c),(14,15,an m),(16,16,oc m),(19,21,an p),(22,23,oc u),(24,24,oc (And.intro p u)),(25,25,oc p)] (eN h (gg [] []))
  rcases aF h with⟨x,h⟩ | ⟨x,h⟩
  ·exact bq ⟨[(2,false),(5,false),(8,false),(9,false),(13,false),(16,false),(21,true),(24,true)],[]⟩ [(3,5,an c),(6,7,oc e),(8,8,oc (And.intro c e)),(9,9,oc c),(14,16,oc m),(22,23,an x),(24,24,oc x)] (eN h (gg [] []))
  exact bq ⟨[(2,false),(5,false),(8,false),(9,false),(13,false),(16,false),(21,false),(24,false)],[]⟩ [(3,5,an c),(6,7,oc e),(8,8,oc (And.intro c e)),(9,9,oc c),(14,16,oc m),(22,24,oc x)] (eN h (gg [] []))
 refine ab (ao ?_);obtain rfl:=sI h;exact RI [.bool]
def eR(e:List (List UInt8))(v1:List UInt8):(Int)→Option ((Int)⊕((Unit)⊕(Int))):=fun c =>
 (if(decide (c<(e.length:Int)))=true then(if 0≤c∧c<(e.length:Int)then(if(v1 == (e.getD c.toNat []))=true then some (Sum.inr (Sum.inr c))
 else some (Sum.inl (i64.wrap (c+1))))else none)
 else some (Sum.inr (Sum.inl ())))
def dJ(c:List (List UInt8))(v1:List UInt8):Option (Int) :=
 ((iter (eR c v1) (0:Int)).bind fun(e:((Unit)⊕(Int)))=>match e with
 | .inl _=>some (-1:Int)
 | .inr (f)=>some f)
theorem jT(c:Bool){j:List (List UInt8)}{v1:List UInt8}{f:Int}(h:dJ j v1=some f):
  Pure Tryz.prog 151 [.p c (.slice .str) j,.st v1] (aG (aU false [⟨(.int .i64),f⟩])):=by
 refine PB Tryz.func151 (fun Bw w0=> ?_);unfold dJ at h;refine G (af (G (ak (jl h (fun m=>ay [(0,.p c (.slice .str) j),(1,.st v1),(7,.i64 (j.length:Int)),(8,.i64 m)] [] 0) (cN (dM Tryz.f151.ntmps 0 (fun _=>ay [] [] 0)) (eQ tb Tryz.f151.results.toList (fun q=>[⟨(.int .i64),q⟩]))) (gg [] []) (fun m o h=> ?_) (fun v h e σ' u=> ?_)))))
 ·unfold eR at h;refine G (af (aA h (fun x h=> ?_) (fun x h=> ?_)))
  ·refine ae (ab (af (ak (G (GC 3 h (fun h=>aA h (fun z h=> ?_) (fun z h=> ?_)))))))
   ·refine G (ao ?_);obtain rfl:=sI h;refine az (ah (br (aK ?_)));exact bu (RI [(.int .i64)])
   refine ae (au (ab (Ge ?_)));exact eB h (gg [] [])
  refine aq (aL ?_);obtain rfl:=sI h;refine cR (aX ?_);exact bC (gg [] [])
 rcases v with _ | q
 ·obtain⟨rfl,k⟩:=u;refine bY ?_ k;refine av (ab (G (ao ?_)));obtain rfl:=sI h;exact RI [(.int .i64)]
 obtain⟨rfl,A⟩:=u;refine az (ah ?_);obtain rfl:=sI h;exact A
def aW(e c:Int)(_:List UInt8)(_ _ _ _ _:Int)(_:List (List UInt8))(_:List Int)(_:List Z8)(_:List Z6):Option ((Unit)⊕(Int×Int)):=some (Sum.inr (e,c))
theorem lb(v:Value)(e a:Int)(w:World):
  Calls Tryz.prog 71 #[v,.int .i64 e,.int .i64 a] w fun r c=>r = .panicked [{ v:=aT 47 .i64 .i64 (e,a),recovered:=false }]∧c=w:=by
 go_enter Tryz.func71,Tryz.ntmps71;go_wp2
 exact⟨rfl,rfl,rfl⟩
theorem aS{f c:Int}{j:List UInt8}{k m:Int}{p u x:Int}{z:List (List UInt8)}{A:List Int}{B:List Z8}{C:List Z6}{e:(Unit)⊕(Int×Int)}(h:aW f c j k m p u x z A B C=some e):
  iO Tryz.prog 71 [.adr 0 0 10 0,.i64 f,.i64 c] (bG j k m p u x z A B C) (j8 (fun(q:Unit)=>(.tup [],[])) (aT 47 .i64 .i64) e):=by
 obtain rfl:=sI h;exact jP.B0 Tryz.func71 (by kernel_rfl) rfl (fun v w=>lb v _ _ w)
def iq(e:List UInt8)(z A B C:Int)(D:List (List UInt8))(E:List Int)(I:List Z8)(J:List Z6):(Int)→Option ((Int)⊕((Int)⊕((Int×Int)⊕(Int×Int)))):=fun c =>
 (if(decide (c<(e.length:Int)))=true then(if 0≤c∧c<(e.length:Int)then(if(((e.getD c.toNat 0).toNat:Int) == 35)=true then(if 0≤c∧c≤(e.length:Int)∧(e.length:Int)≤(e.length:Int)then((fK ((e.take (e.length:Int).toNat).drop c.toNat) 10).bind fun f =>
 (((if(decide (f<0))=true then some ((i64.wrap ((e.length:Int) - c)))
 else some (f))).bind fun j=>some (Sum.inl (i64.wrap (c+j)))))else none)
 else((oL ((e.getD c.toNat 0).toNat:Int)).bind fun k =>
 (if k=true then some (Sum.inl (i64.wrap (c+1)))
 else((((gz ((e.getD c.toNat 0).toNat:Int)).bind fun m =>
 (if(!m)=true then((fK ([40,41,91,93,94,124,42,43,63,46,59,47,61]:List UInt8) ((e.getD c.toNat 0).toNat:Int)).bind fun p =>
 some ((decide (p<0))))
 else some (false)))).bind fun q=>(if q=true then((aW 20 c e c z A B C D E I J).bind fun(u:(Unit)⊕(Int×Int))=>match u with
 | .inr (v,x)=>some (Sum.inr (Sum.inr (Sum.inl (v,x))))
 | .inl _=>none)
 else some (Sum.inr (Sum.inr (Sum.inr (((e.getD c.toNat 0).toNat:Int),c)))))))))else none)
 else some (Sum.inr (Sum.inl c)))
def bz(p:List UInt8)(q u v x z:Int)(A:List (List UInt8))(B:List Int)(C:List Z8)(D:List Z6):Option ((Int×Int)⊕(Int×Int)) :=
 ((iter (iq p u v x z A B C D) q).bind fun(c:((Int)⊕((Int×Int)⊕(Int×Int))))=>match c with
 | .inl e=>some (Sum.inl (0,e))
 | .inr (.inl (f,j))=>some (Sum.inr (f,j))
 | .inr (.inr ((k,m)))=>some (Sum.inl (k,m)))
theorem aP{k:List UInt8}{d2 m:Int}{p u v:Int}{x:List (List UInt8)}{z:List Int}{A:List Z8}{B:List Z6}{I:(Int×Int)⊕(Int×Int)}(h:bz k d2 m p u v x z A B=some I):
  iO Tryz.prog 101 [.adr 0 0 10 0] (bG k d2 m p u v x z A B) (j8 (fun(q:Int×Int)=>(.u8 q.1,(bG k q.2 m p u v x z A B))) (aT 47 .i64 .i64) I):=by
 refine DB Tryz.func101 (fun Bw w0=> ?_);unfold bz at h;refine G (af (ak (jl h (fun f=>ay [(0,.adr 0 0 10 0)] (bG k f m p u v x z A B) 5 5) (cN (dM Tryz.f101.ntmps 0 (fun C=>ay [] (bG k C m p u v x z A B) 5 5)) (cN (sV (aT 47 .i64 .i64)) (Da tb Tryz.f101.ntmps Tryz.f101.results.toList (fun(J,L)=>(.u8 J,(bG k L m p u v x z A B)))))) (gg [] [0,1,2,3,4]) (fun f o h=> ?_) (fun O h e σ' R=> ?_))))
 ·unfold iq at h;refine af (GD a0 [] (aA h (fun V h=> ?_) (fun V h=> ?_)))
  ·refine ae (ab (ak ?_));obtain⟨X,h⟩:=aD h;refine GD a0 [(8,8,oc X)] (G (aA h (fun Y h=> ?_) (fun Y h=> ?_)))
   ·obtain⟨Z,h⟩:=aD h;obtain⟨aa,a1,h⟩:=aj h;have c:=(jI a1);refine GD ⟨[],[(9,(oP c))]⟩ [(8,8,oc Z),(9,9,oc c)] (af (G (bg h (fun D=>ay [(0,.adr 0 0 10 0),(4,.i64 D)] (bG k f m p u v x z A B) 5 5) (fun D h=> ?_) (fun D h=> ?_))))
    ·refine aA h (fun a2 h=> ?_) (fun a2 h=> ?_)
     ·exact jC a0 [] (eN h (gg [] [0,1,2,3,4]))
     exact ae (eN h (gg [] [0,1,2,3,4]))
    refine ab (Ge (au ?_));exact eB h (gg [] [0,1,2,3,4])
   obtain⟨ac,a3,h⟩:=aj h;refine GP 1 (wi a3) (aA h (fun a4 h=> ?_) (fun a4 h=> ?_))
   ·refine Ge (au ?_);exact eB h (gg [] [0,1,2,3,4])
   refine af (af (bg h (fun E=>ay [(0,.adr 0 0 10 0),(3,.u8 ((k.getD f.toNat 0).toNat:Int)),(72,.bo E)] (bG k f m p u v x z A B) 5 5) (fun E h=> ?_) (fun E h=> ?_)))
   ·obtain⟨ad,M,h⟩:=aj h;rcases aF h with⟨j,h⟩ | ⟨j,h⟩
    ·obtain⟨ax,a5,h⟩:=aj h;have c:=(cJ M);have N:=(jI a5);exact bq ⟨[(3,true),(7,true)],[(1,(oP c)),(5,(oP N))]⟩ [(1,1,oc c),(4,4,an j),(5,5,oc (And.intro j N)),(6,6,an j),(7,7,oc j)] (eN h (gg [] [0,1,2,3,4]))
    have c:=(cJ M);exact bq ⟨[(3,false),(7,false)],[(1,(oP c))]⟩ [(1,1,oc c),(4,7,oc j)] (eN h (gg [] [0,1,2,3,4]))
   refine ab (aA h (fun a6 h=> ?_) (fun a6 h=> ?_))
   ·obtain⟨a7,a8,h⟩:=aj h;rcases a7 with _ | ⟨b1,b2⟩
    ·cases h
    refine GX 5 [0,1,2,3,4] (aS a8) (fun _=> ?_);obtain rfl:=sI h;refine aC (bh (bL (aK (AK ?_))));exact rfl
   refine ae (ab (G (ao ?_)));obtain rfl:=sI h;refine az (br (aK (aK ?_)));exact zu (RO [some (.int .u8)] [] [0,1,2,3,4] [(2,.u8 ((k.getD f.toNat 0).toNat:Int))] (bG k f m p u v x z A B) 5 5)
  refine aq (aL ?_);obtain rfl:=sI h;refine cR (aX ?_);exact bC (gg [] [0,1,2,3,4])
 rcases O with C | ⟨b3,b4⟩ | ⟨J,L⟩
 ·obtain⟨rfl,a9⟩:=R;refine bY ?_ a9;refine av (ab (G (ao ?_)));obtain rfl:=sI h;exact RO [some (.int .u8)] [] [0,1,2,3,4] [(2,.u8 0)] (bG k C m p u v x z A B) 5 5
 ·obtain rfl:=R;refine bh (aC ?_);obtain rfl:=sI h;exact rfl
 obtain⟨rfl,hr⟩:=R;refine az (ah ?_);obtain rfl:=sI h;exact hr
def iw(e:List UInt8):(Int)→Option ((Int)⊕(Int)):=fun c =>
 (((if(decide (c<(e.length:Int)))=true then(if 0≤c∧c<(e.length:Int)then((gz ((e.getD c.toNat 0).toNat:Int)).bind fun f =>
 some (f))else none)
 else some (false))).bind fun j=>(if j=true then some (Sum.inl (i64.wrap (c+1)))
 else some (Sum.inr c)))
def cj(f:List UInt8)(I v x z A:Int)(B:List (List UInt8))(C:List Int)(D:List Z8)(E:List Z6):Option (((List UInt8)×Int×Int)⊕(Int×Int)) :=
 ((bz f I v x z A B C D E).bind fun(J:(Int×Int)⊕(Int×Int))=>match J with
 | .inr (j,k)=>some (Sum.inr (j,k))
 | .inl (m,c)=>((gz m).bind fun p =>
 (if(!p)=true then((aW 21 c f c v x z A B C D E).bind fun(L:(Unit)⊕(Int×Int))=>match L with
 | .inr (q,u)=>some (Sum.inr (q,u))
 | .inl _=>none)
 else((iter (iw f) c).bind fun e=>(if 0≤c∧c≤e∧e≤(f.length:Int)then some (Sum.inl (((f.take e.toNat).drop c.toNat),c,e))else none)))))
theorem bp{k:List UInt8}{Y m:Int}{p u v:Int}{x:List (List UInt8)}{z:List Int}{A:List Z8}{B:List Z6}{D:((List UInt8)×Int×Int)⊕(Int×Int)}(h:cj k Y m p u v x z A B=some D):
  iO Tryz.prog 102 [.adr 0 0 10 0] (bG k Y m p u v x z A B) (j8 (fun(q:(List UInt8)×Int×Int)=>(.tup [.st q.1,.i64 q.2.1],(bG k q.2.2 m p u v x z A B))) (aT 47 .i64 .i64) D):=by
 refine DB Tryz.func102 (fun Bw w0=> ?_);unfold cj at h;refine G (af (af ?_));obtain⟨Z,E,h⟩:=aj h;rcases Z with⟨a1,e⟩ | ⟨a2,a3⟩
 ·obtain⟨a4,J,h⟩:=aj h;have f:=(aP E);have I:=(cJ J);refine bq ⟨[],[(1,(oO f [0,1,2,3,4])),(2,(oP I))]⟩ [(1,1,oc f),(2,2,oc I)] (ab (aA h (fun L h=> ?_) (fun L h=> ?_)))
  ·obtain⟨z8,M,h⟩:=aj h;rcases z8 with _ | ⟨a5,a6⟩
   ·cases h
   refine GX 5 [0,1,2,3,4] (aS M) (fun _=>aC ?_);obtain rfl:=sI h;exact rfl
  refine ae (ab (G (af (ak (cd h (fun C=>ay [(0,.adr 0 0 10 0),(4,.i64 e)] (bG k C m p u v x z A B) 5 5) 0 (fun j=>ay [(0,.adr 0 0 10 0),(4,.i64 e)] (bG k j m p u v x z A B) 5 5) (gg [] [0,1,2,3,4]) (fun C o h=> ?_) (fun j h=> ?_))))))
  ·unfold iw at h;refine af (af (bg h (fun N=>ay [(0,.adr 0 0 10 0),(4,.i64 e),(40,.bo N)] (bG k C m p u v x z A B) 5 5) (fun N h=> ?_) (fun N h=> ?_)))
   ·rcases aF h with⟨c,h⟩ | ⟨c,h⟩
    ·obtain⟨O,h⟩:=aD h;obtain⟨a7,R,h⟩:=aj h;have f:=(cJ R);exact jC ⟨[(10,true),(21,true)],[(20,(oP f))]⟩ [(11,18,an c),(19,19,oc (And.intro c O)),(20,20,oc (And.intro c f)),(21,21,oc c)] (eN h (gg [] [0,1,2,3,4]))
    exact jC ⟨[(10,false),(21,false)],[]⟩ [(11,21,oc c)] (eN h (gg [] [0,1,2,3,4]))
   refine ab (aA h (fun V h=> ?_) (fun V h=> ?_))
   ·refine ae (ab (ak (Ge (au ?_))));exact eB h (gg [] [0,1,2,3,4])
   refine aq (aL ?_);exact eX h (gg [] [0,1,2,3,4])
  refine av (ab ?_);obtain⟨X,h⟩:=aD h;refine GD a0 [(9,9,oc X)] (ao ?_);obtain rfl:=sI h;exact RO [some .str,some (.int .i64)] [] [0,1,2,3,4] [(2,.st ((k.take j.toNat).drop e.toNat)),(3,.i64 e)] (bG k j m p u v x z A B) 5 5
 refine GX 1 [0,1,2,3,4] (aP E) (fun _=>aC (aC ?_));obtain rfl:=sI h;exact rfl
def bk(e:Int)(f:List UInt8)(j k m p q:Int)(u:List (List UInt8))(v:List Int)(x:List Z8)(z:List Z6):Option ((Bool×Int)⊕(Int×Int)) :=
 ((bz f j k m p q u v x z).bind fun(A:(Int×Int)⊕(Int×Int))=>match A with
 | .inr (B,C)=>some (Sum.inr (B,C))
 | .inl (D,c)=>(if(D != e)=true then some (Sum.inl (false,c))
 else some (Sum.inl (true,(i64.wrap (c+1))))))
theorem aJ{z:Int}{c:List UInt8}{A e:Int}{f j k:Int}{m:List (List UInt8)}{p:List Int}{u:List Z8}{v:List Z6}{x:(Bool×Int)⊕(Int×Int)}(h:bk z c A e f j k m p u v=some x):
  iO Tryz.prog 130 [.adr 0 0 10 0,.u8 z] (bG c A e f j k m p u v) (j8 (fun(q:Bool×Int)=>(.bo q.1,(bG c q.2 e f j k m p u v))) (aT 47 .i64 .i64) x):=by
 refine DB Tryz.func130 (fun Bw w0=> ?_);unfold bk at h;refine G (af (af ?_));obtain⟨D,B,h⟩:=aj h;rcases D with⟨I,C⟩ | ⟨J,L⟩
 ·refine kO 1 [0,1,2,3,4] (aP B) (ab (aA h (fun E h=> ?_) (fun E h=> ?_)))
  ·refine G (ao (ah ?_));obtain rfl:=sI h;exact RO [some .bool] [] [0,1,2,3,4] [(4,.bo false)] (bG c C e f j k m p u v) 5 5
  refine ae (ab (G (G (ao ?_))));obtain rfl:=sI h;exact RO [some .bool] [] [0,1,2,3,4] [(4,.bo true)] (bG c (i64.wrap (C+1)) e f j k m p u v) 5 5
 refine GX 1 [0,1,2,3,4] (aP B) (fun _=>aC (aC ?_));obtain rfl:=sI h;exact rfl
def dL(u:List UInt8)(E v x z A:Int)(B:List (List UInt8))(C:List Int)(D:List Z8)(f:List Z6):Option (Z6⊕(Int×Int)) :=
 ((cj u E v x z A B C D f).bind fun(I:((List UInt8)×Int×Int)⊕(Int×Int))=>match I with
 | .inr (j,k)=>some (Sum.inr (j,k))
 | .inl (c,m,e)=>(if((bc .str f c).isSome)=true then((aW 23 m u e v x z A B C D f).bind fun(J:(Unit)⊕(Int×Int))=>match J with
 | .inr (p,q)=>some (Sum.inr (p,q))
 | .inl _=>none)
 else some (Sum.inl (c,e))))
theorem dc{e:List UInt8}{B f:Int}{j k m:Int}{p:List (List UInt8)}{u:List Int}{v:List Z8}{x:List Z6}{c:Z6⊕(Int×Int)}(h:dL e B f j k m p u v x=some c):
  iO Tryz.prog 131 [.adr 0 0 10 0] (bG e B f j k m p u v x) (j8 (fun(q:(List UInt8)×Int)=>(.st q.1,(bG e q.2 f j k m p u v x))) (aT 47 .i64 .i64) c):=by
 refine DB Tryz.func131 (fun Bw w0=> ?_);unfold dL at h;refine G (af ?_);obtain⟨D,C,h⟩:=aj h;rcases D with⟨z,E,A⟩ | ⟨I,J⟩
 ·refine kO 1 [0,1,2,3,4] (bp C) (ab (af (G (G (aA h (fun L h=> ?_) (fun L h=> ?_))))))
  ·obtain⟨M,N,h⟩:=aj h;rcases M with _ | ⟨O,R⟩
   ·cases h
   refine GX 2 [0,1,2,3,4] (aS N) (fun _=>aC ?_);obtain rfl:=sI h;exact rfl
  refine ae (ab (G (ao ?_)));obtain rfl:=sI h;exact RO [some .str] [] [0,1,2,3,4] [(2,.st z)] (bG e A f j k m p u v x) 5 5
 refine GX 1 [0,1,2,3,4] (bp C) (fun _=>aC ?_);obtain rfl:=sI h;exact rfl
def gY(u:List UInt8)(v x z A:Int)(B:List Z8):(Int×(List (List UInt8))×(List Int)×List Z6)→Option ((Int×(List (List UInt8))×(List Int)×List Z6)⊕((Int×(List (List UInt8))×(List Int)×List Z6)⊕(Int×Int))):=fun(C,c,e,f) =>
 ((bk 59 u C v x z A c e B f).bind fun(D:(Bool×Int)⊕(Int×Int))=>match D with
 | .inr (E,I)=>some (Sum.inr (Sum.inr (E,I)))
 | .inl (J,k)=>(if(!J)=true then((bz u k v x z A c e B f).bind fun(L:(Int×Int)⊕(Int×Int))=>match L with
 | .inr (M,N)=>some (Sum.inr (Sum.inr (M,N)))
 | .inl (_,m)=>((dL u m v x z A c e B f).bind fun(O:Z6⊕(Int×Int))=>match O with
 | .inr (R,V)=>some (Sum.inr (Sum.inr (R,V)))
 | .inl (j,p)=>(if(decide ((c.length:Int)≥24))=true then((aW 24 m u p v x z A c e B f).bind fun(X:(Unit)⊕(Int×Int))=>match X with
 | .inr (Y,q)=>some (Sum.inr (Sum.inr (Y,q)))
 | .inl _=>none)
 else(if 0≤(c.length:Int)then(if(e.length+([(c.length:Int)]:List Int).length)*8≤140737488355328∧e.length+([(c.length:Int)]:List Int).length≤9223372036854775807 then(if(c.length+([j]:List (List UInt8)).length)*16≤140737488355328∧c.length+([j]:List (List UInt8)).length≤9223372036854775807 then some (Sum.inl (p,(c++([j]:List (List UInt8))),(e++([(c.length:Int)]:List Int)),(dN .str f j (u32.wrap (1*2 ^ (min (c.length:Int).toNat u32.bits))))))else none)else none)else none))))
 else some (Sum.inr (Sum.inl (k,c,e,f)))))
def fI(k:List UInt8)(m p q u v:Int)(x:List (List UInt8))(z:List Int)(A:List Z8)(B:List Z6):Option ((Int×(List (List UInt8))×(List Int)×List Z6)⊕(Int×Int)) :=
 ((iter (gY k p q u v A) (m,x,z,B)).bind fun(c:((Int×(List (List UInt8))×(List Int)×List Z6)⊕(Int×Int)))=>match c with
 | .inl (C,v10,v11,e)=>some (Sum.inl (C,v10,v11,e))
 | .inr ((f,j))=>some (Sum.inr (f,j)))
theorem hJ{f:List UInt8}{d2 j:Int}{k m p:Int}{o1:List (List UInt8)}{o2:List Int}{u:List Z8}{o4:List Z6}{v:(Int×(List (List UInt8))×(List Int)×List Z6)⊕(Int×Int)}(h:fI f d2 j k m p o1 o2 u o4=some v):
  iO Tryz.prog 97 [.adr 0 0 10 0] (bG f d2 j k m p o1 o2 u o4) (j8 (fun(q:Int×(List (List UInt8))×(List Int)×List Z6)=>(.tup [],(ID f q.1 j k m p u q.2.2.2 q.2.1 q.2.2.1))) (aT 47 .i64 .i64) v):=by
 refine DB Tryz.func97 (fun Bw w0=> ?_);unfold fI at h;refine ak (jl h (fun(x,z,A,B)=>ay [(0,.adr 0 0 10 0)] (ID f x j k m p u B z A) 7 5) (cN (dM Tryz.f97.ntmps 0 (fun(I,v10,v11,c)=>ay [] (ID f I j k m p u c v10 v11) 7 5)) (sV (aT 47 .i64 .i64))) (gg [] [0,1,2,3,4,1,2]) (fun y o h=> ?_) (fun J h e σ' hq=> ?_))
 ·obtain⟨x,z,A,B⟩:=y;unfold gY at h;refine af (af ?_);obtain⟨L,C,h⟩:=aj h;rcases L with⟨a3,a4⟩ | ⟨a5,a6⟩
  ·refine kO 1 [0,5,6,3,4] (aJ C) (ab (aA h (fun M h=> ?_) (fun M h=> ?_)))
   ·refine ae (ab (ak (af ?_)));obtain⟨N,D,h⟩:=aj h;rcases N with⟨a7,a8⟩ | ⟨a9,aa⟩
    ·refine kO 1 [0,5,6,3,4] (aP D) (ab (G (af ?_)));obtain⟨O,E,h⟩:=aj h;rcases O with⟨ac,ad⟩ | ⟨ax,b1⟩
     ·refine kO 1 [0,5,6,3,4] (dc E) (ab (af (G (aA h (fun R h=> ?_) (fun R h=> ?_)))))
      ·obtain⟨V,X,h⟩:=aj h;rcases V with _ | ⟨b2,a2⟩
       ·cases h
       refine GX 2 [0,5,6,3,4] (aS X) (fun _=> ?_);obtain rfl:=sI h;refine aC (bh (bL (aK ?_)));exact rfl
      refine ae (ab ?_);obtain⟨Y,h⟩:=aD h;refine GD a0 [(11,11,oc Y)] ?_;obtain⟨Z,h⟩:=aD h;refine GD a0 [(13,13,oc Z)] (tq 8 h (fun h=>au ?_));exact eB h (gg [] [0,1,2,3,4,479,375])
     refine GX 1 [0,5,6,3,4] (dc E) (fun _=> ?_);obtain rfl:=sI h;refine aC (bh (bL (aK ?_)));exact rfl
    refine GX 1 [0,5,6,3,4] (aP D) (fun _=> ?_);obtain rfl:=sI h;refine aC (bh (bL (aK ?_)));exact rfl
   refine aq (aL ?_);obtain rfl:=sI h;refine cR (aX ?_);exact bC (gg [] [0,1,2,3,4,5,6])
  refine GX 1 [0,5,6,3,4] (aJ C) (fun _=> ?_);obtain rfl:=sI h;refine aC (aC (bL (aK ?_)));exact rfl
 rcases J with⟨I,v10,v11,c⟩ | ⟨b3,b4⟩
 ·obtain⟨rfl,a1⟩:=hq;refine bY ?_ a1;refine av ?_;obtain rfl:=sI h;exact(RO [] [] [0,1,2,3,4,5,6] [] (ID f I j k m p u c v10 v11) 7 5).normal
 obtain rfl:=hq;refine bh ?_;obtain rfl:=sI h;exact rfl
def bE(C:Int)(m:List UInt8)(D p q u v:Int)(x:List (List UInt8))(z:List Int)(A:List Z8)(B:List Z6):Option ((Int)⊕(Int×Int)) :=
 ((bk C m D p q u v x z A B).bind fun(E:(Bool×Int)⊕(Int×Int))=>match E with
 | .inr (c,e)=>some (Sum.inr (c,e))
 | .inl (I,f)=>(if(!I)=true then((aW 21 f m f p q u v x z A B).bind fun(J:(Unit)⊕(Int×Int))=>match J with
 | .inr (j,k)=>some (Sum.inr (j,k))
 | .inl _=>none)
 else some (Sum.inl f)))
theorem aR{z:Int}{e:List UInt8}{A f:Int}{j k m:Int}{p:List (List UInt8)}{u:List Int}{v:List Z8}{x:List Z6}{c:(Int)⊕(Int×Int)}(h:bE z e A f j k m p u v x=some c):
  iO Tryz.prog 132 [.adr 0 0 10 0,.u8 z] (bG e A f j k m p u v x) (j8 (fun(q:Int)=>(.tup [],(bG e q f j k m p u v x))) (aT 47 .i64 .i64) c):=by
 refine DB Tryz.func132 (fun Bw w0=> ?_);unfold bE at h;refine af ?_;obtain⟨C,B,h⟩:=aj h;rcases C with⟨R,D⟩ | ⟨E,I⟩
 ·refine kO 2 [0,1,2,3,4] (aJ B) (ab (aA h (fun J h=> ?_) (fun J h=> ?_)))
  ·obtain⟨L,M,h⟩:=aj h;rcases L with _ | ⟨N,O⟩
   ·cases h
   refine GX 5 [0,1,2,3,4] (aS M) (fun _=> ?_);obtain rfl:=sI h;exact rfl
  refine ae ?_;obtain rfl:=sI h;exact(RO [] [] [0,1,2,3,4] [] (bG e D f j k m p u v x) 5 5).normal
 refine GX 2 [0,1,2,3,4] (aJ B) (fun _=>aC ?_);obtain rfl:=sI h;exact rfl
def dK(u:List UInt8)(E v x z A:Int)(B:List (List UInt8))(C:List Int)(D:List Z8)(f:List Z6):Option ((Int×Int)⊕(Int×Int)) :=
 ((cj u E v x z A B C D f).bind fun(I:((List UInt8)×Int×Int)⊕(Int×Int))=>match I with
 | .inr (j,k)=>some (Sum.inr (j,k))
 | .inl (c,m,e)=>(if((bc .str f c).isSome)=true then some (Sum.inl (((bc .str f c).getD 0),e))
 else((aW 22 m u e v x z A B C D f).bind fun(J:(Unit)⊕(Int×Int))=>match J with
 | .inr (p,q)=>some (Sum.inr (p,q))
 | .inl _=>none)))
theorem cY{f:List UInt8}{B j:Int}{k m p:Int}{u:List (List UInt8)}{v:List Int}{x:List Z8}{c:List Z6}{e:(Int×Int)⊕(Int×Int)}(h:dK f B j k m p u v x c=some e):
  iO Tryz.prog 150 [.adr 0 0 10 0] (bG f B j k m p u v x c) (j8 (fun(q:Int×Int)=>(.u32 q.1,(bG f q.2 j k m p u v x c))) (aT 47 .i64 .i64) e):=by
 refine DB Tryz.func150 (fun Bw w0=> ?_);unfold dK at h;refine G (af ?_);obtain⟨D,C,h⟩:=aj h;rcases D with⟨z,E,A⟩ | ⟨I,J⟩
 ·refine kO 1 [0,1,2,3,4] (bp C) (ab (af (G (G (aA h (fun L h=> ?_) (fun L h=> ?_))))))
  ·refine G (ao (ah ?_));obtain rfl:=sI h;exact RO [some (.int .u32)] [] [0,1,2,3,4] [(2,.u32 ((bc .str c z).getD 0))] (bG f A j k m p u v x c) 5 5
  refine ae (ab (af ?_));obtain⟨M,N,h⟩:=aj h;rcases M with _ | ⟨O,R⟩
  ·cases h
  refine GX 2 [0,1,2,3,4] (aS N) (fun _=>aC ?_);obtain rfl:=sI h;exact rfl
 refine GX 1 [0,1,2,3,4] (bp C) (fun _=>aC ?_);obtain rfl:=sI h;exact rfl
def fV(e:Int)(B:List UInt8)(C D E I:Int)(J:List (List UInt8))(L:List Int)(M:List Z8)(N:List Z6):(Int×Int)→Option ((Int×Int)⊕((Int×Int)⊕(Int×Int))):=fun(j,c) =>
 ((bz B j C D E I J L M N).bind fun(k:(Int×Int)⊕(Int×Int))=>match k with
 | .inr (m,p)=>some (Sum.inr (Sum.inr (m,p)))
 | .inl (q,f)=>(if(q != e)=true then((dK B f C D E I J L M N).bind fun(u:(Int×Int)⊕(Int×Int))=>match u with
 | .inr (v,x)=>some (Sum.inr (Sum.inr (v,x)))
 | .inl (z,A)=>some (Sum.inl (A,(bitsOf .or .u32 c z))))
 else some (Sum.inr (Sum.inl (f,c)))))
def bK(e:Int)(p:List UInt8)(q u v x z:Int)(A:List (List UInt8))(B:List Int)(C:List Z8)(D:List Z6):Option ((Int×Int)⊕(Int×Int)) :=
 ((iter (fV e p u v x z A B C D) (q,0)).bind fun(f:((Int×Int)⊕(Int×Int)))=>match f with
 | .inl (j,c)=>some (Sum.inl (c,(i64.wrap (j+1))))
 | .inr ((k,m))=>some (Sum.inr (k,m)))
theorem aI{f:Int}{m:List UInt8}{R p:Int}{u v x:Int}{z:List (List UInt8)}{A:List Int}{B:List Z8}{C:List Z6}{D:(Int×Int)⊕(Int×Int)}(h:bK f m R p u v x z A B C=some D):
  iO Tryz.prog 133 [.adr 0 0 10 0,.u8 f] (bG m R p u v x z A B C) (j8 (fun(q:Int×Int)=>(.u32 q.1,(bG m q.2 p u v x z A B C))) (aT 47 .i64 .i64) D):=by
 refine DB Tryz.func133 (fun Bw w0=> ?_);unfold bK at h;refine G (G (af (ak (jl h (fun(E,j)=>ay [(0,.adr 0 0 10 0),(1,.u8 f),(5,.u32 j)] (bG m E p u v x z A B C) 5 5) (cN (dM Tryz.f133.ntmps 0 (fun(k,c)=>ay [(0,.adr 0 0 10 0),(5,.u32 c)] (bG m k p u v x z A B C) 5 5)) (sV (aT 47 .i64 .i64))) (gg [] [0,1,2,3,4]) (fun y o h=> ?_) (fun L h e σ' V=> ?_)))))
 ·obtain⟨E,j⟩:=y;unfold fV at h;refine af (af ?_);obtain⟨M,I,h⟩:=aj h;rcases M with⟨X,Y⟩ | ⟨Z,a1⟩
  ·refine kO 1 [0,1,2,3,4] (aP I) (ab (aA h (fun B6 h=> ?_) (fun B6 h=> ?_)))
   ·refine ae (ab (ak ?_));obtain⟨N,J,h⟩:=aj h;rcases N with⟨a2,a3⟩ | ⟨a4,a5⟩
    ·refine kO 2 [0,1,2,3,4] (cY J) (au ?_);exact eB h (gg [] [0,1,2,3,4])
    refine GX 2 [0,1,2,3,4] (cY J) (fun _=> ?_);obtain rfl:=sI h;refine bh (bL (aK ?_));exact rfl
   refine aq (aL ?_);obtain rfl:=sI h;refine cR (aX ?_);exact bC (gg [] [0,1,2,3,4])
  refine GX 1 [0,1,2,3,4] (aP I) (fun _=> ?_);obtain rfl:=sI h;refine aC (aC (bL (aK ?_)));exact rfl
 rcases L with⟨k,c⟩ | ⟨a6,a7⟩
 ·obtain⟨rfl,O⟩:=V;refine bY ?_ O;refine av (ab (G (G (ao ?_))));obtain rfl:=sI h;exact RO [some (.int .u32)] [] [0,1,2,3,4] [(4,.u32 c)] (bG m (i64.wrap (k+1)) p u v x z A B C) 5 5
 obtain rfl:=V;refine bh (aC ?_);obtain rfl:=sI h;exact rfl
def gL(e:List UInt8)(O f j k m:Int)(p:List (List UInt8))(q:List Int)(u:List Z8)(c:List Z6):Option ((Int×List Z6)⊕(Int×Int)) :=
 ((dL e O f j k m p q u c).bind fun(R:Z6⊕(Int×Int))=>match R with
 | .inr (v,x)=>some (Sum.inr (v,x))
 | .inl (z,A)=>((bE 61 e A f j k m p q u c).bind fun(B:(Int)⊕(Int×Int))=>match B with
 | .inr (C,D)=>some (Sum.inr (C,D))
 | .inl E=>((bK 59 e E f j k m p q u c).bind fun(I:(Int×Int)⊕(Int×Int))=>match I with
 | .inr (J,L)=>some (Sum.inr (J,L))
 | .inl (M,N)=>some (Sum.inl (N,(dN .str c z M))))))
theorem iW{k:List UInt8}{R m:Int}{p u v:Int}{x:List (List UInt8)}{z:List Int}{A:List Z8}{B:List Z6}{C:(Int×List Z6)⊕(Int×Int)}(h:gL k R m p u v x z A B=some C):
  iO Tryz.prog 98 [.adr 0 0 10 0] (bG k R m p u v x z A B) (j8 (fun(q:Int×List Z6)=>(.tup [],(bG k q.1 m p u v x z A q.2))) (aT 47 .i64 .i64) C):=by
 refine DB Tryz.func98 (fun Bw w0=> ?_);unfold gL at h;refine af ?_;obtain⟨X,V,h⟩:=aj h;rcases X with⟨D,Y⟩ | ⟨Z,a1⟩
 ·refine kO 1 [0,1,2,3,4] (dc V) (ab (af ?_));obtain⟨M,E,h⟩:=aj h;rcases M with I | ⟨a2,a3⟩
  ·refine kO 1 [0,1,2,3,4] (aR E) (ab ?_);obtain⟨N,j,h⟩:=aj h;rcases N with⟨J,L⟩ | ⟨e,f⟩
   ·have c:=(aI j);refine pH gS mixed ⟨[],[(6,(oO c [0,1,2,3,4]))]⟩ (.one 0 (.one 1 (.one 2 (.one 4 (.one 5 (.two 3 (.one 6 (.one 7 (.leaf))) 6 (.one 3 (.one 7 (.leaf))))))))) [([],[]),([],[]),([],[]),([0],[]),([],[]),([],[]),([0,1,2,3,4],[0,1,2,3,4,93,94,95,96,97,98,99,100]),([4],[4])] 2 [] [] [0,1,2,3,4] [] (bG k L m p u v x z A (dN .str B D J)) 5 5 (Ts 6 ((pO c)::(pO c)::(Ts 3 []))) (by kernel_rfl) (by kernel_rfl) (tr 6 ⟨c,c,(tr 3 tt)⟩) (fun _=> ?_) (fun y O=>by cases O);obtain rfl:=sI h;exact(RO [] [] [0,1,2,3,4] [] (bG k L m p u v x z A (dN .str B D J)) 5 5).normal
   have c:=(aI j);refine pH gS mixed ⟨[],[(6,(oD c [0,1,2,3,4]))]⟩ (.one 0 (.one 1 (.one 2 (.one 4 (.one 5 (.twoD 3 (.dead 6) 6)))))) [([],[]),([],[]),([],[]),([0],[]),([],[]),([],[]),([0,1,2,3,4],[0,1,2,3,4,93,94,95,96,97,98,99,100]),([],[])] 0 [(aT 47 .i64 .i64 (e,f)),(aT 47 .i64 .i64 (e,f))] [] [0,1,2,3,4] [] [] 5 5 (Ts 6 [jP Tryz.prog 133 [.adr 0 0 10 0,.u8 59] (bG k I m p u v x z A B) (aT 47 .i64 .i64 (e,f)),jP Tryz.prog 133 [.adr 0 0 10 0,.u8 59] (bG k I m p u v x z A B) (aT 47 .i64 .i64 (e,f))]) (by kernel_rfl) (by kernel_rfl) (tr 6 ⟨(aI j),(aI j),tt⟩) (fun h0=>absurd rfl h0) (fun y O σ1=> ?_);obtain rfl:y=(aT 47 .i64 .i64 (e,f)):=by simpa using O
   obtain rfl:=sI h;exact rfl
  refine GX 1 [0,1,2,3,4] (aR E) (fun _=>aC ?_);obtain rfl:=sI h;exact rfl
 refine GX 1 [0,1,2,3,4] (dc V) (fun _=>aC ?_);obtain rfl:=sI h;exact rfl
def gk(x:List UInt8)(I e f z A:Int)(B:List (List UInt8))(C:List Int)(D:List Z8)(E:List Z6):Option (eD⊕(Int×Int)) :=
 ((bK 47 x I e f z A B C D E).bind fun(J:(Int×Int)⊕(Int×Int))=>match J with
 | .inr (j,k)=>some (Sum.inr (j,k))
 | .inl (c,m)=>((bK 59 x m (bitsOf .or .u32 e c) f z A B C D E).bind fun(L:(Int×Int)⊕(Int×Int))=>match L with
 | .inr (p,q)=>some (Sum.inr (p,q))
 | .inl (u,v)=>some (Sum.inl (v,(bitsOf .or .u32 e c),(bitsOf .or .u32 f u)))))
theorem iy{p:List UInt8}{N C:Int}{D u v:Int}{x:List (List UInt8)}{z:List Int}{A:List Z8}{B:List Z6}{J:eD⊕(Int×Int)}(h:gk p N C D u v x z A B=some J):
  iO Tryz.prog 99 [.adr 0 0 10 0] (bG p N C D u v x z A B) (j8 (fun(q:Int×Int×Int)=>(.tup [],(bG p q.1 q.2.1 q.2.2 u v x z A B))) (aT 47 .i64 .i64) J):=by
 refine DB Tryz.func99 (fun Bw w0=> ?_);unfold gk at h;refine af ?_;obtain⟨X,O,h⟩:=aj h;rcases X with⟨e,E⟩ | ⟨f,j⟩
 ·have c:=(aI O);refine pH gS mixed ⟨[],[(6,(oO c [0,1,2,3,4]))]⟩ (.one 0 (.one 1 (.one 2 (.one 3 (.one 5 (.two 4 (.one 6 (.one 7 (.one 8 (.one 9 (.one 10 (.one 11 (.leaf))))))) 6 (.one 4 (.one 7 (.one 8 (.one 9 (.one 10 (.one 11 (.leaf))))))))))))) [([],[]),([],[]),([],[]),([],[]),([0],[]),([],[]),([0,1,2,3,4],[0,1,2,3,4,53,54,55,56,57,58,59,60]),([],[]),([],[]),([],[]),([],[]),([0],[0])] 2 [] [] [0,1,2,3,4] [(0,.adr 0 0 10 0)] (bG p E (bitsOf .or .u32 C e) D u v x z A B) 5 5 (Ts 6 ((pO c)::(pO c)::(Ts 11 []))) (by kernel_rfl) (by kernel_rfl) (tr 6 ⟨c,c,(tr 11 tt)⟩) (fun _=> ?_) (fun y I=>by cases I);refine ab ?_;obtain⟨Y,R,h⟩:=aj h;rcases Y with⟨L,M⟩ | ⟨k,m⟩
  ·have c:=(aI R);refine pH gS mixed ⟨[],[(6,(oO c [0,1,2,3,4]))]⟩ (.one 0 (.one 1 (.one 2 (.one 3 (.one 5 (.two 4 (.one 6 (.one 7 (.one 8 (.one 9 (.one 10 (.one 11 (.leaf))))))) 6 (.one 4 (.one 7 (.one 8 (.one 9 (.one 10 (.one 11 (.leaf))))))))))))) [([],[]),([],[]),([],[]),([],[]),([0],[]),([],[]),([0,1,2,3,4],[0,1,2,3,4,53,54,55,56,57,58,59,60]),([],[]),([],[]),([],[]),([],[]),([0],[0])] 2 [] [] [0,1,2,3,4] [] (bG p M (bitsOf .or .u32 C e) (bitsOf .or .u32 D L) u v x z A B) 5 5 (Ts 6 ((pO c)::(pO c)::(Ts 11 []))) (by kernel_rfl) (by kernel_rfl) (tr 6 ⟨c,c,(tr 11 tt)⟩) (fun _=> ?_) (fun y I=>by cases I);obtain rfl:=sI h;exact(RO [] [] [0,1,2,3,4] [] (bG p M (bitsOf .or .u32 C e) (bitsOf .or .u32 D L) u v x z A B) 5 5).normal
  have c:=(aI R);refine pH gS mixed ⟨[],[(6,(oD c [0,1,2,3,4]))]⟩ (.one 0 (.one 1 (.one 2 (.one 3 (.one 5 (.twoD 4 (.dead 6) 6)))))) [([],[]),([],[]),([],[]),([],[]),([0],[]),([],[]),([0,1,2,3,4],[0,1,2,3,4,53,54,55,56,57,58,59,60]),([],[]),([],[]),([],[]),([],[]),([],[])] 0 [(aT 47 .i64 .i64 (k,m)),(aT 47 .i64 .i64 (k,m))] [] [0,1,2,3,4] [] [] 5 5 (Ts 6 [jP Tryz.prog 133 [.adr 0 0 10 0,.u8 59] (bG p E (bitsOf .or .u32 C e) D u v x z A B) (aT 47 .i64 .i64 (k,m)),jP Tryz.prog 133 [.adr 0 0 10 0,.u8 59] (bG p E (bitsOf .or .u32 C e) D u v x z A B) (aT 47 .i64 .i64 (k,m))]) (by kernel_rfl) (by kernel_rfl) (tr 6 ⟨(aI R),(aI R),tt⟩) (fun V=>absurd rfl V) (fun y I σ1=> ?_);obtain rfl:y=(aT 47 .i64 .i64 (k,m)):=by simpa using I
  obtain rfl:=sI h;exact rfl
 have c:=(aI O);refine pH gS mixed ⟨[],[(6,(oD c [0,1,2,3,4]))]⟩ (.one 0 (.one 1 (.one 2 (.one 3 (.one 5 (.twoD 4 (.dead 6) 6)))))) [([],[]),([],[]),([],[]),([],[]),([0],[]),([],[]),([0,1,2,3,4],[0,1,2,3,4,53,54,55,56,57,58,59,60]),([],[]),([],[]),([],[]),([],[]),([],[])] 0 [(aT 47 .i64 .i64 (f,j)),(aT 47 .i64 .i64 (f,j))] [] [0,1,2,3,4] [] [] 5 5 (Ts 6 [jP Tryz.prog 133 [.adr 0 0 10 0,.u8 47] (bG p N C D u v x z A B) (aT 47 .i64 .i64 (f,j)),jP Tryz.prog 133 [.adr 0 0 10 0,.u8 47] (bG p N C D u v x z A B) (aT 47 .i64 .i64 (f,j))]) (by kernel_rfl) (by kernel_rfl) (tr 6 ⟨(aI O),(aI O),tt⟩) (fun V=>absurd rfl V) (fun y I σ1=> ?_);obtain rfl:y=(aT 47 .i64 .i64 (f,j)):=by simpa using I
 refine aC ?_;obtain rfl:=sI h;exact rfl
def ez(v:List UInt8)(I x z A B:Int)(f:List (List UInt8))(C:List Int)(D:List Z8)(E:List Z6):Option ((Int×Int)⊕(Int×Int)) :=
 ((cj v I x z A B f C D E).bind fun(J:((List UInt8)×Int×Int)⊕(Int×Int))=>match J with
 | .inr (j,k)=>some (Sum.inr (j,k))
 | .inl (m,p,c)=>((dJ f m).bind fun e =>
 (if(decide (e<0))=true then((aW 22 p v c x z A B f C D E).bind fun(L:(Unit)⊕(Int×Int))=>match L with
 | .inr (q,u)=>some (Sum.inr (q,u))
 | .inl _=>none)
 else some (Sum.inl (e,c)))))
theorem bU{e:List UInt8}{D f:Int}{j k m:Int}{p:List (List UInt8)}{u:List Int}{v:List Z8}{x:List Z6}{c:(Int×Int)⊕(Int×Int)}(h:ez e D f j k m p u v x=some c):
  iO Tryz.prog 134 [.adr 0 0 10 0] (bG e D f j k m p u v x) (j8 (fun(q:Int×Int)=>(.i64 q.1,(bG e q.2 f j k m p u v x))) (aT 47 .i64 .i64) c):=by
 refine DB Tryz.func134 (fun Bw w0=> ?_);unfold ez at h;refine G (af ?_);obtain⟨I,E,h⟩:=aj h;rcases I with⟨J,L,z⟩ | ⟨M,N⟩
 ·refine kO 1 [0,1,2,3,4] (bp E) (ab ?_);obtain⟨A,B,h⟩:=aj h;refine GP 6 (jT true B) (af (G (aA h (fun O h=> ?_) (fun O h=> ?_))))
  ·obtain⟨R,C,h⟩:=aj h;rcases R with _ | ⟨V,X⟩
   ·cases h
   refine GX 2 [0,1,2,3,4] (aS C) (fun _=>aC ?_);obtain rfl:=sI h;exact rfl
  refine ae (ab (G (ao ?_)));obtain rfl:=sI h;exact RO [some (.int .i64)] [] [0,1,2,3,4] [(2,.i64 A)] (bG e z f j k m p u v x) 5 5
 refine GX 1 [0,1,2,3,4] (bp E) (fun _=>aC ?_);obtain rfl:=sI h;exact rfl
def fD(j:List UInt8)(Z k m p q:Int)(u:List (List UInt8))(e:List Int)(v:List Z8)(x:List Z6):Option ((Int×List Int)⊕(Int×Int)) :=
 ((ez j Z k m p q u e v x).bind fun(z:(Int×Int)⊕(Int×Int))=>match z with
 | .inr (A,B)=>some (Sum.inr (A,B))
 | .inl (c,C)=>((bE 61 j C k m p q u e v x).bind fun(D:(Int)⊕(Int×Int))=>match D with
 | .inr (E,I)=>some (Sum.inr (E,I))
 | .inl J=>((ez j J k m p q u e v x).bind fun(L:(Int×Int)⊕(Int×Int))=>match L with
 | .inr (M,N)=>some (Sum.inr (M,N))
 | .inl (f,O)=>(if 0≤c∧c<(e.length:Int)then(if c.toNat<e.length then((bE 59 j O k m p q u (e.set c.toNat f) v x).bind fun(R:(Int)⊕(Int×Int))=>match R with
 | .inr (V,X)=>some (Sum.inr (V,X))
 | .inl Y=>some (Sum.inl (Y,(e.set c.toNat f))))else none)else none))))
theorem gZ{p:List UInt8}{p2 u:Int}{v x z:Int}{A:List (List UInt8)}{k:List Int}{B:List Z8}{C:List Z6}{D:(Int×List Int)⊕(Int×Int)}(h:fD p p2 u v x z A k B C=some D):
  iO Tryz.prog 100 [.adr 0 0 10 0] (bG p p2 u v x z A k B C) (j8 (fun(q:Int×List Int)=>(.tup [],(bG p q.1 u v x z A q.2 B C))) (aT 47 .i64 .i64) D):=by
 refine DB Tryz.func100 (fun Bw w0=> ?_);unfold fD at h;refine af ?_;obtain⟨N,E,h⟩:=aj h;rcases N with⟨c,a1⟩ | ⟨a2,a3⟩
 ·refine kO 1 [0,1,2,3,4] (bU E) (ab (af ?_));obtain⟨O,I,h⟩:=aj h;rcases O with J | ⟨a4,a5⟩
  ·refine kO 1 [0,1,2,3,4] (aR I) (ab (af ?_));obtain⟨R,m,h⟩:=aj h;rcases R with⟨L,V⟩ | ⟨f,j⟩
   ·obtain⟨c7,c8,h⟩:=g2 h;have e:=(bU m);refine pH gS mixed ⟨[],[(7,(oO e [0,1,2,3,4]))]⟩ (.one 0 (.one 1 (.one 2 (.one 3 (.one 5 (.one 6 (.two 4 (.one 7 (.one 8 (.one 9 (.leaf)))) 7 (.one 4 (.one 8 (.one 9 (.leaf))))))))))) [([],[]),([],[]),([],[]),([],[]),([0],[]),([],[]),([],[]),([0,1,2,3,4],[0,1,2,3,4,101,102,103,104,105,106,107,108]),([2],[]),([2],[2])] 2 [] [] [0,1,2,3,4] [(0,.adr 0 0 10 0)] (bG p V u v x z A (k.set c.toNat L) B C) 5 5 (Ts 7 [pO e,pO e,0≤c∧c<(k.length:Int),c.toNat<k.length,True,0≤c∧c<(k.length:Int),c.toNat<k.length]) (by kernel_rfl) (by kernel_rfl) (tr 7 ⟨e,e,c7,c8,tt,c7,c8,tt⟩) (fun _=> ?_) (fun y X=>by cases X);refine ab ?_;obtain⟨Y,M,h⟩:=aj h;rcases Y with Z | ⟨a6,a7⟩
    ·refine kO 1 [0,1,2,3,4] (aR M) ?_;obtain rfl:=sI h;exact(RO [] [] [0,1,2,3,4] [] (bG p Z u v x z A (k.set c.toNat L) B C) 5 5).normal
    refine GX 1 [0,1,2,3,4] (aR M) (fun _=> ?_);obtain rfl:=sI h;exact rfl
   have e:=(bU m);refine pH gS mixed ⟨[],[(7,(oD e [0,1,2,3,4]))]⟩ (.one 0 (.one 1 (.one 2 (.one 3 (.one 5 (.one 6 (.twoD 4 (.dead 7) 7))))))) [([],[]),([],[]),([],[]),([],[]),([0],[]),([],[]),([],[]),([0,1,2,3,4],[0,1,2,3,4,101,102,103,104,105,106,107,108]),([],[]),([],[])] 0 [(aT 47 .i64 .i64 (f,j)),(aT 47 .i64 .i64 (f,j))] [] [0,1,2,3,4] [] [] 5 5 (Ts 7 [jP Tryz.prog 134 [.adr 0 0 10 0] (bG p J u v x z A k B C) (aT 47 .i64 .i64 (f,j)),jP Tryz.prog 134 [.adr 0 0 10 0] (bG p J u v x z A k B C) (aT 47 .i64 .i64 (f,j))]) (by kernel_rfl) (by kernel_rfl) (tr 7 ⟨(bU m),(bU m),tt⟩) (fun h0=>absurd rfl h0) (fun y X σ1=> ?_);obtain rfl:y=(aT 47 .i64 .i64 (f,j)):=by simpa using X
   refine aC ?_;obtain rfl:=sI h;exact rfl
  refine GX 1 [0,1,2,3,4] (aR I) (fun _=>aC ?_);obtain rfl:=sI h;exact rfl
 refine GX 1 [0,1,2,3,4] (bU E) (fun _=>aC ?_);obtain rfl:=sI h;exact rfl
def fH(c:(List UInt8)→Int→Int→Int→Int→Int→(List (List UInt8))→(List Int)→(List Z8)→(List Z6)→Option (qc⊕(Int×Int)))(k:List UInt8)(d2 m p f j:Int)(e:List (List UInt8))(q:List Int)(u:List Z8)(v:List Z6):Option (qc⊕(Int×Int)) :=
 ((bk 40 k d2 m p f j e q u v).bind fun(a3:(Bool×Int)⊕(Int×Int))=>match a3 with
 | .inr (a4,a5)=>some (Sum.inr (a4,a5))
 | .inl (a6,x)=>(if a6=true then(if(decide ((i64.wrap (j+1)) > 16))=true then((aW 25 d2 k x m p f (i64.wrap (j+1)) e q u v).bind fun(a7:(Unit)⊕(Int×Int))=>match a7 with
 | .inr (a8,a9)=>some (Sum.inr (a8,a9))
 | .inl _=>none)
 else((c k x m p f (i64.wrap (j+1)) e q u v).bind fun(aa:qc⊕(Int×Int))=>match aa with
 | .inr (ac,ad)=>some (Sum.inr (ac,ad))
 | .inl (z,ax,A,B)=>((bE 41 k ax m p A B e q u v).bind fun(b1:(Int)⊕(Int×Int))=>match b1 with
 | .inr (b2,b3)=>some (Sum.inr (b2,b3))
 | .inl b4=>some (Sum.inl ((Tree.node z.op z.set z.kids),b4,A,(i64.wrap (B - 1)))))))
 else(if(decide ((i64.wrap (f+1)) > 200))=true then((aW 26 d2 k x m p (i64.wrap (f+1)) j e q u v).bind fun(b5:(Unit)⊕(Int×Int))=>match b5 with
 | .inr (b6,be)=>some (Sum.inr (b6,be))
 | .inl _=>none)
 else(if 0≤(e.length:Int)then((bk 46 k x m p (i64.wrap (f+1)) j e q u v).bind fun(bi:(Bool×Int)⊕(Int×Int))=>match bi with
 | .inr (bs,bt)=>some (Sum.inr (bs,bt))
 | .inl (bv,C)=>(((if bv=true then some ((Sum.inl ((u32.wrap ((u32.wrap (1*2 ^ (min (e.length:Int).toNat u32.bits))) - 1)),C)))
 else((bk 91 k C m p (i64.wrap (f+1)) j e q u v).bind fun(bx:(Bool×Int)⊕(Int×Int))=>match bx with
 | .inr (D,E)=>some ((Sum.inr (D,E)))
 | .inl (c1,I)=>(if c1=true then((bk 94 k I m p (i64.wrap (f+1)) j e q u v).bind fun(c2:(Bool×Int)⊕(Int×Int))=>match c2 with
 | .inr (J,L)=>some ((Sum.inr (J,L)))
 | .inl (c3,c4)=>((bK 93 k c4 m p (i64.wrap (f+1)) j e q u v).bind fun(c5:(Int×Int)⊕(Int×Int))=>match c5 with
 | .inr (M,N)=>some ((Sum.inr (M,N)))
 | .inl (O,R)=>(if c3=true then some ((Sum.inl ((bitsOf .andNot .u32 (u32.wrap ((u32.wrap (1*2 ^ (min (e.length:Int).toNat u32.bits))) - 1)) O),R)))
 else some ((Sum.inl (O,R))))))
 else((dK k I m p (i64.wrap (f+1)) j e q u v).bind fun(c6:(Int×Int)⊕(Int×Int))=>match c6 with
 | .inr (V,X)=>some ((Sum.inr (V,X)))
 | .inl (Y,Z)=>some ((Sum.inl (Y,Z)))))))).bind fun(a1:((Int×Int)⊕(Int×Int)))=>match a1 with
 | .inl (v6,v7)=>some (Sum.inl ((Tree.node 1 v6 ([]:List Tree)),v7,(i64.wrap (f+1)),j))
 | .inr ((c7,a2))=>some (Sum.inr (c7,a2))))else none))))
theorem hD(f:(List UInt8)→Int→Int→Int→Int→Int→(List (List UInt8))→(List Int)→(List Z8)→(List Z6)→Option (qc⊕(Int×Int)))(c:∀ {X:List UInt8} {p2 Y:Int} {Z p5 p6:Int} {k:List (List UInt8)} {m:List Int} {u:List Z8} {v:List Z6} {j:qc⊕(Int×Int)},f X p2 Y Z p5 p6 k m u v=some j→iO Tryz.prog 138 [.adr 0 0 10 0] (bG X p2 Y Z p5 p6 k m u v) (j8 (fun(q:Tree×Int×Int×Int)=>(.agg [.u8 q.1.op,.u32 q.1.set,.p false (.slice (.tree .u8 .u32)) q.1.kids],(bG X q.2.1 Y Z q.2.2.1 q.2.2.2 k m u v))) (aT 47 .i64 .i64) j)){A:List UInt8}{d2 B:Int}{C R V:Int}{k:List (List UInt8)}{m:List Int}{u:List Z8}{v:List Z6}{j:qc⊕(Int×Int)}(h:fH f A d2 B C R V k m u v=some j):
  iO Tryz.prog 162 [.adr 0 0 10 0] (bG A d2 B C R V k m u v) (j8 (fun(q:Tree×Int×Int×Int)=>(.agg [.u8 q.1.op,.u32 q.1.set,.p false (.slice (.tree .u8 .u32)) q.1.kids],(bG A q.2.1 B C q.2.2.1 q.2.2.2 k m u v))) (aT 47 .i64 .i64) j):=by
 refine DB Tryz.func162 (fun Bw w0=> ?_);unfold fH at h;refine G (G (af (af ?_)));obtain⟨a1,D,h⟩:=aj h;rcases a1 with⟨c9,cc⟩ | ⟨ch,cp⟩
 ·refine kO 1 [0,1,2,3,4] (aJ D) (ab (aA h (fun a2 h=> ?_) (fun a2 h=> ?_)))
  ·refine af (G (G (aA h (fun a3 h=> ?_) (fun a3 h=> ?_))))
   ·obtain⟨a4,a5,h⟩:=aj h;rcases a4 with _ | ⟨cs,cx⟩
    ·cases h
    refine GX 2 [0,1,2,3,4] (aS a5) (fun _=>aC (aC ?_));obtain rfl:=sI h;exact rfl
   refine ae (ab (af ?_));obtain⟨a6,E,h⟩:=aj h;rcases a6 with⟨z,d7,a7,a8⟩ | ⟨d8,d9⟩
   ·refine kO 1 [0,1,2,3,4] (c E) (ab (af ?_));obtain⟨a9,I,h⟩:=aj h;rcases a9 with aa | ⟨dd,de⟩
    ·refine kO 1 [0,1,2,3,4] (aR I) (ab (G (G (ao (ah ?_)))));obtain rfl:=sI h;exact RO [some (.tree .u8 .u32)] [] [0,1,2,3,4,5] [(2,.adr 5 0 3 0)] (DL A aa B C a7 (i64.wrap (a8 - 1)) k m u v z.op z.set z.kids) 6 5
    refine GX 1 [0,1,2,3,4] (aR I) (fun _=>aC (aC ?_));obtain rfl:=sI h;exact rfl
   refine GX 1 [0,1,2,3,4] (c E) (fun _=>aC (aC ?_));obtain rfl:=sI h;exact rfl
  refine ae (ab (af (G (G (aA h (fun ac h=> ?_) (fun ac h=> ?_))))))
  ·obtain⟨ad,ax,h⟩:=aj h;rcases ad with _ | ⟨di,dk⟩
   ·cases h
   refine GX 2 [0,1,2,3,4] (aS ax) (fun _=>aC ?_);obtain rfl:=sI h;exact rfl
  refine ae (ab (G (GC 6 h (fun h=>af (ak (af ?_))))));obtain⟨b1,J,h⟩:=aj h;rcases b1 with⟨dm,ds⟩ | ⟨dt,du⟩
  ·refine kO 1 [0,1,2,3,4] (aJ J) (ab (Db h (cN (od Tryz.f162.ntmps (fun(v6,v7)=>ay [(2,.adr 5 0 3 0),(5,.adr 6 0 3 0)] (Mi A v7 B C (i64.wrap (R+1)) V k m u v 0 (0:Int) (1:Int) v6) 7 5)) (sV (aT 47 .i64 .i64))) (fun x h=> ?_) (fun x h e σ' hq=> ?_)))
   ·refine aA h (fun b2 h=> ?_) (fun b2 h=> ?_)
    ·refine Ge ?_;obtain rfl:=sI h;exact aX (cu (gg [] [0,1,2,3,4,5,181]))
    refine af ?_;obtain⟨b3,L,h⟩:=aj h;rcases b3 with⟨e1,e2⟩ | ⟨bt,bv⟩
    ·refine kO 1 [0,1,2,3,4] (aJ L) (ab (aA h (fun b4 h=> ?_) (fun b4 h=> ?_)))
     ·refine af ?_;obtain⟨b5,M,h⟩:=aj h;rcases b5 with⟨e3,e4⟩ | ⟨bx,c1⟩
      ·refine kO 1 [0,1,2,3,4] (aJ M) (ab (af ?_));obtain⟨b6,N,h⟩:=aj h;rcases b6 with⟨e5,e6⟩ | ⟨c2,c3⟩
       ·refine kO 1 [0,1,2,3,4] (aI N) (ab (G (aA h (fun be h=> ?_) (fun be h=> ?_))))
        ·refine Ge ?_;obtain rfl:=sI h;exact aX (cu (gg [] [0,1,2,3,4,5,181]))
        refine ae ?_;obtain rfl:=sI h;exact aX (cu (gg [] [0,1,2,3,4,5,181]))
       refine GX 1 [0,1,2,3,4] (aI N) (fun _=> ?_);obtain rfl:=sI h;refine aC (aK ?_);exact rfl
      refine GX 1 [0,1,2,3,4] (aJ M) (fun _=> ?_);obtain rfl:=sI h;refine aC (aK ?_);exact rfl
     obtain⟨bi,O,h⟩:=aj h;rcases bi with⟨c4,c5⟩ | ⟨c6,c7⟩
     ·refine kO 1 [0,1,2,3,4] (cY O) ?_;obtain rfl:=sI h;exact aX (cu (gg [] [0,1,2,3,4,5,181]))
     refine GX 1 [0,1,2,3,4] (cY O) (fun _=> ?_);obtain rfl:=sI h;exact aK (rfl)
    refine GX 1 [0,1,2,3,4] (aJ L) (fun _=> ?_);obtain rfl:=sI h;refine aC (aK ?_);exact rfl
   rcases x with⟨v6,v7⟩ | ⟨e7,c8⟩
   ·obtain⟨rfl,bs⟩:=hq;refine bY ?_ bs;refine au (ab (G (ao ?_)));obtain rfl:=sI h;exact RO [some (.tree .u8 .u32)] [] [0,1,2,3,4,5] [(2,.adr 5 0 3 0)] (KQ A v7 B C (i64.wrap (R+1)) V k m u v 1 v6) 6 5
   obtain rfl:=hq;refine bh (aC ?_);obtain rfl:=sI h;exact rfl
  refine GX 1 [0,1,2,3,4] (aJ J) (fun _=>aC (bh (aC ?_)));obtain rfl:=sI h;exact rfl
 refine GX 1 [0,1,2,3,4] (aJ D) (fun _=>aC (aC ?_));obtain rfl:=sI h;exact rfl
def gV(D:List UInt8)(E I:Int)(J:List (List UInt8))(L:List Int)(M:List Z8)(N:List Z6)(e:Tree)(j k:Int):(Int×Int)→Option ((Int×Int)⊕((Int)⊕((Int×Int)⊕qc))):=fun(f,c) =>
 (if(decide (c<7))=true then(if 0≤c∧c<((7:Nat):Int)then(((if((([0,0,0,0,42,43,63]:List Int).getD c.toNat 0) != 0)=true then((bk (([0,0,0,0,42,43,63]:List Int).getD c.toNat 0) D f E I j k J L M N).bind fun(p:(Bool×Int)⊕(Int×Int))=>match p with
 | .inr (q,u)=>some ((Sum.inr (q,u)))
 | .inl (v,x)=>some ((Sum.inl (x,v))))
 else some ((Sum.inl (f,false))))).bind fun(z:((Int×Bool)⊕(Int×Int)))=>match z with
 | .inl (m,A)=>(if A=true then some (Sum.inr (Sum.inr (Sum.inr ((Tree.node (u8.wrap c) (0:Int) ([(Tree.node e.op e.set e.kids)]:List Tree)),m,j,k))))
 else some (Sum.inl (m,(i64.wrap (c+1)))))
 | .inr ((B,C))=>some (Sum.inr (Sum.inr (Sum.inl (B,C)))))else none)
 else some (Sum.inr (Sum.inl f)))
def fE(c:(List UInt8)→Int→Int→Int→Int→Int→(List (List UInt8))→(List Int)→(List Z8)→(List Z6)→Option (qc⊕(Int×Int)))(E:List UInt8)(R I J V X:Int)(L:List (List UInt8))(M:List Int)(N:List Z8)(O:List Z6):Option (qc⊕(Int×Int)) :=
 ((fH c E R I J V X L M N O).bind fun(k:qc⊕(Int×Int))=>match k with
 | .inr (m,p)=>some (Sum.inr (m,p))
 | .inl (e,q,f,j)=>((iter (gV E I J L M N O e f j) (q,0)).bind fun(u:((Int)⊕((Int×Int)⊕qc)))=>match u with
 | .inl v=>some (Sum.inl ((Tree.node e.op e.set e.kids),v,f,j))
 | .inr (.inl (x,z))=>some (Sum.inr (x,z))
 | .inr (.inr ((A,B,C,D)))=>some (Sum.inl (A,B,C,D))))
theorem hH(c:(List UInt8)→Int→Int→Int→Int→Int→(List (List UInt8))→(List Int)→(List Z8)→(List Z6)→Option (qc⊕(Int×Int)))(f:∀ {m:List UInt8} {V u:Int} {v X Y:Int} {x:List (List UInt8)} {z:List Int} {A:List Z8} {B:List Z6} {D:qc⊕(Int×Int)},c m V u v X Y x z A B=some D→iO Tryz.prog 138 [.adr 0 0 10 0] (bG m V u v X Y x z A B) (j8 (fun(q:Tree×Int×Int×Int)=>(.agg [.u8 q.1.op,.u32 q.1.set,.p false (.slice (.tree .u8 .u32)) q.1.kids],(bG m q.2.1 u v q.2.2.1 q.2.2.2 x z A B))) (aT 47 .i64 .i64) D)){m:List UInt8}{V u:Int}{v X Y:Int}{x:List (List UInt8)}{z:List Int}{A:List Z8}{B:List Z6}{D:qc⊕(Int×Int)}(h:fE c m V u v X Y x z A B=some D):
  iO Tryz.prog 159 [.adr 0 0 10 0] (bG m V u v X Y x z A B) (j8 (fun(q:Tree×Int×Int×Int)=>(.agg [.u8 q.1.op,.u32 q.1.set,.p false (.slice (.tree .u8 .u32)) q.1.kids],(bG m q.2.1 u v q.2.2.1 q.2.2.2 x z A B))) (aT 47 .i64 .i64) D):=by
 refine DB Tryz.func159 (fun Bw w0=> ?_);unfold fE at h;refine G (af ?_);obtain⟨a8,Z,h⟩:=aj h;rcases a8 with⟨j,ax,E,I⟩ | ⟨b1,b2⟩
 ·refine kO 1 [0,1,2,3,4] (hD c f Z) (ab (af (G (ak ?_))));refine jl h (fun(a1,J)=>ay [(0,.adr 0 0 10 0),(2,.adr 5 0 3 0),(3,.adr 6 0 3 0),(8,.agg [.u8 0,.u8 0,.u8 0,.u8 0,.u8 42,.u8 43,.u8 63]),(9,.i64 J)] (J0 m a1 u v E I x z A B 0 (0:Int) j.op j.set j.kids) 7 5) (cN (dM Tryz.f159.ntmps 0 (fun M=>ay [(2,.adr 5 0 3 0),(3,.adr 6 0 3 0)] (J0 m M u v E I x z A B 0 (0:Int) j.op j.set j.kids) 7 5)) (cN (sV (aT 47 .i64 .i64)) (Da tb Tryz.f159.ntmps Tryz.f159.results.toList (fun(L,a2,a3,a4)=>(.agg [.u8 L.op,.u32 L.set,.p false (.slice (.tree .u8 .u32)) L.kids],(bG m a2 u v a3 a4 x z A B)))))) (gg [] [0,1,2,3,4,5,29]) (fun y o h=> ?_) (fun a9 h e σ' R=> ?_)
  ·obtain⟨a1,J⟩:=y;unfold gV at h;refine G (af (aA h (fun aa h=> ?_) (fun aa h=> ?_)))
   ·refine ae (ab (af (ak (GC 1 h (fun h=>af (Db h (cN (od Tryz.f159.ntmps (fun(N,a5)=>ay [(0,.adr 0 0 10 0),(2,.adr 5 0 3 0),(3,.adr 6 0 3 0),(4,.i64 J),(8,.agg [.u8 0,.u8 0,.u8 0,.u8 0,.u8 42,.u8 43,.u8 63]),(9,.i64 J),(19,.bo a5)] (J0 m N u v E I x z A B 0 (0:Int) j.op j.set j.kids) 7 5)) (sV (aT 47 .i64 .i64))) (fun a6 h=> ?_) (fun a6 h e σ' R=> ?_)))))))
    ·rcases aF h with⟨k,h⟩ | ⟨k,h⟩
     ·obtain⟨ac,a7,h⟩:=aj h;rcases ac with⟨b3,b4⟩ | ⟨b5,b6⟩
      ·have C:=(aJ a7);refine bq ⟨[(2,true),(6,true)],[(5,(oO C [0,1,2,3,4]))]⟩ [(3,4,an k),(5,5,oc (And.intro k C)),(6,6,oc k)] ?_;obtain rfl:=sI h;exact aX (cu (gg [] [0,1,2,3,4,5,6]))
      have C:=(aJ a7);refine MK C ⟨[(2,true)],[(5,(oD C [0,1,2,3,4]))]⟩ 5 [(3,4,an k),(5,5,oc (And.intro k C))] (fun _=> ?_);obtain rfl:=sI h;exact aK (rfl)
     refine bq ⟨[(2,false),(6,false)],[]⟩ [(3,6,oc k)] ?_;obtain rfl:=sI h;exact aX (cu (gg [] [0,1,2,3,4,5,6]))
    rcases a6 with⟨N,a5⟩ | ⟨be,bi⟩
    ·obtain⟨rfl,O⟩:=R;refine bY ?_ O;refine ab (aA h (fun ad h=> ?_) (fun ad h=> ?_))
     ·refine G (nA [.frzC 5 2] (by kernel_rfl) (ao ?_));obtain rfl:=sI h;refine az (ah (br (aK (aK ?_))));exact zu (RO [some (.tree .u8 .u32)] [] [0,1,2,3,4,5] [(2,.adr 5 0 3 0)] (DL m N u v E I x z A B (u8.wrap J) (0:Int) ([(Tree.node j.op j.set j.kids)]:List Tree)) 6 5)
     refine ae (au (ab (Ge ?_)));exact eB h (gg [] [0,1,2,3,4,5,6])
    obtain rfl:=R;obtain rfl:=sI h;refine aC (bh (aC (bL (aK (AK ?_)))));exact rfl
   refine aq (aL ?_);obtain rfl:=sI h;refine cR (aX ?_);exact bC (gg [] [0,1,2,3,4,5,6])
  rcases a9 with M | ⟨bs,bt⟩ | ⟨L,a2,a3,a4⟩
  ·obtain⟨rfl,O⟩:=R;refine bY ?_ O;refine av (ab (G (ao ?_)));obtain rfl:=sI h;exact RO [some (.tree .u8 .u32)] [] [0,1,2,3,4,5] [(2,.adr 5 0 3 0)] (DL m M u v E I x z A B j.op j.set j.kids) 6 5
  ·obtain rfl:=R;refine bh (aC ?_);obtain rfl:=sI h;exact rfl
  obtain⟨rfl,hr⟩:=R;refine az (ah ?_);obtain rfl:=sI h;exact hr
 refine GX 1 [0,1,2,3,4] (hD c f Z) (fun _=>aC ?_);obtain rfl:=sI h;exact rfl
def iR(M:List UInt8)(N O:Int)(R:List (List UInt8))(V:List Int)(X:List Z8)(Y:List Z6)(c:(List UInt8)→Int→Int→Int→Int→Int→(List (List UInt8))→(List Int)→(List Z8)→(List Z6)→Option (qc⊕(Int×Int))):(Int×Int×Int×(List Tree)×Int)→Option ((Int×Int×Int×(List Tree)×Int)⊕(((List Tree)×Int×Int×Int)⊕(Int×Int))):=fun(f,j,k,u,v) =>
 ((((gz v).bind fun x =>
 (if x=true then some (true)
 else(if(v == 40)=true then some (true)
 else(if(v == 91)=true then some (true)
 else some ((v == 46))))))).bind fun z=>(if z=true then((fE c M f N O j k R V X Y).bind fun(A:qc⊕(Int×Int))=>match A with
 | .inr (B,C)=>some (Sum.inr (Sum.inr (B,C)))
 | .inl (e,D,m,p)=>(if(u.length+([(Tree.node e.op e.set e.kids)]:List Tree).length)*32≤140737488355328∧u.length+([(Tree.node e.op e.set e.kids)]:List Tree).length≤9223372036854775807 then((bz M D N O m p R V X Y).bind fun(E:(Int×Int)⊕(Int×Int))=>match E with
 | .inr (I,J)=>some (Sum.inr (Sum.inr (I,J)))
 | .inl (L,q)=>some (Sum.inl (q,m,p,(u++([(Tree.node e.op e.set e.kids)]:List Tree)),L)))else none))
 else some (Sum.inr (Sum.inl (u,f,j,k)))))
def eC(c:(List UInt8)→Int→Int→Int→Int→Int→(List (List UInt8))→(List Int)→(List Z8)→(List Z6)→Option (qc⊕(Int×Int)))(B:List UInt8)(O C D E I:Int)(J:List (List UInt8))(L:List Int)(M:List Z8)(N:List Z6):Option (qc⊕(Int×Int)) :=
 ((bz B O C D E I J L M N).bind fun(p:(Int×Int)⊕(Int×Int))=>match p with
 | .inr (q,u)=>some (Sum.inr (q,u))
 | .inl (v,x)=>((iter (iR B C D J L M N c) (x,E,I,([]:List Tree),v)).bind fun(m:(((List Tree)×Int×Int×Int)⊕(Int×Int)))=>match m with
 | .inl (e,f,j,k)=>(if((e.length:Int) == 0)=true then some (Sum.inl ((Tree.node 0 (0:Int) ([]:List Tree)),f,j,k))
 else(if((e.length:Int) == 1)=true then(if 0≤(0:Int)∧0<(e.length:Int)then(if(0:Int).toNat<e.length then some (Sum.inl ((Tree.node ((e.getD ((0:Int).toNat) (Tree.node 0 0 [])).op) ((e.getD ((0:Int).toNat) (Tree.node 0 0 [])).set) ((e.getD ((0:Int).toNat) (Tree.node 0 0 [])).kids)),f,j,k))else none)else none)
 else some (Sum.inl ((Tree.node 2 (0:Int) e),f,j,k))))
 | .inr ((z,A))=>some (Sum.inr (z,A))))
theorem dA(c:(List UInt8)→Int→Int→Int→Int→Int→(List (List UInt8))→(List Int)→(List Z8)→(List Z6)→Option (qc⊕(Int×Int)))(f:∀ {m:List UInt8} {Y u:Int} {v Z p6:Int} {x:List (List UInt8)} {z:List Int} {A:List Z8} {B:List Z6} {D:qc⊕(Int×Int)},c m Y u v Z p6 x z A B=some D→iO Tryz.prog 138 [.adr 0 0 10 0] (bG m Y u v Z p6 x z A B) (j8 (fun(q:Tree×Int×Int×Int)=>(.agg [.u8 q.1.op,.u32 q.1.set,.p false (.slice (.tree .u8 .u32)) q.1.kids],(bG m q.2.1 u v q.2.2.1 q.2.2.2 x z A B))) (aT 47 .i64 .i64) D)){m:List UInt8}{Y u:Int}{v Z p6:Int}{x:List (List UInt8)}{z:List Int}{A:List Z8}{B:List Z6}{D:qc⊕(Int×Int)}(h:eC c m Y u v Z p6 x z A B=some D):
  iO Tryz.prog 153 [.adr 0 0 10 0] (bG m Y u v Z p6 x z A B) (j8 (fun(q:Tree×Int×Int×Int)=>(.agg [.u8 q.1.op,.u32 q.1.set,.p false (.slice (.tree .u8 .u32)) q.1.kids],(bG m q.2.1 u v q.2.2.1 q.2.2.2 x z A B))) (aT 47 .i64 .i64) D):=by
 refine DB Tryz.func153 (fun Bw w0=> ?_);unfold eC at h;refine G (G (af (af ?_)));obtain⟨a5,a1,h⟩:=aj h;rcases a5 with⟨b3,b4⟩ | ⟨b5,b6⟩
 ·refine kO 1 [0,1,2,3,4] (aP a1) (ab (ak (jl h (fun(N,O,R,l5,c4)=>ay [(0,.adr 0 0 10 0),(2,.adr 5 0 3 0),(3,.sl 6),(4,.u8 c4)] (Gu m N u v O R x z A B 0 (0:Int) l5) 7 5) (cN (dM Tryz.f153.ntmps 0 (fun(X,E,I,J)=>ay [(2,.adr 5 0 3 0),(3,.sl 6)] (Gu m E u v I J x z A B 0 (0:Int) X) 7 5)) (sV (aT 47 .i64 .i64))) (gg [.nilS 3 45 208 (.tree .u8 .u32)] [0,1,2,3,4,5,45]) (fun y o h=> ?_) (fun a2 h e σ' hq=> ?_))))
  ·obtain⟨N,O,R,l5,c4⟩:=y;unfold iR at h;refine af (af (bg h (fun V=>ay [(0,.adr 0 0 10 0),(2,.adr 5 0 3 0),(3,.sl 6),(20,.bo V)] (Gu m N u v O R x z A B 0 (0:Int) l5) 7 5) (fun V h=> ?_) (fun V h=> ?_)))
   ·obtain⟨be,L,h⟩:=aj h;rcases aF h with⟨k,h⟩ | ⟨k,h⟩
    ·have j:=(cJ L);exact bq ⟨[(2,true),(5,true)],[(1,(oP j))]⟩ [(1,1,oc j),(3,5,oc k)] (eN h (gg [] [0,1,2,3,4,5,6]))
    rcases aF h with⟨C,h⟩ | ⟨C,h⟩
    ·have j:=(cJ L);exact bq ⟨[(2,false),(5,false),(6,true),(9,true)],[(1,(oP j))]⟩ [(1,1,oc j),(3,4,an k),(5,5,oc k),(7,9,oc C)] (eN h (gg [] [0,1,2,3,4,5,6]))
    rcases aF h with⟨M,h⟩ | ⟨M,h⟩
    ·have j:=(cJ L);exact bq ⟨[(2,false),(5,false),(6,false),(9,false),(10,true),(13,true)],[(1,(oP j))]⟩ [(1,1,oc j),(3,4,an k),(5,5,oc k),(7,8,an C),(9,9,oc C),(11,13,oc M)] (eN h (gg [] [0,1,2,3,4,5,6]))
    have j:=(cJ L);exact bq ⟨[(2,false),(5,false),(6,false),(9,false),(10,false),(13,false)],[(1,(oP j))]⟩ [(1,1,oc j),(3,4,an k),(5,5,oc k),(7,8,an C),(9,9,oc C),(11,12,an M),(13,13,oc M)] (eN h (gg [] [0,1,2,3,4,5,6]))
   refine ab (aA h (fun a6 h=> ?_) (fun a6 h=> ?_))
   ·refine ae (ab (af (ak ?_)));obtain⟨a7,a3,h⟩:=aj h;rcases a7 with⟨bi,bs,bt,bv⟩ | ⟨bx,c1⟩
    ·obtain⟨a8,h⟩:=aD h;have j:=(hH c f a3);refine bq ⟨[],[(2,(oO j [0,1,2,3,4]))]⟩ [(2,2,oc j),(4,4,oc a8)] (au (ab ?_));obtain⟨a9,a4,h⟩:=aj h;rcases a9 with⟨c2,b2⟩ | ⟨c3,c5⟩
     ·exact kO 1 [0,1,2,3,4] (aP a4) (eB h (gg [] [0,1,2,3,4,5,39]))
     refine GX 1 [0,1,2,3,4] (aP a4) (fun _=> ?_);obtain rfl:=sI h;refine bL (aK ?_);exact rfl
    refine GX 2 [0,1,2,3,4] (hH c f a3) (fun _=> ?_);obtain rfl:=sI h;refine bh (aC (bL (aK ?_)));exact rfl
   refine aq (aL ?_);obtain rfl:=sI h;refine cR (aX ?_);exact bC (gg [] [0,1,2,3,4,5,6])
  rcases a2 with⟨X,E,I,J⟩ | ⟨c6,c7⟩
  ·obtain⟨rfl,aa⟩:=hq;refine bY ?_ aa;refine av (ab (af (G (ak (G (aA h (fun ac h=> ?_) (fun ac h=> ?_)))))))
   ·refine G (ao (az (ah ?_)));obtain rfl:=sI h;exact RO [some (.tree .u8 .u32)] [] [0,1,2,3,4,5] [(2,.adr 5 0 3 0)] (KQ m E u v I J x z A B 0 (0:Int)) 6 5
   refine G (aA h (fun ad h=> ?_) (fun ad h=> ?_))
   ·obtain⟨ax,b1,h⟩:=g2 h;refine GN a0 [(1,1,oc ax),(2,2,oc b1)] (ao (az (ah ?_)));obtain rfl:=sI h;exact RO [some (.tree .u8 .u32)] [] [0,1,2,3,4,5] [(2,.adr 5 0 3 0)] (DL m E u v I J x z A B ((X.getD ((0:Int).toNat) (Tree.node 0 0 [])).op) ((X.getD ((0:Int).toNat) (Tree.node 0 0 [])).set) ((X.getD ((0:Int).toNat) (Tree.node 0 0 [])).kids)) 6 5
   refine ae (au (ab (G (nA [.frzC 5 2] (by kernel_rfl) (ao ?_)))));obtain rfl:=sI h;exact RO [some (.tree .u8 .u32)] [] [0,1,2,3,4,5] [(2,.adr 5 0 3 0)] (DL m E u v I J x z A B 2 (0:Int) X) 6 5
  obtain rfl:=hq;refine bh (aC ?_);obtain rfl:=sI h;exact rfl
 refine GX 1 [0,1,2,3,4] (aP a1) (fun _=>aC (aC ?_));obtain rfl:=sI h;exact rfl
def gK(I:List UInt8)(J L:Int)(M:List (List UInt8))(N:List Int)(O:List Z8)(R:List Z6)(c:(List UInt8)→Int→Int→Int→Int→Int→(List (List UInt8))→(List Int)→(List Z8)→(List Z6)→Option (qc⊕(Int×Int))):(Int×Int×Int×List Tree)→Option ((Int×Int×Int×List Tree)⊕(((List Tree)×Int×Int×Int)⊕(Int×Int))):=fun(C,k,m,f) =>
 ((bk 124 I C J L k m M N O R).bind fun(D:(Bool×Int)⊕(Int×Int))=>match D with
 | .inr (p,q)=>some (Sum.inr (Sum.inr (p,q)))
 | .inl (u,j)=>(if u=true then((eC c I j J L k m M N O R).bind fun(E:qc⊕(Int×Int))=>match E with
 | .inr (v,x)=>some (Sum.inr (Sum.inr (v,x)))
 | .inl (e,z,A,B)=>(if(f.length+([(Tree.node e.op e.set e.kids)]:List Tree).length)*32≤140737488355328∧f.length+([(Tree.node e.op e.set e.kids)]:List Tree).length≤9223372036854775807 then some (Sum.inl (z,A,B,(f++([(Tree.node e.op e.set e.kids)]:List Tree))))else none))
 else some (Sum.inr (Sum.inl (f,j,k,m)))))
def eo(c:(List UInt8)→Int→Int→Int→Int→Int→(List (List UInt8))→(List Int)→(List Z8)→(List Z6)→Option (qc⊕(Int×Int)))(D:List UInt8)(O E I R V:Int)(J:List (List UInt8))(L:List Int)(M:List Z8)(N:List Z6):Option (qc⊕(Int×Int)) :=
 ((eC c D O E I R V J L M N).bind fun(A:qc⊕(Int×Int))=>match A with
 | .inr (B,C)=>some (Sum.inr (B,C))
 | .inl (f,j,k,m)=>((iter (gK D E I J L M N c) (j,k,m,([(Tree.node f.op f.set f.kids)]:List Tree))).bind fun(p:(((List Tree)×Int×Int×Int)⊕(Int×Int)))=>match p with
 | .inl (e,q,u,v)=>(if((e.length:Int) == 1)=true then(if 0≤(0:Int)∧0<(e.length:Int)then(if(0:Int).toNat<e.length then some (Sum.inl ((Tree.node ((e.getD ((0:Int).toNat) (Tree.node 0 0 [])).op) ((e.getD ((0:Int).toNat) (Tree.node 0 0 [])).set) ((e.getD ((0:Int).toNat) (Tree.node 0 0 [])).kids)),q,u,v))else none)else none)
 else some (Sum.inl ((Tree.node 3 (0:Int) e),q,u,v)))
 | .inr ((x,z))=>some (Sum.inr (x,z))))
def cE:Nat→(List UInt8)→Int→Int→Int→Int→Int→(List (List UInt8))→(List Int)→(List Z8)→(List Z6)→Option (qc⊕(Int×Int))
 | 0=>fun _ _ _ _ _ _ _ _ _ _=>none
 | n+1=>eo (cE n)
theorem kC(c:(List UInt8)→Int→Int→Int→Int→Int→(List (List UInt8))→(List Int)→(List Z8)→(List Z6)→Option (qc⊕(Int×Int)))(f:∀ {k:List UInt8} {I m:Int} {u J L:Int} {v:List (List UInt8)} {x:List Int} {z:List Z8} {A:List Z6} {B:qc⊕(Int×Int)},c k I m u J L v x z A=some B→iO Tryz.prog 138 [.adr 0 0 10 0] (bG k I m u J L v x z A) (j8 (fun(q:Tree×Int×Int×Int)=>(.agg [.u8 q.1.op,.u32 q.1.set,.p false (.slice (.tree .u8 .u32)) q.1.kids],(bG k q.2.1 m u q.2.2.1 q.2.2.2 v x z A))) (aT 47 .i64 .i64) B)){k:List UInt8}{I m:Int}{u J L:Int}{v:List (List UInt8)}{x:List Int}{z:List Z8}{A:List Z6}{B:qc⊕(Int×Int)}(h:eo c k I m u J L v x z A=some B):
  iO Tryz.prog 138 [.adr 0 0 10 0] (bG k I m u J L v x z A) (j8 (fun(q:Tree×Int×Int×Int)=>(.agg [.u8 q.1.op,.u32 q.1.set,.p false (.slice (.tree .u8 .u32)) q.1.kids],(bG k q.2.1 m u q.2.2.1 q.2.2.2 v x z A))) (aT 47 .i64 .i64) B):=by
 refine DB Tryz.func138 (fun Bw w0=> ?_);unfold eo at h;refine G (af ?_);obtain⟨a2,M,h⟩:=aj h;rcases a2 with⟨ac,ad,ax,b1⟩ | ⟨c2,c3⟩
 ·refine kO 1 [0,1,2,3,4] (dA c f M) (ab (af (ak (jl h (fun(N,O,R,V)=>ay [(0,.adr 0 0 10 0),(2,.adr 5 0 3 0),(3,.sl 6)] (Gu k N m u O R v x z A 0 (0:Int) V) 7 5) (cN (dM Tryz.f138.ntmps 0 (fun(j,C,D,E)=>ay [(2,.adr 5 0 3 0),(3,.sl 6)] (Gu k C m u D E v x z A 0 (0:Int) j) 7 5)) (sV (aT 47 .i64 .i64))) (gg [] [0,1,2,3,4,5,29]) (fun y o h=> ?_) (fun X h e σ' hq=> ?_)))))
  ·obtain⟨N,O,R,V⟩:=y;unfold gK at h;refine af (af ?_);obtain⟨a3,Y,h⟩:=aj h;rcases a3 with⟨b2,b3⟩ | ⟨b4,b5⟩
   ·refine kO 1 [0,1,2,3,4] (aJ Y) (ab (aA h (fun a4 h=> ?_) (fun a4 h=> ?_)))
    ·refine ae (ab (ak ?_));obtain⟨a5,Z,h⟩:=aj h;rcases a5 with⟨b6,be,bi,bs⟩ | ⟨bt,bv⟩
     ·obtain⟨a6,h⟩:=aD h;have a1:=(dA c f Z);refine bq ⟨[],[(2,(oO a1 [0,1,2,3,4]))]⟩ [(2,2,oc a1),(4,4,oc a6)] (au ?_);exact eB h (gg [] [0,1,2,3,4,5,55])
     refine GX 2 [0,1,2,3,4] (dA c f Z) (fun _=> ?_);obtain rfl:=sI h;refine bh (bL (aK ?_));exact rfl
    refine aq (aL ?_);obtain rfl:=sI h;refine cR (aX ?_);exact bC (gg [] [0,1,2,3,4,5,6])
   refine GX 1 [0,1,2,3,4] (aJ Y) (fun _=> ?_);obtain rfl:=sI h;refine aC (aC (bL (aK ?_)));exact rfl
  rcases X with⟨j,C,D,E⟩ | ⟨bx,c1⟩
  ·obtain⟨rfl,a7⟩:=hq;refine bY ?_ a7;refine av (ab (af (G (aA h (fun a8 h=> ?_) (fun a8 h=> ?_)))))
   ·obtain⟨a9,aa,h⟩:=g2 h;refine GN a0 [(1,1,oc a9),(2,2,oc aa)] (ao (ah ?_));obtain rfl:=sI h;exact RO [some (.tree .u8 .u32)] [] [0,1,2,3,4,5] [(2,.adr 5 0 3 0)] (DL k C m u D E v x z A ((j.getD ((0:Int).toNat) (Tree.node 0 0 [])).op) ((j.getD ((0:Int).toNat) (Tree.node 0 0 [])).set) ((j.getD ((0:Int).toNat) (Tree.node 0 0 [])).kids)) 6 5
   refine ae (ab (G (nA [.frzC 5 2] (by kernel_rfl) (ao ?_))));obtain rfl:=sI h;exact RO [some (.tree .u8 .u32)] [] [0,1,2,3,4,5] [(2,.adr 5 0 3 0)] (DL k C m u D E v x z A 3 (0:Int) j) 6 5
  obtain rfl:=hq;refine bh (aC ?_);obtain rfl:=sI h;exact rfl
 refine GX 1 [0,1,2,3,4] (dA c f M) (fun _=>aC ?_);obtain rfl:=sI h;exact rfl
theorem bW:∀(n:Nat) {e:List UInt8} {x f:Int} {j z A:Int} {k:List (List UInt8)} {m:List Int} {u:List Z8} {v:List Z6} {c:qc⊕(Int×Int)},cE n e x f j z A k m u v=some c→iO Tryz.prog 138 [.adr 0 0 10 0] (bG e x f j z A k m u v) (j8 (fun(q:Tree×Int×Int×Int)=>(.agg [.u8 q.1.op,.u32 q.1.set,.p false (.slice (.tree .u8 .u32)) q.1.kids],(bG e q.2.1 f j q.2.2.1 q.2.2.2 k m u v))) (aT 47 .i64 .i64) c)
 | 0,_,_,_,_,_,_,_,_,_,_,_,h=>by cases h
 | n+1,e,x,f,j,z,A,k,m,u,v,c,h=>kC (cE n) (bW n)  h
def gq(f C:Int)(k:List UInt8)(p2 m p p5 p6:Int)(q:List (List UInt8))(u:List Int)(j:List Z8)(v:List Z6):Option ((Int×(List Z8)×Int×Int)⊕(Int×Int)) :=
 (if(decide ((j.length:Int)≥24))=true then((aW 24 C k p2 m p p5 p6 q u j v).bind fun(D:(Unit)⊕(Int×Int))=>match D with
 | .inr (E,I)=>some (Sum.inr (E,I))
 | .inl _=>none)
 else((cE 1000 k p2 m p p5 p6 q u j v).bind fun(J:qc⊕(Int×Int))=>match J with
 | .inr (L,M)=>some (Sum.inr (L,M))
 | .inl (c,N,x,z)=>((bE 47 k N m p x z q u j v).bind fun(O:(Int)⊕(Int×Int))=>match O with
 | .inr (R,V)=>some (Sum.inr (R,V))
 | .inl X=>((cE 1000 k X m p x z q u j v).bind fun(Y:qc⊕(Int×Int))=>match Y with
 | .inr (Z,a1)=>some (Sum.inr (Z,a1))
 | .inl (e,a2,A,B)=>((bE 59 k a2 m p A B q u j v).bind fun(a3:(Int)⊕(Int×Int))=>match a3 with
 | .inr (a4,a5)=>some (Sum.inr (a4,a5))
 | .inl a6=>(if(j.length+([(f,(Tree.node c.op c.set c.kids),(Tree.node e.op e.set e.kids))]:List Z8).length)*72≤140737488355328∧j.length+([(f,(Tree.node c.op c.set c.kids),(Tree.node e.op e.set e.kids))]:List Z8).length≤9223372036854775807 then some (Sum.inl (a6,(j++([(f,(Tree.node c.op c.set c.kids),(Tree.node e.op e.set e.kids))]:List Z8)),A,B))else none))))))
theorem iu{c j:Int}{x:List UInt8}{Y z:Int}{A Z p6:Int}{B:List (List UInt8)}{C:List Int}{E:List Z8}{D:List Z6}{k:(Int×(List Z8)×Int×Int)⊕(Int×Int)}(h:gq c j x Y z A Z p6 B C E D=some k):
  iO Tryz.prog 103 [.adr 0 0 10 0,.u8 c,.i64 j] (bG x Y z A Z p6 B C E D) (j8 (fun(q:Int×(List Z8)×Int×Int)=>(.tup [],(Ks x q.1 z A q.2.2.1 q.2.2.2 B C D q.2.1))) (aT 47 .i64 .i64) k):=by
 refine DB Tryz.func103 (fun Bw w0=> ?_);unfold gq at h;refine af (G (aA h (fun B2 h=> ?_) (fun B2 h=> ?_)))
 ·obtain⟨I,J,h⟩:=aj h;rcases I with _ | ⟨a1,a2⟩
  ·cases h
  refine GX 2 [0,1,2,3,4] (aS J) (fun _=>aC ?_);obtain rfl:=sI h;exact rfl
 refine ae (ab (G (af ?_)));obtain⟨L,m,h⟩:=aj h;rcases L with⟨e,a3,a4,a5⟩ | ⟨a6,a7⟩
 ·refine kO 1 [0,1,2,3,4] (bW 1000 m) (ab (af ?_));obtain⟨M,p,h⟩:=aj h;rcases M with a8 | ⟨a9,aa⟩
  ·refine kO 1 [0,1,2,3,4] (aR p) (ab (af ?_));obtain⟨N,u,h⟩:=aj h;rcases N with⟨f,ac,O,R⟩ | ⟨ad,ax⟩
   ·refine kO 1 [0,1,2,3,4] (bW 1000 u) (ab (af ?_));obtain⟨V,v,h⟩:=aj h;rcases V with X | ⟨b1,b2⟩
    ·refine kO 1 [0,1,2,3,4] (aR v) (ab ?_);obtain⟨c4,h⟩:=aD h;refine jC a0 [(8,8,oc c4)] ?_;obtain rfl:=sI h;exact(RO [] [] [0,1,2,3,4,253] [] (Ks x X z A O R B C D (E++([(c,(Tree.node e.op e.set e.kids),(Tree.node f.op f.set f.kids))]:List Z8))) 6 5).normal
    refine GX 1 [0,1,2,3,4] (aR v) (fun _=>aC ?_);obtain rfl:=sI h;exact rfl
   refine GX 1 [0,1,2,3,4] (bW 1000 u) (fun _=>aC ?_);obtain rfl:=sI h;exact rfl
  refine GX 1 [0,1,2,3,4] (aR p) (fun _=>aC ?_);obtain rfl:=sI h;exact rfl
 refine GX 1 [0,1,2,3,4] (bW 1000 m) (fun _=>aC ?_);obtain rfl:=sI h;exact rfl
def ke(x:List UInt8):JO→Option (JO⊕(JO⊕(Int×Int))):=fun(b5,c,e,f,p,j,q,k,m) =>
 ((bz x b5 e f k m c p j q).bind fun(b6:(Int×Int)⊕(Int×Int))=>match b6 with
 | .inr (B,C)=>some (Sum.inr (Sum.inr (B,C)))
 | .inl (D,z)=>(if(D != 0)=true then((cj x z e f k m c p j q).bind fun(be:((List UInt8)×Int×Int)⊕(Int×Int))=>match be with
 | .inr (E,I)=>some (Sum.inr (Sum.inr (E,I)))
 | .inl (u,A,v)=>(if(cq .str ([99,108,97,115,115]:List UInt8) u)=true then((fI x v e f k m c p j q).bind fun(bi:(Int×(List (List UInt8))×(List Int)×List Z6)⊕(Int×Int))=>match bi with
 | .inr (J,L)=>some (Sum.inr (Sum.inr (J,L)))
 | .inl (M,N,O,R)=>some (Sum.inl (M,N,e,f,O,j,R,k,m)))
 else(if(cq .str ([115,101,116]:List UInt8) u)=true then((gL x v e f k m c p j q).bind fun(bs:(Int×List Z6)⊕(Int×Int))=>match bs with
 | .inr (V,X)=>some (Sum.inr (Sum.inr (V,X)))
 | .inl (Y,Z)=>some (Sum.inl (Y,c,e,f,p,j,Z,k,m)))
 else(if(cq .str ([106,111,105,110]:List UInt8) u)=true then((gk x v e f k m c p j q).bind fun(bt:eD⊕(Int×Int))=>match bt with
 | .inr (a1,a2)=>some (Sum.inr (Sum.inr (a1,a2)))
 | .inl (a3,a4,a5)=>some (Sum.inl (a3,c,a4,a5,p,j,q,k,m)))
 else(if(cq .str ([116,114,101,97,116]:List UInt8) u)=true then((fD x v e f k m c p j q).bind fun(bv:(Int×List Int)⊕(Int×Int))=>match bv with
 | .inr (a6,a7)=>some (Sum.inr (Sum.inr (a6,a7)))
 | .inl (a8,a9)=>some (Sum.inl (a8,c,e,f,a9,j,q,k,m)))
 else(if((bc .str (dN .str (dN .str (dN .str ([]:List Z6) ([107,101,101,112]:List UInt8) (0:Int)) ([109,97,121]:List UInt8) (1:Int)) ([109,117,115,116]:List UInt8) (2:Int)) u).isSome)=true then((gq ((bc .str (dN .str (dN .str (dN .str ([]:List Z6) ([107,101,101,112]:List UInt8) (0:Int)) ([109,97,121]:List UInt8) (1:Int)) ([109,117,115,116]:List UInt8) (2:Int)) u).getD 0) A x v e f k m c p j q).bind fun(bx:(Int×(List Z8)×Int×Int)⊕(Int×Int))=>match bx with
 | .inr (aa,ac)=>some (Sum.inr (Sum.inr (aa,ac)))
 | .inl (ad,ax,b1,b2)=>some (Sum.inl (ad,c,e,f,p,ax,q,b1,b2)))
 else((aW 21 A x v e f k m c p j q).bind fun(c1:(Unit)⊕(Int×Int))=>match c1 with
 | .inr (b3,b4)=>some (Sum.inr (Sum.inr (b3,b4)))
 | .inl _=>none)))))))
 else some (Sum.inr (Sum.inl (z,c,e,f,p,j,q,k,m)))))
def jj(z:List UInt8)(A B C D E:Int)(I:List Z6):Option (JO⊕(Int×Int)) :=
 ((iter (ke z) (A,([]:List (List UInt8)),B,C,([]:List Int),([]:List Z8),I,D,E)).bind fun(c:(JO⊕(Int×Int)))=>match c with
 | .inl (j,v20,k,m,p,q,u,v,x)=>some (Sum.inl (j,v20,k,m,p,q,u,v,x))
 | .inr ((e,f))=>some (Sum.inr (e,f)))
theorem gR{E:List UInt8}{p2 p3:Int}{p4 p5 p6:Int}{o1:List Z6}{I:JO⊕(Int×Int)}(h:jj E p2 p3 p4 p5 p6 o1=some I):
  iO Tryz.prog 72 [.adr 0 0 10 0] (Lt E p2 p3 p4 p5 p6 o1) (j8 (fun(q:Int×(List (List UInt8))×Int×Int×(List Int)×(List Z8)×(List Z6)×Int×Int)=>(.tup [],(Kb E q.1 q.2.2.1 q.2.2.2.1 q.2.2.2.2.2.2.2.1 q.2.2.2.2.2.2.2.2 q.2.2.2.2.2.2.1 q.2.1 q.2.2.2.2.1 q.2.2.2.2.2.1))) (aT 47 .i64 .i64) I):=by
 refine DB Tryz.func72 (fun Bw w0=> ?_);unfold jj at h;refine G (G (ak (jl h (fun(J,L,M,N,O,R,V,X,Y)=>ay [(0,.adr 0 0 10 0),(2,.mp 5),(3,.mp 6)] (L5 E J M N X Y V L O R (dN .str (dN .str (dN .str ([]:List Z6) ([107,101,101,112]:List UInt8) (0:Int)) ([109,97,121]:List UInt8) (1:Int)) ([109,117,115,116]:List UInt8) (2:Int))) 7 2) (cN (dM Tryz.f72.ntmps 0 (fun(p,v20,u,v,x,z,A,B,C)=>ay [] (Kb E p u v B C A v20 x z) 5 2)) (sV (aT 47 .i64 .i64))) (gg [.nilC 0 2 106 9 .str,.nilC 0 5 107 3 (.int .i64),.nilC 0 6 108 210 (.prod (.int .u8) Cq)] [0,1,106,107,108,2,58]) (fun y o h=> ?_) (fun Z h e σ' hq=> ?_))))
 ·obtain⟨J,L,M,N,O,R,V,X,Y⟩:=y;unfold ke at h;refine af (af ?_);obtain⟨a8,a1,h⟩:=aj h;rcases a8 with⟨be,bi⟩ | ⟨bs,bt⟩
  ·refine kO 1 [0,2,3,4,1] (aP a1) (ab (aA h (fun a9 h=> ?_) (fun a9 h=> ?_)))
   ·refine ae (ab (ak (af ?_)));obtain⟨aa,a2,h⟩:=aj h;rcases aa with⟨c,bv,bx⟩ | ⟨c1,c2⟩
    ·refine kO 1 [0,2,3,4,1] (bp a2) (ab (af ?_));rcases aF h with⟨f,h⟩ | ⟨f,h⟩
     ·refine bq ⟨[],[(2,⟨.unk,[],false,[],[0],[],none⟩)]⟩ [(2,2,oc (And.intro tt f))] (ab (G (nQ rfl ?_)));obtain⟨ac,a3,h⟩:=aj h;rcases ac with⟨c3,c4,c5,c6⟩ | ⟨c7,c8⟩
      ·refine kO 2 [0,2,3,4,1] (hJ a3) (au ?_);exact eB h (gg [] [0,1,175,176,4,5,6])
      refine GX 2 [0,2,3,4,1] (hJ a3) (fun _=> ?_);obtain rfl:=sI h;refine bh (bL (aK ?_));exact rfl
     rcases aF h with⟨j,h⟩ | ⟨j,h⟩
     ·refine bq ⟨[],[(2,⟨.unk,[],false,[],[1],[],none⟩)]⟩ [(2,2,⟨True∧jQ .str [(([99,108,97,115,115]:List UInt8),(hU 97)),(([115,101,116]:List UInt8),(hU 98)),(([106,111,105,110]:List UInt8),(hU 99)),(([116,114,101,97,116]:List UInt8),(hU 100))] c 1,⟨trivial,⟨f,j⟩⟩⟩)] (ab (G (nQ rfl ?_)));obtain⟨ad,a4,h⟩:=aj h;rcases ad with⟨c9,cc⟩ | ⟨ch,cp⟩
      ·refine kO 2 [0,2,3,4,1] (iW a4) (au ?_);exact eB h (gg [] [0,1,2,3,4,5,6])
      refine GX 2 [0,2,3,4,1] (iW a4) (fun _=> ?_);obtain rfl:=sI h;refine bh (bL (aK ?_));exact rfl
     rcases aF h with⟨k,h⟩ | ⟨k,h⟩
     ·refine bq ⟨[],[(2,⟨.unk,[],false,[],[2],[],none⟩)]⟩ [(2,2,⟨True∧jQ .str [(([99,108,97,115,115]:List UInt8),(hU 97)),(([115,101,116]:List UInt8),(hU 98)),(([106,111,105,110]:List UInt8),(hU 99)),(([116,114,101,97,116]:List UInt8),(hU 100))] c 2,⟨trivial,⟨f,⟨j,k⟩⟩⟩⟩)] (ab (G (nQ rfl ?_)));obtain⟨ax,a5,h⟩:=aj h;rcases ax with⟨cs,cx,d1⟩ | ⟨d2,d3⟩
      ·refine kO 2 [0,2,3,4,1] (iy a5) (au ?_);exact eB h (gg [] [0,1,2,3,4,5,6])
      refine GX 2 [0,2,3,4,1] (iy a5) (fun _=> ?_);obtain rfl:=sI h;refine bh (bL (aK ?_));exact rfl
     rcases aF h with⟨D,h⟩ | ⟨D,h⟩
     ·refine bq ⟨[],[(2,⟨.unk,[],false,[],[3],[],none⟩)]⟩ [(2,2,⟨True∧jQ .str [(([99,108,97,115,115]:List UInt8),(hU 97)),(([115,101,116]:List UInt8),(hU 98)),(([106,111,105,110]:List UInt8),(hU 99)),(([116,114,101,97,116]:List UInt8),(hU 100))] c 3,⟨trivial,⟨f,⟨j,⟨k,D⟩⟩⟩⟩⟩)] (ab (G (nQ rfl ?_)));obtain⟨b1,a6,h⟩:=aj h;rcases b1 with⟨d4,d5⟩ | ⟨d6,d7⟩
      ·refine kO 2 [0,2,3,4,1] (gZ a6) (au ?_);exact eB h (gg [] [0,1,2,3,4,5,6])
      refine GX 2 [0,2,3,4,1] (gZ a6) (fun _=> ?_);obtain rfl:=sI h;refine bh (bL (aK ?_));exact rfl
     refine bq ⟨[],[(2,⟨.unk,[],false,[],[4],[],none⟩)]⟩ [(2,2,⟨True∧jQ .str [(([99,108,97,115,115]:List UInt8),(hU 97)),(([115,101,116]:List UInt8),(hU 98)),(([106,111,105,110]:List UInt8),(hU 99)),(([116,114,101,97,116]:List UInt8),(hU 100))] c 4,⟨trivial,⟨f,⟨j,⟨k,⟨D,trivial⟩⟩⟩⟩⟩⟩)] (ab (G (mu rfl (G (G (aA h (fun b2 h=> ?_) (fun b2 h=> ?_)))))))
     ·obtain⟨b3,a7,h⟩:=aj h;rcases b3 with⟨d8,d9,dd,de⟩ | ⟨di,dk⟩
      ·refine kO 3 [0,2,3,4,1] (iu a7) (au ?_);exact eB h (gg [] [0,1,2,3,255,5,6])
      refine GX 3 [0,2,3,4,1] (iu a7) (fun _=> ?_);obtain rfl:=sI h;refine bh (bL (aK ?_));exact rfl
     obtain⟨b4,b5,h⟩:=aj h;rcases b4 with _ | ⟨dm,ds⟩
     ·cases h
     refine GX 2 [0,2,3,4,1] (aS b5) (fun _=> ?_);obtain rfl:=sI h;refine bh (bL (aK ?_));exact rfl
    refine GX 1 [0,2,3,4,1] (bp a2) (fun _=> ?_);obtain rfl:=sI h;refine aC (bh (bL (aK ?_)));exact rfl
   refine aq (aL ?_);obtain rfl:=sI h;refine cR (aX ?_);exact bC (gg [] [0,1,2,3,4])
  refine GX 1 [0,2,3,4,1] (aP a1) (fun _=> ?_);obtain rfl:=sI h;refine aC (aC (bL (aK ?_)));exact rfl
 rcases Z with⟨p,v20,u,v,x,z,A,B,C⟩ | ⟨dt,du⟩
 ·obtain⟨rfl,b6⟩:=hq;refine bY ?_ b6;refine av ?_;obtain rfl:=sI h;exact(RO [] [] [0,1,2,3,4] [] (Kb E p u v B C A v20 x z) 5 2).normal
 obtain rfl:=hq;refine bh ?_;obtain rfl:=sI h;exact rfl
theorem rY(c e:Int):rF Tryz.prog 70 [.adr 0 0 5 0,.adr 1 0 2 0] (Ka 0 (0:Int) (0:Int) (0:Int)) (Ka 0 (0:Int) c e) (aT 47 .i64 .i64 (c,e)):=by
 refine rF.jD (nx:=2) (pn:=2) Tryz.func70 rfl rfl rfl rfl rfl rfl rfl rfl (by kernel_rfl) rfl (fun Bw w0=> ?_);have h:some ()=some ():=rfl;refine GN a0 [(1,1,⟨∃f,Tryz.prog.underlying 20=some (.interface f),⟨_,rfl⟩⟩)] (nQ rfl (GN a0 [(1,1,⟨∃d,Tryz.prog.underlying 47=some d∧(match d with | .interface _=>false | _=>true)=true,⟨_,rfl,rfl⟩⟩)] (af (G (mu rfl (ae (ab (jC a0 [] ?_))))))));exact eN h (gg [] [0,1])
theorem sP:Ji Tryz.prog 70 2:=by
 intro c w j;obtain⟨k,p,rfl⟩:∃k p,c = #[k,p]:=by
  match f:c.toList with
  | [a,b]=>exact⟨a,b,Array.ext' f⟩
  | []=>have:=congrArg List.length f;simp[j]at this
  | [_]=>have:=congrArg List.length f;simp[j]at this
  | _::_::_::_=>have:=congrArg List.length f;simp[j]at this
 refine callsD_of_wpS Tryz.func70 rfl fun e q hu=> ?_
 apply wpS_seq;apply wpS_region;simp[wpOpsS,go_sem,recoverD,hu,Tryz.ntmps70,Exit.thenS];apply wpS_seq;apply wpS_region;simp[wpOpsS,go_sem,Exit.thenS,Act.eval,Act.put];refine wpS_cond (t:=false) (by simp[Act.eval,Array.replicate]) ?_;simp only[Bool.false_eq_true,if_false];refine wpS_of_wp (wp_skip ?_);cases e;simp_all [bodyPostS,results,Tryz.results70]
def ml(c:List UInt8):Option ((Jl×Int×Int)⊕(Int×Int)) :=
 (if(decide ((c.length:Int) > 4096))=true then((lN 24 (4096:Int) c 0 (0:Int) (0:Int) (0:Int) (0:Int) ([]:List Z6)).bind fun(q:(Unit)⊕(Int×Int))=>match q with
 | .inr (u,v)=>some (Sum.inr (u,v))
 | .inl _=>none)
 else((jj c 0 (0:Int) (0:Int) (0:Int) (0:Int) ([]:List Z6)).bind fun(x:JO⊕(Int×Int))=>match x with
 | .inr (z,A)=>some (Sum.inr (z,A))
 | .inl (_,e,f,j,k,p,_,_,_)=>some (Sum.inl ((e,f,j,k,p),0,0))))
def vZ:(Jl×Int×Int)⊕(Int×Int)→Jl×Int×Int
 | .inl x=>x
 | .inr e=>((([]:List (List UInt8)),0,0,([]:List Int),([]:List Z8)),e.1,e.2)
def pv(c:List UInt8):Option (Jl×Int×Int):=(ml c).map vZ
theorem ve(c:List UInt8)(k:(Jl×Int×Int)⊕(Int×Int))(h:ml c=some k):
  Pure Tryz.prog 46 [.st c] (aG (aU false (Jb (fun(q:Jl×Int×Int)=>([⟨JR,q.1⟩,⟨Y2,q.2⟩]:List (Σ T:Ty,T.den))) (fun(e:Int×Int)=>([⟨JR,(([]:List (List UInt8)),0,0,([]:List Int),([]:List Z8))⟩,⟨Y2,(e.1,e.2)⟩]:List (Σ T:Ty,T.den))) k))):=by
 refine Pure.Gp (args:=[.st c]) (gd:=70) (fnd:=Tryz.f70) (l:=[(0,.st c),(2,.adr 0 0 5 0),(3,.adr 1 0 2 0),(4,.adr 2 0 10 0)]) (m:=(Mv 0 (0:Int) (0:Int) (0:Int) c 0 (0:Int) (0:Int) (0:Int) (0:Int) ([]:List Z6))) (nx:=4) (s2:=5) (s3:=2) (lp:=[(2,.adr 0 0 5 0),(3,.adr 1 0 2 0)]) (mp:=(Ka 0 (0:Int) (0:Int) (0:Int))) (nxp:=2) (fv:=aT 47 .i64 .i64) (hin:=(Ka 0 (0:Int) (0:Int) (0:Int))) (hout:=fun e=>(Ka 0 (0:Int) e.1 e.2)) (t2:=2) (t3:=3) (d:=9) gS Tryz.func46 (by kernel_rfl) Tryz.func70 (by kernel_rfl) rfl rfl rfl rfl rfl rfl rfl rfl (nl rfl) rfl rfl (by decide) rfl rfl (by decide) (fun Bw w0=> ?_) (fun Bw w0 D=> ?_) sP (fun e=>rY e.1 e.2) (by kernel_rfl) (fun e=>by kernel_rfl) [JR,Y2] (fun e=>by kernel_rfl)
 ·clear h;have h:some ()=some ():=rfl;refine Ge (ab (Ge ?_));exact eN h (gg [] [0,8,40,24])
 unfold ml at h;refine af (G (aA h (fun B h=> ?_) (fun B h=> ?_)))
 ·obtain⟨C,u,h⟩:=aj h;rcases C with _ | ⟨v,x⟩
  ·cases h
  have f:=(jU u);refine I4 gS ⟨[],[(1,(oD f [2,3]))]⟩ 1 (aT 47 .i64 .i64 (v,x)) [] [0,1] [(2,.adr 0 0 5 0),(3,.adr 1 0 2 0)] (Ka 0 (0:Int) (0:Int) (0:Int)) 2 2 [True,jP Tryz.prog 71 [.adr 0 0 10 0,.i64 24,.i64 4096] (Lt c 0 (0:Int) (0:Int) (0:Int) (0:Int) ([]:List Z6)) (aT 47 .i64 .i64 (v,x))] (by kernel_rfl) (by kernel_rfl) ⟨tt,(jU u),tt⟩ (fun σ1 j=>aC ?_);obtain rfl:=sI h;exact⟨rfl,j⟩
 refine ae (ab (af ?_));obtain⟨E,p,h⟩:=aj h;rcases E with⟨I,J,L,M,N,O,R,V,X⟩ | ⟨z,A⟩
 ·refine kO 1 [2,3] (gR p) (ab (G (nA [.frzC 0 0,.frzC 0 3,.frzC 0 4] (by kernel_rfl) (ao ?_))));obtain rfl:=sI h;exact⟨rfl,RI [JR,Y2]⟩
 have f:=(gR p);refine I4 gS ⟨[],[(1,(oD f [2,3]))]⟩ 1 (aT 47 .i64 .i64 (z,A)) [] [0,1] [(2,.adr 0 0 5 0),(3,.adr 1 0 2 0)] (Ka 0 (0:Int) (0:Int) (0:Int)) 2 2 [True,jP Tryz.prog 72 [.adr 0 0 10 0] (Lt c 0 (0:Int) (0:Int) (0:Int) (0:Int) ([]:List Z6)) (aT 47 .i64 .i64 (z,A))] (by kernel_rfl) (by kernel_rfl) ⟨tt,(gR p),tt⟩ (fun σ1 j=>aC ?_);obtain rfl:=sI h;exact⟨rfl,j⟩
theorem wK{c:List UInt8}{f:Jl×Int×Int}(h:pv c=some f):
  Pure Tryz.prog 46 [.st c] (aG (aU false [⟨JR,f.1⟩,⟨Y2,f.2⟩])):=by
 unfold pv at h;obtain⟨r,j,rfl⟩:=Option.map_eq_some_iff.1 h;have:=ve  c r j;cases r with
 | inl x=>exact this
 | inr e=>exact this
def sf(m:Int)(e:List Tree)(c:Int→Int→(List Tree)→Option (Tree)):((List Tree)×Int)→Option (((List Tree)×Int)⊕(List Tree)):=fun(f,j) =>
 (if(decide (j<(e.length:Int)))=true then(if 0≤j∧j<(e.length:Int)then(((if(m == 2)=true then(if 0≤(i64.wrap ((i64.wrap ((e.length:Int) - 1)) - j))∧(i64.wrap ((i64.wrap ((e.length:Int) - 1)) - j))<(e.length:Int)then some (((e.getD ((i64.wrap ((i64.wrap ((e.length:Int) - 1)) - j)).toNat) (Tree.node 0 0 [])).op,(e.getD ((i64.wrap ((i64.wrap ((e.length:Int) - 1)) - j)).toNat) (Tree.node 0 0 [])).set,(e.getD ((i64.wrap ((i64.wrap ((e.length:Int) - 1)) - j)).toNat) (Tree.node 0 0 [])).kids))else none)
 else some (((e.getD j.toNat (Tree.node 0 0 [])).op,(e.getD j.toNat (Tree.node 0 0 [])).set,(e.getD j.toNat (Tree.node 0 0 [])).kids)))).bind fun(p,q,u)=>((c p q u).bind fun k =>
 (if(f.length+([(Tree.node k.op k.set k.kids)]:List Tree).length)*32≤140737488355328∧f.length+([(Tree.node k.op k.set k.kids)]:List Tree).length≤9223372036854775807 then some (Sum.inl ((f++([(Tree.node k.op k.set k.kids)]:List Tree)),(i64.wrap (j+1))))else none)))else none)
 else some (Sum.inr f))
def pI(c:Int→Int→(List Tree)→Option (Tree))(f j:Int)(k:List Tree):Option (Tree) :=
 ((iter (sf f k c) (([]:List Tree),0)).bind fun e=>some (Tree.node f j e))
def pU:Nat→Int→Int→(List Tree)→Option (Tree)
 | 0=>fun _ _ _=>none
 | n+1=>pI (pU n)
theorem xe(c:Int→Int→(List Tree)→Option (Tree))(e:∀(f:Bool) {m q:Int} {u:List Tree} {j:Tree},c m q u=some j→Pure Tryz.prog 73 [.agg [.u8 m,.u32 q,.p f (.slice (.tree .u8 .u32)) u]] (aG (aU false [⟨(.tree .u8 .u32),j⟩])))(f:Bool){m q:Int}{u:List Tree}{j:Tree}(h:pI c m q u=some j):
  Pure Tryz.prog 73 [.agg [.u8 m,.u32 q,.p f (.slice (.tree .u8 .u32)) u]] (aG (aU false [⟨(.tree .u8 .u32),j⟩])):=by
 refine PB Tryz.func73 (fun Bw w0=> ?_);unfold pI at h;refine G (G (af (G (ak (cd h (fun(k,z)=>ay [(1,.adr 0 0 3 0),(2,.adr 1 0 3 0),(3,.adr 2 0 3 0),(13,.i64 (u.length:Int)),(14,.i64 z)] (LM m q f u 0 (0:Int) m q k) 4) 0 (fun v=>ay [(2,.adr 0 0 3 0),(3,.adr 1 0 3 0)] (Mb 0 (0:Int) m q v) 3) (gg [.nilC 56 2 104 208 (.tree .u8 .u32)] [0,8,56,104]) (fun y o h=> ?_) (fun v h=> ?_))))))
 ·obtain⟨k,z⟩:=y;unfold sf at h;refine G (af (aA h (fun I h=> ?_) (fun I h=> ?_)))
  ·refine ae (ab (af (ak (G (GC 3 h (fun h=>af (G (bg h (fun(B,C,D)=>ay [(1,.adr 0 0 3 0),(2,.adr 1 0 3 0),(3,.adr 2 0 3 0),(5,.adr 4 0 3 0),(13,.i64 (u.length:Int)),(14,.i64 z)] (L8 m q f u 0 (0:Int) m q k B C f D) 5) (fun E h=> ?_) (fun E h=> ?_)))))))))
   ·refine aA h (fun J h=> ?_) (fun J h=> ?_)
    ·refine tq 8 h (fun h=> ?_);exact eN h (gg [] [0,1,2,3,68])
    exact ae (eN h (gg [] [0,1,2,3,68]))
   obtain⟨B,C,D⟩:=E;refine ab ?_;obtain⟨M,L,h⟩:=aj h;obtain⟨A,h⟩:=aD h;have x:=(e f L);refine jC ⟨[],[(3,(oP x))]⟩ [(3,3,oc x),(5,5,oc A)] (au (ab (Ge ?_)));exact eB h (gg [] [0,1,2,45])
  refine aq (aL ?_);exact eX h (gg [] [1,2,3])
 refine av (ab (G (nA [.frzC 0 2] (by kernel_rfl) (ao ?_))));obtain rfl:=sI h;exact RI [(.tree .u8 .u32)]
theorem rT:∀(n:Nat) (c:Bool) {f j:Int} {k:List Tree} {e:Tree},pU n f j k=some e→Pure Tryz.prog 73 [.agg [.u8 f,.u32 j,.p c (.slice (.tree .u8 .u32)) k]] (aG (aU false [⟨(.tree .u8 .u32),e⟩]))
 | 0,_,_,_,_,_,h=>by cases h
 | n+1,c,f,j,k,e,h=>xe (pU n) (rT n) c h
def jX(c:Int)(_:Bool)(e f j k _ _ _ _:Int):Option Z2 :=
 (if ¬(64:Int)=0 then(if 0≤(i64.wrap (Int.tdiv c 64))∧(i64.wrap (Int.tdiv c 64))<((4:Nat):Int)then(if ¬(64:Int)=0 then(if 0≤(Int.tmod c 64)then(if 0≤(i64.wrap (Int.tdiv c 64))∧(i64.wrap (Int.tdiv c 64))<((4:Nat):Int)then some ((if(i64.wrap (Int.tdiv c 64)).toNat=0 then(bitsOf .or .u64 (([e,f,j,k]:List Int).getD ((i64.wrap (Int.tdiv c 64)).toNat) 0) (u64.wrap (1*2 ^ (min (Int.tmod c 64).toNat u64.bits))))else e),(if(i64.wrap (Int.tdiv c 64)).toNat=1 then(bitsOf .or .u64 (([e,f,j,k]:List Int).getD ((i64.wrap (Int.tdiv c 64)).toNat) 0) (u64.wrap (1*2 ^ (min (Int.tmod c 64).toNat u64.bits))))else f),(if(i64.wrap (Int.tdiv c 64)).toNat=2 then(bitsOf .or .u64 (([e,f,j,k]:List Int).getD ((i64.wrap (Int.tdiv c 64)).toNat) 0) (u64.wrap (1*2 ^ (min (Int.tmod c 64).toNat u64.bits))))else j),(if(i64.wrap (Int.tdiv c 64)).toNat=3 then(bitsOf .or .u64 (([e,f,j,k]:List Int).getD ((i64.wrap (Int.tdiv c 64)).toNat) 0) (u64.wrap (1*2 ^ (min (Int.tmod c 64).toNat u64.bits))))else k))else none)else none)else none)else none)else none)
theorem qT{c:Int}{p:Bool}{f j:Int}{k m:Int}{q u:Int}{v x:Int}{e:Int×Int×Int×Int}(h:jX c p f j k m q u v x=some e):
  ff Tryz.prog 108 [.adr 0 0 9 1,.i64 c] (JD p f j k m q u v x) (.tup []) (JD p e.1 e.2.1 e.2.2.1 e.2.2.2 q u v x):=by
 refine OB Tryz.func108 (fun Bw w0=> ?_);unfold jX at h;obtain⟨z,A,B,C,h⟩:=g4 h;obtain⟨D,h⟩:=aD h;refine jC a0 [(2,2,oc z),(4,4,oc A),(7,7,oc B),(8,8,oc C),(11,11,oc D)] ?_;obtain rfl:=sI h;exact(RO [] [] [0] [] (JD p (if(i64.wrap (Int.tdiv c 64)).toNat=0 then(bitsOf .or .u64 (([f,j,k,m]:List Int).getD ((i64.wrap (Int.tdiv c 64)).toNat) 0) (u64.wrap (1*2 ^ (min (Int.tmod c 64).toNat u64.bits))))else f) (if(i64.wrap (Int.tdiv c 64)).toNat=1 then(bitsOf .or .u64 (([f,j,k,m]:List Int).getD ((i64.wrap (Int.tdiv c 64)).toNat) 0) (u64.wrap (1*2 ^ (min (Int.tmod c 64).toNat u64.bits))))else j) (if(i64.wrap (Int.tdiv c 64)).toNat=2 then(bitsOf .or .u64 (([f,j,k,m]:List Int).getD ((i64.wrap (Int.tdiv c 64)).toNat) 0) (u64.wrap (1*2 ^ (min (Int.tmod c 64).toNat u64.bits))))else k) (if(i64.wrap (Int.tdiv c 64)).toNat=3 then(bitsOf .or .u64 (([f,j,k,m]:List Int).getD ((i64.wrap (Int.tdiv c 64)).toNat) 0) (u64.wrap (1*2 ^ (min (Int.tmod c 64).toNat u64.bits))))else m) q u v x) 1 1).normal
def iP(e f j k c:Int):Option (Bool) :=
 (if ¬(64:Int)=0 then(if 0≤(i64.wrap (Int.tdiv c 64))∧(i64.wrap (Int.tdiv c 64))<((4:Nat):Int)then(if ¬(64:Int)=0 then(if 0≤(Int.tmod c 64)then some ((bitsOf .and .u64 (Int.fdiv (([e,f,j,k]:List Int).getD ((i64.wrap (Int.tdiv c 64)).toNat) 0) (2 ^ (min (Int.tmod c 64).toNat u64.bits))) (1:Int)) == 1)else none)else none)else none)else none)
theorem hN{e f:Int}{j k m:Int}{c:Bool}(h:iP e f j k m=some c):
  Pure Tryz.prog 106 [.agg [.u64 e,.u64 f,.u64 j,.u64 k],.i64 m] (aG (aU false [⟨.bool,c⟩])):=by
 refine PB Tryz.func106 (fun Bw w0=> ?_);unfold iP at h;refine G ?_;obtain⟨p,q,u,v,h⟩:=g4 h;refine GN a0 [(1,1,oc p),(2,2,oc q),(5,5,oc u),(6,6,oc v)] (ao ?_);obtain rfl:=sI h;exact RI [.bool]
def oZ(m p q u:Int):(Int×Int×Int×Int×Int)→Option ((Int×Int×Int×Int×Int)⊕Z2):=fun(k,e,f,j,c) =>
 (if(decide (c<4))=true then(if 0≤c∧c<((4:Nat):Int)then(if 0≤c∧c<((4:Nat):Int)then(if 0≤c∧c<((4:Nat):Int)then some (Sum.inl ((if c.toNat=0 then(bitsOf .or .u64 (([k,e,f,j]:List Int).getD c.toNat 0) (([m,p,q,u]:List Int).getD c.toNat 0))else k),(if c.toNat=1 then(bitsOf .or .u64 (([k,e,f,j]:List Int).getD c.toNat 0) (([m,p,q,u]:List Int).getD c.toNat 0))else e),(if c.toNat=2 then(bitsOf .or .u64 (([k,e,f,j]:List Int).getD c.toNat 0) (([m,p,q,u]:List Int).getD c.toNat 0))else f),(if c.toNat=3 then(bitsOf .or .u64 (([k,e,f,j]:List Int).getD c.toNat 0) (([m,p,q,u]:List Int).getD c.toNat 0))else j),(i64.wrap (c+1))))else none)else none)else none)
 else some (Sum.inr (k,e,f,j)))
def dn(k m p q u v x z:Int):Option Z2 :=
 ((iter (oZ u v x z) (k,m,p,q,0)).bind fun(c,e,f,j)=>some (c,e,f,j))
theorem cz{D E:Int}{I J:Int}{u v:Int}{x z:Int}{c:Int×Int×Int×Int}(h:dn D E I J u v x z=some c):
  Pure Tryz.prog 105 [.agg [.u64 D,.u64 E,.u64 I,.u64 J],.agg [.u64 u,.u64 v,.u64 x,.u64 z]] (aG (aU false [⟨l0,c⟩])):=by
 refine PB Tryz.func105 (fun Bw w0=> ?_);unfold dn at h;refine G (af (G (ak (cd h (fun(L,e,f,j,M)=>ay [(2,.adr 0 0 4 0),(3,.adr 1 0 4 0),(4,.adr 2 0 4 0),(6,.i64 M)] (Mc L e f j u v x z 0 (0:Int) (0:Int) (0:Int)) 3) 0 (fun(k,m,p,q)=>ay [(2,.adr 0 0 4 0),(4,.adr 1 0 4 0)] (KC k m p q 0 (0:Int) (0:Int) (0:Int)) 2) (gg [] [0,8,16]) (fun y o h=> ?_) (fun N h=> ?_)))))
 ·obtain⟨L,e,f,j,M⟩:=y;unfold oZ at h;refine G (af (aA h (fun O h=> ?_) (fun O h=> ?_)))
  ·refine ae (ab (af (ak (G ?_))));obtain⟨A,B,C,h⟩:=g3 h;refine jC a0 [(1,1,oc A),(4,4,oc B),(7,7,oc C)] (au (ab (Ge ?_)));exact eB h (gg [] [0,1,2])
  refine aq (aL ?_);exact eX h (gg [] [0,2])
 obtain⟨k,m,p,q⟩:=N;refine av (ab (G (ao ?_)));obtain rfl:=sI h;exact RI [l0]
def jg(f j k m p q u v:Int)(A:List Z2):((List Z2)×Int)→Option (((List Z2)×Int)⊕(List Z2)):=fun(c,v6) =>
 (if(decide (v6<(A.length:Int)))=true then((iP f j k m v6).bind fun x =>
 (((if x=true then(if 0≤v6∧v6<(c.length:Int)then(if v6.toNat<c.length then((dn ((c.getD v6.toNat (0,0,0,0)).1) ((c.getD v6.toNat (0,0,0,0)).2.1) ((c.getD v6.toNat (0,0,0,0)).2.2.1) ((c.getD v6.toNat (0,0,0,0)).2.2.2) p q u v).bind fun e =>
 (if 0≤v6∧v6<(c.length:Int)then(if v6.toNat<c.length then some ((c.set v6.toNat (e.1,e.2.1,e.2.2.1,e.2.2.2)))else none)else none))else none)else none)
 else some (c))).bind fun z=>some (Sum.inl (z,(i64.wrap (v6+1))))))
 else some (Sum.inr c))
def fb(c e f j k m p q:Int)(_:Bool)(_:List Int)(u:List Z2):Option (List Z2) :=
 ((iter (jg c e f j k m p q u) (u,0)).bind fun v=>some v)
theorem je{c e:Int}{f j:Int}{k m:Int}{p q:Int}{u:Bool}{v:List Int}{C z:List Z2}(h:fb c e f j k m p q u v C=some z):
  ff Tryz.prog 139 [.adr 0 0 3 0,.agg [.u64 c,.u64 e,.u64 f,.u64 j],.agg [.u64 k,.u64 m,.u64 p,.u64 q]] (DZ u v C) (.tup []) (DZ u v z):=by
 refine OB Tryz.func139 (fun Bw w0=> ?_);unfold fb at h;refine G (G (ak (cd h (fun(A,v6)=>ay [(0,.adr 0 0 3 0),(4,.adr 3 0 4 0),(5,.adr 4 0 4 0),(11,.i64 (C.length:Int)),(12,.i64 v6)] (KI u v A c e f j k m p q) 5 3) 0 (fun D=>ay [] (DZ u v D) 3 3) (gg [] [0,1,2,3,11]) (fun y o h=> ?_) (fun D h=> ?_))))
 ·obtain⟨A,v6⟩:=y;unfold jg at h;refine G (af (aA h (fun E h=> ?_) (fun E h=> ?_)))
  ·refine ae (ab (af (ak (G ?_))));obtain⟨V,I,h⟩:=aj h;refine GP 2 (hN I) (bg h (fun x=>ay [(0,.adr 0 0 3 0),(4,.adr 3 0 4 0),(5,.adr 4 0 4 0),(11,.i64 (C.length:Int)),(12,.i64 v6)] (KI u v x c e f j k m p q) 5 3) (fun x h=> ?_) (fun x h=> ?_))
   ·refine aA h (fun J h=> ?_) (fun J h=> ?_)
    ·obtain⟨L,M,h⟩:=g2 h;obtain⟨X,N,h⟩:=aj h;obtain⟨O,R,h⟩:=g2 h;have B:=(cz N);exact jC ⟨[],[(13,(oP B))]⟩ [(10,10,oc L),(11,11,oc M),(13,13,oc B),(14,14,oc O),(15,15,oc R)] (eN h (gg [] [0,1,2,3,4]))
    exact ae (eN h (gg [] [0,1,2,3,4]))
   refine au (ab (Ge ?_));exact eB h (gg [] [0,1,2,3,4])
  refine aq (aL ?_);exact eX h (gg [] [0,1,2])
 refine av ?_;obtain rfl:=sI h;exact(RO [] [] [0,1,2] [] (DZ u v D) 3 3).normal
def kb(E:List Tree)(e:Int→Int→(List Tree)→Bool→(List Int)→(List Z2)→Option (ub×(List Int)×(List Z2)×Bool)):((List Int)×(List Z2)×Bool×Bool×Int×Int×Int×Int×Int×Int×Int×Int×Int)→Option (((List Int)×(List Z2)×Bool×Bool×Int×Int×Int×Int×Int×Int×Int×Int×Int)⊕(Bool×Int×Int×Int×Int×Int×Int×Int×Int×(List Int)×(List Z2)×Bool)):=fun(I,J,L,m,p,q,u,v,x,z,A,B,f) =>
 (if(decide (f<(E.length:Int)))=true then(if 0≤f∧f<(E.length:Int)then((e ((E.getD f.toNat (Tree.node 0 0 [])).op) ((E.getD f.toNat (Tree.node 0 0 [])).set) ((E.getD f.toNat (Tree.node 0 0 [])).kids) L I J).bind fun(c,C,M,D) =>
 ((fb x z A B c.2.1.1 c.2.1.2.1 c.2.1.2.2.1 c.2.1.2.2.2 D C M).bind fun N =>
 (((if m=true then((dn p q u v c.2.1.1 c.2.1.2.1 c.2.1.2.2.1 c.2.1.2.2.2).bind fun j =>
 some ((j.1,j.2.1,j.2.2.1,j.2.2.2)))
 else some ((p,q,u,v)))).bind fun(O,R,V,X)=>(((if c.1=true then((dn c.2.2.1 c.2.2.2.1 c.2.2.2.2.1 c.2.2.2.2.2 x z A B).bind fun k =>
 some ((k.1,k.2.1,k.2.2.1,k.2.2.2)))
 else some ((c.2.2.1,c.2.2.2.1,c.2.2.2.2.1,c.2.2.2.2.2)))).bind fun(Y,Z,a1,a2)=>(((if m=true then some (c.1)
 else some (false))).bind fun a3=>some (Sum.inl (C,N,D,a3,O,R,V,X,Y,Z,a1,a2,(i64.wrap (f+1)))))))))else none)
 else some (Sum.inr (m,p,q,u,v,x,z,A,B,I,J,L)))
def ka(E:List Tree)(e:Int→Int→(List Tree)→Bool→(List Int)→(List Z2)→Option (ub×(List Int)×(List Z2)×Bool)):((List Int)×(List Z2)×Bool×Bool×Int×Int×Int×Int×Int×Int×Int×Int×Int)→Option (((List Int)×(List Z2)×Bool×Bool×Int×Int×Int×Int×Int×Int×Int×Int×Int)⊕(Bool×Int×Int×Int×Int×Int×Int×Int×Int×(List Int)×(List Z2)×Bool)):=fun(I,J,L,D,q,u,v,x,z,A,B,C,f) =>
 (if(decide (f<(E.length:Int)))=true then(if 0≤f∧f<(E.length:Int)then((e ((E.getD f.toNat (Tree.node 0 0 [])).op) ((E.getD f.toNat (Tree.node 0 0 [])).set) ((E.getD f.toNat (Tree.node 0 0 [])).kids) L I J).bind fun(c,M,N,O) =>
 (((if D=true then((dn q u v x c.2.1.1 c.2.1.2.1 c.2.1.2.2.1 c.2.1.2.2.2).bind fun j =>
 ((dn z A B C c.2.2.1 c.2.2.2.1 c.2.2.2.2.1 c.2.2.2.2.2).bind fun k =>
 some ((true,j.1,j.2.1,j.2.2.1,j.2.2.2,k.1,k.2.1,k.2.2.1,k.2.2.2))))
 else((dn q u v x c.2.1.1 c.2.1.2.1 c.2.1.2.2.1 c.2.1.2.2.2).bind fun m =>
 ((dn z A B C c.2.2.1 c.2.2.2.1 c.2.2.2.2.1 c.2.2.2.2.2).bind fun p =>
 some ((c.1,m.1,m.2.1,m.2.2.1,m.2.2.2,p.1,p.2.1,p.2.2.1,p.2.2.2)))))).bind fun(R,V,X,Y,Z,a1,a2,a3,a4)=>some (Sum.inl (M,N,O,R,V,X,Y,Z,a1,a2,a3,a4,(i64.wrap (f+1))))))else none)
 else some (Sum.inr (D,q,u,v,x,z,A,B,C,I,J,L)))
def ia(c:Int→Int→(List Tree)→Bool→(List Int)→(List Z2)→Option (ub×(List Int)×(List Z2)×Bool))(j i2:Int)(I:List Tree)(J:Bool)(f:List Int)(k:List Z2):Option (ub×(List Int)×(List Z2)×Bool) :=
 (if(j == 1)=true then(if(decide ((f.length:Int)≥200))=true then some ((false,(0,0,0,0),0,0,0,0),f,k,true)
 else((jX (f.length:Int) false 0 (0:Int) (0:Int) (0:Int) (0:Int) (0:Int) (0:Int) (0:Int)).bind fun(m,p,q,u) =>
 (if(f.length+([i2]:List Int).length)*4≤140737488355328∧f.length+([i2]:List Int).length≤9223372036854775807 then(if(k.length+([(0,0,0,0)]:List Z2).length)*32≤140737488355328∧k.length+([(0,0,0,0)]:List Z2).length≤9223372036854775807 then some ((false,(m,p,q,u),m,p,q,u),(f++([i2]:List Int)),(k++([(0,0,0,0)]:List Z2)),J)else none)else none)))
 else(if(j == 2)=true then((iter (kb I c) (f,k,J,true,0,0,0,0,0,0,0,0,0)).bind fun(L,M,N,O,R,V,X,Y,Z,a1,a2,a3)=>some ((L,(M,N,O,R),V,X,Y,Z),a1,a2,a3))
 else(if(j == 3)=true then((iter (ka I c) (f,k,J,false,0,0,0,0,0,0,0,0,0)).bind fun(a4,a5,a6,a7,a8,a9,aa,ac,ad,ax,b1,b2)=>some ((a4,(a5,a6,a7,a8),a9,aa,ac,ad),ax,b1,b2))
 else(((if(j == 4)=true then some ((j == 4))
 else(if(j == 5)=true then some ((j == 5))
 else some ((j == 6))))).bind fun b3=>(if b3=true then(((if(decide ((I.length:Int) > 0))=true then(if 0≤(0:Int)∧0<(I.length:Int)then((c ((I.getD ((0:Int).toNat) (Tree.node 0 0 [])).op) ((I.getD ((0:Int).toNat) (Tree.node 0 0 [])).set) ((I.getD ((0:Int).toNat) (Tree.node 0 0 [])).kids) J f k).bind fun(e,b4,b5,b6) =>
 some ((b4,b5,b6,e.1,e.2.1.1,e.2.1.2.1,e.2.1.2.2.1,e.2.1.2.2.2,e.2.2.1,e.2.2.2.1,e.2.2.2.2.1,e.2.2.2.2.2)))else none)
 else some ((f,k,J,false,0,0,0,0,0,0,0,0)))).bind fun(be,bi,bs,bt,v,x,z,A,B,C,D,E)=>(((if(j != 6)=true then((fb B C D E v x z A bs be bi).bind fun bv =>
 some (bv))
 else some (bi))).bind fun bx=>(((if bt=true then some (true)
 else some ((j != 5)))).bind fun c1=>some ((c1,(v,x,z,A),B,C,D,E),be,bx,bs))))
 else some ((true,(0,0,0,0),0,0,0,0),f,k,J))))))
def gD:Nat→Int→Int→(List Tree)→Bool→(List Int)→(List Z2)→Option (ub×(List Int)×(List Z2)×Bool)
 | 0=>fun _ _ _ _ _ _=>none
 | n+1=>ia (gD n)
theorem oy(e:Int→Int→(List Tree)→Bool→(List Int)→(List Z2)→Option (ub×(List Int)×(List Z2)×Bool))(c:∀(k:Bool) {i1 i2:Int} {m:List Tree} {d1:Bool} {o1:List Int} {o2:List Z2} {f:ub×(List Int)×(List Z2)×Bool},e i1 i2 m d1 o1 o2=some f→ff Tryz.prog 104 [.adr 0 0 3 0,.agg [.u8 i1,.u32 i2,.p k (.slice (.tree .u8 .u32)) m]] (DZ d1 o1 o2) (.agg [.bo f.1.1,.u64 f.1.2.1.1,.u64 f.1.2.1.2.1,.u64 f.1.2.1.2.2.1,.u64 f.1.2.1.2.2.2,.u64 f.1.2.2.1,.u64 f.1.2.2.2.1,.u64 f.1.2.2.2.2.1,.u64 f.1.2.2.2.2.2]) (JF f.2.2.2 f.2.1 f.2.2.1))(k:Bool){i1 i2:Int}{m:List Tree}{d1:Bool}{o1:List Int}{o2:List Z2}{f:ub×(List Int)×(List Z2)×Bool}(h:ia e i1 i2 m d1 o1 o2=some f):
  ff Tryz.prog 104 [.adr 0 0 3 0,.agg [.u8 i1,.u32 i2,.p k (.slice (.tree .u8 .u32)) m]] (DZ d1 o1 o2) (.agg [.bo f.1.1,.u64 f.1.2.1.1,.u64 f.1.2.1.2.1,.u64 f.1.2.1.2.2.1,.u64 f.1.2.1.2.2.2,.u64 f.1.2.2.1,.u64 f.1.2.2.2.1,.u64 f.1.2.2.2.2.1,.u64 f.1.2.2.2.2.2]) (JF f.2.2.2 f.2.1 f.2.2.1):=by
 refine OB Tryz.func104 (fun Bw w0=> ?_);unfold ia at h;refine G (af (G (ak (G (aA h (fun g5 h=> ?_) (fun g5 h=> ?_))))))
 ·refine af (G (aA h (fun g7 h=> ?_) (fun g7 h=> ?_)))
  ·refine G (G (ao (ah (az (ah ?_)))));obtain rfl:=sI h;exact RO [some BX] [] [0,1,2,1,2,11] [(4,.adr 5 0 9 0)] (E8 true o1 o2 false 0 (0:Int) (0:Int) (0:Int) (0:Int) (0:Int) (0:Int) (0:Int)) 6 3
  refine ae (ab (G ?_));obtain⟨⟨d4,d5,d6,d7⟩,gb,h⟩:=aj h;refine GO 6 [99] (qT gb) (G ?_);obtain⟨gd,h⟩:=aD h;refine GD a0 [(8,8,oc gd)] (GC 7 h (fun h=>G (ao (az (ah ?_)))));obtain rfl:=sI h;exact RO [some BX] [] [0,1,2,259,347,11] [(4,.adr 5 0 9 0)] (E8 d1 (o1++([i2]:List Int)) (o2++([(0,0,0,0)]:List Z2)) false d4 d5 d6 d7 d4 d5 d6 d7) 6 3
 refine G (aA h (fun gi h=> ?_) (fun gi h=> ?_))
 ·refine G (af (G (ak (cd h (fun(ek,el,er,J,d8,d9,dd,de,L,M,N,O,q)=>ay [(0,.adr 0 0 3 0),(4,.adr 5 0 9 0),(6,.adr 6 0 9 0),(65,.p k (.slice (.tree .u8 .u32)) m),(66,.i64 (m.length:Int)),(67,.i64 q)] (IB er ek el false 0 (0:Int) (0:Int) (0:Int) (0:Int) (0:Int) (0:Int) (0:Int) J d8 d9 dd de L M N O) 7 3) 1 (fun(a2,a3,a4,a5,a6,a7,a8,a9,aa,ac,ad,ax)=>ay [(4,.adr 3 0 9 0),(6,.adr 4 0 9 0)] (JK ax false 0 (0:Int) (0:Int) (0:Int) (0:Int) (0:Int) (0:Int) (0:Int) a2 a3 a4 a5 a6 a7 a8 a9 aa ac ad) 7 3) (gg [] [0,1,2,1,2,11,75]) (fun y o h=> ?_) (fun es h=> ?_)))))
  ·obtain⟨ek,el,er,J,d8,d9,dd,de,L,M,N,O,q⟩:=y;unfold kb at h;refine G (af (aA h (fun gj h=> ?_) (fun gj h=> ?_)))
   ·refine ae (ab (af (ak (GC 0 h (fun h=> ?_)))));obtain⟨⟨j,b1,h6,b2⟩,et,h⟩:=aj h;refine GO 2 [0,3,4] (c k et) ?_;obtain⟨b3,eu,h⟩:=aj h;refine GO 5 [0,63,64] (je eu) (af (G (bg h (fun(R,V,X,Y)=>ay [(0,.adr 0 0 3 0),(4,.adr 5 0 9 0),(6,.adr 6 0 9 0),(9,.adr 7 0 9 0),(65,.p k (.slice (.tree .u8 .u32)) m),(66,.i64 (m.length:Int)),(67,.i64 q)] (Lo b2 b1 b3 false 0 (0:Int) (0:Int) (0:Int) (0:Int) (0:Int) (0:Int) (0:Int) J R V X Y L M N O j.1 j.2.1.1 j.2.1.2.1 j.2.1.2.2.1 j.2.1.2.2.2 j.2.2.1 j.2.2.2.1 j.2.2.2.2.1 j.2.2.2.2.2) 8 3) (fun di h=> ?_) (fun di h=> ?_))))
    ·refine aA h (fun gp h=> ?_) (fun gp h=> ?_)
     ·obtain⟨h7,ey,h⟩:=aj h;exact Lw 4 (cz ey) (eN h (gg [] [0,1,2,63,64,5,6,71]))
     exact ae (eN h (gg [] [0,1,2,63,64,5,6,71]))
    obtain⟨R,V,X,Y⟩:=di;refine ab (af (G (bg h (fun(b4,b5,b6,be)=>ay [(0,.adr 0 0 3 0),(4,.adr 5 0 9 0),(6,.adr 6 0 9 0),(9,.adr 7 0 9 0),(65,.p k (.slice (.tree .u8 .u32)) m),(66,.i64 (m.length:Int)),(67,.i64 q)] (Lo b2 b1 b3 false 0 (0:Int) (0:Int) (0:Int) (0:Int) (0:Int) (0:Int) (0:Int) J R V X Y L M N O j.1 j.2.1.1 j.2.1.2.1 j.2.1.2.2.1 j.2.1.2.2.2 b4 b5 b6 be) 8 3) (fun dk h=> ?_) (fun dk h=> ?_))))
    ·refine aA h (fun gs h=> ?_) (fun gs h=> ?_)
     ·obtain⟨h8,f1,h⟩:=aj h;exact Lw 4 (cz f1) (eN h (gg [] [0,1,2,3,4,5,6,7]))
     exact ae (eN h (gg [] [0,1,2,3,4,5,6,7]))
    obtain⟨b4,b5,b6,be⟩:=dk;refine ab (bg h (fun bi=>ay [(0,.adr 0 0 3 0),(4,.adr 5 0 9 0),(6,.adr 6 0 9 0),(65,.p k (.slice (.tree .u8 .u32)) m),(66,.i64 (m.length:Int)),(67,.i64 q)] (IB b2 b1 b3 false 0 (0:Int) (0:Int) (0:Int) (0:Int) (0:Int) (0:Int) (0:Int) bi R V X Y b4 b5 b6 be) 7 3) (fun bi h=> ?_) (fun bi h=> ?_))
    ·rcases aF h with⟨d2,h⟩ | ⟨d2,h⟩
     ·exact jC ⟨[(2,true),(5,true)],[]⟩ [(3,4,an d2),(5,5,oc d2)] (eN h (gg [] [0,1,2,3,4,5,6]))
     exact jC ⟨[(2,false),(5,false)],[]⟩ [(3,5,oc d2)] (eN h (gg [] [0,1,2,3,4,5,6]))
    refine au (ab (Ge ?_));exact eB h (gg [] [0,1,2,3,4,5,6])
   refine aq (aL ?_);exact eX h (gg [] [0,1,2,5,6,3,4])
  obtain⟨a2,a3,a4,a5,a6,a7,a8,a9,aa,ac,ad,ax⟩:=es;refine av (ab (G (ao (az (ah ?_)))));obtain rfl:=sI h;exact RO [some BX] [] [0,1,2,5,6,3] [(4,.adr 5 0 9 0)] (E8 ax ac ad a2 a3 a4 a5 a6 a7 a8 a9 aa) 6 3
 refine G (aA h (fun h1 h=> ?_) (fun h1 h=> ?_))
 ·refine G (af (G (ak (cd h (fun(f2,f3,f4,dm,ds,dt,du,e1,e2,e3,e4,e5,bs)=>ay [(0,.adr 0 0 3 0),(4,.adr 5 0 9 0),(10,.adr 6 0 9 0),(111,.p k (.slice (.tree .u8 .u32)) m),(112,.i64 (m.length:Int)),(113,.i64 bs)] (IB f4 f2 f3 false 0 (0:Int) (0:Int) (0:Int) (0:Int) (0:Int) (0:Int) (0:Int) dm ds dt du e1 e2 e3 e4 e5) 7 3) 3 (fun(bt,bv,bx,c1,c2,c3,c4,c5,c6,c7,c8,c9)=>ay [(4,.adr 3 0 9 0),(10,.adr 4 0 9 0)] (JK c9 false 0 (0:Int) (0:Int) (0:Int) (0:Int) (0:Int) (0:Int) (0:Int) bt bv bx c1 c2 c3 c4 c5 c6 c7 c8) 7 3) (gg [] [0,1,2,1,2,11,83]) (fun y o h=> ?_) (fun f5 h=> ?_)))))
  ·obtain⟨f2,f3,f4,dm,ds,dt,du,e1,e2,e3,e4,e5,bs⟩:=y;unfold ka at h;refine G (af (aA h (fun h2 h=> ?_) (fun h2 h=> ?_)))
   ·refine ae (ab (af (ak (GC 0 h (fun h=> ?_)))));obtain⟨⟨h9,f6,f7,f8⟩,f9,h⟩:=aj h;refine GO 2 [0,3,4] (c k f9) (bg h (fun(e6,e7,e8,e9,ea,ec,ed,ef,eh)=>ay [(0,.adr 0 0 3 0),(4,.adr 5 0 9 0),(10,.adr 6 0 9 0),(111,.p k (.slice (.tree .u8 .u32)) m),(112,.i64 (m.length:Int)),(113,.i64 bs)] (IB f8 f6 f7 false 0 (0:Int) (0:Int) (0:Int) (0:Int) (0:Int) (0:Int) (0:Int) e6 e7 e8 e9 ea ec ed ef eh) 7 3) (fun ei h=> ?_) (fun ei h=> ?_))
    ·rcases aF h with⟨d3,h⟩ | ⟨d3,h⟩
     ·obtain⟨hc,fa,h⟩:=aj h;obtain⟨hd,fd,h⟩:=aj h;have u:=(cz fa);have cc:=(cz fd);exact jC ⟨[(2,true),(5,true)],[(10,(oP u)),(15,(oP cc))]⟩ [(3,5,oc d3),(10,10,oc u),(15,15,oc cc)] (eN h (gg [] [0,1,2,63,64,5,6]))
     obtain⟨he,fi,h⟩:=aj h;obtain⟨hf,fo,h⟩:=aj h;have u:=(cz fi);have cc:=(cz fo);exact jC ⟨[(2,false),(5,false)],[(10,(oP u)),(15,(oP cc))]⟩ [(3,4,an d3),(5,5,oc d3),(10,10,oc u),(15,15,oc cc)] (eN h (gg [] [0,1,2,63,64,5,6]))
    obtain⟨e6,e7,e8,e9,ea,ec,ed,ef,eh⟩:=ei;refine au (ab (Ge ?_));exact eB h (gg [] [0,1,2,3,4,5,6])
   refine aq (aL ?_);exact eX h (gg [] [0,1,2,5,6,3,4])
  obtain⟨bt,bv,bx,c1,c2,c3,c4,c5,c6,c7,c8,c9⟩:=f5;refine av (ab (G (ao (az (ah ?_)))));obtain rfl:=sI h;exact RO [some BX] [] [0,1,2,5,6,3] [(4,.adr 5 0 9 0)] (E8 c9 c7 c8 bt bv bx c1 c2 c3 c4 c5 c6) 6 3
 refine af (G (bg h (fun ch=>ay [(0,.adr 0 0 3 0),(3,.adr 3 0 3 0),(4,.adr 4 0 9 0),(139,.bo ch)] (LB d1 o1 o2 i1 i2 k m false 0 (0:Int) (0:Int) (0:Int) (0:Int) (0:Int) (0:Int) (0:Int)) 5 3) (fun ch h=> ?_) (fun ch h=> ?_)))
 ·refine aA h (fun h3 h=> ?_) (fun h3 h=> ?_)
  ·exact ae (eN h (gg [] [0,1,2,3,11]))
  refine G (aA h (fun h4 h=> ?_) (fun h4 h=> ?_))
  ·exact ae (eN h (gg [] [0,1,2,3,11]))
  exact Ge (eN h (gg [] [0,1,2,3,11]))
 refine ab (aA h (fun fr h=> ?_) (fun fr h=> ?_))
 ·refine G (af (G (bg h (fun(cp,fs,cs,cx,v,x,z,A,B,C,D,E)=>ay [(0,.adr 0 0 3 0),(3,.adr 5 0 3 0),(4,.adr 6 0 9 0),(14,.adr 7 0 9 0)] (LJ cs cp fs i1 i2 k m false 0 (0:Int) (0:Int) (0:Int) (0:Int) (0:Int) (0:Int) (0:Int) cx v x z A B C D E) 8 3) (fun ej h=> ?_) (fun ej h=> ?_))))
  ·refine aA h (fun ft h=> ?_) (fun ft h=> ?_)
   ·obtain⟨h5,h⟩:=aD h;obtain⟨⟨hg,hh,hj,hk⟩,fv,h⟩:=aj h;have u:=(c k fv);exact bq ⟨[],[(5,(oO u [0,1,2]))]⟩ [(3,3,oc h5),(5,5,oc u)] (eN h (gg [] [0,1,2,85,86,3,4,5]))
   exact ae (eN h (gg [] [0,1,2,1,2,3,4,5]))
  obtain⟨cp,fs,cs,cx,v,x,z,A,B,C,D,E⟩:=ej;refine ab (af (G (bg h (fun I=>ay [(3,.adr 3 0 3 0),(4,.adr 4 0 9 0),(14,.adr 5 0 9 0)] (LV cs i1 i2 k m false 0 (0:Int) (0:Int) (0:Int) (0:Int) (0:Int) (0:Int) (0:Int) cx v x z A B C D E cp I) 8 3) (fun I h=> ?_) (fun I h=> ?_))))
  ·refine aA h (fun fw h=> ?_) (fun fw h=> ?_)
   ·obtain⟨hm,g1,h⟩:=aj h;exact kO 5 [0,3,4] (je g1) (eN h (gg [] [0,1,2,5,6,7,3,4]))
   exact ae (eN h (gg [] [0,1,2,5,6,7,3,4]))
  refine ab (af (bg h (fun Z=>ay [(4,.adr 3 0 9 0),(14,.adr 4 0 9 0)] (JK cs false 0 (0:Int) (0:Int) (0:Int) (0:Int) (0:Int) (0:Int) (0:Int) Z v x z A B C D E cp I) 7 3) (fun Z h=> ?_) (fun Z h=> ?_)))
  ·rcases aF h with⟨a1,h⟩ | ⟨a1,h⟩
   ·exact bq ⟨[(2,true),(6,true)],[]⟩ [(3,6,oc a1)] (eN h (gg [] [0,1,2,4,5,6,7]))
   exact bq ⟨[(2,false),(6,false)],[]⟩ [(3,5,an a1),(6,6,oc a1)] (eN h (gg [] [0,1,2,4,5,6,7]))
  refine ab (G (ao (az (ah ?_))));obtain rfl:=sI h;exact RO [some BX] [] [0,1,2,5,6,3] [(4,.adr 5 0 9 0)] (E8 cs cp I Z v x z A B C D E) 6 3
 refine ae (au (ab (G (ao ?_))));obtain rfl:=sI h;exact RO [some BX] [] [0,1,2,1,2,4] [(4,.adr 5 0 9 0)] (E8 d1 o1 o2 true 0 (0:Int) (0:Int) (0:Int) (0:Int) (0:Int) (0:Int) (0:Int)) 6 3
theorem kd:∀(n:Nat) (e:Bool) {f j:Int} {k:List Tree} {m:Bool} {q:List Int} {u:List Z2} {c:ub×(List Int)×(List Z2)×Bool},gD n f j k m q u=some c→ff Tryz.prog 104 [.adr 0 0 3 0,.agg [.u8 f,.u32 j,.p e (.slice (.tree .u8 .u32)) k]] (DZ m q u) (.agg [.bo c.1.1,.u64 c.1.2.1.1,.u64 c.1.2.1.2.1,.u64 c.1.2.1.2.2.1,.u64 c.1.2.1.2.2.2,.u64 c.1.2.2.1,.u64 c.1.2.2.2.1,.u64 c.1.2.2.2.2.1,.u64 c.1.2.2.2.2.2]) (JF c.2.2.2 c.2.1 c.2.2.1)
 | 0,_,_,_,_,_,_,_,_,h=>by cases h
 | n+1,e,f,j,k,m,q,u,c,h=>oy (gD n) (kd n) e h
def qD(e f j k m p q u:Int):(Int)→Option ((Int)⊕((Unit)⊕(Bool))):=fun c =>
 (if(decide (c<4))=true then(if 0≤c∧c<((4:Nat):Int)then(if 0≤c∧c<((4:Nat):Int)then(if((bitsOf .and .u64 (([e,f,j,k]:List Int).getD c.toNat 0) (([m,p,q,u]:List Int).getD c.toNat 0)) != 0)=true then some (Sum.inr (Sum.inr true))
 else some (Sum.inl (i64.wrap (c+1))))else none)else none)
 else some (Sum.inr (Sum.inl ())))
def rn(c e f j k m p q:Int):Option (Bool) :=
 ((iter (qD c e f j k m p q) (0:Int)).bind fun(u:((Unit)⊕(Bool)))=>match u with
 | .inl _=>some false
 | .inr (v)=>some v)
theorem yq{f j:Int}{k m:Int}{p q:Int}{u v:Int}{c:Bool}(h:rn f j k m p q u v=some c):
  Pure Tryz.prog 107 [.agg [.u64 f,.u64 j,.u64 k,.u64 m],.agg [.u64 p,.u64 q,.u64 u,.u64 v]] (aG (aU false [⟨.bool,c⟩])):=by
 refine PB Tryz.func107 (fun Bw w0=> ?_);unfold rn at h;refine G (af (G (ak (jl h (fun B=>ay [(2,.adr 0 0 4 0),(3,.adr 1 0 4 0),(6,.i64 B)] (KC f j k m p q u v) 2) (cN (dM Tryz.f107.ntmps 0 (fun _=>ay [] [] 0)) (eQ tb Tryz.f107.results.toList (fun C=>[⟨.bool,C⟩]))) (gg [] [0,8]) (fun B o h=> ?_) (fun E h e σ' D=> ?_)))))
 ·unfold qD at h;refine G (af (aA h (fun I h=> ?_) (fun I h=> ?_)))
  ·refine ae (ab (af (ak (G ?_))));obtain⟨x,z,h⟩:=g2 h;refine GD a0 [(1,1,oc x),(4,4,oc z)] (aA h (fun J h=> ?_) (fun J h=> ?_))
   ·refine G (ao ?_);obtain rfl:=sI h;refine az (ah (br (aK ?_)));exact bu (RI [.bool])
   refine ae (au (ab (Ge ?_)));exact eB h (gg [] [0,1])
  refine aq (aL ?_);obtain rfl:=sI h;refine cR (aX ?_);exact bC (gg [] [])
 rcases E with _ | C
 ·obtain⟨rfl,A⟩:=D;refine bY ?_ A;refine av (ab (G (ao ?_)));obtain rfl:=sI h;exact RI [.bool]
 obtain⟨rfl,L⟩:=D;refine az (ah ?_);obtain rfl:=sI h;exact L
def j7(c e f j k:Int):Option Z2 :=
 (if ¬(64:Int)=0 then(if 0≤(i64.wrap (Int.tdiv c 64))∧(i64.wrap (Int.tdiv c 64))<((4:Nat):Int)then(if ¬(64:Int)=0 then(if 0≤(Int.tmod c 64)then(if 0≤(i64.wrap (Int.tdiv c 64))∧(i64.wrap (Int.tdiv c 64))<((4:Nat):Int)then some ((if(i64.wrap (Int.tdiv c 64)).toNat=0 then(bitsOf .or .u64 (([e,f,j,k]:List Int).getD ((i64.wrap (Int.tdiv c 64)).toNat) 0) (u64.wrap (1*2 ^ (min (Int.tmod c 64).toNat u64.bits))))else e),(if(i64.wrap (Int.tdiv c 64)).toNat=1 then(bitsOf .or .u64 (([e,f,j,k]:List Int).getD ((i64.wrap (Int.tdiv c 64)).toNat) 0) (u64.wrap (1*2 ^ (min (Int.tmod c 64).toNat u64.bits))))else f),(if(i64.wrap (Int.tdiv c 64)).toNat=2 then(bitsOf .or .u64 (([e,f,j,k]:List Int).getD ((i64.wrap (Int.tdiv c 64)).toNat) 0) (u64.wrap (1*2 ^ (min (Int.tmod c 64).toNat u64.bits))))else j),(if(i64.wrap (Int.tdiv c 64)).toNat=3 then(bitsOf .or .u64 (([e,f,j,k]:List Int).getD ((i64.wrap (Int.tdiv c 64)).toNat) 0) (u64.wrap (1*2 ^ (min (Int.tmod c 64).toNat u64.bits))))else k))else none)else none)else none)else none)else none)
theorem qX{c f:Int}{j k m:Int}{e:Int×Int×Int×Int}(h:j7 c f j k m=some e):
  ff Tryz.prog 108 [.adr 0 0 4 0,.i64 c] [(0,.box [.u64 f,.u64 j,.u64 k,.u64 m])] (.tup []) [(0,.box [.u64 e.1,.u64 e.2.1,.u64 e.2.2.1,.u64 e.2.2.2])]:=by
 refine OB Tryz.func108 (fun Bw w0=> ?_);unfold j7 at h;obtain⟨p,q,u,v,h⟩:=g4 h;obtain⟨x,h⟩:=aD h;refine jC a0 [(2,2,oc p),(4,4,oc q),(7,7,oc u),(8,8,oc v),(11,11,oc x)] ?_;obtain rfl:=sI h;exact(RO [] [] [0] [] [(0,.box [.u64 (if(i64.wrap (Int.tdiv c 64)).toNat=0 then(bitsOf .or .u64 (([f,j,k,m]:List Int).getD ((i64.wrap (Int.tdiv c 64)).toNat) 0) (u64.wrap (1*2 ^ (min (Int.tmod c 64).toNat u64.bits))))else f),.u64 (if(i64.wrap (Int.tdiv c 64)).toNat=1 then(bitsOf .or .u64 (([f,j,k,m]:List Int).getD ((i64.wrap (Int.tdiv c 64)).toNat) 0) (u64.wrap (1*2 ^ (min (Int.tmod c 64).toNat u64.bits))))else j),.u64 (if(i64.wrap (Int.tdiv c 64)).toNat=2 then(bitsOf .or .u64 (([f,j,k,m]:List Int).getD ((i64.wrap (Int.tdiv c 64)).toNat) 0) (u64.wrap (1*2 ^ (min (Int.tmod c 64).toNat u64.bits))))else k),.u64 (if(i64.wrap (Int.tdiv c 64)).toNat=3 then(bitsOf .or .u64 (([f,j,k,m]:List Int).getD ((i64.wrap (Int.tdiv c 64)).toNat) 0) (u64.wrap (1*2 ^ (min (Int.tmod c 64).toNat u64.bits))))else m)])] 1 1).normal
end
end Go.Proofs.YtmcemnfjddoejaaGreatDoor.T
