import Derived.Test.YtbedjpdfkmfplaaGreatDoorTvT21d0
import Derived.Test.YtbedjpdfkmfplaaGreatDoorTvT21da
import Derived.Test.YtbedjpdfkmfplaaGreatDoorTvT21da3
import Derived.Test.YtbedjpdfkmfplaaGreatDoorTvUm
namespace Go.Proofs.YtbedjpdfkmfplaaGreatDoor.T
open Go Go.Tv Go.Proofs
open Go.IntKind (i64 u64)
noncomputable section
set_option maxRecDepth 100000
set_option maxHeartbeats 4000000
def cY(d1 d2 d3:Int)(d4:QK)(d5:List wo)(d6 d7 d8:Int)(d9:QK)(cp:List wo)(cs cx dd de:QK)(di dk i1 i2 i3 i4 i5:Int)(i6:QJ)(x1 x2:QK)(x3 x4:Int):Option (Bool) :=
 ((fy).bind fun r2 =>
 (if(!r2)=true then some false
 else(((if(decide ((x1.length:Int) > 100))=true then some (true)
 else some ((decide ((x2.length:Int) > 50))))).bind fun v1=>(if v1=true then some true
 else((dQ d1 d2 d3 d4 d5 d6 d7 d8 d9 cp cs cx dd de di dk).bind fun V =>
 ((kx V.1 V.2.1 V.2.2.1 V.2.2.2.1 V.2.2.2.2.1 V.2.2.2.2.2.1 V.2.2.2.2.2.2.1 V.2.2.2.2.2.2.2.1 V.2.2.2.2.2.2.2.2).bind fun(D,r8) =>
 (if(r8.1 != 0)=true then some D.isNone
 else((dw x1).bind fun j =>
 ((dX i1 i2 i3 i4 i5 i6).bind fun e =>
 ((dw x2).bind fun f =>
 (if ¬(u64.wrap (i64.wrap ((j.length:Int)+1)))=0 then(if ¬(u64.wrap (i64.wrap ((f.length:Int)+1)))=0 then((fj D e.1 e.2.1 e.2.2.1 e.2.2.2.1 e.2.2.2.2.1 e.2.2.2.2.2 j).bind fun(z2:((Int)⊕K9))=>match z2 with
 | .inl b1=>((fj D e.1 e.2.1 e.2.2.1 e.2.2.2.1 e.2.2.2.2.1 e.2.2.2.2.2 j).bind fun(z4:((Int)⊕K9))=>match z4 with
 | .inl dm=>(((if(b1 != 0)=true then some (())
 else(if(dm != 0)=true then some (())
 else none))).bind fun _=>some false)
 | .inr (ds,eb,ec,ed,ef,eh,ei,ej)=>(((if(b1 != 0)=true then some (())
 else(if(ds != 0)=true then some (())
 else none))).bind fun _=>some false))
 | .inr (b2,q,u,v,z,A,B,C)=>((fj D e.1 e.2.1 e.2.2.1 e.2.2.2.1 e.2.2.2.2.1 e.2.2.2.2.2 j).bind fun(z6:((Int)⊕K9))=>match z6 with
 | .inl dt=>(((if(b2 != 0)=true then some ((q,u,v,z,A,B,C))
 else(if(dt != 0)=true then some ((q,u,v,z,A,B,C))
 else((bO (i64.wrap (Int.tmod (u64.wrap x3) (u64.wrap (i64.wrap ((j.length:Int)+1))))) (0:Int) f q u D e.1 e.2.1 e.2.2.1 e.2.2.2.1 e.2.2.2.2.1 e.2.2.2.2.2 v z A B C).bind fun(du,e1,e2,e3,e4,e5,e6,e7) =>
 (if(du != 0)=true then some ((e1,e2,e3,e4,e5,e6,e7))
 else(if 0≤(i64.wrap (Int.tmod (u64.wrap x4) (u64.wrap (i64.wrap ((f.length:Int)+1)))))∧(i64.wrap (Int.tmod (u64.wrap x4) (u64.wrap (i64.wrap ((f.length:Int)+1)))))≤(f.length:Int)∧(f.length:Int)≤(f.length:Int)then none else none)))))).bind fun(v2,v3,v4,v5,v6,v7,v8)=>some false)
 | .inr (e8,X,Y,Z,a1,a2,a3,a4)=>(((if(b2 != 0)=true then some ((q,u,v,z,A,B,C,X,Y,Z,a1,a2,a3,a4,true))
 else(if(e8 != 0)=true then some ((q,u,v,z,A,B,C,X,Y,Z,a1,a2,a3,a4,true))
 else((bO (i64.wrap (Int.tmod (u64.wrap x3) (u64.wrap (i64.wrap ((j.length:Int)+1))))) (0:Int) f q u D e.1 e.2.1 e.2.2.1 e.2.2.2.1 e.2.2.2.2.1 e.2.2.2.2.2 v z A B C).bind fun(b3,E,I,J,L,M,N,O) =>
 (if(b3 != 0)=true then some ((E,I,J,L,M,N,O,X,Y,Z,a1,a2,a3,a4,true))
 else(if 0≤(i64.wrap (Int.tmod (u64.wrap x4) (u64.wrap (i64.wrap ((f.length:Int)+1)))))∧(i64.wrap (Int.tmod (u64.wrap x4) (u64.wrap (i64.wrap ((f.length:Int)+1)))))≤(f.length:Int)∧(f.length:Int)≤(f.length:Int)then((bO (i64.wrap (Int.tmod (u64.wrap x3) (u64.wrap (i64.wrap ((j.length:Int)+1))))) (0:Int) ((f.take (f.length:Int).toNat).drop (i64.wrap (Int.tmod (u64.wrap x4) (u64.wrap (i64.wrap ((f.length:Int)+1))))).toNat) X Y D e.1 e.2.1 e.2.2.1 e.2.2.2.1 e.2.2.2.2.1 e.2.2.2.2.2 Z a1 a2 a3 a4).bind fun(b4,a5,a6,a7,a8,a9,aa,ac) =>
 (if(b4 != 0)=true then some ((E,I,J,L,M,N,O,a5,a6,a7,a8,a9,aa,ac,true))
 else(if 0≤(0:Int)∧0≤(i64.wrap (Int.tmod (u64.wrap x4) (u64.wrap (i64.wrap ((f.length:Int)+1)))))∧(i64.wrap (Int.tmod (u64.wrap x4) (u64.wrap (i64.wrap ((f.length:Int)+1)))))≤(f.length:Int)then((bO (i64.wrap (Int.tmod (u64.wrap x3) (u64.wrap (i64.wrap ((j.length:Int)+1))))) (0:Int) ((f.take (i64.wrap (Int.tmod (u64.wrap x4) (u64.wrap (i64.wrap ((f.length:Int)+1))))).toNat).drop (0:Int).toNat) a5 a6 D e.1 e.2.1 e.2.2.1 e.2.2.2.1 e.2.2.2.2.1 e.2.2.2.2.2 a7 a8 a9 aa ac).bind fun(b5,b6,b7,b8,b9,be,bi,bs) =>
 some ((E,I,J,L,M,N,O,b6,b7,b8,b9,be,bi,bs,(b5 != 0))))else none)))else none)))))).bind fun(v9,v10,v11,bv,bx,c1,c2,c3,c4,c5,c6,v20,c7,c8,e9)=>(if e9=true then some false
 else((((eJ v9 v10 D e.1 e.2.1 e.2.2.1 e.2.2.2.1 e.2.2.2.2.1 e.2.2.2.2.2 v11 bv bx c1 c2).bind fun c9 =>
 ((eJ c3 c4 D e.1 e.2.1 e.2.2.1 e.2.2.2.1 e.2.2.2.2.1 e.2.2.2.2.2 c5 c6 v20 c7 c8).bind fun cc =>
 (if((bytesOf c9) == (bytesOf cc))=true then((cT v9 v10 D e.1 e.2.1 e.2.2.1 e.2.2.2.1 e.2.2.2.2.1 e.2.2.2.2.2 v11 bv bx c1 c2).bind fun ad =>
 ((cT c3 c4 D e.1 e.2.1 e.2.2.1 e.2.2.2.1 e.2.2.2.2.1 e.2.2.2.2.2 c5 c6 v20 c7 c8).bind fun ax =>
 ((cN ad.1 ad.2 ax.1 ax.2).bind fun ch =>
 some (ch))))
 else some (false))))).bind fun ea=>some ea)))))else none)else none)))))))))))
theorem mq(Z a1 I J L M N O:Bool){d1 d2 d3:Int}{d4:QK}{d5:List wo}{d6 d7 d8:Int}{d9:QK}{a2:List wo}{a3 a4 a5 a6:QK}{a7 a8 i1 i2 i3 i4 i5:Int}{i6:QJ}{x1 x2:QK}{x3 x4:Int}{ac:Bool}(h:cY d1 d2 d3 d4 d5 d6 d7 d8 d9 a2 a3 a4 a5 a6 a7 a8 i1 i2 i3 i4 i5 i6 x1 x2 x3 x4=some ac):
  Pure Tryz.prog 3 [.agg [.u8 d1,.u8 d2,.u8 d3,.p Z (.slice (.int .u8)) d4,.p false (.slice (.prod (.int .u8) Hi)) d5,.u8 d6,.u8 d7,.u8 d8,.p a1 (.slice (.int .u8)) d9,.p false (.slice (.prod (.int .u8) Hi)) a2,.p I (.slice (.int .u8)) a3,.p J (.slice (.int .u8)) a4,.p L (.slice (.int .u8)) a5,.p M (.slice (.int .u8)) a6,.u8 a7,.u8 a8],.agg [.u8 i1,.u8 i2,.u8 i3,.p false (.int .u16) i4,.p false (.int .u16) i5,.p false .flt i6],.p N (.slice (.int .u8)) x1,.p O (.slice (.int .u8)) x2,.i64 x3,.i64 x4] (aM (bg false [⟨.bool,ac⟩])):=by
 refine PB Tryz.func3 (fun Bw w0=>?_);unfold cY at h;refine G (af ?_);obtain⟨r2,q2,h⟩:=aj h;refine GP 0 (p8 q2) (aC h (fun B1 h=>?_) (fun B1 h=>?_))
 ·refine G (au (ah ?_));obtain rfl:=sI h;exact RI [.bool]
 refine ae (ab (af (af (bm h (fun v1=>aA [(2,.p N (.slice (.int .u8)) x1),(3,.p O (.slice (.int .u8)) x2),(4,.i64 x3),(5,.i64 x4),(6,.adr 0 0 16 0),(7,.adr 1 0 6 0),(33,.bo v1)] (ND d1 d2 d3 Z d4 d5 d6 d7 d8 a1 d9 a2 I a3 J a4 L a5 M a6 a7 a8 i1 i2 i3 i4 i5 i6) 2) (fun v1 h=>?_) (fun v1 h=>?_)))))
 ·rcases aI h with⟨B4,h⟩ | ⟨B4,h⟩
  ·exact bq ⟨[(3,true),(7,true)],[]⟩ [(4,7,oc B4)] (eN h (gg [] [0,8]))
  exact bq ⟨[(3,false),(7,false)],[]⟩ [(4,6,an B4),(7,7,oc B4)] (eN h (gg [] [0,8]))
 refine ab (aC h (fun B5 h=>?_) (fun B5 h=>?_))
 ·refine G (au (ah ?_));obtain rfl:=sI h;exact RI [.bool]
 refine ae (ab ?_);obtain⟨r6,q5,h⟩:=aj h;obtain⟨⟨r7,r8⟩,q6,h⟩:=aj h;have j:=(pP Z a1 I J L M q5);have q:=(vv false false false false q6);refine GN ⟨[],[(1,(oP j)),(2,(oP q))]⟩ [(1,1,oc j),(2,2,oc q)] (af (G (aC h (fun B6 h=>?_) (fun B6 h=>?_))))
 ·refine GN a0 [(1,1,⟨∃e,Tryz.prog.underlying 33=some (.pointer e),⟨_,rfl⟩⟩)] (au (ah ?_));obtain rfl:=sI h;exact RI [.bool]
 refine ae (ab ?_);obtain⟨fd,cc,h⟩:=aj h;obtain⟨f,ch,h⟩:=aj h;obtain⟨fi,cp,h⟩:=aj h;have j:=(jH N cc);have q:=(oA ch);have A:=(jH O cp);refine GD ⟨[],[(1,(oP j)),(3,(oP q)),(5,(oP A))]⟩ [(1,1,oc j),(3,3,oc q),(5,5,oc A)] (GC 6 h (fun h=>GC 6 h (fun h=>af ?_)));obtain⟨z2,ad,h⟩:=aj h;rcases z2 with fo | ⟨fr,fs,ft,fv,fw,g1,g5,g6⟩
 ·refine lH 3 [] (fS false ad) (ab (af ?_));obtain⟨z4,ax,h⟩:=aj h;rcases z4 with g7 | ⟨g8,cs,cx,dd,de,di,dk,dm⟩
  ·refine lH 3 [] (fS false ax) (ab (af (af (bm h (fun _=>aA [(20,.nilp),(22,.nilp),(114,.bo true)] [] 0) (fun ds h=>?_) (fun ds h=>?_)))))
   ·rcases aI h with⟨V,h⟩ | ⟨V,h⟩
    ·exact bq ⟨[(2,true),(5,true)],[]⟩ [(3,5,oc V)] (eN h (gg [] []))
    rcases aI h with⟨b1,h⟩ | ⟨b1,h⟩
    ·exact bq ⟨[(2,false),(5,false),(6,true),(13,true)],[]⟩ [(3,4,an V),(5,5,oc V),(7,13,oc b1)] (eN h (gg [] []))
    cases h
   refine ab (m8 rfl (G (au (ah ?_))));obtain rfl:=sI h;exact RI [.bool]
  refine lH 3 [] (fS false ax) (ab (af (af (bm h (fun _=>aA [(20,.nilp),(22,.adr 0 0 14 0),(114,.bo true)] (jA cs cx r7 f.1 f.2.1 f.2.2.1 f.2.2.2.1 f.2.2.2.2.1 f.2.2.2.2.2 dd de di dk dm) 2) (fun dt h=>?_) (fun dt h=>?_)))))
  ·rcases aI h with⟨X,h⟩ | ⟨X,h⟩
   ·exact bq ⟨[(2,true),(5,true)],[]⟩ [(3,5,oc X)] (eN h (gg [] [418,419]))
   rcases aI h with⟨b2,h⟩ | ⟨b2,h⟩
   ·exact bq ⟨[(2,false),(5,false),(6,true),(13,true)],[]⟩ [(3,4,an X),(5,5,oc X),(7,13,oc b2)] (eN h (gg [] [418,419]))
   cases h
  refine ab (m8 rfl (G (au (ah ?_))));obtain rfl:=sI h;exact RI [.bool]
 refine lH 3 [] (fS false ad) (ab (af ?_));obtain⟨z6,b3,h⟩:=aj h;rcases z6 with g9 | ⟨gb,gd,gi,gj,gp,gs,h1,h2⟩
 ·refine lH 3 [] (fS false b3) (ab (af (af (bm h (fun(v2,v3,v4,v5,v6,v7,v8)=>aA [(20,.adr 0 0 14 0),(22,.nilp),(114,.bo true)] (jA v2 v3 r7 f.1 f.2.1 f.2.2.1 f.2.2.2.1 f.2.2.2.2.1 f.2.2.2.2.2 v4 v5 v6 v7 v8) 2) (fun b4 h=>?_) (fun b4 h=>?_)))))
  ·rcases aI h with⟨D,h⟩ | ⟨D,h⟩
   ·exact bq ⟨[(2,true),(5,true)],[]⟩ [(3,5,oc D)] (eN h (gg [] [346,347]))
   rcases aI h with⟨E,h⟩ | ⟨E,h⟩
   ·exact bq ⟨[(2,false),(5,false),(6,true),(13,true)],[]⟩ [(3,4,an D),(5,5,oc D),(7,13,oc E)] (eN h (gg [] [346,347]))
   obtain⟨⟨h3,h4,h5,h6,h7,h8,h9,hc⟩,du,h⟩:=aj h;rcases aI h with⟨b5,h⟩ | ⟨b5,h⟩
   ·have j:=(cw false du);exact bq ⟨[(2,false),(5,false),(6,false),(13,false),(14,true),(23,true)],[(11,(oO j [346,347]))]⟩ [(3,4,an D),(5,5,oc D),(7,10,an E),(11,11,oc (And.intro E j)),(12,12,an E),(13,13,oc E),(15,23,oc b5)] (eN h (gg [] [346,347]))
   obtain⟨c7,h⟩:=aE h;cases h
  obtain⟨v2,v3,v4,v5,v6,v7,v8⟩:=b4;refine ab (m8 rfl (G (au (ah ?_))));obtain rfl:=sI h;exact RI [.bool]
 refine lH 3 [] (fS false b3) (ab (af (af (bm h (fun(v9,v10,v11,b6,b7,b8,b9,be,bi,bs,bv,v20,bx,c1,c2)=>aA [(20,.adr 0 0 14 0),(22,.adr 2 0 14 0),(114,.bo c2)] (M3 v9 v10 r7 f.1 f.2.1 f.2.2.1 f.2.2.2.1 f.2.2.2.2.1 f.2.2.2.2.2 v11 b6 b7 b8 b9 be bi r7 f.1 f.2.1 f.2.2.1 f.2.2.2.1 f.2.2.2.2.1 f.2.2.2.2.2 bs bv v20 bx c1) 4) (fun Y h=>?_) (fun Y h=>?_)))))
 ·rcases aI h with⟨z,h⟩ | ⟨z,h⟩
  ·exact bq ⟨[(2,true),(5,true)],[]⟩ [(3,5,oc z)] (eN h (gg [] [346,347,418,419]))
  rcases aI h with⟨u,h⟩ | ⟨u,h⟩
  ·exact bq ⟨[(2,false),(5,false),(6,true),(13,true)],[]⟩ [(3,4,an z),(5,5,oc z),(7,13,oc u)] (eN h (gg [] [346,347,418,419]))
  obtain⟨⟨e7,e8,e9,ea,eb,ec,ed,ef⟩,a9,h⟩:=aj h;rcases aI h with⟨v,h⟩ | ⟨v,h⟩
  ·have j:=(cw false a9);exact bq ⟨[(2,false),(5,false),(6,false),(13,false),(14,true),(23,true)],[(11,(oO j [346,347]))]⟩ [(3,4,an z),(5,5,oc z),(7,10,an u),(11,11,oc (And.intro u j)),(12,12,an u),(13,13,oc u),(15,23,oc v)] (eN h (gg [] [346,347,418,419]))
  obtain⟨c3,h⟩:=aE h;obtain⟨⟨eh,ei,ej,ek,el,er,es,et⟩,c4,h⟩:=aj h;rcases aI h with⟨B,h⟩ | ⟨B,h⟩
  ·have j:=(cw false a9);have q:=(cw false c4);exact bq ⟨[(2,false),(5,false),(6,false),(13,false),(14,false),(23,false),(24,true),(33,true)],[(11,(oO j [346,347])),(21,(oO q [418,419]))]⟩ [(3,4,an z),(5,5,oc z),(7,10,an u),(11,11,oc (And.intro u j)),(12,12,an u),(13,13,oc u),(15,18,an v),(19,19,oc (And.intro v c3)),(20,20,an v),(21,21,oc (And.intro v q)),(22,22,an v),(23,23,oc v),(25,33,oc B)] (eN h (gg [] [346,347,418,419]))
  obtain⟨e1,h⟩:=aE h;obtain⟨⟨eu,ew,ey,f1,f2,f3,f4,f5⟩,e2,h⟩:=aj h;have j:=(cw false a9);have q:=(cw false c4);have A:=(cw false e2);exact bq ⟨[(2,false),(5,false),(6,false),(13,false),(14,false),(23,false),(24,false),(33,false)],[(11,(oO j [346,347])),(21,(oO q [418,419])),(31,(oO A [418,419]))]⟩ [(3,4,an z),(5,5,oc z),(7,10,an u),(11,11,oc (And.intro u j)),(12,12,an u),(13,13,oc u),(15,18,an v),(19,19,oc (And.intro v c3)),(20,20,an v),(21,21,oc (And.intro v q)),(22,22,an v),(23,23,oc v),(25,28,an B),(29,29,oc (And.intro B e1)),(30,30,an B),(31,31,oc (And.intro B A)),(32,32,an B),(33,33,oc B)] (eN h (gg [] [346,347,418,419]))
 obtain⟨v9,v10,v11,b6,b7,b8,b9,be,bi,bs,bv,v20,bx,c1,c2⟩:=Y;refine ab (aC h (fun e3 h=>?_) (fun e3 h=>?_))
 ·refine G (au (ah ?_));obtain rfl:=sI h;exact RI [.bool]
 refine ae (ab (af (bm h (fun aa=>aA [(12,.bo aa)] [] 0) (fun aa h=>?_) (fun aa h=>?_))))
 ·obtain⟨f6,c5,h⟩:=aj h;obtain⟨f7,c6,h⟩:=aj h;rcases aI h with⟨C,h⟩ | ⟨C,h⟩
  ·obtain⟨f8,e4,h⟩:=aj h;obtain⟨f9,e5,h⟩:=aj h;obtain⟨fa,e6,h⟩:=aj h;have j:=(eZ c5);have q:=(eZ c6);have A:=(ir e4);have c8:=(ir e5);have c9:=(lS false false e6);exact mu ⟨[(7,true),(13,true)],[(1,(oO j [0,1])),(4,(oO q [2,3])),(9,(oO A [0,1])),(11,(oO c8 [2,3])),(12,(oP c9))]⟩ [(1,1,oc j),(4,4,oc q),(8,8,an C),(9,9,oc (And.intro C A)),(10,10,an C),(11,11,oc (And.intro C c8)),(12,12,oc (And.intro C c9)),(13,13,oc C)] (eN h (gg [] []))
  have j:=(eZ c5);have q:=(eZ c6);exact mu ⟨[(7,false),(13,false)],[(1,(oO j [0,1])),(4,(oO q [2,3]))]⟩ [(1,1,oc j),(4,4,oc q),(8,13,oc C)] (eN h (gg [] []))
 refine ab (au ?_);obtain rfl:=sI h;exact RI [.bool]
end
end Go.Proofs.YtbedjpdfkmfplaaGreatDoor.T
namespace Go.Proofs.YtbedjpdfkmfplaaGreatDoor.T
open Go Go.Tv Go.Proofs
open Go.IntKind (i64 u64)
noncomputable section
theorem zi{d1 d2 d3:Int}{d4:QK}{d5:List wo}{d6 d7 d8:Int}{d9:QK}{I:List wo}{J L M N:QK}{O V f j v z A:Int}(B:QJ)(hd:Ho (dQ d1 d2 d3 d4 d5 d6 d7 d8 d9 I J L M N O V) (fun _=>True))
  (h1:0≤f∧f≤255) (h2:0≤j∧j≤255) (h3:0≤v∧v≤255) (h4:0≤z∧z≤65535) (h5:0≤A∧A≤65535) {D E:QK} (hx:∀i,0≤D.getD i 0∧D.getD i 0≤255) (X:∀i,0≤E.getD i 0∧E.getD i 0≤255) (x3 x4:Int) :
  cY d1 d2 d3 d4 d5 d6 d7 d8 d9 I J L M N O V f j v z A B D E x3 x4=some true:=by
 unfold cY;rw[Ku];simp only[Option.bind_some,Bool.not_true,Bool.false_eq_true,if_false];by_cases Y:D.length≤100∧E.length≤50
 case neg =>
  by_cases g:(D.length:Int) > 100
  ·rw[if_pos (by simpa using g)];rfl
  ·have g2:(E.length:Int) > 50:=by omega
   rw[if_neg (by simpa using g),decide_eq_true g2];rfl
 obtain⟨l1,l2⟩:=Y;have g1:¬((D.length:Int) > 100):=by omega
 have g2:¬((E.length:Int) > 50):=by omega
 simp only[g1,g2,decide_false,Bool.false_eq_true,if_false,Option.bind_some];obtain⟨d,e,_⟩:=hd;rw[e];simp only[Option.bind_some];obtain⟨⟨b,k⟩,eb,Z⟩:=Ec d.1 d.2.1 d.2.2.1 d.2.2.2.1 d.2.2.2.2.1 d.2.2.2.2.2.1 d.2.2.2.2.2.2.1 d.2.2.2.2.2.2.2.1 d.2.2.2.2.2.2.2.2;rw[eb];simp only[Option.bind_some];by_cases hk:(k.1 != 0)=true
 ·rw[if_pos hk];rcases Z with⟨q,-⟩ | ⟨-,q⟩
  ·exact absurd (show k.1=0 from q) (by simpa using hk)
  ·simp only at q;rw[q];rfl
 rw[if_neg hk];have rb:RB b:=(Z.resolve_right fun h=>by simp at hk;exact h.1 hk).2;obtain⟨t,et,tb,tl⟩:=Ci (l:=D) (by omega) hx;obtain⟨u,eu,ub,ul⟩:=Ci (l:=E) (by omega) X;obtain⟨ec,hc⟩:=G5 B h1 h2 h3 h4 h5;obtain⟨m1,i,hi,ei⟩:=umod (n:=t.length) (by omega) x3;obtain⟨m2,n,hn,en⟩:=umod (n:=u.length) (by omega) x4;obtain⟨p,kn,q,hf⟩:∃p kn,fj b (mr f j v z A B).1 (mr f j v z A B).2.1 (mr f j v z A B).2.2.1 (mr f j v z A B).2.2.2.1 (mr f j v z A B).2.2.2.2.1 (mr f j v z A B).2.2.2.2.2 t=some (.inr (0,(LF p.1 p.2 (mr f j v z A B)).1,(LF p.1 p.2 (mr f j v z A B)).2,t,p.1,p.2,some (me p.1 p.2 (mr f j v z A B)),kn))∧Gc b (mr f j v z A B) t p kn:=by
  rcases N6 rb (c:=mr f j v z A B) tb (by omega)with⟨q,-⟩ | ⟨-,⟨q,-⟩ | ⟨-,p,kn,q,hf⟩⟩
  ·have a1:dV (mr f j v z A B).1 (mr f j v z A B).2.1 (mr f j v z A B).2.2.1 (mr f j v z A B).2.2.2.1 (mr f j v z A B).2.2.2.2.1 (mr f j v z A B).2.2.2.2.2=some true:=hc;rw[a1]at q;cases q
  ·omega
  ·exact⟨p,kn,q,hf⟩
 generalize mr f j v z A B=c at ec q hf hc;have a2:∀a,Bytes (u.take a):=fun a y X=>ub y (List.mem_of_mem_take X)
 have a3:∀a,Bytes (u.drop a):=fun a y X=>ub y (List.mem_of_mem_drop X)
 obtain⟨C,a7,qA,fA⟩:=AH rb hf (i:=i) (d:=0) ub (by omega) (by omega) (by omega);obtain⟨pB,a8,qB,fB⟩:=AH rb hf (i:=i) (d:=0) (a3 n) (by omega) (by rw[List.length_drop];omega) (by rw[List.length_drop];omega);have a9:(t.take i++u.drop n++t.drop (i+0)).length=t.length+(u.length - n):=by simp only[List.length_append,List.length_take,List.length_drop];omega
 obtain⟨pC,a4,qC,fC⟩:=AH rb fB (i:=i) (d:=0) (a2 n) (by omega) (by rw[List.length_take];omega) (by rw[List.length_take];omega);have hx:(t.take i++u.drop n++t.drop (i+0)).take i++u.take n++(t.take i++u.drop n++t.drop (i+0)).drop (i+0)=t.take i++u++t.drop (i+0):=by
  have aa:(t.take i).length=i:=by rw[List.length_take];omega
  rw[Nat.add_zero,List.append_assoc (t.take i),List.take_append_of_le_length (by omega),List.take_of_length_le (by omega),List.drop_append_of_le_length (by omega),List.drop_of_length_le (l:=t.take i) (by omega),List.nil_append];rw[List.append_assoc,List.append_assoc,←List.append_assoc (u.take n),List.take_append_drop]
 rw[hx]at qC fC;have hp:=fA.same fC;rw[hp]at qC fC;obtain⟨R,hR,eR⟩:=vh fA b;have ac:=(vh fC b);have tA:=F1 fA b;have tC:=F1 fC b;have eC:cT (LF C.1 C.2 c).1 (LF C.1 C.2 c).2 b c.1 c.2.1 c.2.2.1 c.2.2.2.1 c.2.2.2.2.1 c.2.2.2.2.2 (t.take i++u++t.drop (i+0)) C.1 C.2 (some (me C.1 C.2 c)) a4=some (R,(LF C.1 C.2 c).2):=eR;have z0:((0:Nat):Int)=0:=rfl;rw[z0]at qA qB qC;have a5:(u.take (u.length:Int).toNat).drop ((n:Nat):Int).toNat=u.drop n:=by rw[Int.toNat_natCast,Int.toNat_natCast,List.take_length]
 have a6:(u.take ((n:Nat):Int).toNat).drop (0:Int).toNat=u.take n:=rfl;rw[et,ec,eu];simp only[Option.bind_some];rw[if_pos m1,if_pos m2,ei,en,q];simp only[Option.bind_some,bne_self_eq_false,Bool.false_eq_true,if_false];rw[qA];simp only[Option.bind_some,bne_self_eq_false,Bool.false_eq_true,if_false];rw[if_pos (by omega),a5,qB];simp only[Option.bind_some,bne_self_eq_false,Bool.false_eq_true,if_false];rw[if_pos (by omega),a6,qC];simp only[Option.bind_some,bne_self_eq_false,Bool.false_eq_true,if_false];rw[tA,tC];simp only[Option.bind_some,BEq.rfl,if_true];rw[eR,eC];simp only[Option.bind_some];rw[G3 hR];rfl
abbrev gx:List Ty:=[Oz,(.prod (.int .u8) (.prod (.int .u8) (.prod (.int .u8) (.prod (.int .u16) (.prod (.int .u16) .flt))))),(.slice (.int .u8)),(.slice (.int .u8)),(.int .i64),(.int .i64)]
theorem xL(x:MC gx)(e:NL gx x):cY x.1.1.1 x.1.1.2.1 x.1.1.2.2.1 x.1.1.2.2.2.1 x.1.1.2.2.2.2 x.1.2.1.1 x.1.2.1.2.1 x.1.2.1.2.2.1 x.1.2.1.2.2.2.1 x.1.2.1.2.2.2.2 x.1.2.2.1 x.1.2.2.2.1 x.1.2.2.2.2.1 x.1.2.2.2.2.2.1 x.1.2.2.2.2.2.2.1 x.1.2.2.2.2.2.2.2 x.2.1.1 x.2.1.2.1 x.2.1.2.2.1 x.2.1.2.2.2.1 x.2.1.2.2.2.2.1 x.2.1.2.2.2.2.2 x.2.2.1 x.2.2.2.1 x.2.2.2.2.1 x.2.2.2.2.2.1=some true :=
 zi _ (J1 e.1) e.2.1.1 e.2.1.2.1 e.2.1.2.2.1 e.2.1.2.2.2.1 e.2.1.2.2.2.2.1 (yb e.2.2.1) (yb e.2.2.2.1) _ _
end
end Go.Proofs.YtbedjpdfkmfplaaGreatDoor.T
