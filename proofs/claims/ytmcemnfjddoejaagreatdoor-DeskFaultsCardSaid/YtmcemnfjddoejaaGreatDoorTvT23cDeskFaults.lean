import Derived.Test.YtmcemnfjddoejaaGreatDoorTvT23c0
import Derived.Test.YtmcemnfjddoejaaGreatDoorTvT23cDeskFaults3
import Derived.Test.YtmcemnfjddoejaaGreatDoorTvT23cDeskFaults4
namespace Go.Proofs.YtmcemnfjddoejaaGreatDoor.T
open Go Go.Tv Go.Proofs
open Go.IntKind (i64 u8)
noncomputable section
set_option maxRecDepth 100000
set_option maxHeartbeats 4000000
def br(e:QK)(c:Int):Option (Int×Int) :=
 (if(decide (c≥(e.length:Int)))=true then some (0,c)
 else(if 0≤(i64.wrap ((i64.wrap (c+1)) - 1))∧(i64.wrap ((i64.wrap (c+1)) - 1))<(e.length:Int)then some ((i64.wrap (e.getD ((i64.wrap ((i64.wrap (c+1)) - 1)).toNat) 0)),(i64.wrap (c+1)))else none))
theorem dp{e:QK}{f:Int}{c:Int×Int}(h:br e f=some c):
  fP Tryz.prog 96 [.adr 0 0 2 0] [(0,.box [.p false (.slice (.int .u8)) e,.i64 f])] (.i64 c.1) [(0,.box [.p false (.slice (.int .u8)) e,.i64 c.2])]:=by
 refine OB Tryz.func96 (fun Bw w0=>?_);unfold br at h;refine G (af (GD a0 [] (aC h (fun j h=>?_) (fun j h=>?_))))
 ·refine G (au (ah ?_));obtain rfl:=sI h;exact RO [some (.int .i64)] [] [0] [(2,.i64 0)] [(0,.box [.p false (.slice (.int .u8)) e,.i64 f])] 1 1
 refine ae (ab (G ?_));obtain⟨q,h⟩:=aE h;refine GD a0 [(9,9,oc q)] (au ?_);obtain rfl:=sI h;exact RO [some (.int .i64)] [] [0] [(2,.i64 (i64.wrap (e.getD ((i64.wrap ((i64.wrap (f+1)) - 1)).toNat) 0)))] [(0,.box [.p false (.slice (.int .u8)) e,.i64 (i64.wrap (f+1))])] 1 1
def dQ(c:Int→Int→QK→Int→Option Z4)(p x:Int)(v:QK)(i2:Int):Option Z4 :=
 ((br v i2).bind fun(e,f) =>
 (if(decide (x≤0))=true then((cm p e).bind fun V =>
 some (V,f))
 else(if ¬(12:Int)=0 then(if((Int.tmod e 12) == 4)=true then some (([46]:QX),f)
 else(if((Int.tmod e 12) == 5)=true then((br v f).bind fun(X,Y) =>
 ((bY p (u8.wrap X)).bind fun A =>
 (if([91]:QX).length+A.length≤9223372036854775807 then(if(([91]:QX)++A).length+([93]:QX).length≤9223372036854775807 then some (((([91]:QX)++A)++([93]:QX)),Y)else none)else none)))
 else(if((Int.tmod e 12) == 6)=true then((br v f).bind fun(Z,a1) =>
 ((bY p (u8.wrap Z)).bind fun B =>
 (if([91,94]:QX).length+B.length≤9223372036854775807 then(if(([91,94]:QX)++B).length+([93]:QX).length≤9223372036854775807 then some (((([91,94]:QX)++B)++([93]:QX)),a1)else none)else none)))
 else(if((Int.tmod e 12) == 7)=true then((c p (i64.wrap (x - 1)) v f).bind fun(C,a2) =>
 (if([40]:QX).length+C.length≤9223372036854775807 then(if(([40]:QX)++C).length+([41,42]:QX).length≤9223372036854775807 then some (((([40]:QX)++C)++([41,42]:QX)),a2)else none)else none))
 else(if((Int.tmod e 12) == 8)=true then((c p (i64.wrap (x - 1)) v f).bind fun(D,a3) =>
 (if([40]:QX).length+D.length≤9223372036854775807 then(if(([40]:QX)++D).length+([41,43]:QX).length≤9223372036854775807 then some (((([40]:QX)++D)++([41,43]:QX)),a3)else none)else none))
 else(if((Int.tmod e 12) == 9)=true then((c p (i64.wrap (x - 1)) v f).bind fun(E,I) =>
 (if([40]:QX).length+E.length≤9223372036854775807 then(if(([40]:QX)++E).length+([41,63]:QX).length≤9223372036854775807 then some (((([40]:QX)++E)++([41,63]:QX)),I)else none)else none))
 else(if((Int.tmod e 12) == 10)=true then((c p (i64.wrap (x - 1)) v f).bind fun(j,J) =>
 ((c p (i64.wrap (x - 1)) v J).bind fun(q,L) =>
 (if([40]:QX).length+j.length≤9223372036854775807 then(if(([40]:QX)++j).length+([124]:QX).length≤9223372036854775807 then(if((([40]:QX)++j)++([124]:QX)).length+q.length≤9223372036854775807 then(if(((([40]:QX)++j)++([124]:QX))++q).length+([41]:QX).length≤9223372036854775807 then some (((((([40]:QX)++j)++([124]:QX))++q)++([41]:QX)),L)else none)else none)else none)else none)))
 else(if((Int.tmod e 12) == 11)=true then((c p (i64.wrap (x - 1)) v f).bind fun(u,M) =>
 ((c p (i64.wrap (x - 1)) v M).bind fun(z,N) =>
 (if u.length+([32]:QX).length≤9223372036854775807 then(if(u++([32]:QX)).length+z.length≤9223372036854775807 then some (((u++([32]:QX))++z),N)else none)else none)))
 else((cm p e).bind fun O =>
 some (O,f))))))))))else none)))
def cF:Nat→Int→Int→QK→Int→Option Z4
 | 0=>fun _ _ _ _=>none
 | n+1=>dQ (cF n)
theorem ma(e:Int→Int→QK→Int→Option Z4)(c:∀ {v x:Int} {f:QK} {z:Int} {j:QX×Int},e v x f z=some j→fP Tryz.prog 69 [.i64 v,.adr 0 0 2 0,.i64 x] [(0,.box [.p false (.slice (.int .u8)) f,.i64 z])] (.st j.1) [(0,.box [.p false (.slice (.int .u8)) f,.i64 j.2])]){v x:Int}{f:QK}{z:Int}{j:QX×Int}(h:dQ e v x f z=some j):
  fP Tryz.prog 69 [.i64 v,.adr 0 0 2 0,.i64 x] [(0,.box [.p false (.slice (.int .u8)) f,.i64 z])] (.st j.1) [(0,.box [.p false (.slice (.int .u8)) f,.i64 j.2])]:=by
 refine OB Tryz.func69 (fun Bw w0=>?_);unfold dQ at h;refine G ?_;obtain⟨⟨d4,u⟩,M,h⟩:=aj h;refine GO 1 [0] (dp M) (af (G (aC h (fun N h=>?_) (fun N h=>?_))))
 ·obtain⟨O,V,h⟩:=aj h;refine GP 2 (dD V) (au (ah ?_));obtain rfl:=sI h;exact RO [some .str] [] [0] [(6,.st O)] [(0,.box [.p false (.slice (.int .u8)) f,.i64 u])] 1 1
 refine ae (ab (af (GC 1 h (fun h=>ak (G (aC h (fun X h=>?_) (fun X h=>?_)))))))
 ·refine G (au (aB (ah ?_)));obtain rfl:=sI h;exact RO [some .str] [] [0] [(6,.st ([46]:QX))] [(0,.box [.p false (.slice (.int .u8)) f,.i64 u])] 1 1
 refine G (aC h (fun Y h=>?_) (fun Y h=>?_))
 ·obtain⟨⟨d5,Z⟩,a1,h⟩:=aj h;refine GO 1 [0] (dp a1) ?_;obtain⟨a2,a3,h⟩:=aj h;obtain⟨a4,a5,h⟩:=g2 h;have q:=(dc a3);refine GN ⟨[],[(3,(oP q))]⟩ [(3,3,oc q),(4,4,oc a4),(5,5,oc a5)] (au (aB (ah ?_)));obtain rfl:=sI h;exact RO [some .str] [] [0] [(6,.st ((([91]:QX)++a2)++([93]:QX)))] [(0,.box [.p false (.slice (.int .u8)) f,.i64 Z])] 1 1
 refine G (aC h (fun a6 h=>?_) (fun a6 h=>?_))
 ·obtain⟨⟨d6,a7⟩,a8,h⟩:=aj h;refine GO 1 [0] (dp a8) ?_;obtain⟨a9,aa,h⟩:=aj h;obtain⟨ac,ad,h⟩:=g2 h;have q:=(dc aa);refine GN ⟨[],[(3,(oP q))]⟩ [(3,3,oc q),(4,4,oc ac),(5,5,oc ad)] (au (aB (ah ?_)));obtain rfl:=sI h;exact RO [some .str] [] [0] [(6,.st ((([91,94]:QX)++a9)++([93]:QX)))] [(0,.box [.p false (.slice (.int .u8)) f,.i64 a7])] 1 1
 refine G (aC h (fun ax h=>?_) (fun ax h=>?_))
 ·obtain⟨⟨b1,b2⟩,b3,h⟩:=aj h;refine GO 4 [0] (c b3) ?_;obtain⟨b4,b5,h⟩:=g2 h;refine GN a0 [(1,1,oc b4),(2,2,oc b5)] (au (aB (ah ?_)));obtain rfl:=sI h;exact RO [some .str] [] [0] [(6,.st ((([40]:QX)++b1)++([41,42]:QX)))] [(0,.box [.p false (.slice (.int .u8)) f,.i64 b2])] 1 1
 refine G (aC h (fun b6 h=>?_) (fun b6 h=>?_))
 ·obtain⟨⟨b7,b8⟩,b9,h⟩:=aj h;refine GO 4 [0] (c b9) ?_;obtain⟨be,bi,h⟩:=g2 h;refine GN a0 [(1,1,oc be),(2,2,oc bi)] (au (aB (ah ?_)));obtain rfl:=sI h;exact RO [some .str] [] [0] [(6,.st ((([40]:QX)++b7)++([41,43]:QX)))] [(0,.box [.p false (.slice (.int .u8)) f,.i64 b8])] 1 1
 refine G (aC h (fun bs h=>?_) (fun bs h=>?_))
 ·obtain⟨⟨bv,A⟩,bx,h⟩:=aj h;refine GO 4 [0] (c bx) ?_;obtain⟨c1,c2,h⟩:=g2 h;refine GN a0 [(1,1,oc c1),(2,2,oc c2)] (au (aB (ah ?_)));obtain rfl:=sI h;exact RO [some .str] [] [0] [(6,.st ((([40]:QX)++bv)++([41,63]:QX)))] [(0,.box [.p false (.slice (.int .u8)) f,.i64 A])] 1 1
 refine G (aC h (fun c3 h=>?_) (fun c3 h=>?_))
 ·obtain⟨⟨B,d2⟩,c4,h⟩:=aj h;refine GO 4 [0] (c c4) ?_;obtain⟨⟨C,D⟩,c5,h⟩:=aj h;refine GO 4 [0] (c c5) ?_;obtain⟨c6,c7,c8,c9,h⟩:=g4 h;refine GN a0 [(1,1,oc c6),(2,2,oc c7),(4,4,oc c8),(5,5,oc c9)] (au (aB (ah ?_)));obtain rfl:=sI h;exact RO [some .str] [] [0] [(6,.st ((((([40]:QX)++B)++([124]:QX))++C)++([41]:QX)))] [(0,.box [.p false (.slice (.int .u8)) f,.i64 D])] 1 1
 refine G (aC h (fun cc h=>?_) (fun cc h=>?_))
 ·obtain⟨⟨E,d3⟩,ch,h⟩:=aj h;refine GO 4 [0] (c ch) ?_;obtain⟨⟨I,J⟩,cl,h⟩:=aj h;refine GO 4 [0] (c cl) ?_;obtain⟨cp,cs,h⟩:=g2 h;refine GN a0 [(1,1,oc cp),(3,3,oc cs)] (au (aB (ah ?_)));obtain rfl:=sI h;exact RO [some .str] [] [0] [(6,.st ((E++([32]:QX))++I))] [(0,.box [.p false (.slice (.int .u8)) f,.i64 J])] 1 1
 refine ae (ay (ab ?_));obtain⟨L,cx,h⟩:=aj h;refine GP 2 (dD cx) (au ?_);obtain rfl:=sI h;exact RO [some .str] [] [0] [(6,.st L)] [(0,.box [.p false (.slice (.int .u8)) f,.i64 u])] 1 1
theorem iF:∀(n:Nat) {f j:Int} {e:QK} {q:Int} {c:QX×Int},cF n f j e q=some c→fP Tryz.prog 69 [.i64 f,.adr 0 0 2 0,.i64 j] [(0,.box [.p false (.slice (.int .u8)) e,.i64 q])] (.st c.1) [(0,.box [.p false (.slice (.int .u8)) e,.i64 c.2])]
 | 0,_,_,_,_,_,h=>by cases h
 | n+1,f,j,e,q,c,h=>ma (cF n) (iF n)  h
def eM(e:Int)(c:QK):Option QX :=
 (if((c.length:Int) == 0)=true then some ([]:QX)
 else(if 0≤(0:Int)∧0≤(min (c.length:Int) (30:Int))∧(min (c.length:Int) (30:Int))≤(c.length:Int)then((cF 1000 e 3 ((c.take (min (c.length:Int) (30:Int)).toNat).drop (0:Int).toNat) 0).bind fun(f,_) =>
 some f)else none))
theorem jQ{f:Int}{j:QK}{c:QX}(h:eM f j=some c):
  Pure Tryz.prog 41 [.i64 f,.p false (.slice (.int .u8)) j] (aJ (bc false [⟨.str,c⟩])):=by
 refine PB Tryz.func41 (fun Bw w0=>?_);unfold eM at h;refine G (af (G (aC h (fun q h=>?_) (fun q h=>?_))))
 ·refine G (au (ah ?_));obtain rfl:=sI h;exact RI [.str]
 refine ae (ab ?_);obtain⟨u,h⟩:=aE h;obtain⟨⟨x,z⟩,v,h⟩:=aj h;have e:=(iF 1000 v);refine GN ⟨[],[(8,(oO e [88]))]⟩ [(5,5,oc u),(8,8,oc e)] (au ?_);obtain rfl:=sI h;exact RI [.str]
def ka(j:QK)(p:Int):Z4→Option (Z4⊕QX):=fun(v6,e) =>
 (((if(decide (e<(j.length:Int)))=true then some ((decide (e<p)))
 else some (false))).bind fun q=>(if q=true then(if v6.length+([116,114,101,97,116,32]:QX).length≤9223372036854775807 then((cm p e).bind fun c =>
 (if(v6++([116,114,101,97,116,32]:QX)).length+c.length≤9223372036854775807 then(if((v6++([116,114,101,97,116,32]:QX))++c).length+([32,61,32]:QX).length≤9223372036854775807 then(if 0≤e∧e<(j.length:Int)then((cm p (i64.wrap (j.getD e.toNat 0))).bind fun f =>
 (if(((v6++([116,114,101,97,116,32]:QX))++c)++([32,61,32]:QX)).length+f.length≤9223372036854775807 then(if((((v6++([116,114,101,97,116,32]:QX))++c)++([32,61,32]:QX))++f).length+([59,10]:QX).length≤9223372036854775807 then some (Sum.inl ((((((v6++([116,114,101,97,116,32]:QX))++c)++([32,61,32]:QX))++f)++([59,10]:QX)),(i64.wrap (e+1))))else none)else none))else none)else none)else none))else none)
 else some (Sum.inr v6)))
def j6(e:List yE)(u:Int):Z4→Option (Z4⊕QX):=fun(f,c) =>
 (((if(decide (c<(e.length:Int)))=true then some ((decide (c<10)))
 else some (false))).bind fun q=>(if q=true then(if 0≤c∧c<(e.length:Int)then(if ¬(3:Int)=0 then(if 0≤(Int.tmod ((e.getD c.toNat (0,[],([]:QK))).1) (3:Int))∧(Int.tmod ((e.getD c.toNat (0,[],([]:QK))).1) (3:Int))<(([([107,101,101,112,32]:QX),([109,97,121,32]:QX),([109,117,115,116,32]:QX)]:QQ).length:Int)then(if(Int.tmod ((e.getD c.toNat (0,[],([]:QK))).1) (3:Int)).toNat<([([107,101,101,112,32]:QX),([109,97,121,32]:QX),([109,117,115,116,32]:QX)]:QQ).length then(if f.length+(([([107,101,101,112,32]:QX),([109,97,121,32]:QX),([109,117,115,116,32]:QX)]:QQ).getD ((Int.tmod ((e.getD c.toNat (0,[],([]:QK))).1) (3:Int)).toNat) ([]:QX)).length≤9223372036854775807 then(if 0≤c∧c<(e.length:Int)then((eM u ((e.getD c.toNat (0,[],([]:QK))).2.1)).bind fun j =>
 (if(f++(([([107,101,101,112,32]:QX),([109,97,121,32]:QX),([109,117,115,116,32]:QX)]:QQ).getD ((Int.tmod ((e.getD c.toNat (0,[],([]:QK))).1) (3:Int)).toNat) ([]:QX))).length+j.length≤9223372036854775807 then(if((f++(([([107,101,101,112,32]:QX),([109,97,121,32]:QX),([109,117,115,116,32]:QX)]:QQ).getD ((Int.tmod ((e.getD c.toNat (0,[],([]:QK))).1) (3:Int)).toNat) ([]:QX)))++j).length+([32,47,32]:QX).length≤9223372036854775807 then(if 0≤c∧c<(e.length:Int)then((eM u ((e.getD c.toNat (0,[],([]:QK))).2.2)).bind fun p =>
 (if(((f++(([([107,101,101,112,32]:QX),([109,97,121,32]:QX),([109,117,115,116,32]:QX)]:QQ).getD ((Int.tmod ((e.getD c.toNat (0,[],([]:QK))).1) (3:Int)).toNat) ([]:QX)))++j)++([32,47,32]:QX)).length+p.length≤9223372036854775807 then(if((((f++(([([107,101,101,112,32]:QX),([109,97,121,32]:QX),([109,117,115,116,32]:QX)]:QQ).getD ((Int.tmod ((e.getD c.toNat (0,[],([]:QK))).1) (3:Int)).toNat) ([]:QX)))++j)++([32,47,32]:QX))++p).length+([59,10]:QX).length≤9223372036854775807 then some (Sum.inl ((((((f++(([([107,101,101,112,32]:QX),([109,97,121,32]:QX),([109,117,115,116,32]:QX)]:QQ).getD ((Int.tmod ((e.getD c.toNat (0,[],([]:QK))).1) (3:Int)).toNat) ([]:QX)))++j)++([32,47,32]:QX))++p)++([59,10]:QX)),(i64.wrap (c+1))))else none)else none))else none)else none)else none))else none)else none)else none)else none)else none)else none)
 else some (Sum.inr f)))
def eP(A p u:Int)(v:QK)(z:List yE):Option QX :=
 ((bB A p u v z).bind fun j =>
 ((bY j 255).bind fun e =>
 (if([99,108,97,115,115]:QX).length+e.length≤9223372036854775807 then(if(([99,108,97,115,115]:QX)++e).length+([59,10]:QX).length≤9223372036854775807 then(((if(p != 0)=true then(if((([99,108,97,115,115]:QX)++e)++([59,10]:QX)).length+([106,111,105,110]:QX).length≤9223372036854775807 then((bY j p).bind fun c =>
 (if(((([99,108,97,115,115]:QX)++e)++([59,10]:QX))++([106,111,105,110]:QX)).length+c.length≤9223372036854775807 then(if((((([99,108,97,115,115]:QX)++e)++([59,10]:QX))++([106,111,105,110]:QX))++c).length+([32,47]:QX).length≤9223372036854775807 then((bY j u).bind fun f =>
 (if(((((([99,108,97,115,115]:QX)++e)++([59,10]:QX))++([106,111,105,110]:QX))++c)++([32,47]:QX)).length+f.length≤9223372036854775807 then(if((((((([99,108,97,115,115]:QX)++e)++([59,10]:QX))++([106,111,105,110]:QX))++c)++([32,47]:QX))++f).length+([59,10]:QX).length≤9223372036854775807 then some ((((((((([99,108,97,115,115]:QX)++e)++([59,10]:QX))++([106,111,105,110]:QX))++c)++([32,47]:QX))++f)++([59,10]:QX)))else none)else none))else none)else none))else none)
 else some (((([99,108,97,115,115]:QX)++e)++([59,10]:QX))))).bind fun v1=>((iter (ka v j) (v1,0)).bind fun B=>((iter (j6 z j) (B,0)).bind fun q=>some q)))else none)else none)))
theorem jN(e:Bool){u v x:Int}{z:QK}{A:List yE}{I:QX}(h:eP u v x z A=some I):
  Pure Tryz.prog 25 [.agg [.u8 u,.u8 v,.u8 x,.p e (.slice (.int .u8)) z,.p false (.slice (.prod (.int .u8) Ic)) A]] (aJ (bc false [⟨.str,I⟩])):=by
 refine PB Tryz.func25 (fun Bw w0=>?_);unfold eP at h;refine G ?_;obtain⟨E,q2,h⟩:=aj h;refine GP 1 (dY e false q2) ?_;obtain⟨r4,q4,h⟩:=aj h;obtain⟨c3,c4,h⟩:=g2 h;have c:=(dc q4);refine GN ⟨[],[(1,(oP c))]⟩ [(1,1,oc c),(2,2,oc c3),(3,3,oc c4)] (af (G (bn h (fun v1=>aA [(1,.adr 0 0 5 0),(3,.i64 E),(4,.st v1)] (FL u v x e z A) 1) (fun v1 h=>?_) (fun v1 h=>?_))))
 ·refine aC h (fun B2 h=>?_) (fun B2 h=>?_)
  ·obtain⟨a4,h⟩:=aE h;obtain⟨be,a5,h⟩:=aj h;obtain⟨a6,a7,h⟩:=g2 h;obtain⟨bi,a8,h⟩:=aj h;obtain⟨a9,aa,h⟩:=g2 h;have c:=(dc a5);have f:=(dc a8);exact kY ⟨[],[(5,(oP c)),(11,(oP f))]⟩ [(1,1,oc a4),(5,5,oc c),(6,6,oc a6),(7,7,oc a7),(11,11,oc f),(12,12,oc a9),(13,13,oc aa)] (eN h (gg [] [0]))
  exact ae (eN h (gg [] [0]))
 refine ab (af (G (ak (cw h (fun(v6,v7)=>aA [(1,.adr 0 0 5 0),(3,.i64 E),(4,.st v6),(5,.i64 v7)] (FL u v x e z A) 1) 0 (fun v8=>aA [(1,.adr 0 0 5 0),(3,.i64 E),(4,.st v8)] (FL u v x e z A) 1) (gg [] [0]) (fun y o h=>?_) (fun v8 h=>?_)))))
 ·obtain⟨v6,v7⟩:=y;unfold ka at h;refine af (af (bn h (fun v9=>aA [(1,.adr 0 0 5 0),(3,.i64 E),(4,.st v6),(5,.i64 v7),(40,.bo v9)] (FL u v x e z A) 1) (fun v9 h=>?_) (fun v9 h=>?_)))
  ·rcases aI h with⟨j,h⟩ | ⟨j,h⟩
   ·exact bz ⟨[(5,true),(9,true)],[]⟩ [(6,8,an j),(9,9,oc j)] (eN h (gg [] [0]))
   exact bz ⟨[(5,false),(9,false)],[]⟩ [(6,9,oc j)] (eN h (gg [] [0]))
  refine ab (aC h (fun ac h=>?_) (fun ac h=>?_))
  ·refine ae (ab (af (ak ?_)));obtain⟨ad,h⟩:=aE h;obtain⟨bs,ax,h⟩:=aj h;obtain⟨b1,b2,b3,h⟩:=g3 h;obtain⟨bv,b4,h⟩:=aj h;obtain⟨b5,b6,h⟩:=g2 h;have c:=(dD ax);have f:=(dD b4);refine kY ⟨[],[(4,(oP c)),(14,(oP f))]⟩ [(1,1,oc ad),(4,4,oc c),(5,5,oc b1),(6,6,oc b2),(11,11,oc b3),(14,14,oc f),(15,15,oc b5),(16,16,oc b6)] (ay (ab (Ge ?_)));exact eB h (gg [] [0])
  refine aw (aQ ?_);exact eX h (gg [] [0])
 refine az (ab (G (af (G (ak (cw h (fun(B,C)=>aA [(1,.adr 0 0 5 0),(3,.i64 E),(4,.st B),(6,.sl 1),(7,.i64 C)] (K3 u v x e z A ([([107,101,101,112,32]:QX),([109,97,121,32]:QX),([109,117,115,116,32]:QX)]:QQ)) 2) 2 (fun J=>aA [(4,.st J)] [] 0) (gg [] [0,1]) (fun y o h=>?_) (fun J h=>?_)))))))
 ·obtain⟨B,C⟩:=y;unfold j6 at h;refine af (af (bn h (fun D=>aA [(1,.adr 0 0 5 0),(3,.i64 E),(4,.st B),(6,.sl 1),(7,.i64 C),(69,.bo D)] (K3 u v x e z A ([([107,101,101,112,32]:QX),([109,97,121,32]:QX),([109,117,115,116,32]:QX)]:QQ)) 2) (fun D h=>?_) (fun D h=>?_)))
  ·rcases aI h with⟨q,h⟩ | ⟨q,h⟩
   ·exact bz ⟨[(5,true),(8,true)],[]⟩ [(6,7,an q),(8,8,oc q)] (eN h (gg [] [0,1]))
   exact bz ⟨[(5,false),(8,false)],[]⟩ [(6,8,oc q)] (eN h (gg [] [0,1]))
  refine ab (aC h (fun b7 h=>?_) (fun b7 h=>?_))
  ·refine ae (ab (af (ak ?_)));obtain⟨L,M,N,O,h⟩:=g4 h;obtain⟨V,X,h⟩:=g2 h;obtain⟨bx,b8,h⟩:=aj h;obtain⟨Y,Z,a1,h⟩:=g3 h;obtain⟨c1,b9,h⟩:=aj h;obtain⟨a2,a3,h⟩:=g2 h;have c:=(jQ b8);have f:=(jQ b9);refine kY ⟨[],[(19,(oP c)),(29,(oP f))]⟩ [(5,5,oc L),(8,8,oc M),(9,9,oc N),(10,10,oc O),(11,11,oc V),(16,16,oc X),(19,19,oc c),(20,20,oc Y),(21,21,oc Z),(26,26,oc a1),(29,29,oc f),(30,30,oc a2),(31,31,oc a3)] (ay (ab (Ge ?_)));exact eB h (gg [] [0,1])
  refine aw (aQ ?_);exact eX h (gg [] [])
 refine az (ab (G (au ?_)));obtain rfl:=sI h;exact RI [.str]
def fh(f:QK):Z4→Option (Z4⊕QX):=fun(c,e) =>
 (((if(decide (e<(f.length:Int)))=true then some ((decide (e<60)))
 else some (false))).bind fun j=>(if j=true then(if 0≤e∧e<(f.length:Int)then(if ¬(15:Int)=0 then(if 0≤(Int.tmod (i64.wrap (f.getD e.toNat 0)) (15:Int))∧(Int.tmod (i64.wrap (f.getD e.toNat 0)) (15:Int))<(([([97]:QX),([98]:QX),([99]:QX),([49]:QX),([50]:QX),([51]:QX),([32]:QX),([32]:QX),([97,49,98,32]:QX),([98,49,99,32]:QX),([50,99,32]:QX),([46,97,49]:QX),([99,46]:QX),([97,98,45,99,32]:QX),([99,97,45,98,45,97,32]:QX)]:QQ).length:Int)then(if(Int.tmod (i64.wrap (f.getD e.toNat 0)) (15:Int)).toNat<([([97]:QX),([98]:QX),([99]:QX),([49]:QX),([50]:QX),([51]:QX),([32]:QX),([32]:QX),([97,49,98,32]:QX),([98,49,99,32]:QX),([50,99,32]:QX),([46,97,49]:QX),([99,46]:QX),([97,98,45,99,32]:QX),([99,97,45,98,45,97,32]:QX)]:QQ).length then(if c.length+(([([97]:QX),([98]:QX),([99]:QX),([49]:QX),([50]:QX),([51]:QX),([32]:QX),([32]:QX),([97,49,98,32]:QX),([98,49,99,32]:QX),([50,99,32]:QX),([46,97,49]:QX),([99,46]:QX),([97,98,45,99,32]:QX),([99,97,45,98,45,97,32]:QX)]:QQ).getD ((Int.tmod (i64.wrap (f.getD e.toNat 0)) (15:Int)).toNat) []).length≤9223372036854775807 then some (Sum.inl ((c++(([([97]:QX),([98]:QX),([99]:QX),([49]:QX),([50]:QX),([51]:QX),([32]:QX),([32]:QX),([97,49,98,32]:QX),([98,49,99,32]:QX),([50,99,32]:QX),([46,97,49]:QX),([99,46]:QX),([97,98,45,99,32]:QX),([99,97,45,98,45,97,32]:QX)]:QQ).getD ((Int.tmod (i64.wrap (f.getD e.toNat 0)) (15:Int)).toNat) [])),(i64.wrap (e+1))))else none)else none)else none)else none)else none)
 else some (Sum.inr c)))
def eJ(e:QK):Option QX :=
 ((iter (fh e) (([]:QX),0)).bind fun c=>some c)
theorem nL(j:Bool){u:QK}{q:QX}(h:eJ u=some q):
  Pure Tryz.prog 26 [.p j (.slice (.int .u8)) u] (aJ (bc false [⟨.str,q⟩])):=by
 refine PB Tryz.func26 (fun Bw w0=>?_);unfold eJ at h;refine G (G (G (af (G (ak (cw h (fun(c,v)=>aA [(0,.p j (.slice (.int .u8)) u),(3,.sl 0),(4,.st c),(5,.i64 v)] [(0,.arr 9 .str ([([97]:QX),([98]:QX),([99]:QX),([49]:QX),([50]:QX),([51]:QX),([32]:QX),([32]:QX),([97,49,98,32]:QX),([98,49,99,32]:QX),([50,99,32]:QX),([46,97,49]:QX),([99,46]:QX),([97,98,45,99,32]:QX),([99,97,45,98,45,97,32]:QX)]:QQ))] 1) 0 (fun f=>aA [(4,.st f)] [] 0) (gg [] [8]) (fun y o h=>?_) (fun f h=>?_)))))))
 ·obtain⟨c,v⟩:=y;unfold fh at h;refine af (af (bn h (fun x=>aA [(0,.p j (.slice (.int .u8)) u),(3,.sl 0),(4,.st c),(5,.i64 v),(14,.bo x)] [(0,.arr 9 .str ([([97]:QX),([98]:QX),([99]:QX),([49]:QX),([50]:QX),([51]:QX),([32]:QX),([32]:QX),([97,49,98,32]:QX),([98,49,99,32]:QX),([50,99,32]:QX),([46,97,49]:QX),([99,46]:QX),([97,98,45,99,32]:QX),([99,97,45,98,45,97,32]:QX)]:QQ))] 1) (fun x h=>?_) (fun x h=>?_)))
  ·rcases aI h with⟨e,h⟩ | ⟨e,h⟩
   ·exact bz ⟨[(4,true),(7,true)],[]⟩ [(5,6,an e),(7,7,oc e)] (eN h (gg [] [0]))
   exact bz ⟨[(4,false),(7,false)],[]⟩ [(5,7,oc e)] (eN h (gg [] [0]))
  refine ab (aC h (fun z h=>?_) (fun z h=>?_))
  ·refine ae (ab (af (ak ?_)));obtain⟨A,B,C,D,h⟩:=g4 h;obtain⟨E,h⟩:=aE h;refine bz a0 [(4,4,oc A),(7,7,oc B),(8,8,oc C),(9,9,oc D),(10,10,oc E)] (ay (ab (Ge ?_)));exact eB h (gg [] [0])
  refine aw (aQ ?_);exact eX h (gg [] [])
 refine az (ab (G (au ?_)));obtain rfl:=sI h;exact RI [.str]
def dH(I J L:Int)(M:QK)(N:List yE)(O V X:Int)(Y:QK)(e:List yE)(f j p q:QK)(u v:Int):Option (XZ×XZ×XZ×XZ×QX×QX×QX×Int×Int) :=
 ((bB I J L M N).bind fun Z =>
 ((cV f Z).bind fun x =>
 ((bB O V X Y e).bind fun z =>
 ((cV j z).bind fun A =>
 ((cV p 3).bind fun B =>
 ((eP I J L M N).bind fun C =>
 ((eP O V X Y e).bind fun D =>
 ((eJ q).bind fun E =>
 (if ¬(3:Int)=0 then(if ¬(3:Int)=0 then some (x,A,B,([(65,90,97),(97,122,97),(233,233,101)]:XZ),C,D,E,(i64.wrap (1+(i64.wrap (Int.tmod u 3)))),(i64.wrap (1+(i64.wrap (Int.tmod v 3)))))else none)else none)))))))))
theorem pC(q u c e f j:Bool){b1 b2 b3:Int}{b4:QK}{b5:List yE}{b6 b7 b8:Int}{b9:QK}{v:List yE}{x z:QK}{A B:QK}{C D:Int}{E:XZ×XZ×XZ×XZ×QX×QX×QX×Int×Int}(h:dH b1 b2 b3 b4 b5 b6 b7 b8 b9 v x z A B C D=some E):
  Pure Tryz.prog 10 [.agg [.u8 b1,.u8 b2,.u8 b3,.p q (.slice (.int .u8)) b4,.p false (.slice (.prod (.int .u8) Ic)) b5,.u8 b6,.u8 b7,.u8 b8,.p u (.slice (.int .u8)) b9,.p false (.slice (.prod (.int .u8) Ic)) v,.p c (.slice (.int .u8)) x,.p e (.slice (.int .u8)) z,.p f (.slice (.int .u8)) A,.p j (.slice (.int .u8)) B,.u8 C,.u8 D]] (aJ (bc false [⟨Y7,E⟩])):=by
 refine PB Tryz.func10 (fun Bw w0=>?_);unfold dH at h;refine G ?_;obtain⟨r9,q9,h⟩:=aj h;obtain⟨a6,Y,h⟩:=aj h;obtain⟨a7,Z,h⟩:=aj h;obtain⟨a8,a1,h⟩:=aj h;obtain⟨a9,a2,h⟩:=aj h;obtain⟨aa,a3,h⟩:=aj h;obtain⟨ac,a4,h⟩:=aj h;obtain⟨ad,a5,h⟩:=aj h;obtain⟨c3,c4,h⟩:=g2 h;have I:=(dY q false q9);have J:=(fH c Y);have L:=(dY u false Z);have M:=(fH e a1);have N:=(fH f a2);have O:=(jN q a3);have V:=(jN u a4);have X:=(nL j a5);refine GD ⟨[],[(4,(oP I)),(5,(oP J)),(10,(oP L)),(11,(oP M)),(14,(oP N)),(21,(oP O)),(24,(oP V)),(27,(oP X))]⟩ [(4,4,oc I),(5,5,oc J),(10,10,oc L),(11,11,oc M),(14,14,oc N),(21,21,oc O),(24,24,oc V),(27,27,oc X),(30,30,oc c3),(35,35,oc c4)] (kr [.frzC 8 3] (by kernel_rfl) (au ?_));obtain rfl:=sI h;exact RI [Y7]
def cT(d1 d2 d3:Int)(d4:QK)(d5:List yE)(d6 d7 d8:Int)(d9:QK)(q:List yE)(u v x z:QK)(A B J L M N O:Int)(V:QJ)(f:Int)(C:QX)(X:Int):Option (Bool) :=
 ((eO).bind fun r2 =>
 (if(!r2)=true then some false
 else(if(decide ((C.length:Int) > 2000))=true then some true
 else((dH d1 d2 d3 d4 d5 d6 d7 d8 d9 q u v x z A B).bind fun e =>
 (if ¬(3:Int)=0 then(((if((Int.tmod X 3) == 0)=true then some (C)
 else some (e.2.2.2.2.1))).bind fun v1=>(if ¬(3:Int)=0 then(((if((Int.tmod X 3) == 1)=true then some (C)
 else some (e.2.2.2.2.2.1))).bind fun Y=>(if ¬(5000:Int)=0 then(if 0≤(i64.wrap (Int.tmod f 5000))∧(i64.wrap (Int.tmod f 5000))≤(i64.wrap (Int.tmod f 5000))∧1*(i64.wrap (Int.tmod f 5000))≤281474976710656∧(i64.wrap (Int.tmod f 5000))≤9223372036854775807 then((np e.1 e.2.1 e.2.2.1 e.2.2.2.1 v1 Y e.2.2.2.2.2.2.1 e.2.2.2.2.2.2.2.1 e.2.2.2.2.2.2.2.2 J L M N O V (List.replicate (i64.wrap (Int.tmod f 5000)).toNat (0:Int)) ([]:List Mv)).bind fun(Z,p) =>
 ((j8 e.1 e.2.1 e.2.2.1 e.2.2.2.1 v1 Y e.2.2.2.2.2.2.1 e.2.2.2.2.2.2.2.1 e.2.2.2.2.2.2.2.2).bind fun(D,j) =>
 (if(j.1 != 0)=true then some ((p.1 == j.1) && (p.2 == j.2))
 else((gw D J L M N O V (List.replicate (i64.wrap (Int.tmod f 5000)).toNat (0:Int))).bind fun(z2:((Int)⊕Mz))=>match z2 with
 | .inl E=>(((if((p.1 == E) && (p.2 == 0))=true then some (((Z.length:Int) == 0))
 else some (false))).bind fun v3=>some v3)
 | .inr (I,_,_,_,_,_,_,_)=>(((if((p.1 == I) && (p.2 == 0))=true then some (((Z.length:Int) == 0))
 else some (false))).bind fun v4=>some v4)))))else none)else none))else none))else none)))))
theorem l8(x z j q u v:Bool){d1 d2 d3:Int}{d4:QK}{d5:List yE}{d6 d7 d8:Int}{d9:QK}{A:List yE}{B C:QK}{D E:QK}{I J:Int}{N O:Int}{V X Y:Int}{Z:QJ}{x1:Int}{x2:QX}{x3:Int}{L:Bool}(h:cT d1 d2 d3 d4 d5 d6 d7 d8 d9 A B C D E I J N O V X Y Z x1 x2 x3=some L):
  Pure Tryz.prog 4 [.agg [.u8 d1,.u8 d2,.u8 d3,.p x (.slice (.int .u8)) d4,.p false (.slice (.prod (.int .u8) Ic)) d5,.u8 d6,.u8 d7,.u8 d8,.p z (.slice (.int .u8)) d9,.p false (.slice (.prod (.int .u8) Ic)) A,.p j (.slice (.int .u8)) B,.p q (.slice (.int .u8)) C,.p u (.slice (.int .u8)) D,.p v (.slice (.int .u8)) E,.u8 I,.u8 J],.agg [.i64 N,.i64 O,.u8 V,.i64 X,.i64 Y,.p false .flt Z],.p false (.int .u16) x1,.st x2,.u8 x3] (aJ (bc false [⟨.bool,L⟩])):=by
 refine PB Tryz.func4 (fun Bw w0=>?_);unfold cT at h;refine G (af ?_);obtain⟨r2,q2,h⟩:=aj h;refine GP 0 (pI q2) (aC h (fun B1 h=>?_) (fun B1 h=>?_))
 ·refine G (au (ah ?_));obtain rfl:=sI h;exact RI [.bool]
 refine ae (ab (af (G (aC h (fun B2 h=>?_) (fun B2 h=>?_)))))
 ·refine G (au (ah ?_));obtain rfl:=sI h;exact RI [.bool]
 refine ae (ab ?_);obtain⟨c,q4,h⟩:=aj h;refine GP 1 (pC x z j q u v q4) (af (GC 1 h (fun h=>bn h (fun v1=>aA [(2,.p false (.int .u16) x1),(3,.st x2),(4,.u8 x3),(6,.adr 0 0 6 0),(11,.adr 1 0 9 0)] (K0 N O V X Y Z c.1 c.2.1 c.2.2.1 c.2.2.2.1 v1 c.2.2.2.2.2.1 c.2.2.2.2.2.2.1 c.2.2.2.2.2.2.2.1 c.2.2.2.2.2.2.2.2) 2) (fun v1 h=>?_) (fun v1 h=>?_))))
 ·refine aC h (fun B4 h=>?_) (fun B4 h=>?_)
  ·exact Ge (eN h (gg [] [8,80]))
  exact ae (eN h (gg [] [8,80]))
 refine ab (af (GC 1 h (fun h=>bn h (fun v2=>aA [(2,.p false (.int .u16) x1),(6,.adr 0 0 6 0),(11,.adr 1 0 9 0)] (K0 N O V X Y Z c.1 c.2.1 c.2.2.1 c.2.2.2.1 v1 v2 c.2.2.2.2.2.2.1 c.2.2.2.2.2.2.2.1 c.2.2.2.2.2.2.2.2) 2) (fun v2 h=>?_) (fun v2 h=>?_))))
 ·refine aC h (fun B6 h=>?_) (fun B6 h=>?_)
  ·exact Ge (eN h (gg [] [0,1]))
  exact ae (eN h (gg [] [0,1]))
 refine ab ?_;obtain⟨c7,c8,h⟩:=g2 h;refine GN a0 [(1,1,oc c7),(3,3,oc c8)] ?_;obtain⟨⟨r7,r8⟩,q6,h⟩:=aj h;refine GP 3 (vJ false false false false true false q6) ?_;obtain⟨⟨a1,a2⟩,q8,h⟩:=aj h;refine GP 1 (uS false false false false q8) (af (G (aC h (fun B7 h=>?_) (fun B7 h=>?_))))
 ·refine GN a0 [(2,2,oc Iw)] (au (ah ?_));obtain rfl:=sI h;exact RI [.bool]
 refine ae (ab (af ?_));obtain⟨z2,M,h⟩:=aj h;rcases z2 with a3 | ⟨a4,a5,a6,a7,a8,a9,aa,ac⟩
 ·refine lg 3 [] (mA true M) (ab (af (bn h (fun v3=>aA [(10,.bo v3)] [] 0) (fun v3 h=>?_) (fun v3 h=>?_))))
  ·rcases aI h with⟨e,h⟩ | ⟨e,h⟩
   ·exact bz ⟨[(4,true),(8,true)],[]⟩ [(3,3,oc Iw),(5,7,an e),(8,8,oc e)] (eN h (gg [] []))
   exact bz ⟨[(4,false),(8,false)],[]⟩ [(3,3,oc Iw),(5,8,oc e)] (eN h (gg [] []))
  refine ab (au ?_);obtain rfl:=sI h;exact RI [.bool]
 refine lg 3 [] (mA true M) (ab (af (bn h (fun v4=>aA [(10,.bo v4)] [] 0) (fun v4 h=>?_) (fun v4 h=>?_))))
 ·rcases aI h with⟨f,h⟩ | ⟨f,h⟩
  ·exact bz ⟨[(4,true),(8,true)],[]⟩ [(3,3,oc Iw),(5,7,an f),(8,8,oc f)] (eN h (gg [] []))
  exact bz ⟨[(4,false),(8,false)],[]⟩ [(3,3,oc Iw),(5,8,oc f)] (eN h (gg [] []))
 refine ab (au ?_);obtain rfl:=sI h;exact RI [.bool]
end
end Go.Proofs.YtmcemnfjddoejaaGreatDoor.T
