import Derived.Test.YtobbjfkfmdiklaaGreatDoorTvT50a0
import Derived.Test.YtobbjfkfmdiklaaGreatDoorTvT50aa
import Derived.Test.YtobbjfkfmdiklaaGreatDoorTvT50aa3
import Derived.Test.YtobbjfkfmdiklaaGreatDoorTv50gfm
namespace Go.Proofs.YtobbjfkfmdiklaaGreatDoor.T
open Go Go.Tv Go.Proofs
open Go.IntKind (i64 u64)
noncomputable section
set_option maxRecDepth 100000
set_option maxHeartbeats 4000000
def fH  : Option QQ :=
 some ([([9]:QX),([10]:QX),([32]:QX),([45]:QX),([97]:QX),([98]:QX),([99]:QX),([195,169]:QX),([204,129]:QX),([226,128,141]:QX),([228,184,173]:QX),([240,159,152,128]:QX),([255]:QX),([240,159]:QX)]:QQ)
theorem oA{f:QQ}(h:fH=some f):
  Pure Tryz.prog 46 [] (aL (bd false [⟨(.slice .str),f⟩])):=by
 refine PB Tryz.func46 (fun Bw w0=>?_);unfold fH at h;refine G (G (av ?_));obtain rfl:=sI h;exact RI [(.slice .str)]
def da(p:QK):uU→Option (uU⊕QK):=fun(f,j) =>
 (if(decide (j<(p.length:Int)))=true then((fH).bind fun q =>
 (if 0≤j∧j<(p.length:Int)then(if ¬(14:Int)=0 then(if 0≤(Int.tmod (i64.wrap (p.getD j.toNat 0)) (14:Int))∧(Int.tmod (i64.wrap (p.getD j.toNat 0)) (14:Int))<(q.length:Int)then(if f.length+(q.getD ((Int.tmod (i64.wrap (p.getD j.toNat 0)) (14:Int)).toNat) []).length≤140737488355328 then some (Sum.inl ((f++(bZ (q.getD ((Int.tmod (i64.wrap (p.getD j.toNat 0)) (14:Int)).toNat) []))),(i64.wrap (j+1))))else none)else none)else none)else none))
 else some (Sum.inr f))
def dZ(j:QK):Option QK :=
 ((iter (da j) (([]:QK),0)).bind fun f=>some f)
theorem jv(q:Bool){x u:QK}(h:dZ x=some u):
  Pure Tryz.prog 23 [.p q (.slice (.int .u8)) x] (aL (bd false [⟨(.slice (.int .u8)),u⟩])):=by
 refine PB Tryz.func23 (fun Bw w0=>?_);unfold dZ at h;refine G (G (ag (G (ak (cz h (fun(f,D)=>az [(0,.p q (.slice (.int .u8)) x),(3,.sl 0),(4,.i64 D)] [(0,.arr 5 (.int .u8) f)] 1) 0 (fun j=>az [(3,.sl 0)] [(0,.arr 5 (.int .u8) j)] 1) (gg [.nilS 3 24 5 (.int .u8)] [24]) (fun y o h=>?_) (fun j h=>?_))))))
 ·obtain⟨f,D⟩:=y;unfold da at h;refine ag (G (aC h (fun E h=>?_) (fun E h=>?_)))
  ·refine ae (ab (ag (ak ?_)));obtain⟨J,I,h⟩:=ai h;obtain⟨z,A,B,C,h⟩:=g4 h;have v:=(oA I);refine nj ⟨[],[(1,(oP v))]⟩ [(1,1,oc v),(4,4,oc z),(7,7,oc A),(8,8,oc B),(10,10,oc C)] (ay (ab (Ge ?_)));exact eB h (gg [] [113])
  refine au (aQ ?_);exact eX h (gg [] [0])
 refine aw (ab (G (av ?_)));obtain rfl:=sI h;exact RI [(.slice (.int .u8))]
def ib(D E I:Int)(J:QK)(L:List sL)(M N O:Int)(V:QK)(u:List sL)(v x z A:QK)(B C X Y Z w4 w5:Int)(w6:QJ)(j:QK):Option ((Option Z1)×(Int×Int×Int×Int×Int×QJ)×QK×Bool) :=
 ((cK D E I J L M N O V u v x z A B C).bind fun p =>
 ((jT p.1 p.2.1 p.2.2.1 p.2.2.2.1 p.2.2.2.2.1 p.2.2.2.2.2.1 p.2.2.2.2.2.2.1 p.2.2.2.2.2.2.2.1 p.2.2.2.2.2.2.2.2).bind fun(r5,r6) =>
 ((((dG X Y Z w4 w5 w6).bind fun f =>
 ((dZ j).bind fun q =>
 (if(r6.1 == 0)=true then some ((f.1,f.2.1,f.2.2.1,f.2.2.2.1,f.2.2.2.2.1,f.2.2.2.2.2,q,(decide ((j.length:Int)≤60))))
 else some ((f.1,f.2.1,f.2.2.1,f.2.2.2.1,f.2.2.2.2.1,f.2.2.2.2.2,q,false)))))).bind fun(v1,v2,v3,v4,v5,v6,v7,v8)=>some (r5,(v1,v2,v3,v4,v5,v6),v7,v8))))
theorem tE(C D x z A B u:Bool){Z b2 b3:Int}{b4:QK}{b5:List sL}{b6 b7 b8:Int}{b9:QK}{E:List sL}{I J L M:QK}{N O w1 w2 w3 w4 w5:Int}{w6:QJ}{q:QK}{v:(Option Z1)×(Int×Int×Int×Int×Int×QJ)×QK×Bool}(h:ib Z b2 b3 b4 b5 b6 b7 b8 b9 E I J L M N O w1 w2 w3 w4 w5 w6 q=some v):
  Pure Tryz.prog 7 [.agg [.u8 Z,.u8 b2,.u8 b3,.p C (.slice (.int .u8)) b4,.p false (.slice (.prod (.int .u8) Fe)) b5,.u8 b6,.u8 b7,.u8 b8,.p D (.slice (.int .u8)) b9,.p false (.slice (.prod (.int .u8) Fe)) E,.p x (.slice (.int .u8)) I,.p z (.slice (.int .u8)) J,.p A (.slice (.int .u8)) L,.p B (.slice (.int .u8)) M,.u8 N,.u8 O],.agg [.u8 w1,.u8 w2,.u8 w3,.p false (.int .u16) w4,.p false (.int .u16) w5,.p false .flt w6],.p u (.slice (.int .u8)) q] (aL (bd false [⟨(.ptr xg),v.1⟩,⟨Mj,v.2.1⟩,⟨(.slice (.int .u8)),v.2.2.1⟩,⟨.bool,v.2.2.2⟩])):=by
 refine PB Tryz.func7 (fun Bw w0=>?_);unfold ib at h;refine G ?_;obtain⟨r4,q3,h⟩:=ai h;obtain⟨⟨r5,r6⟩,q4,h⟩:=ai h;have f:=(ph C D x z A B q3);have j:=(tL false false false false q4);refine GN ⟨[],[(1,(oP f)),(2,(oP j))]⟩ [(1,1,oc f),(2,2,oc j)] (ag (br h (fun(v1,v2,v3,v4,v5,v6,v7,v8)=>az [(6,.p false (.ptr xg) r5),(7,.adr 0 0 6 0),(8,.p false (.slice (.int .u8)) v7),(9,.bo v8)] (Lu v1 v2 v3 v4 v5 v6) 1) (fun V h=>?_) (fun V h=>?_)))
 ·obtain⟨a1,q9,h⟩:=ai h;obtain⟨a2,X,h⟩:=ai h;rcases aN h with⟨Y,h⟩ | ⟨Y,h⟩
  ·have f:=(jd q9);have j:=(jv u X);exact nj ⟨[(8,true),(12,true)],[(2,(oP f)),(4,(oP j))]⟩ [(2,2,oc f),(4,4,oc j),(9,11,an Y),(12,12,oc Y)] (eN h (gg [] [24]))
  have f:=(jd q9);have j:=(jv u X);exact nj ⟨[(8,false),(12,false)],[(2,(oP f)),(4,(oP j))]⟩ [(2,2,oc f),(4,4,oc j),(9,12,oc Y)] (eN h (gg [] [24]))
 obtain⟨v1,v2,v3,v4,v5,v6,v7,v8⟩:=V;refine ab (av ?_);obtain rfl:=sI h;exact RI [(.ptr xg),Mj,(.slice (.int .u8)),.bool]
def bz(A:Int)(B:Int×Int×Int×Int×Int×QJ)(p:Qj×QK):(Qj×Int×Int)→Option ((Qj×Int×Int)⊕Qj):=fun(v10,v11,j) =>
 (if(decide (j≤(p.1.length:Int)))=true then((iG p.1 p.2 j).bind fun(q,u) =>
 (((if(q == 2)=true then some (true)
 else(if u=true then(if ¬(64:Int)=0 then(if 0≤(Int.tmod j 64)then some (((bitsOf .and .u64 (Int.fdiv A (2 ^ (min (Int.tmod j 64).toNat u64.bits))) (1:Int)) == 1))else none)else none)
 else some (false)))).bind fun v=>(((if v=true then((gL p.1 p.2 v11 j q B.2.1).bind fun f =>
 (if(v10.length+([(f.1,f.2.1,f.2.2.1,f.2.2.2)]:Qj).length)*32≤140737488355328∧v10.length+([(f.1,f.2.1,f.2.2.1,f.2.2.2)]:Qj).length≤9223372036854775807 then some (((v10++([(f.1,f.2.1,f.2.2.1,f.2.2.2)]:Qj)),j))else none))
 else some ((v10,v11)))).bind fun(x,z)=>some (Sum.inl (x,z,(i64.wrap (j+1)))))))
 else some (Sum.inr v10))
def dV(X Y Z:Int)(d4:QK)(d5:List sL)(d6 d7 d8:Int)(d9:QK)(u:List sL)(v x z A:QK)(B C i1 i2 i3 i4 i5:Int)(i6:QJ)(x1:QK)(x2:Int):Option (Bool) :=
 ((eT).bind fun r2 =>
 (if(!r2)=true then some false
 else((ib X Y Z d4 d5 d6 d7 d8 d9 u v x z A B C i1 i2 i3 i4 i5 i6 x1).bind fun(r7,f,r9,D) =>
 (if(!D)=true then some true
 else((aZ r7 r9).bind fun(j,E) =>
 (if(E != 0)=true then some false
 else((fG j.1 j.2 f.1 f.2.1 1 f.2.2.2.1 f.2.2.2.2.1 f.2.2.2.2.2).bind fun(I,J) =>
 ((iter (bz x2 f j) (([]:Qj),0,1)).bind fun L=>((jJ j.1 j.2 L f.1 f.2.1 1 f.2.2.2.1 f.2.2.2.2.1 f.2.2.2.2.2).bind fun(M,p) =>
 ((jJ j.1 j.2 I f.1 f.2.1 1 f.2.2.2.1 f.2.2.2.2.1 f.2.2.2.2.2).bind fun(N,q) =>
 (if J=true then(((if(!p)=true then some ((!q))
 else some (false))).bind fun O=>some O)
 else(((if q=true then(if(!p)=true then some (true)
 else some ((decide (N≤M))))
 else some (false))).bind fun V=>some V))))))))))))
theorem oq(V X D E I J L:Bool){d1 d2 d3:Int}{d4:QK}{d5:List sL}{d6 d7 d8:Int}{d9:QK}{Y:List sL}{Z a1 a2 a3:QK}{a4 a5 i1 i2 i3 i4 i5:Int}{i6:QJ}{x1:QK}{x2:Int}{a6:Bool}(h:dV d1 d2 d3 d4 d5 d6 d7 d8 d9 Y Z a1 a2 a3 a4 a5 i1 i2 i3 i4 i5 i6 x1 x2=some a6):
  Pure Tryz.prog 4 [.agg [.u8 d1,.u8 d2,.u8 d3,.p V (.slice (.int .u8)) d4,.p false (.slice (.prod (.int .u8) Fe)) d5,.u8 d6,.u8 d7,.u8 d8,.p X (.slice (.int .u8)) d9,.p false (.slice (.prod (.int .u8) Fe)) Y,.p D (.slice (.int .u8)) Z,.p E (.slice (.int .u8)) a1,.p I (.slice (.int .u8)) a2,.p J (.slice (.int .u8)) a3,.u8 a4,.u8 a5],.agg [.u8 i1,.u8 i2,.u8 i3,.p false (.int .u16) i4,.p false (.int .u16) i5,.p false .flt i6],.p L (.slice (.int .u8)) x1,.u64 x2] (aL (bd false [⟨.bool,a6⟩])):=by
 refine PB Tryz.func4 (fun Bw w0=>?_);unfold dV at h;refine G (ag ?_);obtain⟨r2,q2,h⟩:=ai h;refine GP 0 (pz q2) (aC h (fun B1 h=>?_) (fun B1 h=>?_))
 ·refine G (av (aj ?_));obtain rfl:=sI h;exact RI [.bool]
 refine ae (ab ?_);obtain⟨⟨r7,f,r9,be⟩,q4,h⟩:=ai h;refine GP 3 (tE V X D E I J L q4) (ag (G (aC h (fun B2 h=>?_) (fun B2 h=>?_))))
 ·refine G (av (aj ?_));obtain rfl:=sI h;exact RI [.bool]
 refine ae (ab (G ?_));obtain⟨⟨u,bi⟩,q6,h⟩:=ai h;refine GP 2 (mu false q6) (ag (G (aC h (fun B3 h=>?_) (fun B3 h=>?_))))
 ·refine G (av (aj ?_));obtain rfl:=sI h;exact RI [.bool]
 refine ae (ab ?_);obtain⟨⟨z,A⟩,q8,h⟩:=ai h;refine GP 2 (pF false false q8) (G (G (ag (G (ak (cz h (fun(v10,v11,B)=>az [(3,.u64 x2),(10,.adr 0 0 6 0),(13,.adr 1 0 2 0),(15,.p false (.slice fb) z),(16,.bo A),(17,.sl 2),(18,.i64 v11),(19,.i64 B)] (Ey f.1 f.2.1 1 f.2.2.2.1 f.2.2.2.2.1 f.2.2.2.2.2 u.1 u.2 v10) 3) 0 (fun a7=>az [(10,.adr 0 0 6 0),(13,.adr 1 0 2 0),(15,.p false (.slice fb) z),(16,.bo A),(17,.sl 2)] (Ey f.1 f.2.1 1 f.2.2.2.1 f.2.2.2.2.1 f.2.2.2.2.2 u.1 u.2 a7) 3) (gg [.nilS 17 360 62 fb] [112,232,360]) (fun y o h=>?_) (fun a7 h=>?_)))))))
 ·obtain⟨v10,v11,B⟩:=y;unfold bz at h;refine ag (G (aC h (fun ad h=>?_) (fun ad h=>?_)))
  ·refine ae (ab (ag (ak ?_)));obtain⟨⟨ax,bs⟩,b1,h⟩:=ai h;refine GP 2 (kK false false b1) (ag (br h (fun M=>az [(3,.u64 x2),(10,.adr 0 0 6 0),(13,.adr 1 0 2 0),(15,.p false (.slice fb) z),(16,.bo A),(17,.sl 2),(18,.i64 v11),(19,.i64 B),(20,.u8 ax),(79,.bo M)] (Ey f.1 f.2.1 1 f.2.2.2.1 f.2.2.2.2.1 f.2.2.2.2.2 u.1 u.2 v10) 3) (fun M h=>?_) (fun M h=>?_)))
   ·rcases aN h with⟨j,h⟩ | ⟨j,h⟩
    ·exact bC ⟨[(2,true),(12,true)],[]⟩ [(3,4,oc j),(11,12,oc j)] (eN h (gg [] [0,1,2]))
    rcases aN h with⟨v,h⟩ | ⟨v,h⟩
    ·obtain⟨b2,b3,h⟩:=g2 h;exact bC ⟨[(2,false),(4,true),(11,true),(12,false)],[]⟩ [(3,4,an j),(5,6,an v),(7,7,oc (And.intro v b2)),(8,8,oc (And.intro v b3)),(9,10,an v),(11,11,oc (And.intro j v)),(12,12,oc j)] (eN h (gg [] [0,1,2]))
    exact bC ⟨[(2,false),(4,false),(11,false),(12,false)],[]⟩ [(3,4,an j),(5,10,oc v),(11,11,oc (And.intro j v)),(12,12,oc j)] (eN h (gg [] [0,1,2]))
   refine ab (br h (fun(a8,a9)=>az [(3,.u64 x2),(10,.adr 0 0 6 0),(13,.adr 1 0 2 0),(15,.p false (.slice fb) z),(16,.bo A),(17,.sl 2),(18,.i64 a9),(19,.i64 B)] (Ey f.1 f.2.1 1 f.2.2.2.1 f.2.2.2.2.1 f.2.2.2.2.2 u.1 u.2 a8) 3) (fun aa h=>?_) (fun aa h=>?_))
   ·refine aC h (fun b4 h=>?_) (fun b4 h=>?_)
    ·obtain⟨bv,b5,h⟩:=ai h;obtain⟨b6,h⟩:=aD h;have ac:=(kJ false false b5);refine GN ⟨[],[(7,(oP ac))]⟩ [(7,7,oc ac),(9,9,oc b6)] (Ge ?_);exact eN h (gg [] [0,1,75])
    exact ae (eN h (gg [] [0,1,2]))
   obtain⟨a8,a9⟩:=aa;refine ay (ab (Ge ?_));exact eB h (gg [] [0,1,2])
  refine au (aQ ?_);exact eX h (gg [] [0,1,2])
 refine aw (ab ?_);obtain⟨⟨bx,c1⟩,b7,h⟩:=ai h;refine GP 3 (ql false false true b7) ?_;obtain⟨⟨c2,c3⟩,b8,h⟩:=ai h;refine GP 3 (ql false false false b8) (ag (G (aC h (fun b9 h=>?_) (fun b9 h=>?_))))
 ·refine ag (br h (fun N=>az [(8,.bo N)] [] 0) (fun N h=>?_) (fun N h=>?_))
  ·rcases aN h with⟨C,h⟩ | ⟨C,h⟩
   ·exact bC ⟨[(2,true),(5,true)],[]⟩ [(3,4,an C),(5,5,oc C)] (eN h (gg [] []))
   exact bC ⟨[(2,false),(5,false)],[]⟩ [(3,5,oc C)] (eN h (gg [] []))
  refine ab (av (aj ?_));obtain rfl:=sI h;exact RI [.bool]
 refine ae (ab (ag (br h (fun O=>az [(8,.bo O)] [] 0) (fun O h=>?_) (fun O h=>?_))))
 ·rcases aN h with⟨q,h⟩ | ⟨q,h⟩
  ·rcases aN h with⟨x,h⟩ | ⟨x,h⟩
   ·exact bC ⟨[(1,true),(4,true),(8,true),(9,true)],[]⟩ [(2,4,an q),(5,7,oc x),(8,8,oc (And.intro q x)),(9,9,oc q)] (eN h (gg [] []))
   exact bC ⟨[(1,true),(4,false),(8,false),(9,true)],[]⟩ [(2,4,an q),(5,7,an x),(8,8,oc (And.intro q x)),(9,9,oc q)] (eN h (gg [] []))
  exact bC ⟨[(1,false),(9,false)],[]⟩ [(2,4,oc q),(8,9,oc q)] (eN h (gg [] []))
 refine ab (av ?_);obtain rfl:=sI h;exact RI [.bool]
end
end Go.Proofs.YtobbjfkfmdiklaaGreatDoor.T
namespace Go.Proofs.YtobbjfkfmdiklaaGreatDoor.T
open Go Go.Tv Go.Proofs
open Go.IntKind (i64 u64)
noncomputable section
theorem F5:∃S,fH=some S∧S.length=14∧∀i,(S.getD i []).length≤4:=by
 refine⟨_,rfl,rfl,fun i=>?_⟩;rcases(show i=0∨i=1∨i=2∨i=3∨i=4∨i=5∨i=6∨i=7∨i=8∨i=9∨i=10∨i=11∨i=12∨i=13∨14≤i by omega)with rfl | rfl | rfl | rfl | rfl | rfl | rfl | rfl | rfl | rfl | rfl | rfl | rfl | rfl | h
 case inr.inr.inr.inr.inr.inr.inr.inr.inr.inr.inr.inr.inr.inr=>rw[List.getD_eq_getElem?_getD,List.getElem?_eq_none (by simpa using h)];simp
 all_goals decide
theorem G0{l:QK}(hl:l.length≤10000000)(hb:∀i,0≤l.getD i 0∧l.getD i 0≤255):∃t,dZ l=some t∧Bytes t∧t.length≤4*l.length:=by
 obtain⟨S,u,j,p⟩:=F5;obtain⟨t,e,h1,h2⟩:=dh (body:=da l) (fun z:QK×Int=>∃k:Nat,z.2=(k:Int)∧k≤l.length∧z.1.length≤4*k∧Bytes z.1) (fun z=>l.length - z.2.toNat) (fun t=>Bytes t∧t.length≤4*l.length) (by
  rintro⟨out,v⟩ ⟨k,rfl,hk,h1,h2⟩;simp only at h1 h2;by_cases A:k<l.length
  ·left
   obtain⟨B,J⟩:=hb k;have C:i64.wrap (l.getD k 0)=l.getD k 0:=wrap_i64 (by omega) (by omega);have hm:Int.tmod (l.getD k 0) 14=l.getD k 0 % 14:=Int.tmod_eq_emod_of_nonneg B;have q:(k:Int)<(l.length:Int):=by omega
   have D:0≤(k:Int):=by omega
   have E:0≤l.getD k 0 % 14∧l.getD k 0 % 14<(S.length:Int):=by rw[j];omega
   have L:=p (l.getD k 0 % 14).toNat;have g:out.length+(S.getD (l.getD k 0 % 14).toNat []).length≤140737488355328:=by omega
   have I:¬(14:Int)=0:=by decide
   refine⟨(out++bZ (S.getD (l.getD k 0 % 14).toNat []),((k+1:Nat):Int)),?_,⟨k+1,rfl,by omega,?_,?_⟩,by simp only[Int.toNat_natCast];omega⟩
   ·simp only[da,u,Option.bind_some,q,D,and_self,decide_true,if_true,Int.toNat_natCast,C,hm,E,I,not_false_eq_true,g,bD (show k≤9000000000000000000 by omega)]
   ·simp only[List.length_append];have:(bZ (S.getD (l.getD k 0 % 14).toNat [])).length=(S.getD (l.getD k 0 % 14).toNat []).length:=by simp[bZ]
    omega
   ·intro x f;rcases List.mem_append.1 f with f | f
    ·exact h2 x f
    ·exact zt _ x f
  ·right
   obtain rfl:k=l.length:=by omega
   refine⟨out,?_,h2,h1⟩;have q:¬((l.length:Int)<(l.length:Int)):=Int.lt_irrefl _;simp only[da,q,decide_false,Bool.false_eq_true,if_false]) (s:=([],0)) ⟨0,rfl,by omega,by simp,fun x f=>by cases f⟩
 refine⟨t,?_,h1,h2⟩;unfold dZ;rw[e];rfl
abbrev Nh:=Int×(Int×Int)×Int×Qw×Bool
abbrev dst(c:Wy)(x:QK)(p:Qw×QK)(f:Kn)(out:List Nh)(k:Int):Qw×Bool×Int×Int×Int×Int×Int×QJ×QK×Qw×QK×(Option ((Qw×QK)×(Qw×QZ)))×Kn×(List Nh)×Int :=
 ((LF p.1 p.2 c).1,(LF p.1 p.2 c).2,c.1,c.2.1,c.2.2.1,c.2.2.2.1,c.2.2.2.2.1,c.2.2.2.2.2,x,p.1,p.2,some (J9 p.1 p.2 c),f,out,k)
theorem Eg{L:QQ}{k:Nat}(h:∀x∈L,x.length≤k)(i:Nat):(L.getD i []).length≤k:=by
 rcases Nat.lt_or_ge i L.length with hi | hi
 ·exact h _ (bS hi _)
 ·rw[List.getD_eq_getElem?_getD,List.getElem?_eq_none hi];exact Nat.zero_le _
theorem rm{n:Int}(h:¬n=0)(i:Int):Ho (cm n i) (fun r=>r.length=1):=by
 refine aU h (aq ?_);simp[bytesOf]
theorem o8{n:Int}(h:1≤n∧n≤6)(b:Int):Ho (ca n b) (fun r=>r.length≤12):=by
 refine ao (P:=fun r=>r.length≤12) (bH (fun(o,i)=>0≤i∧i≤n∧(o.length:Int)≤2*i) (fun(_,i)=>(n - i).toNat) ⟨Int.le_refl _,by omega,Int.le_refl _⟩ fun(o,i) ⟨h1,h2,j⟩=>?_) fun r f=>aq f
 refine aI (fun hi=>?_) fun _=>aq (show o.length≤12 by omega)
 rw[dec_lt]at hi;refine aU h1 (aU (by decide) (ao (P:=fun r=>(r.length:Int)≤2*(i+1)) (aI (fun _=>aU (by simp only[List.length_singleton];omega) (ao (rm (by omega) i) fun r f=>aU (by simp only[List.length_append,List.length_singleton];omega) (aq ?_))) fun _=>aq (show(o.length:Int)≤2*(i+1) by omega)) fun r f=>?_))
 ·simp only[List.length_append,List.length_singleton];omega
 ·rw[bU h1 (by omega)];exact aq ⟨⟨by(try simp only);omega,by(try simp only);omega,f⟩,by(try simp only);omega⟩
section
variable{l:QK}(hl:l.length≤1000){n:Int}(hn:1≤n∧n≤6)
include hl
theorem zG{i:Int}(h:0≤i∧i≤(l.length:Int)):Ho (bq l i) (fun r=>0≤r.2∧r.2≤(l.length:Int)):=by
 unfold bq;rw[bU h.1 (by omega),wrap_i64 (by omega) (by omega)];refine aI (fun _=>aq h) fun hi=>?_
 have f:i<(l.length:Int):=by simp only[ge_iff_le,decide_eq_true_eq]at hi;omega
 exact aU (by omega) (aq ⟨by(try simp only);omega,by(try simp only);omega⟩)
def uF:Nat→Nat
 | 0=>20
 | d+1=>2*uF d+3
omit hl in
theorem EI:∀d,d≤3→20≤uF d∧uF d≤200
 | 0,_=>by decide
 | 1,_=>by decide
 | 2,_=>by decide
 | 3,_=>by decide
include hn
theorem Ei:∀(d f:Nat),d≤3→d<f→∀ {i:Int},(0≤i∧i≤(l.length:Int))→Ho (cC f n (d:Int) l i) (fun r=>r.1.length≤uF d∧0≤r.2∧r.2≤(l.length:Int))
 | _,0,_,h,_,_=>absurd h (by omega)
 | d,f+1,hd,A,i,hi=>by
  obtain⟨B,C⟩:=EI d hd;simp only[cC];unfold dK;refine ao (zG hl hi) fun(c,j) p=>aI (fun _=>ao (rm (by omega) c) fun r q=>aq ⟨by(try simp only);omega,p⟩) fun u=>aU (by decide) ?_
  have v:0<d:=by simp only[decide_eq_true_eq]at u;omega
  obtain⟨d,rfl⟩:∃k,d=k+1:=⟨d - 1,by omega⟩;have x:i64.wrap (((d+1:Nat):Int) - 1)=(d:Int):=by rw[wrap_i64 (by omega) (by omega)];omega
  have em:uF (d+1)=2*uF d+3:=rfl;obtain⟨D,g2⟩:=EI d (by omega);rw[x];have q:=fun {i:Int} (hi:0≤i∧i≤(l.length:Int))=>Ei d f (by omega) (by omega) hi
  refine aI (fun _=>aq ⟨by simp only[List.length_singleton];omega,p⟩) fun _=>aI (fun _=>?_) fun _=>aI (fun _=>?_) fun _=>aI (fun _=>?_) fun _=>aI (fun _=>?_) fun _=>aI (fun _=>?_) fun _=>aI (fun _=>?_) fun _=>aI (fun _=>?_) fun _=>?_
  ·exact ao (zG hl p) fun(c,j) p=>ao (o8 hn _) fun r q=>aU (by simp only[List.length_cons,List.length_nil];omega) (aU (by simp only[List.length_append,List.length_cons,List.length_nil];omega) (aq ⟨by simp only[List.length_append,List.length_cons,List.length_nil];omega,p⟩))
  ·exact ao (zG hl p) fun(c,j) p=>ao (o8 hn _) fun r q=>aU (by simp only[List.length_cons,List.length_nil];omega) (aU (by simp only[List.length_append,List.length_cons,List.length_nil];omega) (aq ⟨by simp only[List.length_append,List.length_cons,List.length_nil];omega,p⟩))
  iterate 3
   ·exact ao (q p) fun(t,j) ⟨(ht:t.length≤uF d),p⟩=>aU (by simp only[List.length_cons,List.length_nil];omega) (aU (by simp only[List.length_append,List.length_cons,List.length_nil];omega) (aq ⟨by simp only[List.length_append,List.length_cons,List.length_nil];omega,p⟩))
  ·exact ao (q p) fun(t,j) ⟨(ht:t.length≤uF d),p⟩=>ao (q p) fun(s,k) ⟨(z:s.length≤uF d),hk⟩=>aU (by simp only[List.length_cons,List.length_nil];omega) (aU (by simp only[List.length_append,List.length_cons,List.length_nil];omega) (aU (by simp only[List.length_append,List.length_cons,List.length_nil];omega) (aU (by simp only[List.length_append,List.length_cons,List.length_nil];omega) (aq ⟨by simp only[List.length_append,List.length_cons,List.length_nil];omega,hk⟩))))
  ·exact ao (q p) fun(t,j) ⟨(ht:t.length≤uF d),p⟩=>ao (q p) fun(s,k) ⟨(z:s.length≤uF d),hk⟩=>aU (by simp only[List.length_cons,List.length_nil];omega) (aU (by simp only[List.length_append,List.length_cons,List.length_nil];omega) (aq ⟨by simp only[List.length_append,List.length_cons,List.length_nil];omega,hk⟩))
  ·exact ao (rm (by omega) c) fun r q=>aq ⟨by(try simp only);omega,p⟩
end
theorem EM{n:Int}(hn:1≤n∧n≤6)(l:QK):Ho (eV n l) (fun r=>r.length≤200):=by
 refine aI (fun _=>aq (by decide)) fun _=>aU (by omega) ?_
 exact ao (Ei (by simp only[List.length_drop,List.length_take];omega) hn 3 1000 (by omega) (by omega) ⟨Int.le_refl _,by omega⟩) fun(t,j) ⟨(h1:t.length≤uF 3),_⟩=>aq (show t.length≤200 from Nat.le_trans h1 (by decide))
theorem BA{a b c:Int}{tr:QK}{l:List sL}(ha:0≤a)(hl:∀i,0≤(l.getD i (0,[],([]:QK))).1):Ho (eJ a b c tr l) (fun r=>r.length≤10000):=by
 refine ao (P:=fun n=>1≤n∧n≤6) ?_ fun n hn=>ao (o8 hn _) fun t ht=>aU (by simp only[List.length_cons,List.length_nil];omega) (aU (by simp only[List.length_append,List.length_cons,List.length_nil];omega) (ao (P:=fun r=>r.length≤100) (aI (fun _=>aU (by simp only[List.length_append,List.length_cons,List.length_nil];omega) (ao (o8 hn _) fun s A=>aU (by simp only[List.length_append,List.length_cons,List.length_nil];omega) (aU (by simp only[List.length_append,List.length_cons,List.length_nil];omega) (ao (o8 hn _) fun u hu=>aU (by simp only[List.length_append,List.length_cons,List.length_nil];omega) (aU (by simp only[List.length_append,List.length_cons,List.length_nil];omega) (aq (by simp only[List.length_append,List.length_cons,List.length_nil];omega))))))) fun _=>aq (by simp only[List.length_append,List.length_cons,List.length_nil];omega)) fun v p=>ao (P:=fun r=>r.length≤200) ?_ fun v p=>ao (P:=fun r=>r.length≤10000) ?_ fun v p=>aq p))
 ·unfold bB;have:Int.tmod a 6=a % 6:=Int.tmod_eq_emod_of_nonneg ha;rw[this,wrap_i64 (x:=a % 6) (by omega) (by omega),wrap_i64 (by omega) (by omega)];exact aU (by decide) (aq ⟨by omega,by omega⟩)
 ·refine bH (fun(o,i)=>0≤i∧i≤n∧(o.length:Int)≤100+13*i) (fun(_,i)=>(n - i).toNat) ⟨Int.le_refl _,by omega,by(try simp only);omega⟩ fun(o,i) ⟨h1,h2,C⟩=>?_
  refine ao (P:=fun b=>b=true→i<(tr.length:Int)∧i<n) (aI (fun q=>aq fun r=>⟨of_decide_eq_true q,of_decide_eq_true r⟩) fun _=>aq fun h=>(by cases h)) fun q z=>aI (fun f=>?_) fun _=>aq (show o.length≤200 by omega)
  obtain⟨j,D⟩:=z f;refine aU (by simp only[List.length_cons,List.length_nil];omega) (ao (rm (by omega) _) fun r E=>aU (by simp only[List.length_append,List.length_cons,List.length_nil];omega) (aU (by simp only[List.length_append,List.length_cons,List.length_nil];omega) (aU ⟨h1,j⟩ (ao (rm (by omega) _) fun s A=>aU (by simp only[List.length_append,List.length_cons,List.length_nil];omega) (aU (by simp only[List.length_append,List.length_cons,List.length_nil];omega) ?_)))));rw[bU h1 (by omega)];exact aq ⟨⟨by(try simp only);omega,by(try simp only);omega,by simp only[List.length_append,List.length_cons,List.length_nil];omega⟩,by(try simp only);omega⟩
 ·refine bH (fun(o,i)=>0≤i∧i≤10∧(o.length:Int)≤200+410*i) (fun(_,i)=>(10 - i).toNat) ⟨Int.le_refl _,by omega,by(try simp only);omega⟩ fun(o,i) ⟨h1,h2,C⟩=>?_
  refine ao (P:=fun b=>b=true→i<(l.length:Int)∧i<10) (aI (fun q=>aq fun r=>⟨of_decide_eq_true q,of_decide_eq_true r⟩) fun _=>aq fun h=>(by cases h)) fun q z=>aI (fun f=>?_) fun _=>aq (show o.length≤10000 by omega)
  obtain⟨j,D⟩:=z f;have I:=hl i.toNat;have B:Int.tmod (l.getD i.toNat (0,[],([]:QK))).1 3=(l.getD i.toNat (0,[],([]:QK))).1 % 3:=Int.tmod_eq_emod_of_nonneg I;have J:=Eg (L:=[([107,101,101,112,32]:QX),([109,97,121,32]:QX),([109,117,115,116,32]:QX)]) (k:=5) (by decide) (Int.tmod (l.getD i.toNat (0,[],([]:QK))).1 3).toNat;refine aU ⟨h1,j⟩ (aU (by decide) (aU (by rw[B];simp only[List.length_cons,List.length_nil];omega) (aU (by rw[B];simp only[List.length_cons,List.length_nil];omega) ?_)));generalize ([([107,101,101,112,32]:QX),([109,97,121,32]:QX),([109,117,115,116,32]:QX)]:QQ).getD (Int.tmod (l.getD i.toNat (0,[],([]:QK))).1 3).toNat []=w at J ⊢;refine aU (by omega) (aU ⟨h1,j⟩ (ao (EM hn _) fun r E=>aU (by simp only[List.length_append];omega) (aU (by simp only[List.length_append,List.length_cons,List.length_nil];omega) (aU ⟨h1,j⟩ (ao (EM hn _) fun s A=>aU (by simp only[List.length_append,List.length_cons,List.length_nil];omega) (aU (by simp only[List.length_append,List.length_cons,List.length_nil];omega) ?_))))));rw[bU h1 (by omega)];exact aq ⟨⟨by(try simp only);omega,by(try simp only);omega,by simp only[List.length_append,List.length_cons,List.length_nil];omega⟩,by(try simp only);omega⟩
theorem th{n:Int}(hn:¬n=0)(l:QK):Ho (cQ l n) (fun _=>True):=by
 refine ao (P:=fun _=>True) ?_ fun _ _=>aq trivial
 have j:([9,10,32,45,97,98,99,233,769,8205,20013,65533,128512]:QK).length=13:=rfl;unfold fI;generalize ([9,10,32,45,97,98,99,233,769,8205,20013,65533,128512]:QK)=L at j;refine bH (fun(o,i)=>0≤i∧i≤13∧(o.length:Int)≤i) (fun(_,i)=>(13 - i).toNat) ⟨Int.le_refl _,by omega,by simp⟩ fun(o,i) ⟨h1,h2,u⟩=>?_
 refine ao (P:=fun b=>b=true→i<13∧i<(l.length:Int)) (aI (fun q=>aq fun r=>⟨by have:=of_decide_eq_true q;omega,of_decide_eq_true r⟩) fun _=>aq fun h=>(by cases h)) fun q p=>aI (fun f=>?_) fun _=>aq trivial
 obtain⟨v,x⟩:=p f;refine aU (by omega) (aU (by omega) (aU (by omega) (aU (by omega) (aU (by omega) (aU hn (aU (by simp only[List.length_singleton];omega) ?_))))));rw[bU h1 (by omega)];exact aq ⟨⟨by(try simp only);omega,by(try simp only);omega,by simp only[List.length_append,List.length_singleton];omega⟩,by(try simp only);omega⟩
theorem A8{l:QK}(hl:∀i,0≤l.getD i 0∧l.getD i 0≤255):Ho (eI l) (fun _=>True):=by
 refine ao (P:=fun _=>True) ?_ fun _ _=>aq trivial
 have p:([([97]:QX),([98]:QX),([99]:QX),([49]:QX),([50]:QX),([51]:QX),([32]:QX),([32]:QX),([97,49,98,32]:QX),([98,49,99,32]:QX),([50,99,32]:QX),([46,97,49]:QX),([99,46]:QX),([97,98,45,99,32]:QX),([99,97,45,98,45,97,32]:QX)]:QQ).length=15:=rfl;have j:∀x∈([([97]:QX),([98]:QX),([99]:QX),([49]:QX),([50]:QX),([51]:QX),([32]:QX),([32]:QX),([97,49,98,32]:QX),([98,49,99,32]:QX),([50,99,32]:QX),([46,97,49]:QX),([99,46]:QX),([97,98,45,99,32]:QX),([99,97,45,98,45,97,32]:QX)]:QQ),x.length≤7:=by decide
 unfold fu;generalize ([([97]:QX),([98]:QX),([99]:QX),([49]:QX),([50]:QX),([51]:QX),([32]:QX),([32]:QX),([97,49,98,32]:QX),([98,49,99,32]:QX),([50,99,32]:QX),([46,97,49]:QX),([99,46]:QX),([97,98,45,99,32]:QX),([99,97,45,98,45,97,32]:QX)]:QQ)=L at p j;refine bH (fun(o,i)=>0≤i∧i≤60∧(o.length:Int)≤7*i) (fun(_,i)=>(60 - i).toNat) ⟨Int.le_refl _,by omega,by simp⟩ fun(o,i) ⟨h1,h2,B⟩=>?_
 refine ao (P:=fun b=>b=true→i<(l.length:Int)∧i<60) (aI (fun q=>aq fun r=>⟨of_decide_eq_true q,of_decide_eq_true r⟩) fun _=>aq fun h=>(by cases h)) fun q u=>aI (fun f=>?_) fun _=>aq trivial
 obtain⟨v,C⟩:=u f;obtain⟨z,D⟩:=hl i.toNat;have A:Int.tmod (i64.wrap (l.getD i.toNat 0)) 15=l.getD i.toNat 0 % 15:=by rw[wrap_i64 (by omega) (by omega)];exact Int.tmod_eq_emod_of_nonneg z
 have E:=Eg j (l.getD i.toNat 0 % 15).toNat;refine aU ⟨h1,v⟩ (aU (by decide) ?_);rw[A];refine aU (by omega) (aU (by omega) (aU (by omega) ?_));rw[bU h1 (by omega)];exact aq ⟨⟨by(try simp only);omega,by(try simp only);omega,by simp only[List.length_append];omega⟩,by(try simp only);omega⟩
def M6(a:Int)(l:List sL):Prop:=0≤a∧∀i,0≤(l.getD i (0,[],([]:QK))).1
theorem Bz{a:Int}(ha:0≤a)(b c:Int)(tr:QK)(l:List sL):Ho (bB a b c tr l) (fun n=>¬n=0):=by
 unfold bB;have:Int.tmod a 6=a % 6:=Int.tmod_eq_emod_of_nonneg ha;rw[this,wrap_i64 (x:=a % 6) (by omega) (by omega),wrap_i64 (by omega) (by omega)];exact aU (by decide) (aq (show ¬1+a % 6=0 by omega))
theorem IC{z C D:Int}{E:QK}{A:List sL}{B I J:Int}{L:QK}{j:List sL}{p q u f:QK}{v x:Int}(h1:M6 z A)(h2:M6 B j)(M:∀i,0≤f.getD i 0∧f.getD i 0≤255):Ho (cK z C D E A B I J L j p q u f v x) (fun _=>True):=by
 exact ao (Bz h1.1 _ _ _ _) fun n hn=>ao (th hn _) fun _ _=>ao (Bz h2.1 _ _ _ _) fun n hn=>ao (th hn _) fun _ _=>ao (th (by decide) _) fun _ _=>ao (BA h1.1 h1.2) fun _ _=>ao (BA h2.1 h2.2) fun _ _=>ao (A8 M) fun _ _=>aU (by decide) (aU (by decide) (aq trivial))
end
end Go.Proofs.YtobbjfkfmdiklaaGreatDoor.T
