/- Functions of the program as functions on data, and that the program's own come to them. -/
import Derived.Test.YtmcemnfjddoejaaGreatDoorTvT23a0
import Derived.Test.YtmcemnfjddoejaaGreatDoorTvT23aa
import Derived.Test.YtmcemnfjddoejaaGreatDoorTvT23aa1
import Derived.Test.YtmcemnfjddoejaaGreatDoorTvUm
namespace Go.Proofs.YtmcemnfjddoejaaGreatDoor.T
open Go Go.Tv Go.Proofs
open Go.IntKind (i64 u64)
noncomputable section
set_option maxRecDepth 100000
set_option maxHeartbeats 4000000
def bF(e:List pP)(c:List pP):(Int)→Option ((Int)⊕((Unit)⊕(Bool))):=fun v6 =>
 (if(decide (v6<(c.length:Int)))=true then(((if 0≤v6∧v6<(e.length:Int)then(if 0≤v6∧v6<(c.length:Int)then(if(((e.getD v6.toNat (0,(0,0),0,([]:List Z2),false)).1) != ((c.getD v6.toNat (0,(0,0),0,([]:List Z2),false)).1))=true then some (true)
 else(if 0≤v6∧v6<(e.length:Int)then(if 0≤v6∧v6<(c.length:Int)then(if(!((((e.getD v6.toNat (0,(0,0),0,([]:List Z2),false)).2.1.1) == ((c.getD v6.toNat (0,(0,0),0,([]:List Z2),false)).2.1.1)) && (((e.getD v6.toNat (0,(0,0),0,([]:List Z2),false)).2.1.2) == ((c.getD v6.toNat (0,(0,0),0,([]:List Z2),false)).2.1.2))))=true then some (true)
 else(if 0≤v6∧v6<(e.length:Int)then(if 0≤v6∧v6<(c.length:Int)then(if(((e.getD v6.toNat (0,(0,0),0,([]:List Z2),false)).2.2.1) != ((c.getD v6.toNat (0,(0,0),0,([]:List Z2),false)).2.2.1))=true then some (true)
 else(if 0≤v6∧v6<(e.length:Int)then(if 0≤v6∧v6<(c.length:Int)then((cf ((e.getD v6.toNat (0,(0,0),0,([]:List Z2),false)).2.2.2.1) ((e.getD v6.toNat (0,(0,0),0,([]:List Z2),false)).2.2.2.2) ((c.getD v6.toNat (0,(0,0),0,([]:List Z2),false)).2.2.2.1) ((c.getD v6.toNat (0,(0,0),0,([]:List Z2),false)).2.2.2.2)).bind fun f =>
 some ((!f)))else none)else none))else none)else none))else none)else none))else none)else none)).bind fun j=>(if j=true then some (Sum.inr (Sum.inr false))
 else some (Sum.inl (i64.wrap (v6+1)))))
 else some (Sum.inr (Sum.inl ())))
def cr(D E I J L:Int)(M:Option Nat)(B:List Int)(C:List Z3)(q:Int):Option (Bool) :=
 ((dX).bind fun N =>
 (if(!N)=true then some false
 else(((if(decide ((B.length:Int) > 60))=true then some (true)
 else some ((decide ((C.length:Int) > 20))))).bind fun v1=>(if v1=true then some true
 else((dH B).bind fun u =>
 ((dx D E I J L M).bind fun f =>
 ((dT C false (u.length:Int)).bind fun j =>
 (if ¬(u64.wrap (i64.wrap ((j.length:Int)+1)))=0 then((dF).bind fun c =>
 ((g8 c.1 c.2.1 c.2.2.1 c.2.2.2.1 c.2.2.2.2.1 c.2.2.2.2.2.1 c.2.2.2.2.2.2.1 c.2.2.2.2.2.2.2.1 c.2.2.2.2.2.2.2.2 f.1 f.2.1 f.2.2.1 f.2.2.2.1 f.2.2.2.2.1 f.2.2.2.2.2 u j).bind fun(k,v) =>
 ((dF).bind fun e =>
 (if 0≤(0:Int)∧0≤(i64.wrap (Int.tmod (u64.wrap q) (u64.wrap (i64.wrap ((j.length:Int)+1)))))∧(i64.wrap (Int.tmod (u64.wrap q) (u64.wrap (i64.wrap ((j.length:Int)+1)))))≤(j.length:Int)then((g8 e.1 e.2.1 e.2.2.1 e.2.2.2.1 e.2.2.2.2.1 e.2.2.2.2.2.1 e.2.2.2.2.2.2.1 e.2.2.2.2.2.2.2.1 e.2.2.2.2.2.2.2.2 f.1 f.2.1 f.2.2.1 f.2.2.2.1 f.2.2.2.2.1 f.2.2.2.2.2 u ((j.take (i64.wrap (Int.tmod (u64.wrap q) (u64.wrap (i64.wrap ((j.length:Int)+1))))).toNat).drop (0:Int).toNat)).bind fun(p,x) =>
 (((if(v.1 != 0)=true then some (true)
 else(if(x.1 != 0)=true then some (true)
 else(if((k.length:Int) != (j.length:Int))=true then some (true)
 else some (((p.length:Int) != (i64.wrap (Int.tmod (u64.wrap q) (u64.wrap (i64.wrap ((j.length:Int)+1))))))))))).bind fun O=>(if O=true then some false
 else((iter (bF k p) (0:Int)).bind fun(z:((Unit)⊕(Bool)))=>match z with
 | .inl _=>some true
 | .inr (A)=>some A))))else none))))else none))))))))
theorem lI(B C:Bool){R V:Int}{X Y Z:Int}{d6:Option Nat}{i1:List Int}{x1:List Z3}{x2:Int}{J:Bool}(h:cr R V X Y Z d6 i1 x1 x2=some J):
  Pure Tryz.prog 5 [.agg [.u8 R,.u8 V,.u8 X,.p false (.int .u16) Y,.p false (.int .u16) Z,.p false .flt d6],.p B (.slice (.int .u8)) i1,.p C (.slice (.prod (.int .i64) CO)) x1,.i64 x2] (aG (aU false [⟨.bool,J⟩])):=by
 refine PB Tryz.func5 (fun Bw w0=> ?_);unfold cr at h;refine G (af ?_);obtain⟨r2,q2,h⟩:=aj h;refine GP 0 (oC q2) (aA h (fun B1 h=> ?_) (fun B1 h=> ?_))
 ·refine G (ao (ah ?_));obtain rfl:=sI h;exact RI [.bool]
 refine ae (ab (af (af (bg h (fun v1=>ay [(1,.p B (.slice (.int .u8)) i1),(2,.p C (.slice (.prod (.int .i64) CO)) x1),(3,.i64 x2),(4,.adr 0 0 6 0),(26,.bo v1)] (KF R V X Y Z d6) 1) (fun v1 h=> ?_) (fun v1 h=> ?_)))))
 ·rcases aF h with⟨O,h⟩ | ⟨O,h⟩
  ·exact bq ⟨[(3,true),(7,true)],[]⟩ [(4,7,oc O)] (eN h (gg [] [0]))
  exact bq ⟨[(3,false),(7,false)],[]⟩ [(4,6,an O),(7,7,oc O)] (eN h (gg [] [0]))
 refine ab (aA h (fun B5 h=> ?_) (fun B5 h=> ?_))
 ·refine G (ao (ah ?_));obtain rfl:=sI h;exact RI [.bool]
 refine ae (ab ?_);obtain⟨r5,q5,h⟩:=aj h;obtain⟨r6,q6,h⟩:=aj h;have j:=(oz B q5);have m:=(nT q6);refine GD ⟨[],[(1,(oP j)),(3,(oP m))]⟩ [(1,1,oc j),(3,3,oc m)] ?_;obtain⟨r8,q8,h⟩:=aj h;refine GP 3 (pw C q8) (GC 6 h (fun h=> ?_));obtain⟨ax,a1,h⟩:=aj h;obtain⟨⟨D,b1⟩,a2,h⟩:=aj h;have j:=(gO a1);have m:=(oI false false false false false false a2);refine GD ⟨[],[(0,(oP j)),(4,(oP m))]⟩ [(0,0,oc j),(4,4,oc m)] ?_;obtain⟨b2,a3,h⟩:=aj h;obtain⟨c4,h⟩:=aD h;obtain⟨⟨v,b3⟩,a4,h⟩:=aj h;have j:=(gO a3);have m:=(oI false false false false false false a4);refine GD ⟨[],[(0,(oP j)),(6,(oP m))]⟩ [(0,0,oc j),(5,5,oc c4),(6,6,oc m)] (af (af (bg h (fun v2=>ay [(12,.p false (.slice (.prod (.int .i64) xQ)) D),(14,.p false (.slice (.prod (.int .i64) xQ)) v),(81,.bo v2)] [] 0) (fun v2 h=> ?_) (fun v2 h=> ?_))))
 ·rcases aF h with⟨q,h⟩ | ⟨q,h⟩
  ·exact bq ⟨[(3,true),(7,true)],[]⟩ [(4,7,oc q)] (eN h (gg [] []))
  rcases aF h with⟨u,h⟩ | ⟨u,h⟩
  ·exact bq ⟨[(3,false),(7,false),(8,true),(14,true)],[]⟩ [(4,6,an q),(7,7,oc q),(9,14,oc u)] (eN h (gg [] []))
  rcases aF h with⟨x,h⟩ | ⟨x,h⟩
  ·exact bq ⟨[(3,false),(7,false),(8,false),(14,false),(15,true),(20,true)],[]⟩ [(4,6,an q),(7,7,oc q),(9,13,an u),(14,14,oc u),(16,20,oc x)] (eN h (gg [] []))
  exact bq ⟨[(3,false),(7,false),(8,false),(14,false),(15,false),(20,false)],[]⟩ [(4,6,an q),(7,7,oc q),(9,13,an u),(14,14,oc u),(16,19,an x),(20,20,oc x)] (eN h (gg [] []))
 refine ab (aA h (fun a5 h=> ?_) (fun a5 h=> ?_))
 ·refine G (ao (ah ?_));obtain rfl:=sI h;exact RI [.bool]
 refine ae (ab (af (G (ak (jl h (fun v6=>ay [(12,.p false (.slice (.prod (.int .i64) xQ)) D),(14,.p false (.slice (.prod (.int .i64) xQ)) v),(83,.i64 (v.length:Int)),(84,.i64 v6)] [] 0) (cN (dM Tryz.f5.ntmps 0 (fun _=>ay [] [] 0)) (eQ tb Tryz.f5.results.toList (fun L=>[⟨.bool,L⟩]))) (gg [] []) (fun v6 o h=> ?_) (fun a6 h e σ' hq=> ?_))))))
 ·unfold bF at h;refine G (af (aA h (fun a7 h=> ?_) (fun a7 h=> ?_)))
  ·refine ae (ab (af (ak (G (af (bg h (fun v7=>ay [(12,.p false (.slice (.prod (.int .i64) xQ)) D),(14,.p false (.slice (.prod (.int .i64) xQ)) v),(83,.i64 (v.length:Int)),(84,.i64 v6),(137,.bo v7)] [] 0) (fun v7 h=> ?_) (fun v7 h=> ?_)))))))
   ·obtain⟨z,A,h⟩:=g2 h;rcases aF h with⟨c,h⟩ | ⟨c,h⟩
    ·exact jC ⟨[(11,true),(23,true)],[]⟩ [(2,2,oc z),(7,7,oc A),(12,23,oc c)] (eN h (gg [] []))
    obtain⟨E,I,h⟩:=g2 h;rcases aF h with⟨f,h⟩ | ⟨f,h⟩
    ·exact jC ⟨[(11,false),(23,false),(24,true),(36,true)],[]⟩ [(2,2,oc z),(7,7,oc A),(12,13,an c),(14,14,oc (And.intro c E)),(15,18,an c),(19,19,oc (And.intro c I)),(20,21,an c),(22,22,oc (And.intro c IH)),(23,23,oc c),(25,36,oc f)] (eN h (gg [] []))
    obtain⟨M,N,h⟩:=g2 h;rcases aF h with⟨k,h⟩ | ⟨k,h⟩
    ·exact jC ⟨[(11,false),(23,false),(24,false),(36,false),(37,true),(50,true)],[]⟩ [(2,2,oc z),(7,7,oc A),(12,13,an c),(14,14,oc (And.intro c E)),(15,18,an c),(19,19,oc (And.intro c I)),(20,21,an c),(22,22,oc (And.intro c IH)),(23,23,oc c),(25,26,an f),(27,27,oc (And.intro f M)),(28,31,an f),(32,32,oc (And.intro f N)),(33,35,an f),(36,36,oc f),(38,50,oc k)] (eN h (gg [] []))
    obtain⟨a8,a9,h⟩:=g2 h;obtain⟨b4,aa,h⟩:=aj h;have j:=(kV false false aa);exact jC ⟨[(11,false),(23,false),(24,false),(36,false),(37,false),(50,false)],[(48,(oP j))]⟩ [(2,2,oc z),(7,7,oc A),(12,13,an c),(14,14,oc (And.intro c E)),(15,18,an c),(19,19,oc (And.intro c I)),(20,21,an c),(22,22,oc (And.intro c IH)),(23,23,oc c),(25,26,an f),(27,27,oc (And.intro f M)),(28,31,an f),(32,32,oc (And.intro f N)),(33,35,an f),(36,36,oc f),(38,39,an k),(40,40,oc (And.intro k a8)),(41,44,an k),(45,45,oc (And.intro k a9)),(46,47,an k),(48,48,oc (And.intro k j)),(49,49,an k),(50,50,oc k)] (eN h (gg [] []))
   refine ab (aA h (fun ac h=> ?_) (fun ac h=> ?_))
   ·refine G (ao ?_);obtain rfl:=sI h;refine az (ah (br (aK ?_)));exact bu (RI [.bool])
   refine ae (au (ab (Ge ?_)));exact eB h (gg [] [])
  refine aq (aL ?_);obtain rfl:=sI h;refine cR (aX ?_);exact bC (gg [] [])
 rcases a6 with _ | L
 ·obtain⟨rfl,ad⟩:=hq;refine bY ?_ ad;refine av (ab (G (ao ?_)));obtain rfl:=sI h;exact RI [.bool]
 obtain⟨rfl,hr⟩:=hq;refine az (ah ?_);obtain rfl:=sI h;exact hr
end
end Go.Proofs.YtmcemnfjddoejaaGreatDoor.T
namespace Go.Proofs.YtmcemnfjddoejaaGreatDoor.T
open Go Go.Tv Go.Proofs
open Go.IntKind (i64 u64)
noncomputable section
theorem yp{p u v x z:Int}(C:Option Nat)(h1:0≤p∧p≤255)(h2:0≤u∧u≤255)(h3:0≤v∧v≤255)(h4:0≤x∧x≤65535)(h5:0≤z∧z≤65535){l:List Int}(hl:∀i,0≤l.getD i 0∧l.getD i 0≤255){s:List xS}(hs:∀i,i<s.length→Bytes (s.getD i F6).2.1.2.2)(cut:Int):
  cr p u v x z C l s cut=some true:=by
 unfold cr;simp only[IT,Option.bind_some,Bool.not_true,Bool.false_eq_true,if_false];by_cases D:(l.length:Int) > 60
 ·simp only[D,decide_true,if_true,Option.bind_some]
 by_cases R:(s.length:Int) > 20
 ·simp only[D,R,decide_true,decide_false,Bool.false_eq_true,if_true,if_false,Option.bind_some]
 simp only[D,R,decide_false,Bool.false_eq_true,if_false,Option.bind_some,Ho];obtain⟨t,ht,E,a1⟩:=Ha (l:=l) (by omega) hl;obtain⟨k1,V⟩:=Fi C h1 h2 h3 h4 h5;obtain⟨L,hL,a2,I⟩:=GU (l:=s) (by omega) hs (m:=t.length) (by omega);simp only[ht,k1,hL,Option.bind_some];generalize yC p u v x z C=c at V;have p1:i64.wrap ((L.length:Int)+1)=((L.length+1:Nat):Int):=bj (by omega);have p2:u64.wrap ((L.length+1:Nat):Int)=((L.length+1:Nat):Int):=by rw[mW];omega
 have p3:0≤u64.wrap cut:=by rw[mW];omega
 have J:¬((L.length+1:Nat):Int)=0:=by omega
 obtain⟨n,hn,M⟩:∃n:Nat,i64.wrap (Int.tmod (u64.wrap cut) ((L.length+1:Nat):Int))=(n:Int)∧n≤L.length:=by rw[Int.tmod_eq_emod_of_nonneg p3];have B:=Int.emod_nonneg (u64.wrap cut) (show((L.length+1:Nat):Int)≠0 by omega);have X:=Int.emod_lt_of_pos (u64.wrap cut) (show 0<((L.length+1:Nat):Int) by omega);rw[wrap_i64 (by omega) (by omega)];exact⟨(u64.wrap cut % ((L.length+1:Nat):Int)).toNat,by omega,by omega⟩
 obtain⟨A,r,e1,e2,hA,N,j⟩:=LH E (by omega) V M (by omega) (Ie I);have g1:0≤(0:Int)∧0≤(n:Int)∧(n:Int)≤(L.length:Int):=by omega
 have hd:∀q:List xS,q.drop (0:Int).toNat=q:=fun _=>rfl
 have b1:(((A++r).length:Int) != (L.length:Int))=false:=by rw[N];simp
 have b2:((A.length:Int) != (n:Int))=false:=by rw[hA];simp
 have f:iter (bF (A++r) A) ((0:Nat):Int)=some (.inl ()):=by
  refine eg (fun k=>((k:Nat):Int)) A.length (fun k Y=> ?_) ?_
  ·have B:(k:Int)<(A.length:Int):=by omega
   have X:0≤(k:Int):=by omega
   have q3:(k:Int)<((A++r).length:Int):=by rw[List.length_append];omega
   have Z:(A++r).getD k (0,((0,0),(0,(([]:List bB),false))))=A.getD k (0,((0,0),(0,(([]:List bB),false)))):=by rw[List.getD_eq_getElem?_getD,List.getD_eq_getElem?_getD,List.getElem?_append_left Y]
   have hm:=j _ (kK (d:=(0,((0,0),(0,(([]:List bB),false))))) Y);generalize O:A.getD k (0,((0,0),(0,(([]:List bB),false))))=a at Z hm;simp only[bF,B,X,q3,and_self,decide_true,if_true,Int.toNat_natCast,Z,O,bne_self_eq_false,BEq.rfl,Bool.and_self,Bool.not_true,Bool.false_eq_true,if_false,Fh hm,Option.bind_some,bj (show k≤9000000000000000000 by omega)]
  ·have B:¬((A.length:Int)<(A.length:Int)):=Int.lt_irrefl _;simp only[bF,B,decide_false,Bool.false_eq_true,if_false]
 have e:iter (bF (A++r) A) (0:Int)=some (.inl ()):=f;simp only[p1,p2,hn,J,not_false_eq_true,if_true,e1,Option.bind_some,g1,and_self,Int.toNat_natCast,hd,e2,bne_self_eq_false,Bool.false_eq_true,if_false,b1,b2,e]
abbrev fB:List Ty:=[(.prod (.int .u8) (.prod (.int .u8) (.prod (.int .u8) (.prod (.int .u16) (.prod (.int .u16) .flt))))),(.slice (.int .u8)),(.slice (.prod (.int .i64) (.prod (.prod (.int .i64) (.prod (.int .i64) (.slice (.int .u8)))) (.prod (.prod (.int .i64) (.prod (.int .i64) (.prod (.int .u8) (.prod (.int .i64) (.prod (.int .i64) .flt))))) (.prod (.int .i64) (.prod .bool (.prod (.int .i64) (.int .i64)))))))),(.int .i64)]
theorem Hx{l:List xS}(h:Wf (.slice (.prod (.int .i64) (.prod (.prod (.int .i64) (.prod (.int .i64) (.slice (.int .u8)))) (.prod (.prod (.int .i64) (.prod (.int .i64) (.prod (.int .u8) (.prod (.int .i64) (.prod (.int .i64) .flt))))) (.prod (.int .i64) (.prod .bool (.prod (.int .i64) (.int .i64)))))))) l):∀i,i<l.length→Bytes (l.getD i F6).2.1.2.2:=fun i hi=>by
 have:=h.2 i hi;rw[iL hi];exact Gg this.2.1.2.2
theorem xN(x:Kk fB)(c:Lr fB x):cr x.1.1 x.1.2.1 x.1.2.2.1 x.1.2.2.2.1 x.1.2.2.2.2.1 x.1.2.2.2.2.2 x.2.1 x.2.2.1 x.2.2.2.1=some true :=
 yp _ c.1.1 c.1.2.1 c.1.2.2.1 c.1.2.2.2.1 c.1.2.2.2.2.1 (GK c.2.1) (Hx c.2.2.1) _
end
end Go.Proofs.YtmcemnfjddoejaaGreatDoor.T
