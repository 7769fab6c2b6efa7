import Derived.Test.YtobbjfkfmdiklaaGreatDoorTvT50a0
import Derived.Test.YtobbjfkfmdiklaaGreatDoorTvT50aa
import Derived.Test.YtobbjfkfmdiklaaGreatDoorTvT50aa3
import Derived.Test.YtobbjfkfmdiklaaGreatDoorTvFcm
namespace Go.Proofs.YtobbjfkfmdiklaaGreatDoor.T
open Go Go.Tv Go.Proofs
open Go.IntKind (i64)
noncomputable section
set_option maxRecDepth 100000
set_option maxHeartbeats 4000000
def bC(f:Qj×Bool):(Int×Int)→Option ((Int×Int)⊕((Int)⊕(Bool))):=fun(v6,p) =>
 (if(decide (p<(f.1.length:Int)))=true then(if 0≤p∧p<(f.1.length:Int)then(((if(((f.1.getD p.toNat (0,0,0,0)).1) != v6)=true then some (true)
 else some ((decide (((f.1.getD p.toNat (0,0,0,0)).2.1)<v6))))).bind fun q=>(if q=true then some (Sum.inr (Sum.inr false))
 else some (Sum.inl ((f.1.getD p.toNat (0,0,0,0)).2.1,(i64.wrap (p+1))))))else none)
 else some (Sum.inr (Sum.inl v6)))
def bW(p:Int×Int×Int×Int×Int×QJ)(q:Qj×QK)(j:Qj):(Int×Bool×Int)→Option ((Int×Bool×Int)⊕(Int×Bool)):=fun(u,v,f) =>
 (if(decide (f<(j.length:Int)))=true then(if 0≤f∧f<(j.length:Int)then(if 0≤(j.getD f.toNat (0,0,0,0)).2.1∧(j.getD f.toNat (0,0,0,0)).2.1<(q.2.length:Int)then((iy q.1 q.2 ((j.getD f.toNat (0,0,0,0)).1) ((j.getD f.toNat (0,0,0,0)).2.1) ((q.2.getD (((j.getD f.toNat (0,0,0,0)).2.1).toNat) 0) == 2) p.1 p.2.1 p.2.2.1 p.2.2.2.1 p.2.2.2.2.1 p.2.2.2.2.2).bind fun(x,z) =>
 (((if v=true then some (z)
 else some (false))).bind fun A=>some (Sum.inl ((i64.wrap (u+x)),A,(i64.wrap (f+1))))))else none)else none)
 else some (Sum.inr (u,v)))
def dy(Z d2 d3:Int)(d4:QK)(d5:List wO)(d6 d7 d8:Int)(d9:QK)(x:List wO)(z A B C:QK)(D E i1 i2 i3 i4 i5:Int)(i6:QJ)(v:QK):Option (Bool) :=
 ((eF).bind fun r2 =>
 (if(!r2)=true then some false
 else(if(decide ((v.length:Int) > 300))=true then some true
 else((dB Z d2 d3 d4 d5 d6 d7 d8 d9 x z A B C D E).bind fun p =>
 ((jH p.1 p.2.1 p.2.2.1 p.2.2.2.1 p.2.2.2.2.1 p.2.2.2.2.2.1 p.2.2.2.2.2.2.1 p.2.2.2.2.2.2.2.1 p.2.2.2.2.2.2.2.2).bind fun(I,r8) =>
 (if(r8.1 != 0)=true then some I.isNone
 else((dH i1 i2 i3 i4 i5 i6).bind fun f =>
 ((dp I v f.1 f.2.1 f.2.2.1 f.2.2.2.1 f.2.2.2.2.1 f.2.2.2.2.2).bind fun(J,L) =>
 ((ba I v).bind fun(j,M) =>
 (((if(L != 0)=true then some (true)
 else some ((M != 0)))).bind fun v1=>(if v1=true then some false
 else((iter (bC J) (0,0)).bind fun(N:((Int)⊕(Bool)))=>match N with
 | .inl v8=>((fB j.1 j.2 f.1 f.2.1 f.2.2.1 f.2.2.2.1 f.2.2.2.2.1 f.2.2.2.2.2).bind fun(q,a1) =>
 ((iter (bW f j q) (0,true,0)).bind fun(O,V)=>((lu j.1 j.2 q f.1 f.2.1 f.2.2.1 f.2.2.2.1 f.2.2.2.2.1 f.2.2.2.2.2).bind fun(X,u) =>
 (((if(v8 == (v.length:Int))=true then(if(u == V)=true then(if(!u)=true then some (true)
 else some ((X == O)))
 else some (false))
 else some (false))).bind fun v20=>some v20))))
 | .inr (Y)=>some Y))))))))))))
theorem mV(Y Z I J L M j:Bool){d1 d2 d3:Int}{d4:QK}{d5:List wO}{d6 d7 d8:Int}{d9:QK}{a1:List wO}{a2 a3 a4 a5:QK}{a6 a7 i1 i2 i3 i4 i5:Int}{i6:QJ}{C:QK}{a8:Bool}(h:dy d1 d2 d3 d4 d5 d6 d7 d8 d9 a1 a2 a3 a4 a5 a6 a7 i1 i2 i3 i4 i5 i6 C=some a8):
  Pure Tryz.prog 5 [.agg [.u8 d1,.u8 d2,.u8 d3,.p Y (.slice (.int .u8)) d4,.p false (.slice (.prod (.int .u8) Gv)) d5,.u8 d6,.u8 d7,.u8 d8,.p Z (.slice (.int .u8)) d9,.p false (.slice (.prod (.int .u8) Gv)) a1,.p I (.slice (.int .u8)) a2,.p J (.slice (.int .u8)) a3,.p L (.slice (.int .u8)) a4,.p M (.slice (.int .u8)) a5,.u8 a6,.u8 a7],.agg [.u8 i1,.u8 i2,.u8 i3,.p false (.int .u16) i4,.p false (.int .u16) i5,.p false .flt i6],.p j (.slice (.int .u8)) C] (aL (bf false [⟨.bool,a8⟩])):=by
 refine PB Tryz.func5 (fun Bw w0=>?_);unfold dy at h;refine G (ag ?_);obtain⟨r2,q2,h⟩:=aj h;refine GP 0 (o7 q2) (aC h (fun B1 h=>?_) (fun B1 h=>?_))
 ·refine G (av (ai ?_));obtain rfl:=sI h;exact RI [.bool]
 refine ae (ab (ag (G (aC h (fun B2 h=>?_) (fun B2 h=>?_)))))
 ·refine G (av (ai ?_));obtain rfl:=sI h;exact RI [.bool]
 refine ae (ab ?_);obtain⟨r6,q5,h⟩:=aj h;obtain⟨⟨r7,r8⟩,q6,h⟩:=aj h;have A:=(pc Y Z I J L M q5);have a9:=(tQ false false false false q6);refine GN ⟨[],[(1,(oP A)),(2,(oP a9))]⟩ [(1,1,oc A),(2,2,oc a9)] (ag (G (aC h (fun B3 h=>?_) (fun B3 h=>?_))))
 ·refine GN a0 [(1,1,⟨∃e,Tryz.prog.underlying 33=some (.pointer e),⟨_,rfl⟩⟩)] (av (ai ?_));obtain rfl:=sI h;exact RI [.bool]
 refine ae (ab ?_);obtain⟨f,q8,h⟩:=aj h;refine GP 1 (nD q8) ?_;obtain⟨⟨u,bx⟩,b1,h⟩:=aj h;refine GP 3 (my j b1) ?_;obtain⟨⟨q,c1⟩,b2,h⟩:=aj h;refine GP 2 (lJ j b2) (ag (ag (br h (fun v1=>aA [(2,.p j (.slice (.int .u8)) C),(9,.adr 0 0 6 0),(10,.adr 1 0 2 0),(12,.adr 2 0 2 0),(63,.bo v1)] (KZ f.1 f.2.1 f.2.2.1 f.2.2.2.1 f.2.2.2.2.1 f.2.2.2.2.2 u.1 u.2 q.1 q.2) 3) (fun v1 h=>?_) (fun v1 h=>?_))))
 ·rcases aM h with⟨B6,h⟩ | ⟨B6,h⟩
  ·exact bA ⟨[(2,true),(5,true)],[]⟩ [(3,5,oc B6)] (eN h (gg [] [176,248,320]))
  exact bA ⟨[(2,false),(5,false)],[]⟩ [(3,4,an B6),(5,5,oc B6)] (eN h (gg [] [176,248,320]))
 refine ab (aC h (fun B7 h=>?_) (fun B7 h=>?_))
 ·refine G (av (ai ?_));obtain rfl:=sI h;exact RI [.bool]
 refine ae (ab (G (ag (G (ak (j8 h (fun(v6,N)=>aA [(2,.p j (.slice (.int .u8)) C),(9,.adr 0 0 6 0),(12,.adr 1 0 2 0),(14,.i64 v6),(65,.p false (.slice eA) u.1),(66,.i64 (u.1.length:Int)),(67,.i64 N)] (BK f.1 f.2.1 f.2.2.1 f.2.2.2.1 f.2.2.2.2.1 f.2.2.2.2.2 q.1 q.2) 2) (dg (eZ Tryz.f5.ntmps 0 (fun v8=>aA [(2,.p j (.slice (.int .u8)) C),(9,.adr 0 0 6 0),(12,.adr 1 0 2 0),(14,.i64 v8)] (BK f.1 f.2.1 f.2.2.1 f.2.2.2.1 f.2.2.2.2.1 f.2.2.2.2.2 q.1 q.2) 2)) (ga tb Tryz.f5.results.toList (fun aa=>[⟨.bool,aa⟩]))) (gg [] [0,2]) (fun y o h=>?_) (fun b3 h e σ' hq=>?_)))))))
 ·obtain⟨v6,N⟩:=y;unfold bC at h;refine G (ag (aC h (fun b4 h=>?_) (fun b4 h=>?_)))
  ·refine ae (ab (ag (ak (GC 0 h (fun h=>ag (ag (br h (fun v9=>aA [(2,.p j (.slice (.int .u8)) C),(9,.adr 0 0 6 0),(12,.adr 1 0 2 0),(16,.adr 2 0 4 0),(65,.p false (.slice eA) u.1),(66,.i64 (u.1.length:Int)),(67,.i64 N),(80,.bo v9)] (K9 f.1 f.2.1 f.2.2.1 f.2.2.2.1 f.2.2.2.2.1 f.2.2.2.2.2 q.1 q.2 ((u.1.getD N.toNat (0,0,0,0)).1) ((u.1.getD N.toNat (0,0,0,0)).2.1) ((u.1.getD N.toNat (0,0,0,0)).2.2.1) ((u.1.getD N.toNat (0,0,0,0)).2.2.2)) 3) (fun v9 h=>?_) (fun v9 h=>?_))))))))
   ·rcases aM h with⟨D,h⟩ | ⟨D,h⟩
    ·exact bA ⟨[(4,true),(9,true)],[]⟩ [(5,9,oc D)] (eN h (gg [] [0,1,26]))
    exact bA ⟨[(4,false),(9,false)],[]⟩ [(5,8,an D),(9,9,oc D)] (eN h (gg [] [0,1,26]))
   refine ab (aC h (fun b5 h=>?_) (fun b5 h=>?_))
   ·refine G (av ?_);obtain rfl:=sI h;refine ai (az (ai (bK (aK ?_))));exact bJ (RI [.bool])
   refine ae (ab (Ge (ay (ab (Ge ?_)))));exact eB h (gg [] [0,1])
  refine au (aQ ?_);obtain rfl:=sI h;refine dC (bk ?_);exact bP (gg [] [0,1])
 rcases b3 with v8 | aa
 ·obtain⟨rfl,b6⟩:=hq;refine cC ?_ b6;refine aw (ab ?_);obtain⟨⟨z,c2⟩,b7,h⟩:=aj h;refine GP 2 (ot false false b7) (G (ag (G (ak (cF h (fun(O,ac,V)=>aA [(2,.p j (.slice (.int .u8)) C),(9,.adr 0 0 6 0),(12,.adr 1 0 2 0),(14,.i64 v8),(17,.p false (.slice eA) z),(19,.i64 O),(20,.bo ac),(90,.p false (.slice eA) z),(91,.i64 (z.length:Int)),(92,.i64 V)] (BK f.1 f.2.1 f.2.2.1 f.2.2.2.1 f.2.2.2.2.1 f.2.2.2.2.2 q.1 q.2) 2) 2 (fun(ad,ax)=>aA [(2,.p j (.slice (.int .u8)) C),(9,.adr 0 0 6 0),(12,.adr 1 0 2 0),(14,.i64 v8),(17,.p false (.slice eA) z),(19,.i64 ad),(20,.bo ax)] (BK f.1 f.2.1 f.2.2.1 f.2.2.2.1 f.2.2.2.2.1 f.2.2.2.2.2 q.1 q.2) 2) (gg [] [0,1]) (fun y o h=>?_) (fun b8 h=>?_))))))
  ·obtain⟨O,ac,V⟩:=y;unfold bW at h;refine G (ag (aC h (fun b9 h=>?_) (fun b9 h=>?_)))
   ·refine ae (ab (ag (ak (GC 0 h (fun h=>?_)))));obtain⟨be,h⟩:=aD h;obtain⟨⟨bi,c3⟩,bs,h⟩:=aj h;have A:=(rL false false bs);refine GD ⟨[],[(13,(oP A))]⟩ [(9,9,oc be),(13,13,oc A)] (br h (fun X=>aA [(2,.p j (.slice (.int .u8)) C),(9,.adr 0 0 6 0),(12,.adr 1 0 2 0),(14,.i64 v8),(17,.p false (.slice eA) z),(19,.i64 (i64.wrap (O+bi))),(20,.bo X),(90,.p false (.slice eA) z),(91,.i64 (z.length:Int)),(92,.i64 V)] (BK f.1 f.2.1 f.2.2.1 f.2.2.2.1 f.2.2.2.2.1 f.2.2.2.2.2 q.1 q.2) 2) (fun X h=>?_) (fun X h=>?_))
    ·rcases aM h with⟨E,h⟩ | ⟨E,h⟩
     ·exact bA ⟨[(4,true),(6,true)],[]⟩ [(5,5,an E),(6,6,oc E)] (eN h (gg [] [0,1]))
     exact bA ⟨[(4,false),(6,false)],[]⟩ [(5,6,oc E)] (eN h (gg [] [0,1]))
    refine ay (ab (Ge ?_));exact eB h (gg [] [0,1])
   refine au (aQ ?_);exact eX h (gg [] [0,1])
  obtain⟨ad,ax⟩:=b8;refine aw (ab ?_);obtain⟨⟨c4,c5⟩,bv,h⟩:=aj h;refine GP 3 (xi false false false bv) (ag (br h (fun v20=>aA [(6,.bo v20)] [] 0) (fun v20 h=>?_) (fun v20 h=>?_)))
  ·rcases aM h with⟨x,h⟩ | ⟨x,h⟩
   ·rcases aM h with⟨v,h⟩ | ⟨v,h⟩
    ·rcases aM h with⟨B,h⟩ | ⟨B,h⟩
     ·exact bA ⟨[(4,true),(8,true),(9,true),(12,true),(16,true),(17,true)],[]⟩ [(5,7,an x),(8,8,oc x),(10,12,an v),(13,15,oc B),(16,16,oc (And.intro v B)),(17,17,oc v)] (eN h (gg [] []))
     exact bA ⟨[(4,true),(8,true),(9,true),(12,false),(16,false),(17,true)],[]⟩ [(5,7,an x),(8,8,oc x),(10,12,an v),(13,15,an B),(16,16,oc (And.intro v B)),(17,17,oc v)] (eN h (gg [] []))
    exact bA ⟨[(4,true),(8,true),(9,false),(17,false)],[]⟩ [(5,7,an x),(8,8,oc x),(10,12,oc v),(16,17,oc v)] (eN h (gg [] []))
   exact bA ⟨[(4,false),(8,false)],[]⟩ [(5,8,oc x)] (eN h (gg [] []))
  refine ab (av ?_);obtain rfl:=sI h;exact RI [.bool]
 obtain⟨rfl,hr⟩:=hq;refine az (ai ?_);obtain rfl:=sI h;exact hr
end
end Go.Proofs.YtobbjfkfmdiklaaGreatDoor.T
namespace Go.Proofs.YtobbjfkfmdiklaaGreatDoor.T
open Go Go.Tv Go.Proofs
open Go.IntKind (i64)
noncomputable section
theorem zZ{f:Qk}{n:Int}(h:pK 0 f n)(hl:f.length≤4096){l:Qk}(I:l.length≤4096)(p:vk 0 l f.length)(J:∀k,k<l.length→0≤(l.getD k c0).1∧(l.getD k c0).1<(l.getD k c0).2.1∧(l.getD k c0).2.1≤(f.length:Int))(b:Bool):
  iter (bC (xV f n l,b)) (0,0)=some (.inl n):=by
 by_cases B:l=[]
 ·subst B;have L:f.length=0:=by simpa [vk]using p.symm
  have hn:n=0:=by have hz:f=[]:=List.length_eq_zero_iff.1 L;rw[hz]at h;simp only[pK]at h;exact h.symm
  subst hn;have M:i64.wrap 1=1:=wrap_i64 (by omega) (by omega);refine(dO (y:=((0:Int),(1:Int))) ?_).trans (cr ?_)
  ·simp[bC,xV,M]
  ·simp[bC,xV]
 ·have N:xV f n l=l.map (qx f n):=by unfold xV;rw[if_neg B]
  rw[N];have D:iter (bC (l.map (qx f n),b)) ((if 0<l.length then rD f n (l.getD 0 c0).1.toNat else n),((0:Nat):Int))=some (.inl n):=by
   refine ib (fun k=>((if k<l.length then rD f n (l.getD k c0).1.toNat else n),((k:Nat):Int))) l.length (fun k hk=>?_) ?_
   ·obtain⟨g0,g1,g2⟩:=J k hk;obtain⟨u,v,A,O,c3,E,c5,V⟩:=p.get k hk;have C:(k:Int)<((l.map (qx f n)).length:Int):=by rw[List.length_map];omega
    have X:0≤(k:Int):=by omega
    have Y:(l.map (qx f n)).getD k c0=qx f n (l.getD k c0):=by rw[List.getD_eq_getElem?_getD,List.getElem?_map,List.getElem?_eq_getElem hk,List.getD_eq_getElem?_getD,List.getElem?_eq_getElem hk];rfl
    have Z:(qx f n (l.getD k c0)).1=rD f n u:=by show rD f n (l.getD k c0).1.toNat=_;rw[A,Int.toNat_natCast]
    have e2:(qx f n (l.getD k c0)).2.1=rD f n v:=by show rD f n (l.getD k c0).2.1.toNat=_;rw[O,Int.toNat_natCast]
    have e4:rD f n (l.getD k c0).1.toNat=rD f n u:=by rw[A,Int.toNat_natCast]
    have a1:=h.KF (i:=v) (by omega) (j:=u) (by omega);have e5:¬(rD f n v<rD f n u):=by omega
    have x:(if k+1<l.length then rD f n (l.getD (k+1) c0).1.toNat else n)=rD f n v:=by
     by_cases z:k+1<l.length
     ·rw[if_pos z];obtain⟨u',v',d1,d2,d3,d4,d5,d6⟩:=p.get (k+1) z;have:=d5 k rfl;rw[d1,Int.toNat_natCast,show u'=v by omega]
     ·rw[if_neg z,V (by omega),Ih]
    simp only[bC,C,X,Y,hk,and_self,decide_true,if_true,Int.toNat_natCast,Z,e2,e4,e5,decide_false,bne_self_eq_false,Bool.false_eq_true,if_false,Option.bind_some,bF (show k≤9000000000000000000 by omega),x]
   ·have C:¬((l.length:Int)<((l.map (qx f n)).length:Int)):=by rw[List.length_map];omega
    simp only[bC,C,decide_false,Bool.false_eq_true,if_false,Nat.lt_irrefl]
  have q:=List.length_pos_iff.2 B;obtain⟨u,v,A,-,-,E,-⟩:=p.get 0 q;rw[if_pos q,A,E rfl,Int.toNat_natCast,GW h]at D;exact D
theorem Ba{f:Qk}(hc:zF f){o:QK}(z:o.length=f.length+1)(A:o.getD 0 0≠3){c:Wy}(w:Cg c)(B:Bi c){l:Qk}(hl:l.length≤4096)(q:∀x∈l,Rg f.length x):
  iter (bW c (f,o) l) (0,true,0)=some (zA f o c l,uo f o c l):=by
 have key:∀(r pre:Qk) (s:Int) (b:Bool),(pre++r).length≤4096→(∀x∈r,Rg f.length x)→0≤s→s≤1000000000*(pre.length:Int) →
   iter (bW c (f,o) (pre++r)) (s,b,(pre.length:Int))=some (s+zA f o c r,b && uo f o c r):=fun r=>by
  induction r with
  | nil =>
   intro pre s b _ _ _ _;have u:¬((pre.length:Int)<(pre.length:Int)):=Int.lt_irrefl _;rw[List.append_nil];exact cr (by simp only[bW,u,decide_false,Bool.false_eq_true,if_false,uo,zA,Bool.and_true,Int.add_zero])
  | cons x r C =>
   intro pre s b j q M N;obtain⟨D,O,V,E,I⟩:=A0 hc z A w B (q x (List.mem_cons_self ..));have v:pre.length+(r.length+1)≤4096:=by simpa using j
   have u:(pre.length:Int)<((pre++x::r).length:Int):=by simp;omega
   have J:0≤(pre.length:Int):=by omega
   have p:=C (pre++[x]) (s+(oV f o c x).1) (b && (oV f o c x).2) (by simpa using j) (fun y L=>q y (List.mem_cons_of_mem _ L)) (by omega) (by simp only[List.length_append,List.length_singleton];omega);rw[List.append_assoc]at p;simp only[List.singleton_append,List.length_append,List.length_singleton]at p;simp only[uo,zA];rw[←Int.add_assoc,←Bool.and_assoc,←p];refine dO ?_;simp only[bW,u,J,and_self,decide_true,if_true,Int.toNat_natCast,qQ,E,I,D,Option.bind_some];rw[wrap_i64 (by omega) (by omega),show i64.wrap ((pre.length:Int)+1)=((pre.length+1:Nat):Int)from bF (by omega)];cases b <;> rfl
 have:=key l [] 0 true (by simpa using hl) q (by omega) (by simp);simp only[List.nil_append,List.length_nil,Int.zero_add,Bool.true_and]at this;exact this
theorem J9{p q f j m:Int}{l:QJ}(u:0≤f∧f≤65535)(v:0≤j∧j≤65535):Bi (p,q,m,f,j,l):=⟨u.1,by simp only;omega,v.1,by simp only;omega⟩
theorem xC{d1 d2 d3:Int}{d4:QK}{d5:List wO}{d6 d7 d8:Int}{d9:QK}{x:List wO}{z A B D:QK}{E I J L v M N:Int}(O:QJ)(hd:Ho (dB d1 d2 d3 d4 d5 d6 d7 d8 d9 x z A B D E I) (fun _=>True))
  (h1:0≤J∧J≤255) (h2:0≤L∧L≤255) (h3:0≤v∧v≤255) (h4:0≤M∧M≤65535) (h5:0≤N∧N≤65535) {t:QK} (tb:Bytes t) :
  dy d1 d2 d3 d4 d5 d6 d7 d8 d9 x z A B D E I J L v M N O t=some true:=by
 unfold dy;rw[H6];simp only[Option.bind_some,Bool.not_true,Bool.false_eq_true,if_false];split
 ·rfl
 rename_i V;have a2:t.length≤300:=by simp at V;omega
 obtain⟨d,e,_⟩:=hd;rw[e];simp only[Option.bind_some];obtain⟨⟨b,k⟩,eb,X⟩:=CT d.1 d.2.1 d.2.2.1 d.2.2.2.1 d.2.2.2.2.1 d.2.2.2.2.2.1 d.2.2.2.2.2.2.1 d.2.2.2.2.2.2.2.1 d.2.2.2.2.2.2.2.2;rw[eb];simp only[Option.bind_some];by_cases hk:(k.1 != 0)=true
 ·rw[if_pos hk];rcases X with⟨q,-⟩ | ⟨-,q⟩
  ·exact absurd (show k.1=0 from q) (by simpa using hk)
  ·simp only at q;rw[q];rfl
 rw[if_neg hk];have rb:RB b:=(X.resolve_right fun h=>by simp at hk;exact h.1 hk).2;obtain⟨ec,hc⟩:=EY O h1 h2 h3 h4 h5;obtain⟨p,ep,f,Y⟩:=L3 rb tb (by omega);have u:=hc (v % 2) (by omega) (by omega) O;obtain⟨lb,l0⟩:=Y _ u;have j:=f.MA (by omega);have hl:=j.1;generalize hC:((1+J,1+L % 64,v % 2,M,N,O):Wy)=C at lb l0 u;have Z:Bi C:=by rw[←hC];exact J9 h4 h5
 obtain⟨a1,a3⟩:=FB f C;have f1:=zZ f.Jj hl (l:=(LF p.1 p.2 C).1) (by omega) (KG f _) (Fs f _) (LF p.1 p.2 C).2;have f2:=Ba j f.Ji.len f.zero (uT u) Z (by omega) a1;have f3:=yQ j f.Ji.len f.zero (uT u) Z (by omega) a1;have a4:JM J L v M N O=C:=hC;rw[ec,a4];simp only[Option.bind_some];rw[l0,ep];simp only[Option.bind_some,bne_self_eq_false,Bool.false_eq_true,if_false];rw[f1];simp only[Option.bind_some];rw[lb];simp only[Option.bind_some];rw[f2,f3];cases uo p.1 p.2 C (LF p.1 p.2 C).1 <;> simp
abbrev fQ:List Ty:=[LK,(.prod (.int .u8) (.prod (.int .u8) (.prod (.int .u8) (.prod (.int .u16) (.prod (.int .u16) .flt))))),(.slice (.int .u8))]
theorem Fp{l:QK}(h:Wf (.slice (.int .u8)) l):Bytes l:=fun x f=>by
 obtain⟨i,hi,rfl⟩:=List.mem_iff_getElem.1 f;exact h.2 i hi
theorem vM(x:Kw fQ)(f:Lx fQ x):dy x.1.1.1 x.1.1.2.1 x.1.1.2.2.1 x.1.1.2.2.2.1 x.1.1.2.2.2.2 x.1.2.1.1 x.1.2.1.2.1 x.1.2.1.2.2.1 x.1.2.1.2.2.2.1 x.1.2.1.2.2.2.2 x.1.2.2.1 x.1.2.2.2.1 x.1.2.2.2.2.1 x.1.2.2.2.2.2.1 x.1.2.2.2.2.2.2.1 x.1.2.2.2.2.2.2.2 x.2.1.1 x.2.1.2.1 x.2.1.2.2.1 x.2.1.2.2.2.1 x.2.1.2.2.2.2.1 x.2.1.2.2.2.2.2 x.2.2.1=some true :=
 xC _ (Iz f.1) f.2.1.1 f.2.1.2.1 f.2.1.2.2.1 f.2.1.2.2.2.1 f.2.1.2.2.2.2.1 (Fp f.2.2.1)
end
end Go.Proofs.YtobbjfkfmdiklaaGreatDoor.T
