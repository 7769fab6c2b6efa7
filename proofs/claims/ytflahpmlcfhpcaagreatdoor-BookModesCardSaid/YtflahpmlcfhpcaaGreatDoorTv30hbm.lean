import Derived.Test.YtflahpmlcfhpcaaGreatDoorTvUm
import Derived.Test.YtflahpmlcfhpcaaGreatDoorTv30um
import Derived.Test.YtflahpmlcfhpcaaGreatDoorTv30gim
import Derived.Test.YtflahpmlcfhpcaaGreatDoorTv30bm
import Derived.Test.YtflahpmlcfhpcaaGreatDoorTvT20d0
import Derived.Test.YtflahpmlcfhpcaaGreatDoorTvT20da
import Derived.Test.YtflahpmlcfhpcaaGreatDoorTvT20da3
namespace Go.Proofs.YtflahpmlcfhpcaaGreatDoor.T
open Go Go.Tv Go.Proofs
open Go.IntKind (i64)
noncomputable section
section
variable{d:Dt}{n:Nat}{c:Wy}(hc:∀a k,a+k≤n→0≤gR d c.2.1 a k∧gR d c.2.1 a k≤1000000)
include hc
end
def Eh(e:XQ)(n:Int)(i:Nat):Int:=if i<e.length then(e.getD i c0).1 else n
theorem se.next{n:Int}:∀ {a:Int} {f:XQ} {i:Nat},se a f n→i<f.length→(f.getD i c0).1+(f.getD i c0).2.1=Eh f n (i+1)
 | a,[],i,_,h=>absurd h (by simp)
 | a,[x],0,h,_=>by
  obtain⟨p,-,-,-,-,-,j⟩:=h;simp only[se]at j;simp only[Eh,List.getD_cons_zero,List.length_singleton,Nat.zero_add,Nat.lt_irrefl,if_false];omega
 | a,x::y::r,0,h,_=>by
  obtain⟨p,-,-,-,-,-,j,-⟩:=h;simp only[Eh,List.getD_cons_zero,List.length_cons,List.getD_cons_succ,Nat.zero_add];rw[if_pos (by omega)];omega
 | a,x::r,i+1,h,hi=>by
  have:=se.next (i:=i) h.2.2.2.2.2.2 (by simpa using hi);unfold Eh at this ⊢;simp only[List.getD_cons_succ,List.length_cons];rw[this];by_cases e:i+1<r.length
  ·rw[if_pos e,if_pos (by omega)]
  ·rw[if_neg e,if_neg (by omega)]
def xh(e:XQ)(n:Int)(x:cr):cr:=(Eh e n x.1.toNat,Eh e n x.2.1.toNat,x.2.2)
theorem HK{e:XQ}{n:Int}(hc:se 0 e n)(q:e.length≤4096)(hn:n≤1000000){l:XQ}(hl:l.length≤4096)(u:∀k,k<l.length→0≤(l.getD k c0).1∧(l.getD k c0).1<(l.getD k c0).2.1∧(l.getD k c0).2.1≤(e.length:Int))(o:QK):
  lh e o l=some (if l=[]then[(0,0,0,2)]else l.map (xh e n)):=by
 unfold lh;by_cases f:l=[]
 ·subst f;rfl
 rw[if_neg f,if_neg (by
  have:=List.length_pos_iff.2 f;simp only[beq_iff_eq];omega)]
 have v:iter (gV e l) ((l.take 0).map (xh e n),((0:Nat):Int))=some (l.map (xh e n)):=by
  refine iq (fun k=>((l.take k).map (xh e n),(k:Int))) l.length (fun k hk=>?_) ?_
  ·obtain⟨a0,I,J⟩:=u k hk;have j:(k:Int)<(l.length:Int):=by omega
   have z:0≤(k:Int):=by omega
   have A:i64.wrap ((l.getD k c0).2.1 - 1)=(l.getD k c0).2.1 - 1:=wrap_i64 (by omega) (by omega);have B:0≤(l.getD k c0).2.1 - 1∧(l.getD k c0).2.1 - 1<(e.length:Int):=by omega
   have C:(l.getD k c0).1<(e.length:Int):=by omega
   have p:=hc.next (i:=((l.getD k c0).2.1 - 1).toNat) (by omega);rw[show((l.getD k c0).2.1 - 1).toNat+1=(l.getD k c0).2.1.toNat by omega]at p;have L:=hc.Mb.2 ((l.getD k c0).2.1 - 1).toNat (by omega);have D:i64.wrap ((e.getD ((l.getD k c0).2.1 - 1).toNat c0).1+(e.getD ((l.getD k c0).2.1 - 1).toNat c0).2.1)=Eh e n (l.getD k c0).2.1.toNat:=by rw[wrap_i64 (by omega) (by omega),p]
   have E:(e.getD (l.getD k c0).1.toNat c0).1=Eh e n (l.getD k c0).1.toNat:=by unfold Eh;rw[if_pos (by omega)]
   have g:∀x:cr,(((l.take k).map (xh e n)).length+([x]:XQ).length)*32≤140737488355328∧((l.take k).map (xh e n)).length+([x]:XQ).length≤9223372036854775807:=fun x=>by simp;omega
   simp only[gV,j,z,A,B,C,a0,D,E,g,and_self,decide_true,if_true,Int.toNat_natCast,bH (show k≤9000000000000000000 by omega)];rw[nb (d:=c0) hk,List.map_append];rfl
  ·have j:¬((l.length:Int)<(l.length:Int)):=by omega
   simp only[gV,j,decide_false,Bool.false_eq_true,if_false,List.take_length]
 exact congrArg (fun x=>Option.bind x fun o=>some o) v
def J3(e f j p q:Int)(u:QJ):Wy:=(1+e,1+f % 64,j % 2,p,q,u)
def La(c:Wy):Prop:=im c.1 c.2.1 c.2.2.1 c.2.2.2.1 c.2.2.2.2.1 c.2.2.2.2.2=some true
theorem JQ{c:Wy}(h:(1≤c.1∧c.1≤1048576)∧(1≤c.2.1∧c.2.1≤64)∧c.2.2.1≤1∧(0≤c.2.2.2.1∧c.2.2.2.1≤1048576)∧0≤c.2.2.2.2.1∧c.2.2.2.2.1≤1048576):La c:=by
 unfold La im;rw[if_pos (by rw[decide_eq_true_eq];omega),if_pos (by rw[decide_eq_true_eq];omega),if_pos (by rw[decide_eq_true_eq];omega),if_pos (by rw[decide_eq_true_eq];omega),if_pos (by rw[decide_eq_true_eq];omega),if_pos (by rw[decide_eq_true_eq];omega),if_pos (by rw[decide_eq_true_eq];omega),if_pos (by rw[decide_eq_true_eq];omega)];rw[Option.bind_some,decide_eq_true (by omega)]
theorem EG{f e q j p:Int}(u:QJ)(O:0≤f∧f≤255)(v:0≤e∧e≤255)(x:0≤q∧q≤255)(z:0≤j∧j≤65535)(A:0≤p∧p≤65535):
  dH f e q j p u=some (J3 f e q j p u)∧∀m:Int,0≤m→m≤1→∀l:QJ,La (1+f,1+e % 64,m,j,p,l):=by
 constructor
 ·have B:i64.wrap f=f:=wrap_i64 (by omega) (by omega);have C:i64.wrap (1+f)=1+f:=wrap_i64 (by omega) (by omega);have D:Int.tmod e 64=e % 64:=Int.tmod_eq_emod_of_nonneg v.1;have E:i64.wrap (e % 64)=e % 64:=wrap_i64 (by omega) (by omega);have I:i64.wrap (1+e % 64)=1+e % 64:=wrap_i64 (by omega) (by omega);have J:Int.tmod q 2=q % 2:=Int.tmod_eq_emod_of_nonneg x.1;have L:i64.wrap j=j:=wrap_i64 (by omega) (by omega);have M:i64.wrap p=p:=wrap_i64 (by omega) (by omega);unfold dH J3;rw[if_pos (by decide),if_pos (by decide),B,C,D,E,I,J,L,M]
 ·intro m V N l;exact JQ ⟨⟨by simp only;omega,by simp only;omega⟩,⟨by simp only;omega,by simp only;omega⟩,N,⟨z.1,by simp only;omega⟩,A.1,by simp only;omega⟩
theorem Dg{n:Int}{p:XQ×QK}(h:PM n p)(c:Wy):(∀x∈(LF p.1 p.2 c).1,Rg p.1.length x)∧(LF p.1 p.2 c).1.length≤p.1.length:=by
 have hl:=h.IN.len;have e:HN p.2 p.1.length 0 (dS p.2 p.2.length):=by rw[rB];exact qc _ _ _ (by omega)
 obtain⟨f,j⟩:=xV c e;exact⟨f,by unfold LF;omega⟩
theorem J1{n:Int}{p:XQ×QK}(h:PM n p)(c:Wy)(k:Nat)(hk:k<(LF p.1 p.2 c).1.length):0≤((LF p.1 p.2 c).1.getD k c0).1∧((LF p.1 p.2 c).1.getD k c0).1<((LF p.1 p.2 c).1.getD k c0).2.1∧((LF p.1 p.2 c).1.getD k c0).2.1≤(p.1.length:Int):=by
 obtain⟨a,b,e,f,j,q⟩:=(Dg h c).1 ((LF p.1 p.2 c).1.getD k c0) (xI hk);omega
def xL(e:XQ)(n:Int)(l:XQ):XQ:=if l=[]then[(0,0,0,2)]else l.map (xh e n)
theorem LU{b:Option Z1}(hb:RB b){x:QK}(v:Bytes x)(z:x.length≤4096):∃p,bc b x=some (p,0)∧PM (x.length:Int) p∧∀c:Wy,La c →
  gu p.1 p.2 c.1 c.2.1 c.2.2.1 c.2.2.2.1 c.2.2.2.2.1 c.2.2.2.2.2=some (LF p.1 p.2 c)∧cK b x c.1 c.2.1 c.2.2.1 c.2.2.2.1 c.2.2.2.2.1 c.2.2.2.2.2=some ((xL p.1 (x.length:Int) (LF p.1 p.2 c).1,(LF p.1 p.2 c).2),0):=by
 obtain⟨p,q,f⟩:=hb.para x v z;refine⟨p,q,f,fun c hc=>?_⟩;have j:=f.Mt (by omega);have e:=xi j f.IN f.zero (Fw hc);have u:gu p.1 p.2 c.1 c.2.1 c.2.2.1 c.2.2.2.1 c.2.2.2.2.1 c.2.2.2.2.2=some (LF p.1 p.2 c):=e;refine⟨u,?_⟩;have hl:=j.1;have A:=HK f.I1 hl (by omega) (l:=(LF p.1 p.2 c).1) (by have:=(Dg f c).2;omega) (J1 f c) p.2;unfold cK;rw[hc,Option.bind_some,if_neg (by decide),q,Option.bind_some];simp only[bne_self_eq_false,Bool.false_eq_true,if_false,u,Option.bind_some,A];rfl
theorem HS{e:XQ}{n:Int}:Eh e n e.length=n:=by unfold Eh;rw[if_neg (by omega)]
theorem BY:fb=some ([],jK,lS,[],Fs,Gl,[],2,2):=rfl
theorem Es{b e:Option Z1}(h:∀x,bc b x=bc e x)(x:QK)(f j p q u:Int)(v:QJ):cK b x f j p q u v=cK e x f j p q u v:=by
 unfold cK;rw[h]
theorem H4:eF=some true:=by
 obtain⟨b,e,hb⟩:=Jf;unfold eF;rw[BY];simp only[Option.bind,e,Es hb];kernel_rfl
set_option maxRecDepth 100000
set_option maxHeartbeats 4000000
def bI(j:Qj):tG→Option (tG⊕QK):=fun(e,f) =>
 (if(decide (f<(j.length:Int)))=true then(if 0≤f∧f<(j.length:Int)then(((if(((j.getD f.toNat (0,0,0,0)).2.2.2) == 2)=true then(if(e.length+([(j.getD f.toNat (0,0,0,0)).2.1]:QK).length)*8≤140737488355328∧e.length+([(j.getD f.toNat (0,0,0,0)).2.1]:QK).length≤9223372036854775807 then some ((e++([(j.getD f.toNat (0,0,0,0)).2.1]:QK)))else none)
 else some (e))).bind fun p=>some (Sum.inl (p,(i64.wrap (f+1)))))else none)
 else some (Sum.inr e))
def cD(f:Qj)(j:Bool):Option QK :=
 ((iter (bI f) (([]:QK),0)).bind fun e=>some e)
theorem gk(q:Bool){u:Qj}{z:Bool}{v:QK}(h:cD u z=some v):
  Pure Tryz.prog 23 [.agg [.p q (.slice fR) u,.bo z]] (aK (bf false [⟨(.slice (.int .i64)),v⟩])):=by
 refine PB Tryz.func23 (fun Bw w0=>?_);unfold cD at h;refine G (G (ag (G (ak (cC h (fun(f,x)=>aA [(3,.sl 0),(7,.p q (.slice fR) u),(8,.i64 (u.length:Int)),(9,.i64 x)] [(0,.arr 3 (.int .i64) f)] 1) 0 (fun j=>aA [(3,.sl 0)] [(0,.arr 3 (.int .i64) j)] 1) (gg [.nilS 3 56 3 (.int .i64)] [56]) (fun y o h=>?_) (fun j h=>?_))))))
 ·obtain⟨f,x⟩:=y;unfold bI at h;refine G (ag (aC h (fun A h=>?_) (fun A h=>?_)))
  ·refine ae (ab (ag (ak (GC 0 h (fun h=>G (bA h (fun e=>aA [(3,.sl 0),(7,.p q (.slice fR) u),(8,.i64 (u.length:Int)),(9,.i64 x)] [(0,.arr 3 (.int .i64) e)] 1) (fun e h=>?_) (fun e h=>?_)))))))
   ·refine aC h (fun B h=>?_) (fun B h=>?_)
    ·refine zw 4 h (fun h=>?_);exact eN h (gg [] [97])
    exact ae (eN h (gg [] [0]))
   refine ay (ab (Ge ?_));exact eB h (gg [] [0])
  refine au (aP ?_);exact eX h (gg [] [0])
 refine aw (ab (G (av ?_)));obtain rfl:=sI h;exact RI [(.slice (.int .i64))]
def bP(f j:QK):(Int)→Option ((Int)⊕((Unit)⊕(Bool))):=fun e =>
 (if(decide (e<(f.length:Int)))=true then(if 0≤e∧e<(f.length:Int)then(if 0≤e∧e<(j.length:Int)then(if((f.getD e.toNat 0) != (j.getD e.toNat 0))=true then some (Sum.inr (Sum.inr false))
 else some (Sum.inl (i64.wrap (e+1))))else none)else none)
 else some (Sum.inr (Sum.inl ())))
def cZ(V X Y:Int)(Z:QK)(d5:List wE)(d6 d7 d8:Int)(d9:QK)(x:List wE)(z A B C:QK)(D E i1 i2 i3 i4 i5:Int)(i6:QJ)(O:QK):Option (Bool) :=
 ((eF).bind fun r2 =>
 (if(!r2)=true then some false
 else(if(decide ((O.length:Int) > 200))=true then some true
 else((dA V X Y Z d5 d6 d7 d8 d9 x z A B C D E).bind fun j =>
 ((jX j.1 j.2.1 j.2.2.1 j.2.2.2.1 j.2.2.2.2.1 j.2.2.2.2.2.1 j.2.2.2.2.2.2.1 j.2.2.2.2.2.2.2.1 j.2.2.2.2.2.2.2.2).bind fun(I,r8) =>
 (if(r8.1 != 0)=true then some I.isNone
 else((dW O).bind fun p =>
 ((dH i1 i2 i3 i4 i5 i6).bind fun e =>
 ((cK I p e.1 e.2.1 0 e.2.2.2.1 e.2.2.2.2.1 e.2.2.2.2.2).bind fun(q,J) =>
 ((cK I p e.1 e.2.1 1 e.2.2.2.1 e.2.2.2.2.1 e.2.2.2.2.2).bind fun(u,L) =>
 ((cD q.1 q.2).bind fun f =>
 ((cD u.1 u.2).bind fun v =>
 (((if(J != 0)=true then some (true)
 else(if(L != 0)=true then some (true)
 else(if q.2=true then some (true)
 else(if((f.length:Int) != (v.length:Int))=true then some (true)
 else some (((f.length:Int) == 0))))))).bind fun v1=>(if v1=true then some false
 else((iter (bP f v) (0:Int)).bind fun(M:((Unit)⊕(Bool)))=>match M with
 | .inl _=>(if 0≤(i64.wrap ((f.length:Int) - 1))∧(i64.wrap ((f.length:Int) - 1))<(f.length:Int)then some ((f.getD ((i64.wrap ((f.length:Int) - 1)).toNat) 0) == (p.length:Int))else none)
 | .inr (N)=>some N)))))))))))))))
theorem mf(J L A B C D E:Bool){d1 d2 d3:Int}{d4:QK}{d5:List wE}{d6 d7 d8:Int}{d9:QK}{M:List wE}{N O V X:QK}{Y Z i1 i2 i3 i4 i5:Int}{i6:QJ}{x1:QK}{a1:Bool}(h:cZ d1 d2 d3 d4 d5 d6 d7 d8 d9 M N O V X Y Z i1 i2 i3 i4 i5 i6 x1=some a1):
  Pure Tryz.prog 8 [.agg [.u8 d1,.u8 d2,.u8 d3,.p J (.slice (.int .u8)) d4,.p false (.slice (.prod (.int .u8) Fk)) d5,.u8 d6,.u8 d7,.u8 d8,.p L (.slice (.int .u8)) d9,.p false (.slice (.prod (.int .u8) Fk)) M,.p A (.slice (.int .u8)) N,.p B (.slice (.int .u8)) O,.p C (.slice (.int .u8)) V,.p D (.slice (.int .u8)) X,.u8 Y,.u8 Z],.agg [.u8 i1,.u8 i2,.u8 i3,.p false (.int .u16) i4,.p false (.int .u16) i5,.p false .flt i6],.p E (.slice (.int .u8)) x1] (aK (bf false [⟨.bool,a1⟩])):=by
 refine PB Tryz.func8 (fun Bw w0=>?_);unfold cZ at h;refine G (ag ?_);obtain⟨r2,q2,h⟩:=aj h;refine GP 0 (o9 q2) (aC h (fun B1 h=>?_) (fun B1 h=>?_))
 ·refine G (av (ai ?_));obtain rfl:=sI h;exact RI [.bool]
 refine ae (ab (ag (G (aC h (fun B2 h=>?_) (fun B2 h=>?_)))))
 ·refine G (av (ai ?_));obtain rfl:=sI h;exact RI [.bool]
 refine ae (ab ?_);obtain⟨r6,q5,h⟩:=aj h;obtain⟨⟨r7,r8⟩,q6,h⟩:=aj h;have j:=(oX J L A B C D q5);have q:=(tR false false false false q6);refine GN ⟨[],[(1,(oP j)),(2,(oP q))]⟩ [(1,1,oc j),(2,2,oc q)] (ag (G (aC h (fun B3 h=>?_) (fun B3 h=>?_))))
 ·refine GN a0 [(1,1,⟨∃e,Tryz.prog.underlying 29=some (.pointer e),⟨_,rfl⟩⟩)] (av (ai ?_));obtain rfl:=sI h;exact RI [.bool]
 refine ae (ab ?_);obtain⟨I,q9,h⟩:=aj h;obtain⟨b3,a4,h⟩:=aj h;have j:=(nY E q9);have q:=(mV a4);refine GD ⟨[],[(1,(oP j)),(3,(oP q))]⟩ [(1,1,oc j),(3,3,oc q)] (G ?_);obtain⟨⟨b4,b5⟩,a5,h⟩:=aj h;refine GP 3 (ju false a5) (G ?_);obtain⟨⟨b6,b7⟩,a6,h⟩:=aj h;refine GP 3 (ju false a6) (G ?_);obtain⟨x,a7,h⟩:=aj h;obtain⟨a2,a8,h⟩:=aj h;have j:=(gk false a7);have q:=(gk false a8);refine GD ⟨[],[(2,(oP j)),(5,(oP q))]⟩ [(2,2,oc j),(5,5,oc q)] (ag (ag (bA h (fun v1=>aA [(9,.p false (.slice (.int .u8)) I),(16,.p false (.slice (.int .i64)) x),(17,.p false (.slice (.int .i64)) a2),(82,.bo v1)] [] 0) (fun v1 h=>?_) (fun v1 h=>?_))))
 ·rcases aM h with⟨f,h⟩ | ⟨f,h⟩
  ·exact bB ⟨[(2,true),(5,true)],[]⟩ [(3,5,oc f)] (eN h (gg [] []))
  rcases aM h with⟨u,h⟩ | ⟨u,h⟩
  ·exact bB ⟨[(2,false),(5,false),(6,true),(9,true)],[]⟩ [(3,4,an f),(5,5,oc f),(7,9,oc u)] (eN h (gg [] []))
  rcases aM h with⟨v,h⟩ | ⟨v,h⟩
  ·exact bB ⟨[(2,false),(5,false),(6,false),(9,false),(10,true),(16,true)],[]⟩ [(3,4,an f),(5,5,oc f),(7,8,an u),(9,9,oc u),(11,16,oc v)] (eN h (gg [] []))
  rcases aM h with⟨z,h⟩ | ⟨z,h⟩
  ·exact bB ⟨[(2,false),(5,false),(6,false),(9,false),(10,false),(16,false),(17,true),(21,true)],[]⟩ [(3,4,an f),(5,5,oc f),(7,8,an u),(9,9,oc u),(11,15,an v),(16,16,oc v),(18,21,oc z)] (eN h (gg [] []))
  exact bB ⟨[(2,false),(5,false),(6,false),(9,false),(10,false),(16,false),(17,false),(21,false)],[]⟩ [(3,4,an f),(5,5,oc f),(7,8,an u),(9,9,oc u),(11,15,an v),(16,16,oc v),(18,20,an z),(21,21,oc z)] (eN h (gg [] []))
 refine ab (aC h (fun a9 h=>?_) (fun a9 h=>?_))
 ·refine G (av (ai ?_));obtain rfl:=sI h;exact RI [.bool]
 refine ae (ab (ag (G (ak (kr h (fun v3=>aA [(9,.p false (.slice (.int .u8)) I),(16,.p false (.slice (.int .i64)) x),(17,.p false (.slice (.int .i64)) a2),(84,.i64 (x.length:Int)),(85,.i64 v3)] [] 0) (dx (fg Tryz.f8.ntmps 0 (fun _=>aA [(9,.p false (.slice (.int .u8)) I),(16,.p false (.slice (.int .i64)) x)] [] 0)) (gm tb Tryz.f8.results.toList (fun a3=>[⟨.bool,a3⟩]))) (gg [] []) (fun v3 o h=>?_) (fun aa h e σ' hq=>?_))))))
 ·unfold bP at h;refine G (ag (aC h (fun ac h=>?_) (fun ac h=>?_)))
  ·refine ae (ab (ag (ak (G ?_))));obtain⟨ad,ax,h⟩:=g2 h;refine GD a0 [(2,2,oc ad),(6,6,oc ax)] (aC h (fun b1 h=>?_) (fun b1 h=>?_))
   ·refine G (av ?_);obtain rfl:=sI h;refine az (ai (bL (aL ?_)));exact bK (RI [.bool])
   refine ae (ay (ab (Ge ?_)));exact eB h (gg [] [])
  refine au (aP ?_);obtain rfl:=sI h;refine dK (bk ?_);exact bT (gg [] [])
 rcases aa with _ | a3
 ·obtain⟨rfl,b2⟩:=hq;refine cJ ?_ b2;refine aw (ab (GC 4 h (fun h=>av ?_)));obtain rfl:=sI h;exact RI [.bool]
 obtain⟨rfl,hr⟩:=hq;refine az (ai ?_);obtain rfl:=sI h;exact hr
end
end Go.Proofs.YtflahpmlcfhpcaaGreatDoor.T
namespace Go.Proofs.YtflahpmlcfhpcaaGreatDoor.T
open Go Go.Tv Go.Proofs
open Go.IntKind (i64)
noncomputable section
theorem yb{l:XQ}(h:l.length≤100000)(b:Bool):cD l b=some (tK l):=by
 have q:∀k:XQ,(tK k).length≤k.length:=fun k=>by unfold tK;rw[List.length_map];exact List.length_filter_le _ _
 have u:iter (bI l) (tK (l.take 0),((0:Nat):Int))=some (tK l):=by
  refine iq (fun k=>(tK (l.take k),((k:Nat):Int))) l.length (fun k hk=>?_) ?_
  ·have f:(k:Int)<(l.length:Int):=by omega
   have p:0≤(k:Int):=by omega
   have v:=q (l.take k);rw[List.length_take]at v;rw[nb (d:=c0) hk,Dd,lC];by_cases e:(l.getD k c0).2.2.2=2
   ·have j:((l.getD k c0).2.2.2 == 2)=true:=by rw[e];rfl
    simp only[bI,f,p,j,and_self,decide_true,if_true,Int.toNat_natCast,List.length_singleton];rw[if_pos (by omega)];simp only[Option.bind_some,bH (show k≤9000000000000000000 by omega),e,if_true];rfl
   ·have j:((l.getD k c0).2.2.2 == 2)=false:=by rw[beq_eq_false_iff_ne];exact e
    simp only[bI,f,p,j,and_self,decide_true,if_true,Int.toNat_natCast,Bool.false_eq_true,if_false,Option.bind_some,bH (show k≤9000000000000000000 by omega),e];simp[tK]
  ·have f:¬((l.length:Int)<(l.length:Int)):=by omega
   simp only[bI,f,decide_false,Bool.false_eq_true,if_false,List.take_length]
 exact congrArg (fun x=>Option.bind x fun o=>some o) u
theorem zJ(e:XQ)(n:Int):∀l:XQ,tK (l.map (xh e n))=(tK l).map fun t=>Eh e n t.toNat
 | []=>rfl
 | x::l=>by
  rw[List.map_cons,lC,lC,zJ e n l];by_cases h:x.2.2.2=2
  ·rw[if_pos h,if_pos (show(xh e n x).2.2.2=2 from h)];rfl
  ·rw[if_neg h,if_neg (show ¬(xh e n x).2.2.2=2 from h)]
theorem Fv{n:Int}{p:XQ×QK}(h:PM n p):∃M:QK,M.length≤p.1.length∧∀c,tK (xL p.1 n (LF p.1 p.2 c).1)=M++[n]:=by
 by_cases u:0<p.1.length
 ·have hl:=h.IN.len;have e:dS p.2 p.2.length=dS p.2 p.1.length++[(p.1.length:Int)]:=by rw[hl];simp only[dS];rw[if_pos h.IN.last]
  refine⟨(dS p.2 p.1.length).map fun t=>Eh p.1 n t.toNat,by rw[List.length_map];exact nL _ _,fun c=>?_⟩;have f:=JS h u c;rw[e]at f;have j:(LF p.1 p.2 c).1≠[]:=fun q=>by rw[q]at f;have:=congrArg List.length f;simp[tK]at this
  unfold xL;rw[if_neg j,zJ,f,List.map_append];simp only[List.map_cons,List.map_nil,Int.toNat_natCast,HS]
 ·refine⟨[],by simp,fun c=>?_⟩;have hc:=h.I1;have hz:p.1=[]:=List.length_eq_zero_iff.1 (by omega);rw[hz]at hc;simp only[se]at hc;have:=(Dg h c).2;have hl:(LF p.1 p.2 c).1=[]:=List.length_eq_zero_iff.1 (by omega);unfold xL;rw[if_pos hl,←hc];rfl
theorem rm{f:XQ}{o:QK}{c:Wy}(h:c.2.2.1≠1):∀(l:QK) (e:Nat),(gv f o c e l).2=false
 | [],_=>rfl
 | t::r,e=>by
  simp only[gv,rm h r,Bool.or_false];unfold gx;rw[if_neg h]
theorem yz{d1 d2 d3:Int}{d4:QK}{d5:List wE}{d6 d7 d8:Int}{d9:QK}{u:List wE}{v x z A:QK}{B C L N X O V:Int}(D:QJ)(hd:Ho (dA d1 d2 d3 d4 d5 d6 d7 d8 d9 u v x z A B C) (fun _=>True))
  (h1:0≤L∧L≤255) (h2:0≤N∧N≤255) (h3:0≤X∧X≤255) (h4:0≤O∧O≤65535) (h5:0≤V∧V≤65535) {E:QK} (hx:∀i,0≤E.getD i 0∧E.getD i 0≤255) :
  cZ d1 d2 d3 d4 d5 d6 d7 d8 d9 u v x z A B C L N X O V D E=some true:=by
 unfold cZ;rw[H4];simp only[Option.bind_some,Bool.not_true,Bool.false_eq_true,if_false];split
 ·rfl
 rename_i I;have Y:E.length≤200:=by simp at I;omega
 obtain⟨d,e,_⟩:=hd;rw[e];simp only[Option.bind_some];obtain⟨⟨b,k⟩,eb,J⟩:=Cd d.1 d.2.1 d.2.2.1 d.2.2.2.1 d.2.2.2.2.1 d.2.2.2.2.2.1 d.2.2.2.2.2.2.1 d.2.2.2.2.2.2.2.1 d.2.2.2.2.2.2.2.2;rw[eb];simp only[Option.bind_some];by_cases hk:(k.1 != 0)=true
 ·rw[if_pos hk];rcases J with⟨q,-⟩ | ⟨-,q⟩
  ·exact absurd (show k.1=0 from q) (by simpa using hk)
  ·simp only at q;rw[q];rfl
 rw[if_neg hk];have rb:RB b:=(J.resolve_right fun h=>by simp at hk;exact h.1 hk).2;obtain⟨t,et,tb,tl⟩:=Gb (l:=E) (by omega) hx;obtain⟨ec,hc⟩:=EG D h1 h2 h3 h4 h5;obtain⟨p,ep,j,f⟩:=LU rb tb (by omega);have l0:=(f _ (hc 0 (by decide) (by decide) D)).2;have l1:=(f _ (hc 1 (by decide) (by decide) D)).2;simp only at l0 l1;rw[et,ec];simp only[Option.bind_some,J3];rw[l0,l1];simp only[Option.bind_some];obtain⟨M,a3,hM⟩:=Fv j;have a4:=j.len;have hR:∀c,(xL p.1 (t.length:Int) (LF p.1 p.2 c).1).length≤100000:=fun c=>by
  have:=(Dg j c).2;unfold xL;split
  ·simp
  ·rw[List.length_map];omega
 rw[yb (hR _),yb (hR _),hM,hM];have hf:(LF p.1 p.2 (1+L,1+N % 64,0,O,V,D)).2=false:=rm (by show(0:Int)≠1;decide) _ _;have hL:iter (bP (M++[(t.length:Int)]) (M++[(t.length:Int)])) ((0:Nat):Int)=some (.inl ()):=by
  refine iq (fun k=>((k:Nat):Int)) (M++[(t.length:Int)]).length (fun k hk=>?_) ?_
  ·have Z:(k:Int)<((M++[(t.length:Int)]).length:Int):=by omega
   have q2:0≤(k:Int):=by omega
   have q3:k≤9000000000000000000:=by rw[List.length_append,List.length_singleton]at hk;omega
   simp only[bP,Z,q2,and_self,decide_true,if_true,bne_self_eq_false,Bool.false_eq_true,if_false,bH q3]
  ·have Z:¬(((M++[(t.length:Int)]).length:Int)<((M++[(t.length:Int)]).length:Int)):=Int.lt_irrefl _;simp only[bP,Z,decide_false,Bool.false_eq_true,if_false]
 have a1:iter (bP (M++[(t.length:Int)]) (M++[(t.length:Int)])) (0:Int)=some (.inl ()):=hL;have a2:(M++[(t.length:Int)]).length=M.length+1:=by simp
 have hz:(((M.length+1:Nat):Int) == 0)=false:=by rw[beq_eq_false_iff_ne];omega
 have hw:i64.wrap (((M.length+1:Nat):Int) - 1)=(M.length:Int):=jH (by omega);simp only[hf,a1,a2,hz,hw,bne_self_eq_false,Bool.false_eq_true,if_false,Option.bind_some,Int.toNat_natCast,jI,BEq.rfl];rw[if_pos (by omega)]
abbrev gF:List Ty:=[Ll,(.prod (.int .u8) (.prod (.int .u8) (.prod (.int .u8) (.prod (.int .u16) (.prod (.int .u16) .flt))))),(.slice (.int .u8))]
theorem wP(x:Kf gF)(e:Lh gF x):cZ x.1.1.1 x.1.1.2.1 x.1.1.2.2.1 x.1.1.2.2.2.1 x.1.1.2.2.2.2 x.1.2.1.1 x.1.2.1.2.1 x.1.2.1.2.2.1 x.1.2.1.2.2.2.1 x.1.2.1.2.2.2.2 x.1.2.2.1 x.1.2.2.2.1 x.1.2.2.2.2.1 x.1.2.2.2.2.2.1 x.1.2.2.2.2.2.2.1 x.1.2.2.2.2.2.2.2 x.2.1.1 x.2.1.2.1 x.2.1.2.2.1 x.2.1.2.2.2.1 x.2.1.2.2.2.2.1 x.2.1.2.2.2.2.2 x.2.2.1=some true :=
 yz _ (Ij e.1) e.2.1.1 e.2.1.2.1 e.2.1.2.2.1 e.2.1.2.2.2.1 e.2.1.2.2.2.2.1 (Ar e.2.2.1)
end
end Go.Proofs.YtflahpmlcfhpcaaGreatDoor.T
