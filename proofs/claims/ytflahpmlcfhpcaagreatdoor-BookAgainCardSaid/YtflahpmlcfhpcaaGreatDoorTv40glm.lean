import Derived.Test.YtflahpmlcfhpcaaGreatDoorTv40gim
import Derived.Test.YtflahpmlcfhpcaaGreatDoorTv40gkm
import Derived.Test.YtflahpmlcfhpcaaGreatDoorTv40um
import Derived.Test.YtflahpmlcfhpcaaGreatDoorTv40bm
import Derived.Test.YtflahpmlcfhpcaaGreatDoorTvT20eBookAgain
namespace Go.Proofs.YtflahpmlcfhpcaaGreatDoor.T
open Go Go.Tv Go.Proofs
open Go.IntKind (i64)
noncomputable section
abbrev Ls:Ty:= .prod (.int .u8) (.prod (.int .u8) (.prod (.int .u8) (.prod (.slice (.int .u8)) (.slice (.prod (.int .u8) (.prod (.slice (.int .u8)) (.slice (.int .u8))))))))
abbrev Lt:Ty:= .prod Ls (.prod Ls (.prod (.slice (.int .u8)) (.prod (.slice (.int .u8)) (.prod (.slice (.int .u8)) (.prod (.slice (.int .u8)) (.prod (.int .u8) (.int .u8)))))))
theorem vB{l:QK}(h:Wf (.slice (.int .u8)) l):∀i,0≤l.getD i 0∧l.getD i 0≤255:=fun i=>by
 by_cases hi:i<l.length
 ·have:=h.2 i hi;rw[kC hi];exact this
 ·rw[List.getD_eq_getElem?_getD,List.getElem?_eq_none (by omega)];simp
theorem Dh{x:Ls.den}(h:Wf Ls x):Lv x.1 x.2.2.2.2:=by
 refine⟨h.1.1,fun i=>?_⟩;by_cases hi:i<x.2.2.2.2.length
 ·have:=h.2.2.2.2.2 i hi;rw[kC hi];exact this.1.1
 ·rw[List.getD_eq_getElem?_getD,List.getElem?_eq_none (by omega)];exact Int.le_refl _
theorem IE{x:Lt.den}(h:Wf Lt x):Ho (dM x.1.1 x.1.2.1 x.1.2.2.1 x.1.2.2.2.1 x.1.2.2.2.2 x.2.1.1 x.2.1.2.1 x.2.1.2.2.1 x.2.1.2.2.2.1 x.2.1.2.2.2.2 x.2.2.1 x.2.2.2.1 x.2.2.2.2.1 x.2.2.2.2.2.1 x.2.2.2.2.2.2.1 x.2.2.2.2.2.2.2) (fun _=>True) :=
 H0 (Dh h.1) (Dh h.2.1) (vB h.2.2.2.2.2.1)
def Ku:Nat→XZ→Nat→Prop
 | a,[],b=>a=b
 | a,x::r,b=>∃m:Nat,x.1=(a:Int)∧x.2.1=(m:Int)∧a≤m∧Ku m r b
theorem Ku.get:∀ {a b:Nat} {l:XZ},Ku a l b→∀i,i<l.length→∃u v:Nat,(l.getD i c0).1=(u:Int)∧(l.getD i c0).2.1=(v:Int)∧u≤v∧(i=0→u=a)∧(∀j,i=j+1→(l.getD j c0).2.1=(u:Int))∧(i+1=l.length→v=b)
 | a,b,[],_,i,hi=>absurd hi (by simp)
 | a,b,x::r,⟨m,z,e,A,f⟩,0,hi=>by
  refine⟨a,m,z,e,A,fun _=>rfl,fun j B=>by omega,fun q=>?_⟩;have:r=[]:=List.eq_nil_of_length_eq_zero (by simp only[List.length_cons]at q;omega);subst this;exact f
 | a,b,x::r,⟨m,z,e,A,f⟩,i+1,hi=>by
  obtain⟨u,v,C,D,E,I,J,L⟩:=f.get i (by simpa using hi);refine⟨u,v,by simpa using C,by simpa using D,E,fun h=>by omega,fun j B=>?_,fun q=>L (by simpa using q)⟩;obtain rfl:i=j:=by omega
  cases i with
  | zero=>rw[I rfl];exact e
  | succ k=>have:=J k rfl;simpa using this
theorem Ku.le:∀ {a b:Nat} {l:XZ},Ku a l b→a≤b
 | _,_,[],h=>Nat.le_of_eq h
 | _,_,_::_,⟨_,_,_,e,f⟩=>Nat.le_trans e f.le
theorem sO.Mp:∀ {a n:Int} {s:XZ},sO a s n→a≤n∧∀i,i<s.length→a≤(s.getD i c0).1∧1≤(s.getD i c0).2.1∧(s.getD i c0).1+(s.getD i c0).2.1≤n
 | a,n,[],h=>⟨by simp only[sO]at h;omega,fun i hi=>absurd hi (by simp)⟩
 | a,n,x::r,⟨j,p,_,_,_,_,e⟩=>by
  obtain⟨q,f⟩:=e.Mp;refine⟨by omega,fun i hi=>?_⟩;cases i with
  | zero=>simp only[List.getD_cons_zero];omega
  | succ i =>
   have:=f i (by simpa using hi);simp only[List.getD_cons_succ];omega
section
variable{d:Dt}{n:Nat}(hi:∀k,0<k→k<n→vD d k≠2)(hn:vD d n=2)
include hi hn
end
section
variable{d:Dt}{n:Nat}{c:Wy}(hc:∀a k,a+k≤n→0≤gX d c.2.1 a k∧gX d c.2.1 a k≤1000000)
include hc
end
def HZ(e:XZ)(n:Int)(i:Nat):Int:=if i<e.length then(e.getD i c0).1 else n
theorem sO.next{n:Int}:∀ {a:Int} {f:XZ} {i:Nat},sO a f n→i<f.length→(f.getD i c0).1+(f.getD i c0).2.1=HZ f n (i+1)
 | a,[],i,_,h=>absurd h (by simp)
 | a,[x],0,h,_=>by
  obtain⟨p,-,-,-,-,-,j⟩:=h;simp only[sO]at j;simp only[HZ,List.getD_cons_zero,List.length_singleton,Nat.zero_add,Nat.lt_irrefl,if_false];omega
 | a,x::y::r,0,h,_=>by
  obtain⟨p,-,-,-,-,-,j,-⟩:=h;simp only[HZ,List.getD_cons_zero,List.length_cons,List.getD_cons_succ,Nat.zero_add];rw[if_pos (by omega)];omega
 | a,x::r,i+1,h,hi=>by
  have:=sO.next (i:=i) h.2.2.2.2.2.2 (by simpa using hi);unfold HZ at this ⊢;simp only[List.getD_cons_succ,List.length_cons];rw[this];by_cases e:i+1<r.length
  ·rw[if_pos e,if_pos (by omega)]
  ·rw[if_neg e,if_neg (by omega)]
def CT(e:XZ)(n:Int)(x:cR):cR:=(HZ e n x.1.toNat,HZ e n x.2.1.toNat,x.2.2)
theorem Iy{e:XZ}{n:Int}(hc:sO 0 e n)(q:e.length≤4096)(hn:n≤1000000){l:XZ}(hl:l.length≤4096)(u:∀k,k<l.length→0≤(l.getD k c0).1∧(l.getD k c0).1<(l.getD k c0).2.1∧(l.getD k c0).2.1≤(e.length:Int))(o:QK):
  lv e o l=some (if l=[]then[(0,0,0,2)]else l.map (CT e n)):=by
 unfold lv;by_cases f:l=[]
 ·subst f;rfl
 rw[if_neg f,if_neg (by
  have:=List.length_pos_iff.2 f;simp only[beq_iff_eq];omega)]
 have v:iter (ie e l) ((l.take 0).map (CT e n),((0:Nat):Int))=some (l.map (CT e n)):=by
  refine gB (fun k=>((l.take k).map (CT e n),(k:Int))) l.length (fun k hk=>?_) ?_
  ·obtain⟨a0,I,J⟩:=u k hk;have j:(k:Int)<(l.length:Int):=by omega
   have z:0≤(k:Int):=by omega
   have A:i64.wrap ((l.getD k c0).2.1 - 1)=(l.getD k c0).2.1 - 1:=wrap_i64 (by omega) (by omega);have B:0≤(l.getD k c0).2.1 - 1∧(l.getD k c0).2.1 - 1<(e.length:Int):=by omega
   have C:(l.getD k c0).1<(e.length:Int):=by omega
   have p:=hc.next (i:=((l.getD k c0).2.1 - 1).toNat) (by omega);rw[show((l.getD k c0).2.1 - 1).toNat+1=(l.getD k c0).2.1.toNat by omega]at p;have L:=hc.Mp.2 ((l.getD k c0).2.1 - 1).toNat (by omega);have D:i64.wrap ((e.getD ((l.getD k c0).2.1 - 1).toNat c0).1+(e.getD ((l.getD k c0).2.1 - 1).toNat c0).2.1)=HZ e n (l.getD k c0).2.1.toNat:=by rw[wrap_i64 (by omega) (by omega),p]
   have E:(e.getD (l.getD k c0).1.toNat c0).1=HZ e n (l.getD k c0).1.toNat:=by unfold HZ;rw[if_pos (by omega)]
   have g:∀x:cR,(((l.take k).map (CT e n)).length+([x]:XZ).length)*32≤140737488355328∧((l.take k).map (CT e n)).length+([x]:XZ).length≤9223372036854775807:=fun x=>by simp;omega
   simp only[ie,j,z,A,B,C,a0,D,E,g,and_self,decide_true,if_true,Int.toNat_natCast,bE (show k≤9000000000000000000 by omega)];rw[p0 (d:=c0) hk,List.map_append];rfl
  ·have j:¬((l.length:Int)<(l.length:Int)):=by omega
   simp only[ie,j,decide_false,Bool.false_eq_true,if_false,List.take_length]
 exact congrArg (fun x=>Option.bind x fun o=>some o) v
def JZ(e f j p q:Int)(u:QJ):Wy:=(1+e,1+f % 64,j % 2,p,q,u)
def Ln(c:Wy):Prop:=iy c.1 c.2.1 c.2.2.1 c.2.2.2.1 c.2.2.2.2.1 c.2.2.2.2.2=some true
theorem J1{c:Wy}(h:(1≤c.1∧c.1≤1048576)∧(1≤c.2.1∧c.2.1≤64)∧c.2.2.1≤1∧(0≤c.2.2.2.1∧c.2.2.2.1≤1048576)∧0≤c.2.2.2.2.1∧c.2.2.2.2.1≤1048576):Ln c:=by
 unfold Ln iy;rw[if_pos (by rw[decide_eq_true_eq];omega),if_pos (by rw[decide_eq_true_eq];omega),if_pos (by rw[decide_eq_true_eq];omega),if_pos (by rw[decide_eq_true_eq];omega),if_pos (by rw[decide_eq_true_eq];omega),if_pos (by rw[decide_eq_true_eq];omega),if_pos (by rw[decide_eq_true_eq];omega),if_pos (by rw[decide_eq_true_eq];omega)];rw[Option.bind_some,decide_eq_true (by omega)]
theorem ET{f e q j p:Int}(u:QJ)(O:0≤f∧f≤255)(v:0≤e∧e≤255)(x:0≤q∧q≤255)(z:0≤j∧j≤65535)(A:0≤p∧p≤65535):
  dR f e q j p u=some (JZ f e q j p u)∧∀m:Int,0≤m→m≤1→∀l:QJ,Ln (1+f,1+e % 64,m,j,p,l):=by
 constructor
 ·have B:i64.wrap f=f:=wrap_i64 (by omega) (by omega);have C:i64.wrap (1+f)=1+f:=wrap_i64 (by omega) (by omega);have D:Int.tmod e 64=e % 64:=Int.tmod_eq_emod_of_nonneg v.1;have E:i64.wrap (e % 64)=e % 64:=wrap_i64 (by omega) (by omega);have I:i64.wrap (1+e % 64)=1+e % 64:=wrap_i64 (by omega) (by omega);have J:Int.tmod q 2=q % 2:=Int.tmod_eq_emod_of_nonneg x.1;have L:i64.wrap j=j:=wrap_i64 (by omega) (by omega);have M:i64.wrap p=p:=wrap_i64 (by omega) (by omega);unfold dR JZ;rw[if_pos (by decide),if_pos (by decide),B,C,D,E,I,J,L,M]
 ·intro m V N l;exact J1 ⟨⟨by simp only;omega,by simp only;omega⟩,⟨by simp only;omega,by simp only;omega⟩,N,⟨z.1,by simp only;omega⟩,A.1,by simp only;omega⟩
theorem Hj{n:Int}{p:XZ×QK}(h:PM n p)(c:Wy):(∀x∈(LF p.1 p.2 c).1,Rg p.1.length x)∧(LF p.1 p.2 c).1.length≤p.1.length:=by
 have hl:=h.KW.len;have e:HF p.2 p.1.length 0 (gh p.2 p.2.length):=by rw[vo];exact qm _ _ _ (by omega)
 obtain⟨f,j⟩:=xF c e;exact⟨f,by unfold LF;omega⟩
theorem J6{n:Int}{p:XZ×QK}(h:PM n p)(c:Wy)(k:Nat)(hk:k<(LF p.1 p.2 c).1.length):0≤((LF p.1 p.2 c).1.getD k c0).1∧((LF p.1 p.2 c).1.getD k c0).1<((LF p.1 p.2 c).1.getD k c0).2.1∧((LF p.1 p.2 c).1.getD k c0).2.1≤(p.1.length:Int):=by
 obtain⟨a,b,e,f,j,q⟩:=(Hj h c).1 ((LF p.1 p.2 c).1.getD k c0) (xS hk);omega
def Ha(e:XZ)(n:Int)(l:XZ):XZ:=if l=[]then[(0,0,0,2)]else l.map (CT e n)
theorem KY{b:Option Z1}(hb:RB b){x:QK}(v:Bytes x)(z:x.length≤4096):∃p,aZ b x=some (.inr (0,p))∧PM (x.length:Int) p∧∀c:Wy,Ln c →
  gu p.1 p.2 c.1 c.2.1 c.2.2.1 c.2.2.2.1 c.2.2.2.2.1 c.2.2.2.2.2=some (LF p.1 p.2 c)∧cy b x c.1 c.2.1 c.2.2.1 c.2.2.2.1 c.2.2.2.2.1 c.2.2.2.2.2=some (.inr (0,Ha p.1 (x.length:Int) (LF p.1 p.2 c).1,(LF p.1 p.2 c).2)):=by
 obtain⟨p,q,f⟩:=hb.para x v z;refine⟨p,q,f,fun c hc=>?_⟩;have j:=f.MO (by omega);have e:=wO j f.KW f.zero (Gs hc);have u:gu p.1 p.2 c.1 c.2.1 c.2.2.1 c.2.2.2.1 c.2.2.2.2.1 c.2.2.2.2.2=some (LF p.1 p.2 c):=e;refine⟨u,?_⟩;have hl:=j.1;have A:=Iy f.Jk hl (by omega) (l:=(LF p.1 p.2 c).1) (by have:=(Hj f c).2;omega) (J6 f c) p.2;unfold cy;rw[hc,Option.bind_some,if_neg (by decide),q,Option.bind_some];simp only[bne_self_eq_false,Bool.false_eq_true,if_false,u,Option.bind_some,A];rfl
theorem BY:fk=some ([],jQ,mb,[],Gx,Gj,[],2,2):=rfl
theorem EB{b e:Option Z1}(h:∀x,aZ b x=aZ e x)(x:QK)(f j p q u:Int)(v:QJ):cy b x f j p q u v=cy e x f j p q u v:=by
 unfold cy;rw[h]
theorem H9:fc=some true:=by
 obtain⟨b,e,hb⟩:=JJ;unfold fc;rw[BY];simp only[Option.bind,e,EB hb];kernel_rfl
theorem Ef{l:XZ}(h:l.length≤100000)(b:Bool):cI l b l b=some true:=by
 have j:iter (bK l l) ((0:Nat):Int)=some (.inl ()):=by
  refine gB (fun k=>((k:Nat):Int)) l.length (fun k hk=>?_) ?_
  ·have e:(k:Int)<(l.length:Int):=by omega
   have p:0≤(k:Int):=by omega
   simp only[bK,e,p,and_self,decide_true,if_true,BEq.rfl,Bool.and_self,Bool.not_true,Bool.false_eq_true,if_false,bE (show k≤9000000000000000000 by omega)]
  ·have e:¬((l.length:Int)<(l.length:Int)):=Int.lt_irrefl _;simp only[bK,e,decide_false,Bool.false_eq_true,if_false]
 have f:iter (bK l l) (0:Int)=some (.inl ()):=j;unfold cI;rw[f];simp
theorem BO{l:XZ}{o:QK}(h:l.length≤100000)(v:o.length≤100000):dq l o l o=some true:=by
 have q:iter (bQ l l) ((0:Nat):Int)=some (.inl ()):=by
  refine gB (fun k=>((k:Nat):Int)) l.length (fun k hk=>?_) ?_
  ·have e:(k:Int)<(l.length:Int):=by omega
   have f:0≤(k:Int):=by omega
   simp only[bQ,e,f,and_self,decide_true,if_true,BEq.rfl,Bool.and_self,Bool.not_true,Bool.false_eq_true,if_false,bE (show k≤9000000000000000000 by omega)]
  ·have e:¬((l.length:Int)<(l.length:Int)):=Int.lt_irrefl _;simp only[bQ,e,decide_false,Bool.false_eq_true,if_false]
 have u:iter (bS o o) ((0:Nat):Int)=some (.inl ()):=by
  refine gB (fun k=>((k:Nat):Int)) o.length (fun k hk=>?_) ?_
  ·have e:(k:Int)<(o.length:Int):=by omega
   have f:0≤(k:Int):=by omega
   simp only[bS,e,f,and_self,decide_true,if_true,bne_self_eq_false,Bool.false_eq_true,if_false,bE (show k≤9000000000000000000 by omega)]
  ·have e:¬((o.length:Int)<(o.length:Int)):=Int.lt_irrefl _;simp only[bS,e,decide_false,Bool.false_eq_true,if_false]
 have j:iter (bQ l l) (0:Int)=some (.inl ()):=q;have p:iter (bS o o) (0:Int)=some (.inl ()):=u;unfold dq;rw[j];simp[p]
theorem Ft{l:XZ}(h:l.length≤100000):iter (bT l) (l,0)=some ():=by
 obtain⟨r,e,-⟩:=cW (body:=bT l) (fun z:XZ×Int=>∃k:Nat,z.2=(k:Int)∧k≤l.length∧z.1.length=l.length) (fun z=>l.length - z.2.toNat) (fun _=>True) (by
  rintro⟨x,v⟩ ⟨k,rfl,hk,f⟩;simp only at f;by_cases j:k<l.length
  ·left
   have p:(k:Int)<(l.length:Int):=by omega
   have q:0≤(k:Int):=by omega
   refine⟨(x.set k (0,0,0,0),((k+1:Nat):Int)),?_,⟨k+1,rfl,by omega,by simp[f]⟩,by simp only[Int.toNat_natCast];omega⟩;simp only[bT,f,p,q,j,and_self,decide_true,if_true,Int.toNat_natCast,bE (show k≤9000000000000000000 by omega)]
  ·right
   obtain rfl:k=l.length:=by omega
   refine⟨(),?_,trivial⟩;have p:¬((l.length:Int)<(l.length:Int)):=Int.lt_irrefl _;simp only[bT,p,decide_false,Bool.false_eq_true,if_false]) (s:=(l,0)) ⟨0,rfl,by omega,rfl⟩
 exact e
theorem FA{l:QK}(h:l.length≤100000):iter (bR l) (l,0)=some ():=by
 obtain⟨r,e,-⟩:=cW (body:=bR l) (fun z:QK×Int=>∃k:Nat,z.2=(k:Int)∧k≤l.length∧z.1.length=l.length) (fun z=>l.length - z.2.toNat) (fun _=>True) (by
  rintro⟨x,v⟩ ⟨k,rfl,hk,f⟩;simp only at f;by_cases j:k<l.length
  ·left
   have p:(k:Int)<(l.length:Int):=by omega
   have q:0≤(k:Int):=by omega
   refine⟨(x.set k 4,((k+1:Nat):Int)),?_,⟨k+1,rfl,by omega,by simp[f]⟩,by simp only[Int.toNat_natCast];omega⟩;simp only[bR,f,p,q,j,and_self,decide_true,if_true,Int.toNat_natCast,bE (show k≤9000000000000000000 by omega)]
  ·right
   obtain rfl:k=l.length:=by omega
   refine⟨(),?_,trivial⟩;have p:¬((l.length:Int)<(l.length:Int)):=Int.lt_irrefl _;simp only[bR,p,decide_false,Bool.false_eq_true,if_false]) (s:=(l,0)) ⟨0,rfl,by omega,rfl⟩
 exact e
theorem yL{d1 d2 d3:Int}{d4:QK}{d5:List uC}{d6 d7 d8:Int}{d9:QK}{A:List uC}{B C D E:QK}{I J L M z N O:Int}(V:QJ)(hd:Ho (dM d1 d2 d3 d4 d5 d6 d7 d8 d9 A B C D E I J) (fun _=>True))
  (h1:0≤L∧L≤255) (h2:0≤M∧M≤255) (h3:0≤z∧z≤255) (h4:0≤N∧N≤65535) (h5:0≤O∧O≤65535) {f j:QK} (hx:∀i,0≤f.getD i 0∧f.getD i 0≤255) (hy:∀i,0≤j.getD i 0∧j.getD i 0≤255) :
  dg d1 d2 d3 d4 d5 d6 d7 d8 d9 A B C D E I J L M z N O V f j=some true:=by
 unfold dg;rw[H9];simp only[Option.bind_some,Bool.not_true,Bool.false_eq_true,if_false];by_cases X:f.length≤100∧j.length≤100
 case neg =>
  by_cases g:(f.length:Int) > 100
  ·rw[if_pos (by simpa using g)];rfl
  ·have g2:(j.length:Int) > 100:=by omega
   rw[if_neg (by simpa using g),decide_eq_true g2];rfl
 obtain⟨l1,l2⟩:=X;have g1:¬((f.length:Int) > 100):=by omega
 have g2:¬((j.length:Int) > 100):=by omega
 simp only[g1,g2,decide_false,Bool.false_eq_true,if_false,Option.bind_some];obtain⟨d,e,_⟩:=hd;rw[e];simp only[Option.bind_some];obtain⟨⟨b,k⟩,eb,Y⟩:=CY d.1 d.2.1 d.2.2.1 d.2.2.2.1 d.2.2.2.2.1 d.2.2.2.2.2.1 d.2.2.2.2.2.2.1 d.2.2.2.2.2.2.2.1 d.2.2.2.2.2.2.2.2;rw[eb];simp only[Option.bind_some];by_cases hk:(k.1 != 0)=true
 ·rw[if_pos hk];rcases Y with⟨q,-⟩ | ⟨-,q⟩
  ·exact absurd (show k.1=0 from q) (by simpa using hk)
  ·simp only at q;rw[q];rfl
 rw[if_neg hk];have rb:RB b:=(Y.resolve_right fun h=>by simp at hk;exact h.1 hk).2;obtain⟨t,et,tb,tl⟩:=zY (l:=f) (by omega) hx;obtain⟨u,eu,ub,ul⟩:=zY (l:=j) (by omega) hy;obtain⟨ec,hc⟩:=ET V h1 h2 h3 h4 h5;obtain⟨p,ep,v,Z⟩:=KY rb tb (by omega);obtain⟨p',-,-,x⟩:=KY rb ub (by omega);have a1:=hc (z % 2) (by omega) (by omega) V;have la:=(Z _ a1).2;have lb:=(x _ a1).2;simp only at la lb;have a2:=v.len;have a3:=v.KW.len;have hR:(Ha p.1 (t.length:Int) (LF p.1 p.2 (1+L,1+M % 64,z % 2,N,O,V)).1).length≤100000:=by
  have:=(Hj v (1+L,1+M % 64,z % 2,N,O,V)).2;unfold Ha;split
  ·simp
  ·rw[List.length_map];omega
 rw[et,ec];simp only[Option.bind_some,JZ,List.nil_append,List.length_nil,Nat.zero_add];rw[if_pos (by omega),la,ep];simp only[Option.bind_some];rw[if_pos (by omega),if_pos (by omega),if_pos (by omega),Ft hR,FA (by omega),eu];simp only[Option.bind_some];rw[lb];simp only[Option.bind_some,BEq.rfl,if_true];rw[Ef hR,BO (by omega) (by omega)];simp
abbrev gN:List Ty:=[Lt,(.prod (.int .u8) (.prod (.int .u8) (.prod (.int .u8) (.prod (.int .u16) (.prod (.int .u16) .flt))))),(.slice (.int .u8)),(.slice (.int .u8))]
theorem xh(x:Kf gN)(e:Lk gN x):dg x.1.1.1 x.1.1.2.1 x.1.1.2.2.1 x.1.1.2.2.2.1 x.1.1.2.2.2.2 x.1.2.1.1 x.1.2.1.2.1 x.1.2.1.2.2.1 x.1.2.1.2.2.2.1 x.1.2.1.2.2.2.2 x.1.2.2.1 x.1.2.2.2.1 x.1.2.2.2.2.1 x.1.2.2.2.2.2.1 x.1.2.2.2.2.2.2.1 x.1.2.2.2.2.2.2.2 x.2.1.1 x.2.1.2.1 x.2.1.2.2.1 x.2.1.2.2.2.1 x.2.1.2.2.2.2.1 x.2.1.2.2.2.2.2 x.2.2.1 x.2.2.2.1=some true :=
 yL _ (IE e.1) e.2.1.1 e.2.1.2.1 e.2.1.2.2.1 e.2.1.2.2.2.1 e.2.1.2.2.2.2.1 (vB e.2.2.1) (vB e.2.2.2.1)
end
end Go.Proofs.YtflahpmlcfhpcaaGreatDoor.T
