import Derived.Test.YtbedjpdfkmfplaaGreatDoorTv31bm
namespace Go.Proofs.YtbedjpdfkmfplaaGreatDoor.T
open Go Go.Tv Go.Proofs
open Go.IntKind (i64 u32)
noncomputable section
theorem bF{i:Nat}(h:i≤9000000000000000000):i64.wrap ((i:Int)+1)=((i+1:Nat):Int):=by rw[wrap_i64 (by omega) (by omega)];rfl
theorem lC{l:QK}{k:Nat}(hk:k<l.length)(v:Int)(j:Nat):(l.set k v).getD j 0=if k=j then v else l.getD j 0:=by
 simp only[List.getD_eq_getElem?_getD,List.getElem?_set];by_cases e:k=j
 ·rw[if_pos e,if_pos e,if_pos (by omega)];rfl
 ·rw[if_neg e,if_neg e]
theorem H6{l m:QK}(h:l.length=m.length)(e:∀i,i<l.length→l.getD i 0=m.getD i 0):l=m :=
 List.ext_getElem h fun i f j=>by
  have:=e i f;rwa [jY f,jY j]at this
theorem C5{w:QK}{i:Nat}(h:i<w.length):w.reverse.getD i 0=w.getD (w.length - 1 - i) 0:=by
 rw[jY (by simpa using h),jY (by omega),List.getElem_reverse]
theorem Fg{w:QK}(hl:w.length≤1000000):ck w=some w.reverse:=by
 have key:∃s,iter bP (w,0,i64.wrap ((w.length:Int) - 1))=some s∧s=w.reverse:=by
  rw[wrap_i64 (by omega) (by omega)];refine dB (I:=fun q=>∃i:Nat,q.2.1=(i:Int)∧q.2.2=(w.length:Int) - 1 - i∧i≤w.length∧2*i≤w.length+1∧q.1.length=w.length∧∀p,p<w.length→q.1.getD p 0=if p<i∨w.length≤p+i then w.getD (w.length - 1 - p) 0 else w.getD p 0)
   (μ:=fun q=>w.length - q.2.1.toNat) _ ?_ ⟨0,rfl,by simp,Nat.zero_le _,by omega,rfl,fun p e=>by rw[if_neg (by omega)]⟩
  rintro⟨s,O,V⟩ ⟨i,f,u,hi,X,A,e⟩;dsimp only at f u A e;subst f u;by_cases D:(i:Int)<(w.length:Int) - 1 - i
  ·obtain⟨j,E⟩:∃j:Nat,(w.length:Int) - 1 - i=(j:Int):=⟨w.length - 1 - i,by omega⟩;have J:j<w.length:=by omega
   have L:s.getD i 0=w.getD i 0:=by rw[e i (by omega),if_neg (by omega)]
   have M:s.getD j 0=w.getD j 0:=by rw[e j (by omega),if_neg (by omega)]
   refine .inl ⟨((s.set i (s.getD j 0)).set j (s.getD i 0),((i+1:Nat):Int),((w.length:Int) - 1 - ((i+1:Nat):Int))),?_,⟨i+1,rfl,rfl,by omega,by omega,by simp[A],fun p v=>?_⟩,by simp only[Int.toNat_natCast];omega⟩
   ·unfold bP;dsimp only;rw[E,if_pos (by simp;omega),if_pos (by omega),Int.toNat_natCast,Int.toNat_natCast,if_pos (by omega),if_pos (by omega),if_pos (by omega),if_pos (by omega),if_pos (by omega),if_pos (by rw[List.length_set];omega),if_pos (by rw[List.length_set];omega),bF (by omega),
     wrap_i64 (by omega) (by omega)]
    have:(j:Int) - 1=(w.length:Int) - 1 - ((i+1:Nat):Int):=by omega
    rw[this]
   ·dsimp only;rw[lC (by rw[List.length_set];omega),lC (by omega),L,M];by_cases B:j=p
    ·subst B;rw[if_pos rfl,if_pos (by omega)];congr 1;omega
    ·rw[if_neg B];by_cases C:i=p
     ·subst C;rw[if_pos rfl,if_pos (by omega)];congr 1;omega
     ·rw[if_neg C,e p v];by_cases z:p<i∨w.length≤p+i
      ·rw[if_pos z,if_pos (by omega)]
      ·rw[if_neg z,if_neg (by omega)]
  ·refine .inr ⟨s,?_,H6 (by simp[A]) fun p v=>?_⟩
   ·unfold bP;dsimp only;rw[if_neg (by simp;omega)]
   ·rw[e p (by omega),C5 (by omega)];by_cases z:p<i∨w.length≤p+i
    ·rw[if_pos z]
    ·rw[if_neg z];congr 1;omega
 obtain⟨s,N,rfl⟩:=key;unfold ck;rw[N];rfl
structure WA(a:QZ)(k:Nat):Prop where
 pos:0<a.length
 len:∀i,i<a.length→k≤(a.getD i []).length
 val:∀i c,i<a.length→c<k→0≤(a.getD i []).getD c 0∧(a.getD i []).getD c 0<(a.length:Int)
theorem wU{a:QZ}{k:Nat}(h:WA a k)(b:QK){w:QK}(Z:w.length≤4096)(C:∀i,i<w.length→0≤w.getD i 0∧w.getD i 0<(k:Int)):
  ∃r,nB a b w=some r∧r.length=w.length+1∧∀i,0≤r.getD i 0∧r.getD i 0<(a.length:Int):=by
 have D:=h.pos;obtain⟨r,E,I⟩:=dB (body:=ku a w) (fun s=>∃j st:Nat,s.2.2=(j:Int)∧s.2.1=(st:Int)∧j≤w.length∧st<a.length∧s.1.length=j+1∧∀i,0≤s.1.getD i 0∧s.1.getD i 0<(a.length:Int)) (fun s=>w.length - s.2.2.toNat)
  (fun r=>r.length=w.length+1∧∀i,0≤r.getD i 0∧r.getD i 0<(a.length:Int)) (by
  rintro⟨out,s2,v⟩ ⟨j,st,rfl,rfl,hj,f,e,q⟩;simp only at e q;by_cases u:j<w.length
  ·left
   obtain⟨J,c2⟩:=C j u;have B:=h.len st f;obtain⟨v1,L⟩:=h.val st (w.getD j 0).toNat f (by omega);have z:(j:Int)<(w.length:Int):=by omega
   have M:0≤(j:Int):=by omega
   have N:¬(w.getD j 0<0):=by omega
   have O:0≤(st:Int):=by omega
   have V:(st:Int)<(a.length:Int):=by omega
   have X:¬(w.getD j 0≥((a.getD st []).length:Int)):=by omega
   have Y:w.getD j 0<((a.getD st []).length:Int):=by omega
   refine⟨(out++[(a.getD st []).getD (w.getD j 0).toNat 0],(a.getD st []).getD (w.getD j 0).toNat 0,((j+1:Nat):Int)),?_,⟨j+1,((a.getD st []).getD (w.getD j 0).toNat 0).toNat,rfl,by simp only;omega,by omega,by omega,by simp[e],fun i=>?_⟩,by simp only[Int.toNat_natCast];omega⟩
   ·simp only[ku,z,M,N,O,V,X,Y,J,and_self,decide_true,decide_false,if_true,if_false,Bool.false_eq_true,Int.toNat_natCast,Option.bind,List.length_singleton,e];rw[if_pos (by omega),bF (by omega)]
   ·simp only;rcases Nat.lt_or_ge i out.length with hi | hi
    ·rw[List.getD_eq_getElem?_getD,List.getElem?_append_left hi,←List.getD_eq_getElem?_getD];exact q i
    ·rw[List.getD_eq_getElem?_getD,List.getElem?_append_right hi];cases hq:i - out.length with
     | zero=>simpa using⟨v1,L⟩
     | succ n=>simp;omega
  ·right
   obtain rfl:j=w.length:=by omega
   refine⟨out,?_,e,q⟩;have z:¬((w.length:Int)<(w.length:Int)):=by omega
   simp only[ku,z,decide_false,Bool.false_eq_true,if_false]) (s:=([0],0,0)) ⟨0,0,rfl,rfl,by omega,D,rfl,fun i=>by
    cases i with
    | zero=>simp;omega
    | succ n=>simp;omega⟩
 refine⟨r,?_,I⟩;unfold nB;have A:((a.length:Int) == 0)=false:=by rw[beq_eq_false_iff_ne];omega
 rw[A,if_neg (by decide),E];rfl
structure Mo(m:Z5)(k:Nat):Prop where
 cls:0<m.1.1.length
 OW:m.1.1.length≤m.1.2.2.2.1.length
 tr:∀i,i<m.1.2.2.2.1.length→0≤m.1.2.2.2.1.getD i 0∧m.1.2.2.2.1.getD i 0<(k:Int)
 a:WA m.2.1.1 k
 al:m.2.1.1.length≤m.2.1.2.length
 b:WA m.2.2.1 k
 bl:m.2.2.1.length≤m.2.2.2.length
 tz:∀s t:Nat,s<m.2.1.1.length→t<m.2.2.1.length→(bitsOf .and .u32 (m.2.1.2.getD s 0) (m.2.2.2.getD t 0) != 0)=true →
  0≤qE (bitsOf .and .u32 (m.2.1.2.getD s 0) (m.2.2.2.getD t 0))∧qE (bitsOf .and .u32 (m.2.1.2.getD s 0) (m.2.2.2.getD t 0))<(m.1.2.2.2.2.length:Int)
 IF:∀i,0≤(m.1.2.2.2.2.getD i (0,((Tree.node 0 0 []),(Tree.node 0 0 [])))).1∧(m.1.2.2.2.2.getD i (0,((Tree.node 0 0 []),(Tree.node 0 0 [])))).1≤2
def ra(m:Z5)(x:Int):Int:=if x<0∨(m.1.1.length:Int)≤x then 0 else x
def LZ(x c:Int):Bool:=bitsOf .and .u32 (Int.fdiv x (2 ^ (min c.toNat u32.bits))) 1 == 1
theorem BS{m:Z5}(h:0<m.1.1.length)(x:Int):0≤ra m x∧ra m x<(m.1.1.length:Int):=by
 unfold ra;split
 ·omega
 ·omega
theorem Fc{m:Z5}{k:Nat}(h:Mo m k){w:QK}(E:w.length≤4096){j:Nat}(I:j<w.length){at_ e:QK}(base:Bool)(J:at_.length=e.length)(L:at_.length≤j):
  dA (some m) w (at_,e,base,(j:Int))=some (.inl (if(base && LZ m.1.2.1 (ra m (w.getD j 0)))=true then(at_,e,base,((j+1:Nat):Int))else
   (at_++[(j:Int)],e++[m.1.2.2.2.1.getD (ra m (w.getD j 0)).toNat 0],LZ m.1.2.2.1 (ra m (w.getD j 0)),((j+1:Nat):Int)))):=by
 have A:(j:Int)<(w.length:Int):=by omega
 have B:0≤(j:Int):=by omega
 obtain⟨c0,M⟩:=BS h.cls (w.getD j 0);have C:=h.OW;have u:ra m (w.getD j 0)<(m.1.2.2.2.1.length:Int):=by omega
 have v:(at_.length+([(j:Int)]:QK).length)*8≤140737488355328∧at_.length+([(j:Int)]:QK).length≤9223372036854775807:=by simp;omega
 have g2:∀x:Int,(e.length+([x]:QK).length)*8≤140737488355328∧e.length+([x]:QK).length≤9223372036854775807:=fun x=>by simp;omega
 have D:∀ {β:Type} (K:Int→Option β),(((if decide (w.getD j 0<0)=true then some true else some (decide (w.getD j 0≥(m.1.1.length:Int)))):Option Bool).bind fun f=>((if f=true then some (0:Int)else some (w.getD j 0))).bind K)=K (ra m (w.getD j 0)):=fun K=>by
  generalize w.getD j 0=x;unfold ra;by_cases q:x<0
  ·simp[q]
  ·by_cases z:(m.1.1.length:Int)≤x
   ·simp[q,z]
   ·simp[q,z]
 simp only[dA,A,B,and_self,decide_true,if_true,Int.toNat_natCast,Option.isSome,Option.getD];rw[D];unfold LZ;cases base with
 | false=>simp only[Bool.false_and,Bool.false_eq_true,if_false,if_true,Option.bind,c0,u,v,g2,and_self,bF (show j≤9000000000000000000 by omega)]
 | true =>
  simp only[Bool.true_and,if_true,Option.bind,c0];split
  ·rw[bF (by omega)]
  ·simp only[u,v,g2,and_self,if_true,bF (show j≤9000000000000000000 by omega)]
theorem JK{m:Z5}{k:Nat}(h:Mo m k){w:QK}(C:w.length≤4096):∃r,iter (dA (some m) w) (([]:QK),([]:QK),false,(0:Int))=some r ∧
  r.1.length=r.2.length∧r.1.length≤w.length∧(∀i,i<r.1.length→0≤r.1.getD i 0∧r.1.getD i 0<(w.length:Int))∧∀i,i<r.2.length→0≤r.2.getD i 0∧r.2.getD i 0<(k:Int):=by
 have snoc:∀ {l:QK} {x hi:Int},(∀i,i<l.length→0≤l.getD i 0∧l.getD i 0<hi)→0≤x→x<hi→∀i,i<(l++[x]).length→0≤(l++[x]).getD i 0∧(l++[x]).getD i 0<hi:=fun {l x hi} hl D e i u=>by
  rcases Nat.lt_or_ge i l.length with z | z
  ·rw[List.getD_eq_getElem?_getD,List.getElem?_append_left z,←List.getD_eq_getElem?_getD];exact hl i z
  ·have:i=l.length:=by simp at u;omega
   subst this;simp[D,e]
 refine dB (fun s:QK×QK×Bool×Int=>∃j:Nat,s.2.2.2=(j:Int)∧j≤w.length∧s.1.length=s.2.1.length∧s.1.length≤j∧(∀i,i<s.1.length→0≤s.1.getD i 0∧s.1.getD i 0<(w.length:Int))∧∀i,i<s.2.1.length→0≤s.2.1.getD i 0∧s.2.1.getD i 0<(k:Int)) (fun s=>w.length - s.2.2.2.toNat) _ ?_
  ⟨0,rfl,by omega,rfl,by simp,fun i hi=>by simp at hi,fun i hi=>by simp at hi⟩
 rintro⟨at_,E,base,v⟩ ⟨j,rfl,N,e,B,f,q⟩;simp only at e B f q;by_cases A:j<w.length
 ·left
  refine⟨_,Fc h C A base e B,?_,?_⟩
  ·split
   ·exact⟨j+1,rfl,by omega,e,by simp only;omega,f,q⟩
   ·obtain⟨c0,O⟩:=BS h.cls (w.getD j 0);have I:=h.OW;obtain⟨J,L⟩:=h.tr (ra m (w.getD j 0)).toNat (by omega);exact⟨j+1,rfl,by omega,by simp[e],by simp;omega,snoc f (by omega) (by omega),snoc q J L⟩
  ·split <;> simp only[Int.toNat_natCast] <;> omega
 ·right
  obtain rfl:j=w.length:=by omega
  refine⟨(at_,E),?_,e,by simp only;omega,f,q⟩;have M:¬((w.length:Int)<(w.length:Int)):=by omega
  simp only[dA,M,decide_false,Bool.false_eq_true,if_false]
def Kc(n:Nat)(out:QK):Prop:=out.length=n+1∧out.getD n 0=2∧∀i,0≤out.getD i 0∧out.getD i 0≤2
theorem Kc.set{n:Nat}{out:QK}(h:Kc n out){i:Nat}(hi:i<n){v:Int}(e:0≤v)(f:v≤2):Kc n (out.set i v):=by
 obtain⟨a,b,c⟩:=h;refine⟨by simp[a],by rw[lC (by omega),if_neg (by omega)];exact b,fun j=>?_⟩;rw[lC (by omega)];split
 ·exact⟨e,f⟩
 ·exact c j
theorem Jl{m:Z5}{k:Nat}(h:Mo m k){n:Nat}(hn:n≤4096){at_ f q:QK}(h1:at_.length≤n)(ha:∀i,i<at_.length→0≤at_.getD i 0∧at_.getD i 0<(n:Int))
  (l3:f.length=at_.length+1) (V:∀i,0≤f.getD i 0∧f.getD i 0<(m.2.1.1.length:Int)) (l7:q.length=at_.length+1) (X:∀i,0≤q.getD i 0∧q.getD i 0<(m.2.2.1.length:Int)) {out:QK} (Y:Kc n out) :
  ∃r,iter (dz (some m) at_ f q) (out,(1:Int))=some r∧Kc n r:=by
 refine dB (fun s:QK×Int=>∃j:Nat,s.2=(j:Int)∧1≤j∧Kc n s.1) (fun s=>at_.length - s.2.toNat) _ ?_ ⟨1,rfl,by omega,Y⟩;rintro⟨o,v⟩ ⟨j,rfl,hj,z⟩;simp only at z;by_cases u:j<at_.length
 ·left
  obtain⟨a0,a1⟩:=ha j u;obtain⟨C,b1⟩:=V j;obtain⟨c0,c1⟩:=X (at_.length - j);have Z:=h.al;have a2:=h.bl;have B:(j:Int)<(at_.length:Int):=by omega
  have D:0≤(j:Int):=by omega
  have E:(j:Int)<(f.length:Int):=by omega
  have I:i64.wrap ((at_.length:Int) - (j:Int))=((at_.length - j:Nat):Int):=by rw[wrap_i64 (by omega) (by omega)];omega
  have J:0≤((at_.length - j:Nat):Int):=by omega
  have L:((at_.length - j:Nat):Int)<(q.length:Int):=by omega
  have M:f.getD j 0<(m.2.1.2.length:Int):=by omega
  have N:q.getD (at_.length - j) 0<(m.2.2.2.length:Int):=by omega
  have O:at_.getD j 0<(o.length:Int):=by rw[z.1];omega
  have A:(at_.getD j 0).toNat<o.length:=by rw[z.1];omega
  have e:=z.set (i:=(at_.getD j 0).toNat) (by omega) (v:=1) (by omega) (by omega);by_cases hb:(bitsOf .and .u32 (m.2.1.2.getD (f.getD j 0).toNat 0) (m.2.2.2.getD (q.getD (at_.length - j) 0).toNat 0) != 0)=true
  ·obtain⟨z0,z1⟩:=h.tz _ _ (by omega) (by omega) hb;obtain⟨d0,d1⟩:=h.IF (qE (bitsOf .and .u32 (m.2.1.2.getD (f.getD j 0).toNat 0) (m.2.2.2.getD (q.getD (at_.length - j) 0).toNat 0))).toNat;refine⟨((o.set (at_.getD j 0).toNat 1).set (at_.getD j 0).toNat (m.1.2.2.2.2.getD (qE (bitsOf .and .u32 (m.2.1.2.getD (f.getD j 0).toNat 0) (m.2.2.2.getD (q.getD (at_.length - j) 0).toNat 0))).toNat (0,((Tree.node 0 0 []),(Tree.node 0 0 [])))).1,((j+1:Nat):Int)),?_,⟨j+1,rfl,by omega,e.set (i:=(at_.getD j 0).toNat) (by omega) d0 d1⟩,by simp only[Int.toNat_natCast];omega⟩;simp only[dz,B,D,E,I,J,L,M,N,O,A,a0,C,c0,hb,z0,z1,gQ,List.length_set,u,and_self,decide_true,if_true,Option.bind,Option.isSome,Option.getD,Int.toNat_natCast,bF (show j≤9000000000000000000 by omega)]
  ·refine⟨(o.set (at_.getD j 0).toNat 1,((j+1:Nat):Int)),?_,⟨j+1,rfl,by omega,e⟩,by simp only[Int.toNat_natCast];omega⟩;simp only[dz,B,D,E,I,J,L,M,N,O,A,a0,C,c0,hb,u,and_self,decide_true,if_true,if_false,Bool.false_eq_true,Option.bind,Option.isSome,Option.getD,Int.toNat_natCast,bF (show j≤9000000000000000000 by omega)]
 ·right
  refine⟨o,?_,z⟩;have B:¬((j:Int)<(at_.length:Int)):=by omega
  simp only[dz,B,decide_false,Bool.false_eq_true,if_false]
theorem z9{m:Z5}{k:Nat}(h:Mo m k){w:QK}(q:w.length≤4096):∃out,eU (some m) w=some out∧Kc w.length out:=by
 obtain⟨⟨at_,e⟩,A,u,v,z,f⟩:=JK h q;simp only at u v z f;obtain⟨N,B,O,C⟩:=wU h.a m.2.1.2 (w:=e) (by omega) f;obtain⟨V,D,E,I⟩:=wU h.b m.2.2.2 (w:=e.reverse) (by simp;omega) (fun i hi=>by
  rw[List.length_reverse]at hi;rw[C5 hi];exact f _ (by omega))
 have J:Kc w.length ((List.replicate (w.length+1) (0:Int)).set w.length 2):=by
  refine⟨by simp,by rw[lC (by simp),if_pos rfl],fun i=>?_⟩;rw[lC (by simp)];split
  ·omega
  ·rcases Nat.lt_or_ge i (w.length+1)with hi | hi
   ·rw[show(List.replicate (w.length+1) (0:Int)).getD i 0=0 by simp[List.getD_eq_getElem?_getD,hi]];omega
   ·rw[List.getD_eq_getElem?_getD,List.getElem?_eq_none (by simpa using hi)];simp
 obtain⟨r,L,M⟩:=Jl h q v z (by omega) C (by simpa [u]using E) I J;refine⟨r,?_,M⟩;have j:i64.wrap ((w.length:Int)+1)=((w.length+1:Nat):Int):=bF (by omega);unfold eU;simp only[j,Int.toNat_natCast,A,B,Fg (show e.length≤1000000 by omega),D,Option.bind,Option.isNone,Option.isSome,Option.getD,Bool.false_eq_true,if_false,if_true,L];rw[if_pos (by omega),if_pos (by simp;omega),if_pos (by simp)]
theorem J4{l:List (Int×Tree×Tree)}(h:∀x∈l,0≤x.1∧x.1≤2)(i:Nat):0≤(l.getD i (0,((Tree.node 0 0 []),(Tree.node 0 0 [])))).1∧(l.getD i (0,((Tree.node 0 0 []),(Tree.node 0 0 [])))).1≤2:=by
 rcases Nat.lt_or_ge i l.length with hi | hi
 ·rw[jY hi];exact h _ (List.getElem_mem hi)
 ·rw[List.getD_eq_getElem?_getD,List.getElem?_eq_none hi];simp
abbrev cg:=Int×Int×Int×Int
abbrev Qk:=List cg
def A5:Int→Qk→Int→Prop
 | a,[],n=>a=n
 | a,x::r,n=>x.1=a∧1≤x.2.1∧0≤x.2.2.1∧x.2.2.1≤2∧0≤x.2.2.2∧x.2.2.2≤2∧A5 (a+x.2.1) r n
theorem A5.snoc{x:cg}:∀ {a m:Int} {s:Qk},A5 a s m→x.1=m→1≤x.2.1→0≤x.2.2.1→x.2.2.1≤2→0≤x.2.2.2→x.2.2.2≤2→A5 a (s++[x]) (m+x.2.1)
 | a,m,[],h,e,f,j,q,u,v=>by
  simp only[A5]at h;subst h;exact⟨e,f,j,q,u,v,rfl⟩
 | a,m,y::s,h,e,f,j,q,u,v=>⟨h.1,h.2.1,h.2.2.1,h.2.2.2.1,h.2.2.2.2.1,h.2.2.2.2.2.1,h.2.2.2.2.2.2.snoc e f j q u v⟩
theorem A5.cut{x:cg}:∀ {a m:Int} {s:Qk},A5 a (s++[x]) m→A5 a s x.1∧1≤x.2.1∧0≤x.2.2.1∧x.2.2.1≤2∧0≤x.2.2.2∧x.2.2.2≤2∧m=x.1+x.2.1
 | a,m,[],h=>by
  obtain⟨e,f,j,q,u,v,z⟩:=h;simp only[A5]at z ⊢;exact⟨e.symm,f,j,q,u,v,by omega⟩
 | a,m,y::s,h=>by
  obtain⟨e,f,j,q,u,v,z⟩:=h;obtain⟨A,B⟩:=A5.cut z;exact⟨⟨e,f,j,q,u,v,A⟩,B⟩
theorem A5.le:∀ {a n:Int} {s:Qk},A5 a s n→a≤n
 | a,n,[],h=>by simp only[A5]at h;omega
 | a,n,x::s,h=>by
  have:=A5.le h.2.2.2.2.2.2;have:=h.2.1;omega
theorem lU{α:Type}(p:List α)(x d:α):(p++[x]).getD p.length d=x:=by simp[List.getD_eq_getElem?_getD]
theorem Cp{α:Type}(p:List α)(x y:α):(p++[x]).set p.length y=p++[y]:=by
 rw[List.set_append_right _ _ (Nat.le_refl _),Nat.sub_self];rfl
theorem l9{i:Nat}(h:i≤9000000000000000000):i64.wrap (((i+1:Nat):Int) - 1)=(i:Int):=by rw[wrap_i64 (by omega) (by omega)];omega
def wO(r:Int):Int:=if r=32 then 1 else if r=9 then 2 else 0
theorem KF(r:Int):ml r=some (wO r):=by
 unfold ml wO;by_cases e:r=32
 ·simp[e]
 ·by_cases f:r=9
  ·simp[f]
  ·simp[e,f]
def GA(e:QK)(k:Nat):Bool:=k == 0 || (decide (k<e.length) && e.getD k 0 != 0)
theorem EW{t:Option ((fG 4352)×List (fG 256))}{f:Int→Int}(ht:pe t f){s:Qx}(hs:s.length≤4096)(e:QK){k:Nat}(hk:k<s.length){cl:Qk}{st:QK}(C:cl.length≤k)(j:st.length=cl.length):
  (GA e k=true→dG s e t (cl,st,(k:Int))=some (.inl (cl++[((s.getD k (0,(0,0))).2.1,(i64.wrap (0+(s.getD k (0,(0,0))).2.2),(max 0 (min (f (s.getD k (0,(0,0))).1) 2),wO (s.getD k (0,(0,0))).1)))],st++[(k:Int)],((k+1:Nat):Int)))):=by
 intro hb;have q:bh t=fun r=>some (f r):=ht
 have D:(k:Int)<(s.length:Int):=by omega
 have A:0≤(k:Int):=by omega
 have E:(if((k:Int) == (0:Int))=true then some true
   else if decide ((k:Int)<(e.length:Int))=true then(if True∧(k:Int)<(e.length:Int)then some (e.getD k (0:Int) != (0:Int))else none)else some false)=some true:=by
  unfold GA at hb;by_cases B:k=0
  ·subst B;rfl
  ·have I:((k:Int) == 0)=false:=by rw[beq_eq_false_iff_ne];omega
   have J:(k == 0)=false:=by rw[beq_eq_false_iff_ne];exact B
   rw[J,Bool.false_or,Bool.and_eq_true]at hb;have L:(k:Int)<(e.length:Int):=by have:=of_decide_eq_true hb.1;omega
   simp only[I,L,Bool.false_eq_true,if_false,decide_true,and_self,if_true,hb.2]
 have M:i64.wrap ((k:Int)+1)=((k+1:Nat):Int):=bF (by omega);have N:∀x:cg,(cl++[x]).length=cl.length+1:=fun x=>by simp
 have O:∀x:Int,(st++[x]).length=cl.length+1:=fun x=>by simp[j]
 have V:i64.wrap (((cl.length+1:Nat):Int) - 1)=(cl.length:Int):=l9 (by omega);have X:(cl.length:Int)<((cl.length+1:Nat):Int):=by omega
 have Y:cl.length<cl.length+1:=by omega
 have u:0≤(cl.length:Int):=by omega
 have v:(st++[(k:Int)]).getD cl.length 0=(k:Int):=by rw[←j];exact lU _ _ _
 have z:((k:Int) != (k:Int))=false:=by simp
 have Z:∀x:cg,(cl.length+([x]:Qk).length)*32≤140737488355328∧cl.length+([x]:Qk).length≤9223372036854775807:=fun x=>by simp;omega
 have g2:(st.length+([(k:Int)]:QK).length)*8≤140737488355328∧st.length+([(k:Int)]:QK).length≤9223372036854775807:=by simp;omega
 simp only[dG,D,A,and_self,decide_true,if_true,Int.toNat_natCast];rw[E];simp only[A,and_self,decide_true,if_true,Option.bind,Int.toNat_natCast,KF,Z,g2,M,N,O,V,X,Y,u,v,z,lU,Cp,Bool.false_eq_true,if_false,q]
theorem Hz{t:Option ((fG 4352)×List (fG 256))}{f:Int→Int}(ht:pe t f){s:Qx}(hs:s.length≤4096)(e:QK){k:Nat}(hk:k<s.length){p:Qk}{c:cg}{q:QK}{y:Int}(hp:p.length≤k)(B:q.length=p.length)(E:y≠(k:Int))(hb:GA e k=false):
  dG s e t (p++[c],q++[y],(k:Int))=some (.inl (p++[(c.1,(i64.wrap (c.2.1+(s.getD k (0,(0,0))).2.2),(max c.2.2.1 (min (f (s.getD k (0,(0,0))).1) 2),0)))],q++[y],((k+1:Nat):Int))):=by
 have j:bh t=fun r=>some (f r):=ht
 have I:(k:Int)<(s.length:Int):=by omega
 have C:0≤(k:Int):=by omega
 have J:(if((k:Int) == (0:Int))=true then some true
   else if decide ((k:Int)<(e.length:Int))=true then(if True∧(k:Int)<(e.length:Int)then some (e.getD k (0:Int) != (0:Int))else none)else some false)=some false:=by
  unfold GA at hb;rw[Bool.or_eq_false_iff]at hb;have h0:k≠0:=by have:=hb.1;rw[beq_eq_false_iff_ne]at this;exact this
  have D:((k:Int) == 0)=false:=by rw[beq_eq_false_iff_ne];omega
  by_cases L:k<e.length
  ·have u:(k:Int)<(e.length:Int):=by omega
   have M:(e.getD k 0 != 0)=false:=by have:=hb.2;rw[decide_eq_true L,Bool.true_and]at this;exact this
   simp only[D,u,Bool.false_eq_true,if_false,decide_true,and_self,if_true,M]
  ·have u:¬((k:Int)<(e.length:Int)):=by omega
   simp only[D,u,Bool.false_eq_true,if_false,decide_false]
 have N:i64.wrap ((k:Int)+1)=((k+1:Nat):Int):=bF (by omega);have O:∀x:cg,(p++[x]).length=p.length+1:=fun x=>by simp
 have V:∀x:Int,(q++[x]).length=p.length+1:=fun x=>by simp[B]
 have X:i64.wrap (((p.length+1:Nat):Int) - 1)=(p.length:Int):=l9 (by omega);have Y:(p.length:Int)<((p.length+1:Nat):Int):=by omega
 have Z:p.length<p.length+1:=by omega
 have v:0≤(p.length:Int):=by omega
 have z:(q++[y]).getD p.length 0=y:=by rw[←B];exact lU _ _ _
 have A:(y != (k:Int))=true:=by rw[bne_iff_ne];exact E
 simp only[dG,I,C,and_self,decide_true,if_true,Int.toNat_natCast];rw[J];simp only[C,and_self,decide_true,if_true,Option.bind,Int.toNat_natCast,N,O,V,X,Y,Z,v,z,A,lU,Cp,Bool.false_eq_true,if_false,j]
theorem Cv.split{a n:Int}:∀ {s:Qx} {k:Nat},Cv a s n→k<s.length→Cv a (s.take k) (s.getD k (0,(0,0))).2.1∧1≤(s.getD k (0,(0,0))).2.2∧(s.getD k (0,(0,0))).2.2≤4
 | x::s,0,h,_=>⟨by simp only[List.take_zero,Cv,List.getD_cons_zero];exact h.1.symm,h.2.1,h.2.2.1⟩
 | x::s,k+1,h,hk=>by
  obtain⟨q,z,B⟩:=Cv.split h.2.2.2 (show k<s.length by simpa using hk);simp only[List.take_succ_cons,List.getD_cons_succ];exact⟨⟨h.1,h.2.1,h.2.2.1,q⟩,z,B⟩
theorem Cv.range{a n:Int}:∀ {s:Qx},Cv a s n→a+(s.length:Int)≤n∧n≤a+4*(s.length:Int)
 | [],h=>by simp only[Cv]at h;simp;omega
 | x::s,h=>by
  have:=h.2.2.2.range;have:=h.2.1;have:=h.2.2.1;simp only[List.length_cons];omega
theorem Cv.uniq{a n m:Int}:∀ {s:Qx},Cv a s n→Cv a s m→n=m
 | [],h,h'=>by simp only[Cv]at h h';omega
 | x::s,h,h'=>Cv.uniq h.2.2.2 h'.2.2.2
theorem xD{α:Type}{l:List α}(h:0<l.length):∃p x,l=p++[x]:=by
 have f:l≠[]:=fun e=>by simp[e]at h
 exact⟨l.dropLast,l.getLast f,(List.dropLast_concat_getLast f).symm⟩
theorem mn{l:QK}{x d:Int}{i:Nat}:(l++[x]).getD i d=if i<l.length then l.getD i d else if i=l.length then x else d:=by
 by_cases h:i<l.length
 ·rw[if_pos h,List.getD_eq_getElem?_getD,List.getElem?_append_left h,←List.getD_eq_getElem?_getD]
 ·rw[if_neg h];by_cases e:i=l.length
  ·rw[if_pos e,e];exact lU _ _ _
  ·rw[if_neg e,List.getD_eq_getElem?_getD,List.getElem?_eq_none (by simp;omega)];rfl
structure CM(s:Qx)(k:Nat)(a:Int)(cl:Qk)(st:QK):Prop where
 LX:A5 0 cl a
 Oh:Cv 0 (s.take k) a
 len:st.length=cl.length
 le:cl.length≤k
 at_:∀i,i<st.length→0≤st.getD i 0∧st.getD i 0<(k:Int)
 some_:0<k→0<cl.length
 zero:0<cl.length→st.getD 0 0=0
theorem GU{t:Option ((fG 4352)×List (fG 256))}{f:Int→Int}(ht:pe t f){s:Qx}{n:Int}(M:Cv 0 s n)(hn:n≤4096)(u:QK):
  ∃r,iter (dG s u t) (([]:Qk),([]:QK),(0:Int))=some r∧CM s s.length n r.1 r.2:=by
 have hr:=M.range;have C:s.length≤4096:=by omega
 refine dB (fun z:Qk×QK×Int=>∃(k:Nat) (a:Int),z.2.2=(k:Int)∧k≤s.length∧0≤a∧a≤4*(k:Int)∧CM s k a z.1 z.2.1) (fun z=>s.length - z.2.2.toNat) _ ?_
  ⟨0,0,rfl,by omega,by omega,by omega,⟨rfl,rfl,rfl,by simp,fun i hi=>by simp at hi,fun h=>by omega,fun h=>by simp at h⟩⟩
 rintro⟨cl,st,v⟩ ⟨k,a,rfl,hk,X,ha,j⟩;simp only at j;by_cases A:k<s.length
 ·left
  obtain⟨Y,Z,c3⟩:=M.split A;have D:(s.getD k (0,(0,0))).2.1=a:=Y.uniq j.Oh;have E:Cv 0 (s.take (k+1)) (a+(s.getD k (0,(0,0))).2.2):=by rw[oa (d:=(0,(0,0))) A];exact j.Oh.snoc D Z c3
  have N:∀x:Int,0≤x→x≤2→0≤max x (min (f (s.getD k (0,(0,0))).1) 2)∧max x (min (f (s.getD k (0,(0,0))).1) 2)≤2:=fun x h0 h1=>by omega
  have I:0≤wO (s.getD k (0,(0,0))).1∧wO (s.getD k (0,(0,0))).1≤2:=by unfold wO;split;omega;split <;> omega
  cases hb:GA u k with
  | true =>
   refine⟨_,EW ht C u A j.le j.len hb,⟨k+1,a+(s.getD k (0,(0,0))).2.2,rfl,by omega,by omega,by omega,⟨?_,E,by simp[j.len],by have:=j.le;simp;omega,fun i hi=>?_,fun _=>by simp,fun _=>?_⟩⟩,by simp only[Int.toNat_natCast];omega⟩
   ·have:=j.LX.snoc (x:=((s.getD k (0,(0,0))).2.1,(i64.wrap (0+(s.getD k (0,(0,0))).2.2),(max 0 (min (f (s.getD k (0,(0,0))).1) 2),wO (s.getD k (0,(0,0))).1)))) D (by simp only;rw[wrap_i64 (by omega) (by omega)];omega) (by simp only;omega) (by simp only;omega) I.1 I.2;simp only at this;rw[wrap_i64 (by omega) (by omega),Int.zero_add]at this;simp only;rw[wrap_i64 (by omega) (by omega),Int.zero_add];exact this
   ·simp only at hi ⊢;rw[mn];split
    ·rename_i h;have:=j.at_ i h;omega
    ·split <;> omega
   ·simp only;rw[mn];split
    ·rename_i h;exact j.zero (by have:=j.len;omega)
    ·rename_i h;have hl:=j.len;have a1:cl.length=0:=by omega
     have B:k=0:=by
      rcases Nat.eq_zero_or_pos k with e | e
      ·exact e
      ·have:=j.some_ e;omega
     subst B;split <;> rfl
  | false =>
   have B:0<k:=by
    rcases Nat.eq_zero_or_pos k with e | e
    ·subst e;simp[GA]at hb
    ·exact e
   have O:=j.some_ B;have hl:=j.len;obtain⟨p,c,rfl⟩:=xD O;obtain⟨q,y,rfl⟩:=xD (show 0<st.length by omega);have J:q.length=p.length:=by simpa using hl
   have hy:=j.at_ q.length (by simp);rw[lU]at hy;have L:p.length≤k:=by have:=j.le;simp at this;omega
   obtain⟨V,d2,d3,d4,d5,d6,d7⟩:=j.LX.cut;refine⟨_,Hz ht C u A L J (by omega) hb,⟨k+1,a+(s.getD k (0,(0,0))).2.2,rfl,by omega,by omega,by omega,⟨?_,E,by simp[J],by have:=j.le;simp at this ⊢;omega,fun i hi=>?_,fun _=>by simp,fun _=>j.zero (by simp)⟩⟩,by simp only[Int.toNat_natCast];omega⟩
   ·have a2:=V.le;have hw:i64.wrap (c.2.1+(s.getD k (0,(0,0))).2.2)=c.2.1+(s.getD k (0,(0,0))).2.2:=wrap_i64 (by omega) (by omega);obtain⟨m1,m2⟩:=N c.2.2.1 d3 d4;have:=V.snoc (x:=(c.1,(c.2.1+(s.getD k (0,(0,0))).2.2,(max c.2.2.1 (min (f (s.getD k (0,(0,0))).1) 2),0)))) rfl (by simp only;omega) m1 m2 (by simp only;omega) (by simp only;omega);simp only at this;simp only;rw[hw,d7,show c.1+c.2.1+(s.getD k (0,(0,0))).2.2=c.1+(c.2.1+(s.getD k (0,(0,0))).2.2) by omega];exact this
   ·have:=j.at_ i hi;exact⟨this.1,by have:=this.2;simp only;omega⟩
 ·right
  obtain rfl:k=s.length:=by omega
  refine⟨(cl,st),?_,?_⟩
  ·have q1:¬((s.length:Int)<(s.length:Int)):=by omega
   simp only[dG,q1,decide_false,Bool.false_eq_true,if_false]
  ·have:=j.Oh;rw[List.take_length]at this;have e:n=a:=M.uniq this;subst e;exact j
end
end Go.Proofs.YtbedjpdfkmfplaaGreatDoor.T
