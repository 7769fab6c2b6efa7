import Derived.Test.YtobbjfkfmdiklaaGreatDoorTv50bm
namespace Go.Proofs.YtobbjfkfmdiklaaGreatDoor.T
open Go Go.Tv Go.Proofs
open Go.IntKind (i64 u32)
noncomputable section
theorem bM{i:Nat}(h:i≤9000000000000000000):i64.wrap ((i:Int)+1)=((i+1:Nat):Int):=by rw[wrap_i64 (by omega) (by omega)];rfl
theorem kV{l:QK}{k:Nat}(hk:k<l.length)(v:Int)(j:Nat):(l.set k v).getD j 0=if k=j then v else l.getD j 0:=by
 simp only[List.getD_eq_getElem?_getD,List.getElem?_set];by_cases e:k=j
 ·rw[if_pos e,if_pos e,if_pos (by omega)];rfl
 ·rw[if_neg e,if_neg e]
theorem If{l m:QK}(h:l.length=m.length)(e:∀i,i<l.length→l.getD i 0=m.getD i 0):l=m :=
 List.ext_getElem h fun i h1 h2=>by
  have:=e i h1;rwa [kF h1,kF h2]at this
theorem A8{w:QK}{i:Nat}(h:i<w.length):w.reverse.getD i 0=w.getD (w.length - 1 - i) 0:=by
 rw[kF (by simpa using h),kF (by omega),List.getElem_reverse]
theorem Dh{w:QK}(hl:w.length≤1000000):cm w=some w.reverse:=by
 have key:∃s,iter bR (w,0,i64.wrap ((w.length:Int) - 1))=some s∧s=w.reverse:=by
  rw[wrap_i64 (by omega) (by omega)];refine dG (I:=fun q=>∃i:Nat,q.2.1=(i:Int)∧q.2.2=(w.length:Int) - 1 - i∧i≤w.length∧2*i≤w.length+1∧q.1.length=w.length∧∀p,p<w.length→q.1.getD p 0=if p<i∨w.length≤p+i then w.getD (w.length - 1 - p) 0 else w.getD p 0)
   (μ:=fun q=>w.length - q.2.1.toNat) _ ?_ ⟨0,rfl,by simp,Nat.zero_le _,by omega,rfl,fun p hp=>by rw[if_neg (by omega)]⟩
  rintro⟨s,N,O⟩ ⟨i,u,v,hi,h2,A,hp⟩;dsimp only at u v A hp;subst u v;by_cases D:(i:Int)<(w.length:Int) - 1 - i
  ·obtain⟨j,E⟩:∃j:Nat,(w.length:Int) - 1 - i=(j:Int):=⟨w.length - 1 - i,by omega⟩;have J:j<w.length:=by omega
   have L:s.getD i 0=w.getD i 0:=by rw[hp i (by omega),if_neg (by omega)]
   have M:s.getD j 0=w.getD j 0:=by rw[hp j (by omega),if_neg (by omega)]
   refine .inl ⟨((s.set i (s.getD j 0)).set j (s.getD i 0),((i+1:Nat):Int),((w.length:Int) - 1 - ((i+1:Nat):Int))),?_,⟨i+1,rfl,rfl,by omega,by omega,by simp[A],fun p x=>?_⟩,by simp only[Int.toNat_natCast];omega⟩
   ·unfold bR;dsimp only;rw[E,if_pos (by simp;omega),if_pos (by omega),Int.toNat_natCast,Int.toNat_natCast,if_pos (by omega),if_pos (by omega),if_pos (by omega),if_pos (by omega),if_pos (by omega),if_pos (by rw[List.length_set];omega),if_pos (by rw[List.length_set];omega),bM (by omega),
     wrap_i64 (by omega) (by omega)]
    have:(j:Int) - 1=(w.length:Int) - 1 - ((i+1:Nat):Int):=by omega
    rw[this]
   ·dsimp only;rw[kV (by rw[List.length_set];omega),kV (by omega),L,M];by_cases B:j=p
    ·subst B;rw[if_pos rfl,if_pos (by omega)];congr 1;omega
    ·rw[if_neg B];by_cases C:i=p
     ·subst C;rw[if_pos rfl,if_pos (by omega)];congr 1;omega
     ·rw[if_neg C,hp p x];by_cases z:p<i∨w.length≤p+i
      ·rw[if_pos z,if_pos (by omega)]
      ·rw[if_neg z,if_neg (by omega)]
  ·refine .inr ⟨s,?_,If (by simp[A]) fun p x=>?_⟩
   ·unfold bR;dsimp only;rw[if_neg (by simp;omega)]
   ·rw[hp p (by omega),A8 (by omega)];by_cases z:p<i∨w.length≤p+i
    ·rw[if_pos z]
    ·rw[if_neg z];congr 1;omega
 obtain⟨s,h1,rfl⟩:=key;unfold cm;rw[h1];rfl
structure WA(a:QZ)(k:Nat):Prop where
 pos:0<a.length
 len:∀i,i<a.length→k≤(a.getD i []).length
 val:∀i c,i<a.length→c<k→0≤(a.getD i []).getD c 0∧(a.getD i []).getD c 0<(a.length:Int)
theorem vQ{a:QZ}{k:Nat}(h:WA a k)(b:QK){w:QK}(O:w.length≤4096)(hc:∀i,i<w.length→0≤w.getD i 0∧w.getD i 0<(k:Int)):
  ∃r,m8 a b w=some r∧r.length=w.length+1∧∀i,0≤r.getD i 0∧r.getD i 0<(a.length:Int):=by
 have hp:=h.pos;obtain⟨r,h1,h2⟩:=dG (body:=jT a w) (fun s=>∃j st:Nat,s.2.2=(j:Int)∧s.2.1=(st:Int)∧j≤w.length∧st<a.length∧s.1.length=j+1∧∀i,0≤s.1.getD i 0∧s.1.getD i 0<(a.length:Int)) (fun s=>w.length - s.2.2.toNat)
  (fun r=>r.length=w.length+1∧∀i,0≤r.getD i 0∧r.getD i 0<(a.length:Int)) (by
  rintro⟨out,V,v⟩ ⟨j,st,rfl,rfl,X,q,p,u⟩;simp only at p u;by_cases x:j<w.length
  ·left
   obtain⟨C,Y⟩:=hc j x;have B:=h.len st q;obtain⟨v1,D⟩:=h.val st (w.getD j 0).toNat q (by omega);have z:(j:Int)<(w.length:Int):=by omega
   have E:0≤(j:Int):=by omega
   have I:¬(w.getD j 0<0):=by omega
   have J:0≤(st:Int):=by omega
   have L:(st:Int)<(a.length:Int):=by omega
   have M:¬(w.getD j 0≥((a.getD st []).length:Int)):=by omega
   have N:w.getD j 0<((a.getD st []).length:Int):=by omega
   refine⟨(out++[(a.getD st []).getD (w.getD j 0).toNat 0],(a.getD st []).getD (w.getD j 0).toNat 0,((j+1:Nat):Int)),?_,⟨j+1,((a.getD st []).getD (w.getD j 0).toNat 0).toNat,rfl,by simp only;omega,by omega,by omega,by simp[p],fun i=>?_⟩,by simp only[Int.toNat_natCast];omega⟩
   ·simp only[jT,z,E,I,J,L,M,N,C,and_self,decide_true,decide_false,if_true,if_false,Bool.false_eq_true,Int.toNat_natCast,Option.bind,List.length_singleton,p];rw[if_pos (by omega),bM (by omega)]
   ·simp only;rcases Nat.lt_or_ge i out.length with hi | hi
    ·rw[List.getD_eq_getElem?_getD,List.getElem?_append_left hi,←List.getD_eq_getElem?_getD];exact u i
    ·rw[List.getD_eq_getElem?_getD,List.getElem?_append_right hi];cases Z:i - out.length with
     | zero=>simpa using⟨v1,D⟩
     | succ n=>simp;omega
  ·right
   obtain rfl:j=w.length:=by omega
   refine⟨out,?_,p,u⟩;have z:¬((w.length:Int)<(w.length:Int)):=by omega
   simp only[jT,z,decide_false,Bool.false_eq_true,if_false]) (s:=([0],0,0)) ⟨0,0,rfl,rfl,by omega,hp,rfl,fun i=>by
    cases i with
    | zero=>simp;omega
    | succ n=>simp;omega⟩
 refine⟨r,?_,h2⟩;unfold m8;have A:((a.length:Int) == 0)=false:=by rw[beq_eq_false_iff_ne];omega
 rw[A,if_neg (by decide),h1];rfl
structure Mo(m:Z5)(k:Nat):Prop where
 cls:0<m.1.1.length
 NR:m.1.1.length≤m.1.2.2.2.1.length
 tr:∀i,i<m.1.2.2.2.1.length→0≤m.1.2.2.2.1.getD i 0∧m.1.2.2.2.1.getD i 0<(k:Int)
 a:WA m.2.1.1 k
 al:m.2.1.1.length≤m.2.1.2.length
 b:WA m.2.2.1 k
 bl:m.2.2.1.length≤m.2.2.2.length
 tz:∀s t:Nat,s<m.2.1.1.length→t<m.2.2.1.length→(bitsOf .and .u32 (m.2.1.2.getD s 0) (m.2.2.2.getD t 0) != 0)=true →
  0≤pU (bitsOf .and .u32 (m.2.1.2.getD s 0) (m.2.2.2.getD t 0))∧pU (bitsOf .and .u32 (m.2.1.2.getD s 0) (m.2.2.2.getD t 0))<(m.1.2.2.2.2.length:Int)
 Gx:∀i,0≤(m.1.2.2.2.2.getD i (0,((Tree.node 0 0 []),(Tree.node 0 0 [])))).1∧(m.1.2.2.2.2.getD i (0,((Tree.node 0 0 []),(Tree.node 0 0 [])))).1≤2
def qb(m:Z5)(x:Int):Int:=if x<0∨(m.1.1.length:Int)≤x then 0 else x
def Lr(x c:Int):Bool:=bitsOf .and .u32 (Int.fdiv x (2 ^ (min c.toNat u32.bits))) 1 == 1
theorem Bm{m:Z5}(h:0<m.1.1.length)(x:Int):0≤qb m x∧qb m x<(m.1.1.length:Int):=by
 unfold qb;split
 ·omega
 ·omega
theorem CZ{m:Z5}{k:Nat}(h:Mo m k){w:QK}(E:w.length≤4096){j:Nat}(I:j<w.length){at_ p:QK}(base:Bool)(h1:at_.length=p.length)(h2:at_.length≤j):
  dn (some m) w (at_,p,base,(j:Int))=some (.inl (if(base && Lr m.1.2.1 (qb m (w.getD j 0)))=true then(at_,p,base,((j+1:Nat):Int))else
   (at_++[(j:Int)],p++[m.1.2.2.2.1.getD (qb m (w.getD j 0)).toNat 0],Lr m.1.2.2.1 (qb m (w.getD j 0)),((j+1:Nat):Int)))):=by
 have B:(j:Int)<(w.length:Int):=by omega
 have C:0≤(j:Int):=by omega
 obtain⟨c0,J⟩:=Bm h.cls (w.getD j 0);have D:=h.NR;have v:qb m (w.getD j 0)<(m.1.2.2.2.1.length:Int):=by omega
 have z:(at_.length+([(j:Int)]:QK).length)*8≤140737488355328∧at_.length+([(j:Int)]:QK).length≤9223372036854775807:=by simp;omega
 have g2:∀x:Int,(p.length+([x]:QK).length)*8≤140737488355328∧p.length+([x]:QK).length≤9223372036854775807:=fun x=>by simp;omega
 have hc:∀ {β:Type} (K:Int→Option β),(((if decide (w.getD j 0<0)=true then some true else some (decide (w.getD j 0≥(m.1.1.length:Int)))):Option Bool).bind fun q=>((if q=true then some (0:Int)else some (w.getD j 0))).bind K)=K (qb m (w.getD j 0)):=fun K=>by
  generalize w.getD j 0=x;unfold qb;by_cases u:x<0
  ·simp[u]
  ·by_cases A:(m.1.1.length:Int)≤x
   ·simp[u,A]
   ·simp[u,A]
 simp only[dn,B,C,and_self,decide_true,if_true,Int.toNat_natCast,Option.isSome,Option.getD];rw[hc];unfold Lr;cases base with
 | false=>simp only[Bool.false_and,Bool.false_eq_true,if_false,if_true,Option.bind,c0,v,z,g2,and_self,bM (show j≤9000000000000000000 by omega)]
 | true =>
  simp only[Bool.true_and,if_true,Option.bind,c0];split
  ·rw[bM (by omega)]
  ·simp only[v,z,g2,and_self,if_true,bM (show j≤9000000000000000000 by omega)]
theorem HC{m:Z5}{k:Nat}(h:Mo m k){w:QK}(B:w.length≤4096):∃r,iter (dn (some m) w) (([]:QK),([]:QK),false,(0:Int))=some r ∧
  r.1.length=r.2.length∧r.1.length≤w.length∧(∀i,i<r.1.length→0≤r.1.getD i 0∧r.1.getD i 0<(w.length:Int))∧∀i,i<r.2.length→0≤r.2.getD i 0∧r.2.getD i 0<(k:Int):=by
 have snoc:∀ {l:QK} {x hi:Int},(∀i,i<l.length→0≤l.getD i 0∧l.getD i 0<hi)→0≤x→x<hi→∀i,i<(l++[x]).length→0≤(l++[x]).getD i 0∧(l++[x]).getD i 0<hi:=fun {l x hi} hl C h1 i u=>by
  rcases Nat.lt_or_ge i l.length with z | z
  ·rw[List.getD_eq_getElem?_getD,List.getElem?_append_left z,←List.getD_eq_getElem?_getD];exact hl i z
  ·have:i=l.length:=by simp at u;omega
   subst this;simp[C,h1]
 refine dG (fun s:QK×QK×Bool×Int=>∃j:Nat,s.2.2.2=(j:Int)∧j≤w.length∧s.1.length=s.2.1.length∧s.1.length≤j∧(∀i,i<s.1.length→0≤s.1.getD i 0∧s.1.getD i 0<(w.length:Int))∧∀i,i<s.2.1.length→0≤s.2.1.getD i 0∧s.2.1.getD i 0<(k:Int)) (fun s=>w.length - s.2.2.2.toNat) _ ?_
  ⟨0,rfl,by omega,rfl,by simp,fun i hi=>by simp at hi,fun i hi=>by simp at hi⟩
 rintro⟨at_,D,base,v⟩ ⟨j,rfl,M,h1,h2,p,q⟩;simp only at h1 h2 p q;by_cases A:j<w.length
 ·left
  refine⟨_,CZ h B A base h1 h2,?_,?_⟩
  ·split
   ·exact⟨j+1,rfl,by omega,h1,by simp only;omega,p,q⟩
   ·obtain⟨c0,N⟩:=Bm h.cls (w.getD j 0);have E:=h.NR;obtain⟨I,J⟩:=h.tr (qb m (w.getD j 0)).toNat (by omega);exact⟨j+1,rfl,by omega,by simp[h1],by simp;omega,snoc p (by omega) (by omega),snoc q I J⟩
  ·split <;> simp only[Int.toNat_natCast] <;> omega
 ·right
  obtain rfl:j=w.length:=by omega
  refine⟨(at_,D),?_,h1,by simp only;omega,p,q⟩;have L:¬((w.length:Int)<(w.length:Int)):=by omega
  simp only[dn,L,decide_false,Bool.false_eq_true,if_false]
def I2(n:Nat)(out:QK):Prop:=out.length=n+1∧out.getD n 0=2∧∀i,0≤out.getD i 0∧out.getD i 0≤2
theorem I2.set{n:Nat}{out:QK}(h:I2 n out){i:Nat}(hi:i<n){v:Int}(q:0≤v)(h2:v≤2):I2 n (out.set i v):=by
 obtain⟨a,b,c⟩:=h;refine⟨by simp[a],by rw[kV (by omega),if_neg (by omega)];exact b,fun j=>?_⟩;rw[kV (by omega)];split
 ·exact⟨q,h2⟩
 ·exact c j
theorem Hy{m:Z5}{k:Nat}(h:Mo m k){n:Nat}(hn:n≤4096){at_ q u:QK}(h1:at_.length≤n)(ha:∀i,i<at_.length→0≤at_.getD i 0∧at_.getD i 0<(n:Int))
  (l3:q.length=at_.length+1) (V:∀i,0≤q.getD i 0∧q.getD i 0<(m.2.1.1.length:Int)) (l7:u.length=at_.length+1) (X:∀i,0≤u.getD i 0∧u.getD i 0<(m.2.2.1.length:Int)) {out:QK} (Y:I2 n out) :
  ∃r,iter (dr (some m) at_ q u) (out,(1:Int))=some r∧I2 n r:=by
 refine dG (fun s:QK×Int=>∃j:Nat,s.2=(j:Int)∧1≤j∧I2 n s.1) (fun s=>at_.length - s.2.toNat) _ ?_ ⟨1,rfl,by omega,Y⟩;rintro⟨o,v⟩ ⟨j,rfl,hj,z⟩;simp only at z;by_cases x:j<at_.length
 ·left
  obtain⟨a0,a1⟩:=ha j x;obtain⟨C,b1⟩:=V j;obtain⟨c0,c1⟩:=X (at_.length - j);have Z:=h.al;have a2:=h.bl;have B:(j:Int)<(at_.length:Int):=by omega
  have D:0≤(j:Int):=by omega
  have E:(j:Int)<(q.length:Int):=by omega
  have I:i64.wrap ((at_.length:Int) - (j:Int))=((at_.length - j:Nat):Int):=by rw[wrap_i64 (by omega) (by omega)];omega
  have J:0≤((at_.length - j:Nat):Int):=by omega
  have L:((at_.length - j:Nat):Int)<(u.length:Int):=by omega
  have M:q.getD j 0<(m.2.1.2.length:Int):=by omega
  have N:u.getD (at_.length - j) 0<(m.2.2.2.length:Int):=by omega
  have O:at_.getD j 0<(o.length:Int):=by rw[z.1];omega
  have A:(at_.getD j 0).toNat<o.length:=by rw[z.1];omega
  have p:=z.set (i:=(at_.getD j 0).toNat) (by omega) (v:=1) (by omega) (by omega);by_cases hb:(bitsOf .and .u32 (m.2.1.2.getD (q.getD j 0).toNat 0) (m.2.2.2.getD (u.getD (at_.length - j) 0).toNat 0) != 0)=true
  ·obtain⟨z0,z1⟩:=h.tz _ _ (by omega) (by omega) hb;obtain⟨d0,d1⟩:=h.Gx (pU (bitsOf .and .u32 (m.2.1.2.getD (q.getD j 0).toNat 0) (m.2.2.2.getD (u.getD (at_.length - j) 0).toNat 0))).toNat;refine⟨((o.set (at_.getD j 0).toNat 1).set (at_.getD j 0).toNat (m.1.2.2.2.2.getD (pU (bitsOf .and .u32 (m.2.1.2.getD (q.getD j 0).toNat 0) (m.2.2.2.getD (u.getD (at_.length - j) 0).toNat 0))).toNat (0,((Tree.node 0 0 []),(Tree.node 0 0 [])))).1,((j+1:Nat):Int)),?_,⟨j+1,rfl,by omega,p.set (i:=(at_.getD j 0).toNat) (by omega) d0 d1⟩,by simp only[Int.toNat_natCast];omega⟩;simp only[dr,B,D,E,I,J,L,M,N,O,A,a0,C,c0,hb,z0,z1,gC,List.length_set,x,and_self,decide_true,if_true,Option.bind,Option.isSome,Option.getD,Int.toNat_natCast,bM (show j≤9000000000000000000 by omega)]
  ·refine⟨(o.set (at_.getD j 0).toNat 1,((j+1:Nat):Int)),?_,⟨j+1,rfl,by omega,p⟩,by simp only[Int.toNat_natCast];omega⟩;simp only[dr,B,D,E,I,J,L,M,N,O,A,a0,C,c0,hb,x,and_self,decide_true,if_true,if_false,Bool.false_eq_true,Option.bind,Option.isSome,Option.getD,Int.toNat_natCast,bM (show j≤9000000000000000000 by omega)]
 ·right
  refine⟨o,?_,z⟩;have B:¬((j:Int)<(at_.length:Int)):=by omega
  simp only[dr,B,decide_false,Bool.false_eq_true,if_false]
theorem yK{m:Z5}{k:Nat}(h:Mo m k){w:QK}(u:w.length≤4096):∃out,eL (some m) w=some out∧I2 w.length out:=by
 obtain⟨⟨at_,j⟩,A,v,x,z,p⟩:=HC h u;simp only at v x z p;obtain⟨N,B,O,C⟩:=vQ h.a m.2.1.2 (w:=j) (by omega) p;obtain⟨V,D,E,I⟩:=vQ h.b m.2.2.2 (w:=j.reverse) (by simp;omega) (fun i hi=>by
  rw[List.length_reverse]at hi;rw[A8 hi];exact p _ (by omega))
 have J:I2 w.length ((List.replicate (w.length+1) (0:Int)).set w.length 2):=by
  refine⟨by simp,by rw[kV (by simp),if_pos rfl],fun i=>?_⟩;rw[kV (by simp)];split
  ·omega
  ·rcases Nat.lt_or_ge i (w.length+1)with hi | hi
   ·rw[show(List.replicate (w.length+1) (0:Int)).getD i 0=0 by simp[List.getD_eq_getElem?_getD,hi]];omega
   ·rw[List.getD_eq_getElem?_getD,List.getElem?_eq_none (by simpa using hi)];simp
 obtain⟨r,L,M⟩:=Hy h u x z (by omega) C (by simpa [v]using E) I J;refine⟨r,?_,M⟩;have q:i64.wrap ((w.length:Int)+1)=((w.length+1:Nat):Int):=bM (by omega);unfold eL;simp only[q,Int.toNat_natCast,A,B,Dh (show j.length≤1000000 by omega),D,Option.bind,Option.isNone,Option.isSome,Option.getD,Bool.false_eq_true,if_false,if_true,L];rw[if_pos (by omega),if_pos (by simp;omega),if_pos (by simp)]
theorem Jm{l:List (Int×Tree×Tree)}(h:∀x∈l,0≤x.1∧x.1≤2)(i:Nat):0≤(l.getD i (0,((Tree.node 0 0 []),(Tree.node 0 0 [])))).1∧(l.getD i (0,((Tree.node 0 0 []),(Tree.node 0 0 [])))).1≤2:=by
 rcases Nat.lt_or_ge i l.length with hi | hi
 ·rw[kF hi];exact h _ (List.getElem_mem hi)
 ·rw[List.getD_eq_getElem?_getD,List.getElem?_eq_none hi];simp
abbrev cO:=Int×Int×Int×Int
abbrev XZ:=List cO
def sW:Int→XZ→Int→Prop
 | a,[],n=>a=n
 | a,x::r,n=>x.1=a∧1≤x.2.1∧0≤x.2.2.1∧x.2.2.1≤2∧0≤x.2.2.2∧x.2.2.2≤2∧sW (a+x.2.1) r n
theorem sW.snoc{x:cO}:∀ {a m:Int} {s:XZ},sW a s m→x.1=m→1≤x.2.1→0≤x.2.2.1→x.2.2.1≤2→0≤x.2.2.2→x.2.2.2≤2→sW a (s++[x]) (m+x.2.1)
 | a,m,[],h,h1,h2,j,p,q,u=>by
  simp only[sW]at h;subst h;exact⟨h1,h2,j,p,q,u,rfl⟩
 | a,m,y::s,h,h1,h2,j,p,q,u=>⟨h.1,h.2.1,h.2.2.1,h.2.2.2.1,h.2.2.2.2.1,h.2.2.2.2.2.1,h.2.2.2.2.2.2.snoc h1 h2 j p q u⟩
theorem sW.cut{x:cO}:∀ {a m:Int} {s:XZ},sW a (s++[x]) m→sW a s x.1∧1≤x.2.1∧0≤x.2.2.1∧x.2.2.1≤2∧0≤x.2.2.2∧x.2.2.2≤2∧m=x.1+x.2.1
 | a,m,[],h=>by
  obtain⟨h1,h2,j,p,q,u,v⟩:=h;simp only[sW]at v ⊢;exact⟨h1.symm,h2,j,p,q,u,by omega⟩
 | a,m,y::s,h=>by
  obtain⟨h1,h2,j,p,q,u,v⟩:=h;obtain⟨z,A⟩:=sW.cut v;exact⟨⟨h1,h2,j,p,q,u,z⟩,A⟩
theorem sW.le:∀ {a n:Int} {s:XZ},sW a s n→a≤n
 | a,n,[],h=>by simp only[sW]at h;omega
 | a,n,x::s,h=>by
  have:=sW.le h.2.2.2.2.2.2;have:=h.2.1;omega
theorem lr{α:Type}(p:List α)(x d:α):(p++[x]).getD p.length d=x:=by simp[List.getD_eq_getElem?_getD]
theorem CI{α:Type}(p:List α)(x y:α):(p++[x]).set p.length y=p++[y]:=by
 rw[List.set_append_right _ _ (Nat.le_refl _),Nat.sub_self];rfl
theorem lL{i:Nat}(h:i≤9000000000000000000):i64.wrap (((i+1:Nat):Int) - 1)=(i:Int):=by rw[wrap_i64 (by omega) (by omega)];omega
def vA(r:Int):Int:=if r=32 then 1 else if r=9 then 2 else 0
theorem JY(r:Int):lq r=some (vA r):=by
 unfold lq vA;by_cases h1:r=32
 ·simp[h1]
 ·by_cases h2:r=9
  ·simp[h2]
  ·simp[h1,h2]
def Gj(j:QK)(k:Nat):Bool:=k == 0 || (decide (k<j.length) && j.getD k 0 != 0)
theorem Dq{t:Option ((fh 4352)×List (fh 256))}{f:Int→Int}(ht:oq t f){s:Qx}(Z:s.length≤4096)(j:QK){k:Nat}(hk:k<s.length){cl:XZ}{st:QK}(hcl:cl.length≤k)(p:st.length=cl.length):
  (Gj j k=true→dz s j t (cl,st,(k:Int))=some (.inl (cl++[((s.getD k (0,(0,0))).2.1,(i64.wrap (0+(s.getD k (0,(0,0))).2.2),(max 0 (min (f (s.getD k (0,(0,0))).1) 2),vA (s.getD k (0,(0,0))).1)))],st++[(k:Int)],((k+1:Nat):Int)))):=by
 intro hb;have q:bf t=fun r=>some (f r):=ht
 have C:(k:Int)<(s.length:Int):=by omega
 have A:0≤(k:Int):=by omega
 have D:(if((k:Int) == (0:Int))=true then some true
   else if decide ((k:Int)<(j.length:Int))=true then(if True∧(k:Int)<(j.length:Int)then some (j.getD k (0:Int) != (0:Int))else none)else some false)=some true:=by
  unfold Gj at hb;by_cases B:k=0
  ·subst B;rfl
  ·have E:((k:Int) == 0)=false:=by rw[beq_eq_false_iff_ne];omega
   have I:(k == 0)=false:=by rw[beq_eq_false_iff_ne];exact B
   rw[I,Bool.false_or,Bool.and_eq_true]at hb;have J:(k:Int)<(j.length:Int):=by have:=of_decide_eq_true hb.1;omega
   simp only[E,J,Bool.false_eq_true,if_false,decide_true,and_self,if_true,hb.2]
 have L:i64.wrap ((k:Int)+1)=((k+1:Nat):Int):=bM (by omega);have M:∀x:cO,(cl++[x]).length=cl.length+1:=fun x=>by simp
 have N:∀x:Int,(st++[x]).length=cl.length+1:=fun x=>by simp[p]
 have O:i64.wrap (((cl.length+1:Nat):Int) - 1)=(cl.length:Int):=lL (by omega);have V:(cl.length:Int)<((cl.length+1:Nat):Int):=by omega
 have X:cl.length<cl.length+1:=by omega
 have u:0≤(cl.length:Int):=by omega
 have v:(st++[(k:Int)]).getD cl.length 0=(k:Int):=by rw[←p];exact lr _ _ _
 have z:((k:Int) != (k:Int))=false:=by simp
 have Y:∀x:cO,(cl.length+([x]:XZ).length)*32≤140737488355328∧cl.length+([x]:XZ).length≤9223372036854775807:=fun x=>by simp;omega
 have g2:(st.length+([(k:Int)]:QK).length)*8≤140737488355328∧st.length+([(k:Int)]:QK).length≤9223372036854775807:=by simp;omega
 simp only[dz,C,A,and_self,decide_true,if_true,Int.toNat_natCast];rw[D];simp only[A,and_self,decide_true,if_true,Option.bind,Int.toNat_natCast,JY,Y,g2,L,M,N,O,V,X,u,v,z,lr,CI,Bool.false_eq_true,if_false,q]
theorem FR{t:Option ((fh 4352)×List (fh 256))}{f:Int→Int}(ht:oq t f){s:Qx}(hs:s.length≤4096)(j:QK){k:Nat}(hk:k<s.length){p:XZ}{c:cO}{q:QK}{y:Int}(hp:p.length≤k)(C:q.length=p.length)(I:y≠(k:Int))(hb:Gj j k=false):
  dz s j t (p++[c],q++[y],(k:Int))=some (.inl (p++[(c.1,(i64.wrap (c.2.1+(s.getD k (0,(0,0))).2.2),(max c.2.2.1 (min (f (s.getD k (0,(0,0))).1) 2),0)))],q++[y],((k+1:Nat):Int))):=by
 have u:bf t=fun r=>some (f r):=ht
 have J:(k:Int)<(s.length:Int):=by omega
 have D:0≤(k:Int):=by omega
 have L:(if((k:Int) == (0:Int))=true then some true
   else if decide ((k:Int)<(j.length:Int))=true then(if True∧(k:Int)<(j.length:Int)then some (j.getD k (0:Int) != (0:Int))else none)else some false)=some false:=by
  unfold Gj at hb;rw[Bool.or_eq_false_iff]at hb;have h0:k≠0:=by have:=hb.1;rw[beq_eq_false_iff_ne]at this;exact this
  have E:((k:Int) == 0)=false:=by rw[beq_eq_false_iff_ne];omega
  by_cases M:k<j.length
  ·have v:(k:Int)<(j.length:Int):=by omega
   have N:(j.getD k 0 != 0)=false:=by have:=hb.2;rw[decide_eq_true M,Bool.true_and]at this;exact this
   simp only[E,v,Bool.false_eq_true,if_false,decide_true,and_self,if_true,N]
  ·have v:¬((k:Int)<(j.length:Int)):=by omega
   simp only[E,v,Bool.false_eq_true,if_false,decide_false]
 have O:i64.wrap ((k:Int)+1)=((k+1:Nat):Int):=bM (by omega);have V:∀x:cO,(p++[x]).length=p.length+1:=fun x=>by simp
 have X:∀x:Int,(q++[x]).length=p.length+1:=fun x=>by simp[C]
 have Y:i64.wrap (((p.length+1:Nat):Int) - 1)=(p.length:Int):=lL (by omega);have Z:(p.length:Int)<((p.length+1:Nat):Int):=by omega
 have q9:p.length<p.length+1:=by omega
 have z:0≤(p.length:Int):=by omega
 have A:(q++[y]).getD p.length 0=y:=by rw[←C];exact lr _ _ _
 have B:(y != (k:Int))=true:=by rw[bne_iff_ne];exact I
 simp only[dz,J,D,and_self,decide_true,if_true,Int.toNat_natCast];rw[L];simp only[D,and_self,decide_true,if_true,Option.bind,Int.toNat_natCast,O,V,X,Y,Z,q9,z,A,B,lr,CI,Bool.false_eq_true,if_false,u]
theorem Cv.split{a n:Int}:∀ {s:Qx} {k:Nat},Cv a s n→k<s.length→Cv a (s.take k) (s.getD k (0,(0,0))).2.1∧1≤(s.getD k (0,(0,0))).2.2∧(s.getD k (0,(0,0))).2.2≤4
 | x::s,0,h,_=>⟨by simp only[List.take_zero,Cv,List.getD_cons_zero];exact h.1.symm,h.2.1,h.2.2.1⟩
 | x::s,k+1,h,hk=>by
  obtain⟨q,z,B⟩:=Cv.split h.2.2.2 (show k<s.length by simpa using hk);simp only[List.take_succ_cons,List.getD_cons_succ];exact⟨⟨h.1,h.2.1,h.2.2.1,q⟩,z,B⟩
theorem Cv.range{a n:Int}:∀ {s:Qx},Cv a s n→a+(s.length:Int)≤n∧n≤a+4*(s.length:Int)
 | [],h=>by simp only[Cv]at h;simp;omega
 | x::s,h=>by
  have:=h.2.2.2.range;have:=h.2.1;have:=h.2.2.1;simp only[List.length_cons];omega
theorem Cv.uniq{a n m:Int}:∀ {s:Qx},Cv a s n→Cv a s m→n=m
 | [],h,h'=>by simp only[Cv]at h h';omega
 | x::s,h,h'=>Cv.uniq h.2.2.2 h'.2.2.2
theorem vl{α:Type}{l:List α}(h:0<l.length):∃p x,l=p++[x]:=by
 have j:l≠[]:=fun e=>by simp[e]at h
 exact⟨l.dropLast,l.getLast j,(List.dropLast_concat_getLast j).symm⟩
theorem lO{l:QK}{x d:Int}{i:Nat}:(l++[x]).getD i d=if i<l.length then l.getD i d else if i=l.length then x else d:=by
 by_cases h:i<l.length
 ·rw[if_pos h,List.getD_eq_getElem?_getD,List.getElem?_append_left h,←List.getD_eq_getElem?_getD]
 ·rw[if_neg h];by_cases e:i=l.length
  ·rw[if_pos e,e];exact lr _ _ _
  ·rw[if_neg e,List.getD_eq_getElem?_getD,List.getElem?_eq_none (by simp;omega)];rfl
structure CM(s:Qx)(k:Nat)(a:Int)(cl:XZ)(st:QK):Prop where
 Lj:sW 0 cl a
 M5:Cv 0 (s.take k) a
 len:st.length=cl.length
 le:cl.length≤k
 at_:∀i,i<st.length→0≤st.getD i 0∧st.getD i 0<(k:Int)
 some_:0<k→0<cl.length
 zero:0<cl.length→st.getD 0 0=0
theorem FO{t:Option ((fh 4352)×List (fh 256))}{f:Int→Int}(ht:oq t f){s:Qx}{n:Int}(hc:Cv 0 s n)(hn:n≤4096)(u:QK):
  ∃r,iter (dz s u t) (([]:XZ),([]:QK),(0:Int))=some r∧CM s s.length n r.1 r.2:=by
 have hr:=hc.range;have C:s.length≤4096:=by omega
 refine dG (fun z:XZ×QK×Int=>∃(k:Nat) (a:Int),z.2.2=(k:Int)∧k≤s.length∧0≤a∧a≤4*(k:Int)∧CM s k a z.1 z.2.1) (fun z=>s.length - z.2.2.toNat) _ ?_
  ⟨0,0,rfl,by omega,by omega,by omega,⟨rfl,rfl,rfl,by simp,fun i hi=>by simp at hi,fun h=>by omega,fun h=>by simp at h⟩⟩
 rintro⟨cl,st,v⟩ ⟨k,a,rfl,hk,O,ha,j⟩;simp only at j;by_cases A:k<s.length
 ·left
  obtain⟨V,X,Y⟩:=hc.split A;have D:(s.getD k (0,(0,0))).2.1=a:=V.uniq j.M5;have E:Cv 0 (s.take (k+1)) (a+(s.getD k (0,(0,0))).2.2):=by rw[qw (d:=(0,(0,0))) A];exact j.M5.snoc D X Y
  have M:∀x:Int,0≤x→x≤2→0≤max x (min (f (s.getD k (0,(0,0))).1) 2)∧max x (min (f (s.getD k (0,(0,0))).1) 2)≤2:=fun x h0 h1=>by omega
  have I:0≤vA (s.getD k (0,(0,0))).1∧vA (s.getD k (0,(0,0))).1≤2:=by unfold vA;split;omega;split <;> omega
  cases hb:Gj u k with
  | true =>
   refine⟨_,Dq ht C u A j.le j.len hb,⟨k+1,a+(s.getD k (0,(0,0))).2.2,rfl,by omega,by omega,by omega,⟨?_,E,by simp[j.len],by have:=j.le;simp;omega,fun i hi=>?_,fun _=>by simp,fun _=>?_⟩⟩,by simp only[Int.toNat_natCast];omega⟩
   ·have:=j.Lj.snoc (x:=((s.getD k (0,(0,0))).2.1,(i64.wrap (0+(s.getD k (0,(0,0))).2.2),(max 0 (min (f (s.getD k (0,(0,0))).1) 2),vA (s.getD k (0,(0,0))).1)))) D (by simp only;rw[wrap_i64 (by omega) (by omega)];omega) (by simp only;omega) (by simp only;omega) I.1 I.2;simp only at this;rw[wrap_i64 (by omega) (by omega),Int.zero_add]at this;simp only;rw[wrap_i64 (by omega) (by omega),Int.zero_add];exact this
   ·simp only at hi ⊢;rw[lO];split
    ·rename_i h;have:=j.at_ i h;omega
    ·split <;> omega
   ·simp only;rw[lO];split
    ·rename_i h;exact j.zero (by have:=j.len;omega)
    ·rename_i h;have hl:=j.len;have Z:cl.length=0:=by omega
     have B:k=0:=by
      rcases Nat.eq_zero_or_pos k with e | e
      ·exact e
      ·have:=j.some_ e;omega
     subst B;split <;> rfl
  | false =>
   have B:0<k:=by
    rcases Nat.eq_zero_or_pos k with e | e
    ·subst e;simp[Gj]at hb
    ·exact e
   have hcl:=j.some_ B;have hl:=j.len;obtain⟨p,c,rfl⟩:=vl hcl;obtain⟨q,y,rfl⟩:=vl (show 0<st.length by omega);have J:q.length=p.length:=by simpa using hl
   have hy:=j.at_ q.length (by simp);rw[lr]at hy;have L:p.length≤k:=by have:=j.le;simp at this;omega
   obtain⟨N,d2,d3,d4,d5,d6,d7⟩:=j.Lj.cut;refine⟨_,FR ht C u A L J (by omega) hb,⟨k+1,a+(s.getD k (0,(0,0))).2.2,rfl,by omega,by omega,by omega,⟨?_,E,by simp[J],by have:=j.le;simp at this ⊢;omega,fun i hi=>?_,fun _=>by simp,fun _=>j.zero (by simp)⟩⟩,by simp only[Int.toNat_natCast];omega⟩
   ·have a1:=N.le;have hw:i64.wrap (c.2.1+(s.getD k (0,(0,0))).2.2)=c.2.1+(s.getD k (0,(0,0))).2.2:=wrap_i64 (by omega) (by omega);obtain⟨m1,m2⟩:=M c.2.2.1 d3 d4;have:=N.snoc (x:=(c.1,(c.2.1+(s.getD k (0,(0,0))).2.2,(max c.2.2.1 (min (f (s.getD k (0,(0,0))).1) 2),0)))) rfl (by simp only;omega) m1 m2 (by simp only;omega) (by simp only;omega);simp only at this;simp only;rw[hw,d7,show c.1+c.2.1+(s.getD k (0,(0,0))).2.2=c.1+(c.2.1+(s.getD k (0,(0,0))).2.2) by omega];exact this
   ·have:=j.at_ i hi;exact⟨this.1,by have:=this.2;simp only;omega⟩
 ·right
  obtain rfl:k=s.length:=by omega
  refine⟨(cl,st),?_,?_⟩
  ·have q1:¬((s.length:Int)<(s.length:Int)):=by omega
   simp only[dz,q1,decide_false,Bool.false_eq_true,if_false]
  ·have:=j.M5;rw[List.take_length]at this;have e:n=a:=hc.uniq this;subst e;exact j
end
end Go.Proofs.YtobbjfkfmdiklaaGreatDoor.T
