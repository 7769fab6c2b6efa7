import Derived.Test.YtmcemnfjddoejaaGreatDoorTv23bm
namespace Go.Proofs.YtmcemnfjddoejaaGreatDoor.T
open Go Go.Tv Go.Proofs
open Go.IntKind (i64 u32)
noncomputable section
theorem bO{i:Nat}(h:i≤9000000000000000000):i64.wrap ((i:Int)+1)=((i+1:Nat):Int):=by rw[wrap_i64 (by omega) (by omega)];rfl
theorem la{l:QK}{k:Nat}(hk:k<l.length)(v:Int)(j:Nat):(l.set k v).getD j 0=if k=j then v else l.getD j 0:=by
 simp only[List.getD_eq_getElem?_getD,List.getElem?_set];by_cases e:k=j
 ·rw[if_pos e,if_pos e,if_pos (by omega)];rfl
 ·rw[if_neg e,if_neg e]
theorem I3{l m:QK}(h:l.length=m.length)(e:∀i,i<l.length→l.getD i 0=m.getD i 0):l=m :=
 List.ext_getElem h fun i c f=>by
  have:=e i c;rwa [jI c,jI f]at this
theorem DC{w:QK}{i:Nat}(h:i<w.length):w.reverse.getD i 0=w.getD (w.length - 1 - i) 0:=by
 rw[jI (by simpa using h),jI (by omega),List.getElem_reverse]
theorem EK{w:QK}(hl:w.length≤1000000):cb w=some w.reverse:=by
 have key:∃s,iter bM (w,0,i64.wrap ((w.length:Int) - 1))=some s∧s=w.reverse:=by
  rw[wrap_i64 (by omega) (by omega)];refine dT (I:=fun q=>∃i:Nat,q.2.1=(i:Int)∧q.2.2=(w.length:Int) - 1 - i∧i≤w.length∧2*i≤w.length+1∧q.1.length=w.length∧∀p,p<w.length→q.1.getD p 0=if p<i∨w.length≤p+i then w.getD (w.length - 1 - p) 0 else w.getD p 0)
   (μ:=fun q=>w.length - q.2.1.toNat) _ ?_ ⟨0,rfl,by simp,Nat.zero_le _,by omega,rfl,fun p c=>by rw[if_neg (by omega)]⟩
  rintro⟨s,M,N⟩ ⟨i,e,f,hi,O,x,c⟩;dsimp only at e f x c;subst e f;by_cases B:(i:Int)<(w.length:Int) - 1 - i
  ·obtain⟨j,C⟩:∃j:Nat,(w.length:Int) - 1 - i=(j:Int):=⟨w.length - 1 - i,by omega⟩;have D:j<w.length:=by omega
   have E:s.getD i 0=w.getD i 0:=by rw[c i (by omega),if_neg (by omega)]
   have J:s.getD j 0=w.getD j 0:=by rw[c j (by omega),if_neg (by omega)]
   refine .inl ⟨((s.set i (s.getD j 0)).set j (s.getD i 0),((i+1:Nat):Int),((w.length:Int) - 1 - ((i+1:Nat):Int))),?_,⟨i+1,rfl,rfl,by omega,by omega,by simp[x],fun p u=>?_⟩,by simp only[Int.toNat_natCast];omega⟩
   ·unfold bM;dsimp only;rw[C,if_pos (by simp;omega),if_pos (by omega),Int.toNat_natCast,Int.toNat_natCast,if_pos (by omega),if_pos (by omega),if_pos (by omega),if_pos (by omega),if_pos (by omega),if_pos (by rw[List.length_set];omega),if_pos (by rw[List.length_set];omega),bO (by omega),
     wrap_i64 (by omega) (by omega)]
    have:(j:Int) - 1=(w.length:Int) - 1 - ((i+1:Nat):Int):=by omega
    rw[this]
   ·dsimp only;rw[la (by rw[List.length_set];omega),la (by omega),E,J];by_cases z:j=p
    ·subst z;rw[if_pos rfl,if_pos (by omega)];congr 1;omega
    ·rw[if_neg z];by_cases A:i=p
     ·subst A;rw[if_pos rfl,if_pos (by omega)];congr 1;omega
     ·rw[if_neg A,c p u];by_cases v:p<i∨w.length≤p+i
      ·rw[if_pos v,if_pos (by omega)]
      ·rw[if_neg v,if_neg (by omega)]
  ·refine .inr ⟨s,?_,I3 (by simp[x]) fun p u=>?_⟩
   ·unfold bM;dsimp only;rw[if_neg (by simp;omega)]
   ·rw[c p (by omega),DC (by omega)];by_cases v:p<i∨w.length≤p+i
    ·rw[if_pos v]
    ·rw[if_neg v];congr 1;omega
 obtain⟨s,L,rfl⟩:=key;unfold cb;rw[L];rfl
structure WA(a:QZ)(k:Nat):Prop where
 pos:0<a.length
 len:∀i,i<a.length→k≤(a.getD i []).length
 val:∀i c,i<a.length→c<k→0≤(a.getD i []).getD c 0∧(a.getD i []).getD c 0<(a.length:Int)
theorem xJ{a:QZ}{k:Nat}(h:WA a k)(b:QK){w:QK}(V:w.length≤4096)(z:∀i,i<w.length→0≤w.getD i 0∧w.getD i 0<(k:Int)):
  ∃r,nf a b w=some r∧r.length=w.length+1∧∀i,0≤r.getD i 0∧r.getD i 0<(a.length:Int):=by
 have A:=h.pos;obtain⟨r,B,C⟩:=dT (body:=jS a w) (fun s=>∃j st:Nat,s.2.2=(j:Int)∧s.2.1=(st:Int)∧j≤w.length∧st<a.length∧s.1.length=j+1∧∀i,0≤s.1.getD i 0∧s.1.getD i 0<(a.length:Int)) (fun s=>w.length - s.2.2.toNat)
  (fun r=>r.length=w.length+1∧∀i,0≤r.getD i 0∧r.getD i 0<(a.length:Int)) (by
  rintro⟨out,X,v⟩ ⟨j,st,rfl,rfl,Y,e,c,f⟩;simp only at c f;by_cases p:j<w.length
  ·left
   obtain⟨D,Z⟩:=z j p;have x:=h.len st e;obtain⟨v1,E⟩:=h.val st (w.getD j 0).toNat e (by omega);have q:(j:Int)<(w.length:Int):=by omega
   have I:0≤(j:Int):=by omega
   have J:¬(w.getD j 0<0):=by omega
   have L:0≤(st:Int):=by omega
   have M:(st:Int)<(a.length:Int):=by omega
   have N:¬(w.getD j 0≥((a.getD st []).length:Int)):=by omega
   have O:w.getD j 0<((a.getD st []).length:Int):=by omega
   refine⟨(out++[(a.getD st []).getD (w.getD j 0).toNat 0],(a.getD st []).getD (w.getD j 0).toNat 0,((j+1:Nat):Int)),?_,⟨j+1,((a.getD st []).getD (w.getD j 0).toNat 0).toNat,rfl,by simp only;omega,by omega,by omega,by simp[c],fun i=>?_⟩,by simp only[Int.toNat_natCast];omega⟩
   ·simp only[jS,q,I,J,L,M,N,O,D,and_self,decide_true,decide_false,if_true,if_false,Bool.false_eq_true,Int.toNat_natCast,Option.bind,List.length_singleton,c];rw[if_pos (by omega),bO (by omega)]
   ·simp only;rcases Nat.lt_or_ge i out.length with hi | hi
    ·rw[List.getD_eq_getElem?_getD,List.getElem?_append_left hi,←List.getD_eq_getElem?_getD];exact f i
    ·rw[List.getD_eq_getElem?_getD,List.getElem?_append_right hi];cases hq:i - out.length with
     | zero=>simpa using⟨v1,E⟩
     | succ n=>simp;omega
  ·right
   obtain rfl:j=w.length:=by omega
   refine⟨out,?_,c,f⟩;have q:¬((w.length:Int)<(w.length:Int)):=by omega
   simp only[jS,q,decide_false,Bool.false_eq_true,if_false]) (s:=([0],0,0)) ⟨0,0,rfl,rfl,by omega,A,rfl,fun i=>by
    cases i with
    | zero=>simp;omega
    | succ n=>simp;omega⟩
 refine⟨r,?_,C⟩;unfold nf;have u:((a.length:Int) == 0)=false:=by rw[beq_eq_false_iff_ne];omega
 rw[u,if_neg (by decide),B];rfl
structure Mo(m:Z6)(k:Nat):Prop where
 cls:0<m.1.1.length
 OO:m.1.1.length≤m.1.2.2.2.1.length
 tr:∀i,i<m.1.2.2.2.1.length→0≤m.1.2.2.2.1.getD i 0∧m.1.2.2.2.1.getD i 0<(k:Int)
 a:WA m.2.1.1 k
 al:m.2.1.1.length≤m.2.1.2.length
 b:WA m.2.2.1 k
 bl:m.2.2.1.length≤m.2.2.2.length
 tz:∀s t:Nat,s<m.2.1.1.length→t<m.2.2.1.length→(bitsOf .and .u32 (m.2.1.2.getD s 0) (m.2.2.2.getD t 0) != 0)=true →
  0≤qy (bitsOf .and .u32 (m.2.1.2.getD s 0) (m.2.2.2.getD t 0))∧qy (bitsOf .and .u32 (m.2.1.2.getD s 0) (m.2.2.2.getD t 0))<(m.1.2.2.2.2.length:Int)
 JE:∀i,0≤(m.1.2.2.2.2.getD i (0,((Tree.node 0 0 []),(Tree.node 0 0 [])))).1∧(m.1.2.2.2.2.getD i (0,((Tree.node 0 0 []),(Tree.node 0 0 [])))).1≤2
def qS(m:Z6)(x:Int):Int:=if x<0∨(m.1.1.length:Int)≤x then 0 else x
def L5(x c:Int):Bool:=bitsOf .and .u32 (Int.fdiv x (2 ^ (min c.toNat u32.bits))) 1 == 1
theorem CX{m:Z6}(h:0<m.1.1.length)(x:Int):0≤qS m x∧qS m x<(m.1.1.length:Int):=by
 unfold qS;split
 ·omega
 ·omega
theorem Ej{m:Z6}{k:Nat}(h:Mo m k){w:QK}(C:w.length≤4096){j:Nat}(D:j<w.length){at_ c:QK}(base:Bool)(E:at_.length=c.length)(I:at_.length≤j):
  dh (some m) w (at_,c,base,(j:Int))=some (.inl (if(base && L5 m.1.2.1 (qS m (w.getD j 0)))=true then(at_,c,base,((j+1:Nat):Int))else
   (at_++[(j:Int)],c++[m.1.2.2.2.1.getD (qS m (w.getD j 0)).toNat 0],L5 m.1.2.2.1 (qS m (w.getD j 0)),((j+1:Nat):Int)))):=by
 have v:(j:Int)<(w.length:Int):=by omega
 have z:0≤(j:Int):=by omega
 obtain⟨c0,J⟩:=CX h.cls (w.getD j 0);have A:=h.OO;have p:qS m (w.getD j 0)<(m.1.2.2.2.1.length:Int):=by omega
 have q:(at_.length+([(j:Int)]:QK).length)*8≤140737488355328∧at_.length+([(j:Int)]:QK).length≤9223372036854775807:=by simp;omega
 have g2:∀x:Int,(c.length+([x]:QK).length)*8≤140737488355328∧c.length+([x]:QK).length≤9223372036854775807:=fun x=>by simp;omega
 have B:∀ {β:Type} (K:Int→Option β),(((if decide (w.getD j 0<0)=true then some true else some (decide (w.getD j 0≥(m.1.1.length:Int)))):Option Bool).bind fun e=>((if e=true then some (0:Int)else some (w.getD j 0))).bind K)=K (qS m (w.getD j 0)):=fun K=>by
  generalize w.getD j 0=x;unfold qS;by_cases f:x<0
  ·simp[f]
  ·by_cases u:(m.1.1.length:Int)≤x
   ·simp[f,u]
   ·simp[f,u]
 simp only[dh,v,z,and_self,decide_true,if_true,Int.toNat_natCast,Option.isSome,Option.getD];rw[B];unfold L5;cases base with
 | false=>simp only[Bool.false_and,Bool.false_eq_true,if_false,if_true,Option.bind,c0,p,q,g2,and_self,bO (show j≤9000000000000000000 by omega)]
 | true =>
  simp only[Bool.true_and,if_true,Option.bind,c0];split
  ·rw[bO (by omega)]
  ·simp only[p,q,g2,and_self,if_true,bO (show j≤9000000000000000000 by omega)]
theorem Iu{m:Z6}{k:Nat}(h:Mo m k){w:QK}(A:w.length≤4096):∃r,iter (dh (some m) w) (([]:QK),([]:QK),false,(0:Int))=some r ∧
  r.1.length=r.2.length∧r.1.length≤w.length∧(∀i,i<r.1.length→0≤r.1.getD i 0∧r.1.getD i 0<(w.length:Int))∧∀i,i<r.2.length→0≤r.2.getD i 0∧r.2.getD i 0<(k:Int):=by
 have snoc:∀ {l:QK} {x hi:Int},(∀i,i<l.length→0≤l.getD i 0∧l.getD i 0<hi)→0≤x→x<hi→∀i,i<(l++[x]).length→0≤(l++[x]).getD i 0∧(l++[x]).getD i 0<hi:=fun {l x hi} hl B c i p=>by
  rcases Nat.lt_or_ge i l.length with q | q
  ·rw[List.getD_eq_getElem?_getD,List.getElem?_append_left q,←List.getD_eq_getElem?_getD];exact hl i q
  ·have:i=l.length:=by simp at p;omega
   subst this;simp[B,c]
 refine dT (fun s:QK×QK×Bool×Int=>∃j:Nat,s.2.2.2=(j:Int)∧j≤w.length∧s.1.length=s.2.1.length∧s.1.length≤j∧(∀i,i<s.1.length→0≤s.1.getD i 0∧s.1.getD i 0<(w.length:Int))∧∀i,i<s.2.1.length→0≤s.2.1.getD i 0∧s.2.1.getD i 0<(k:Int)) (fun s=>w.length - s.2.2.2.toNat) _ ?_
  ⟨0,rfl,by omega,rfl,by simp,fun i hi=>by simp at hi,fun i hi=>by simp at hi⟩
 rintro⟨at_,C,base,v⟩ ⟨j,rfl,L,c,z,e,f⟩;simp only at c z e f;by_cases u:j<w.length
 ·left
  refine⟨_,Ej h A u base c z,?_,?_⟩
  ·split
   ·exact⟨j+1,rfl,by omega,c,by simp only;omega,e,f⟩
   ·obtain⟨c0,M⟩:=CX h.cls (w.getD j 0);have D:=h.OO;obtain⟨E,I⟩:=h.tr (qS m (w.getD j 0)).toNat (by omega);exact⟨j+1,rfl,by omega,by simp[c],by simp;omega,snoc e (by omega) (by omega),snoc f E I⟩
  ·split <;> simp only[Int.toNat_natCast] <;> omega
 ·right
  obtain rfl:j=w.length:=by omega
  refine⟨(at_,C),?_,c,by simp only;omega,e,f⟩;have J:¬((w.length:Int)<(w.length:Int)):=by omega
  simp only[dh,J,decide_false,Bool.false_eq_true,if_false]
def J5(n:Nat)(out:QK):Prop:=out.length=n+1∧out.getD n 0=2∧∀i,0≤out.getD i 0∧out.getD i 0≤2
theorem J5.set{n:Nat}{out:QK}(h:J5 n out){i:Nat}(hi:i<n){v:Int}(e:0≤v)(f:v≤2):J5 n (out.set i v):=by
 obtain⟨a,b,c⟩:=h;refine⟨by simp[a],by rw[la (by omega),if_neg (by omega)];exact b,fun j=>?_⟩;rw[la (by omega)];split
 ·exact⟨e,f⟩
 ·exact c j
theorem Jy{m:Z6}{k:Nat}(h:Mo m k){n:Nat}(hn:n≤4096){at_ e f:QK}(h1:at_.length≤n)(ha:∀i,i<at_.length→0≤at_.getD i 0∧at_.getD i 0<(n:Int))
  (l3:e.length=at_.length+1) (M:∀i,0≤e.getD i 0∧e.getD i 0<(m.2.1.1.length:Int)) (l7:f.length=at_.length+1) (N:∀i,0≤f.getD i 0∧f.getD i 0<(m.2.2.1.length:Int)) {out:QK} (O:J5 n out) :
  ∃r,iter (dr (some m) at_ e f) (out,(1:Int))=some r∧J5 n r:=by
 refine dT (fun s:QK×Int=>∃j:Nat,s.2=(j:Int)∧1≤j∧J5 n s.1) (fun s=>at_.length - s.2.toNat) _ ?_ ⟨1,rfl,by omega,O⟩;rintro⟨o,v⟩ ⟨j,rfl,hj,q⟩;simp only at q;by_cases p:j<at_.length
 ·left
  obtain⟨a0,a1⟩:=ha j p;obtain⟨z,b1⟩:=M j;obtain⟨c0,c1⟩:=N (at_.length - j);have V:=h.al;have X:=h.bl;have x:(j:Int)<(at_.length:Int):=by omega
  have A:0≤(j:Int):=by omega
  have B:(j:Int)<(e.length:Int):=by omega
  have C:i64.wrap ((at_.length:Int) - (j:Int))=((at_.length - j:Nat):Int):=by rw[wrap_i64 (by omega) (by omega)];omega
  have D:0≤((at_.length - j:Nat):Int):=by omega
  have E:((at_.length - j:Nat):Int)<(f.length:Int):=by omega
  have I:e.getD j 0<(m.2.1.2.length:Int):=by omega
  have J:f.getD (at_.length - j) 0<(m.2.2.2.length:Int):=by omega
  have L:at_.getD j 0<(o.length:Int):=by rw[q.1];omega
  have u:(at_.getD j 0).toNat<o.length:=by rw[q.1];omega
  have c:=q.set (i:=(at_.getD j 0).toNat) (by omega) (v:=1) (by omega) (by omega);by_cases hb:(bitsOf .and .u32 (m.2.1.2.getD (e.getD j 0).toNat 0) (m.2.2.2.getD (f.getD (at_.length - j) 0).toNat 0) != 0)=true
  ·obtain⟨Y,Z⟩:=h.tz _ _ (by omega) (by omega) hb;obtain⟨d0,d1⟩:=h.JE (qy (bitsOf .and .u32 (m.2.1.2.getD (e.getD j 0).toNat 0) (m.2.2.2.getD (f.getD (at_.length - j) 0).toNat 0))).toNat;refine⟨((o.set (at_.getD j 0).toNat 1).set (at_.getD j 0).toNat (m.1.2.2.2.2.getD (qy (bitsOf .and .u32 (m.2.1.2.getD (e.getD j 0).toNat 0) (m.2.2.2.getD (f.getD (at_.length - j) 0).toNat 0))).toNat (0,((Tree.node 0 0 []),(Tree.node 0 0 [])))).1,((j+1:Nat):Int)),?_,⟨j+1,rfl,by omega,c.set (i:=(at_.getD j 0).toNat) (by omega) d0 d1⟩,by simp only[Int.toNat_natCast];omega⟩;simp only[dr,x,A,B,C,D,E,I,J,L,u,a0,z,c0,hb,Y,Z,gA,List.length_set,p,and_self,decide_true,if_true,Option.bind,Option.isSome,Option.getD,Int.toNat_natCast,bO (show j≤9000000000000000000 by omega)]
  ·refine⟨(o.set (at_.getD j 0).toNat 1,((j+1:Nat):Int)),?_,⟨j+1,rfl,by omega,c⟩,by simp only[Int.toNat_natCast];omega⟩;simp only[dr,x,A,B,C,D,E,I,J,L,u,a0,z,c0,hb,p,and_self,decide_true,if_true,if_false,Bool.false_eq_true,Option.bind,Option.isSome,Option.getD,Int.toNat_natCast,bO (show j≤9000000000000000000 by omega)]
 ·right
  refine⟨o,?_,q⟩;have x:¬((j:Int)<(at_.length:Int)):=by omega
  simp only[dr,x,decide_false,Bool.false_eq_true,if_false]
theorem zU{m:Z6}{k:Nat}(h:Mo m k){w:QK}(j:w.length≤4096):∃out,eD (some m) w=some out∧J5 w.length out:=by
 obtain⟨⟨at_,c⟩,v,p,q,u,e⟩:=Iu h j;simp only at p q u e;obtain⟨J,x,L,z⟩:=xJ h.a m.2.1.2 (w:=c) (by omega) e;obtain⟨M,A,B,C⟩:=xJ h.b m.2.2.2 (w:=c.reverse) (by simp;omega) (fun i hi=>by
  rw[List.length_reverse]at hi;rw[DC hi];exact e _ (by omega))
 have D:J5 w.length ((List.replicate (w.length+1) (0:Int)).set w.length 2):=by
  refine⟨by simp,by rw[la (by simp),if_pos rfl],fun i=>?_⟩;rw[la (by simp)];split
  ·omega
  ·rcases Nat.lt_or_ge i (w.length+1)with hi | hi
   ·rw[show(List.replicate (w.length+1) (0:Int)).getD i 0=0 by simp[List.getD_eq_getElem?_getD,hi]];omega
   ·rw[List.getD_eq_getElem?_getD,List.getElem?_eq_none (by simpa using hi)];simp
 obtain⟨r,E,I⟩:=Jy h j q u (by omega) z (by simpa [p]using B) C D;refine⟨r,?_,I⟩;have f:i64.wrap ((w.length:Int)+1)=((w.length+1:Nat):Int):=bO (by omega);unfold eD;simp only[f,Int.toNat_natCast,v,x,EK (show c.length≤1000000 by omega),A,Option.bind,Option.isNone,Option.isSome,Option.getD,Bool.false_eq_true,if_false,if_true,E];rw[if_pos (by omega),if_pos (by simp;omega),if_pos (by simp)]
theorem KH{l:List (Int×Tree×Tree)}(h:∀x∈l,0≤x.1∧x.1≤2)(i:Nat):0≤(l.getD i (0,((Tree.node 0 0 []),(Tree.node 0 0 [])))).1∧(l.getD i (0,((Tree.node 0 0 []),(Tree.node 0 0 [])))).1≤2:=by
 rcases Nat.lt_or_ge i l.length with hi | hi
 ·rw[jI hi];exact h _ (List.getElem_mem hi)
 ·rw[List.getD_eq_getElem?_getD,List.getElem?_eq_none hi];simp
abbrev cW:=Int×Int×Int×Int
abbrev XK:=List cW
def A9:Int→XK→Int→Prop
 | a,[],n=>a=n
 | a,x::r,n=>x.1=a∧1≤x.2.1∧0≤x.2.2.1∧x.2.2.1≤2∧0≤x.2.2.2∧x.2.2.2≤2∧A9 (a+x.2.1) r n
theorem A9.snoc{x:cW}:∀ {a m:Int} {s:XK},A9 a s m→x.1=m→1≤x.2.1→0≤x.2.2.1→x.2.2.1≤2→0≤x.2.2.2→x.2.2.2≤2→A9 a (s++[x]) (m+x.2.1)
 | a,m,[],h,c,e,f,j,p,q=>by
  simp only[A9]at h;subst h;exact⟨c,e,f,j,p,q,rfl⟩
 | a,m,y::s,h,c,e,f,j,p,q=>⟨h.1,h.2.1,h.2.2.1,h.2.2.2.1,h.2.2.2.2.1,h.2.2.2.2.2.1,h.2.2.2.2.2.2.snoc c e f j p q⟩
theorem A9.cut{x:cW}:∀ {a m:Int} {s:XK},A9 a (s++[x]) m→A9 a s x.1∧1≤x.2.1∧0≤x.2.2.1∧x.2.2.1≤2∧0≤x.2.2.2∧x.2.2.2≤2∧m=x.1+x.2.1
 | a,m,[],h=>by
  obtain⟨e,f,j,p,q,u,v⟩:=h;simp only[A9]at v ⊢;exact⟨e.symm,f,j,p,q,u,by omega⟩
 | a,m,y::s,h=>by
  obtain⟨e,f,j,p,q,u,v⟩:=h;obtain⟨z,A⟩:=A9.cut v;exact⟨⟨e,f,j,p,q,u,z⟩,A⟩
theorem A9.le:∀ {a n:Int} {s:XK},A9 a s n→a≤n
 | a,n,[],h=>by simp only[A9]at h;omega
 | a,n,x::s,h=>by
  have:=A9.le h.2.2.2.2.2.2;have:=h.2.1;omega
theorem ll{α:Type}(p:List α)(x d:α):(p++[x]).getD p.length d=x:=by simp[List.getD_eq_getElem?_getD]
theorem B0{α:Type}(p:List α)(x y:α):(p++[x]).set p.length y=p++[y]:=by
 rw[List.set_append_right _ _ (Nat.le_refl _),Nat.sub_self];rfl
theorem lN{i:Nat}(h:i≤9000000000000000000):i64.wrap (((i+1:Nat):Int) - 1)=(i:Int):=by rw[wrap_i64 (by omega) (by omega)];omega
def yw(r:Int):Int:=if r=32 then 1 else if r=9 then 2 else 0
theorem JW(r:Int):lV r=some (yw r):=by
 unfold lV yw;by_cases c:r=32
 ·simp[c]
 ·by_cases e:r=9
  ·simp[e]
  ·simp[c,e]
def Hp(c:QK)(k:Nat):Bool:=k == 0 || (decide (k<c.length) && c.getD k 0 != 0)
theorem Eo{t:Option ((fb 4352)×List (fb 256))}{f:Int→Int}(ht:o9 t f){s:Qx}(Z:s.length≤4096)(c:QK){k:Nat}(hk:k<s.length){e:XK}{st:QK}(B:e.length≤k)(j:st.length=e.length):
  (Hp c k=true→dz s c t (e,st,(k:Int))=some (.inl (e++[((s.getD k (0,(0,0))).2.1,(i64.wrap (0+(s.getD k (0,(0,0))).2.2),(max 0 (min (f (s.getD k (0,(0,0))).1) 2),yw (s.getD k (0,(0,0))).1)))],st++[(k:Int)],((k+1:Nat):Int)))):=by
 intro hb;have p:bh t=fun r=>some (f r):=ht
 have C:(k:Int)<(s.length:Int):=by omega
 have z:0≤(k:Int):=by omega
 have D:(if((k:Int) == (0:Int))=true then some true
   else if decide ((k:Int)<(c.length:Int))=true then(if True∧(k:Int)<(c.length:Int)then some (c.getD k (0:Int) != (0:Int))else none)else some false)=some true:=by
  unfold Hp at hb;by_cases A:k=0
  ·subst A;rfl
  ·have E:((k:Int) == 0)=false:=by rw[beq_eq_false_iff_ne];omega
   have I:(k == 0)=false:=by rw[beq_eq_false_iff_ne];exact A
   rw[I,Bool.false_or,Bool.and_eq_true]at hb;have J:(k:Int)<(c.length:Int):=by have:=of_decide_eq_true hb.1;omega
   simp only[E,J,Bool.false_eq_true,if_false,decide_true,and_self,if_true,hb.2]
 have L:i64.wrap ((k:Int)+1)=((k+1:Nat):Int):=bO (by omega);have M:∀x:cW,(e++[x]).length=e.length+1:=fun x=>by simp
 have N:∀x:Int,(st++[x]).length=e.length+1:=fun x=>by simp[j]
 have O:i64.wrap (((e.length+1:Nat):Int) - 1)=(e.length:Int):=lN (by omega);have V:(e.length:Int)<((e.length+1:Nat):Int):=by omega
 have X:e.length<e.length+1:=by omega
 have q:0≤(e.length:Int):=by omega
 have u:(st++[(k:Int)]).getD e.length 0=(k:Int):=by rw[←j];exact ll _ _ _
 have v:((k:Int) != (k:Int))=false:=by simp
 have Y:∀x:cW,(e.length+([x]:XK).length)*32≤140737488355328∧e.length+([x]:XK).length≤9223372036854775807:=fun x=>by simp;omega
 have g2:(st.length+([(k:Int)]:QK).length)*8≤140737488355328∧st.length+([(k:Int)]:QK).length≤9223372036854775807:=by simp;omega
 simp only[dz,C,z,and_self,decide_true,if_true,Int.toNat_natCast];rw[D];simp only[z,and_self,decide_true,if_true,Option.bind,Int.toNat_natCast,JW,Y,g2,L,M,N,O,V,X,q,u,v,ll,B0,Bool.false_eq_true,if_false,p]
theorem G2{t:Option ((fb 4352)×List (fb 256))}{f:Int→Int}(ht:o9 t f){s:Qx}(hs:s.length≤4096)(e:QK){k:Nat}(hk:k<s.length){p:XK}{c:cW}{q:QK}{y:Int}(hp:p.length≤k)(B:q.length=p.length)(E:y≠(k:Int))(hb:Hp e k=false):
  dz s e t (p++[c],q++[y],(k:Int))=some (.inl (p++[(c.1,(i64.wrap (c.2.1+(s.getD k (0,(0,0))).2.2),(max c.2.2.1 (min (f (s.getD k (0,(0,0))).1) 2),0)))],q++[y],((k+1:Nat):Int))):=by
 have j:bh t=fun r=>some (f r):=ht
 have I:(k:Int)<(s.length:Int):=by omega
 have C:0≤(k:Int):=by omega
 have J:(if((k:Int) == (0:Int))=true then some true
   else if decide ((k:Int)<(e.length:Int))=true then(if True∧(k:Int)<(e.length:Int)then some (e.getD k (0:Int) != (0:Int))else none)else some false)=some false:=by
  unfold Hp at hb;rw[Bool.or_eq_false_iff]at hb;have h0:k≠0:=by have:=hb.1;rw[beq_eq_false_iff_ne]at this;exact this
  have D:((k:Int) == 0)=false:=by rw[beq_eq_false_iff_ne];omega
  by_cases L:k<e.length
  ·have u:(k:Int)<(e.length:Int):=by omega
   have M:(e.getD k 0 != 0)=false:=by have:=hb.2;rw[decide_eq_true L,Bool.true_and]at this;exact this
   simp only[D,u,Bool.false_eq_true,if_false,decide_true,and_self,if_true,M]
  ·have u:¬((k:Int)<(e.length:Int)):=by omega
   simp only[D,u,Bool.false_eq_true,if_false,decide_false]
 have N:i64.wrap ((k:Int)+1)=((k+1:Nat):Int):=bO (by omega);have O:∀x:cW,(p++[x]).length=p.length+1:=fun x=>by simp
 have V:∀x:Int,(q++[x]).length=p.length+1:=fun x=>by simp[B]
 have X:i64.wrap (((p.length+1:Nat):Int) - 1)=(p.length:Int):=lN (by omega);have Y:(p.length:Int)<((p.length+1:Nat):Int):=by omega
 have Z:p.length<p.length+1:=by omega
 have v:0≤(p.length:Int):=by omega
 have z:(q++[y]).getD p.length 0=y:=by rw[←B];exact ll _ _ _
 have A:(y != (k:Int))=true:=by rw[bne_iff_ne];exact E
 simp only[dz,I,C,and_self,decide_true,if_true,Int.toNat_natCast];rw[J];simp only[C,and_self,decide_true,if_true,Option.bind,Int.toNat_natCast,N,O,V,X,Y,Z,v,z,A,ll,B0,Bool.false_eq_true,if_false,j]
theorem Cv.split{a n:Int}:∀ {s:Qx} {k:Nat},Cv a s n→k<s.length→Cv a (s.take k) (s.getD k (0,(0,0))).2.1∧1≤(s.getD k (0,(0,0))).2.2∧(s.getD k (0,(0,0))).2.2≤4
 | x::s,0,h,_=>⟨by simp only[List.take_zero,Cv,List.getD_cons_zero];exact h.1.symm,h.2.1,h.2.2.1⟩
 | x::s,k+1,h,hk=>by
  obtain⟨q,z,B⟩:=Cv.split h.2.2.2 (show k<s.length by simpa using hk);simp only[List.take_succ_cons,List.getD_cons_succ];exact⟨⟨h.1,h.2.1,h.2.2.1,q⟩,z,B⟩
theorem Cv.range{a n:Int}:∀ {s:Qx},Cv a s n→a+(s.length:Int)≤n∧n≤a+4*(s.length:Int)
 | [],h=>by simp only[Cv]at h;simp;omega
 | x::s,h=>by
  have:=h.2.2.2.range;have:=h.2.1;have:=h.2.2.1;simp only[List.length_cons];omega
theorem Cv.uniq{a n m:Int}:∀ {s:Qx},Cv a s n→Cv a s m→n=m
 | [],h,h'=>by simp only[Cv]at h h';omega
 | x::s,h,h'=>Cv.uniq h.2.2.2 h'.2.2.2
theorem xU{α:Type}{l:List α}(h:0<l.length):∃p x,l=p++[x]:=by
 have c:l≠[]:=fun e=>by simp[e]at h
 exact⟨l.dropLast,l.getLast c,(List.dropLast_concat_getLast c).symm⟩
theorem lv{l:QK}{x d:Int}{i:Nat}:(l++[x]).getD i d=if i<l.length then l.getD i d else if i=l.length then x else d:=by
 by_cases h:i<l.length
 ·rw[if_pos h,List.getD_eq_getElem?_getD,List.getElem?_append_left h,←List.getD_eq_getElem?_getD]
 ·rw[if_neg h];by_cases e:i=l.length
  ·rw[if_pos e,e];exact ll _ _ _
  ·rw[if_neg e,List.getD_eq_getElem?_getD,List.getElem?_eq_none (by simp;omega)];rfl
structure CM(s:Qx)(k:Nat)(a:Int)(cl:XK)(st:QK):Prop where
 LV:A9 0 cl a
 Oq:Cv 0 (s.take k) a
 len:st.length=cl.length
 le:cl.length≤k
 at_:∀i,i<st.length→0≤st.getD i 0∧st.getD i 0<(k:Int)
 some_:0<k→0<cl.length
 zero:0<cl.length→st.getD 0 0=0
theorem Gs{t:Option ((fb 4352)×List (fb 256))}{f:Int→Int}(ht:o9 t f){s:Qx}{n:Int}(M:Cv 0 s n)(hn:n≤4096)(u:QK):
  ∃r,iter (dz s u t) (([]:XK),([]:QK),(0:Int))=some r∧CM s s.length n r.1 r.2:=by
 have hr:=M.range;have C:s.length≤4096:=by omega
 refine dT (fun z:XK×QK×Int=>∃(k:Nat) (a:Int),z.2.2=(k:Int)∧k≤s.length∧0≤a∧a≤4*(k:Int)∧CM s k a z.1 z.2.1) (fun z=>s.length - z.2.2.toNat) _ ?_
  ⟨0,0,rfl,by omega,by omega,by omega,⟨rfl,rfl,rfl,by simp,fun i hi=>by simp at hi,fun h=>by omega,fun h=>by simp at h⟩⟩
 rintro⟨V,st,v⟩ ⟨k,a,rfl,hk,Y,ha,j⟩;simp only at j;by_cases A:k<s.length
 ·left
  obtain⟨Z,c2,c3⟩:=M.split A;have D:(s.getD k (0,(0,0))).2.1=a:=Z.uniq j.Oq;have E:Cv 0 (s.take (k+1)) (a+(s.getD k (0,(0,0))).2.2):=by rw[oo (d:=(0,(0,0))) A];exact j.Oq.snoc D c2 c3
  have N:∀x:Int,0≤x→x≤2→0≤max x (min (f (s.getD k (0,(0,0))).1) 2)∧max x (min (f (s.getD k (0,(0,0))).1) 2)≤2:=fun x h0 h1=>by omega
  have I:0≤yw (s.getD k (0,(0,0))).1∧yw (s.getD k (0,(0,0))).1≤2:=by unfold yw;split;omega;split <;> omega
  cases hb:Hp u k with
  | true =>
   refine⟨_,Eo ht C u A j.le j.len hb,⟨k+1,a+(s.getD k (0,(0,0))).2.2,rfl,by omega,by omega,by omega,⟨?_,E,by simp[j.len],by have:=j.le;simp;omega,fun i hi=>?_,fun _=>by simp,fun _=>?_⟩⟩,by simp only[Int.toNat_natCast];omega⟩
   ·have:=j.LV.snoc (x:=((s.getD k (0,(0,0))).2.1,(i64.wrap (0+(s.getD k (0,(0,0))).2.2),(max 0 (min (f (s.getD k (0,(0,0))).1) 2),yw (s.getD k (0,(0,0))).1)))) D (by simp only;rw[wrap_i64 (by omega) (by omega)];omega) (by simp only;omega) (by simp only;omega) I.1 I.2;simp only at this;rw[wrap_i64 (by omega) (by omega),Int.zero_add]at this;simp only;rw[wrap_i64 (by omega) (by omega),Int.zero_add];exact this
   ·simp only at hi ⊢;rw[lv];split
    ·rename_i h;have:=j.at_ i h;omega
    ·split <;> omega
   ·simp only;rw[lv];split
    ·rename_i h;exact j.zero (by have:=j.len;omega)
    ·rename_i h;have hl:=j.len;have a1:V.length=0:=by omega
     have B:k=0:=by
      rcases Nat.eq_zero_or_pos k with e | e
      ·exact e
      ·have:=j.some_ e;omega
     subst B;split <;> rfl
  | false =>
   have B:0<k:=by
    rcases Nat.eq_zero_or_pos k with e | e
    ·subst e;simp[Hp]at hb
    ·exact e
   have O:=j.some_ B;have hl:=j.len;obtain⟨p,c,rfl⟩:=xU O;obtain⟨q,y,rfl⟩:=xU (show 0<st.length by omega);have J:q.length=p.length:=by simpa using hl
   have hy:=j.at_ q.length (by simp);rw[ll]at hy;have L:p.length≤k:=by have:=j.le;simp at this;omega
   obtain⟨X,d2,d3,d4,d5,d6,d7⟩:=j.LV.cut;refine⟨_,G2 ht C u A L J (by omega) hb,⟨k+1,a+(s.getD k (0,(0,0))).2.2,rfl,by omega,by omega,by omega,⟨?_,E,by simp[J],by have:=j.le;simp at this ⊢;omega,fun i hi=>?_,fun _=>by simp,fun _=>j.zero (by simp)⟩⟩,by simp only[Int.toNat_natCast];omega⟩
   ·have a2:=X.le;have hw:i64.wrap (c.2.1+(s.getD k (0,(0,0))).2.2)=c.2.1+(s.getD k (0,(0,0))).2.2:=wrap_i64 (by omega) (by omega);obtain⟨m1,m2⟩:=N c.2.2.1 d3 d4;have:=X.snoc (x:=(c.1,(c.2.1+(s.getD k (0,(0,0))).2.2,(max c.2.2.1 (min (f (s.getD k (0,(0,0))).1) 2),0)))) rfl (by simp only;omega) m1 m2 (by simp only;omega) (by simp only;omega);simp only at this;simp only;rw[hw,d7,show c.1+c.2.1+(s.getD k (0,(0,0))).2.2=c.1+(c.2.1+(s.getD k (0,(0,0))).2.2) by omega];exact this
   ·have:=j.at_ i hi;exact⟨this.1,by have:=this.2;simp only;omega⟩
 ·right
  obtain rfl:k=s.length:=by omega
  refine⟨(V,st),?_,?_⟩
  ·have q1:¬((s.length:Int)<(s.length:Int)):=by omega
   simp only[dz,q1,decide_false,Bool.false_eq_true,if_false]
  ·have:=j.Oq;rw[List.take_length]at this;have e:n=a:=M.uniq this;subst e;exact j
end
end Go.Proofs.YtmcemnfjddoejaaGreatDoor.T
