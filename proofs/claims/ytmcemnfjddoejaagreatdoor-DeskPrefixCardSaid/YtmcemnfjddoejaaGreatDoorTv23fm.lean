/- A machine's run, of any classes: it answers, and what it answers is of its kind. -/
import Derived.Test.YtmcemnfjddoejaaGreatDoorTv23bm
namespace Go.Proofs.YtmcemnfjddoejaaGreatDoor.T
open Go Go.Tv Go.Proofs
open Go.IntKind (i64 u32)
noncomputable section
theorem bj{i:Nat}(h:i≤9000000000000000000):i64.wrap ((i:Int)+1)=((i+1:Nat):Int):=by rw[wrap_i64 (by omega) (by omega)];rfl
theorem kG{l:List Int}{k:Nat}(c:k<l.length)(v:Int)(j:Nat):(l.set k v).getD j 0=if k=j then v else l.getD j 0:=by
 simp only[List.getD_eq_getElem?_getD,List.getElem?_set];by_cases e:k=j
 ·rw[if_pos e,if_pos e,if_pos (by omega)];rfl
 ·rw[if_neg e,if_neg e]
theorem G3{l m:List Int}(h:l.length=m.length)(e:∀i,i<l.length→l.getD i 0=m.getD i 0):l=m :=
 List.ext_getElem h fun i c f=>by
  have:=e i c;rwa [iL c,iL f]at this
theorem Bs{w:List Int}{i:Nat}(h:i<w.length):w.reverse.getD i 0=w.getD (w.length - 1 - i) 0:=by
 rw[iL (by simpa using h),iL (by omega),List.getElem_reverse]
theorem DD{w:List Int}(hl:w.length≤1000000):bX w=some w.reverse:=by
 have key:∃s,iter bI (w,0,i64.wrap ((w.length:Int) - 1))=some s∧s=w.reverse:=by
  rw[wrap_i64 (by omega) (by omega)];refine cF (I:=fun q=>∃i:Nat,q.2.1=(i:Int)∧q.2.2=(w.length:Int) - 1 - i∧i≤w.length∧2*i≤w.length+1∧q.1.length=w.length∧∀p,p<w.length→q.1.getD p 0=if p<i∨w.length≤p+i then w.getD (w.length - 1 - p) 0 else w.getD p 0)
   (μ:=fun q=>w.length - q.2.1.toNat) _ ?_ ⟨0,rfl,by simp,Nat.zero_le _,by omega,rfl,fun p c=>by rw[if_neg (by omega)]⟩
  rintro⟨s,J,L⟩ ⟨i,e,f,hi,M,u,c⟩;dsimp only at e f u c;subst e f;by_cases z:(i:Int)<(w.length:Int) - 1 - i
  ·obtain⟨j,A⟩:∃j:Nat,(w.length:Int) - 1 - i=(j:Int):=⟨w.length - 1 - i,by omega⟩;have B:j<w.length:=by omega
   have C:s.getD i 0=w.getD i 0:=by rw[c i (by omega),if_neg (by omega)]
   have D:s.getD j 0=w.getD j 0:=by rw[c j (by omega),if_neg (by omega)]
   refine .inl ⟨((s.set i (s.getD j 0)).set j (s.getD i 0),((i+1:Nat):Int),((w.length:Int) - 1 - ((i+1:Nat):Int))),?_,⟨i+1,rfl,rfl,by omega,by omega,by simp[u],fun p k=> ?_⟩,by simp only[Int.toNat_natCast];omega⟩
   ·unfold bI;dsimp only;rw[A,if_pos (by simp;omega),if_pos (by omega),Int.toNat_natCast,Int.toNat_natCast,if_pos (by omega),if_pos (by omega),if_pos (by omega),if_pos (by omega),if_pos (by omega),if_pos (by rw[List.length_set];omega),if_pos (by rw[List.length_set];omega),bj (by omega),
     wrap_i64 (by omega) (by omega)]
    have:(j:Int) - 1=(w.length:Int) - 1 - ((i+1:Nat):Int):=by omega
    rw[this]
   ·dsimp only;rw[kG (by rw[List.length_set];omega),kG (by omega),C,D];by_cases v:j=p
    ·subst v;rw[if_pos rfl,if_pos (by omega)];congr 1;omega
    ·rw[if_neg v];by_cases x:i=p
     ·subst x;rw[if_pos rfl,if_pos (by omega)];congr 1;omega
     ·rw[if_neg x,c p k];by_cases m:p<i∨w.length≤p+i
      ·rw[if_pos m,if_pos (by omega)]
      ·rw[if_neg m,if_neg (by omega)]
  ·refine .inr ⟨s,?_,G3 (by simp[u]) fun p k=> ?_⟩
   ·unfold bI;dsimp only;rw[if_neg (by simp;omega)]
   ·rw[c p (by omega),Bs (by omega)];by_cases m:p<i∨w.length≤p+i
    ·rw[if_pos m]
    ·rw[if_neg m];congr 1;omega
 obtain⟨s,E,rfl⟩:=key;unfold bX;rw[E];rfl
structure WA(a:List (List Int))(k:Nat):Prop where
 pos:0<a.length
 len:∀i,i<a.length→k≤(a.getD i []).length
 val:∀i c,i<a.length→c<k→0≤(a.getD i []).getD c 0∧(a.getD i []).getD c 0<(a.length:Int)
theorem wb{a:List (List Int)}{k:Nat}(h:WA a k)(b:List Int){w:List Int}(O:w.length≤4096)(x:∀i,i<w.length→0≤w.getD i 0∧w.getD i 0<(k:Int)):
  ∃r,my a b w=some r∧r.length=w.length+1∧∀i,0≤r.getD i 0∧r.getD i 0<(a.length:Int):=by
 have z:=h.pos;obtain⟨r,A,B⟩:=cF (body:=jF a w) (fun s=>∃j st:Nat,s.2.2=(j:Int)∧s.2.1=(st:Int)∧j≤w.length∧st<a.length∧s.1.length=j+1∧∀i,0≤s.1.getD i 0∧s.1.getD i 0<(a.length:Int)) (fun s=>w.length - s.2.2.toNat)
  (fun r=>r.length=w.length+1∧∀i,0≤r.getD i 0∧r.getD i 0<(a.length:Int)) (by
  rintro⟨out,R,v⟩ ⟨j,st,rfl,rfl,V,e,c,f⟩;simp only at c f;by_cases m:j<w.length
  ·left
   obtain⟨C,X⟩:=x j m;have u:=h.len st e;obtain⟨v1,D⟩:=h.val st (w.getD j 0).toNat e (by omega);have p:(j:Int)<(w.length:Int):=by omega
   have E:0≤(j:Int):=by omega
   have I:¬(w.getD j 0<0):=by omega
   have J:0≤(st:Int):=by omega
   have L:(st:Int)<(a.length:Int):=by omega
   have M:¬(w.getD j 0≥((a.getD st []).length:Int)):=by omega
   have N:w.getD j 0<((a.getD st []).length:Int):=by omega
   refine⟨(out++[(a.getD st []).getD (w.getD j 0).toNat 0],(a.getD st []).getD (w.getD j 0).toNat 0,((j+1:Nat):Int)),?_,⟨j+1,((a.getD st []).getD (w.getD j 0).toNat 0).toNat,rfl,by simp only;omega,by omega,by omega,by simp[c],fun i=> ?_⟩,by simp only[Int.toNat_natCast];omega⟩
   ·simp only[jF,p,E,I,J,L,M,N,C,and_self,decide_true,decide_false,if_true,if_false,Bool.false_eq_true,Int.toNat_natCast,Option.bind,List.length_singleton,c];rw[if_pos (by omega),bj (by omega)]
   ·simp only;rcases Nat.lt_or_ge i out.length with hi | hi
    ·rw[List.getD_eq_getElem?_getD,List.getElem?_append_left hi,←List.getD_eq_getElem?_getD];exact f i
    ·rw[List.getD_eq_getElem?_getD,List.getElem?_append_right hi];cases Y:i - out.length with
     | zero=>simpa using⟨v1,D⟩
     | succ n=>simp;omega
  ·right
   obtain rfl:j=w.length:=by omega
   refine⟨out,?_,c,f⟩;have p:¬((w.length:Int)<(w.length:Int)):=by omega
   simp only[jF,p,decide_false,Bool.false_eq_true,if_false]) (s:=([0],0,0)) ⟨0,0,rfl,rfl,by omega,z,rfl,fun i=>by
    cases i with
    | zero=>simp;omega
    | succ n=>simp;omega⟩
 refine⟨r,?_,B⟩;unfold my;have q:((a.length:Int) == 0)=false:=by rw[beq_eq_false_iff_ne];omega
 rw[q,if_neg (by decide),A];rfl
structure Mo(m:Z7)(k:Nat):Prop where
 cls:0<m.1.1.length
 Lx:m.1.1.length≤m.1.2.2.2.1.length
 tr:∀i,i<m.1.2.2.2.1.length→0≤m.1.2.2.2.1.getD i 0∧m.1.2.2.2.1.getD i 0<(k:Int)
 a:WA m.2.1.1 k
 al:m.2.1.1.length≤m.2.1.2.length
 b:WA m.2.2.1 k
 bl:m.2.2.1.length≤m.2.2.2.length
 tz:∀s t:Nat,s<m.2.1.1.length→t<m.2.2.1.length→(bitsOf .and .u32 (m.2.1.2.getD s 0) (m.2.2.2.getD t 0) != 0)=true →
  0≤qh (bitsOf .and .u32 (m.2.1.2.getD s 0) (m.2.2.2.getD t 0))∧qh (bitsOf .and .u32 (m.2.1.2.getD s 0) (m.2.2.2.getD t 0))<(m.1.2.2.2.2.length:Int)
 Jt:∀i,0≤(m.1.2.2.2.2.getD i (0,((Tree.node 0 0 []),(Tree.node 0 0 [])))).1∧(m.1.2.2.2.2.getD i (0,((Tree.node 0 0 []),(Tree.node 0 0 [])))).1≤2
def qq(m:Z7)(x:Int):Int:=if x<0∨(m.1.1.length:Int)≤x then 0 else x
def Jw(x c:Int):Bool:=bitsOf .and .u32 (Int.fdiv x (2 ^ (min c.toNat u32.bits))) 1 == 1
theorem Cu{m:Z7}(h:0<m.1.1.length)(x:Int):0≤qq m x∧qq m x<(m.1.1.length:Int):=by
 unfold qq;split
 ·omega
 ·omega
theorem DY{m:Z7}{k:Nat}(h:Mo m k){w:List Int}(C:w.length≤4096){j:Nat}(D:j<w.length){at_ c:List Int}(base:Bool)(E:at_.length=c.length)(I:at_.length≤j):
  cV (some m) w (at_,c,base,(j:Int))=some (.inl (if(base && Jw m.1.2.1 (qq m (w.getD j 0)))=true then(at_,c,base,((j+1:Nat):Int))else
   (at_++[(j:Int)],c++[m.1.2.2.2.1.getD (qq m (w.getD j 0)).toNat 0],Jw m.1.2.2.1 (qq m (w.getD j 0)),((j+1:Nat):Int)))):=by
 have v:(j:Int)<(w.length:Int):=by omega
 have z:0≤(j:Int):=by omega
 obtain⟨c0,J⟩:=Cu h.cls (w.getD j 0);have A:=h.Lx;have p:qq m (w.getD j 0)<(m.1.2.2.2.1.length:Int):=by omega
 have q:(at_.length+([(j:Int)]:List Int).length)*8≤140737488355328∧at_.length+([(j:Int)]:List Int).length≤9223372036854775807:=by simp;omega
 have g2:∀x:Int,(c.length+([x]:List Int).length)*8≤140737488355328∧c.length+([x]:List Int).length≤9223372036854775807:=fun x=>by simp;omega
 have B:∀ {β:Type} (K:Int→Option β),(((if decide (w.getD j 0<0)=true then some true else some (decide (w.getD j 0≥(m.1.1.length:Int)))):Option Bool).bind fun e=>((if e=true then some (0:Int)else some (w.getD j 0))).bind K)=K (qq m (w.getD j 0)):=fun K=>by
  generalize w.getD j 0=x;unfold qq;by_cases f:x<0
  ·simp[f]
  ·by_cases u:(m.1.1.length:Int)≤x
   ·simp[f,u]
   ·simp[f,u]
 simp only[cV,v,z,and_self,decide_true,if_true,Int.toNat_natCast,Option.isSome,Option.getD];rw[B];unfold Jw;cases base with
 | false=>simp only[Bool.false_and,Bool.false_eq_true,if_false,if_true,Option.bind,c0,p,q,g2,and_self,bj (show j≤9000000000000000000 by omega)]
 | true =>
  simp only[Bool.true_and,if_true,Option.bind,c0];split
  ·rw[bj (by omega)]
  ·simp only[p,q,g2,and_self,if_true,bj (show j≤9000000000000000000 by omega)]
theorem GI{m:Z7}{k:Nat}(h:Mo m k){w:List Int}(A:w.length≤4096):∃r,iter (cV (some m) w) (([]:List Int),([]:List Int),false,(0:Int))=some r ∧
  r.1.length=r.2.length∧r.1.length≤w.length∧(∀i,i<r.1.length→0≤r.1.getD i 0∧r.1.getD i 0<(w.length:Int))∧∀i,i<r.2.length→0≤r.2.getD i 0∧r.2.getD i 0<(k:Int):=by
 have snoc:∀ {l:List Int} {x hi:Int},(∀i,i<l.length→0≤l.getD i 0∧l.getD i 0<hi)→0≤x→x<hi→∀i,i<(l++[x]).length→0≤(l++[x]).getD i 0∧(l++[x]).getD i 0<hi:=fun {l x hi} hl B c i p=>by
  rcases Nat.lt_or_ge i l.length with q | q
  ·rw[List.getD_eq_getElem?_getD,List.getElem?_append_left q,←List.getD_eq_getElem?_getD];exact hl i q
  ·have:i=l.length:=by simp at p;omega
   subst this;simp[B,c]
 refine cF (fun s:List Int×List Int×Bool×Int=>∃j:Nat,s.2.2.2=(j:Int)∧j≤w.length∧s.1.length=s.2.1.length∧s.1.length≤j∧(∀i,i<s.1.length→0≤s.1.getD i 0∧s.1.getD i 0<(w.length:Int))∧∀i,i<s.2.1.length→0≤s.2.1.getD i 0∧s.2.1.getD i 0<(k:Int)) (fun s=>w.length - s.2.2.2.toNat) _ ?_
  ⟨0,rfl,by omega,rfl,by simp,fun i hi=>by simp at hi,fun i hi=>by simp at hi⟩
 rintro⟨at_,C,base,v⟩ ⟨j,rfl,L,c,z,e,f⟩;simp only at c z e f;by_cases u:j<w.length
 ·left
  refine⟨_,DY h A u base c z,?_,?_⟩
  ·split
   ·exact⟨j+1,rfl,by omega,c,by simp only;omega,e,f⟩
   ·obtain⟨c0,M⟩:=Cu h.cls (w.getD j 0);have D:=h.Lx;obtain⟨E,I⟩:=h.tr (qq m (w.getD j 0)).toNat (by omega);exact⟨j+1,rfl,by omega,by simp[c],by simp;omega,snoc e (by omega) (by omega),snoc f E I⟩
  ·split <;> simp only[Int.toNat_natCast] <;> omega
 ·right
  obtain rfl:j=w.length:=by omega
  refine⟨(at_,C),?_,c,by simp only;omega,e,f⟩;have J:¬((w.length:Int)<(w.length:Int)):=by omega
  simp only[cV,J,decide_false,Bool.false_eq_true,if_false]
def IZ(n:Nat)(out:List Int):Prop:=out.length=n+1∧out.getD n 0=2∧∀i,0≤out.getD i 0∧out.getD i 0≤2
theorem IZ.set{n:Nat}{out:List Int}(h:IZ n out){i:Nat}(hi:i<n){v:Int}(e:0≤v)(f:v≤2):IZ n (out.set i v):=by
 obtain⟨a,b,c⟩:=h;refine⟨by simp[a],by rw[kG (by omega),if_neg (by omega)];exact b,fun j=> ?_⟩;rw[kG (by omega)];split
 ·exact⟨e,f⟩
 ·exact c j
theorem Gf{m:Z7}{k:Nat}(h:Mo m k){n:Nat}(hn:n≤4096){at_ e f:List Int}(h1:at_.length≤n)(ha:∀i,i<at_.length→0≤at_.getD i 0∧at_.getD i 0<(n:Int))
  (l3:e.length=at_.length+1) (M:∀i,0≤e.getD i 0∧e.getD i 0<(m.2.1.1.length:Int)) (l7:f.length=at_.length+1) (N:∀i,0≤f.getD i 0∧f.getD i 0<(m.2.2.1.length:Int)) {out:List Int} (O:IZ n out) :
  ∃r,iter (cS (some m) at_ e f) (out,(1:Int))=some r∧IZ n r:=by
 refine cF (fun s:List Int×Int=>∃j:Nat,s.2=(j:Int)∧1≤j∧IZ n s.1) (fun s=>at_.length - s.2.toNat) _ ?_ ⟨1,rfl,by omega,O⟩;rintro⟨o,v⟩ ⟨j,rfl,hj,q⟩;simp only at q;by_cases p:j<at_.length
 ·left
  obtain⟨a0,a1⟩:=ha j p;obtain⟨z,b1⟩:=M j;obtain⟨c0,c1⟩:=N (at_.length - j);have R:=h.al;have V:=h.bl;have x:(j:Int)<(at_.length:Int):=by omega
  have A:0≤(j:Int):=by omega
  have B:(j:Int)<(e.length:Int):=by omega
  have C:i64.wrap ((at_.length:Int) - (j:Int))=((at_.length - j:Nat):Int):=by rw[wrap_i64 (by omega) (by omega)];omega
  have D:0≤((at_.length - j:Nat):Int):=by omega
  have E:((at_.length - j:Nat):Int)<(f.length:Int):=by omega
  have I:e.getD j 0<(m.2.1.2.length:Int):=by omega
  have J:f.getD (at_.length - j) 0<(m.2.2.2.length:Int):=by omega
  have L:at_.getD j 0<(o.length:Int):=by rw[q.1];omega
  have u:(at_.getD j 0).toNat<o.length:=by rw[q.1];omega
  have c:=q.set (i:=(at_.getD j 0).toNat) (by omega) (v:=1) (by omega) (by omega);by_cases hb:(bitsOf .and .u32 (m.2.1.2.getD (e.getD j 0).toNat 0) (m.2.2.2.getD (f.getD (at_.length - j) 0).toNat 0) != 0)=true
  ·obtain⟨X,Y⟩:=h.tz _ _ (by omega) (by omega) hb;obtain⟨Z,d1⟩:=h.Jt (qh (bitsOf .and .u32 (m.2.1.2.getD (e.getD j 0).toNat 0) (m.2.2.2.getD (f.getD (at_.length - j) 0).toNat 0))).toNat;refine⟨((o.set (at_.getD j 0).toNat 1).set (at_.getD j 0).toNat (m.1.2.2.2.2.getD (qh (bitsOf .and .u32 (m.2.1.2.getD (e.getD j 0).toNat 0) (m.2.2.2.getD (f.getD (at_.length - j) 0).toNat 0))).toNat (0,((Tree.node 0 0 []),(Tree.node 0 0 [])))).1,((j+1:Nat):Int)),?_,⟨j+1,rfl,by omega,c.set (i:=(at_.getD j 0).toNat) (by omega) Z d1⟩,by simp only[Int.toNat_natCast];omega⟩;simp only[cS,x,A,B,C,D,E,I,J,L,u,a0,z,c0,hb,X,Y,fZ,List.length_set,p,and_self,decide_true,if_true,Option.bind,Option.isSome,Option.getD,Int.toNat_natCast,bj (show j≤9000000000000000000 by omega)]
  ·refine⟨(o.set (at_.getD j 0).toNat 1,((j+1:Nat):Int)),?_,⟨j+1,rfl,by omega,c⟩,by simp only[Int.toNat_natCast];omega⟩;simp only[cS,x,A,B,C,D,E,I,J,L,u,a0,z,c0,hb,p,and_self,decide_true,if_true,if_false,Bool.false_eq_true,Option.bind,Option.isSome,Option.getD,Int.toNat_natCast,bj (show j≤9000000000000000000 by omega)]
 ·right
  refine⟨o,?_,q⟩;have x:¬((j:Int)<(at_.length:Int)):=by omega
  simp only[cS,x,decide_false,Bool.false_eq_true,if_false]
theorem zp{m:Z7}{k:Nat}(h:Mo m k){w:List Int}(j:w.length≤4096):∃out,dP (some m) w=some out∧IZ w.length out:=by
 obtain⟨⟨at_,c⟩,v,p,q,u,e⟩:=GI h j;simp only at p q u e;obtain⟨J,x,L,z⟩:=wb h.a m.2.1.2 (w:=c) (by omega) e;obtain⟨M,A,B,C⟩:=wb h.b m.2.2.2 (w:=c.reverse) (by simp;omega) (fun i hi=>by
  rw[List.length_reverse]at hi;rw[Bs hi];exact e _ (by omega))
 have D:IZ w.length ((List.replicate (w.length+1) (0:Int)).set w.length 2):=by
  refine⟨by simp,by rw[kG (by simp),if_pos rfl],fun i=> ?_⟩;rw[kG (by simp)];split
  ·omega
  ·rcases Nat.lt_or_ge i (w.length+1)with hi | hi
   ·rw[show(List.replicate (w.length+1) (0:Int)).getD i 0=0 by simp[List.getD_eq_getElem?_getD,hi]];omega
   ·rw[List.getD_eq_getElem?_getD,List.getElem?_eq_none (by simpa using hi)];simp
 obtain⟨r,E,I⟩:=Gf h j q u (by omega) z (by simpa [p]using B) C D;refine⟨r,?_,I⟩;have f:i64.wrap ((w.length:Int)+1)=((w.length+1:Nat):Int):=bj (by omega);unfold dP;simp only[f,Int.toNat_natCast,v,x,DD (show c.length≤1000000 by omega),A,Option.bind,Option.isNone,Option.isSome,Option.getD,Bool.false_eq_true,if_false,if_true,E];rw[if_pos (by omega),if_pos (by simp;omega),if_pos (by simp)]
end
end Go.Proofs.YtmcemnfjddoejaaGreatDoor.T
namespace Go.Proofs.YtmcemnfjddoejaaGreatDoor.T
open Go Go.Tv Go.Proofs
open Go.IntKind (i64 u32)
noncomputable section
def Md:Z7:=(([[79]],0,0,[0],[(1,Tree.node 1 1 [],Tree.node 1 1 [])]),([[1],[1]],[0,1]),[[1],[1]],[0,1])
def L4:Z7:=(([[79],[83],[78]],0,0,[0,1,2],[(0,Tree.node 1 2 [],Tree.node 1 2 []),(1,Tree.node 1 2 [],Tree.node 1 7 []),(2,Tree.node 1 4 [],Tree.node 1 7 []),(0,Tree.node 1 7 [],Tree.node 1 7 [])]),
 ([[1,2,3],[1,2,3],[1,2,3],[1,2,3]],[0,8,11,12]),[[1,2,1],[1,2,1],[1,2,1]],[0,14,15])
theorem Ii:FB=some Md:=by kernel_rfl
theorem I1:E9=some L4:=by kernel_rfl
theorem El{l:List (Int×Tree×Tree)}(h:∀x∈l,0≤x.1∧x.1≤2)(i:Nat):0≤(l.getD i (0,((Tree.node 0 0 []),(Tree.node 0 0 [])))).1∧(l.getD i (0,((Tree.node 0 0 []),(Tree.node 0 0 [])))).1≤2:=by
 rcases Nat.lt_or_ge i l.length with hi | hi
 ·rw[iL hi];exact h _ (List.getElem_mem hi)
 ·rw[List.getD_eq_getElem?_getD,List.getElem?_eq_none hi];simp
theorem MM:Mo Md 1 where
 cls:=by decide
 Lx:=by decide
 tr:=fun i hi=>(by decide:∀i:Fin 1,0≤[(0:Int)].getD i.1 0∧[(0:Int)].getD i.1 0<(1:Int)) ⟨i,hi⟩
 a:=⟨by decide,fun i hi=>(by decide:∀i:Fin 2,1≤([[(1:Int)],[1]].getD i.1 []).length) ⟨i,hi⟩,fun i c hi e=>(by decide:∀(i:Fin 2) (c:Fin 1),0≤([[(1:Int)],[1]].getD i.1 []).getD c.1 0∧([[(1:Int)],[1]].getD i.1 []).getD c.1 0<(2:Int)) ⟨i,hi⟩ ⟨c,e⟩⟩
 al:=by decide
 b:=⟨by decide,fun i hi=>(by decide:∀i:Fin 2,1≤([[(1:Int)],[1]].getD i.1 []).length) ⟨i,hi⟩,fun i c hi e=>(by decide:∀(i:Fin 2) (c:Fin 1),0≤([[(1:Int)],[1]].getD i.1 []).getD c.1 0∧([[(1:Int)],[1]].getD i.1 []).getD c.1 0<(2:Int)) ⟨i,hi⟩ ⟨c,e⟩⟩
 bl:=by decide
 tz:=fun s t f j=>(by decide:∀(s t:Fin 2),(bitsOf .and .u32 ([(0:Int),1].getD s.1 0) ([(0:Int),1].getD t.1 0) != 0)=true →
  0≤qh (bitsOf .and .u32 ([(0:Int),1].getD s.1 0) ([(0:Int),1].getD t.1 0))∧qh (bitsOf .and .u32 ([(0:Int),1].getD s.1 0) ([(0:Int),1].getD t.1 0))<(1:Int)) ⟨s,f⟩ ⟨t,j⟩
 Jt:=El (by simp[Md])
theorem MN:Mo L4 3 where
 cls:=by decide
 Lx:=by decide
 tr:=fun i hi=>(by decide:∀i:Fin 3,0≤[(0:Int),1,2].getD i.1 0∧[(0:Int),1,2].getD i.1 0<(3:Int)) ⟨i,hi⟩
 a:=⟨by decide,fun i hi=>(by decide:∀i:Fin 4,3≤([[(1:Int),2,3],[1,2,3],[1,2,3],[1,2,3]].getD i.1 []).length) ⟨i,hi⟩,fun i c hi e=>(by decide:∀(i:Fin 4) (c:Fin 3),0≤([[(1:Int),2,3],[1,2,3],[1,2,3],[1,2,3]].getD i.1 []).getD c.1 0∧([[(1:Int),2,3],[1,2,3],[1,2,3],[1,2,3]].getD i.1 []).getD c.1 0<(4:Int)) ⟨i,hi⟩ ⟨c,e⟩⟩
 al:=by decide
 b:=⟨by decide,fun i hi=>(by decide:∀i:Fin 3,3≤([[(1:Int),2,1],[1,2,1],[1,2,1]].getD i.1 []).length) ⟨i,hi⟩,fun i c hi e=>(by decide:∀(i:Fin 3) (c:Fin 3),0≤([[(1:Int),2,1],[1,2,1],[1,2,1]].getD i.1 []).getD c.1 0∧([[(1:Int),2,1],[1,2,1],[1,2,1]].getD i.1 []).getD c.1 0<(3:Int)) ⟨i,hi⟩ ⟨c,e⟩⟩
 bl:=by decide
 tz:=fun s t f j=>(by decide:∀(s:Fin 4) (t:Fin 3),(bitsOf .and .u32 ([(0:Int),8,11,12].getD s.1 0) ([(0:Int),14,15].getD t.1 0) != 0)=true →
  0≤qh (bitsOf .and .u32 ([(0:Int),8,11,12].getD s.1 0) ([(0:Int),14,15].getD t.1 0))∧qh (bitsOf .and .u32 ([(0:Int),8,11,12].getD s.1 0) ([(0:Int),14,15].getD t.1 0))<(4:Int)) ⟨s,f⟩ ⟨t,j⟩
 Jt:=El (by simp[L4])
theorem JJ:H0=some ([],some ([([],[])],()),[],2,2):=by kernel_rfl
theorem G4(r:Int):eE H0 r=some (0,false):=by rw[JJ];kernel_rfl
theorem JZ:fM H0 []=some [false]:=by kernel_rfl
theorem Gw{s:List (Int×Int×Int)}(p:s.length≤4096):dy H0 s=some (List.replicate (s.length+1) false):=by
 have e:i64.wrap ((s.length:Int)+1)=((s.length+1:Nat):Int):=bj (by omega);have f:iter (cw H0 s) (List.replicate (s.length+1) false,((0:Nat):Int))=some (List.replicate (s.length+1) false):=by
  refine eg (fun k=>(List.replicate (s.length+1) false,(k:Int))) s.length (fun k q=> ?_) ?_
  ·have c:(k:Int)<(s.length:Int):=by omega
   have j:0≤(k:Int):=by omega
   have hin:iter (dz H0 s) ((k:Int),([]:List Int))=some ((k:Int),[]):=by refine bM ?_;simp only[dz,c,j,and_self,decide_true,if_true,G4,Option.bind,Bool.not_false]
   have m:0≤(k:Int)∧(k:Int)≤((List.replicate (s.length+1) false).length:Int):=by simp;omega
   simp only[cw,c,decide_true,if_true,hin,Option.bind,m,and_self,JZ,bj (show k≤9000000000000000000 by omega)];simp
   omega
  ·have c:¬((s.length:Int)<(s.length:Int)):=by omega
   simp only[cw,c,decide_false,Bool.false_eq_true,if_false]
 unfold dy;rw[e,if_pos (by omega),Int.toNat_natCast];exact congrArg (fun x=>Option.bind x fun o=>some o) f
end
end Go.Proofs.YtmcemnfjddoejaaGreatDoor.T
namespace Go.Proofs.YtmcemnfjddoejaaGreatDoor.T
open Go Go.Tv Go.Proofs
open Go.IntKind (i64 u32)
noncomputable section
abbrev bB:=Int×Int×Int×Int
def Ay:Int→List bB→Int→Prop
 | a,[],n=>a=n
 | a,x::r,n=>x.1=a∧1≤x.2.1∧0≤x.2.2.1∧x.2.2.1≤2∧0≤x.2.2.2∧x.2.2.2≤2∧Ay (a+x.2.1) r n
theorem Ay.snoc{x:bB}:∀ {a m:Int} {s:List bB},Ay a s m→x.1=m→1≤x.2.1→0≤x.2.2.1→x.2.2.1≤2→0≤x.2.2.2→x.2.2.2≤2→Ay a (s++[x]) (m+x.2.1)
 | a,m,[],h,c,e,f,j,k,p=>by
  simp only[Ay]at h;subst h;exact⟨c,e,f,j,k,p,rfl⟩
 | a,m,y::s,h,c,e,f,j,k,p=>⟨h.1,h.2.1,h.2.2.1,h.2.2.2.1,h.2.2.2.2.1,h.2.2.2.2.2.1,h.2.2.2.2.2.2.snoc c e f j k p⟩
theorem Ay.cut{x:bB}:∀ {a m:Int} {s:List bB},Ay a (s++[x]) m→Ay a s x.1∧1≤x.2.1∧0≤x.2.2.1∧x.2.2.1≤2∧0≤x.2.2.2∧x.2.2.2≤2∧m=x.1+x.2.1
 | a,m,[],h=>by
  obtain⟨e,f,j,p,q,u,v⟩:=h;simp only[Ay]at v ⊢;exact⟨e.symm,f,j,p,q,u,by omega⟩
 | a,m,y::s,h=>by
  obtain⟨e,f,j,p,q,u,v⟩:=h;obtain⟨z,A⟩:=Ay.cut v;exact⟨⟨e,f,j,p,q,u,z⟩,A⟩
theorem Ay.le:∀ {a n:Int} {s:List bB},Ay a s n→a≤n
 | a,n,[],h=>by simp only[Ay]at h;omega
 | a,n,x::s,h=>by
  have:=Ay.le h.2.2.2.2.2.2;have:=h.2.1;omega
theorem kT{α:Type}(p:List α)(x d:α):(p++[x]).getD p.length d=x:=by simp[List.getD_eq_getElem?_getD]
theorem BN{α:Type}(p:List α)(x y:α):(p++[x]).set p.length y=p++[y]:=by
 rw[List.set_append_right _ _ (Nat.le_refl _),Nat.sub_self];rfl
theorem lC{i:Nat}(h:i≤9000000000000000000):i64.wrap (((i+1:Nat):Int) - 1)=(i:Int):=by rw[wrap_i64 (by omega) (by omega)];omega
def w9(r:Int):Int:=if r=32 then 1 else if r=9 then 2 else 0
theorem It(r:Int):lg r=some (w9 r):=by
 unfold lg w9;by_cases c:r=32
 ·simp[c]
 ·by_cases e:r=9
  ·simp[e]
  ·simp[c,e]
def FT(c:List Int)(k:Nat):Bool:=k == 0 || (decide (k<c.length) && c.getD k 0 != 0)
theorem DH{t:Option ((ep 4352)×List (ep 256))}{f:Int→Int}(z:tj t f){s:List (Int×Int×Int)}(X:s.length≤4096)(c:List Int){k:Nat}(Y:k<s.length){cl:List bB}{st:List Int}(A:cl.length≤k)(e:st.length=cl.length):
  (FT c k=true→da s c t (cl,st,(k:Int))=some (.inl (cl++[((s.getD k (0,(0,0))).2.1,(i64.wrap (0+(s.getD k (0,(0,0))).2.2),(max 0 (min (f (s.getD k (0,(0,0))).1) 2),w9 (s.getD k (0,(0,0))).1)))],st++[(k:Int)],((k+1:Nat):Int)))):=by
 intro hb;have j:ba t=fun r=>some (f r):=z
 have B:(k:Int)<(s.length:Int):=by omega
 have u:0≤(k:Int):=by omega
 have C:(if((k:Int) == (0:Int))=true then some true
   else if decide ((k:Int)<(c.length:Int))=true then(if True∧(k:Int)<(c.length:Int)then some (c.getD k (0:Int) != (0:Int))else none)else some false)=some true:=by
  unfold FT at hb;by_cases v:k=0
  ·subst v;rfl
  ·have D:((k:Int) == 0)=false:=by rw[beq_eq_false_iff_ne];omega
   have E:(k == 0)=false:=by rw[beq_eq_false_iff_ne];exact v
   rw[E,Bool.false_or,Bool.and_eq_true]at hb;have I:(k:Int)<(c.length:Int):=by have:=of_decide_eq_true hb.1;omega
   simp only[D,I,Bool.false_eq_true,if_false,decide_true,and_self,if_true,hb.2]
 have J:i64.wrap ((k:Int)+1)=((k+1:Nat):Int):=bj (by omega);have L:∀x:bB,(cl++[x]).length=cl.length+1:=fun x=>by simp
 have M:∀x:Int,(st++[x]).length=cl.length+1:=fun x=>by simp[e]
 have N:i64.wrap (((cl.length+1:Nat):Int) - 1)=(cl.length:Int):=lC (by omega);have O:(cl.length:Int)<((cl.length+1:Nat):Int):=by omega
 have R:cl.length<cl.length+1:=by omega
 have m:0≤(cl.length:Int):=by omega
 have p:(st++[(k:Int)]).getD cl.length 0=(k:Int):=by rw[←e];exact kT _ _ _
 have q:((k:Int) != (k:Int))=false:=by simp
 have V:∀x:bB,(cl.length+([x]:List bB).length)*32≤140737488355328∧cl.length+([x]:List bB).length≤9223372036854775807:=fun x=>by simp;omega
 have g2:(st.length+([(k:Int)]:List Int).length)*8≤140737488355328∧st.length+([(k:Int)]:List Int).length≤9223372036854775807:=by simp;omega
 simp only[da,B,u,and_self,decide_true,if_true,Int.toNat_natCast];rw[C];simp only[u,and_self,decide_true,if_true,Option.bind,Int.toNat_natCast,It,V,g2,J,L,M,N,O,R,m,p,q,kT,BN,Bool.false_eq_true,if_false,j]
theorem Fm{t:Option ((ep 4352)×List (ep 256))}{f:Int→Int}(D:tj t f){s:List (Int×Int×Int)}(Z:s.length≤4096)(e:List Int){k:Nat}(hk:k<s.length){p:List bB}{c:bB}{q:List Int}{y:Int}(hp:p.length≤k)(A:q.length=p.length)(E:y≠(k:Int))(hb:FT e k=false):
  da s e t (p++[c],q++[y],(k:Int))=some (.inl (p++[(c.1,(i64.wrap (c.2.1+(s.getD k (0,(0,0))).2.2),(max c.2.2.1 (min (f (s.getD k (0,(0,0))).1) 2),0)))],q++[y],((k+1:Nat):Int))):=by
 have j:ba t=fun r=>some (f r):=D
 have I:(k:Int)<(s.length:Int):=by omega
 have B:0≤(k:Int):=by omega
 have J:(if((k:Int) == (0:Int))=true then some true
   else if decide ((k:Int)<(e.length:Int))=true then(if True∧(k:Int)<(e.length:Int)then some (e.getD k (0:Int) != (0:Int))else none)else some false)=some false:=by
  unfold FT at hb;rw[Bool.or_eq_false_iff]at hb;have h0:k≠0:=by have:=hb.1;rw[beq_eq_false_iff_ne]at this;exact this
  have C:((k:Int) == 0)=false:=by rw[beq_eq_false_iff_ne];omega
  by_cases L:k<e.length
  ·have m:(k:Int)<(e.length:Int):=by omega
   have M:(e.getD k 0 != 0)=false:=by have:=hb.2;rw[decide_eq_true L,Bool.true_and]at this;exact this
   simp only[C,m,Bool.false_eq_true,if_false,decide_true,and_self,if_true,M]
  ·have m:¬((k:Int)<(e.length:Int)):=by omega
   simp only[C,m,Bool.false_eq_true,if_false,decide_false]
 have N:i64.wrap ((k:Int)+1)=((k+1:Nat):Int):=bj (by omega);have O:∀x:bB,(p++[x]).length=p.length+1:=fun x=>by simp
 have R:∀x:Int,(q++[x]).length=p.length+1:=fun x=>by simp[A]
 have V:i64.wrap (((p.length+1:Nat):Int) - 1)=(p.length:Int):=lC (by omega);have X:(p.length:Int)<((p.length+1:Nat):Int):=by omega
 have Y:p.length<p.length+1:=by omega
 have u:0≤(p.length:Int):=by omega
 have v:(q++[y]).getD p.length 0=y:=by rw[←A];exact kT _ _ _
 have z:(y != (k:Int))=true:=by rw[bne_iff_ne];exact E
 simp only[da,I,B,and_self,decide_true,if_true,Int.toNat_natCast];rw[J];simp only[B,and_self,decide_true,if_true,Option.bind,Int.toNat_natCast,N,O,R,V,X,Y,u,v,z,kT,BN,Bool.false_eq_true,if_false,j]
theorem Cv.split{a n:Int}:∀ {s:List (Int×Int×Int)} {k:Nat},Cv a s n→k<s.length→Cv a (s.take k) (s.getD k (0,(0,0))).2.1∧1≤(s.getD k (0,(0,0))).2.2∧(s.getD k (0,(0,0))).2.2≤4
 | x::s,0,h,_=>⟨by simp only[List.take_zero,Cv,List.getD_cons_zero];exact h.1.symm,h.2.1,h.2.2.1⟩
 | x::s,k+1,h,q=>by
  obtain⟨z,B,C⟩:=Cv.split h.2.2.2 (show k<s.length by simpa using q);simp only[List.take_succ_cons,List.getD_cons_succ];exact⟨⟨h.1,h.2.1,h.2.2.1,z⟩,B,C⟩
theorem Cv.range{a n:Int}:∀ {s:List (Int×Int×Int)},Cv a s n→a+(s.length:Int)≤n∧n≤a+4*(s.length:Int)
 | [],h=>by simp only[Cv]at h;simp;omega
 | x::s,h=>by
  have:=h.2.2.2.range;have:=h.2.1;have:=h.2.2.1;simp only[List.length_cons];omega
theorem Cv.uniq{a n m:Int}:∀ {s:List (Int×Int×Int)},Cv a s n→Cv a s m→n=m
 | [],h,h'=>by simp only[Cv]at h h';omega
 | x::s,h,h'=>Cv.uniq h.2.2.2 h'.2.2.2
theorem wE{α:Type}{l:List α}(h:0<l.length):∃p x,l=p++[x]:=by
 have c:l≠[]:=fun e=>by simp[e]at h
 exact⟨l.dropLast,l.getLast c,(List.dropLast_concat_getLast c).symm⟩
theorem kW{l:List Int}{x d:Int}{i:Nat}:(l++[x]).getD i d=if i<l.length then l.getD i d else if i=l.length then x else d:=by
 by_cases h:i<l.length
 ·rw[if_pos h,List.getD_eq_getElem?_getD,List.getElem?_append_left h,←List.getD_eq_getElem?_getD]
 ·rw[if_neg h];by_cases e:i=l.length
  ·rw[if_pos e,e];exact kT _ _ _
  ·rw[if_neg e,List.getD_eq_getElem?_getD,List.getElem?_eq_none (by simp;omega)];rfl
structure CM(s:List (Int×Int×Int))(k:Nat)(a:Int)(cl:List bB)(st:List Int):Prop where
 J5:Ay 0 cl a
 Mg:Cv 0 (s.take k) a
 len:st.length=cl.length
 le:cl.length≤k
 at_:∀i,i<st.length→0≤st.getD i 0∧st.getD i 0<(k:Int)
 some_:0<k→0<cl.length
 zero:0<cl.length→st.getD 0 0=0
theorem FL{t:Option ((ep 4352)×List (ep 256))}{f:Int→Int}(O:tj t f){s:List (Int×Int×Int)}{n:Int}(L:Cv 0 s n)(hn:n≤4096)(m:List Int):
  ∃r,iter (da s m t) (([]:List bB),([]:List Int),(0:Int))=some r∧CM s s.length n r.1 r.2:=by
 have hr:=L.range;have B:s.length≤4096:=by omega
 refine cF (fun z:List bB×List Int×Int=>∃(k:Nat) (a:Int),z.2.2=(k:Int)∧k≤s.length∧0≤a∧a≤4*(k:Int)∧CM s k a z.1 z.2.1) (fun z=>s.length - z.2.2.toNat) _ ?_
  ⟨0,0,rfl,by omega,by omega,by omega,⟨rfl,rfl,rfl,by simp,fun i hi=>by simp at hi,fun h=>by omega,fun h=>by simp at h⟩⟩
 rintro⟨cl,st,v⟩ ⟨k,a,rfl,hk,V,ha,j⟩;simp only at j;by_cases u:k<s.length
 ·left
  obtain⟨X,Y,Z⟩:=L.split u;have C:(s.getD k (0,(0,0))).2.1=a:=X.uniq j.Mg;have D:Cv 0 (s.take (k+1)) (a+(s.getD k (0,(0,0))).2.2):=by rw[nU (d:=(0,(0,0))) u];exact j.Mg.snoc C Y Z
  have M:∀x:Int,0≤x→x≤2→0≤max x (min (f (s.getD k (0,(0,0))).1) 2)∧max x (min (f (s.getD k (0,(0,0))).1) 2)≤2:=fun x h0 h1=>by omega
  have E:0≤w9 (s.getD k (0,(0,0))).1∧w9 (s.getD k (0,(0,0))).1≤2:=by unfold w9;split;omega;split <;> omega
  cases hb:FT m k with
  | true =>
   refine⟨_,DH O B m u j.le j.len hb,⟨k+1,a+(s.getD k (0,(0,0))).2.2,rfl,by omega,by omega,by omega,⟨?_,D,by simp[j.len],by have:=j.le;simp;omega,fun i hi=> ?_,fun _=>by simp,fun _=> ?_⟩⟩,by simp only[Int.toNat_natCast];omega⟩
   ·have:=j.J5.snoc (x:=((s.getD k (0,(0,0))).2.1,(i64.wrap (0+(s.getD k (0,(0,0))).2.2),(max 0 (min (f (s.getD k (0,(0,0))).1) 2),w9 (s.getD k (0,(0,0))).1)))) C (by simp only;rw[wrap_i64 (by omega) (by omega)];omega) (by simp only;omega) (by simp only;omega) E.1 E.2;simp only at this;rw[wrap_i64 (by omega) (by omega),Int.zero_add]at this;simp only;rw[wrap_i64 (by omega) (by omega),Int.zero_add];exact this
   ·simp only at hi ⊢;rw[kW];split
    ·rename_i h;have:=j.at_ i h;omega
    ·split <;> omega
   ·simp only;rw[kW];split
    ·rename_i h;exact j.zero (by have:=j.len;omega)
    ·rename_i h;have hl:=j.len;have a1:cl.length=0:=by omega
     have A:k=0:=by
      rcases Nat.eq_zero_or_pos k with e | e
      ·exact e
      ·have:=j.some_ e;omega
     subst A;split <;> rfl
  | false =>
   have A:0<k:=by
    rcases Nat.eq_zero_or_pos k with e | e
    ·subst e;simp[FT]at hb
    ·exact e
   have N:=j.some_ A;have hl:=j.len;obtain⟨p,c,rfl⟩:=wE N;obtain⟨q,y,rfl⟩:=wE (show 0<st.length by omega);have I:q.length=p.length:=by simpa using hl
   have hy:=j.at_ q.length (by simp);rw[kT]at hy;have J:p.length≤k:=by have:=j.le;simp at this;omega
   obtain⟨R,d2,d3,d4,d5,d6,d7⟩:=j.J5.cut;refine⟨_,Fm O B m u J I (by omega) hb,⟨k+1,a+(s.getD k (0,(0,0))).2.2,rfl,by omega,by omega,by omega,⟨?_,D,by simp[I],by have:=j.le;simp at this ⊢;omega,fun i hi=> ?_,fun _=>by simp,fun _=>j.zero (by simp)⟩⟩,by simp only[Int.toNat_natCast];omega⟩
   ·have a2:=R.le;have hw:i64.wrap (c.2.1+(s.getD k (0,(0,0))).2.2)=c.2.1+(s.getD k (0,(0,0))).2.2:=wrap_i64 (by omega) (by omega);obtain⟨m1,m2⟩:=M c.2.2.1 d3 d4;have:=R.snoc (x:=(c.1,(c.2.1+(s.getD k (0,(0,0))).2.2,(max c.2.2.1 (min (f (s.getD k (0,(0,0))).1) 2),0)))) rfl (by simp only;omega) m1 m2 (by simp only;omega) (by simp only;omega);simp only at this;simp only;rw[hw,d7,show c.1+c.2.1+(s.getD k (0,(0,0))).2.2=c.1+(c.2.1+(s.getD k (0,(0,0))).2.2) by omega];exact this
   ·have:=j.at_ i hi;exact⟨this.1,by have:=this.2;simp only;omega⟩
 ·right
  obtain rfl:k=s.length:=by omega
  refine⟨(cl,st),?_,?_⟩
  ·have q1:¬((s.length:Int)<(s.length:Int)):=by omega
   simp only[da,q1,decide_false,Bool.false_eq_true,if_false]
  ·have:=j.Mg;rw[List.take_length]at this;have e:n=a:=L.uniq this;subst e;exact j
end
end Go.Proofs.YtmcemnfjddoejaaGreatDoor.T
