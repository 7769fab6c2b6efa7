import Derived.Test.YtobbjfkfmdiklaaGreatDoorTv50bm
namespace Go.Proofs.YtobbjfkfmdiklaaGreatDoor.T
open Go Go.Tv Go.Proofs
open Go.IntKind (i64 u32)
noncomputable section
theorem bD{i:Nat}(h:i≤9000000000000000000):i64.wrap ((i:Int)+1)=((i+1:Nat):Int):=by rw[wrap_i64 (by omega) (by omega)];rfl
theorem kZ{l:QK}{k:Nat}(hk:k<l.length)(v:Int)(j:Nat):(l.set k v).getD j 0=if k=j then v else l.getD j 0:=by
 simp only[List.getD_eq_getElem?_getD,List.getElem?_set];by_cases e:k=j
 ·rw[if_pos e,if_pos e,if_pos (by omega)];rfl
 ·rw[if_neg e,if_neg e]
theorem GR{l m:QK}(h:l.length=m.length)(e:∀i,i<l.length→l.getD i 0=m.getD i 0):l=m :=
 List.ext_getElem h fun i h1 h2=>by
  have:=e i h1;rwa [kQ h1,kQ h2]at this
theorem Bp{w:QK}{i:Nat}(h:i<w.length):w.reverse.getD i 0=w.getD (w.length - 1 - i) 0:=by
 rw[kQ (by simpa using h),kQ (by omega),List.getElem_reverse]
theorem C9{w:QK}(hl:w.length≤1000000):cg w=some w.reverse:=by
 have key:∃s,iter bP (w,0,i64.wrap ((w.length:Int) - 1))=some s∧s=w.reverse:=by
  rw[wrap_i64 (by omega) (by omega)];refine dh (I:=fun q=>∃i:Nat,q.2.1=(i:Int)∧q.2.2=(w.length:Int) - 1 - i∧i≤w.length∧2*i≤w.length+1∧q.1.length=w.length∧∀p,p<w.length→q.1.getD p 0=if p<i∨w.length≤p+i then w.getD (w.length - 1 - p) 0 else w.getD p 0)
   (μ:=fun q=>w.length - q.2.1.toNat) _ ?_ ⟨0,rfl,by simp,Nat.zero_le _,by omega,rfl,fun p hp=>by rw[if_neg (by omega)]⟩
  rintro⟨s,M,N⟩ ⟨i,f,u,hi,h2,z,hp⟩;dsimp only at f u z hp;subst f u;by_cases C:(i:Int)<(w.length:Int) - 1 - i
  ·obtain⟨j,D⟩:∃j:Nat,(w.length:Int) - 1 - i=(j:Int):=⟨w.length - 1 - i,by omega⟩;have E:j<w.length:=by omega
   have J:s.getD i 0=w.getD i 0:=by rw[hp i (by omega),if_neg (by omega)]
   have L:s.getD j 0=w.getD j 0:=by rw[hp j (by omega),if_neg (by omega)]
   refine .inl ⟨((s.set i (s.getD j 0)).set j (s.getD i 0),((i+1:Nat):Int),((w.length:Int) - 1 - ((i+1:Nat):Int))),?_,⟨i+1,rfl,rfl,by omega,by omega,by simp[z],fun p v=>?_⟩,by simp only[Int.toNat_natCast];omega⟩
   ·unfold bP;dsimp only;rw[D,if_pos (by simp;omega),if_pos (by omega),Int.toNat_natCast,Int.toNat_natCast,if_pos (by omega),if_pos (by omega),if_pos (by omega),if_pos (by omega),if_pos (by omega),if_pos (by rw[List.length_set];omega),if_pos (by rw[List.length_set];omega),bD (by omega),
     wrap_i64 (by omega) (by omega)]
    have:(j:Int) - 1=(w.length:Int) - 1 - ((i+1:Nat):Int):=by omega
    rw[this]
   ·dsimp only;rw[kZ (by rw[List.length_set];omega),kZ (by omega),J,L];by_cases A:j=p
    ·subst A;rw[if_pos rfl,if_pos (by omega)];congr 1;omega
    ·rw[if_neg A];by_cases B:i=p
     ·subst B;rw[if_pos rfl,if_pos (by omega)];congr 1;omega
     ·rw[if_neg B,hp p v];by_cases x:p<i∨w.length≤p+i
      ·rw[if_pos x,if_pos (by omega)]
      ·rw[if_neg x,if_neg (by omega)]
  ·refine .inr ⟨s,?_,GR (by simp[z]) fun p v=>?_⟩
   ·unfold bP;dsimp only;rw[if_neg (by simp;omega)]
   ·rw[hp p (by omega),Bp (by omega)];by_cases x:p<i∨w.length≤p+i
    ·rw[if_pos x]
    ·rw[if_neg x];congr 1;omega
 obtain⟨s,h1,rfl⟩:=key;unfold cg;rw[h1];rfl
structure WA(a:QZ)(k:Nat):Prop where
 pos:0<a.length
 len:∀i,i<a.length→k≤(a.getD i []).length
 val:∀i c,i<a.length→c<k→0≤(a.getD i []).getD c 0∧(a.getD i []).getD c 0<(a.length:Int)
theorem xe{a:QZ}{k:Nat}(h:WA a k)(b:QK){w:QK}(N:w.length≤4096)(hc:∀i,i<w.length→0≤w.getD i 0∧w.getD i 0<(k:Int)):
  ∃r,ni a b w=some r∧r.length=w.length+1∧∀i,0≤r.getD i 0∧r.getD i 0<(a.length:Int):=by
 have hp:=h.pos;obtain⟨r,h1,h2⟩:=dh (body:=j7 a w) (fun s=>∃j st:Nat,s.2.2=(j:Int)∧s.2.1=(st:Int)∧j≤w.length∧st<a.length∧s.1.length=j+1∧∀i,0≤s.1.getD i 0∧s.1.getD i 0<(a.length:Int)) (fun s=>w.length - s.2.2.toNat)
  (fun r=>r.length=w.length+1∧∀i,0≤r.getD i 0∧r.getD i 0<(a.length:Int)) (by
  rintro⟨out,O,v⟩ ⟨j,st,rfl,rfl,V,p,f,q⟩;simp only at f q;by_cases u:j<w.length
  ·left
   obtain⟨B,X⟩:=hc j u;have A:=h.len st p;obtain⟨v1,C⟩:=h.val st (w.getD j 0).toNat p (by omega);have x:(j:Int)<(w.length:Int):=by omega
   have D:0≤(j:Int):=by omega
   have E:¬(w.getD j 0<0):=by omega
   have I:0≤(st:Int):=by omega
   have J:(st:Int)<(a.length:Int):=by omega
   have L:¬(w.getD j 0≥((a.getD st []).length:Int)):=by omega
   have M:w.getD j 0<((a.getD st []).length:Int):=by omega
   refine⟨(out++[(a.getD st []).getD (w.getD j 0).toNat 0],(a.getD st []).getD (w.getD j 0).toNat 0,((j+1:Nat):Int)),?_,⟨j+1,((a.getD st []).getD (w.getD j 0).toNat 0).toNat,rfl,by simp only;omega,by omega,by omega,by simp[f],fun i=>?_⟩,by simp only[Int.toNat_natCast];omega⟩
   ·simp only[j7,x,D,E,I,J,L,M,B,and_self,decide_true,decide_false,if_true,if_false,Bool.false_eq_true,Int.toNat_natCast,Option.bind,List.length_singleton,f];rw[if_pos (by omega),bD (by omega)]
   ·simp only;rcases Nat.lt_or_ge i out.length with hi | hi
    ·rw[List.getD_eq_getElem?_getD,List.getElem?_append_left hi,←List.getD_eq_getElem?_getD];exact q i
    ·rw[List.getD_eq_getElem?_getD,List.getElem?_append_right hi];cases Y:i - out.length with
     | zero=>simpa using⟨v1,C⟩
     | succ n=>simp;omega
  ·right
   obtain rfl:j=w.length:=by omega
   refine⟨out,?_,f,q⟩;have x:¬((w.length:Int)<(w.length:Int)):=by omega
   simp only[j7,x,decide_false,Bool.false_eq_true,if_false]) (s:=([0],0,0)) ⟨0,0,rfl,rfl,by omega,hp,rfl,fun i=>by
    cases i with
    | zero=>simp;omega
    | succ n=>simp;omega⟩
 refine⟨r,?_,h2⟩;unfold ni;have z:((a.length:Int) == 0)=false:=by rw[beq_eq_false_iff_ne];omega
 rw[z,if_neg (by decide),h1];rfl
structure Mo(m:Z5)(k:Nat):Prop where
 cls:0<m.1.1.length
 Np:m.1.1.length≤m.1.2.2.2.1.length
 tr:∀i,i<m.1.2.2.2.1.length→0≤m.1.2.2.2.1.getD i 0∧m.1.2.2.2.1.getD i 0<(k:Int)
 a:WA m.2.1.1 k
 al:m.2.1.1.length≤m.2.1.2.length
 b:WA m.2.2.1 k
 bl:m.2.2.1.length≤m.2.2.2.length
 tz:∀s t:Nat,s<m.2.1.1.length→t<m.2.2.1.length→(bitsOf .and .u32 (m.2.1.2.getD s 0) (m.2.2.2.getD t 0) != 0)=true →
  0≤pX (bitsOf .and .u32 (m.2.1.2.getD s 0) (m.2.2.2.getD t 0))∧pX (bitsOf .and .u32 (m.2.1.2.getD s 0) (m.2.2.2.getD t 0))<(m.1.2.2.2.2.length:Int)
 HJ:∀i,0≤(m.1.2.2.2.2.getD i (0,((Tree.node 0 0 []),(Tree.node 0 0 [])))).1∧(m.1.2.2.2.2.getD i (0,((Tree.node 0 0 []),(Tree.node 0 0 [])))).1≤2
def qn(m:Z5)(x:Int):Int:=if x<0∨(m.1.1.length:Int)≤x then 0 else x
def K3(x c:Int):Bool:=bitsOf .and .u32 (Int.fdiv x (2 ^ (min c.toNat u32.bits))) 1 == 1
theorem Bg{m:Z5}(h:0<m.1.1.length)(x:Int):0≤qn m x∧qn m x<(m.1.1.length:Int):=by
 unfold qn;split
 ·omega
 ·omega
theorem CH{m:Z5}{k:Nat}(h:Mo m k){w:QK}(D:w.length≤4096){j:Nat}(E:j<w.length){at_ f:QK}(base:Bool)(h1:at_.length=f.length)(h2:at_.length≤j):
  db (some m) w (at_,f,base,(j:Int))=some (.inl (if(base && K3 m.1.2.1 (qn m (w.getD j 0)))=true then(at_,f,base,((j+1:Nat):Int))else
   (at_++[(j:Int)],f++[m.1.2.2.2.1.getD (qn m (w.getD j 0)).toNat 0],K3 m.1.2.2.1 (qn m (w.getD j 0)),((j+1:Nat):Int)))):=by
 have A:(j:Int)<(w.length:Int):=by omega
 have B:0≤(j:Int):=by omega
 obtain⟨c0,I⟩:=Bg h.cls (w.getD j 0);have C:=h.Np;have u:qn m (w.getD j 0)<(m.1.2.2.2.1.length:Int):=by omega
 have v:(at_.length+([(j:Int)]:QK).length)*8≤140737488355328∧at_.length+([(j:Int)]:QK).length≤9223372036854775807:=by simp;omega
 have g2:∀x:Int,(f.length+([x]:QK).length)*8≤140737488355328∧f.length+([x]:QK).length≤9223372036854775807:=fun x=>by simp;omega
 have hc:∀ {β:Type} (K:Int→Option β),(((if decide (w.getD j 0<0)=true then some true else some (decide (w.getD j 0≥(m.1.1.length:Int)))):Option Bool).bind fun p=>((if p=true then some (0:Int)else some (w.getD j 0))).bind K)=K (qn m (w.getD j 0)):=fun K=>by
  generalize w.getD j 0=x;unfold qn;by_cases q:x<0
  ·simp[q]
  ·by_cases z:(m.1.1.length:Int)≤x
   ·simp[q,z]
   ·simp[q,z]
 simp only[db,A,B,and_self,decide_true,if_true,Int.toNat_natCast,Option.isSome,Option.getD];rw[hc];unfold K3;cases base with
 | false=>simp only[Bool.false_and,Bool.false_eq_true,if_false,if_true,Option.bind,c0,u,v,g2,and_self,bD (show j≤9000000000000000000 by omega)]
 | true =>
  simp only[Bool.true_and,if_true,Option.bind,c0];split
  ·rw[bD (by omega)]
  ·simp only[u,v,g2,and_self,if_true,bD (show j≤9000000000000000000 by omega)]
theorem Hz{m:Z5}{k:Nat}(h:Mo m k){w:QK}(A:w.length≤4096):∃r,iter (db (some m) w) (([]:QK),([]:QK),false,(0:Int))=some r ∧
  r.1.length=r.2.length∧r.1.length≤w.length∧(∀i,i<r.1.length→0≤r.1.getD i 0∧r.1.getD i 0<(w.length:Int))∧∀i,i<r.2.length→0≤r.2.getD i 0∧r.2.getD i 0<(k:Int):=by
 have snoc:∀ {l:QK} {x hi:Int},(∀i,i<l.length→0≤l.getD i 0∧l.getD i 0<hi)→0≤x→x<hi→∀i,i<(l++[x]).length→0≤(l++[x]).getD i 0∧(l++[x]).getD i 0<hi:=fun {l x hi} hl B h1 i q=>by
  rcases Nat.lt_or_ge i l.length with u | u
  ·rw[List.getD_eq_getElem?_getD,List.getElem?_append_left u,←List.getD_eq_getElem?_getD];exact hl i u
  ·have:i=l.length:=by simp at q;omega
   subst this;simp[B,h1]
 refine dh (fun s:QK×QK×Bool×Int=>∃j:Nat,s.2.2.2=(j:Int)∧j≤w.length∧s.1.length=s.2.1.length∧s.1.length≤j∧(∀i,i<s.1.length→0≤s.1.getD i 0∧s.1.getD i 0<(w.length:Int))∧∀i,i<s.2.1.length→0≤s.2.1.getD i 0∧s.2.1.getD i 0<(k:Int)) (fun s=>w.length - s.2.2.2.toNat) _ ?_
  ⟨0,rfl,by omega,rfl,by simp,fun i hi=>by simp at hi,fun i hi=>by simp at hi⟩
 rintro⟨at_,C,base,v⟩ ⟨j,rfl,L,h1,h2,f,p⟩;simp only at h1 h2 f p;by_cases z:j<w.length
 ·left
  refine⟨_,CH h A z base h1 h2,?_,?_⟩
  ·split
   ·exact⟨j+1,rfl,by omega,h1,by simp only;omega,f,p⟩
   ·obtain⟨c0,M⟩:=Bg h.cls (w.getD j 0);have D:=h.Np;obtain⟨E,I⟩:=h.tr (qn m (w.getD j 0)).toNat (by omega);exact⟨j+1,rfl,by omega,by simp[h1],by simp;omega,snoc f (by omega) (by omega),snoc p E I⟩
  ·split <;> simp only[Int.toNat_natCast] <;> omega
 ·right
  obtain rfl:j=w.length:=by omega
  refine⟨(at_,C),?_,h1,by simp only;omega,f,p⟩;have J:¬((w.length:Int)<(w.length:Int)):=by omega
  simp only[db,J,decide_false,Bool.false_eq_true,if_false]
def IH(n:Nat)(out:QK):Prop:=out.length=n+1∧out.getD n 0=2∧∀i,0≤out.getD i 0∧out.getD i 0≤2
theorem IH.set{n:Nat}{out:QK}(h:IH n out){i:Nat}(hi:i<n){v:Int}(f:0≤v)(h2:v≤2):IH n (out.set i v):=by
 obtain⟨a,b,c⟩:=h;refine⟨by simp[a],by rw[kZ (by omega),if_neg (by omega)];exact b,fun j=>?_⟩;rw[kZ (by omega)];split
 ·exact⟨f,h2⟩
 ·exact c j
theorem GU{m:Z5}{k:Nat}(h:Mo m k){n:Nat}(hn:n≤4096){at_ p q:QK}(h1:at_.length≤n)(ha:∀i,i<at_.length→0≤at_.getD i 0∧at_.getD i 0<(n:Int))
  (l3:p.length=at_.length+1) (O:∀i,0≤p.getD i 0∧p.getD i 0<(m.2.1.1.length:Int)) (l7:q.length=at_.length+1) (V:∀i,0≤q.getD i 0∧q.getD i 0<(m.2.2.1.length:Int)) {out:QK} (ho:IH n out) :
  ∃r,iter (dc (some m) at_ p q) (out,(1:Int))=some r∧IH n r:=by
 refine dh (fun s:QK×Int=>∃j:Nat,s.2=(j:Int)∧1≤j∧IH n s.1) (fun s=>at_.length - s.2.toNat) _ ?_ ⟨1,rfl,by omega,ho⟩;rintro⟨o,v⟩ ⟨j,rfl,hj,x⟩;simp only at x;by_cases u:j<at_.length
 ·left
  obtain⟨a0,a1⟩:=ha j u;obtain⟨B,b1⟩:=O j;obtain⟨c0,c1⟩:=V (at_.length - j);have X:=h.al;have Y:=h.bl;have A:(j:Int)<(at_.length:Int):=by omega
  have C:0≤(j:Int):=by omega
  have D:(j:Int)<(p.length:Int):=by omega
  have E:i64.wrap ((at_.length:Int) - (j:Int))=((at_.length - j:Nat):Int):=by rw[wrap_i64 (by omega) (by omega)];omega
  have I:0≤((at_.length - j:Nat):Int):=by omega
  have J:((at_.length - j:Nat):Int)<(q.length:Int):=by omega
  have L:p.getD j 0<(m.2.1.2.length:Int):=by omega
  have M:q.getD (at_.length - j) 0<(m.2.2.2.length:Int):=by omega
  have N:at_.getD j 0<(o.length:Int):=by rw[x.1];omega
  have z:(at_.getD j 0).toNat<o.length:=by rw[x.1];omega
  have f:=x.set (i:=(at_.getD j 0).toNat) (by omega) (v:=1) (by omega) (by omega);by_cases hb:(bitsOf .and .u32 (m.2.1.2.getD (p.getD j 0).toNat 0) (m.2.2.2.getD (q.getD (at_.length - j) 0).toNat 0) != 0)=true
  ·obtain⟨Z,z1⟩:=h.tz _ _ (by omega) (by omega) hb;obtain⟨d0,d1⟩:=h.HJ (pX (bitsOf .and .u32 (m.2.1.2.getD (p.getD j 0).toNat 0) (m.2.2.2.getD (q.getD (at_.length - j) 0).toNat 0))).toNat;refine⟨((o.set (at_.getD j 0).toNat 1).set (at_.getD j 0).toNat (m.1.2.2.2.2.getD (pX (bitsOf .and .u32 (m.2.1.2.getD (p.getD j 0).toNat 0) (m.2.2.2.getD (q.getD (at_.length - j) 0).toNat 0))).toNat (0,((Tree.node 0 0 []),(Tree.node 0 0 [])))).1,((j+1:Nat):Int)),?_,⟨j+1,rfl,by omega,f.set (i:=(at_.getD j 0).toNat) (by omega) d0 d1⟩,by simp only[Int.toNat_natCast];omega⟩;simp only[dc,A,C,D,E,I,J,L,M,N,z,a0,B,c0,hb,Z,z1,gx,List.length_set,u,and_self,decide_true,if_true,Option.bind,Option.isSome,Option.getD,Int.toNat_natCast,bD (show j≤9000000000000000000 by omega)]
  ·refine⟨(o.set (at_.getD j 0).toNat 1,((j+1:Nat):Int)),?_,⟨j+1,rfl,by omega,f⟩,by simp only[Int.toNat_natCast];omega⟩;simp only[dc,A,C,D,E,I,J,L,M,N,z,a0,B,c0,hb,u,and_self,decide_true,if_true,if_false,Bool.false_eq_true,Option.bind,Option.isSome,Option.getD,Int.toNat_natCast,bD (show j≤9000000000000000000 by omega)]
 ·right
  refine⟨o,?_,x⟩;have A:¬((j:Int)<(at_.length:Int)):=by omega
  simp only[dc,A,decide_false,Bool.false_eq_true,if_false]
theorem ye{m:Z5}{k:Nat}(h:Mo m k){w:QK}(q:w.length≤4096):∃out,eG (some m) w=some out∧IH w.length out:=by
 obtain⟨⟨at_,f⟩,z,u,v,x,j⟩:=Hz h q;simp only at u v x j;obtain⟨M,A,N,B⟩:=xe h.a m.2.1.2 (w:=f) (by omega) j;obtain⟨O,C,D,E⟩:=xe h.b m.2.2.2 (w:=f.reverse) (by simp;omega) (fun i hi=>by
  rw[List.length_reverse]at hi;rw[Bp hi];exact j _ (by omega))
 have I:IH w.length ((List.replicate (w.length+1) (0:Int)).set w.length 2):=by
  refine⟨by simp,by rw[kZ (by simp),if_pos rfl],fun i=>?_⟩;rw[kZ (by simp)];split
  ·omega
  ·rcases Nat.lt_or_ge i (w.length+1)with hi | hi
   ·rw[show(List.replicate (w.length+1) (0:Int)).getD i 0=0 by simp[List.getD_eq_getElem?_getD,hi]];omega
   ·rw[List.getD_eq_getElem?_getD,List.getElem?_eq_none (by simpa using hi)];simp
 obtain⟨r,J,L⟩:=GU h q v x (by omega) B (by simpa [u]using D) E I;refine⟨r,?_,L⟩;have p:i64.wrap ((w.length:Int)+1)=((w.length+1:Nat):Int):=bD (by omega);unfold eG;simp only[p,Int.toNat_natCast,z,A,C9 (show f.length≤1000000 by omega),C,Option.bind,Option.isNone,Option.isSome,Option.getD,Bool.false_eq_true,if_false,if_true,J];rw[if_pos (by omega),if_pos (by simp;omega),if_pos (by simp)]
theorem I8{l:List (Int×Tree×Tree)}(h:∀x∈l,0≤x.1∧x.1≤2)(i:Nat):0≤(l.getD i (0,((Tree.node 0 0 []),(Tree.node 0 0 [])))).1∧(l.getD i (0,((Tree.node 0 0 []),(Tree.node 0 0 [])))).1≤2:=by
 rcases Nat.lt_or_ge i l.length with hi | hi
 ·rw[kQ hi];exact h _ (List.getElem_mem hi)
 ·rw[List.getD_eq_getElem?_getD,List.getElem?_eq_none hi];simp
abbrev bK:=Int×Int×Int×Int
abbrev Qw:=List bK
def sQ:Int→Qw→Int→Prop
 | a,[],n=>a=n
 | a,x::r,n=>x.1=a∧1≤x.2.1∧0≤x.2.2.1∧x.2.2.1≤2∧0≤x.2.2.2∧x.2.2.2≤2∧sQ (a+x.2.1) r n
theorem sQ.snoc{x:bK}:∀ {a m:Int} {s:Qw},sQ a s m→x.1=m→1≤x.2.1→0≤x.2.2.1→x.2.2.1≤2→0≤x.2.2.2→x.2.2.2≤2→sQ a (s++[x]) (m+x.2.1)
 | a,m,[],h,h1,h2,f,j,p,q=>by
  simp only[sQ]at h;subst h;exact⟨h1,h2,f,j,p,q,rfl⟩
 | a,m,y::s,h,h1,h2,f,j,p,q=>⟨h.1,h.2.1,h.2.2.1,h.2.2.2.1,h.2.2.2.2.1,h.2.2.2.2.2.1,h.2.2.2.2.2.2.snoc h1 h2 f j p q⟩
theorem sQ.cut{x:bK}:∀ {a m:Int} {s:Qw},sQ a (s++[x]) m→sQ a s x.1∧1≤x.2.1∧0≤x.2.2.1∧x.2.2.1≤2∧0≤x.2.2.2∧x.2.2.2≤2∧m=x.1+x.2.1
 | a,m,[],h=>by
  obtain⟨h1,h2,f,j,p,q,u⟩:=h;simp only[sQ]at u ⊢;exact⟨h1.symm,h2,f,j,p,q,by omega⟩
 | a,m,y::s,h=>by
  obtain⟨h1,h2,f,j,p,q,u⟩:=h;obtain⟨v,z⟩:=sQ.cut u;exact⟨⟨h1,h2,f,j,p,q,v⟩,z⟩
theorem sQ.le:∀ {a n:Int} {s:Qw},sQ a s n→a≤n
 | a,n,[],h=>by simp only[sQ]at h;omega
 | a,n,x::s,h=>by
  have:=sQ.le h.2.2.2.2.2.2;have:=h.2.1;omega
theorem lI{α:Type}(p:List α)(x d:α):(p++[x]).getD p.length d=x:=by simp[List.getD_eq_getElem?_getD]
theorem BW{α:Type}(p:List α)(x y:α):(p++[x]).set p.length y=p++[y]:=by
 rw[List.set_append_right _ _ (Nat.le_refl _),Nat.sub_self];rfl
theorem lQ{i:Nat}(h:i≤9000000000000000000):i64.wrap (((i+1:Nat):Int) - 1)=(i:Int):=by rw[wrap_i64 (by omega) (by omega)];omega
def wP(r:Int):Int:=if r=32 then 1 else if r=9 then 2 else 0
theorem Jz(r:Int):lG r=some (wP r):=by
 unfold lG wP;by_cases h1:r=32
 ·simp[h1]
 ·by_cases h2:r=9
  ·simp[h2]
  ·simp[h1,h2]
def FQ(f:QK)(k:Nat):Bool:=k == 0 || (decide (k<f.length) && f.getD k 0 != 0)
theorem Dh{t:Option ((ff 4352)×List (ff 256))}{f:Int→Int}(ht:ot t f){s:Qx}(hs:s.length≤4096)(j:QK){k:Nat}(hk:k<s.length){cl:Qw}{st:QK}(C:cl.length≤k)(p:st.length=cl.length):
  (FQ j k=true→dv s j t (cl,st,(k:Int))=some (.inl (cl++[((s.getD k (0,(0,0))).2.1,(i64.wrap (0+(s.getD k (0,(0,0))).2.2),(max 0 (min (f (s.getD k (0,(0,0))).1) 2),wP (s.getD k (0,(0,0))).1)))],st++[(k:Int)],((k+1:Nat):Int)))):=by
 intro hb;have q:bf t=fun r=>some (f r):=ht
 have D:(k:Int)<(s.length:Int):=by omega
 have A:0≤(k:Int):=by omega
 have E:(if((k:Int) == (0:Int))=true then some true
   else if decide ((k:Int)<(j.length:Int))=true then(if True∧(k:Int)<(j.length:Int)then some (j.getD k (0:Int) != (0:Int))else none)else some false)=some true:=by
  unfold FQ at hb;by_cases B:k=0
  ·subst B;rfl
  ·have I:((k:Int) == 0)=false:=by rw[beq_eq_false_iff_ne];omega
   have J:(k == 0)=false:=by rw[beq_eq_false_iff_ne];exact B
   rw[J,Bool.false_or,Bool.and_eq_true]at hb;have L:(k:Int)<(j.length:Int):=by have:=of_decide_eq_true hb.1;omega
   simp only[I,L,Bool.false_eq_true,if_false,decide_true,and_self,if_true,hb.2]
 have M:i64.wrap ((k:Int)+1)=((k+1:Nat):Int):=bD (by omega);have N:∀x:bK,(cl++[x]).length=cl.length+1:=fun x=>by simp
 have O:∀x:Int,(st++[x]).length=cl.length+1:=fun x=>by simp[p]
 have V:i64.wrap (((cl.length+1:Nat):Int) - 1)=(cl.length:Int):=lQ (by omega);have X:(cl.length:Int)<((cl.length+1:Nat):Int):=by omega
 have Y:cl.length<cl.length+1:=by omega
 have u:0≤(cl.length:Int):=by omega
 have v:(st++[(k:Int)]).getD cl.length 0=(k:Int):=by rw[←p];exact lI _ _ _
 have z:((k:Int) != (k:Int))=false:=by simp
 have Z:∀x:bK,(cl.length+([x]:Qw).length)*32≤140737488355328∧cl.length+([x]:Qw).length≤9223372036854775807:=fun x=>by simp;omega
 have g2:(st.length+([(k:Int)]:QK).length)*8≤140737488355328∧st.length+([(k:Int)]:QK).length≤9223372036854775807:=by simp;omega
 simp only[dv,D,A,and_self,decide_true,if_true,Int.toNat_natCast];rw[E];simp only[A,and_self,decide_true,if_true,Option.bind,Int.toNat_natCast,Jz,Z,g2,M,N,O,V,X,Y,u,v,z,lI,BW,Bool.false_eq_true,if_false,q]
theorem Fa{t:Option ((ff 4352)×List (ff 256))}{f:Int→Int}(ht:ot t f){s:Qx}(hs:s.length≤4096)(j:QK){k:Nat}(hk:k<s.length){p:Qw}{c:bK}{q:QK}{y:Int}(hp:p.length≤k)(C:q.length=p.length)(I:y≠(k:Int))(hb:FQ j k=false):
  dv s j t (p++[c],q++[y],(k:Int))=some (.inl (p++[(c.1,(i64.wrap (c.2.1+(s.getD k (0,(0,0))).2.2),(max c.2.2.1 (min (f (s.getD k (0,(0,0))).1) 2),0)))],q++[y],((k+1:Nat):Int))):=by
 have u:bf t=fun r=>some (f r):=ht
 have J:(k:Int)<(s.length:Int):=by omega
 have D:0≤(k:Int):=by omega
 have L:(if((k:Int) == (0:Int))=true then some true
   else if decide ((k:Int)<(j.length:Int))=true then(if True∧(k:Int)<(j.length:Int)then some (j.getD k (0:Int) != (0:Int))else none)else some false)=some false:=by
  unfold FQ at hb;rw[Bool.or_eq_false_iff]at hb;have h0:k≠0:=by have:=hb.1;rw[beq_eq_false_iff_ne]at this;exact this
  have E:((k:Int) == 0)=false:=by rw[beq_eq_false_iff_ne];omega
  by_cases M:k<j.length
  ·have v:(k:Int)<(j.length:Int):=by omega
   have N:(j.getD k 0 != 0)=false:=by have:=hb.2;rw[decide_eq_true M,Bool.true_and]at this;exact this
   simp only[E,v,Bool.false_eq_true,if_false,decide_true,and_self,if_true,N]
  ·have v:¬((k:Int)<(j.length:Int)):=by omega
   simp only[E,v,Bool.false_eq_true,if_false,decide_false]
 have O:i64.wrap ((k:Int)+1)=((k+1:Nat):Int):=bD (by omega);have V:∀x:bK,(p++[x]).length=p.length+1:=fun x=>by simp
 have X:∀x:Int,(q++[x]).length=p.length+1:=fun x=>by simp[C]
 have Y:i64.wrap (((p.length+1:Nat):Int) - 1)=(p.length:Int):=lQ (by omega);have Z:(p.length:Int)<((p.length+1:Nat):Int):=by omega
 have q9:p.length<p.length+1:=by omega
 have z:0≤(p.length:Int):=by omega
 have A:(q++[y]).getD p.length 0=y:=by rw[←C];exact lI _ _ _
 have B:(y != (k:Int))=true:=by rw[bne_iff_ne];exact I
 simp only[dv,J,D,and_self,decide_true,if_true,Int.toNat_natCast];rw[L];simp only[D,and_self,decide_true,if_true,Option.bind,Int.toNat_natCast,O,V,X,Y,Z,q9,z,A,B,lI,BW,Bool.false_eq_true,if_false,u]
theorem Cv.split{a n:Int}:∀ {s:Qx} {k:Nat},Cv a s n→k<s.length→Cv a (s.take k) (s.getD k (0,(0,0))).2.1∧1≤(s.getD k (0,(0,0))).2.2∧(s.getD k (0,(0,0))).2.2≤4
 | x::s,0,h,_=>⟨by simp only[List.take_zero,Cv,List.getD_cons_zero];exact h.1.symm,h.2.1,h.2.2.1⟩
 | x::s,k+1,h,hk=>by
  obtain⟨q,z,B⟩:=Cv.split h.2.2.2 (show k<s.length by simpa using hk);simp only[List.take_succ_cons,List.getD_cons_succ];exact⟨⟨h.1,h.2.1,h.2.2.1,q⟩,z,B⟩
theorem Cv.range{a n:Int}:∀ {s:Qx},Cv a s n→a+(s.length:Int)≤n∧n≤a+4*(s.length:Int)
 | [],h=>by simp only[Cv]at h;simp;omega
 | x::s,h=>by
  have:=h.2.2.2.range;have:=h.2.1;have:=h.2.2.1;simp only[List.length_cons];omega
theorem Cv.uniq{a n m:Int}:∀ {s:Qx},Cv a s n→Cv a s m→n=m
 | [],h,h'=>by simp only[Cv]at h h';omega
 | x::s,h,h'=>Cv.uniq h.2.2.2 h'.2.2.2
theorem wk{α:Type}{l:List α}(h:0<l.length):∃p x,l=p++[x]:=by
 have f:l≠[]:=fun e=>by simp[e]at h
 exact⟨l.dropLast,l.getLast f,(List.dropLast_concat_getLast f).symm⟩
theorem lr{l:QK}{x d:Int}{i:Nat}:(l++[x]).getD i d=if i<l.length then l.getD i d else if i=l.length then x else d:=by
 by_cases h:i<l.length
 ·rw[if_pos h,List.getD_eq_getElem?_getD,List.getElem?_append_left h,←List.getD_eq_getElem?_getD]
 ·rw[if_neg h];by_cases e:i=l.length
  ·rw[if_pos e,e];exact lI _ _ _
  ·rw[if_neg e,List.getD_eq_getElem?_getD,List.getElem?_eq_none (by simp;omega)];rfl
structure CM(s:Qx)(k:Nat)(a:Int)(cl:Qw)(st:QK):Prop where
 KD:sQ 0 cl a
 MA:Cv 0 (s.take k) a
 len:st.length=cl.length
 le:cl.length≤k
 at_:∀i,i<st.length→0≤st.getD i 0∧st.getD i 0<(k:Int)
 some_:0<k→0<cl.length
 zero:0<cl.length→st.getD 0 0=0
theorem E1{t:Option ((ff 4352)×List (ff 256))}{f:Int→Int}(ht:ot t f){s:Qx}{n:Int}(hc:Cv 0 s n)(hn:n≤4096)(u:QK):
  ∃r,iter (dv s u t) (([]:Qw),([]:QK),(0:Int))=some r∧CM s s.length n r.1 r.2:=by
 have hr:=hc.range;have C:s.length≤4096:=by omega
 refine dh (fun z:Qw×QK×Int=>∃(k:Nat) (a:Int),z.2.2=(k:Int)∧k≤s.length∧0≤a∧a≤4*(k:Int)∧CM s k a z.1 z.2.1) (fun z=>s.length - z.2.2.toNat) _ ?_
  ⟨0,0,rfl,by omega,by omega,by omega,⟨rfl,rfl,rfl,by simp,fun i hi=>by simp at hi,fun h=>by omega,fun h=>by simp at h⟩⟩
 rintro⟨cl,st,v⟩ ⟨k,a,rfl,hk,V,ha,j⟩;simp only at j;by_cases A:k<s.length
 ·left
  obtain⟨X,Y,Z⟩:=hc.split A;have D:(s.getD k (0,(0,0))).2.1=a:=X.uniq j.MA;have E:Cv 0 (s.take (k+1)) (a+(s.getD k (0,(0,0))).2.2):=by rw[qR (d:=(0,(0,0))) A];exact j.MA.snoc D Y Z
  have M:∀x:Int,0≤x→x≤2→0≤max x (min (f (s.getD k (0,(0,0))).1) 2)∧max x (min (f (s.getD k (0,(0,0))).1) 2)≤2:=fun x h0 h1=>by omega
  have I:0≤wP (s.getD k (0,(0,0))).1∧wP (s.getD k (0,(0,0))).1≤2:=by unfold wP;split;omega;split <;> omega
  cases hb:FQ u k with
  | true =>
   refine⟨_,Dh ht C u A j.le j.len hb,⟨k+1,a+(s.getD k (0,(0,0))).2.2,rfl,by omega,by omega,by omega,⟨?_,E,by simp[j.len],by have:=j.le;simp;omega,fun i hi=>?_,fun _=>by simp,fun _=>?_⟩⟩,by simp only[Int.toNat_natCast];omega⟩
   ·have:=j.KD.snoc (x:=((s.getD k (0,(0,0))).2.1,(i64.wrap (0+(s.getD k (0,(0,0))).2.2),(max 0 (min (f (s.getD k (0,(0,0))).1) 2),wP (s.getD k (0,(0,0))).1)))) D (by simp only;rw[wrap_i64 (by omega) (by omega)];omega) (by simp only;omega) (by simp only;omega) I.1 I.2;simp only at this;rw[wrap_i64 (by omega) (by omega),Int.zero_add]at this;simp only;rw[wrap_i64 (by omega) (by omega),Int.zero_add];exact this
   ·simp only at hi ⊢;rw[lr];split
    ·rename_i h;have:=j.at_ i h;omega
    ·split <;> omega
   ·simp only;rw[lr];split
    ·rename_i h;exact j.zero (by have:=j.len;omega)
    ·rename_i h;have hl:=j.len;have a1:cl.length=0:=by omega
     have B:k=0:=by
      rcases Nat.eq_zero_or_pos k with e | e
      ·exact e
      ·have:=j.some_ e;omega
     subst B;split <;> rfl
  | false =>
   have B:0<k:=by
    rcases Nat.eq_zero_or_pos k with e | e
    ·subst e;simp[FQ]at hb
    ·exact e
   have N:=j.some_ B;have hl:=j.len;obtain⟨p,c,rfl⟩:=wk N;obtain⟨q,y,rfl⟩:=wk (show 0<st.length by omega);have J:q.length=p.length:=by simpa using hl
   have hy:=j.at_ q.length (by simp);rw[lI]at hy;have L:p.length≤k:=by have:=j.le;simp at this;omega
   obtain⟨O,d2,d3,d4,d5,d6,d7⟩:=j.KD.cut;refine⟨_,Fa ht C u A L J (by omega) hb,⟨k+1,a+(s.getD k (0,(0,0))).2.2,rfl,by omega,by omega,by omega,⟨?_,E,by simp[J],by have:=j.le;simp at this ⊢;omega,fun i hi=>?_,fun _=>by simp,fun _=>j.zero (by simp)⟩⟩,by simp only[Int.toNat_natCast];omega⟩
   ·have a2:=O.le;have hw:i64.wrap (c.2.1+(s.getD k (0,(0,0))).2.2)=c.2.1+(s.getD k (0,(0,0))).2.2:=wrap_i64 (by omega) (by omega);obtain⟨m1,m2⟩:=M c.2.2.1 d3 d4;have:=O.snoc (x:=(c.1,(c.2.1+(s.getD k (0,(0,0))).2.2,(max c.2.2.1 (min (f (s.getD k (0,(0,0))).1) 2),0)))) rfl (by simp only;omega) m1 m2 (by simp only;omega) (by simp only;omega);simp only at this;simp only;rw[hw,d7,show c.1+c.2.1+(s.getD k (0,(0,0))).2.2=c.1+(c.2.1+(s.getD k (0,(0,0))).2.2) by omega];exact this
   ·have:=j.at_ i hi;exact⟨this.1,by have:=this.2;simp only;omega⟩
 ·right
  obtain rfl:k=s.length:=by omega
  refine⟨(cl,st),?_,?_⟩
  ·have q1:¬((s.length:Int)<(s.length:Int)):=by omega
   simp only[dv,q1,decide_false,Bool.false_eq_true,if_false]
  ·have:=j.MA;rw[List.take_length]at this;have e:n=a:=hc.uniq this;subst e;exact j
end
end Go.Proofs.YtobbjfkfmdiklaaGreatDoor.T
