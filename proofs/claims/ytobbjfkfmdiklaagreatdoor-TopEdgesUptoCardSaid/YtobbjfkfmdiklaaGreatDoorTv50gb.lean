import Derived.Test.YtobbjfkfmdiklaaGreatDoorTv50um
namespace Go.Proofs.YtobbjfkfmdiklaaGreatDoor.T
open Go Go.Tv Go.Proofs
def Dp:Nat→Tree→Prop
 | 0,_=>False
 | n+1,.node _ _ j=>j.length≤1000000∧∀k∈j,Dp n k
theorem Dp.mono:∀ {n m:Nat} {t:Tree},n≤m→Dp n t→Dp m t
 | 0,_,_,_,h=>h.elim
 | n+1,0,_,hl,_=>absurd hl (by omega)
 | n+1,m+1,.node _ _ j,hl,h=>⟨h.1,fun k hk=>Dp.mono (by omega) (h.2 k hk)⟩
theorem tA:∀x:Tree,Tree.node x.op x.set x.kids=x
 | .node _ _ _=>rfl
theorem Dp.getD{n:Nat}{l:XX}(h:∀x∈l,Dp n x){i:Nat}(hi:i<l.length)(d:Tree):Dp n (l.getD i d):=by
 rw[List.getD_eq_getElem?_getD,List.getElem?_eq_getElem hi];exact h _ (List.getElem_mem hi)
theorem dZ{α:Type}{P:α→Prop}{l:List α}{x:α}(h:∀y∈l,P y)(j:P x):∀y∈l++[x],P y:=fun y p=>by
 rcases List.mem_append.1 p with q | q
 ·exact h y q
 ·rw[List.mem_singleton.1 q];exact j
abbrev La:=QX→Int→Int→Int→Int→Int→QQ→QK→XJ→XQ→Option (oz⊕(Int×Int))
section
variable{t:QX}(ht:t.length≤4096){p3 p4 p6:Int}{o1:QQ}{o2:QK}{o3:XJ}{o4:XQ}
def Ex(t:QX)(n:Nat)(a p6:Int):oz⊕(Int×Int)→Prop:=Nm fun(e,p,_,j)=>a≤p∧At t p∧j=p6∧Dp n e
def NY(t:QX)(n:Nat)(a p6:Int):oz⊕(Int×Int)→Prop:=Nm fun(e,p,_,j)=>a<p∧At t p∧j=p6∧Dp n e
include ht
theorem HS{rec:La}(E:0≤p6)(A:p6≤16){d:Nat}(j:p6+1≤16→∀a p5,At t a→Ho (rec t a p3 p4 p5 (p6+1) o1 o2 o3 o4) (Ex t d a (p6+1))){a:Int}(ha:At t a)(p5:Int):
  Ho (eD rec t a p3 p4 p5 p6 o1 o2 o3 o4) (NY t (d+1) a p6):=by
 refine ao (mg ht ha (by decide)) ?_;rintro(⟨b,p⟩ | e) h
 rotate_left
 ·exact⟨_,rfl,trivial⟩
 obtain⟨h1,h2,B⟩:=h;have C:IntKind.i64.wrap (p6+1)=p6+1:=wrap_i64 (by omega) (by omega);refine aH (fun hb=>aH (fun _=>⟨_,rfl,trivial⟩) fun hd=>?_) (fun _=>aH (fun _=>⟨_,rfl,trivial⟩) fun _=>aV (by omega) ?_)
 ·rw[C]at hd ⊢;have v:p6+1≤16:=by simpa using hd
  refine ao (j v p _ h2) ?_;rintro(⟨e,q,I,J⟩ | e) h
  rotate_left
  ·exact⟨_,rfl,trivial⟩
  obtain⟨D,g2,rfl,g4⟩:=h;refine ao (pA ht g2 (by decide)) ?_;rintro(r | e) h
  ·have:=B hb;dsimp only;rw[tA,wrap_i64 (by omega) (by omega)];exact aq ⟨by have:=h.1;(try simp only);omega,h.2,by(try simp only);omega,g4.mono (by omega)⟩
  ·exact⟨_,rfl,trivial⟩
 ·refine ao (mg ht h2 (by decide)) ?_;rintro(⟨b,q⟩ | e) h
  rotate_left
  ·exact⟨_,rfl,trivial⟩
  obtain⟨D,g2,g3⟩:=h;refine ao (P:=Nm fun(_,r)=>a<r∧At t r) ?_ ?_
  ·refine aH (fun hb=>aq ⟨by have:=g3 hb;omega,g2⟩) fun _=>?_
   refine ao (mg ht g2 (by decide)) ?_;rintro(⟨b,r⟩ | e) h
   rotate_left
   ·exact⟨_,rfl,trivial⟩
   obtain⟨L,z,M⟩:=h;refine aH (fun _=>?_) fun _=>?_
   ·refine ao (mg ht z (by decide)) ?_;rintro(⟨b,s⟩ | e) h
    rotate_left
    ·exact⟨_,rfl,trivial⟩
    refine ao (nI ht h.2.1 (by decide)) ?_;have N:=h.1;rintro(⟨x,u⟩ | e) h
    ·exact aH (fun _=>aq ⟨by have:=h.1;(try simp only at this ⊢);omega,h.2⟩) fun _=>aq ⟨by have:=h.1;(try simp only at this ⊢);omega,h.2⟩
    ·exact⟨_,rfl,trivial⟩
   ·refine ao (Bp ht z) ?_;rintro(⟨x,u⟩ | e) h
    ·exact aq ⟨by have:=h.1;(try simp only at this ⊢);omega,h.2⟩
    ·exact⟨_,rfl,trivial⟩
  ·rintro(⟨x,r⟩ | e) h
   ·exact aq ⟨h.1,h.2,rfl,by decide,fun k hk=>by cases hk⟩
   ·exact⟨_,rfl,trivial⟩
theorem Ix{rec:La}(A:0≤p6)(x:p6≤16){d:Nat}(u:p6+1≤16→∀a p5,At t a→Ho (rec t a p3 p4 p5 (p6+1) o1 o2 o3 o4) (Ex t d a (p6+1))){a:Int}(ha:At t a)(p5:Int):
  Ho (eE rec t a p3 p4 p5 p6 o1 o2 o3 o4) (NY t (d+2) a p6):=by
 refine ao (HS ht A x u ha p5) ?_;rintro(⟨e,q,B,C⟩ | e) h
 rotate_left
 ·exact⟨_,rfl,trivial⟩
 obtain⟨D,g2,rfl,g4⟩:=h;have E:Dp (d+2) (Tree.node e.op e.set e.kids):=by rw[tA];exact g4.mono (by omega)
 refine ao (P:=Lp (fun p=>a<p∧At t p) (Lp (fun _=>True) fun(e,p,_,q)=>a<p∧At t p∧q=C∧Dp (d+2) e)) ?_ ?_
 ·refine bG (fun(p,v)=>a<p∧At t p∧0≤v∧v≤7) (fun(_,v)=>(7 - v).toNat) ⟨D,g2,by decide,by decide⟩ (fun(p,v) ⟨h1,h2,I,J⟩=>?_);refine aH (fun hl=>?_) fun _=>aq ⟨h1,h2⟩
  rw[dec_lt]at hl;refine aV ⟨I,hl⟩ (ao (P:=Nm fun(z,_)=>a<z∧At t z) ?_ ?_)
  ·refine aH (fun hc=>?_) fun _=>aq ⟨h1,h2⟩
   refine ao (mg ht h2 (by simpa using hc)) ?_;rintro(⟨b,r⟩ | e) h
   ·exact aq ⟨by have:=h.1;(try simp only at this ⊢);omega,h.2.1⟩
   ·exact⟨_,rfl,trivial⟩
  ·rintro(⟨z,b⟩ | L) h
   ·refine aH (fun _=>aq ⟨h.1,h.2,rfl,by simp,fun k hk=>?_⟩) fun _=>?_
    ·rw[List.mem_singleton.1 hk,tA];exact g4
    ·rw[wrap_i64 (by omega) (by omega)];exact aq ⟨⟨h.1,h.2,by omega,by omega⟩,by(try simp only);omega⟩
   ·exact⟨_,rfl,trivial⟩
 ·intro r j;match r,j with
  | .inl p,j=>exact aq ⟨j.1,j.2,rfl,E⟩
  | .inr (.inl (M,N)),_=>exact⟨_,rfl,trivial⟩
  | .inr (.inr (e,p,B,q)),j=>exact aq j
theorem H8{rec:La}(E:0≤p6)(A:p6≤16){d:Nat}(u:p6+1≤16→∀a p5,At t a→Ho (rec t a p3 p4 p5 (p6+1) o1 o2 o3 o4) (Ex t d a (p6+1))){a:Int}(ha:At t a)(p5:Int):
  Ho (dP rec t a p3 p4 p5 p6 o1 o2 o3 o4) (Ex t (d+3) a p6):=by
 refine ao (np ht ha) ?_;rintro(⟨c,p⟩ | e) h
 rotate_left
 ·exact⟨_,rfl,trivial⟩
 obtain⟨h1,h2,_⟩:=h;refine ao (P:=Nm fun(l,p,_,q)=>a≤p∧At t p∧q=p6∧l.length≤1000000∧∀x∈l,Dp (d+2) x) ?_ ?_
 ·refine bG (fun(p,_,q,l,_)=>a≤p∧At t p∧q=p6∧(l.length:Int)≤p∧∀x∈l,Dp (d+2) x) (fun(p,_)=>(t.length - p).toNat) ⟨h1,h2,rfl,h2.1,fun x I=>by cases I⟩
   (fun(p,p5,q,l,c) ⟨z,j,J,B,C⟩=>?_)
  subst J;refine ao (P:=fun _=>True) (ao (pF c) fun b _=>?_) fun v _=>aH (fun _=>?_) fun _=>aq ⟨z,j,rfl,by have:=j.2;omega,C⟩
  ·repeat' split
   all_goals exact aq trivial
  ·refine ao (Ix ht E A u j _) ?_;rintro(⟨e,r,L,N⟩ | e) h
   rotate_left
   ·exact⟨_,rfl,trivial⟩
   obtain⟨O,g2,rfl,g4⟩:=h;have:=j.2;refine aV (by simp only[List.length_singleton];omega) (ao (np ht g2) ?_);rintro(⟨c,s⟩ | e) h
   ·obtain⟨V,D,_⟩:=h;dsimp only;rw[tA];exact aq ⟨⟨by omega,D,rfl,by simp only[List.length_append,List.length_singleton];omega,dZ C g4⟩,by have:=D.2;(try simp only);omega⟩
   ·exact⟨_,rfl,trivial⟩
 ·rintro(⟨l,p,L,q⟩ | e) h
  ·obtain⟨z,j,rfl,B⟩:=h;refine aH (fun _=>aq ⟨z,j,rfl,by decide,fun k hk=>by cases hk⟩) fun _=>aH (fun hl=>?_) fun _=>aq ⟨z,j,rfl,B⟩
   have M:(l.length:Int)=1:=by simpa using hl
   refine aV (by omega) (aV (by simp only[Int.toNat_zero];omega) ?_);rw[tA];exact aq ⟨z,j,rfl,(Dp.getD B.2 (by simp only[Int.toNat_zero];omega) _).mono (by omega)⟩
  ·exact⟨_,rfl,trivial⟩
theorem tx:∀(n:Nat) {p6:Int},0≤p6→p6≤16→17 - p6≤n→∀a p5,At t a→Ho (bP n t a p3 p4 p5 p6 o1 o2 o3 o4) (Ex t (4*(17 - p6).toNat) a p6)
 | 0,p6,_,h,h2,_,_,_=>by omega
 | n+1,p6,C,v,hn,a,p5,ha=>by
  obtain⟨d,hd⟩:∃d:Nat,17 - p6=((d+1:Nat):Int):=⟨(16 - p6).toNat,by omega⟩;have j:p6+1≤16→∀a p5,At t a→Ho (bP n t a p3 p4 p5 (p6+1) o1 o2 o3 o4) (Ex t (4*d) a (p6+1)):=fun hl a p5 ha=>by have:=tx n (p6:=p6+1) (by omega) hl (by omega) a p5 ha;rwa [show(17 - (p6+1)).toNat=d by omega]at this
  rw[hd,Int.toNat_natCast];refine ao (H8 ht C v j ha p5) ?_;rintro(⟨e,p,D,z⟩ | e) h
  rotate_left
  ·exact⟨_,rfl,trivial⟩
  obtain⟨h1,h2,rfl,J⟩:=h;refine ao (P:=Nm fun(l,p,_,q)=>a≤p∧At t p∧q=z∧l.length≤1000000∧∀x∈l,Dp (4*d+3) x) ?_ ?_
  ·refine bG (fun(p,_,q,l)=>a≤p∧At t p∧q=z∧(l.length:Int)≤p+1∧∀x∈l,Dp (4*d+3) x) (fun(p,_)=>(t.length - p).toNat)
    ⟨h1,h2,rfl,by have:=h2.1;simp only[List.length_singleton];omega,fun x L=>by rw[List.mem_singleton.1 L,tA];exact J⟩ (fun(p,p5,q,l) ⟨A,u,M,B,E⟩=>?_)
   subst M;refine ao (mg ht u (by decide)) ?_;rintro(⟨b,r⟩ | e) h
   rotate_left
   ·exact⟨_,rfl,trivial⟩
   obtain⟨V,g2,g3⟩:=h;refine aH (fun hb=>?_) fun _=>aq ⟨by(try simp only);omega,g2,rfl,by have:=u.2;omega,E⟩
   have g3:=g3 hb;refine ao (H8 ht C v j g2 _) ?_;rintro(⟨e,s,D,z⟩ | e) h
   rotate_left
   ·exact⟨_,rfl,trivial⟩
   obtain⟨X,I,rfl,N⟩:=h;have:=u.2;dsimp only;rw[tA];exact aV (by simp only[List.length_singleton];omega) (aq ⟨⟨by omega,I,rfl,by simp only[List.length_append,List.length_singleton];omega,dZ E N⟩,by have:=I.2;(try simp only);omega⟩)
  ·rintro(⟨l,p,D,q⟩ | e) h
   ·obtain⟨A,u,rfl,B⟩:=h;refine aH (fun hl=>?_) fun _=>aq ⟨A,u,rfl,B⟩
    have O:(l.length:Int)=1:=by simpa using hl
    refine aV (by omega) (aV (by simp only[Int.toNat_zero];omega) ?_);rw[tA];exact aq ⟨A,u,rfl,(Dp.getD B.2 (by simp only[Int.toNat_zero];omega) _).mono (by omega)⟩
   ·exact⟨_,rfl,trivial⟩
end
theorem JM(w:QX):0≤(bh .str (cN .str (cN .str (cN .str ([]:XQ) ([107,101,101,112]:QX) (0:Int)) ([109,97,121]:QX) (1:Int)) ([109,117,115,116]:QX) (2:Int)) w).getD 0 ∧
  (bh .str (cN .str (cN .str (cN .str ([]:XQ) ([107,101,101,112]:QX) (0:Int)) ([109,97,121]:QX) (1:Int)) ([109,117,115,116]:QX) (2:Int)) w).getD 0≤2:=by
 have e:cN .str (cN .str (cN .str ([]:XQ) ([107,101,101,112]:QX) (0:Int)) ([109,97,121]:QX) (1:Int)) ([109,117,115,116]:QX) (2:Int)=[([107,101,101,112],0),([109,97,121],1),([109,117,115,116],2)]:=by kernel_rfl
 rw[e];simp only[bh]
 repeat' split
 all_goals decide
structure Ek(cl:QQ)(tr:QK)(ru:XJ):Prop where
 Lh:cl.length≤24
 tl:tr.length=cl.length
 tc:∀c∈tr,0≤c∧c<(cl.length:Int)
 rl:ru.length≤24
 rk:∀x∈ru,(0≤x.1∧x.1≤2)∧Dp 100 x.2.1∧Dp 100 x.2.2
section
variable{t:QX}(ht:t.length≤4096){p3 p4 p5 p6 a:Int}{o1:QQ}{o2:QK}{o3:XJ}{o4:XQ}
include ht
theorem Jb(ha:At t a)(x:0≤p6)(j:p6≤16)(hp:Ek o1 o2 o3){Gx:Int}(hd:0≤Gx∧Gx≤2)(u:Int):
  Ho (eT Gx u t a p3 p4 p5 p6 o1 o2 o3 o4) (Nm fun(p,v,_,z)=>a<p∧At t p∧z=p6∧Ek o1 o2 v):=by
 have q:4*(17 - p6).toNat≤100:=by omega
 refine aH (fun _=>⟨_,rfl,trivial⟩) fun hl=>?_
 have A:(o3.length:Int)<24:=by simpa using hl
 refine ao (tx ht 1000 x j (by omega) a _ ha) ?_;rintro(⟨e,p,J,z⟩ | e) h
 rotate_left
 ·exact⟨_,rfl,trivial⟩
 obtain⟨h1,h2,rfl,B⟩:=h;refine ao (pA ht h2 (by decide)) ?_;rintro(r | e) h
 rotate_left
 ·exact⟨_,rfl,trivial⟩
 obtain⟨L,C⟩:=h;refine ao (tx ht 1000 x j (by omega) r _ C) ?_;rintro(⟨M,N,D,E⟩ | e) h
 rotate_left
 ·exact⟨_,rfl,trivial⟩
 obtain⟨O,g2,rfl,g4⟩:=h;refine ao (pA ht g2 (by decide)) ?_;rintro(s | e) h
 ·obtain⟨V,I⟩:=h;dsimp only;rw[tA,tA];exact aV (by simp only[List.length_singleton];omega) (aq ⟨by(try simp only);omega,I,rfl,hp.Lh,hp.tl,hp.tc,by simp only[List.length_append,List.length_singleton];omega,dZ hp.rk ⟨hd,B.mono q,g4.mono q⟩⟩)
 ·exact⟨_,rfl,trivial⟩
theorem HT(ha:At t a)(hp:Ek o1 o2 o3):
  Ho (eG t a p3 p4 p5 p6 o1 o2 o3 o4) (Nm fun(p,j,u,_)=>a<p∧At t p∧Ek j u o3):=by
 refine ao (P:=Nm fun(p,j,u,_)=>a<p∧At t p∧Ek j u o3) ?_ ?_
 ·refine bG (fun(p,c,r,_)=>a≤p∧At t p∧Ek c r o3) (fun(p,_)=>(t.length - p).toNat) ⟨Int.le_refl _,ha,hp⟩ (fun(p,c,r,m) ⟨h1,h2,v⟩=>?_);refine ao (mg ht h2 (by decide)) ?_;rintro(⟨b,q⟩ | e) h
  rotate_left
  ·exact⟨_,rfl,trivial⟩
  obtain⟨E,z,B⟩:=h;refine aH (fun _=>?_) fun hb=>aq ⟨by have:=B (by simpa using hb);(try simp only);omega,z,v⟩
  refine ao (np ht z) ?_;rintro(⟨x,I⟩ | e) h
  rotate_left
  ·exact⟨_,rfl,trivial⟩
  obtain⟨J,g2,_⟩:=h;refine ao (BU ht g2) ?_;rintro(⟨w,s⟩ | e) h
  rotate_left
  ·exact⟨_,rfl,trivial⟩
  obtain⟨L,A⟩:=h;refine aH (fun _=>⟨_,rfl,trivial⟩) fun hl=>?_
  have C:(c.length:Int)<24:=by simpa using hl
  have:=v.tl;refine aV (by omega) (aV (by simp only[List.length_singleton];omega) (aV (by simp only[List.length_singleton];omega) (aq ⟨⟨by omega,A,?_⟩,by have:=A.2;have:=h2.2;(try simp only);omega⟩)));refine⟨by simp only[List.length_append,List.length_singleton];omega,by simp[this],dZ (fun y D=>?_) ?_,v.rl,v.rk⟩
  ·have:=v.tc y D;simp only[List.length_append,List.length_singleton];omega
  ·simp only[List.length_append,List.length_singleton];omega
 ·rintro(⟨p,c,r,m⟩ | e) h
  ·exact aq h
  ·exact⟨_,rfl,trivial⟩
theorem K0(ha:At t a):Ho (fq t a p3 p4 p5 p6 o1 o2 o3 o4) (Nm fun(p,_)=>a<p∧At t p):=by
 refine ao (BU ht ha) ?_;rintro(⟨w,p⟩ | e) h
 rotate_left
 ·exact⟨_,rfl,trivial⟩
 have h1:=h.1;refine ao (pA ht h.2 (by decide)) ?_;rintro(q | e) h
 rotate_left
 ·exact⟨_,rfl,trivial⟩
 have h2:=h.1;refine ao (nI ht h.2 (by decide)) ?_;rintro(⟨x,r⟩ | e) h
 ·exact aq ⟨by have:=h.1;(try simp only at this h1 ⊢);omega,h.2⟩
 ·exact⟨_,rfl,trivial⟩
theorem Jr(ha:At t a):Ho (eO t a p3 p4 p5 p6 o1 o2 o3 o4) (Nm fun(p,_)=>a<p∧At t p):=by
 refine ao (nI ht ha (by decide)) ?_;rintro(⟨w,p⟩ | e) h
 rotate_left
 ·exact⟨_,rfl,trivial⟩
 have h1:=h.1;refine ao (nI ht h.2 (by decide)) ?_;rintro(⟨x,r⟩ | e) h
 ·exact aq ⟨by have:=h.1;(try simp only at this h1 ⊢);omega,h.2⟩
 ·exact⟨_,rfl,trivial⟩
theorem HE(ha:At t a)(hp:Ek o1 o2 o3):Ho (eF t a p3 p4 p5 p6 o1 o2 o3 o4) (Nm fun(p,u)=>a<p∧At t p∧Ek o1 u o3):=by
 refine ao (G5 ht ha hp.Lh) ?_;rintro(⟨i,p⟩ | e) h
 rotate_left
 ·exact⟨_,rfl,trivial⟩
 obtain⟨h1,h2,x,z⟩:=h;refine ao (pA ht h2 (by decide)) ?_;rintro(q | e) h
 rotate_left
 ·exact⟨_,rfl,trivial⟩
 obtain⟨A,v⟩:=h;refine ao (G5 ht v hp.Lh) ?_;rintro(⟨j,r⟩ | e) h
 rotate_left
 ·exact⟨_,rfl,trivial⟩
 obtain⟨B,g2,g3,g4⟩:=h;have:=hp.tl;refine aV (by omega) (aV (by omega) (ao (pA ht g2 (by decide)) ?_));rintro(s | e) h
 ·refine aq ⟨by have:=h.1;(try simp only);omega,h.2,hp.Lh,by simp[this],fun c hc=>?_,hp.rl,hp.rk⟩;rcases List.mem_or_eq_of_mem_set hc with q | q
  ·exact hp.tc c q
  ·rw[q];exact⟨g3,g4⟩
 ·exact⟨_,rfl,trivial⟩
theorem Lo:Ho (gI t 0 0 0 0 0 []) (Nm fun(_,o1,_,_,o2,o3,_)=>Ek o1 o2 o3):=by
 refine ao (P:=Nm fun(_,o1,_,_,o2,o3,_)=>Ek o1 o2 o3) ?_ ?_
 ·refine bG (fun(p,o1,_,_,o2,o3,_,_,v)=>At t p∧v=0∧Ek o1 o2 o3) (fun(p,_)=>(t.length - p).toNat) ⟨⟨by decide,by omega⟩,rfl,⟨by decide,rfl,fun _ h=>(by cases h),by decide,fun _ h=>(by cases h)⟩⟩
   (fun(p,o1,p3,p4,o2,o3,o4,p5,v) ⟨h1,h2,u⟩=>?_)
  subst h2;refine ao (np ht h1) ?_;rintro(⟨c,q⟩ | e) h
  rotate_left
  ·exact⟨_,rfl,trivial⟩
  obtain⟨E,A,_⟩:=h;refine aH (fun _=>?_) fun _=>aq u
  refine ao (uV ht A) ?_;rintro(⟨w,B,r⟩ | e) h
  rotate_left
  ·exact⟨_,rfl,trivial⟩
  obtain⟨C,g2⟩:=h;have j:∀s:Int,r<s→At t s→(t.length - s).toNat<(t.length - p).toNat:=fun s I ⟨_,D⟩=>by(try simp only at C);omega
  refine aH (fun _=>?_) fun _=>aH (fun _=>?_) fun _=>aH (fun _=>?_) fun _=>aH (fun _=>?_) fun _=>aH (fun _=>?_) fun _=>⟨_,rfl,trivial⟩
  ·refine ao (HT ht g2 u) ?_;rintro(⟨s,x⟩ | e) h
   ·exact aq ⟨⟨h.2.1,rfl,h.2.2⟩,j s h.1 h.2.1⟩
   ·exact⟨_,rfl,trivial⟩
  ·refine ao (K0 ht g2) ?_;rintro(⟨s,x⟩ | e) h
   ·exact aq ⟨⟨h.2,rfl,u⟩,j s h.1 h.2⟩
   ·exact⟨_,rfl,trivial⟩
  ·refine ao (Jr ht g2) ?_;rintro(⟨s,x⟩ | e) h
   ·exact aq ⟨⟨h.2,rfl,u⟩,j s h.1 h.2⟩
   ·exact⟨_,rfl,trivial⟩
  ·refine ao (HE ht g2 u) ?_;rintro(⟨s,x⟩ | e) h
   ·exact aq ⟨⟨h.2.1,rfl,h.2.2⟩,j s h.1 h.2.1⟩
   ·exact⟨_,rfl,trivial⟩
  ·refine ao (Jb ht g2 (by decide) (by decide) u ?_ _) ?_
   ·exact JM w
   rintro(⟨s,x,y,z⟩ | e) h
   ·exact aq ⟨⟨h.2.1,h.2.2.1,h.2.2.2⟩,j s h.1 h.2.1⟩
   ·exact⟨_,rfl,trivial⟩
 ·rintro(⟨v1,J,L,v4,M,v6,N⟩ | e) h
  ·exact aq h
  ·exact⟨_,rfl,trivial⟩
end
theorem H9(t:QX):Ho (jZ t) (fun r=>Ek r.1.1 r.1.2.2.2.1 r.1.2.2.2.2):=by
 have key:Ho (jM t) (Nm fun r=>Ek r.1.1 r.1.2.2.2.1 r.1.2.2.2.2):=by
  refine aH (fun _=>⟨_,rfl,trivial⟩) fun hl=>?_
  have j:(t.length:Int)≤4096:=by simpa using hl
  refine ao (Lo (by omega)) ?_;rintro(⟨v1,p,q,v4,u,v6,v⟩ | e) h
  ·exact aq h
  ·exact⟨_,rfl,trivial⟩
 obtain⟨r,e,h⟩:=key;refine⟨oE r,by unfold jZ;rw[e];rfl,?_⟩;cases r with
 | inl x=>exact h
 | inr e=>exact⟨Nat.zero_le _,rfl,fun _ h=>(by cases h),Nat.zero_le _,fun _ h=>(by cases h)⟩
end Go.Proofs.YtobbjfkfmdiklaaGreatDoor.T
