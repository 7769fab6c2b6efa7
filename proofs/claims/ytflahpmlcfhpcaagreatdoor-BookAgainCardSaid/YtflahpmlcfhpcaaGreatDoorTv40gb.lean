import Derived.Test.YtflahpmlcfhpcaaGreatDoorTv40um
namespace Go.Proofs.YtflahpmlcfhpcaaGreatDoor.T
open Go Go.Tv Go.Proofs
def Dp:Nat→Tree→Prop
 | 0,_=>False
 | n+1,.node _ _ e=>e.length≤1000000∧∀k∈e,Dp n k
theorem Dp.mono:∀ {n m:Nat} {t:Tree},n≤m→Dp n t→Dp m t
 | 0,_,_,_,h=>h.elim
 | n+1,0,_,hl,_=>absurd hl (by omega)
 | n+1,m+1,.node _ _ j,hl,h=>⟨h.1,fun k hk=>Dp.mono (by omega) (h.2 k hk)⟩
theorem su:∀x:Tree,Tree.node x.op x.set x.kids=x
 | .node _ _ _=>rfl
theorem Dp.getD{n:Nat}{l:XX}(h:∀x∈l,Dp n x){i:Nat}(hi:i<l.length)(d:Tree):Dp n (l.getD i d):=by
 rw[List.getD_eq_getElem?_getD,List.getElem?_eq_getElem hi];exact h _ (List.getElem_mem hi)
theorem ez{α:Type}{P:α→Prop}{l:List α}{x:α}(h:∀y∈l,P y)(e:P x):∀y∈l++[x],P y:=fun y f=>by
 rcases List.mem_append.1 f with q | q
 ·exact h y q
 ·rw[List.mem_singleton.1 q];exact e
abbrev J7:=QX→Int→Int→Int→Int→Int→QQ→QK→XJ→XQ→Option (oa⊕(Int×Int))
section
variable{t:QX}(ht:t.length≤4096){p3 p4 p6:Int}{o1:QQ}{o2:QK}{o3:XJ}{o4:XQ}
def Ex(t:QX)(n:Nat)(a p6:Int):oa⊕(Int×Int)→Prop:=Nm fun(e,p,_,f)=>a≤p∧At t p∧f=p6∧Dp n e
def Mn(t:QX)(n:Nat)(a p6:Int):oa⊕(Int×Int)→Prop:=Nm fun(e,p,_,f)=>a<p∧At t p∧f=p6∧Dp n e
include ht
theorem Gy{rec:J7}(E:0≤p6)(A:p6≤16){d:Nat}(f:p6+1≤16→∀a p5,At t a→Ho (rec t a p3 p4 p5 (p6+1) o1 o2 o3 o4) (Ex t d a (p6+1))){a:Int}(ha:At t a)(p5:Int):
  Ho (eE rec t a p3 p4 p5 p6 o1 o2 o3 o4) (Mn t (d+1) a p6):=by
 refine ao (lV ht ha (by decide)) ?_;rintro(⟨b,p⟩ | e) h
 rotate_left
 ·exact⟨_,rfl,trivial⟩
 obtain⟨I,v,B⟩:=h;have C:IntKind.i64.wrap (p6+1)=p6+1:=wrap_i64 (by omega) (by omega);refine aH (fun hb=>aH (fun _=>⟨_,rfl,trivial⟩) fun hd=>?_) (fun _=>aH (fun _=>⟨_,rfl,trivial⟩) fun _=>aU (by omega) ?_)
 ·rw[C]at hd ⊢;have j:p6+1≤16:=by simpa using hd
  refine ao (f j p _ v) ?_;rintro(⟨e,q,J,L⟩ | e) h
  rotate_left
  ·exact⟨_,rfl,trivial⟩
  obtain⟨D,g2,rfl,g4⟩:=h;refine ao (pq ht g2 (by decide)) ?_;rintro(r | e) h
  ·have:=B hb;dsimp only;rw[su,wrap_i64 (by omega) (by omega)];exact aq ⟨by have:=h.1;(try simp only);omega,h.2,by(try simp only);omega,g4.mono (by omega)⟩
  ·exact⟨_,rfl,trivial⟩
 ·refine ao (lV ht v (by decide)) ?_;rintro(⟨b,q⟩ | e) h
  rotate_left
  ·exact⟨_,rfl,trivial⟩
  obtain⟨D,g2,g3⟩:=h;refine ao (P:=Nm fun(_,r)=>a<r∧At t r) ?_ ?_
  ·refine aH (fun hb=>aq ⟨by have:=g3 hb;omega,g2⟩) fun _=>?_
   refine ao (lV ht g2 (by decide)) ?_;rintro(⟨b,r⟩ | e) h
   rotate_left
   ·exact⟨_,rfl,trivial⟩
   obtain⟨M,z,N⟩:=h;refine aH (fun _=>?_) fun _=>?_
   ·refine ao (lV ht z (by decide)) ?_;rintro(⟨b,s⟩ | e) h
    rotate_left
    ·exact⟨_,rfl,trivial⟩
    refine ao (nD ht h.2.1 (by decide)) ?_;have O:=h.1;rintro(⟨x,u⟩ | e) h
    ·exact aH (fun _=>aq ⟨by have:=h.1;(try simp only at this ⊢);omega,h.2⟩) fun _=>aq ⟨by have:=h.1;(try simp only at this ⊢);omega,h.2⟩
    ·exact⟨_,rfl,trivial⟩
   ·refine ao (AS ht z) ?_;rintro(⟨x,u⟩ | e) h
    ·exact aq ⟨by have:=h.1;(try simp only at this ⊢);omega,h.2⟩
    ·exact⟨_,rfl,trivial⟩
  ·rintro(⟨x,r⟩ | e) h
   ·exact aq ⟨h.1,h.2,rfl,by decide,fun k hk=>by cases hk⟩
   ·exact⟨_,rfl,trivial⟩
theorem Gd{rec:J7}(B:0≤p6)(u:p6≤16){d:Nat}(j:p6+1≤16→∀a p5,At t a→Ho (rec t a p3 p4 p5 (p6+1) o1 o2 o3 o4) (Ex t d a (p6+1))){a:Int}(ha:At t a)(p5:Int):
  Ho (eC rec t a p3 p4 p5 p6 o1 o2 o3 o4) (Mn t (d+2) a p6):=by
 refine ao (Gy ht B u j ha p5) ?_;rintro(⟨e,q,C,D⟩ | e) h
 rotate_left
 ·exact⟨_,rfl,trivial⟩
 obtain⟨E,g2,rfl,g4⟩:=h;have I:Dp (d+2) (Tree.node e.op e.set e.kids):=by rw[su];exact g4.mono (by omega)
 refine ao (P:=Lp (fun p=>a<p∧At t p) (Lp (fun _=>True) fun(e,p,_,q)=>a<p∧At t p∧q=D∧Dp (d+2) e)) ?_ ?_
 ·refine bI (fun(p,v)=>a<p∧At t p∧0≤v∧v≤7) (fun(_,v)=>(7 - v).toNat) ⟨E,g2,by decide,by decide⟩ (fun(p,v) ⟨A,x,J,L⟩=>?_);refine aH (fun hl=>?_) fun _=>aq ⟨A,x⟩
  rw[dec_lt]at hl;refine aU ⟨J,hl⟩ (ao (P:=Nm fun(z,_)=>a<z∧At t z) ?_ ?_)
  ·refine aH (fun hc=>?_) fun _=>aq ⟨A,x⟩
   refine ao (lV ht x (by simpa using hc)) ?_;rintro(⟨b,r⟩ | e) h
   ·exact aq ⟨by have:=h.1;(try simp only at this ⊢);omega,h.2.1⟩
   ·exact⟨_,rfl,trivial⟩
  ·rintro(⟨z,b⟩ | M) h
   ·refine aH (fun _=>aq ⟨h.1,h.2,rfl,by simp,fun k hk=>?_⟩) fun _=>?_
    ·rw[List.mem_singleton.1 hk,su];exact g4
    ·rw[wrap_i64 (by omega) (by omega)];exact aq ⟨⟨h.1,h.2,by omega,by omega⟩,by(try simp only);omega⟩
   ·exact⟨_,rfl,trivial⟩
 ·intro r f;match r,f with
  | .inl p,f=>exact aq ⟨f.1,f.2,rfl,I⟩
  | .inr (.inl (N,O)),_=>exact⟨_,rfl,trivial⟩
  | .inr (.inr (e,p,C,q)),f=>exact aq f
theorem FJ{rec:J7}(E:0≤p6)(z:p6≤16){d:Nat}(j:p6+1≤16→∀a p5,At t a→Ho (rec t a p3 p4 p5 (p6+1) o1 o2 o3 o4) (Ex t d a (p6+1))){a:Int}(ha:At t a)(p5:Int):
  Ho (dQ rec t a p3 p4 p5 p6 o1 o2 o3 o4) (Ex t (d+3) a p6):=by
 refine ao (nz ht ha) ?_;rintro(⟨c,p⟩ | e) h
 rotate_left
 ·exact⟨_,rfl,trivial⟩
 obtain⟨I,B,_⟩:=h;refine ao (P:=Nm fun(l,p,_,q)=>a≤p∧At t p∧q=p6∧l.length≤1000000∧∀x∈l,Dp (d+2) x) ?_ ?_
 ·refine bI (fun(p,_,q,l,_)=>a≤p∧At t p∧q=p6∧(l.length:Int)≤p∧∀x∈l,Dp (d+2) x) (fun(p,_)=>(t.length - p).toNat) ⟨I,B,rfl,B.1,fun x J=>by cases J⟩
   (fun(p,p5,q,l,c) ⟨u,f,L,A,C⟩=>?_)
  subst L;refine ao (P:=fun _=>True) (ao (pt c) fun b _=>?_) fun v _=>aH (fun _=>?_) fun _=>aq ⟨u,f,rfl,by have:=f.2;omega,C⟩
  ·repeat' split
   all_goals exact aq trivial
  ·refine ao (Gd ht E z j f _) ?_;rintro(⟨e,r,M,O⟩ | e) h
   rotate_left
   ·exact⟨_,rfl,trivial⟩
   obtain⟨V,g2,rfl,g4⟩:=h;have:=f.2;refine aU (by simp only[List.length_singleton];omega) (ao (nz ht g2) ?_);rintro(⟨c,s⟩ | e) h
   ·obtain⟨X,D,_⟩:=h;dsimp only;rw[su];exact aq ⟨⟨by omega,D,rfl,by simp only[List.length_append,List.length_singleton];omega,ez C g4⟩,by have:=D.2;(try simp only);omega⟩
   ·exact⟨_,rfl,trivial⟩
 ·rintro(⟨l,p,M,q⟩ | e) h
  ·obtain⟨u,f,rfl,A⟩:=h;refine aH (fun _=>aq ⟨u,f,rfl,by decide,fun k hk=>by cases hk⟩) fun _=>aH (fun hl=>?_) fun _=>aq ⟨u,f,rfl,A⟩
   have N:(l.length:Int)=1:=by simpa using hl
   refine aU (by omega) (aU (by simp only[Int.toNat_zero];omega) ?_);rw[su];exact aq ⟨u,f,rfl,(Dp.getD A.2 (by simp only[Int.toNat_zero];omega) _).mono (by omega)⟩
  ·exact⟨_,rfl,trivial⟩
theorem sn:∀(n:Nat) {p6:Int},0≤p6→p6≤16→17 - p6≤n→∀a p5,At t a→Ho (bN n t a p3 p4 p5 p6 o1 o2 o3 o4) (Ex t (4*(17 - p6).toNat) a p6)
 | 0,p6,_,h,v,_,_,_=>by omega
 | n+1,p6,C,u,hn,a,p5,ha=>by
  obtain⟨d,hd⟩:∃d:Nat,17 - p6=((d+1:Nat):Int):=⟨(16 - p6).toNat,by omega⟩;have f:p6+1≤16→∀a p5,At t a→Ho (bN n t a p3 p4 p5 (p6+1) o1 o2 o3 o4) (Ex t (4*d) a (p6+1)):=fun hl a p5 ha=>by have:=sn n (p6:=p6+1) (by omega) hl (by omega) a p5 ha;rwa [show(17 - (p6+1)).toNat=d by omega]at this
  rw[hd,Int.toNat_natCast];refine ao (FJ ht C u f ha p5) ?_;rintro(⟨e,p,D,z⟩ | e) h
  rotate_left
  ·exact⟨_,rfl,trivial⟩
  obtain⟨J,v,rfl,L⟩:=h;refine ao (P:=Nm fun(l,p,_,q)=>a≤p∧At t p∧q=z∧l.length≤1000000∧∀x∈l,Dp (4*d+3) x) ?_ ?_
  ·refine bI (fun(p,_,q,l)=>a≤p∧At t p∧q=z∧(l.length:Int)≤p+1∧∀x∈l,Dp (4*d+3) x) (fun(p,_)=>(t.length - p).toNat)
    ⟨J,v,rfl,by have:=v.1;simp only[List.length_singleton];omega,fun x M=>by rw[List.mem_singleton.1 M,su];exact L⟩ (fun(p,p5,q,l) ⟨A,j,N,B,E⟩=>?_)
   subst N;refine ao (lV ht j (by decide)) ?_;rintro(⟨b,r⟩ | e) h
   rotate_left
   ·exact⟨_,rfl,trivial⟩
   obtain⟨X,g2,g3⟩:=h;refine aH (fun hb=>?_) fun _=>aq ⟨by(try simp only);omega,g2,rfl,by have:=j.2;omega,E⟩
   have g3:=g3 hb;refine ao (FJ ht C u f g2 _) ?_;rintro(⟨e,s,D,z⟩ | e) h
   rotate_left
   ·exact⟨_,rfl,trivial⟩
   obtain⟨Y,I,rfl,O⟩:=h;have:=j.2;dsimp only;rw[su];exact aU (by simp only[List.length_singleton];omega) (aq ⟨⟨by omega,I,rfl,by simp only[List.length_append,List.length_singleton];omega,ez E O⟩,by have:=I.2;(try simp only);omega⟩)
  ·rintro(⟨l,p,D,q⟩ | e) h
   ·obtain⟨A,j,rfl,B⟩:=h;refine aH (fun hl=>?_) fun _=>aq ⟨A,j,rfl,B⟩
    have V:(l.length:Int)=1:=by simpa using hl
    refine aU (by omega) (aU (by simp only[Int.toNat_zero];omega) ?_);rw[su];exact aq ⟨A,j,rfl,(Dp.getD B.2 (by simp only[Int.toNat_zero];omega) _).mono (by omega)⟩
   ·exact⟨_,rfl,trivial⟩
end
theorem Iq(w:QX):0≤(bg .str (cO .str (cO .str (cO .str ([]:XQ) ([107,101,101,112]:QX) (0:Int)) ([109,97,121]:QX) (1:Int)) ([109,117,115,116]:QX) (2:Int)) w).getD 0 ∧
  (bg .str (cO .str (cO .str (cO .str ([]:XQ) ([107,101,101,112]:QX) (0:Int)) ([109,97,121]:QX) (1:Int)) ([109,117,115,116]:QX) (2:Int)) w).getD 0≤2:=by
 have e:cO .str (cO .str (cO .str ([]:XQ) ([107,101,101,112]:QX) (0:Int)) ([109,97,121]:QX) (1:Int)) ([109,117,115,116]:QX) (2:Int)=[([107,101,101,112],0),([109,97,121],1),([109,117,115,116],2)]:=by kernel_rfl
 rw[e];simp only[bg]
 repeat' split
 all_goals decide
structure C6(cl:QQ)(tr:QK)(ru:XJ):Prop where
 Jt:cl.length≤24
 tl:tr.length=cl.length
 tc:∀c∈tr,0≤c∧c<(cl.length:Int)
 rl:ru.length≤24
 rk:∀x∈ru,(0≤x.1∧x.1≤2)∧Dp 100 x.2.1∧Dp 100 x.2.2
section
variable{t:QX}(ht:t.length≤4096){p3 p4 p5 p6 a:Int}{o1:QQ}{o2:QK}{o3:XJ}{o4:XQ}
include ht
theorem Iu(ha:At t a)(x:0≤p6)(f:p6≤16)(q:C6 o1 o2 o3){FX:Int}(hd:0≤FX∧FX≤2)(u:Int):
  Ho (eR FX u t a p3 p4 p5 p6 o1 o2 o3 o4) (Nm fun(p,v,_,z)=>a<p∧At t p∧z=p6∧C6 o1 o2 v):=by
 have j:4*(17 - p6).toNat≤100:=by omega
 refine aH (fun _=>⟨_,rfl,trivial⟩) fun hl=>?_
 have A:(o3.length:Int)<24:=by simpa using hl
 refine ao (sn ht 1000 x f (by omega) a _ ha) ?_;rintro(⟨e,p,L,z⟩ | e) h
 rotate_left
 ·exact⟨_,rfl,trivial⟩
 obtain⟨M,B,rfl,C⟩:=h;refine ao (pq ht B (by decide)) ?_;rintro(r | e) h
 rotate_left
 ·exact⟨_,rfl,trivial⟩
 obtain⟨N,D⟩:=h;refine ao (sn ht 1000 x f (by omega) r _ D) ?_;rintro(⟨O,V,E,I⟩ | e) h
 rotate_left
 ·exact⟨_,rfl,trivial⟩
 obtain⟨X,g2,rfl,g4⟩:=h;refine ao (pq ht g2 (by decide)) ?_;rintro(s | e) h
 ·obtain⟨Y,J⟩:=h;dsimp only;rw[su,su];exact aU (by simp only[List.length_singleton];omega) (aq ⟨by(try simp only);omega,J,rfl,q.Jt,q.tl,q.tc,by simp only[List.length_append,List.length_singleton];omega,ez q.rk ⟨hd,C.mono j,g4.mono j⟩⟩)
 ·exact⟨_,rfl,trivial⟩
theorem Hd(ha:At t a)(B:C6 o1 o2 o3):
  Ho (eA t a p3 p4 p5 p6 o1 o2 o3 o4) (Nm fun(p,f,j,_)=>a<p∧At t p∧C6 f j o3):=by
 refine ao (P:=Nm fun(p,f,j,_)=>a<p∧At t p∧C6 f j o3) ?_ ?_
 ·refine bI (fun(p,c,r,_)=>a≤p∧At t p∧C6 c r o3) (fun(p,_)=>(t.length - p).toNat) ⟨Int.le_refl _,ha,B⟩ (fun(p,c,r,m) ⟨I,v,u⟩=>?_);refine ao (lV ht v (by decide)) ?_;rintro(⟨b,q⟩ | e) h
  rotate_left
  ·exact⟨_,rfl,trivial⟩
  obtain⟨J,z,C⟩:=h;refine aH (fun _=>?_) fun hb=>aq ⟨by have:=C (by simpa using hb);(try simp only);omega,z,u⟩
  refine ao (nz ht z) ?_;rintro(⟨x,L⟩ | e) h
  rotate_left
  ·exact⟨_,rfl,trivial⟩
  obtain⟨M,g2,_⟩:=h;refine ao (AK ht g2) ?_;rintro(⟨w,s⟩ | e) h
  rotate_left
  ·exact⟨_,rfl,trivial⟩
  obtain⟨N,A⟩:=h;refine aH (fun _=>⟨_,rfl,trivial⟩) fun hl=>?_
  have D:(c.length:Int)<24:=by simpa using hl
  have:=u.tl;refine aU (by omega) (aU (by simp only[List.length_singleton];omega) (aU (by simp only[List.length_singleton];omega) (aq ⟨⟨by omega,A,?_⟩,by have:=A.2;have:=v.2;(try simp only);omega⟩)));refine⟨by simp only[List.length_append,List.length_singleton];omega,by simp[this],ez (fun y E=>?_) ?_,u.rl,u.rk⟩
  ·have:=u.tc y E;simp only[List.length_append,List.length_singleton];omega
  ·simp only[List.length_append,List.length_singleton];omega
 ·rintro(⟨p,c,r,m⟩ | e) h
  ·exact aq h
  ·exact⟨_,rfl,trivial⟩
theorem JF(ha:At t a):Ho (fj t a p3 p4 p5 p6 o1 o2 o3 o4) (Nm fun(p,_)=>a<p∧At t p):=by
 refine ao (AK ht ha) ?_;rintro(⟨w,p⟩ | e) h
 rotate_left
 ·exact⟨_,rfl,trivial⟩
 have f:=h.1;refine ao (pq ht h.2 (by decide)) ?_;rintro(q | e) h
 rotate_left
 ·exact⟨_,rfl,trivial⟩
 have j:=h.1;refine ao (nD ht h.2 (by decide)) ?_;rintro(⟨x,r⟩ | e) h
 ·exact aq ⟨by have:=h.1;(try simp only at this f ⊢);omega,h.2⟩
 ·exact⟨_,rfl,trivial⟩
theorem Iv(ha:At t a):Ho (eY t a p3 p4 p5 p6 o1 o2 o3 o4) (Nm fun(p,_)=>a<p∧At t p):=by
 refine ao (nD ht ha (by decide)) ?_;rintro(⟨w,p⟩ | e) h
 rotate_left
 ·exact⟨_,rfl,trivial⟩
 have f:=h.1;refine ao (nD ht h.2 (by decide)) ?_;rintro(⟨x,r⟩ | e) h
 ·exact aq ⟨by have:=h.1;(try simp only at this f ⊢);omega,h.2⟩
 ·exact⟨_,rfl,trivial⟩
theorem Gf(ha:At t a)(f:C6 o1 o2 o3):Ho (eF t a p3 p4 p5 p6 o1 o2 o3 o4) (Nm fun(p,u)=>a<p∧At t p∧C6 o1 u o3):=by
 refine ao (FO ht ha f.Jt) ?_;rintro(⟨i,p⟩ | e) h
 rotate_left
 ·exact⟨_,rfl,trivial⟩
 obtain⟨z,v,A,B⟩:=h;refine ao (pq ht v (by decide)) ?_;rintro(q | e) h
 rotate_left
 ·exact⟨_,rfl,trivial⟩
 obtain⟨C,x⟩:=h;refine ao (FO ht x f.Jt) ?_;rintro(⟨j,r⟩ | e) h
 rotate_left
 ·exact⟨_,rfl,trivial⟩
 obtain⟨D,g2,g3,g4⟩:=h;have:=f.tl;refine aU (by omega) (aU (by omega) (ao (pq ht g2 (by decide)) ?_));rintro(s | e) h
 ·refine aq ⟨by have:=h.1;(try simp only);omega,h.2,f.Jt,by simp[this],fun c hc=>?_,f.rl,f.rk⟩;rcases List.mem_or_eq_of_mem_set hc with q | q
  ·exact f.tc c q
  ·rw[q];exact⟨g3,g4⟩
 ·exact⟨_,rfl,trivial⟩
theorem Jy:Ho (gQ t 0 0 0 0 0 []) (Nm fun(_,o1,_,_,o2,o3,_)=>C6 o1 o2 o3):=by
 refine ao (P:=Nm fun(_,o1,_,_,o2,o3,_)=>C6 o1 o2 o3) ?_ ?_
 ·refine bI (fun(p,o1,_,_,o2,o3,_,_,u)=>At t p∧u=0∧C6 o1 o2 o3) (fun(p,_)=>(t.length - p).toNat) ⟨⟨by decide,by omega⟩,rfl,⟨by decide,rfl,fun _ h=>(by cases h),by decide,fun _ h=>(by cases h)⟩⟩
   (fun(p,o1,p3,p4,o2,o3,o4,p5,u) ⟨v,A,j⟩=>?_)
  subst A;refine ao (nz ht v) ?_;rintro(⟨c,q⟩ | e) h
  rotate_left
  ·exact⟨_,rfl,trivial⟩
  obtain⟨I,B,_⟩:=h;refine aH (fun _=>?_) fun _=>aq j
  refine ao (uF ht B) ?_;rintro(⟨w,C,r⟩ | e) h
  rotate_left
  ·exact⟨_,rfl,trivial⟩
  obtain⟨D,g2⟩:=h;have f:∀s:Int,r<s→At t s→(t.length - s).toNat<(t.length - p).toNat:=fun s J ⟨_,E⟩=>by(try simp only at D);omega
  refine aH (fun _=>?_) fun _=>aH (fun _=>?_) fun _=>aH (fun _=>?_) fun _=>aH (fun _=>?_) fun _=>aH (fun _=>?_) fun _=>⟨_,rfl,trivial⟩
  ·refine ao (Hd ht g2 j) ?_;rintro(⟨s,x⟩ | e) h
   ·exact aq ⟨⟨h.2.1,rfl,h.2.2⟩,f s h.1 h.2.1⟩
   ·exact⟨_,rfl,trivial⟩
  ·refine ao (JF ht g2) ?_;rintro(⟨s,x⟩ | e) h
   ·exact aq ⟨⟨h.2,rfl,j⟩,f s h.1 h.2⟩
   ·exact⟨_,rfl,trivial⟩
  ·refine ao (Iv ht g2) ?_;rintro(⟨s,x⟩ | e) h
   ·exact aq ⟨⟨h.2,rfl,j⟩,f s h.1 h.2⟩
   ·exact⟨_,rfl,trivial⟩
  ·refine ao (Gf ht g2 j) ?_;rintro(⟨s,x⟩ | e) h
   ·exact aq ⟨⟨h.2.1,rfl,h.2.2⟩,f s h.1 h.2.1⟩
   ·exact⟨_,rfl,trivial⟩
  ·refine ao (Iu ht g2 (by decide) (by decide) j ?_ _) ?_
   ·exact Iq w
   rintro(⟨s,x,y,z⟩ | e) h
   ·exact aq ⟨⟨h.2.1,h.2.2.1,h.2.2.2⟩,f s h.1 h.2.1⟩
   ·exact⟨_,rfl,trivial⟩
 ·rintro(⟨v1,L,M,v4,N,v6,O⟩ | e) h
  ·exact aq h
  ·exact⟨_,rfl,trivial⟩
end
theorem Fk(t:QX):Ho (jS t) (fun r=>C6 r.1.1 r.1.2.2.2.1 r.1.2.2.2.2):=by
 have key:Ho (jA t) (Nm fun r=>C6 r.1.1 r.1.2.2.2.1 r.1.2.2.2.2):=by
  refine aH (fun _=>⟨_,rfl,trivial⟩) fun hl=>?_
  have f:(t.length:Int)≤4096:=by simpa using hl
  refine ao (Jy (by omega)) ?_;rintro(⟨v1,j,p,v4,q,v6,u⟩ | e) h
  ·exact aq h
  ·exact⟨_,rfl,trivial⟩
 obtain⟨r,e,h⟩:=key;refine⟨oB r,by unfold jS;rw[e];rfl,?_⟩;cases r with
 | inl x=>exact h
 | inr e=>exact⟨Nat.zero_le _,rfl,fun _ h=>(by cases h),Nat.zero_le _,fun _ h=>(by cases h)⟩
end Go.Proofs.YtflahpmlcfhpcaaGreatDoor.T
