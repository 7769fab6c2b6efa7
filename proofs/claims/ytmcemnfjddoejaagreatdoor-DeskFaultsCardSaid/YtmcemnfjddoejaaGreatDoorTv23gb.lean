import Derived.Test.YtmcemnfjddoejaaGreatDoorTv23tm
namespace Go.Proofs.YtmcemnfjddoejaaGreatDoor.T
open Go Go.Tv Go.Proofs
def Dp:Nat→Tree→Prop
 | 0,_=>False
 | n+1,.node _ _ c=>c.length≤1000000∧∀k∈c,Dp n k
theorem Dp.mono:∀ {n m:Nat} {t:Tree},n≤m→Dp n t→Dp m t
 | 0,_,_,_,h=>h.elim
 | n+1,0,_,hl,_=>absurd hl (by omega)
 | n+1,m+1,.node _ _ j,hl,h=>⟨h.1,fun k hk=>Dp.mono (by omega) (h.2 k hk)⟩
theorem uD:∀x:Tree,Tree.node x.op x.set x.kids=x
 | .node _ _ _=>rfl
theorem Dp.getD{n:Nat}{l:XX}(h:∀x∈l,Dp n x){i:Nat}(hi:i<l.length)(d:Tree):Dp n (l.getD i d):=by
 rw[List.getD_eq_getElem?_getD,List.getElem?_eq_getElem hi];exact h _ (List.getElem_mem hi)
theorem dZ{α:Type}{P:α→Prop}{l:List α}{x:α}(h:∀y∈l,P y)(c:P x):∀y∈l++[x],P y:=fun y e=>by
 rcases List.mem_append.1 e with q | q
 ·exact h y q
 ·rw[List.mem_singleton.1 q];exact c
abbrev Mg:=QX→Int→Int→Int→Int→Int→QQ→QK→XJ→XQ→Option (pc⊕(Int×Int))
section
variable{t:QX}(ht:t.length≤4096){p3 p4 p6:Int}{o1:QQ}{o2:QK}{o3:XJ}{o4:XQ}
def Ex(t:QX)(n:Nat)(a p6:Int):pc⊕(Int×Int)→Prop:=Nm fun(e,p,_,c)=>a≤p∧At t p∧c=p6∧Dp n e
def OK(t:QX)(n:Nat)(a p6:Int):pc⊕(Int×Int)→Prop:=Nm fun(e,p,_,c)=>a<p∧At t p∧c=p6∧Dp n e
include ht
theorem Jq{rec:Mg}(D:0≤p6)(z:p6≤16){d:Nat}(c:p6+1≤16→∀a p5,At t a→Ho (rec t a p3 p4 p5 (p6+1) o1 o2 o3 o4) (Ex t d a (p6+1))){a:Int}(ha:At t a)(p5:Int):
  Ho (eA rec t a p3 p4 p5 p6 o1 o2 o3 o4) (OK t (d+1) a p6):=by
 refine aq (mI ht ha (by decide)) ?_;rintro(⟨b,p⟩ | e) h
 rotate_left
 ·exact⟨_,rfl,trivial⟩
 obtain⟨E,j,A⟩:=h;have B:IntKind.i64.wrap (p6+1)=p6+1:=wrap_i64 (by omega) (by omega);refine aK (fun hb=>aK (fun _=>⟨_,rfl,trivial⟩) fun hd=>?_) (fun _=>aK (fun _=>⟨_,rfl,trivial⟩) fun _=>aW (by omega) ?_)
 ·rw[B]at hd ⊢;have f:p6+1≤16:=by simpa using hd
  refine aq (c f p _ j) ?_;rintro(⟨e,q,I,J⟩ | e) h
  rotate_left
  ·exact⟨_,rfl,trivial⟩
  obtain⟨C,g2,rfl,g4⟩:=h;refine aq (qi ht g2 (by decide)) ?_;rintro(r | e) h
  ·have:=A hb;dsimp only;rw[uD,wrap_i64 (by omega) (by omega)];exact av ⟨by have:=h.1;(try simp only);omega,h.2,by(try simp only);omega,g4.mono (by omega)⟩
  ·exact⟨_,rfl,trivial⟩
 ·refine aq (mI ht j (by decide)) ?_;rintro(⟨b,q⟩ | e) h
  rotate_left
  ·exact⟨_,rfl,trivial⟩
  obtain⟨C,g2,g3⟩:=h;refine aq (P:=Nm fun(_,r)=>a<r∧At t r) ?_ ?_
  ·refine aK (fun hb=>av ⟨by have:=g3 hb;omega,g2⟩) fun _=>?_
   refine aq (mI ht g2 (by decide)) ?_;rintro(⟨b,r⟩ | e) h
   rotate_left
   ·exact⟨_,rfl,trivial⟩
   obtain⟨L,v,M⟩:=h;refine aK (fun _=>?_) fun _=>?_
   ·refine aq (mI ht v (by decide)) ?_;rintro(⟨b,s⟩ | e) h
    rotate_left
    ·exact⟨_,rfl,trivial⟩
    refine aq (nU ht h.2.1 (by decide)) ?_;have N:=h.1;rintro(⟨x,u⟩ | e) h
    ·exact aK (fun _=>av ⟨by have:=h.1;(try simp only at this ⊢);omega,h.2⟩) fun _=>av ⟨by have:=h.1;(try simp only at this ⊢);omega,h.2⟩
    ·exact⟨_,rfl,trivial⟩
   ·refine aq (Cm ht v) ?_;rintro(⟨x,u⟩ | e) h
    ·exact av ⟨by have:=h.1;(try simp only at this ⊢);omega,h.2⟩
    ·exact⟨_,rfl,trivial⟩
  ·rintro(⟨x,r⟩ | e) h
   ·exact av ⟨h.1,h.2,rfl,by decide,fun k hk=>by cases hk⟩
   ·exact⟨_,rfl,trivial⟩
theorem JF{rec:Mg}(A:0≤p6)(j:p6≤16){d:Nat}(f:p6+1≤16→∀a p5,At t a→Ho (rec t a p3 p4 p5 (p6+1) o1 o2 o3 o4) (Ex t d a (p6+1))){a:Int}(ha:At t a)(p5:Int):
  Ho (ez rec t a p3 p4 p5 p6 o1 o2 o3 o4) (OK t (d+2) a p6):=by
 refine aq (Jq ht A j f ha p5) ?_;rintro(⟨e,q,B,C⟩ | e) h
 rotate_left
 ·exact⟨_,rfl,trivial⟩
 obtain⟨D,g2,rfl,g4⟩:=h;have E:Dp (d+2) (Tree.node e.op e.set e.kids):=by rw[uD];exact g4.mono (by omega)
 refine aq (P:=Lp (fun p=>a<p∧At t p) (Lp (fun _=>True) fun(e,p,_,q)=>a<p∧At t p∧q=C∧Dp (d+2) e)) ?_ ?_
 ·refine bF (fun(p,v)=>a<p∧At t p∧0≤v∧v≤7) (fun(_,v)=>(7 - v).toNat) ⟨D,g2,by decide,by decide⟩ (fun(p,v) ⟨z,u,I,L⟩=>?_);refine aK (fun hl=>?_) fun _=>av ⟨z,u⟩
  rw[dec_lt]at hl;refine aW ⟨I,hl⟩ (aq (P:=Nm fun(x,_)=>a<x∧At t x) ?_ ?_)
  ·refine aK (fun J=>?_) fun _=>av ⟨z,u⟩
   refine aq (mI ht u (by simpa using J)) ?_;rintro(⟨b,r⟩ | e) h
   ·exact av ⟨by have:=h.1;(try simp only at this ⊢);omega,h.2.1⟩
   ·exact⟨_,rfl,trivial⟩
  ·rintro(⟨x,b⟩ | M) h
   ·refine aK (fun _=>av ⟨h.1,h.2,rfl,by simp,fun k hk=>?_⟩) fun _=>?_
    ·rw[List.mem_singleton.1 hk,uD];exact g4
    ·rw[wrap_i64 (by omega) (by omega)];exact av ⟨⟨h.1,h.2,by omega,by omega⟩,by(try simp only);omega⟩
   ·exact⟨_,rfl,trivial⟩
 ·intro r c;match r,c with
  | .inl p,c=>exact av ⟨c.1,c.2,rfl,E⟩
  | .inr (.inl (N,O)),_=>exact⟨_,rfl,trivial⟩
  | .inr (.inr (e,p,B,q)),c=>exact av c
theorem IA{rec:Mg}(E:0≤p6)(z:p6≤16){d:Nat}(j:p6+1≤16→∀a p5,At t a→Ho (rec t a p3 p4 p5 (p6+1) o1 o2 o3 o4) (Ex t d a (p6+1))){a:Int}(ha:At t a)(p5:Int):
  Ho (dL rec t a p3 p4 p5 p6 o1 o2 o3 o4) (Ex t (d+3) a p6):=by
 refine aq (oH ht ha) ?_;rintro(⟨c,p⟩ | e) h
 rotate_left
 ·exact⟨_,rfl,trivial⟩
 obtain⟨I,B,_⟩:=h;refine aq (P:=Nm fun(l,p,_,q)=>a≤p∧At t p∧q=p6∧l.length≤1000000∧∀x∈l,Dp (d+2) x) ?_ ?_
 ·refine bF (fun(p,_,q,l,_)=>a≤p∧At t p∧q=p6∧(l.length:Int)≤p∧∀x∈l,Dp (d+2) x) (fun(p,_)=>(t.length - p).toNat) ⟨I,B,rfl,B.1,fun x J=>by cases J⟩
   (fun(p,p5,q,l,c) ⟨u,f,L,A,C⟩=>?_)
  subst L;refine aq (P:=fun _=>True) (aq (qp c) fun b _=>?_) fun v _=>aK (fun _=>?_) fun _=>av ⟨u,f,rfl,by have:=f.2;omega,C⟩
  ·repeat' split
   all_goals exact av trivial
  ·refine aq (JF ht E z j f _) ?_;rintro(⟨e,r,M,O⟩ | e) h
   rotate_left
   ·exact⟨_,rfl,trivial⟩
   obtain⟨V,g2,rfl,g4⟩:=h;have:=f.2;refine aW (by simp <;> omega) (aq (oH ht g2) ?_);rintro(⟨c,s⟩ | e) h
   ·obtain⟨X,D,_⟩:=h;dsimp only;rw[uD];exact av ⟨⟨by omega,D,rfl,by simp <;> omega,dZ C g4⟩,by have:=D.2;(try simp only);omega⟩
   ·exact⟨_,rfl,trivial⟩
 ·rintro(⟨l,p,M,q⟩ | e) h
  ·obtain⟨u,f,rfl,A⟩:=h;refine aK (fun _=>av ⟨u,f,rfl,by decide,fun k hk=>by cases hk⟩) fun _=>aK (fun hl=>?_) fun _=>av ⟨u,f,rfl,A⟩
   have N:(l.length:Int)=1:=by simpa using hl
   refine aW (by omega) (aW (by simp only[Int.toNat_zero];omega) ?_);rw[uD];exact av ⟨u,f,rfl,(Dp.getD A.2 (by simp only[Int.toNat_zero];omega) _).mono (by omega)⟩
  ·exact⟨_,rfl,trivial⟩
theorem ur:∀(n:Nat) {p6:Int},0≤p6→p6≤16→17 - p6≤n→∀a p5,At t a→Ho (bK n t a p3 p4 p5 p6 o1 o2 o3 o4) (Ex t (4*(17 - p6).toNat) a p6)
 | 0,p6,_,h,u,_,_,_=>by omega
 | n+1,p6,B,j,hn,a,p5,ha=>by
  obtain⟨d,hd⟩:∃d:Nat,17 - p6=((d+1:Nat):Int):=⟨(16 - p6).toNat,by omega⟩;have c:p6+1≤16→∀a p5,At t a→Ho (bK n t a p3 p4 p5 (p6+1) o1 o2 o3 o4) (Ex t (4*d) a (p6+1)):=fun hl a p5 ha=>by have:=ur n (p6:=p6+1) (by omega) hl (by omega) a p5 ha;rwa [show(17 - (p6+1)).toNat=d by omega]at this
  rw[hd,Int.toNat_natCast];refine aq (IA ht B j c ha p5) ?_;rintro(⟨e,p,C,v⟩ | e) h
  rotate_left
  ·exact⟨_,rfl,trivial⟩
  obtain⟨I,u,rfl,J⟩:=h;refine aq (P:=Nm fun(l,p,_,q)=>a≤p∧At t p∧q=v∧l.length≤1000000∧∀x∈l,Dp (4*d+3) x) ?_ ?_
  ·refine bF (fun(p,_,q,l)=>a≤p∧At t p∧q=v∧(l.length:Int)≤p+1∧∀x∈l,Dp (4*d+3) x) (fun(p,_)=>(t.length - p).toNat)
    ⟨I,u,rfl,by have:=u.1;simp only[List.length_singleton];omega,fun x L=>by rw[List.mem_singleton.1 L,uD];exact J⟩ (fun(p,p5,q,l) ⟨z,f,M,A,D⟩=>?_)
   subst M;refine aq (mI ht f (by decide)) ?_;rintro(⟨b,r⟩ | e) h
   rotate_left
   ·exact⟨_,rfl,trivial⟩
   obtain⟨V,g2,g3⟩:=h;refine aK (fun hb=>?_) fun _=>av ⟨by(try simp only);omega,g2,rfl,by have:=f.2;omega,D⟩
   have g3:=g3 hb;refine aq (IA ht B j c g2 _) ?_;rintro(⟨e,s,C,v⟩ | e) h
   rotate_left
   ·exact⟨_,rfl,trivial⟩
   obtain⟨X,E,rfl,N⟩:=h;have:=f.2;dsimp only;rw[uD];exact aW (by simp <;> omega) (av ⟨⟨by omega,E,rfl,by simp <;> omega,dZ D N⟩,by have:=E.2;(try simp only);omega⟩)
  ·rintro(⟨l,p,C,q⟩ | e) h
   ·obtain⟨z,f,rfl,A⟩:=h;refine aK (fun hl=>?_) fun _=>av ⟨z,f,rfl,A⟩
    have O:(l.length:Int)=1:=by simpa using hl
    refine aW (by omega) (aW (by simp only[Int.toNat_zero];omega) ?_);rw[uD];exact av ⟨z,f,rfl,(Dp.getD A.2 (by simp only[Int.toNat_zero];omega) _).mono (by omega)⟩
   ·exact⟨_,rfl,trivial⟩
end
theorem Kv(w:QX):0≤(aU .str (cj .str (cj .str (cj .str ([]:XQ) ([107,101,101,112]:QX) (0:Int)) ([109,97,121]:QX) (1:Int)) ([109,117,115,116]:QX) (2:Int)) w).getD 0 ∧
  (aU .str (cj .str (cj .str (cj .str ([]:XQ) ([107,101,101,112]:QX) (0:Int)) ([109,97,121]:QX) (1:Int)) ([109,117,115,116]:QX) (2:Int)) w).getD 0≤2:=by
 have e:cj .str (cj .str (cj .str ([]:XQ) ([107,101,101,112]:QX) (0:Int)) ([109,97,121]:QX) (1:Int)) ([109,117,115,116]:QX) (2:Int)=[([107,101,101,112],0),([109,97,121],1),([109,117,115,116],2)]:=by kernel_rfl
 rw[e];simp only[aU]
 repeat' split
 all_goals decide
structure FF(cl:QQ)(tr:QK)(ru:XJ):Prop where
 Mq:cl.length≤24
 tl:tr.length=cl.length
 tc:∀c∈tr,0≤c∧c<(cl.length:Int)
 rl:ru.length≤24
 rk:∀x∈ru,(0≤x.1∧x.1≤2)∧Dp 100 x.2.1∧Dp 100 x.2.2
section
variable{t:QX}(ht:t.length≤4096){p3 p4 p5 p6 a:Int}{o1:QQ}{o2:QK}{o3:XJ}{o4:XQ}
include ht
theorem JM(ha:At t a)(v:0≤p6)(c:p6≤16)(j:FF o1 o2 o3){JE:Int}(hd:0≤JE∧JE≤2)(q:Int):
  Ho (eH JE q t a p3 p4 p5 p6 o1 o2 o3 o4) (Nm fun(p,u,_,x)=>a<p∧At t p∧x=p6∧FF o1 o2 u):=by
 have f:4*(17 - p6).toNat≤100:=by omega
 refine aK (fun _=>⟨_,rfl,trivial⟩) fun hl=>?_
 have z:(o3.length:Int)<24:=by simpa using hl
 refine aq (ur ht 1000 v c (by omega) a _ ha) ?_;rintro(⟨e,p,J,x⟩ | e) h
 rotate_left
 ·exact⟨_,rfl,trivial⟩
 obtain⟨L,A,rfl,B⟩:=h;refine aq (qi ht A (by decide)) ?_;rintro(r | e) h
 rotate_left
 ·exact⟨_,rfl,trivial⟩
 obtain⟨M,C⟩:=h;refine aq (ur ht 1000 v c (by omega) r _ C) ?_;rintro(⟨N,O,D,E⟩ | e) h
 rotate_left
 ·exact⟨_,rfl,trivial⟩
 obtain⟨V,g2,rfl,g4⟩:=h;refine aq (qi ht g2 (by decide)) ?_;rintro(s | e) h
 ·obtain⟨X,I⟩:=h;dsimp only;rw[uD,uD];exact aW (by simp <;> omega) (av ⟨by(try simp only);omega,I,rfl,j.Mq,j.tl,j.tc,by simp <;> omega,dZ j.rk ⟨hd,B.mono f,g4.mono f⟩⟩)
 ·exact⟨_,rfl,trivial⟩
theorem IQ(ha:At t a)(B:FF o1 o2 o3):
  Ho (eg t a p3 p4 p5 p6 o1 o2 o3 o4) (Nm fun(p,f,j,_)=>a<p∧At t p∧FF f j o3):=by
 refine aq (P:=Nm fun(p,f,j,_)=>a<p∧At t p∧FF f j o3) ?_ ?_
 ·refine bF (fun(p,c,r,_)=>a≤p∧At t p∧FF c r o3) (fun(p,_)=>(t.length - p).toNat) ⟨Int.le_refl _,ha,B⟩ (fun(p,c,r,m) ⟨I,v,u⟩=>?_);refine aq (mI ht v (by decide)) ?_;rintro(⟨b,q⟩ | e) h
  rotate_left
  ·exact⟨_,rfl,trivial⟩
  obtain⟨J,z,C⟩:=h;refine aK (fun _=>?_) fun hb=>av ⟨by have:=C (by simpa using hb);(try simp only);omega,z,u⟩
  refine aq (oH ht z) ?_;rintro(⟨x,L⟩ | e) h
  rotate_left
  ·exact⟨_,rfl,trivial⟩
  obtain⟨M,g2,_⟩:=h;refine aq (DA ht g2) ?_;rintro(⟨w,s⟩ | e) h
  rotate_left
  ·exact⟨_,rfl,trivial⟩
  obtain⟨N,A⟩:=h;refine aK (fun _=>⟨_,rfl,trivial⟩) fun hl=>?_
  have D:(c.length:Int)<24:=by simpa using hl
  have:=u.tl;refine aW (by omega) (aW (by simp <;> omega) (aW (by simp <;> omega) (av ⟨⟨by omega,A,?_⟩,by have:=A.2;have:=v.2;(try simp only);omega⟩)));refine⟨by simp <;> omega,by simp[this],dZ (fun y E=>?_) ?_,u.rl,u.rk⟩
  ·have:=u.tc y E;simp only[List.length_append,List.length_singleton];omega
  ·simp only[List.length_append,List.length_singleton];omega
 ·rintro(⟨p,c,r,m⟩ | e) h
  ·exact av h
  ·exact⟨_,rfl,trivial⟩
theorem LX(ha:At t a):Ho (ff t a p3 p4 p5 p6 o1 o2 o3 o4) (Nm fun(p,_)=>a<p∧At t p):=by
 refine aq (DA ht ha) ?_;rintro(⟨w,p⟩ | e) h
 rotate_left
 ·exact⟨_,rfl,trivial⟩
 have c:=h.1;refine aq (qi ht h.2 (by decide)) ?_;rintro(q | e) h
 rotate_left
 ·exact⟨_,rfl,trivial⟩
 have f:=h.1;refine aq (nU ht h.2 (by decide)) ?_;rintro(⟨x,r⟩ | e) h
 ·exact av ⟨by have:=h.1;(try simp only at this c ⊢);omega,h.2⟩
 ·exact⟨_,rfl,trivial⟩
theorem Kr(ha:At t a):Ho (eS t a p3 p4 p5 p6 o1 o2 o3 o4) (Nm fun(p,_)=>a<p∧At t p):=by
 refine aq (nU ht ha (by decide)) ?_;rintro(⟨w,p⟩ | e) h
 rotate_left
 ·exact⟨_,rfl,trivial⟩
 have c:=h.1;refine aq (nU ht h.2 (by decide)) ?_;rintro(⟨x,r⟩ | e) h
 ·exact av ⟨by have:=h.1;(try simp only at this c ⊢);omega,h.2⟩
 ·exact⟨_,rfl,trivial⟩
theorem HD(ha:At t a)(f:FF o1 o2 o3):Ho (ep t a p3 p4 p5 p6 o1 o2 o3 o4) (Nm fun(p,u)=>a<p∧At t p∧FF o1 u o3):=by
 refine aq (IM ht ha f.Mq) ?_;rintro(⟨i,p⟩ | e) h
 rotate_left
 ·exact⟨_,rfl,trivial⟩
 obtain⟨A,v,B,C⟩:=h;refine aq (qi ht v (by decide)) ?_;rintro(q | e) h
 rotate_left
 ·exact⟨_,rfl,trivial⟩
 obtain⟨D,x⟩:=h;refine aq (IM ht x f.Mq) ?_;rintro(⟨j,r⟩ | e) h
 rotate_left
 ·exact⟨_,rfl,trivial⟩
 obtain⟨E,g2,g3,g4⟩:=h;have:=f.tl;refine aW (by omega) (aW (by omega) (aq (qi ht g2 (by decide)) ?_));rintro(s | e) h
 ·refine av ⟨by have:=h.1;(try simp only);omega,h.2,f.Mq,by simp[this],fun c z=>?_,f.rl,f.rk⟩;rcases List.mem_or_eq_of_mem_set z with q | q
  ·exact f.tc c q
  ·rw[q];exact⟨g3,g4⟩
 ·exact⟨_,rfl,trivial⟩
theorem LW:Ho (gO t 0 0 0 0 0 []) (Nm fun(_,o1,_,_,o2,o3,_)=>FF o1 o2 o3):=by
 refine aq (P:=Nm fun(_,o1,_,_,o2,o3,_)=>FF o1 o2 o3) ?_ ?_
 ·refine bF (fun(p,o1,_,_,o2,o3,_,_,u)=>At t p∧u=0∧FF o1 o2 o3) (fun(p,_)=>(t.length - p).toNat) ⟨⟨by decide,by omega⟩,rfl,⟨by decide,rfl,fun _ h=>(by cases h),by decide,fun _ h=>(by cases h)⟩⟩
   (fun(p,o1,p3,p4,o2,o3,o4,p5,u) ⟨v,A,j⟩=>?_)
  subst A;refine aq (oH ht v) ?_;rintro(⟨c,q⟩ | e) h
  rotate_left
  ·exact⟨_,rfl,trivial⟩
  obtain⟨I,B,_⟩:=h;refine aK (fun _=>?_) fun _=>av j
  refine aq (wk ht B) ?_;rintro(⟨w,C,r⟩ | e) h
  rotate_left
  ·exact⟨_,rfl,trivial⟩
  obtain⟨D,g2⟩:=h;have f:∀s:Int,r<s→At t s→(t.length - s).toNat<(t.length - p).toNat:=fun s J ⟨_,E⟩=>by(try simp only at D);omega
  refine aK (fun _=>?_) fun _=>aK (fun _=>?_) fun _=>aK (fun _=>?_) fun _=>aK (fun _=>?_) fun _=>aK (fun _=>?_) fun _=>⟨_,rfl,trivial⟩
  ·refine aq (IQ ht g2 j) ?_;rintro(⟨s,x⟩ | e) h
   ·exact av ⟨⟨h.2.1,rfl,h.2.2⟩,f s h.1 h.2.1⟩
   ·exact⟨_,rfl,trivial⟩
  ·refine aq (LX ht g2) ?_;rintro(⟨s,x⟩ | e) h
   ·exact av ⟨⟨h.2,rfl,j⟩,f s h.1 h.2⟩
   ·exact⟨_,rfl,trivial⟩
  ·refine aq (Kr ht g2) ?_;rintro(⟨s,x⟩ | e) h
   ·exact av ⟨⟨h.2,rfl,j⟩,f s h.1 h.2⟩
   ·exact⟨_,rfl,trivial⟩
  ·refine aq (HD ht g2 j) ?_;rintro(⟨s,x⟩ | e) h
   ·exact av ⟨⟨h.2.1,rfl,h.2.2⟩,f s h.1 h.2.1⟩
   ·exact⟨_,rfl,trivial⟩
  ·refine aq (JM ht g2 (by decide) (by decide) j ?_ _) ?_
   ·exact Kv w
   rintro(⟨s,x,y,z⟩ | e) h
   ·exact av ⟨⟨h.2.1,h.2.2.1,h.2.2.2⟩,f s h.1 h.2.1⟩
   ·exact⟨_,rfl,trivial⟩
 ·rintro(⟨v1,L,M,v4,N,v6,O⟩ | e) h
  ·exact av h
  ·exact⟨_,rfl,trivial⟩
end
theorem Ip(t:QX):Ho (j5 t) (fun r=>FF r.1.1 r.1.2.2.2.1 r.1.2.2.2.2):=by
 have key:Ho (jK t) (Nm fun r=>FF r.1.1 r.1.2.2.2.1 r.1.2.2.2.2):=by
  refine aK (fun _=>⟨_,rfl,trivial⟩) fun hl=>?_
  have c:(t.length:Int)≤4096:=by simpa using hl
  refine aq (LW (by omega)) ?_;rintro(⟨v1,f,j,v4,p,v6,q⟩ | e) h
  ·exact av h
  ·exact⟨_,rfl,trivial⟩
 obtain⟨r,e,h⟩:=key;refine⟨pK r,by unfold j5;rw[e];rfl,?_⟩;cases r with
 | inl x=>exact h
 | inr e=>exact⟨Nat.zero_le _,rfl,fun _ h=>(by cases h),Nat.zero_le _,fun _ h=>(by cases h)⟩
end Go.Proofs.YtmcemnfjddoejaaGreatDoor.T
