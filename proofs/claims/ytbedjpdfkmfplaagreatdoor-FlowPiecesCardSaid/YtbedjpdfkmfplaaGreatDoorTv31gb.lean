import Derived.Test.YtbedjpdfkmfplaaGreatDoorTv31tm
namespace Go.Proofs.YtbedjpdfkmfplaaGreatDoor.T
open Go Go.Tv Go.Proofs
def Dp:Nat→Tree→Prop
 | 0,_=>False
 | n+1,.node _ _ e=>e.length≤1000000∧∀k∈e,Dp n k
theorem Dp.mono:∀ {n m:Nat} {t:Tree},n≤m→Dp n t→Dp m t
 | 0,_,_,_,h=>h.elim
 | n+1,0,_,hl,_=>absurd hl (by omega)
 | n+1,m+1,.node _ _ j,hl,h=>⟨h.1,fun k hk=>Dp.mono (by omega) (h.2 k hk)⟩
theorem ux:∀x:Tree,Tree.node x.op x.set x.kids=x
 | .node _ _ _=>rfl
theorem Dp.getD{n:Nat}{l:XZ}(h:∀x∈l,Dp n x){i:Nat}(hi:i<l.length)(d:Tree):Dp n (l.getD i d):=by
 rw[List.getD_eq_getElem?_getD,List.getElem?_eq_getElem hi];exact h _ (List.getElem_mem hi)
theorem eI{α:Type}{P:α→Prop}{l:List α}{x:α}(h:∀y∈l,P y)(e:P x):∀y∈l++[x],P y:=fun y f=>by
 rcases List.mem_append.1 f with q | q
 ·exact h y q
 ·rw[List.mem_singleton.1 q];exact e
abbrev LV:=QX→Int→Int→Int→Int→Int→QQ→QK→XJ→XX→Option (pj⊕(Int×Int))
section
variable{t:QX}(ht:t.length≤4096){p3 p4 p6:Int}{o1:QQ}{o2:QK}{o3:XJ}{o4:XX}
def Ex(t:QX)(n:Nat)(a p6:Int):pj⊕(Int×Int)→Prop:=Nm fun(e,p,_,f)=>a≤p∧At t p∧f=p6∧Dp n e
def OQ(t:QX)(n:Nat)(a p6:Int):pj⊕(Int×Int)→Prop:=Nm fun(e,p,_,f)=>a<p∧At t p∧f=p6∧Dp n e
include ht
theorem IN{rec:LV}(E:0≤p6)(A:p6≤16){d:Nat}(f:p6+1≤16→∀a p5,At t a→Ho (rec t a p3 p4 p5 (p6+1) o1 o2 o3 o4) (Ex t d a (p6+1))){a:Int}(ha:At t a)(p5:Int):
  Ho (eM rec t a p3 p4 p5 p6 o1 o2 o3 o4) (OQ t (d+1) a p6):=by
 refine ao (mw ht ha (by decide)) ?_;rintro(⟨b,p⟩ | e) h
 rotate_left
 ·exact⟨_,rfl,trivial⟩
 obtain⟨I,v,B⟩:=h;have C:IntKind.i64.wrap (p6+1)=p6+1:=wrap_i64 (by omega) (by omega);refine aJ (fun hb=>aJ (fun _=>⟨_,rfl,trivial⟩) fun hd=>?_) (fun _=>aJ (fun _=>⟨_,rfl,trivial⟩) fun _=>aW (by omega) ?_)
 ·rw[C]at hd ⊢;have j:p6+1≤16:=by simpa using hd
  refine ao (f j p _ v) ?_;rintro(⟨e,q,J,L⟩ | e) h
  rotate_left
  ·exact⟨_,rfl,trivial⟩
  obtain⟨D,g2,rfl,g4⟩:=h;refine ao (qz ht g2 (by decide)) ?_;rintro(r | e) h
  ·have:=B hb;dsimp only;rw[ux,wrap_i64 (by omega) (by omega)];exact aq ⟨by have:=h.1;(try simp only);omega,h.2,by(try simp only);omega,g4.mono (by omega)⟩
  ·exact⟨_,rfl,trivial⟩
 ·refine ao (mw ht v (by decide)) ?_;rintro(⟨b,q⟩ | e) h
  rotate_left
  ·exact⟨_,rfl,trivial⟩
  obtain⟨D,g2,g3⟩:=h;refine ao (P:=Nm fun(_,r)=>a<r∧At t r) ?_ ?_
  ·refine aJ (fun hb=>aq ⟨by have:=g3 hb;omega,g2⟩) fun _=>?_
   refine ao (mw ht g2 (by decide)) ?_;rintro(⟨b,r⟩ | e) h
   rotate_left
   ·exact⟨_,rfl,trivial⟩
   obtain⟨M,z,N⟩:=h;refine aJ (fun _=>?_) fun _=>?_
   ·refine ao (mw ht z (by decide)) ?_;rintro(⟨b,s⟩ | e) h
    rotate_left
    ·exact⟨_,rfl,trivial⟩
    refine ao (n6 ht h.2.1 (by decide)) ?_;have O:=h.1;rintro(⟨x,u⟩ | e) h
    ·exact aJ (fun _=>aq ⟨by have:=h.1;(try simp only at this ⊢);omega,h.2⟩) fun _=>aq ⟨by have:=h.1;(try simp only at this ⊢);omega,h.2⟩
    ·exact⟨_,rfl,trivial⟩
   ·refine ao (C2 ht z) ?_;rintro(⟨x,u⟩ | e) h
    ·exact aq ⟨by have:=h.1;(try simp only at this ⊢);omega,h.2⟩
    ·exact⟨_,rfl,trivial⟩
  ·rintro(⟨x,r⟩ | e) h
   ·exact aq ⟨h.1,h.2,rfl,by decide,fun k hk=>by cases hk⟩
   ·exact⟨_,rfl,trivial⟩
theorem HO{rec:LV}(C:0≤p6)(u:p6≤16){d:Nat}(j:p6+1≤16→∀a p5,At t a→Ho (rec t a p3 p4 p5 (p6+1) o1 o2 o3 o4) (Ex t d a (p6+1))){a:Int}(ha:At t a)(p5:Int):
  Ho (eQ rec t a p3 p4 p5 p6 o1 o2 o3 o4) (OQ t (d+2) a p6):=by
 refine ao (IN ht C u j ha p5) ?_;rintro(⟨e,q,D,E⟩ | e) h
 rotate_left
 ·exact⟨_,rfl,trivial⟩
 obtain⟨I,g2,rfl,g4⟩:=h;have J:Dp (d+2) (Tree.node e.op e.set e.kids):=by rw[ux];exact g4.mono (by omega)
 refine ao (P:=Lp (fun p=>a<p∧At t p) (Lp (fun _=>True) fun(e,p,_,q)=>a<p∧At t p∧q=E∧Dp (d+2) e)) ?_ ?_
 ·refine bG (fun(p,v)=>a<p∧At t p∧0≤v∧v≤7) (fun(_,v)=>(7 - v).toNat) ⟨I,g2,by decide,by decide⟩ (fun(p,v) ⟨B,z,L,N⟩=>?_);refine aJ (fun hl=>?_) fun _=>aq ⟨B,z⟩
  rw[dec_lt]at hl;refine aW ⟨L,hl⟩ (ao (P:=Nm fun(A,_)=>a<A∧At t A) ?_ ?_)
  ·refine aJ (fun M=>?_) fun _=>aq ⟨B,z⟩
   refine ao (mw ht z (by simpa using M)) ?_;rintro(⟨b,r⟩ | e) h
   ·exact aq ⟨by have:=h.1;(try simp only at this ⊢);omega,h.2.1⟩
   ·exact⟨_,rfl,trivial⟩
  ·rintro(⟨A,b⟩ | O) h
   ·refine aJ (fun _=>aq ⟨h.1,h.2,rfl,by simp,fun k hk=>?_⟩) fun _=>?_
    ·rw[List.mem_singleton.1 hk,ux];exact g4
    ·rw[wrap_i64 (by omega) (by omega)];exact aq ⟨⟨h.1,h.2,by omega,by omega⟩,by(try simp only);omega⟩
   ·exact⟨_,rfl,trivial⟩
 ·intro r f;match r,f with
  | .inl p,f=>exact aq ⟨f.1,f.2,rfl,J⟩
  | .inr (.inl (V,X)),_=>exact⟨_,rfl,trivial⟩
  | .inr (.inr (e,p,D,q)),f=>exact aq f
theorem Ig{rec:LV}(E:0≤p6)(z:p6≤16){d:Nat}(j:p6+1≤16→∀a p5,At t a→Ho (rec t a p3 p4 p5 (p6+1) o1 o2 o3 o4) (Ex t d a (p6+1))){a:Int}(ha:At t a)(p5:Int):
  Ho (dY rec t a p3 p4 p5 p6 o1 o2 o3 o4) (Ex t (d+3) a p6):=by
 refine ao (nU ht ha) ?_;rintro(⟨c,p⟩ | e) h
 rotate_left
 ·exact⟨_,rfl,trivial⟩
 obtain⟨I,B,_⟩:=h;refine ao (P:=Nm fun(l,p,_,q)=>a≤p∧At t p∧q=p6∧l.length≤1000000∧∀x∈l,Dp (d+2) x) ?_ ?_
 ·refine bG (fun(p,_,q,l,_)=>a≤p∧At t p∧q=p6∧(l.length:Int)≤p∧∀x∈l,Dp (d+2) x) (fun(p,_)=>(t.length - p).toNat) ⟨I,B,rfl,B.1,fun x J=>by cases J⟩
   (fun(p,p5,q,l,c) ⟨u,f,L,A,C⟩=>?_)
  subst L;refine ao (P:=fun _=>True) (ao (qs c) fun b _=>?_) fun v _=>aJ (fun _=>?_) fun _=>aq ⟨u,f,rfl,by have:=f.2;omega,C⟩
  ·repeat' split
   all_goals exact aq trivial
  ·refine ao (HO ht E z j f _) ?_;rintro(⟨e,r,M,O⟩ | e) h
   rotate_left
   ·exact⟨_,rfl,trivial⟩
   obtain⟨V,g2,rfl,g4⟩:=h;have:=f.2;refine aW (by simp only[List.length_singleton];omega) (ao (nU ht g2) ?_);rintro(⟨c,s⟩ | e) h
   ·obtain⟨X,D,_⟩:=h;dsimp only;rw[ux];exact aq ⟨⟨by omega,D,rfl,by simp only[List.length_append,List.length_singleton];omega,eI C g4⟩,by have:=D.2;(try simp only);omega⟩
   ·exact⟨_,rfl,trivial⟩
 ·rintro(⟨l,p,M,q⟩ | e) h
  ·obtain⟨u,f,rfl,A⟩:=h;refine aJ (fun _=>aq ⟨u,f,rfl,by decide,fun k hk=>by cases hk⟩) fun _=>aJ (fun hl=>?_) fun _=>aq ⟨u,f,rfl,A⟩
   have N:(l.length:Int)=1:=by simpa using hl
   refine aW (by omega) (aW (by simp only[Int.toNat_zero];omega) ?_);rw[ux];exact aq ⟨u,f,rfl,(Dp.getD A.2 (by simp only[Int.toNat_zero];omega) _).mono (by omega)⟩
  ·exact⟨_,rfl,trivial⟩
theorem uB:∀(n:Nat) {p6:Int},0≤p6→p6≤16→17 - p6≤n→∀a p5,At t a→Ho (bM n t a p3 p4 p5 p6 o1 o2 o3 o4) (Ex t (4*(17 - p6).toNat) a p6)
 | 0,p6,_,h,v,_,_,_=>by omega
 | n+1,p6,C,u,hn,a,p5,ha=>by
  obtain⟨d,hd⟩:∃d:Nat,17 - p6=((d+1:Nat):Int):=⟨(16 - p6).toNat,by omega⟩;have f:p6+1≤16→∀a p5,At t a→Ho (bM n t a p3 p4 p5 (p6+1) o1 o2 o3 o4) (Ex t (4*d) a (p6+1)):=fun hl a p5 ha=>by have:=uB n (p6:=p6+1) (by omega) hl (by omega) a p5 ha;rwa [show(17 - (p6+1)).toNat=d by omega]at this
  rw[hd,Int.toNat_natCast];refine ao (Ig ht C u f ha p5) ?_;rintro(⟨e,p,D,z⟩ | e) h
  rotate_left
  ·exact⟨_,rfl,trivial⟩
  obtain⟨J,v,rfl,L⟩:=h;refine ao (P:=Nm fun(l,p,_,q)=>a≤p∧At t p∧q=z∧l.length≤1000000∧∀x∈l,Dp (4*d+3) x) ?_ ?_
  ·refine bG (fun(p,_,q,l)=>a≤p∧At t p∧q=z∧(l.length:Int)≤p+1∧∀x∈l,Dp (4*d+3) x) (fun(p,_)=>(t.length - p).toNat)
    ⟨J,v,rfl,by have:=v.1;simp only[List.length_singleton];omega,fun x M=>by rw[List.mem_singleton.1 M,ux];exact L⟩ (fun(p,p5,q,l) ⟨A,j,N,B,E⟩=>?_)
   subst N;refine ao (mw ht j (by decide)) ?_;rintro(⟨b,r⟩ | e) h
   rotate_left
   ·exact⟨_,rfl,trivial⟩
   obtain⟨X,g2,g3⟩:=h;refine aJ (fun hb=>?_) fun _=>aq ⟨by(try simp only);omega,g2,rfl,by have:=j.2;omega,E⟩
   have g3:=g3 hb;refine ao (Ig ht C u f g2 _) ?_;rintro(⟨e,s,D,z⟩ | e) h
   rotate_left
   ·exact⟨_,rfl,trivial⟩
   obtain⟨Y,I,rfl,O⟩:=h;have:=j.2;dsimp only;rw[ux];exact aW (by simp only[List.length_singleton];omega) (aq ⟨⟨by omega,I,rfl,by simp only[List.length_append,List.length_singleton];omega,eI E O⟩,by have:=I.2;(try simp only);omega⟩)
  ·rintro(⟨l,p,D,q⟩ | e) h
   ·obtain⟨A,j,rfl,B⟩:=h;refine aJ (fun hl=>?_) fun _=>aq ⟨A,j,rfl,B⟩
    have V:(l.length:Int)=1:=by simpa using hl
    refine aW (by omega) (aW (by simp only[Int.toNat_zero];omega) ?_);rw[ux];exact aq ⟨A,j,rfl,(Dp.getD B.2 (by simp only[Int.toNat_zero];omega) _).mono (by omega)⟩
   ·exact⟨_,rfl,trivial⟩
end
theorem JV(w:QX):0≤(aT .str (cq .str (cq .str (cq .str ([]:XX) ([107,101,101,112]:QX) (0:Int)) ([109,97,121]:QX) (1:Int)) ([109,117,115,116]:QX) (2:Int)) w).getD 0 ∧
  (aT .str (cq .str (cq .str (cq .str ([]:XX) ([107,101,101,112]:QX) (0:Int)) ([109,97,121]:QX) (1:Int)) ([109,117,115,116]:QX) (2:Int)) w).getD 0≤2:=by
 have e:cq .str (cq .str (cq .str ([]:XX) ([107,101,101,112]:QX) (0:Int)) ([109,97,121]:QX) (1:Int)) ([109,117,115,116]:QX) (2:Int)=[([107,101,101,112],0),([109,97,121],1),([109,117,115,116],2)]:=by kernel_rfl
 rw[e];simp only[aT]
 repeat' split
 all_goals decide
structure Gn(cl:QQ)(tr:QK)(ru:XJ):Prop where
 LM:cl.length≤24
 tl:tr.length=cl.length
 tc:∀c∈tr,0≤c∧c<(cl.length:Int)
 rl:ru.length≤24
 rk:∀x∈ru,(0≤x.1∧x.1≤2)∧Dp 100 x.2.1∧Dp 100 x.2.2
section
variable{t:QX}(ht:t.length≤4096){p3 p4 p5 p6 a:Int}{o1:QQ}{o2:QK}{o3:XJ}{o4:XX}
include ht
theorem Kh(ha:At t a)(z:0≤p6)(f:p6≤16)(q:Gn o1 o2 o3){IF:Int}(hd:0≤IF∧IF≤2)(u:Int):
  Ho (fe IF u t a p3 p4 p5 p6 o1 o2 o3 o4) (Nm fun(p,v,_,A)=>a<p∧At t p∧A=p6∧Gn o1 o2 v):=by
 have j:4*(17 - p6).toNat≤100:=by omega
 refine aJ (fun _=>⟨_,rfl,trivial⟩) fun hl=>?_
 have B:(o3.length:Int)<24:=by simpa using hl
 refine ao (uB ht 1000 z f (by omega) a _ ha) ?_;rintro(⟨e,p,M,A⟩ | e) h
 rotate_left
 ·exact⟨_,rfl,trivial⟩
 obtain⟨N,C,rfl,D⟩:=h;refine ao (qz ht C (by decide)) ?_;rintro(r | e) h
 rotate_left
 ·exact⟨_,rfl,trivial⟩
 obtain⟨O,E⟩:=h;refine ao (uB ht 1000 z f (by omega) r _ E) ?_;rintro(⟨V,X,I,J⟩ | e) h
 rotate_left
 ·exact⟨_,rfl,trivial⟩
 obtain⟨Y,g2,rfl,g4⟩:=h;refine ao (qz ht g2 (by decide)) ?_;rintro(s | e) h
 ·obtain⟨Z,L⟩:=h;dsimp only;rw[ux,ux];exact aW (by simp only[List.length_singleton];omega) (aq ⟨by(try simp only);omega,L,rfl,q.LM,q.tl,q.tc,by simp only[List.length_append,List.length_singleton];omega,eI q.rk ⟨hd,D.mono j,g4.mono j⟩⟩)
 ·exact⟨_,rfl,trivial⟩
theorem Jo(ha:At t a)(B:Gn o1 o2 o3):
  Ho (eP t a p3 p4 p5 p6 o1 o2 o3 o4) (Nm fun(p,f,j,_)=>a<p∧At t p∧Gn f j o3):=by
 refine ao (P:=Nm fun(p,f,j,_)=>a<p∧At t p∧Gn f j o3) ?_ ?_
 ·refine bG (fun(p,c,r,_)=>a≤p∧At t p∧Gn c r o3) (fun(p,_)=>(t.length - p).toNat) ⟨Int.le_refl _,ha,B⟩ (fun(p,c,r,m) ⟨I,v,u⟩=>?_);refine ao (mw ht v (by decide)) ?_;rintro(⟨b,q⟩ | e) h
  rotate_left
  ·exact⟨_,rfl,trivial⟩
  obtain⟨J,z,C⟩:=h;refine aJ (fun _=>?_) fun hb=>aq ⟨by have:=C (by simpa using hb);(try simp only);omega,z,u⟩
  refine ao (nU ht z) ?_;rintro(⟨x,L⟩ | e) h
  rotate_left
  ·exact⟨_,rfl,trivial⟩
  obtain⟨M,g2,_⟩:=h;refine ao (Dz ht g2) ?_;rintro(⟨w,s⟩ | e) h
  rotate_left
  ·exact⟨_,rfl,trivial⟩
  obtain⟨N,A⟩:=h;refine aJ (fun _=>⟨_,rfl,trivial⟩) fun hl=>?_
  have D:(c.length:Int)<24:=by simpa using hl
  have:=u.tl;refine aW (by omega) (aW (by simp only[List.length_singleton];omega) (aW (by simp only[List.length_singleton];omega) (aq ⟨⟨by omega,A,?_⟩,by have:=A.2;have:=v.2;(try simp only);omega⟩)));refine⟨by simp only[List.length_append,List.length_singleton];omega,by simp[this],eI (fun y E=>?_) ?_,u.rl,u.rk⟩
  ·have:=u.tc y E;simp only[List.length_append,List.length_singleton];omega
  ·simp only[List.length_append,List.length_singleton];omega
 ·rintro(⟨p,c,r,m⟩ | e) h
  ·exact aq h
  ·exact⟨_,rfl,trivial⟩
theorem Mq(ha:At t a):Ho (fI t a p3 p4 p5 p6 o1 o2 o3 o4) (Nm fun(p,_)=>a<p∧At t p):=by
 refine ao (Dz ht ha) ?_;rintro(⟨w,p⟩ | e) h
 rotate_left
 ·exact⟨_,rfl,trivial⟩
 have f:=h.1;refine ao (qz ht h.2 (by decide)) ?_;rintro(q | e) h
 rotate_left
 ·exact⟨_,rfl,trivial⟩
 have j:=h.1;refine ao (n6 ht h.2 (by decide)) ?_;rintro(⟨x,r⟩ | e) h
 ·exact aq ⟨by have:=h.1;(try simp only at this f ⊢);omega,h.2⟩
 ·exact⟨_,rfl,trivial⟩
theorem KD(ha:At t a):Ho (fu t a p3 p4 p5 p6 o1 o2 o3 o4) (Nm fun(p,_)=>a<p∧At t p):=by
 refine ao (n6 ht ha (by decide)) ?_;rintro(⟨w,p⟩ | e) h
 rotate_left
 ·exact⟨_,rfl,trivial⟩
 have f:=h.1;refine ao (n6 ht h.2 (by decide)) ?_;rintro(⟨x,r⟩ | e) h
 ·exact aq ⟨by have:=h.1;(try simp only at this f ⊢);omega,h.2⟩
 ·exact⟨_,rfl,trivial⟩
theorem It(ha:At t a)(f:Gn o1 o2 o3):Ho (eO t a p3 p4 p5 p6 o1 o2 o3 o4) (Nm fun(p,u)=>a<p∧At t p∧Gn o1 u o3):=by
 refine ao (Jk ht ha f.LM) ?_;rintro(⟨i,p⟩ | e) h
 rotate_left
 ·exact⟨_,rfl,trivial⟩
 obtain⟨B,v,C,D⟩:=h;refine ao (qz ht v (by decide)) ?_;rintro(q | e) h
 rotate_left
 ·exact⟨_,rfl,trivial⟩
 obtain⟨E,z⟩:=h;refine ao (Jk ht z f.LM) ?_;rintro(⟨j,r⟩ | e) h
 rotate_left
 ·exact⟨_,rfl,trivial⟩
 obtain⟨I,g2,g3,g4⟩:=h;have:=f.tl;refine aW (by omega) (aW (by omega) (ao (qz ht g2 (by decide)) ?_));rintro(s | e) h
 ·refine aq ⟨by have:=h.1;(try simp only);omega,h.2,f.LM,by simp[this],fun c A=>?_,f.rl,f.rk⟩;rcases List.mem_or_eq_of_mem_set A with q | q
  ·exact f.tc c q
  ·rw[q];exact⟨g3,g4⟩
 ·exact⟨_,rfl,trivial⟩
theorem L4:Ho (hD t 0 0 0 0 0 []) (Nm fun(_,o1,_,_,o2,o3,_)=>Gn o1 o2 o3):=by
 refine ao (P:=Nm fun(_,o1,_,_,o2,o3,_)=>Gn o1 o2 o3) ?_ ?_
 ·refine bG (fun(p,o1,_,_,o2,o3,_,_,u)=>At t p∧u=0∧Gn o1 o2 o3) (fun(p,_)=>(t.length - p).toNat) ⟨⟨by decide,by omega⟩,rfl,⟨by decide,rfl,fun _ h=>(by cases h),by decide,fun _ h=>(by cases h)⟩⟩
   (fun(p,o1,p3,p4,o2,o3,o4,p5,u) ⟨v,A,j⟩=>?_)
  subst A;refine ao (nU ht v) ?_;rintro(⟨c,q⟩ | e) h
  rotate_left
  ·exact⟨_,rfl,trivial⟩
  obtain⟨I,B,_⟩:=h;refine aJ (fun _=>?_) fun _=>aq j
  refine ao (wg ht B) ?_;rintro(⟨w,C,r⟩ | e) h
  rotate_left
  ·exact⟨_,rfl,trivial⟩
  obtain⟨D,g2⟩:=h;have f:∀s:Int,r<s→At t s→(t.length - s).toNat<(t.length - p).toNat:=fun s J ⟨_,E⟩=>by(try simp only at D);omega
  refine aJ (fun _=>?_) fun _=>aJ (fun _=>?_) fun _=>aJ (fun _=>?_) fun _=>aJ (fun _=>?_) fun _=>aJ (fun _=>?_) fun _=>⟨_,rfl,trivial⟩
  ·refine ao (Jo ht g2 j) ?_;rintro(⟨s,x⟩ | e) h
   ·exact aq ⟨⟨h.2.1,rfl,h.2.2⟩,f s h.1 h.2.1⟩
   ·exact⟨_,rfl,trivial⟩
  ·refine ao (Mq ht g2) ?_;rintro(⟨s,x⟩ | e) h
   ·exact aq ⟨⟨h.2,rfl,j⟩,f s h.1 h.2⟩
   ·exact⟨_,rfl,trivial⟩
  ·refine ao (KD ht g2) ?_;rintro(⟨s,x⟩ | e) h
   ·exact aq ⟨⟨h.2,rfl,j⟩,f s h.1 h.2⟩
   ·exact⟨_,rfl,trivial⟩
  ·refine ao (It ht g2 j) ?_;rintro(⟨s,x⟩ | e) h
   ·exact aq ⟨⟨h.2.1,rfl,h.2.2⟩,f s h.1 h.2.1⟩
   ·exact⟨_,rfl,trivial⟩
  ·refine ao (Kh ht g2 (by decide) (by decide) j ?_ _) ?_
   ·exact JV w
   rintro(⟨s,x,y,z⟩ | e) h
   ·exact aq ⟨⟨h.2.1,h.2.2.1,h.2.2.2⟩,f s h.1 h.2.1⟩
   ·exact⟨_,rfl,trivial⟩
 ·rintro(⟨v1,L,M,v4,N,v6,O⟩ | e) h
  ·exact aq h
  ·exact⟨_,rfl,trivial⟩
end
theorem H5(t:QX):Ho (km t) (fun r=>Gn r.1.1 r.1.2.2.2.1 r.1.2.2.2.2):=by
 have key:Ho (j3 t) (Nm fun r=>Gn r.1.1 r.1.2.2.2.1 r.1.2.2.2.2):=by
  refine aJ (fun _=>⟨_,rfl,trivial⟩) fun hl=>?_
  have f:(t.length:Int)≤4096:=by simpa using hl
  refine ao (L4 (by omega)) ?_;rintro(⟨v1,j,q,v4,u,v6,v⟩ | e) h
  ·exact aq h
  ·exact⟨_,rfl,trivial⟩
 obtain⟨r,e,h⟩:=key;refine⟨py r,by unfold km;rw[e];rfl,?_⟩;cases r with
 | inl x=>exact h
 | inr e=>exact⟨Nat.zero_le _,rfl,fun _ h=>(by cases h),Nat.zero_le _,fun _ h=>(by cases h)⟩
end Go.Proofs.YtbedjpdfkmfplaaGreatDoor.T
