import Derived.Test.YtobbjfkfmdiklaaGreatDoorTv50um
import Derived.Test.YtobbjfkfmdiklaaGreatDoorTvYm
namespace Go.Proofs.YtobbjfkfmdiklaaGreatDoor.T
open Go Go.Tv Go.Proofs
open Go.IntKind (i64 u32 u64)
def Dp:Nat→Tree→Prop
 | 0,_=>False
 | n+1,.node _ _ f=>f.length≤1000000∧∀k∈f,Dp n k
theorem Dp.mono:∀ {n m:Nat} {t:Tree},n≤m→Dp n t→Dp m t
 | 0,_,_,_,h=>h.elim
 | n+1,0,_,hl,_=>absurd hl (by omega)
 | n+1,m+1,.node _ _ j,hl,h=>⟨h.1,fun k hk=>Dp.mono (by omega) (h.2 k hk)⟩
theorem tG:∀x:Tree,Tree.node x.op x.set x.kids=x
 | .node _ _ _=>rfl
theorem Dp.getD{n:Nat}{l:XZ}(h:∀x∈l,Dp n x){i:Nat}(hi:i<l.length)(d:Tree):Dp n (l.getD i d):=by
 rw[List.getD_eq_getElem?_getD,List.getElem?_eq_getElem hi];exact h _ (List.getElem_mem hi)
theorem dW{α:Type}{P:α→Prop}{l:List α}{x:α}(h:∀y∈l,P y)(f:P x):∀y∈l++[x],P y:=fun y j=>by
 rcases List.mem_append.1 j with q | q
 ·exact h y q
 ·rw[List.mem_singleton.1 q];exact f
abbrev K7:=QX→Int→Int→Int→Int→Int→QQ→QK→XJ→XX→Option (oB⊕(Int×Int))
section
variable{t:QX}(ht:t.length≤4096){p3 p4 p6:Int}{o1:QQ}{o2:QK}{o3:XJ}{o4:XX}
def Ex(t:QX)(n:Nat)(a p6:Int):oB⊕(Int×Int)→Prop:=Nm fun(e,p,_,f)=>a≤p∧At t p∧f=p6∧Dp n e
def Na(t:QX)(n:Nat)(a p6:Int):oB⊕(Int×Int)→Prop:=Nm fun(e,p,_,f)=>a<p∧At t p∧f=p6∧Dp n e
include ht
theorem F7{rec:K7}(D:0≤p6)(z:p6≤16){d:Nat}(f:p6+1≤16→∀a p5,At t a→Ho (rec t a p3 p4 p5 (p6+1) o1 o2 o3 o4) (Ex t d a (p6+1))){a:Int}(ha:At t a)(p5:Int):
  Ho (ee rec t a p3 p4 p5 p6 o1 o2 o3 o4) (Na t (d+1) a p6):=by
 refine ao (mA ht ha (by decide)) ?_;rintro(⟨b,p⟩ | e) h
 rotate_left
 ·exact⟨_,rfl,trivial⟩
 obtain⟨h1,h2,A⟩:=h;have B:i64.wrap (p6+1)=p6+1:=wrap_i64 (by omega) (by omega);refine aI (fun hb=>aI (fun _=>⟨_,rfl,trivial⟩) fun hd=>?_) (fun _=>aI (fun _=>⟨_,rfl,trivial⟩) fun _=>aU (by omega) ?_)
 ·rw[B]at hd ⊢;have j:p6+1≤16:=by simpa using hd
  refine ao (f j p _ h2) ?_;rintro(⟨e,q,E,I⟩ | e) h
  rotate_left
  ·exact⟨_,rfl,trivial⟩
  obtain⟨C,g2,rfl,g4⟩:=h;refine ao (pQ ht g2 (by decide)) ?_;rintro(r | e) h
  ·have:=A hb;dsimp only;rw[tG,wrap_i64 (by omega) (by omega)];exact aq ⟨by have:=h.1;(try simp only);omega,h.2,by(try simp only);omega,g4.mono (by omega)⟩
  ·exact⟨_,rfl,trivial⟩
 ·refine ao (mA ht h2 (by decide)) ?_;rintro(⟨b,q⟩ | e) h
  rotate_left
  ·exact⟨_,rfl,trivial⟩
  obtain⟨C,g2,g3⟩:=h;refine ao (P:=Nm fun(_,r)=>a<r∧At t r) ?_ ?_
  ·refine aI (fun hb=>aq ⟨by have:=g3 hb;omega,g2⟩) fun _=>?_
   refine ao (mA ht g2 (by decide)) ?_;rintro(⟨b,r⟩ | e) h
   rotate_left
   ·exact⟨_,rfl,trivial⟩
   obtain⟨J,v,L⟩:=h;refine aI (fun _=>?_) fun _=>?_
   ·refine ao (mA ht v (by decide)) ?_;rintro(⟨b,s⟩ | e) h
    rotate_left
    ·exact⟨_,rfl,trivial⟩
    refine ao (nt ht h.2.1 (by decide)) ?_;have M:=h.1;rintro(⟨x,u⟩ | e) h
    ·exact aI (fun _=>aq ⟨by have:=h.1;(try simp only at this ⊢);omega,h.2⟩) fun _=>aq ⟨by have:=h.1;(try simp only at this ⊢);omega,h.2⟩
    ·exact⟨_,rfl,trivial⟩
   ·refine ao (AI ht v) ?_;rintro(⟨x,u⟩ | e) h
    ·exact aq ⟨by have:=h.1;(try simp only at this ⊢);omega,h.2⟩
    ·exact⟨_,rfl,trivial⟩
  ·rintro(⟨x,r⟩ | e) h
   ·exact aq ⟨h.1,h.2,rfl,by decide,fun k hk=>by cases hk⟩
   ·exact⟨_,rfl,trivial⟩
theorem Ha{rec:K7}(z:0≤p6)(u:p6≤16){d:Nat}(j:p6+1≤16→∀a p5,At t a→Ho (rec t a p3 p4 p5 (p6+1) o1 o2 o3 o4) (Ex t d a (p6+1))){a:Int}(ha:At t a)(p5:Int):
  Ho (eA rec t a p3 p4 p5 p6 o1 o2 o3 o4) (Na t (d+2) a p6):=by
 refine ao (F7 ht z u j ha p5) ?_;rintro(⟨e,q,A,B⟩ | e) h
 rotate_left
 ·exact⟨_,rfl,trivial⟩
 obtain⟨C,g2,rfl,g4⟩:=h;have D:Dp (d+2) (Tree.node e.op e.set e.kids):=by rw[tG];exact g4.mono (by omega)
 refine ao (P:=Lp (fun p=>a<p∧At t p) (Lp (fun _=>True) fun(e,p,_,q)=>a<p∧At t p∧q=B∧Dp (d+2) e)) ?_ ?_
 ·refine bH (fun(p,v)=>a<p∧At t p∧0≤v∧v≤7) (fun(_,v)=>(7 - v).toNat) ⟨C,g2,by decide,by decide⟩ (fun(p,v) ⟨h1,h2,E,I⟩=>?_);refine aI (fun hl=>?_) fun _=>aq ⟨h1,h2⟩
  rw[dec_lt]at hl;refine aU ⟨E,hl⟩ (ao (P:=Nm fun(x,_)=>a<x∧At t x) ?_ ?_)
  ·refine aI (fun hc=>?_) fun _=>aq ⟨h1,h2⟩
   refine ao (mA ht h2 (by simpa using hc)) ?_;rintro(⟨b,r⟩ | e) h
   ·exact aq ⟨by have:=h.1;(try simp only at this ⊢);omega,h.2.1⟩
   ·exact⟨_,rfl,trivial⟩
  ·rintro(⟨x,b⟩ | J) h
   ·refine aI (fun _=>aq ⟨h.1,h.2,rfl,by simp,fun k hk=>?_⟩) fun _=>?_
    ·rw[List.mem_singleton.1 hk,tG];exact g4
    ·rw[wrap_i64 (by omega) (by omega)];exact aq ⟨⟨h.1,h.2,by omega,by omega⟩,by(try simp only);omega⟩
   ·exact⟨_,rfl,trivial⟩
 ·intro r f;match r,f with
  | .inl p,f=>exact aq ⟨f.1,f.2,rfl,D⟩
  | .inr (.inl (L,M)),_=>exact⟨_,rfl,trivial⟩
  | .inr (.inr (e,p,A,q)),f=>exact aq f
theorem Gx{rec:K7}(D:0≤p6)(z:p6≤16){d:Nat}(j:p6+1≤16→∀a p5,At t a→Ho (rec t a p3 p4 p5 (p6+1) o1 o2 o3 o4) (Ex t d a (p6+1))){a:Int}(ha:At t a)(p5:Int):
  Ho (dH rec t a p3 p4 p5 p6 o1 o2 o3 o4) (Ex t (d+3) a p6):=by
 refine ao (nJ ht ha) ?_;rintro(⟨c,p⟩ | e) h
 rotate_left
 ·exact⟨_,rfl,trivial⟩
 obtain⟨h1,h2,_⟩:=h;refine ao (P:=Nm fun(l,p,_,q)=>a≤p∧At t p∧q=p6∧l.length≤1000000∧∀x∈l,Dp (d+2) x) ?_ ?_
 ·refine bH (fun(p,_,q,l,_)=>a≤p∧At t p∧q=p6∧(l.length:Int)≤p∧∀x∈l,Dp (d+2) x) (fun(p,_)=>(t.length - p).toNat) ⟨h1,h2,rfl,h2.1,fun x E=>by cases E⟩
   (fun(p,p5,q,l,c) ⟨u,f,I,A,B⟩=>?_)
  subst I;refine ao (P:=fun _=>True) (ao (pP c) fun b _=>?_) fun v _=>aI (fun _=>?_) fun _=>aq ⟨u,f,rfl,by have:=f.2;omega,B⟩
  ·repeat' split
   all_goals exact aq trivial
  ·refine ao (Ha ht D z j f _) ?_;rintro(⟨e,r,J,M⟩ | e) h
   rotate_left
   ·exact⟨_,rfl,trivial⟩
   obtain⟨N,g2,rfl,g4⟩:=h;have:=f.2;refine aU (by simp only[List.length_singleton];omega) (ao (nJ ht g2) ?_);rintro(⟨c,s⟩ | e) h
   ·obtain⟨O,C,_⟩:=h;dsimp only;rw[tG];exact aq ⟨⟨by omega,C,rfl,by simp only[List.length_append,List.length_singleton];omega,dW B g4⟩,by have:=C.2;(try simp only);omega⟩
   ·exact⟨_,rfl,trivial⟩
 ·rintro(⟨l,p,J,q⟩ | e) h
  ·obtain⟨u,f,rfl,A⟩:=h;refine aI (fun _=>aq ⟨u,f,rfl,by decide,fun k hk=>by cases hk⟩) fun _=>aI (fun hl=>?_) fun _=>aq ⟨u,f,rfl,A⟩
   have L:(l.length:Int)=1:=by simpa using hl
   refine aU (by omega) (aU (by simp only[Int.toNat_zero];omega) ?_);rw[tG];exact aq ⟨u,f,rfl,(Dp.getD A.2 (by simp only[Int.toNat_zero];omega) _).mono (by omega)⟩
  ·exact⟨_,rfl,trivial⟩
theorem sO:∀(n:Nat) {p6:Int},0≤p6→p6≤16→17 - p6≤n→∀a p5,At t a→Ho (bO n t a p3 p4 p5 p6 o1 o2 o3 o4) (Ex t (4*(17 - p6).toNat) a p6)
 | 0,p6,_,h,h2,_,_,_=>by omega
 | n+1,p6,B,u,hn,a,p5,ha=>by
  obtain⟨d,hd⟩:∃d:Nat,17 - p6=((d+1:Nat):Int):=⟨(16 - p6).toNat,by omega⟩;have f:p6+1≤16→∀a p5,At t a→Ho (bO n t a p3 p4 p5 (p6+1) o1 o2 o3 o4) (Ex t (4*d) a (p6+1)):=fun hl a p5 ha=>by have:=sO n (p6:=p6+1) (by omega) hl (by omega) a p5 ha;rwa [show(17 - (p6+1)).toNat=d by omega]at this
  rw[hd,Int.toNat_natCast];refine ao (Gx ht B u f ha p5) ?_;rintro(⟨e,p,C,v⟩ | e) h
  rotate_left
  ·exact⟨_,rfl,trivial⟩
  obtain⟨h1,h2,rfl,I⟩:=h;refine ao (P:=Nm fun(l,p,_,q)=>a≤p∧At t p∧q=v∧l.length≤1000000∧∀x∈l,Dp (4*d+3) x) ?_ ?_
  ·refine bH (fun(p,_,q,l)=>a≤p∧At t p∧q=v∧(l.length:Int)≤p+1∧∀x∈l,Dp (4*d+3) x) (fun(p,_)=>(t.length - p).toNat)
    ⟨h1,h2,rfl,by have:=h2.1;simp only[List.length_singleton];omega,fun x J=>by rw[List.mem_singleton.1 J,tG];exact I⟩ (fun(p,p5,q,l) ⟨z,j,L,A,D⟩=>?_)
   subst L;refine ao (mA ht j (by decide)) ?_;rintro(⟨b,r⟩ | e) h
   rotate_left
   ·exact⟨_,rfl,trivial⟩
   obtain⟨O,g2,g3⟩:=h;refine aI (fun hb=>?_) fun _=>aq ⟨by(try simp only);omega,g2,rfl,by have:=j.2;omega,D⟩
   have g3:=g3 hb;refine ao (Gx ht B u f g2 _) ?_;rintro(⟨e,s,C,v⟩ | e) h
   rotate_left
   ·exact⟨_,rfl,trivial⟩
   obtain⟨V,E,rfl,M⟩:=h;have:=j.2;dsimp only;rw[tG];exact aU (by simp only[List.length_singleton];omega) (aq ⟨⟨by omega,E,rfl,by simp only[List.length_append,List.length_singleton];omega,dW D M⟩,by have:=E.2;(try simp only);omega⟩)
  ·rintro(⟨l,p,C,q⟩ | e) h
   ·obtain⟨z,j,rfl,A⟩:=h;refine aI (fun hl=>?_) fun _=>aq ⟨z,j,rfl,A⟩
    have N:(l.length:Int)=1:=by simpa using hl
    refine aU (by omega) (aU (by simp only[Int.toNat_zero];omega) ?_);rw[tG];exact aq ⟨z,j,rfl,(Dp.getD A.2 (by simp only[Int.toNat_zero];omega) _).mono (by omega)⟩
   ·exact⟨_,rfl,trivial⟩
end
theorem Jg(w:QX):0≤(bg .str (cF .str (cF .str (cF .str ([]:XX) ([107,101,101,112]:QX) (0:Int)) ([109,97,121]:QX) (1:Int)) ([109,117,115,116]:QX) (2:Int)) w).getD 0 ∧
  (bg .str (cF .str (cF .str (cF .str ([]:XX) ([107,101,101,112]:QX) (0:Int)) ([109,97,121]:QX) (1:Int)) ([109,117,115,116]:QX) (2:Int)) w).getD 0≤2:=by
 have e:cF .str (cF .str (cF .str ([]:XX) ([107,101,101,112]:QX) (0:Int)) ([109,97,121]:QX) (1:Int)) ([109,117,115,116]:QX) (2:Int)=[([107,101,101,112],0),([109,97,121],1),([109,117,115,116],2)]:=by kernel_rfl
 rw[e];simp only[bg]
 repeat' split
 all_goals decide
structure Eh(cl:QQ)(tr:QK)(ru:XJ):Prop where
 Kl:cl.length≤24
 tl:tr.length=cl.length
 tc:∀c∈tr,0≤c∧c<(cl.length:Int)
 rl:ru.length≤24
 rk:∀x∈ru,(0≤x.1∧x.1≤2)∧Dp 100 x.2.1∧Dp 100 x.2.2
section
variable{t:QX}(ht:t.length≤4096){p3 p4 p5 p6 a:Int}{o1:QQ}{o2:QK}{o3:XJ}{o4:XX}
include ht
theorem I9(ha:At t a)(v:0≤p6)(f:p6≤16)(hp:Eh o1 o2 o3){HJ:Int}(hd:0≤HJ∧HJ≤2)(q:Int):
  Ho (eR HJ q t a p3 p4 p5 p6 o1 o2 o3 o4) (Nm fun(p,u,_,x)=>a<p∧At t p∧x=p6∧Eh o1 o2 u):=by
 have j:4*(17 - p6).toNat≤100:=by omega
 refine aI (fun _=>⟨_,rfl,trivial⟩) fun hl=>?_
 have z:(o3.length:Int)<24:=by simpa using hl
 refine ao (sO ht 1000 v f (by omega) a _ ha) ?_;rintro(⟨e,p,I,x⟩ | e) h
 rotate_left
 ·exact⟨_,rfl,trivial⟩
 obtain⟨h1,h2,rfl,A⟩:=h;refine ao (pQ ht h2 (by decide)) ?_;rintro(r | e) h
 rotate_left
 ·exact⟨_,rfl,trivial⟩
 obtain⟨J,B⟩:=h;refine ao (sO ht 1000 v f (by omega) r _ B) ?_;rintro(⟨L,M,C,D⟩ | e) h
 rotate_left
 ·exact⟨_,rfl,trivial⟩
 obtain⟨N,g2,rfl,g4⟩:=h;refine ao (pQ ht g2 (by decide)) ?_;rintro(s | e) h
 ·obtain⟨O,E⟩:=h;dsimp only;rw[tG,tG];exact aU (by simp only[List.length_singleton];omega) (aq ⟨by(try simp only);omega,E,rfl,hp.Kl,hp.tl,hp.tc,by simp only[List.length_append,List.length_singleton];omega,dW hp.rk ⟨hd,A.mono j,g4.mono j⟩⟩)
 ·exact⟨_,rfl,trivial⟩
theorem Gp(ha:At t a)(hp:Eh o1 o2 o3):
  Ho (eC t a p3 p4 p5 p6 o1 o2 o3 o4) (Nm fun(p,f,j,_)=>a<p∧At t p∧Eh f j o3):=by
 refine ao (P:=Nm fun(p,f,j,_)=>a<p∧At t p∧Eh f j o3) ?_ ?_
 ·refine bH (fun(p,c,r,_)=>a≤p∧At t p∧Eh c r o3) (fun(p,_)=>(t.length - p).toNat) ⟨Int.le_refl _,ha,hp⟩ (fun(p,c,r,m) ⟨h1,h2,u⟩=>?_);refine ao (mA ht h2 (by decide)) ?_;rintro(⟨b,q⟩ | e) h
  rotate_left
  ·exact⟨_,rfl,trivial⟩
  obtain⟨D,v,A⟩:=h;refine aI (fun _=>?_) fun hb=>aq ⟨by have:=A (by simpa using hb);(try simp only);omega,v,u⟩
  refine ao (nJ ht v) ?_;rintro(⟨x,E⟩ | e) h
  rotate_left
  ·exact⟨_,rfl,trivial⟩
  obtain⟨I,g2,_⟩:=h;refine ao (BI ht g2) ?_;rintro(⟨w,s⟩ | e) h
  rotate_left
  ·exact⟨_,rfl,trivial⟩
  obtain⟨J,z⟩:=h;refine aI (fun _=>⟨_,rfl,trivial⟩) fun hl=>?_
  have B:(c.length:Int)<24:=by simpa using hl
  have:=u.tl;refine aU (by omega) (aU (by simp only[List.length_singleton];omega) (aU (by simp only[List.length_singleton];omega) (aq ⟨⟨by omega,z,?_⟩,by have:=z.2;have:=h2.2;(try simp only);omega⟩)));refine⟨by simp only[List.length_append,List.length_singleton];omega,by simp[this],dW (fun y C=>?_) ?_,u.rl,u.rk⟩
  ·have:=u.tc y C;simp only[List.length_append,List.length_singleton];omega
  ·simp only[List.length_append,List.length_singleton];omega
 ·rintro(⟨p,c,r,m⟩ | e) h
  ·exact aq h
  ·exact⟨_,rfl,trivial⟩
theorem J3(ha:At t a):Ho (fh t a p3 p4 p5 p6 o1 o2 o3 o4) (Nm fun(p,_)=>a<p∧At t p):=by
 refine ao (BI ht ha) ?_;rintro(⟨w,p⟩ | e) h
 rotate_left
 ·exact⟨_,rfl,trivial⟩
 have h1:=h.1;refine ao (pQ ht h.2 (by decide)) ?_;rintro(q | e) h
 rotate_left
 ·exact⟨_,rfl,trivial⟩
 have h2:=h.1;refine ao (nt ht h.2 (by decide)) ?_;rintro(⟨x,r⟩ | e) h
 ·exact aq ⟨by have:=h.1;(try simp only at this h1 ⊢);omega,h.2⟩
 ·exact⟨_,rfl,trivial⟩
theorem JB(ha:At t a):Ho (eS t a p3 p4 p5 p6 o1 o2 o3 o4) (Nm fun(p,_)=>a<p∧At t p):=by
 refine ao (nt ht ha (by decide)) ?_;rintro(⟨w,p⟩ | e) h
 rotate_left
 ·exact⟨_,rfl,trivial⟩
 have h1:=h.1;refine ao (nt ht h.2 (by decide)) ?_;rintro(⟨x,r⟩ | e) h
 ·exact aq ⟨by have:=h.1;(try simp only at this h1 ⊢);omega,h.2⟩
 ·exact⟨_,rfl,trivial⟩
theorem Gv(ha:At t a)(hp:Eh o1 o2 o3):Ho (ez t a p3 p4 p5 p6 o1 o2 o3 o4) (Nm fun(p,f)=>a<p∧At t p∧Eh o1 f o3):=by
 refine ao (HN ht ha hp.Kl) ?_;rintro(⟨i,p⟩ | e) h
 rotate_left
 ·exact⟨_,rfl,trivial⟩
 obtain⟨h1,h2,v,x⟩:=h;refine ao (pQ ht h2 (by decide)) ?_;rintro(q | e) h
 rotate_left
 ·exact⟨_,rfl,trivial⟩
 obtain⟨z,u⟩:=h;refine ao (HN ht u hp.Kl) ?_;rintro(⟨j,r⟩ | e) h
 rotate_left
 ·exact⟨_,rfl,trivial⟩
 obtain⟨A,g2,g3,g4⟩:=h;have:=hp.tl;refine aU (by omega) (aU (by omega) (ao (pQ ht g2 (by decide)) ?_));rintro(s | e) h
 ·refine aq ⟨by have:=h.1;(try simp only);omega,h.2,hp.Kl,by simp[this],fun c hc=>?_,hp.rl,hp.rk⟩;rcases List.mem_or_eq_of_mem_set hc with q | q
  ·exact hp.tc c q
  ·rw[q];exact⟨g3,g4⟩
 ·exact⟨_,rfl,trivial⟩
theorem K0:Ho (gJ t 0 0 0 0 0 []) (Nm fun(_,o1,_,_,o2,o3,_)=>Eh o1 o2 o3):=by
 refine ao (P:=Nm fun(_,o1,_,_,o2,o3,_)=>Eh o1 o2 o3) ?_ ?_
 ·refine bH (fun(p,o1,_,_,o2,o3,_,_,u)=>At t p∧u=0∧Eh o1 o2 o3) (fun(p,_)=>(t.length - p).toNat) ⟨⟨by decide,by omega⟩,rfl,⟨by decide,rfl,fun _ h=>(by cases h),by decide,fun _ h=>(by cases h)⟩⟩
   (fun(p,o1,p3,p4,o2,o3,o4,p5,u) ⟨h1,h2,j⟩=>?_)
  subst h2;refine ao (nJ ht h1) ?_;rintro(⟨c,q⟩ | e) h
  rotate_left
  ·exact⟨_,rfl,trivial⟩
  obtain⟨D,v,_⟩:=h;refine aI (fun _=>?_) fun _=>aq j
  refine ao (uR ht v) ?_;rintro(⟨w,A,r⟩ | e) h
  rotate_left
  ·exact⟨_,rfl,trivial⟩
  obtain⟨B,g2⟩:=h;have f:∀s:Int,r<s→At t s→(t.length - s).toNat<(t.length - p).toNat:=fun s E ⟨_,C⟩=>by(try simp only at B);omega
  refine aI (fun _=>?_) fun _=>aI (fun _=>?_) fun _=>aI (fun _=>?_) fun _=>aI (fun _=>?_) fun _=>aI (fun _=>?_) fun _=>⟨_,rfl,trivial⟩
  ·refine ao (Gp ht g2 j) ?_;rintro(⟨s,x⟩ | e) h
   ·exact aq ⟨⟨h.2.1,rfl,h.2.2⟩,f s h.1 h.2.1⟩
   ·exact⟨_,rfl,trivial⟩
  ·refine ao (J3 ht g2) ?_;rintro(⟨s,x⟩ | e) h
   ·exact aq ⟨⟨h.2,rfl,j⟩,f s h.1 h.2⟩
   ·exact⟨_,rfl,trivial⟩
  ·refine ao (JB ht g2) ?_;rintro(⟨s,x⟩ | e) h
   ·exact aq ⟨⟨h.2,rfl,j⟩,f s h.1 h.2⟩
   ·exact⟨_,rfl,trivial⟩
  ·refine ao (Gv ht g2 j) ?_;rintro(⟨s,x⟩ | e) h
   ·exact aq ⟨⟨h.2.1,rfl,h.2.2⟩,f s h.1 h.2.1⟩
   ·exact⟨_,rfl,trivial⟩
  ·refine ao (I9 ht g2 (by decide) (by decide) j ?_ _) ?_
   ·exact Jg w
   rintro(⟨s,x,y,z⟩ | e) h
   ·exact aq ⟨⟨h.2.1,h.2.2.1,h.2.2.2⟩,f s h.1 h.2.1⟩
   ·exact⟨_,rfl,trivial⟩
 ·rintro(⟨v1,I,J,v4,L,v6,M⟩ | e) h
  ·exact aq h
  ·exact⟨_,rfl,trivial⟩
end
theorem G6(t:QX):Ho (j9 t) (fun r=>Eh r.1.1 r.1.2.2.2.1 r.1.2.2.2.2):=by
 have key:Ho (jQ t) (Nm fun r=>Eh r.1.1 r.1.2.2.2.1 r.1.2.2.2.2):=by
  refine aI (fun _=>⟨_,rfl,trivial⟩) fun hl=>?_
  have f:(t.length:Int)≤4096:=by simpa using hl
  refine ao (K0 (by omega)) ?_;rintro(⟨v1,j,p,v4,q,v6,u⟩ | e) h
  ·exact aq h
  ·exact⟨_,rfl,trivial⟩
 obtain⟨r,e,h⟩:=key;refine⟨oC r,by unfold j9;rw[e];rfl,?_⟩;cases r with
 | inl x=>exact h
 | inr e=>exact⟨Nat.zero_le _,rfl,fun _ h=>(by cases h),Nat.zero_le _,fun _ h=>(by cases h)⟩
end Go.Proofs.YtobbjfkfmdiklaaGreatDoor.T
namespace Go.Tv
open Go
open Go.IntKind (i64 u32 u64)
def Ll(x:Int):Prop:=0≤x∧x<18446744073709551616
def F2(x:Int):Prop:=0≤x∧x<4294967296
theorem KG{x y:Int}(f:Ll x)(j:Ll y):bitsOf .or .u64 x y=((x.toNat ||| y.toNat:Nat):Int):=by
 have e:(2:Int) ^ 64=18446744073709551616:=by decide
 have q:(2:Nat) ^ 64=18446744073709551616:=by decide
 obtain⟨h1,h2⟩:=f;obtain⟨p,u⟩:=j;show u64.wrap ((BitVec.ofInt u64.bits x ||| BitVec.ofInt u64.bits y).toNat:Int)=_;rw[BitVec.toNat_or,eF h1 (by show x<(2:Int) ^ 64;omega),eF p (by show y<(2:Int) ^ 64;omega)];have:=Nat.or_lt_two_pow (x:=x.toNat) (y:=y.toNat) (n:=64) (by omega) (by omega);rw[wrap_u64 (by omega) (by omega)]
theorem H7{x y:Int}(f:F2 x)(j:F2 y):bitsOf .or .u32 x y=((x.toNat ||| y.toNat:Nat):Int):=by
 have e:(2:Int) ^ 32=4294967296:=by decide
 have q:(2:Nat) ^ 32=4294967296:=by decide
 obtain⟨h1,h2⟩:=f;obtain⟨p,u⟩:=j;show u32.wrap ((BitVec.ofInt u32.bits x ||| BitVec.ofInt u32.bits y).toNat:Int)=_;rw[BitVec.toNat_or,eF h1 (by show x<(2:Int) ^ 32;omega),eF p (by show y<(2:Int) ^ 32;omega)];have:=Nat.or_lt_two_pow (x:=x.toNat) (y:=y.toNat) (n:=32) (by omega) (by omega);rw[wrap_u32 (by omega) (by omega)]
theorem Eu{x y:Int}(f:F2 x)(j:F2 y):bitsOf .and .u32 x y=((x.toNat &&& y.toNat:Nat):Int):=by
 have e:(2:Int) ^ 32=4294967296:=by decide
 have q:(2:Nat) ^ 32=4294967296:=by decide
 obtain⟨h1,h2⟩:=f;obtain⟨p,u⟩:=j;show u32.wrap ((BitVec.ofInt u32.bits x &&& BitVec.ofInt u32.bits y).toNat:Int)=_;rw[BitVec.toNat_and,eF h1 (by show x<(2:Int) ^ 32;omega),eF p (by show y<(2:Int) ^ 32;omega)];have:=Nat.and_lt_two_pow x.toNat (show y.toNat<2 ^ 32 by omega);rw[wrap_u32 (by omega) (by omega)]
theorem Ll.or{x y:Int}(f:Ll x)(j:Ll y):Ll (bitsOf .or .u64 x y):=by
 rw[KG f j];have p:(2:Nat) ^ 64=18446744073709551616:=by decide
 obtain⟨h1,h2⟩:=f;obtain⟨q,u⟩:=j;have:=Nat.or_lt_two_pow (x:=x.toNat) (y:=y.toNat) (n:=64) (by omega) (by omega);exact⟨by omega,by omega⟩
theorem F2.or{x y:Int}(f:F2 x)(j:F2 y):F2 (bitsOf .or .u32 x y):=by
 rw[H7 f j];have p:(2:Nat) ^ 32=4294967296:=by decide
 obtain⟨h1,h2⟩:=f;obtain⟨q,u⟩:=j;have:=Nat.or_lt_two_pow (x:=x.toNat) (y:=y.toNat) (n:=32) (by omega) (by omega);exact⟨by omega,by omega⟩
theorem Jd{k:Nat}(hk:k<32):u32.wrap ((1:Int)*2 ^ (min k u32.bits))=((2 ^ k:Nat):Int):=by
 have hb:u32.bits=32:=rfl;have f:(2:Nat) ^ 32=4294967296:=by decide
 have:=Nat.pow_lt_pow_right (a:=2) (by decide) hk;rw[hb,Nat.min_eq_left (by omega),Int.one_mul];have h2:(2:Int) ^ k=((2 ^ k:Nat):Int):=by push_cast;rfl
 rw[h2];generalize 2 ^ k=m at this;rw[wrap_u32 (by omega) (by omega)]
end Go.Tv
namespace Go.Proofs.YtobbjfkfmdiklaaGreatDoor.T
open Go Go.Tv Go.Proofs
open Go.IntKind (i64 u32 u64)
theorem bU{i:Int}(j:0≤i)(h:i≤1000000000):i64.wrap (i+1)=i+1:=wrap_i64 (by omega) (by omega)
theorem mem_set{α:Type}{K:Ty}{k:K.den}{x:α}{p:K.den×α}:∀ {f:List (K.den×α)},p∈cF K f k x→p=(k,x)∨p∈f
 | [],h=> .inl (List.mem_singleton.1 h)
 | q::r,h=>by
  simp only[cF]at h;split at h
  ·rcases List.mem_cons.1 h with e | e
   ·exact .inl e
   ·exact .inr (.tail _ e)
  ·rcases List.mem_cons.1 h with e | e
   ·exact .inr (e ▸ .head _)
   ·rcases mem_set e with e | e
    ·exact .inl e
    ·exact .inr (.tail _ e)
theorem rZ{α:Type}{K:Ty}{k:K.den}{x:α}:∀ {j:List (K.den×α)},bg K j k=some x→∃f,(f,x)∈j
 | [],h=>by cases h
 | q::r,h=>by
  simp only[bg]at h;split at h
  ·cases h;exact⟨q.1,.head _⟩
  ·obtain⟨f,h'⟩:=rZ h;exact⟨f,.tail _ h'⟩
theorem xb(a b c d e f g h:Int):Ho (cU a b c d e f g h) (fun _=>True):=by
 refine ao (P:=fun _=>True) (bH (fun s=>0≤s.2.2.2.2∧s.2.2.2.2≤4) (fun s=>(4 - s.2.2.2.2).toNat) ⟨Int.le_refl _,(by decide:(0:Int)≤4)⟩ fun(a,b,c,d,i) ⟨h1,h2⟩=>?_) fun r _=>aq trivial
 refine aI (fun hl=>?_) fun _=>aq trivial
 rw[dec_lt]at hl;simp only at h1 h2;refine aU ⟨h1,hl⟩ (aU ⟨h1,hl⟩ (aU ⟨h1,hl⟩ ?_));rw[bU h1 (by omega)];exact aq ⟨⟨by(try simp only);omega,by(try simp only);omega⟩,by(try simp only);omega⟩
theorem HC{i:Int}(f:0≤i)(h:i<256):(0≤i64.wrap (Int.tdiv i 64)∧i64.wrap (Int.tdiv i 64)<((4:Nat):Int))∧0≤Int.tmod i 64:=by
 rw[Int.tdiv_eq_ediv_of_nonneg f,Int.tmod_eq_emod_of_nonneg f,wrap_i64 (by omega) (by omega)];omega
theorem Ji{i:Int}(f:0≤i)(h:i<256)(j:Bool)(p q u v x z A B:Int):Ho (iv i j p q u v x z A B) (fun _=>True):=by
 obtain⟨h1,h2⟩:=HC f h;exact aU (by decide) (aU h1 (aU (by decide) (aU h2 (aU h1 (aq trivial)))))
theorem I6{i:Int}(f:0≤i)(h:i<256)(j p q u:Int):Ho (ir i j p q u) (fun _=>True):=by
 obtain⟨h1,h2⟩:=HC f h;exact aU (by decide) (aU h1 (aU (by decide) (aU h2 (aU h1 (aq trivial)))))
theorem CS{i:Int}(f:0≤i)(h:i<256)(j p q u:Int):Ho (gO j p q u i) (fun _=>True):=by
 obtain⟨h1,h2⟩:=HC f h;exact aU (by decide) (aU h1 (aU (by decide) (aU h2 (aq trivial))))
theorem Ii(a b c d e f g h:Int):Ho (nR a b c d e f g h) (fun _=>True):=by
 refine ao (P:=fun _=>True) (bH (fun i=>0≤i∧i≤4) (fun i=>(4 - i).toNat) ⟨by decide,by decide⟩ fun i ⟨h1,h2⟩=>?_) ?_
 ·refine aI (fun hl=>?_) fun _=>aq trivial
  rw[dec_lt]at hl;refine aU ⟨h1,hl⟩ (aU ⟨h1,hl⟩ (aI (fun _=>aq trivial) fun _=>?_));rw[bU h1 (by omega)];exact aq ⟨⟨by omega,by omega⟩,by omega⟩
 ·rintro(_ | r) _
  ·exact aq trivial
  ·exact aq trivial
theorem Et(a b c d e f g h:Int)(m:Bool)(o1:QK){o2:Qj}(hl:o2.length≤200):Ho (dT a b c d e f g h m o1 o2) (fun r=>r.length=o2.length):=by
 refine ao (P:=fun r=>r.length=o2.length) (bH (fun(m,i)=>m.length=o2.length∧0≤i∧i≤(o2.length:Int)) (fun(_,i)=>(o2.length - i).toNat) ⟨rfl,by decide,by omega⟩ fun(m,i) ⟨h1,h2,u⟩=>?_) fun r q=>aq q
 refine aI (fun hl=>?_) fun _=>aq h1
 rw[dec_lt]at hl;refine ao (CS h2 (by omega) _ _ _ _) fun x _=>ao (P:=fun p=>p.length=o2.length) ?_ fun p j=>?_
 ·refine aI (fun _=>aU (by omega) (aU (by omega) (ao (xb _ _ _ _ _ _ _ _) fun r _=>aU (by omega) (aU (by omega) (aq ?_))))) fun _=>aq h1
  rw[List.length_set];exact h1
 ·rw[bU h2 (by omega)];exact aq ⟨⟨j,by omega,by omega⟩,by(try simp only);omega⟩
def Pl(o1:QK)(o2:Qj):Prop:=o2.length=o1.length∧o1.length≤200
theorem JJ:∀(n:Nat) (x:Tree),Dp n x→∀(B:Bool) {o1:QK} {o2:Qj},Pl o1 o2→Ho (dS n x.op x.set x.kids B o1 o2) (fun r=>Pl r.2.1 r.2.2.1)
 | 0,_,h,_,_,_,_=>h.elim
 | n+1,.node o s j,h,B,o1,o2,hp=>by
  obtain⟨hk,D⟩:=h;have f:=fun(i:Nat) (hi:i<j.length) (B:Bool) {o1:QK} {o2:Qj} (hp:Pl o1 o2)=>JJ n _ (Dp.getD D hi (Tree.node 0 0 [])) B hp
  simp only[dS,Tree.op,Tree.set,Tree.kids];unfold fJ;refine aI (fun _=>aI (fun _=>aq hp) fun hl=>?_) fun _=>aI (fun _=>?_) fun _=>aI (fun _=>?_) fun _=>?_
  ·have E:(o1.length:Int)<200:=by simpa using hl
   have h1:=hp.1;refine ao (Ji (by omega) (by omega) _ _ _ _ _ _ _ _ _) fun r _=>aU (by simp only[List.length_singleton];omega) (aU (by simp only[List.length_singleton];omega) (aq ⟨?_,?_⟩))
   ·simp only[List.length_append,List.length_singleton];omega
   ·simp only[List.length_append,List.length_singleton];omega
  ·refine ao (P:=fun r=>Pl r.2.2.2.2.2.2.2.2.2.1 r.2.2.2.2.2.2.2.2.2.2.1) (bH (fun(p,u,_,_,_,_,_,_,_,_,_,_,i)=>Pl p u∧0≤i∧i≤(j.length:Int)) (fun(_,_,_,_,_,_,_,_,_,_,_,_,i)=>((j.length:Int) - i).toNat) ⟨hp,Int.le_refl _,by simp⟩ fun(p,u,s3,s4,s5,s6,s7,s8,s9,I,J,L,i) ⟨h1,h2,h3⟩=>?_) fun r f=>aq f
   refine aI (fun hl=>?_) fun _=>aq h1
   rw[dec_lt]at hl;refine aU ⟨h2,hl⟩ (ao (f i.toNat (by omega) _ h1) fun(N,C,M,O) f=>ao (Et _ _ _ _ _ _ _ _ _ _ (by have h1:M.length=C.length:=f.1;have h2:C.length≤200:=f.2;omega)) fun q v=>ao (P:=fun _=>True) ?_ fun _ _=>ao (P:=fun _=>True) ?_ fun _ _=>ao (P:=fun _=>True) ?_ fun _ _=>?_)
   ·exact aI (fun _=>ao (xb _ _ _ _ _ _ _ _) fun _ _=>aq trivial) fun _=>aq trivial
   ·exact aI (fun _=>ao (xb _ _ _ _ _ _ _ _) fun _ _=>aq trivial) fun _=>aq trivial
   ·exact aI (fun _=>aq trivial) fun _=>aq trivial
   ·rw[bU h2 (by omega)];exact aq ⟨⟨⟨v.trans f.1,f.2⟩,by(try simp only);omega,by(try simp only);omega⟩,by(try simp only);omega⟩
  ·refine ao (P:=fun r=>Pl r.2.2.2.2.2.2.2.2.2.1 r.2.2.2.2.2.2.2.2.2.2.1) (bH (fun(p,u,_,_,_,_,_,_,_,_,_,_,i)=>Pl p u∧0≤i∧i≤(j.length:Int)) (fun(_,_,_,_,_,_,_,_,_,_,_,_,i)=>((j.length:Int) - i).toNat) ⟨hp,Int.le_refl _,by simp⟩ fun(p,u,s3,s4,s5,s6,s7,s8,s9,I,J,L,i) ⟨h1,h2,h3⟩=>?_) fun r f=>aq f
   refine aI (fun hl=>?_) fun _=>aq h1
   rw[dec_lt]at hl;refine aU ⟨h2,hl⟩ (ao (f i.toNat (by omega) _ h1) fun(N,C,M,O) f=>ao (P:=fun _=>True) ?_ fun _ _=>?_)
   ·refine aI (fun _=>?_) fun _=>?_
    all_goals exact ao (xb _ _ _ _ _ _ _ _) fun _ _=>ao (xb _ _ _ _ _ _ _ _) fun _ _=>aq trivial
   ·rw[bU h2 (by omega)];exact aq ⟨⟨f,by(try simp only);omega,by(try simp only);omega⟩,by(try simp only);omega⟩
  ·refine ao (P:=fun _=>True) ?_ fun b _=>aI (fun _=>?_) fun _=>aq hp
   ·repeat' split
    all_goals exact aq trivial
   ·refine ao (P:=fun r=>Pl r.1 r.2.1) ?_ fun(z,A,a6,V,X,Y,Z,a1,a2,a3,a4,a5) f=>ao (P:=fun r=>r.length=A.length) ?_ fun q v=>ao (P:=fun _=>True) ?_ fun _ _=>aq ⟨v.trans f.1,f.2⟩
    ·refine aI (fun hl=>?_) fun _=>aq hp
     have E:0<(j.length:Int):=by simpa using hl
     exact aU (by omega) (ao (f (0:Int).toNat (by simp only[Int.toNat_zero];omega) _ hp) fun(N,C,M,O) f=>aq f)
    ·refine aI (fun _=>ao (Et _ _ _ _ _ _ _ _ _ _ ?_) fun q v=>aq v) fun _=>aq rfl
     have h1:A.length=z.length:=f.1;have h2:z.length≤200:=f.2;omega
    ·exact aI (fun _=>aq trivial) fun _=>aq trivial
structure WB(nx:QZ)(ou:QK)(k m:Nat):Prop where
 len:∀r∈nx,r.length=k
 val:∀r∈nx,∀x∈r,0≤x∧x<(nx.length:Int)
 ol:ou.length=nx.length
 ob:∀x∈ou,0≤x∧x<((2 ^ m:Nat):Int)
theorem LY{x y:Int}{m:Nat}(hm:m≤24)(f:0≤x∧x<((2 ^ m:Nat):Int))(j:0≤y∧y<((2 ^ m:Nat):Int)):0≤bitsOf .or .u32 x y∧bitsOf .or .u32 x y<((2 ^ m:Nat):Int):=by
 have p:2 ^ m≤2 ^ 24:=Nat.pow_le_pow_right (by decide) hm;have h1:F2 x:=⟨f.1,by have:=f.2;omega⟩;have h2:F2 y:=⟨j.1,by have:=j.2;omega⟩;rw[H7 h1 h2];have:=Nat.or_lt_two_pow (n:=m) (x:=x.toNat) (y:=y.toNat) (by have:=f.1;have:=f.2;omega) (by have:=j.1;have:=j.2;omega);omega
theorem Kg{k m:Nat}(hm:m≤24)(hk:k<m):0≤u32.wrap (1*2 ^ (min k u32.bits))∧u32.wrap (1*2 ^ (min k u32.bits))<((2 ^ m:Nat):Int):=by
 rw[Jd (by omega)];exact⟨Int.natCast_nonneg _,Int.ofNat_lt.2 (Nat.pow_lt_pow_right (by decide) hk)⟩
theorem D9{α:Type}{P:α→Prop}{l:List α}{i:Nat}{x:α}(h:∀y∈l,P y)(f:P x):∀y∈l.set i x,P y:=fun y j=>by
 rcases List.mem_or_eq_of_mem_set j with q | q
 ·exact h y q
 ·rw[q];exact f
theorem tN{l:XZ}(hl:∀x∈l,Dp 100 x)(n:Nat):Ho (ng l (n:Int)) (fun r=>r.2=0→(0<r.1.1.length∧r.1.1.length≤300)∧WB r.1.1 r.1.2 n l.length):=by
 refine ao (P:=fun b=>b=true∨(n≤24∧l.length≤24)) ?_ fun b hb=>aI (fun _=>aq fun h=>by cases h) fun X=>?_
 ·refine aI (fun _=>aq (.inl rfl)) fun _=>aI (fun _=>aq (.inl rfl)) fun h1=>aq ?_
  by_cases h2:(l.length:Int) > 24
  ·exact .inl (by simpa using h2)
  ·exact .inr ⟨by simp only[decide_eq_true_eq]at h1;omega,by omega⟩
 obtain⟨hn,hm⟩:=hb.resolve_left X;refine ao (P:=fun(s,f,full,A)=>Pl s f∧A.length=l.length) (bH (fun(s,f,_,A,i)=>Pl s f∧0≤i∧i≤(l.length:Int)∧(A.length:Int)=i) (fun(_,_,_,_,i)=>((l.length:Int) - i).toNat) ⟨⟨rfl,by decide⟩,Int.le_refl _,by omega,rfl⟩ fun(s,f,b,A,i) ⟨h1,h2,Y,h4⟩=>?_) ?_
 ·refine aI (fun hi=>?_) fun hi=>aq ⟨h1,by rw[dec_lt]at hi;omega⟩
  rw[dec_lt]at hi;refine aU ⟨h2,hi⟩ (ao (JJ 1000 _ ((Dp.getD hl (by omega) (Tree.node 0 0 [])).mono (by omega)) b h1) fun(r,s',f',b') B=>aU (by simp only[List.length_singleton];omega) ?_);rw[bU h2 (by omega)];exact aq ⟨⟨B,by omega,by omega,by simp only[List.length_append,List.length_singleton];omega⟩,by(try simp only);omega⟩
 rintro⟨s,f,full,A⟩ ⟨hp,a6⟩;refine aI (fun _=>aq fun h=>by cases h) fun _=>?_
 refine ao (P:=fun _=>True) (bH (fun(_,_,_,_,i)=>0≤i∧i≤(A.length:Int)) (fun(_,_,_,_,i)=>((A.length:Int) - i).toNat) ⟨Int.le_refl _,by omega⟩ fun(a,b,c,d,i) ⟨h1,h2⟩=>?_) ?_
 ·refine aI (fun hi=>?_) fun _=>aq trivial
  rw[dec_lt]at hi;refine aU ⟨h1,hi⟩ (aU (by omega) (ao (xb _ _ _ _ _ _ _ _) fun r _=>?_));rw[bU h1 (by omega)];exact aq ⟨⟨by omega,by omega⟩,by(try simp only);omega⟩
 rintro⟨m1,m2,m3,m4⟩ _;refine ao (P:=Lp (fun(nx,ou)=>(0<nx.length∧nx.length≤300)∧WB nx ou n l.length) fun e=>e.2≠0) ?_ ?_
 rotate_left
 ·rintro(⟨nx,ou⟩ | ⟨e,c⟩) h
  ·exact aq fun _=>h
  ·exact aq fun hc=>absurd hc h
 refine bH (fun(nx,ou,st,mp,i)=>0≤i∧i≤(st.length:Int)∧(0<st.length∧st.length≤300)∧(nx.length:Int)=i∧ou.length=nx.length∧(∀r∈nx,r.length=n∧∀x∈r,0≤x∧x<(st.length:Int))∧(∀x∈ou,0≤x∧x<((2 ^ l.length:Nat):Int))∧∀p∈mp,0≤p.2∧p.2<(st.length:Int))
  (fun(_,_,_,_,i)=>(300 - i).toNat) ⟨Int.le_refl _,by decide,⟨by decide,by decide⟩,rfl,rfl,fun _ h=>(by cases h),fun _ h=>(by cases h),fun p hp=>(by rcases mem_set hp with e | e;exact(by rw[e];exact⟨Int.le_refl _,(by decide:(0:Int)<1)⟩);cases e)⟩ fun(nx,ou,st,mp,i) ⟨h1,h2,Y,h4,h5,I,h7,h8⟩=>?_
 refine aI (fun hi=>?_) fun hi=>?_
 rotate_left
 ·rw[dec_lt]at hi;have e:nx.length=st.length:=by omega
  exact aq ⟨by rw[e];exact Y,fun r B=>(I r B).1,fun r B=>by rw[e];exact(I r B).2,h5,h7⟩
 rw[dec_lt]at hi;refine aU ⟨h1,hi⟩ (aU (by omega) (ao (P:=fun _=>True) (bH (fun(_,_,_,_,j)=>0≤j∧j≤(f.length:Int)) (fun(_,_,_,_,j)=>((f.length:Int) - j).toNat) ⟨Int.le_refl _,by omega⟩ fun(a,b,c,d,j) ⟨z,k2⟩=>?_) fun(a1,a2,a3,a4) _ =>
  ao (P:=fun x=>0≤x∧x<((2 ^ l.length:Nat):Int)) (bH (fun(x,j)=>0≤j∧j≤(A.length:Int)∧0≤x∧x<((2 ^ l.length:Nat):Int)) (fun(_,j)=>((A.length:Int) - j).toNat) ⟨Int.le_refl _,by omega,Int.le_refl _,by have:=Nat.two_pow_pos l.length;omega⟩ fun(x,j) ⟨z,k2,J⟩=>?_) fun x D=>aU ⟨by omega,Int.le_refl _,by omega,by omega⟩ ?_))
 ·have a7:f.length≤200:=by have:=hp.1;have:=hp.2;omega
  refine aI (fun C=>?_) fun _=>aq trivial
  rw[dec_lt]at C;refine ao (CS z (by omega) _ _ _ _) fun b _=>ao (P:=fun _=>True) (aI (fun _=>aU ⟨z,C⟩ (aU (by omega) (ao (xb _ _ _ _ _ _ _ _) fun r _=>aq trivial))) fun _=>aq trivial) fun(q1,q2,q3,q4) _=>?_
  rw[bU z (by omega)];exact aq ⟨⟨by omega,by omega⟩,by(try simp only);omega⟩
 ·refine aI (fun C=>?_) fun _=>aq J
  rw[dec_lt]at C;refine aU ⟨z,C⟩ (aU (by omega) (ao (P:=fun _=>True) (aI (fun _=>aq trivial) fun _=>ao (Ii _ _ _ _ _ _ _ _) fun r _=>aq trivial) fun b _=>ao (P:=fun y=>0≤y∧y<((2 ^ l.length:Nat):Int)) (aI (fun _=>aU z (aq (LY hm J (Kg hm (by omega))))) fun _=>aq J) fun y M=>?_));rw[bU z (by omega)];exact aq ⟨⟨by omega,by omega,M⟩,by(try simp only);omega⟩
 ·-- class by class
  refine ao (P:=Lp (fun(q,u,row)=>st.length≤q.length∧q.length≤300∧(row.length=n∧∀x∈row,0≤x∧x<(q.length:Int))∧∀p∈u,0≤p.2∧p.2<(q.length:Int)) fun e=>e.2≠0) ?_ ?_
  rotate_left
  ·rintro(⟨q,u,row⟩ | ⟨e,c⟩) h
   ·obtain⟨g1,g2,g3,g4⟩:=h;have Z:∀x:Int,x<(st.length:Int)→x<(q.length:Int):=fun x D=>by omega
    refine aU (by simp only[List.length_singleton];omega) (aU (by simp only[List.length_singleton];omega) ?_);rw[bU h1 (by omega)];exact aq ⟨⟨by omega,by omega,⟨by omega,g2⟩,by simp only[List.length_append,List.length_singleton];omega,by simp only[List.length_append,List.length_singleton];omega,dW (fun r B=>⟨(I r B).1,fun x D=>⟨((I r B).2 x D).1,Z x ((I r B).2 x D).2⟩⟩) g3,dW h7 D,g4⟩,by(try simp only);omega⟩
   ·exact aq h
  refine bH (fun(q,u,row,c)=>0≤c∧c≤(n:Int)∧st.length≤q.length∧q.length≤300∧(row.length=n∧∀x∈row,0≤x∧x<(q.length:Int))∧∀p∈u,0≤p.2∧p.2<(q.length:Int)) (fun(_,_,_,c)=>((n:Int) - c).toNat)
   ⟨Int.le_refl _,by omega,Nat.le_refl _,Y.2,⟨by simp,fun x D=>by rw[List.eq_of_mem_replicate D];omega⟩,h8⟩ fun(q,u,row,c) ⟨z,k2,J,k4,E,N⟩=>?_
  refine aI (fun hc=>?_) fun _=>aq ⟨J,k4,E,N⟩
  rw[dec_lt]at hc;refine ao (P:=fun _=>True) (bH (fun(_,_,_,_,j)=>0≤j∧j≤(s.length:Int)) (fun(_,_,_,_,j)=>((s.length:Int) - j).toNat) ⟨Int.le_refl _,by omega⟩ fun(b1,b2,b3,b4,j) ⟨O,f2⟩=>?_) fun(t1,t2,t3,t4) _=>?_
  ·have a8:=hp.2;refine aI (fun C=>?_) fun _=>aq trivial
   rw[dec_lt]at C;refine aU ⟨O,C⟩ (aU (by omega) (ao (P:=fun _=>True) (ao (CS O (by omega) _ _ _ _) fun b _=>aI (fun _=>aU z (aq trivial)) fun _=>aq trivial) fun b _=>ao (P:=fun _=>True) (aI (fun _=>ao (I6 O (by omega) _ _ _ _) fun(q1,q2,q3,q4) _=>aq trivial) fun _=>aq trivial) fun(q1,q2,q3,q4) _=>?_));rw[bU O (by omega)];exact aq ⟨⟨by omega,by omega⟩,by(try simp only);omega⟩
  ·refine ao (P:=Lp (fun(v,L,x)=>q.length≤v.length∧v.length≤300∧(0≤x∧x<(v.length:Int))∧∀p∈L,0≤p.2∧p.2<(v.length:Int)) fun e=>e.2≠0) ?_ ?_
   ·refine aI (fun _=>aI (fun _=>aq (show(27:Int)≠0 by decide)) fun V=>aU (by simp only[List.length_singleton];omega) (aq ⟨by simp,?_,?_,fun p hp=>?_⟩)) fun V=>aq ⟨Nat.le_refl _,k4,?_,N⟩
    ·simp only[decide_eq_true_eq]at V;simp only[List.length_append,List.length_singleton];omega
    ·simp only[List.length_append,List.length_singleton];omega
    ·simp only[List.length_append,List.length_singleton];rcases mem_set hp with e | e
     ·rw[e];simp only;omega
     ·have:=N p e;omega
    ·cases hf:bg ma u (t1,t2,t3,t4)with
     | none=>rw[hf]at V;exact absurd rfl V
     | some x =>
      obtain⟨k',a5⟩:=rZ hf;exact N _ a5
   ·rintro(⟨v,L,x⟩ | ⟨e,c⟩) h
    ·obtain⟨g1,g2,g3,g4⟩:=h;refine aU (by have:=E.1;omega) (aU (by have:=E.1;omega) ?_);rw[bU z (by omega)];exact aq ⟨⟨by omega,by omega,by omega,g2,⟨by rw[List.length_set];exact E.1,D9 (fun y M=>⟨(E.2 y M).1,by have:=(E.2 y M).2;omega⟩) g3⟩,g4⟩,by(try simp only);omega⟩
    ·exact aq h
end Go.Proofs.YtobbjfkfmdiklaaGreatDoor.T
