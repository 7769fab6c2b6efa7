/- What expressions say, and automata of their places. -/
import Derived.Test.YtacpjjgochokcaaDoorTvYm
namespace Go.Tv
open Go
abbrev Wd:=List Int
def w5(s c:Int):Prop:=0≤c∧c<32∧bt s c.toNat=true
inductive Star(A:Wd→Prop):Wd→Prop where
 | nil:Star A []
 | app {u v:Wd}:A u→Star A v→Star A (u++v)
def Cat(A B:Wd→Prop)(w:Wd):Prop:=∃u v,w=u++v∧A u∧B v
def Plus(A:Wd→Prop):Wd→Prop:=Cat A (Star A)
mutual
def Lg:Tree→Wd→Prop
 | .node o s ks,w=>if o=1 then ∃c,w=[c]∧w5 s c else if o=2 then w9 ks w else if o=3 then P0 ks w
  else if o=4 then Star (R0 ks) w else if o=5 then Plus (R0 ks) w else if o=6 then w=[]∨R0 ks w else w=[]
def w9:List Tree→Wd→Prop
 | [],w=>w=[]
 | k::ks,w=>∃u v,w=u++v∧Lg k u∧w9 ks v
def P0:List Tree→Wd→Prop
 | [],_=>False
 | k::ks,w=>Lg k w∨P0 ks w
def R0:List Tree→Wd→Prop
 | [],_=>False
 | k::_,w=>Lg k w
end
/-! ### Places -/
def Rn(F:Nat→Nat→Prop)(lab:Nat→Int→Prop):Nat→Wd→Nat→Prop
 | _,[],_=>False
 | p,c::w,q=>lab p c∧((w=[]∧p=q)∨∃p',F p p'∧Rn F lab p' w q)
section
variable{F F1 F2:Nat→Nat→Prop}{lab:Nat→Int→Prop}
theorem Rn.mono(hF:∀p q,F1 p q→F p q):∀ {w:Wd} {p q:Nat},Rn F1 lab p w q→Rn F lab p w q
 | [],_,_,h=>h
 | c::w,p,q,h=>by
  obtain⟨h1,h2⟩:=h
  refine⟨h1,h2.imp id ?_⟩
  rintro⟨p',h3,h4⟩
  exact⟨p',hF _ _ h3,h4.mono hF⟩
theorem Rn.ne{p q:Nat}{w:Wd}(h:Rn F lab p w q):w≠[]:=by
 rintro rfl;exact h
theorem Rn.inv{I:Nat→Prop}(hF:∀p q,I p→F p q→I q):∀ {w:Wd} {p q:Nat},I p→Rn F lab p w q→I q
 | [],_,_,_,h=>h.elim
 | c::w,p,q,hp,h=>by
  rcases h.2 with⟨_,rfl⟩ | ⟨p',h3,h4⟩
  ·exact hp
  ·exact Rn.inv hF (hF _ _ hp h3) h4
theorem Rn.in(hF:∀p q,F p q→(p=p∧F1 p q)){w:Wd}{p q:Nat}(h:Rn F lab p w q):Rn F1 lab p w q:=h.mono fun p q h=>(hF p q h).2
theorem Rn.on{I:Nat→Prop}(hI:∀p q,I p→F p q→I q∧F1 p q):∀ {w:Wd} {p q:Nat},I p→Rn F lab p w q→Rn F1 lab p w q
 | [],_,_,_,h=>h.elim
 | c::w,p,q,hp,h=>by
  refine⟨h.1,h.2.imp id ?_⟩
  rintro⟨p',h3,h4⟩
  obtain⟨h5,h6⟩:=hI _ _ hp h3
  exact⟨p',h6,Rn.on hI h5 h4⟩
theorem Rn.app:∀ {u v:Wd} {p l p' q:Nat},Rn F lab p u l→F l p'→Rn F lab p' v q→Rn F lab p (u++v) q
 | [],_,_,_,_,_,h,_,_=>h.elim
 | c::u,v,p,l,p',q,h,he,hv=>by
  refine⟨h.1,.inr ?_⟩
  rcases h.2 with⟨rfl,rfl⟩ | ⟨r,h3,h4⟩
  ·exact⟨p',he,hv⟩
  ·exact⟨r,h3,Rn.app h4 he hv⟩
theorem Rn.snoc:∀ {u:Wd} {p q:Nat} {c:Int},Rn F lab p (u++[c]) q↔(u=[]∧p=q∧lab q c)∨∃r,Rn F lab p u r∧F r q∧lab q c
 | [],p,q,c=>by
  simp only[List.nil_append,Rn,true_and,and_false,exists_false,or_false,false_and]
  exact⟨fun⟨h1,h2⟩=>h2 ▸ ⟨rfl,h1⟩,fun⟨h1,h2⟩=>h1 ▸ ⟨h1 ▸ h2,rfl⟩⟩
 | d::u,p,q,c=>by
  have ih:=fun p'=>Rn.snoc (u:=u) (p:=p') (q:=q) (c:=c)
  simp only[List.cons_append,Rn,List.append_eq_nil_iff,List.cons_ne_nil,and_false,false_and,false_or,ih,reduceCtorEq]
  constructor
  ·rintro⟨h1,p',h2,⟨rfl,rfl,h3⟩ | ⟨r,h3,h4,h5⟩⟩
   ·exact⟨p,⟨h1,.inl ⟨rfl,rfl⟩⟩,h2,h3⟩
   ·exact⟨r,⟨h1,.inr ⟨p',h2,h3⟩⟩,h4,h5⟩
  ·rintro⟨r,⟨h1,⟨rfl,rfl⟩ | ⟨p',h2,h3⟩⟩,h4,h5⟩
   ·exact⟨h1,q,h4,.inl ⟨rfl,rfl,h5⟩⟩
   ·exact⟨h1,p',h2,.inr ⟨r,h3,h4,h5⟩⟩
end
structure Gl(lab:Nat→Int→Prop)(F:Nat→Nat→Prop)(nu:Prop)(Fi La:Nat→Prop)(a b:Nat)(A:Wd→Prop):Prop where
 fi:∀p,Fi p→a≤p∧p<b
 la:∀p,La p→a≤p∧p<b
 ff:∀p q,F p q→(a≤p∧p<b)∧a≤q∧q<b
 nl:nu↔A []
 wd:∀w,w≠[]→(A w↔∃p q,Fi p∧La q∧Rn F lab p w q)
section
variable{lab:Nat→Int→Prop}{F F1 F2:Nat→Nat→Prop}{nu nu1 nu2:Prop}{Fi La Fi1 La1 Fi2 La2:Nat→Prop}{a b c:Nat}{A A1 A2:Wd→Prop}
theorem Gl.congr(h:Gl lab F1 nu1 Fi1 La1 a b A1)(hF:∀p q,F p q↔F1 p q)(hn:nu↔nu1)(hf:∀p,Fi p↔Fi1 p)(hl:∀p,La p↔La1 p)(hA:∀w,A w↔A1 w):Gl lab F nu Fi La a b A:=by
 obtain rfl:F=F1:=funext fun p=>funext fun q=>propext (hF p q)
 obtain rfl:Fi=Fi1:=funext fun p=>propext (hf p)
 obtain rfl:La=La1:=funext fun p=>propext (hl p)
 obtain rfl:A=A1:=funext fun p=>propext (hA p)
 obtain rfl:nu=nu1:=propext hn
 exact h
theorem Gl.eps:Gl lab (fun _ _=>False) True (fun _=>False) (fun _=>False) a a (fun w=>w=[]) :=
 ⟨fun _ h=>h.elim,fun _ h=>h.elim,fun _ _ h=>h.elim,⟨fun _=>rfl,fun _=>trivial⟩,fun w hw=>⟨fun h=>(hw h).elim,fun⟨_,_,h,_⟩=>h.elim⟩⟩
theorem Gl.none:Gl lab (fun _ _=>False) False (fun _=>False) (fun _=>False) a a (fun _=>False) :=
 ⟨fun _ h=>h.elim,fun _ h=>h.elim,fun _ _ h=>h.elim,⟨fun h=>h,fun h=>h⟩,fun w hw=>⟨fun h=>h.elim,fun⟨_,_,h,_⟩=>h.elim⟩⟩
theorem Gl.set{s:Int}(hl:∀x,lab a x↔w5 s x):Gl lab (fun _ _=>False) False (fun p=>p=a) (fun p=>p=a) a (a+1) (fun w=>∃x,w=[x]∧w5 s x):=by
 refine⟨fun p h=>by omega,fun p h=>by omega,fun _ _ h=>h.elim,⟨fun h=>h.elim,fun⟨_,h,_⟩=>by cases h⟩,fun w hw=>⟨?_,?_⟩⟩
 ·rintro⟨x,rfl,hx⟩
  exact⟨a,a,rfl,rfl,(hl x).2 hx,.inl ⟨rfl,rfl⟩⟩
 ·rintro⟨p,q,rfl,rfl,h⟩
  cases w with
  | nil=>exact h.elim
  | cons x w =>
   rcases h.2 with⟨rfl,_⟩ | ⟨_,h,_⟩
   ·exact⟨x,rfl,(hl x).1 h.1⟩
   ·exact h.elim
theorem Gl.alt(h1:Gl lab F1 nu1 Fi1 La1 a b A1)(h2:Gl lab F2 nu2 Fi2 La2 b c A2)(hab:a≤b)(hbc:b≤c):
  Gl lab (fun p q=>F1 p q∨F2 p q) (nu1∨nu2) (fun p=>Fi1 p∨Fi2 p) (fun p=>La1 p∨La2 p) a c (fun w=>A1 w∨A2 w):=by
 refine⟨fun p h=> ?_,fun p h=> ?_,fun p q h=> ?_,or_congr h1.nl h2.nl,fun w hw=>⟨?_,?_⟩⟩
 ·rcases h with h | h
  ·have:=h1.fi p h;omega
  ·have:=h2.fi p h;omega
 ·rcases h with h | h
  ·have:=h1.la p h;omega
  ·have:=h2.la p h;omega
 ·rcases h with h | h
  ·have:=h1.ff p q h;omega
  ·have:=h2.ff p q h;omega
 ·rintro(h | h)
  ·obtain⟨p,q,k1,k2,k3⟩:=(h1.wd w hw).1 h
   exact⟨p,q,.inl k1,.inl k2,k3.mono fun _ _ h=> .inl h⟩
  ·obtain⟨p,q,k1,k2,k3⟩:=(h2.wd w hw).1 h
   exact⟨p,q,.inr k1,.inr k2,k3.mono fun _ _ h=> .inr h⟩
 ·rintro⟨p,q,hp | hp,hq,h⟩
  ·have e1:=h1.fi p hp
   have hr:=h.on (I:=fun p=>a≤p∧p<b) (F1:=F1) (fun p q hi he=>by
    rcases he with he | he
    ·exact⟨(h1.ff p q he).2,he⟩
    ·have:=h2.ff p q he;omega) e1
   have e2:=hr.inv (I:=fun p=>a≤p∧p<b) (fun p q _ he=>(h1.ff p q he).2) e1
   rcases hq with hq | hq
   ·exact .inl ((h1.wd w hw).2 ⟨p,q,hp,hq,hr⟩)
   ·have:=h2.la q hq;omega
  ·have e1:=h2.fi p hp
   have hr:=h.on (I:=fun p=>b≤p∧p<c) (F1:=F2) (fun p q hi he=>by
    rcases he with he | he
    ·have:=h1.ff p q he;omega
    ·exact⟨(h2.ff p q he).2,he⟩) e1
   have e2:=hr.inv (I:=fun p=>b≤p∧p<c) (fun p q _ he=>(h2.ff p q he).2) e1
   rcases hq with hq | hq
   ·have:=h1.la q hq;omega
   ·exact .inr ((h2.wd w hw).2 ⟨p,q,hp,hq,hr⟩)
theorem Gl.seq(h1:Gl lab F1 nu1 Fi1 La1 a b A1)(h2:Gl lab F2 nu2 Fi2 La2 b c A2)(hab:a≤b)(hbc:b≤c):
  Gl lab (fun p q=>F1 p q∨F2 p q∨La1 p∧Fi2 q) (nu1∧nu2) (fun p=>Fi1 p∨nu1∧Fi2 p) (fun p=>La2 p∨nu2∧La1 p) a c (Cat A1 A2):=by
 refine⟨fun p h=> ?_,fun p h=> ?_,fun p q h=> ?_,?_,fun w hw=>⟨?_,?_⟩⟩
 ·rcases h with h | h
  ·have:=h1.fi p h;omega
  ·have:=h2.fi p h.2;omega
 ·rcases h with h | h
  ·have:=h2.la p h;omega
  ·have:=h1.la p h.2;omega
 ·rcases h with h | h | h
  ·have:=h1.ff p q h;omega
  ·have:=h2.ff p q h;omega
  ·have:=h1.la p h.1
   have:=h2.fi q h.2
   omega
 ·rw[h1.nl,h2.nl]
  exact⟨fun⟨x,y⟩=>⟨[],[],rfl,x,y⟩,fun⟨u,v,e,x,y⟩=>by
   obtain⟨rfl,rfl⟩:=List.append_eq_nil_iff.1 e.symm
   exact⟨x,y⟩⟩
 ·rintro⟨u,v,rfl,hu,hv⟩
  by_cases eu:u=[]
  ·subst eu
   have hv0:v≠[]:=hw
   obtain⟨p,q,k1,k2,k3⟩:=(h2.wd v hv0).1 hv
   exact⟨p,q,.inr ⟨h1.nl.2 hu,k1⟩,.inl k2,k3.mono fun _ _ h=> .inr (.inl h)⟩
  ·obtain⟨p,q,k1,k2,k3⟩:=(h1.wd u eu).1 hu
   by_cases ev:v=[]
   ·subst ev
    rw[List.append_nil]
    exact⟨p,q,.inl k1,.inr ⟨h2.nl.2 hv,k2⟩,k3.mono fun _ _ h=> .inl h⟩
   ·obtain⟨p',q',l1,l2,l3⟩:=(h2.wd v ev).1 hv
    exact⟨p,q',.inl k1,.inl l2,(k3.mono fun _ _ h=> .inl h).app (.inr (.inr ⟨k2,l1⟩)) (l3.mono fun _ _ h=> .inr (.inl h))⟩
 ·have right:∀ {w:Wd} {p q:Nat},(b≤p∧p<c)→Rn (fun p q=>F1 p q∨F2 p q∨La1 p∧Fi2 q) lab p w q→Rn F2 lab p w q∧b≤q∧q<c:=fun {w p q} hp h=>by
   have hr:=h.on (I:=fun p=>b≤p∧p<c) (F1:=F2) (fun p q hi he=>by
    rcases he with he | he | he
    ·have:=h1.ff p q he;omega
    ·exact⟨(h2.ff p q he).2,he⟩
    ·have:=h1.la p he.1;omega) hp
   exact⟨hr,hr.inv (I:=fun p=>b≤p∧p<c) (fun p q _ he=>(h2.ff p q he).2) hp⟩
  have split:∀ {w:Wd} {p q:Nat},(a≤p∧p<b)→Rn (fun p q=>F1 p q∨F2 p q∨La1 p∧Fi2 q) lab p w q →
    (Rn F1 lab p w q∧a≤q∧q<b)∨∃u v l p',w=u++v∧Rn F1 lab p u l∧La1 l∧Fi2 p'∧Rn F2 lab p' v q∧b≤q∧q<c:=by
   intro w
   induction w with
   | nil=>exact fun _ h=>h.elim
   | cons x w ih =>
    intro p q hp h
    rcases h.2 with⟨rfl,rfl⟩ | ⟨p',he,hr⟩
    ·exact .inl ⟨⟨h.1,.inl ⟨rfl,rfl⟩⟩,hp⟩
    ·rcases he with he | he | he
     ·rcases ih (h1.ff p p' he).2 hr with⟨k1,k2⟩ | ⟨u,v,l,p2,rfl,k1,k2⟩
      ·exact .inl ⟨⟨h.1,.inr ⟨p',he,k1⟩⟩,k2⟩
      ·exact .inr ⟨x::u,v,l,p2,rfl,⟨h.1,.inr ⟨p',he,k1⟩⟩,k2⟩
     ·have:=h2.ff p p' he;omega
     ·obtain⟨k1,k2⟩:=right (h2.fi p' he.2) hr
      exact .inr ⟨[x],w,p,p',rfl,⟨h.1,.inl ⟨rfl,rfl⟩⟩,he.1,he.2,k1,k2⟩
  rintro⟨p,q,hp | hp,hq,h⟩
  ·rcases split (h1.fi p hp) h with⟨k1,k2⟩ | ⟨u,v,l,p',rfl,k1,k2,k3,k4,k5⟩
   ·rcases hq with hq | hq
    ·have:=h2.la q hq;omega
    ·exact⟨w,[],by simp,(h1.wd w hw).2 ⟨p,q,hp,hq.2,k1⟩,h2.nl.1 hq.1⟩
   ·rcases hq with hq | hq
    ·exact⟨u,v,rfl,(h1.wd u k1.ne).2 ⟨p,l,hp,k2,k1⟩,(h2.wd v k4.ne).2 ⟨p',q,k3,hq,k4⟩⟩
    ·have:=h1.la q hq.2;omega
  ·obtain⟨k1,k2⟩:=right (h2.fi p hp.2) h
   rcases hq with hq | hq
   ·exact⟨[],w,rfl,h1.nl.1 hp.1,(h2.wd w hw).2 ⟨p,q,hp.2,hq,k1⟩⟩
   ·have:=h1.la q hq.2;omega
theorem Star.one{u:Wd}(h:A u):Star A u:=by have:=Star.app h Star.nil;rwa [List.append_nil]at this
theorem Star.append{u v:Wd}(h:Star A u)(k:Star A v):Star A (u++v):=by
 induction h with
 | nil=>exact k
 | app h _ ih=>rw[List.append_assoc];exact .app h ih
theorem Star.split{w:Wd}(h:Star A w):w≠[]→∃u v,w=u++v∧u≠[]∧A u∧Star A v:=by
 induction h with
 | nil=>exact fun h=>(h rfl).elim
 | @app u v hu hv ih =>
  intro hw
  by_cases e:u=[]
  ·subst e;exact ih hw
  ·exact⟨u,v,rfl,e,hu,hv⟩
theorem vC{w:Wd}(hw:w≠[]):Plus A w↔Star A w:=by
 constructor
 ·rintro⟨u,v,rfl,hu,hv⟩;exact .app hu hv
 ·intro h
  obtain⟨u,v,rfl,_,hu,hv⟩:=h.split hw
  exact⟨u,v,rfl,hu,hv⟩
theorem Gl.star0(h:Gl lab F nu Fi La a b A){w:Wd}(hw:w≠[]):Star A w↔∃p q,Fi p∧La q∧Rn (fun p q=>F p q∨La p∧Fi q) lab p w q:=by
 constructor
 ·intro hs
  suffices hh:∀n (w:Wd),w.length≤n→w≠[]→Star A w→∃p q,Fi p∧La q∧Rn (fun p q=>F p q∨La p∧Fi q) lab p w q from hh w.length w (Nat.le_refl _) hw hs
  intro n
  induction n with
  | zero=>exact fun w hl hw=>(hw (List.eq_nil_of_length_eq_zero (by omega))).elim
  | succ n ih =>
   intro w hl hw hs
   obtain⟨u,v,rfl,hu,hA,hv⟩:=hs.split hw
   obtain⟨p,q,k1,k2,k3⟩:=(h.wd u hu).1 hA
   have k3':Rn (fun p q=>F p q∨La p∧Fi q) lab p u q:=k3.mono fun _ _ h=> .inl h
   by_cases ev:v=[]
   ·subst ev;rw[List.append_nil];exact⟨p,q,k1,k2,k3'⟩
   ·have:0<u.length:=List.length_pos_iff.2 hu
    obtain⟨p',q',l1,l2,l3⟩:=ih v (by simp only[List.length_append]at hl;omega) ev hv
    exact⟨p,q',k1,l2,k3'.app (.inr ⟨k2,l1⟩) l3⟩
 ·have split:∀ {w:Wd} {p q:Nat},Rn (fun p q=>F p q∨La p∧Fi q) lab p w q →
    Rn F lab p w q∨∃u v l p',w=u++v∧Rn F lab p u l∧La l∧Fi p'∧Rn (fun p q=>F p q∨La p∧Fi q) lab p' v q:=by
   intro w
   induction w with
   | nil=>exact fun h=>h.elim
   | cons x w ih =>
    intro p q h
    rcases h.2 with⟨rfl,rfl⟩ | ⟨p',he,hr⟩
    ·exact .inl ⟨h.1,.inl ⟨rfl,rfl⟩⟩
    ·rcases he with he | he
     ·rcases ih hr with k1 | ⟨u,v,l,p2,rfl,k1,k2⟩
      ·exact .inl ⟨h.1,.inr ⟨p',he,k1⟩⟩
      ·exact .inr ⟨x::u,v,l,p2,rfl,⟨h.1,.inr ⟨p',he,k1⟩⟩,k2⟩
     ·exact .inr ⟨[x],w,p,p',rfl,⟨h.1,.inl ⟨rfl,rfl⟩⟩,he.1,he.2,hr⟩
  suffices hh:∀n (w:Wd),w.length≤n→∀p q,Fi p→La q→Rn (fun p q=>F p q∨La p∧Fi q) lab p w q→Star A w from fun⟨p,q,hp,hq,hr⟩=>hh w.length w (Nat.le_refl _) p q hp hq hr
  intro n
  induction n with
  | zero=>exact fun w hl p q _ _ hr=>(hr.ne (List.eq_nil_of_length_eq_zero (by omega))).elim
  | succ n ih =>
   intro w hl p q hp hq hr
   rcases split hr with k1 | ⟨u,v,l,p',rfl,k1,k2,k3,k4⟩
   ·exact .one ((h.wd w hr.ne).2 ⟨p,q,hp,hq,k1⟩)
   ·have:0<u.length:=List.length_pos_iff.2 k1.ne
    exact .app ((h.wd u k1.ne).2 ⟨p,l,hp,k2,k1⟩) (ih v (by simp only[List.length_append]at hl;omega) p' q k3 hq k4)
theorem Gl.star(h:Gl lab F nu Fi La a b A):Gl lab (fun p q=>F p q∨La p∧Fi q) True Fi La a b (Star A):=by
 refine⟨h.fi,h.la,fun p q hh=> ?_,⟨fun _=> .nil,fun _=>trivial⟩,fun w hw=>h.star0 hw⟩
 rcases hh with hh | hh
 ·exact h.ff p q hh
 ·exact⟨h.la p hh.1,h.fi q hh.2⟩
theorem Gl.plus(h:Gl lab F nu Fi La a b A):Gl lab (fun p q=>F p q∨La p∧Fi q) nu Fi La a b (Plus A):=by
 refine⟨h.fi,h.la,fun p q hh=> ?_,?_,fun w hw=>(vC hw).trans (h.star0 hw)⟩
 ·rcases hh with hh | hh
  ·exact h.ff p q hh
  ·exact⟨h.la p hh.1,h.fi q hh.2⟩
 ·rw[h.nl]
  refine⟨fun hA=>⟨[],[],rfl,hA,.nil⟩,?_⟩
  rintro⟨u,v,e,hu,_⟩
  obtain⟨rfl,rfl⟩:=List.append_eq_nil_iff.1 e.symm
  exact hu
theorem Gl.opt(h:Gl lab F nu Fi La a b A):Gl lab F True Fi La a b (fun w=>w=[]∨A w) :=
 ⟨h.fi,h.la,h.ff,⟨fun _=> .inl rfl,fun _=>trivial⟩,fun w hw=>⟨fun hh=>(h.wd w hw).1 (hh.resolve_left hw),fun hh=> .inr ((h.wd w hw).2 hh)⟩⟩
end
/-! ### All expressions together -/
def Sx(F:Nat→Nat→Prop)(lab:Nat→Int→Prop)(Fst:Nat→Prop)(w:Wd)(q:Nat):Prop:=∃k p,Fst p∧Rn F lab p (w.drop k) q
section
variable{lab:Nat→Int→Prop}{F F1:Nat→Nat→Prop}{Fst:Nat→Prop}
theorem Sx.nil{q:Nat}:¬Sx F lab Fst [] q:=by
 rintro⟨k,p,_,h⟩
 rw[List.drop_nil]at h
 exact h
theorem Sx.snoc{w:Wd}{c:Int}{q:Nat}:Sx F lab Fst (w++[c]) q↔lab q c∧(Fst q∨∃p,Sx F lab Fst w p∧F p q):=by
 constructor
 ·rintro⟨k,p,hp,hr⟩
  rcases Nat.lt_or_ge w.length k with hk | hk
  ·rw[List.drop_eq_nil_of_le (by simp;omega)]at hr
   exact hr.elim
  ·rw[List.drop_append_of_le_length hk,Rn.snoc]at hr
   rcases hr with⟨_,rfl,h⟩ | ⟨r,h1,h2,h3⟩
   ·exact⟨h,.inl hp⟩
   ·exact⟨h3,.inr ⟨r,⟨k,p,hp,h1⟩,h2⟩⟩
 ·rintro⟨hl,hf | ⟨p,⟨k,p0,hp0,hr⟩,he⟩⟩
  ·exact⟨w.length,q,hf,by rw[List.drop_append_of_le_length (Nat.le_refl _),Rn.snoc];exact .inl ⟨by simp,rfl,hl⟩⟩
  ·have hk:k≤w.length:=by
    rcases Nat.lt_or_ge w.length k with h | h
    ·rw[List.drop_eq_nil_of_le (by omega)]at hr;exact hr.elim
    ·exact h
   exact⟨k,p0,hp0,by rw[List.drop_append_of_le_length hk,Rn.snoc];exact .inr ⟨p,hr,he,hl⟩⟩
theorem Sx.ends{nu:Prop}{Fi La:Nat→Prop}{a b:Nat}{A:Wd→Prop}(h:Gl lab F1 nu Fi La a b A)(hF:∀p q,a≤p→p<b→(F p q↔F1 p q))(hB:∀p q,F p q→a≤q→q<b→a≤p∧p<b)
  (hf:∀p,a≤p→p<b→(Fst p↔Fi p)) (w:Wd):(nu∨∃q,Sx F lab Fst w q∧La q)↔∃k,k≤w.length∧A (w.drop k):=by
 have back:∀ {w:Wd} {p q:Nat},(a≤q∧q<b)→Rn F lab p w q→a≤p∧p<b:=by
  intro w
  induction w with
  | nil=>exact fun _ h=>h.elim
  | cons x w ih =>
   intro p q hq hr
   rcases hr.2 with⟨_,rfl⟩ | ⟨p',he,hr⟩
   ·exact hq
   ·have:=ih hq hr;exact hB p p' he this.1 this.2
 constructor
 ·rintro(hn | ⟨q,⟨k,p,hp,hr⟩,hq⟩)
  ·exact⟨w.length,Nat.le_refl _,by rw[List.drop_length];exact h.nl.1 hn⟩
  ·have hpr:=back (h.la q hq) hr
   have hk:k≤w.length:=by
    rcases Nat.lt_or_ge w.length k with h' | h'
    ·rw[List.drop_eq_nil_of_le (by omega)]at hr;exact hr.elim
    ·exact h'
   refine⟨k,hk,(h.wd _ hr.ne).2 ⟨p,q,(hf p hpr.1 hpr.2).1 hp,hq,hr.on (I:=fun p=>a≤p∧p<b) (fun p q hi he=> ?_) hpr⟩⟩
   have:=(hF p q hi.1 hi.2).1 he
   exact⟨(h.ff p q this).2,this⟩
 ·rintro⟨k,hk,hA⟩
  by_cases e:w.drop k=[]
  ·rw[e]at hA;exact .inl (h.nl.2 hA)
  ·obtain⟨p,q,hp,hq,hr⟩:=(h.wd _ e).1 hA
   have hpr:=h.fi p hp
   exact .inr ⟨q,⟨k,p,(hf p hpr.1 hpr.2).2 hp,hr.mono fun p q he=>(hF p q (h.ff p q he).1.1 (h.ff p q he).1.2).2 he⟩,hq⟩
end
end Go.Tv
