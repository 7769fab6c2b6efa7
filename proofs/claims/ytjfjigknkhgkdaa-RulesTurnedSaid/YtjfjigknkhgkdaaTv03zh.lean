/- The program's parser of rules says what the pieces say: expressions. -/
import Derived.Test.YtjfjigknkhgkdaaTv03zg
namespace Go.Proofs.Ytjfjigknkhgkdaa.T
open Go Go.Tv Go.Proofs
section
variable{t:List UInt8}
theorem aA4{d3 d4 o1 o2 o3 o4}{x:Tree}{pl deep p:Int}{k:Nat}(hk:k<4):aV t d3 d4 o1 o2 o3 o4 x pl deep (p,(k:Int))=some (.inl (p,((k+1:Nat):Int))):=by
 match k,hk with
 | 0,_=>rfl
 | 1,_=>rfl
 | 2,_=>rfl
 | 3,_=>rfl
theorem aAH{d3 d4 o1 o2 o3 o4}{x:Tree}{pl deep p:Int}:iter (aV t d3 d4 o1 o2 o3 o4 x pl deep) (p,0)=iter (aV t d3 d4 o1 o2 o3 o4 x pl deep) (p,4):=by
 have h:=fun(k:Nat) (hk:k<4)=>bR (aA4 (t:=t) (d3:=d3) (d4:=d4) (o1:=o1) (o2:=o2) (o3:=o3) (o4:=o4) (x:=x) (pl:=pl) (deep:=deep) (p:=p) hk)
 exact((h 0 (by decide)).trans (h 1 (by decide))).trans ((h 2 (by decide)).trans (h 3 (by decide)))
theorem rR(ts:Toks):gS ts = .inl (ts.hd,ts.pos)∨∃n,ts = .bad n:=by
 cases ts with
 | bad n=>exact Or.inr ⟨n,rfl⟩
 | _=>exact Or.inl rfl
variable(ht:t.length≤10000)
include ht
theorem aBe{rec E deep d3 d4 o1 o2 o3 o4}(hr:Rec t rec E deep d3 d4 o1 o2 o3 o4){ts:Toks}(hth:xG ts=true)(h:At t ts.pos ts){pl:Int}(hp0:0≤pl)(hp1:pl≤200):
  Ok (gX rec t ts.pos d3 d4 pl deep o1 o2 o3 o4) (lH E (dM o1.length) o4 pl ts) (RT t deep):=by
 unfold gX
 refine(aA7 ht hr hth h hp0 hp1).bind (fun e1 e2 he=>⟨rfl,by simp only[lH,he]⟩) ?_
 rintro⟨x,q,a3,a4⟩ ⟨x',r,b3⟩ hy ⟨m1,m2,m3,m4,m5,m6⟩
 dsimp only at m1 m2 m3 m4 m5 m6
 subst m1;subst m3;subst m4
 simp only[lH,hy]
 rw[aAH]
 have g4:([(0:Int),(0:Int),(0:Int),(0:Int),(42:Int),(43:Int),(63:Int)]:List Int).getD (4:Int).toNat 0=42:=rfl
 have g5:([(0:Int),(0:Int),(0:Int),(0:Int),(42:Int),(43:Int),(63:Int)]:List Int).getD (5:Int).toNat 0=43:=rfl
 have g6:([(0:Int),(0:Int),(0:Int),(0:Int),(42:Int),(43:Int),(63:Int)]:List Int).getD (6:Int).toNat 0=63:=rfl
 have s4:=fun(p:Int) (h:At t p r)=>lX ht (c:=42) (by decide) (by decide) h d3 d4 a3 a4 o1 o2 o3 o4
 have s5:=fun(p:Int) (h:At t p r)=>lX ht (c:=43) (by decide) (by decide) h d3 d4 a3 a4 o1 o2 o3 o4
 have s6:=fun(p:Int) (h:At t p r)=>lX ht (c:=63) (by decide) (by decide) h d3 d4 a3 a4 o1 o2 o3 o4
 have w4:IntKind.u8.wrap 4=4:=by decide
 have w5:IntKind.u8.wrap 5=5:=by decide
 have w6:IntKind.u8.wrap 6=6:=by decide
 have n4:bF 42 r = .inl (false,r)→∃q1,At t q1 r∧iter (aV t d3 d4 o1 o2 o3 o4 x a3 a4) (q,4)=iter (aV t d3 d4 o1 o2 o3 o4 x a3 a4) (q1,5):=fun hs=>by
  have s:=s4 q m2
  rw[hs]at s
  obtain⟨⟨b1,q1⟩,e1,e2,e3,e4⟩:=s
  dsimp only at e2 e3 e4
  subst e2
  refine⟨q1,e3,bR ?_⟩
  unfold aV
  simp only[g4]
  rw[show aJ 42 t _ d3 d4 a3 a4 o1 o2 o3 o4=_ from e1]
  rfl
 have n5:bF 43 r = .inl (false,r)→∀q,At t q r→∃q1,At t q1 r∧iter (aV t d3 d4 o1 o2 o3 o4 x a3 a4) (q,5)=iter (aV t d3 d4 o1 o2 o3 o4 x a3 a4) (q1,6):=fun hs q m2=>by
  have s:=s5 q m2
  rw[hs]at s
  obtain⟨⟨b1,q1⟩,e1,e2,e3,e4⟩:=s
  dsimp only at e2 e3 e4
  subst e2
  refine⟨q1,e3,bR ?_⟩
  unfold aV
  simp only[g5]
  rw[show aJ 43 t _ d3 d4 a3 a4 o1 o2 o3 o4=_ from e1]
  rfl
 have n6:bF 63 r = .inl (false,r)→∀q,At t q r→∃q1,At t q1 r∧iter (aV t d3 d4 o1 o2 o3 o4 x a3 a4) (q,6)=some (.inl q1):=fun hs q m2=>by
  have s:=s6 q m2
  rw[hs]at s
  obtain⟨⟨b1,q1⟩,e1,e2,e3,e4⟩:=s
  dsimp only at e2 e3 e4
  subst e2
  refine⟨q1,e3,?_⟩
  rw[bR (s':=(q1,7)) (by
   unfold aV
   simp only[g6]
   rw[show aJ 63 t _ d3 d4 a3 a4 o1 o2 o3 o4=_ from e1]
   rfl)]
  exact aX rfl
 have none3:bF 42 r = .inl (false,r)→bF 43 r = .inl (false,r)→bF 63 r = .inl (false,r)→Ok
   (((iter (aV t d3 d4 o1 o2 o3 o4 x a3 a4) (q,(4:Int))).bind fun(r65:((Int)⊕((Int×Int)⊕(Tree×Int×Int×Int))))=>match r65 with
   | .inl v14=>some (Sum.inl ((Tree.node x.op x.set x.kids),v14,a3,a4))
   | .inr (.inl (e51,e52))=>some (Sum.inr (e51,e52))
   | .inr (.inr ((r54,r55,r56,r57)))=>some (Sum.inl (r54,r55,r56,r57)))) (.inl (x,r,a3):TR) (RT t a4):=fun h1 h2 h3=>by
  obtain⟨q1,k1,k2⟩:=n4 h1
  obtain⟨q2,k3,k4⟩:=n5 h2 q1 k1
  obtain⟨q3,k5,k6⟩:=n6 h3 q2 k3
  rw[k2,k4,k6]
  exact⟨_,rfl,Tree.eta x,k5,rfl,rfl,m5,m6⟩
 cases r with
 | bad n =>
  rw[aX (r:= .inr (.inl (20,(n:Int)))) (by
   unfold aV
   simp only[g4]
   rw[show aJ 42 t _ d3 d4 a3 a4 o1 o2 o3 o4=_ from s4 q m2]
   rfl)]
  rfl
 | eof n=>exact none3 rfl rfl rfl
 | wd w n r1=>exact none3 rfl rfl rfl
 | sg d n r1 =>
  simp only[bF]at s4 s5 s6 none3 n4 n5 n6
  simp only[]
  by_cases h42:d=42
  ·rw[if_pos h42]at s4 ⊢
   obtain⟨⟨b1,q1⟩,e1,e2,e3,e4⟩:=s4 q m2
   dsimp only at e2 e3 e4
   subst e2
   rw[aX (r:= .inr (.inr (Tree.node 4 0 [x],q1,a3,a4))) (by
    unfold aV
    simp only[g4]
    rw[show aJ 42 t _ d3 d4 a3 a4 o1 o2 o3 o4=_ from e1,w4,Tree.eta]
    rfl)]
   exact⟨_,rfl,rfl,e3,rfl,rfl,m5,m6⟩
  ·rw[if_neg h42]at n4 none3 ⊢
   obtain⟨q1,k1,k2⟩:=n4 rfl
   by_cases h43:d=43
   ·rw[if_pos h43]at s5 ⊢
    obtain⟨⟨b1,q1⟩,e1,e2,e3,e4⟩:=s5 _ k1
    dsimp only at e2 e3 e4
    subst e2
    rw[k2,aX (r:= .inr (.inr (Tree.node 5 0 [x],q1,a3,a4))) (by
     unfold aV
     simp only[g5]
     rw[show aJ 43 t _ d3 d4 a3 a4 o1 o2 o3 o4=_ from e1,w5,Tree.eta]
     rfl)]
    exact⟨_,rfl,rfl,e3,rfl,rfl,m5,m6⟩
   ·rw[if_neg h43]at n5 none3 ⊢
    obtain⟨q2,k3,k4⟩:=n5 rfl _ k1
    by_cases h63:d=63
    ·rw[if_pos h63]at s6 ⊢
     obtain⟨⟨b1,q1⟩,e1,e2,e3,e4⟩:=s6 _ k3
     dsimp only at e2 e3 e4
     subst e2
     rw[k2,k4,aX (r:= .inr (.inr (Tree.node 6 0 [x],q1,a3,a4))) (by
      unfold aV
      simp only[g6]
      rw[show aJ 63 t _ d3 d4 a3 a4 o1 o2 o3 o4=_ from e1,w6,Tree.eta]
      rfl)]
     exact⟨_,rfl,rfl,e3,rfl,rfl,m5,m6⟩
    ·rw[if_neg h63]at none3 ⊢
     exact none3 rfl rfl rfl
omit ht in
theorem N8{p:Int}{ts:Toks}(h:At t p ts):((cS (ts.hd:Int)).bind fun(r88:Bool) =>
 (if r88=true then some (true)
 else(if((ts.hd:Int) == (40:Int))=true then some (true)
 else(if((ts.hd:Int) == (91:Int))=true then some (true)
 else some (((ts.hd:Int) == (46:Int)))))))=some (xG ts):=by
 have key:∀c:Nat,dS c=false→c<256→((cS (c:Int)).bind fun(r88:Bool) =>
   (if r88=true then some (true)
   else(if((c:Int) == (40:Int))=true then some (true)
   else(if((c:Int) == (91:Int))=true then some (true)
   else some (((c:Int) == (46:Int)))))))=some (c == 40 || c == 91 || c == 46):=fun c h1 h3=>by
  rw[(kC h3).1,h1]
  simp only[Option.bind_some,Bool.false_eq_true,if_false]
  by_cases h40:c=40
  ·subst h40;rfl
  ·rw[if_neg (by simp;omega)]
   by_cases h91:c=91
   ·subst h91;rfl
   ·rw[if_neg (by simp;omega)]
    have:((c:Int) == 46)=(c == 46):=by
     by_cases h46:c=46
     ·subst h46;rfl
     ·rw[beq_eq_false_iff_ne.mpr h46,beq_eq_false_iff_ne.mpr (by omega)]
    rw[this,beq_eq_false_iff_ne.mpr h40,beq_eq_false_iff_ne.mpr h91]
    rfl
 cases ts with
 | bad n=>exact key 0 (by decide) (by decide)
 | eof n=>exact key 0 (by decide) (by decide)
 | wd w n r =>
  obtain⟨h1,_⟩:=h.wd
  simp only[Toks.hd];rw[V2,h1];rfl
 | sg c n r =>
  obtain⟨h1,h2,h3,h4,h5⟩:=h.sg
  exact key c h1 h3
abbrev RL3(t:List UInt8)(deep:Int)(a:List Tree×Int×Int×Int)(b:List Tree×Toks×Int):Prop:=a.1=b.1∧At t a.2.1 b.2.1∧a.2.2.1=b.2.2∧a.2.2.2=deep∧0≤b.2.2∧b.2.2≤200
theorem L0{rec E deep d3 d4 o1 o2 o3 o4}(hr:Rec t rec E deep d3 d4 o1 o2 o3 o4)(hE:lQ E):∀(f:Nat) (ts:Toks) (pl:Int) (acc:List Tree),At t ts.pos ts→gS ts = .inl (ts.hd,ts.pos)→ts.size<f→acc.length+ts.size≤20000→0≤pl→pl≤200 →
  Ok (iter (dZ t d3 d4 o1 o2 o3 o4 rec) ((ts.pos:Int),pl,deep,acc,(ts.hd:Int))) (rT E (dM o1.length) o4 f ts pl acc) (RL3 t deep)
 | 0,ts,pl,acc,_,_,h,_,_,_=>by omega
 | f+1,ts,pl,acc,h,hs,hf,ha,hp0,hp1=>by
  have hh:=N8 h
  simp only[rT,hs]
  cases hth:xG ts with
  | false =>
   rw[hth]at hh
   refine⟨(acc,(ts.pos:Int),pl,deep),aX ?_,rfl,h,rfl,rfl,hp0,hp1⟩
   unfold dZ
   simp only[hh]
   rfl
  | true =>
   rw[hth]at hh
   simp only[if_true]
   have ho:=aBe ht hr hth h hp0 hp1
   cases hos:lH E (dM o1.length) o4 pl ts with
   | inr e =>
    rw[hos]at ho
    obtain⟨e1,e2⟩:=e
    apply aX
    unfold dZ
    simp only[hh]
    simp only[Option.bind_some,if_true]
    rw[show gX rec t _ d3 d4 pl deep o1 o2 o3 o4=_ from ho]
    rfl
   | inl xr =>
    obtain⟨x,r,pl1⟩:=xr
    rw[hos]at ho
    obtain⟨⟨x',q,a3,a4⟩,k0,m1,m2,m3,m4,m5,m6⟩:=ho
    dsimp only at m1 m2 m3 m4 m5 m6
    subst m1;subst m3;subst m4
    have hsz:=nQ hE hos
    rcases rR r with hs2 | ⟨n,rfl⟩
    ·have hb:dZ t d3 d4 o1 o2 o3 o4 rec ((ts.pos:Int),pl,a4,acc,(ts.hd:Int))=some (.inl ((r.pos:Int),a3,a4,acc++[x'],(r.hd:Int))):=by
      unfold dZ
      simp only[hh]
      simp only[Option.bind_some,if_true]
      rw[k0]
      simp only[Option.bind_some,Tree.eta]
      rw[if_pos ⟨by simp;omega,by simp;omega⟩,lA ht m2,hs2]
      rfl
     rw[bR hb]
     exact L0 hr hE f r a3 (acc++[x']) m2.posn hs2 (by omega) (by simp;omega) m5 m6
    ·match f,hf with
     | 0,hf=>omega
     | f+1,hf =>
      simp only[rT,gS]
      apply aX
      unfold dZ
      simp only[hh]
      simp only[Option.bind_some,if_true]
      rw[k0]
      simp only[Option.bind_some,Tree.eta]
      rw[if_pos ⟨by simp;omega,by simp;omega⟩,lA ht m2]
      rfl
theorem aCg{rec E deep d3 d4 o1 o2 o3 o4}(hr:Rec t rec E deep d3 d4 o1 o2 o3 o4)(hE:lQ E){p:Int}{ts:Toks}(h:At t p ts)(hz:ts.size≤10000){pl:Int}(hp0:0≤pl)(hp1:pl≤200):
  Ok (iN rec t p d3 d4 pl deep o1 o2 o3 o4) (qP E (dM o1.length) o4 pl ts) (RT t deep):=by
 unfold iN
 rw[lA ht h]
 rcases rR ts with hs | ⟨n,rfl⟩
 ·rw[hs]
  simp only[Option.bind_some]
  refine(L0 ht hr hE (ts.size+1) ts pl [] h.posn hs (by omega) (by simp;omega) hp0 hp1).bind (fun e1 e2 he=>⟨rfl,by simp only[qP,he]⟩) ?_
  rintro⟨l,q,a3,a4⟩ ⟨l',r,b3⟩ hy ⟨m1,m2,m3,m4,m5,m6⟩
  dsimp only at m1 m2 m3 m4 m5 m6
  subst m1;subst m3;subst m4
  simp only[qP,hy]
  match l with
  | []=>exact⟨_,rfl,rfl,m2,rfl,rfl,m5,m6⟩
  | [x]=>exact⟨_,rfl,Tree.eta x,m2,rfl,rfl,m5,m6⟩
  | x::y::l =>
   refine⟨(Tree.node 2 0 (x::y::l),q,a3,a4),?_,rfl,m2,rfl,rfl,m5,m6⟩
   simp only[List.length_cons]
   rw[if_neg (by simp;omega),if_neg (by simp;omega)]
 ·rfl
theorem N2{rec E deep d3 d4 o1 o2 o3 o4}(hr:Rec t rec E deep d3 d4 o1 o2 o3 o4)(hE:lQ E):∀(f:Nat) (ts:Toks) (p pl:Int) (acc:List Tree),At t p ts→ts.size<f→acc.length+ts.size≤20000→ts.size≤10000→0≤pl→pl≤200 →
  Ok (iter (cV t d3 d4 o1 o2 o3 o4 rec) (p,pl,deep,acc)) (xP E (dM o1.length) o4 f ts pl acc) (RL3 t deep)
 | 0,ts,p,pl,acc,_,h,_,_,_,_=>by omega
 | f+1,ts,p,pl,acc,h,hf,ha,hz,hp0,hp1=>by
  have hs:=lX ht (c:=124) (by decide) (by decide) h d3 d4 pl deep o1 o2 o3 o4
  simp only[xP]
  cases hss:bF 124 ts with
  | inr e =>
   rw[hss]at hs
   obtain⟨e1,e2⟩:=e
   apply aX
   unfold cV
   simp only[]
   rw[show aJ 124 t _ d3 d4 pl deep o1 o2 o3 o4=_ from hs]
   rfl
  | inl br =>
   obtain⟨b,r⟩:=br
   rw[hss]at hs
   obtain⟨⟨b1,q1⟩,e1,e2,e3,e4⟩:=hs
   dsimp only at e2 e3 e4
   subst e2
   have hsz:=eF hss
   cases b1 with
   | false =>
    refine⟨(acc,q1,pl,deep),aX ?_,rfl,e3,rfl,rfl,hp0,hp1⟩
    unfold cV
    simp only[]
    rw[show aJ 124 t _ d3 d4 pl deep o1 o2 o3 o4=_ from e1]
    rfl
   | true =>
    simp only[if_true]at hsz
    have ho:=aCg ht hr hE e3 (by omega) hp0 hp1
    simp only[]
    cases hos:qP E (dM o1.length) o4 pl r with
    | inr e =>
     rw[hos]at ho
     obtain⟨e5,e6⟩:=e
     apply aX
     unfold cV
     simp only[]
     rw[show aJ 124 t _ d3 d4 pl deep o1 o2 o3 o4=_ from e1]
     simp only[Option.bind_some,if_true]
     rw[show iN rec t _ d3 d4 pl deep o1 o2 o3 o4=_ from ho]
     rfl
    | inl xr =>
     obtain⟨x,r1,pl1⟩:=xr
     rw[hos]at ho
     obtain⟨⟨x',q,a3,a4⟩,k0,m1,m2,m3,m4,m5,m6⟩:=ho
     dsimp only at m1 m2 m3 m4 m5 m6
     subst m1;subst m3;subst m4
     have hsz2:=gZ hE hos
     have hb:cV t d3 d4 o1 o2 o3 o4 rec (p,pl,a4,acc)=some (.inl (q,a3,a4,acc++[x'])):=by
      unfold cV
      simp only[]
      rw[show aJ 124 t _ d3 d4 pl a4 o1 o2 o3 o4=_ from e1]
      simp only[Option.bind_some,if_true]
      rw[k0]
      simp only[Option.bind_some,Tree.eta]
      rw[if_pos ⟨by simp;omega,by simp;omega⟩]
     rw[bR hb]
     exact N2 hr hE f r1 q a3 (acc++[x']) m2 (by omega) (by simp;omega) (by omega) m5 m6
theorem aAU{rec E deep d3 d4 o1 o2 o3 o4}(hr:Rec t rec E deep d3 d4 o1 o2 o3 o4)(hE:lQ E){p:Int}{ts:Toks}(h:At t p ts)(hz:ts.size≤10000){pl:Int}(hp0:0≤pl)(hp1:pl≤200):
  Ok (fU rec t p d3 d4 pl deep o1 o2 o3 o4) (mV E (dM o1.length) o4 pl ts) (RT t deep):=by
 unfold fU
 refine(aCg ht hr hE h hz hp0 hp1).bind (fun e1 e2 he=>⟨rfl,by simp only[mV,he]⟩) ?_
 rintro⟨x,q,a3,a4⟩ ⟨x',r,b3⟩ hy ⟨m1,m2,m3,m4,m5,m6⟩
 dsimp only at m1 m2 m3 m4 m5 m6
 subst m1;subst m3;subst m4
 have hsz:=gZ hE hy
 simp only[mV,hy,Tree.eta]
 refine(N2 ht hr hE (r.size+1) r q a3 [x] m2 (by omega) (by simp;omega) (by omega) m5 m6).bind (fun e1 e2 he=>⟨rfl,by simp only[he]⟩) ?_
 rintro⟨l,q1,c3,c4⟩ ⟨l',r1,d5⟩ hy2 ⟨n1,n2,n3,n4,n5,n6⟩
 dsimp only at n1 n2 n3 n4 n5 n6
 subst n1;subst n3;subst n4
 simp only[hy2]
 match l with
 | []=>exact⟨_,rfl,rfl,n2,rfl,rfl,n5,n6⟩
 | [x]=>exact⟨(x,q1,c3,c4),rfl,rfl,n2,rfl,rfl,n5,n6⟩
 | x::y::l =>
  refine⟨(Tree.node 3 0 (x::y::l),q1,c3,c4),?_,rfl,n2,rfl,rfl,n5,n6⟩
  simp only[List.length_cons]
  rw[if_neg (by simp;omega)]
theorem zE{d3 d4 o1 o2 o3 o4}:∀(d n:Nat) (deep:Int),d<n→deep=16 - (d:Int)→0≤deep→∀(p:Int) (ts:Toks) (pl:Int),At t p ts→ts.size≤10000→0≤pl→pl≤200 →
  Ok (gA n t p d3 d4 pl deep o1 o2 o3 o4) (iY (dM o1.length) o4 d pl ts) (RT t deep)
 | d,0,deep,hn,_,_,_,_,_,_,_,_,_=>by omega
 | 0,n+1,deep,hn,hd,h0,p,ts,pl,h,hz,hp0,hp1 =>
  aAU ht (E:=none) ⟨h0,by omega,by show deep=16;omega⟩ oV h hz hp0 hp1
 | d+1,n+1,deep,hn,hd,h0,p,ts,pl,h,hz,hp0,hp1=>by
  refine aAU ht (E:=some (iY (dM o1.length) o4 d)) ⟨h0,by omega,by omega,fun p1 ts1 pl1 h1 h2 h3=> ?_⟩ sG h hz hp0 hp1
  have hz1:ts1.size≤10000:=by
   obtain⟨a,b,rfl⟩:=h1
   have:=qK (t:=t) _ p1.toNat (Nat.le_refl _) (by omega)
   omega
  exact zE d n (deep+1) (by omega) (by omega) (by omega) p1 ts1 pl1 h1 hz1 h2 h3
end
end Go.Proofs.Ytjfjigknkhgkdaa.T
