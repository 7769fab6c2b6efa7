/- The program's parser of rules says what the pieces say: names, sets, things. -/
import Derived.Test.YtacpjjgochokcaaDoorTv06pf
namespace Go.Proofs.YtacpjjgochokcaaDoor.T
open Go Go.Tv Go.Proofs
theorem Ok.bind{A B C D:Type}{x:Option (A⊕Er)}{y:B⊕Er}{R:A→B→Prop}(h:Ok x y R){k:A⊕Er→Option (C⊕Er)}{s:D⊕Er}{R':C→D→Prop}
  (h1:∀e1 e2,y = .inr (e1,e2)→k (.inr (e1,e2))=some (.inr (e1,e2))∧s = .inr (e1,e2)) (h2:∀a b,y = .inl b→R a b→Ok (k (.inl a)) s R'):Ok (x.bind k) s R':=by
 cases y with
 | inr e =>
  obtain⟨e1,e2⟩:=e
  rw[show x=some (.inr (e1,e2))from h,Option.bind_some,(h1 e1 e2 rfl).1,(h1 e1 e2 rfl).2]
  rfl
 | inl b =>
  obtain⟨a,h3,h4⟩:=h
  rw[h3]
  exact h2 a b rfl h4
theorem T7{c:Nat}(h:d8 c=false){w:List UInt8}(hw:d8 ((w.headD 0).toNat)=true):(((w.headD 0).toNat:Nat):Int)≠(c:Int):=fun hh=>by
 have:(w.headD 0).toNat=c:=by omega
 rw[this,h]at hw;cases hw
section
variable{t:List UInt8}(ht:t.length≤10000)
include ht
theorem aCB{p:Int}{ts:Toks}(h:At t p ts)(d3 d4 d5 d6 o1 o2 o3 o4):Ok (gP t p d3 d4 d5 d6 o1 o2 o3 o4) (kO o4 ts) (fun a b=>a.1=b.1∧At t a.2 b.2.2):=by
 unfold gP
 refine(O9 ht h d3 d4 d5 d6 o1 o2 o3 o4).bind (fun e1 e2 he=>⟨rfl,by simp only[kO,he]⟩) ?_
 rintro⟨w,n,q⟩ ⟨w',n',r⟩ hy ⟨h1,h2,h3⟩
 dsimp only at h1 h2 h3
 subst h1;subst h2
 simp only[kO,hy]
 cases hl:look o4 w with
 | some b=>rw[show bF .str o4 w=some b from hl];rfl
 | none=>rw[show bF .str o4 w=none from hl];exact⟨_,rfl,rfl,h3⟩
theorem K0{p:Int}{ts:Toks}(h:At t p ts)(d3 d4 d5 d6 o1 o2 o3 o4):Ok (eF t p d3 d4 d5 d6 o1 o2 o3 o4) (zC o4 ts) (fun a b=>a.1=b.1∧At t a.2 b.2):=by
 unfold eF
 refine(O9 ht h d3 d4 d5 d6 o1 o2 o3 o4).bind (fun e1 e2 he=>⟨rfl,by simp only[zC,he]⟩) ?_
 rintro⟨w,n,q⟩ ⟨w',n',r⟩ hy ⟨h1,h2,h3⟩
 dsimp only at h1 h2 h3
 subst h1;subst h2
 simp only[zC,hy]
 cases hl:look o4 w with
 | some b=>rw[show bF .str o4 w=some b from hl];exact⟨_,rfl,rfl,h3⟩
 | none=>rw[show bF .str o4 w=none from hl];rfl
theorem T5{c:Nat}(hc:d8 c=false)(hc0:c≠0)(d3 d4 d5 d6 o1 o2 o3 o4):∀(ts:Toks) (p b:Int),At t p ts→Ok (iter (bM (c:Int) t d3 d4 d5 d6 o1 o2 o3 o4) (p,b)) (kX c o4 ts b) (fun a b=>a.2=b.1∧At t (a.1+1) b.2∧0≤a.1∧a.1<t.length)
 | .bad n,p,b,h=>by
  apply cX
  unfold bM
  simp only[mI ht h]
  rfl
 | .eof n,p,b,h=>by
  have hn:=K0 ht h.posn d3 d4 d5 d6 o1 o2 o3 o4
  apply cX
  unfold bM
  simp only[mI ht h,Option.bind_some,iQ]
  rw[if_pos (by simp[Toks.hd];omega),show eF t _ d3 d4 d5 d6 o1 o2 o3 o4=some (.inr (21,(n:Int)))from hn]
  rfl
 | .sg d n r,p,b,h=>by
  obtain⟨h1,h2,h3,h4,h5⟩:=h.sg
  have hn:=K0 ht h.posn d3 d4 d5 d6 o1 o2 o3 o4
  simp only[kX]
  by_cases hd:d=c
  ·rw[if_pos hd]
   refine⟨((n:Int),b),?_,rfl,h4,by simp only[];omega,by simp only[];omega⟩
   apply cX
   unfold bM
   simp only[mI ht h,Option.bind_some,iQ,Toks.hd,Toks.pos]
   rw[if_neg (by simp[hd])]
  ·rw[if_neg hd]
   apply cX
   unfold bM
   simp only[mI ht h,Option.bind_some,iQ,Toks.hd]
   rw[if_pos (by simp;omega),show eF t _ d3 d4 d5 d6 o1 o2 o3 o4=some (.inr (21,(n:Int)))from hn]
   rfl
 | .wd w n r,p,b,h=>by
  obtain⟨h1,h2,h3,h4,h5⟩:=h.wd
  have hn:=K0 ht h.posn d3 d4 d5 d6 o1 o2 o3 o4
  simp only[kX]
  simp only[zC,kU]at hn
  cases hl:look o4 w with
  | none =>
   rw[hl]at hn
   apply cX
   unfold bM
   simp only[mI ht h,Option.bind_some,iQ,Toks.hd]
   rw[if_pos (by simpa using T7 hc h1),show eF t _ d3 d4 d5 d6 o1 o2 o3 o4=some (.inr (22,(n:Int)))from hn]
   rfl
  | some x =>
   rw[hl]at hn
   obtain⟨⟨x',q⟩,e1,e2,e3⟩:=hn
   dsimp only at e2 e3
   subst e2
   have hb:bM (c:Int) t d3 d4 d5 d6 o1 o2 o3 o4 (p,b)=some (.inl (q,aG .or .u32 b x')):=by
    unfold bM
    simp only[mI ht h,Option.bind_some,iQ,Toks.hd]
    rw[if_pos (by simpa using T7 hc h1),e1]
    rfl
   rw[j7 hb]
   exact T5 hc hc0 d3 d4 d5 d6 o1 o2 o3 o4 r q _ e3
theorem aAG{c:Nat}(hc:d8 c=false)(hc0:c≠0){ts:Toks}{p:Int}(h:At t p ts)(d3 d4 d5 d6 o1 o2 o3 o4):Ok (cH (c:Int) t p d3 d4 d5 d6 o1 o2 o3 o4) (kX c o4 ts 0) (fun a b=>a.1=b.1∧At t a.2 b.2):=by
 unfold cH
 refine(T5 ht hc hc0 d3 d4 d5 d6 o1 o2 o3 o4 ts p 0 h).bind (fun e1 e2 he=>⟨rfl,he⟩) ?_
 rintro⟨q,x⟩ ⟨x',r⟩ hy ⟨h1,h2,h3,h4⟩
 rw[hy]
 refine⟨_,rfl,h1,?_⟩
 dsimp only at h2 h3 h4 ⊢
 rw[aR (by omega) (by omega)]
 exact h2
end
theorem Tree.eta(x:Tree):Tree.node x.op x.set x.kids=x:=by cases x;rfl
def Rec(t:List UInt8)(rec:List UInt8→Int→Int→Int→Int→Int→List (List UInt8)→List Int→RL→fI→Option ((Tree×Int×Int×Int)⊕(Int×Int)))(E:Option (Int→Toks→TR))(deep:Int)(d3 d4:Int)(o1:List (List UInt8))(o2:List Int)(o3:RL)(o4:fI):Prop :=
 0≤deep∧deep≤16∧match E with
 | none=>deep=16
 | some f=>deep<16∧∀p ts pl,At t p ts→0≤pl→pl≤200→Ok (rec t p d3 d4 pl (deep+1) o1 o2 o3 o4) (f pl ts) (fun a b=>a.1=b.1∧At t a.2.1 b.2.1∧a.2.2.1=b.2.2∧a.2.2.2=deep+1∧0≤b.2.2∧b.2.2≤200)
abbrev RT(t:List UInt8)(deep:Int)(a:Tree×Int×Int×Int)(b:Tree×Toks×Int):Prop:=a.1=b.1∧At t a.2.1 b.2.1∧a.2.2.1=b.2.2∧a.2.2.2=deep∧0≤b.2.2∧b.2.2≤200
section
variable{t:List UInt8}(ht:t.length≤10000)
include ht
theorem aFB{rec E deep d3 d4 o1 o2 o3 o4}(hr:Rec t rec E deep d3 d4 o1 o2 o3 o4){ts:Toks}(hth:B0 ts=true)(h:At t ts.pos ts){pl:Int}(hp0:0≤pl)(hp1:pl≤200):
  Ok (kH rec t ts.pos d3 d4 pl deep o1 o2 o3 o4) (iG E (b9 o1.length) o4 pl ts) (RT t deep):=by
 obtain⟨g0,g1,g2⟩:=hr
 have w1:IntKind.i64.wrap (pl+1)=pl+1:=aR (by omega) (by omega)
 have w2:IntKind.i64.wrap (deep+1)=deep+1:=aR (by omega) (by omega)
 unfold kH
 rw[w1,w2]
 cases ts with
 | bad n=>cases hth
 | eof n=>cases hth
 | wd w n r =>
  have s1:=nQ ht (c:=40) (by decide) (by decide) h d3 d4 pl deep o1 o2 o3 o4
  obtain⟨⟨b1,q1⟩,e1,e2,e3,e4⟩:=s1
  dsimp only at e2 e3 e4
  subst e2
  rw[show aL 40 t _ d3 d4 pl deep o1 o2 o3 o4=_ from e1]
  simp only[Option.bind_some,Bool.false_eq_true,if_false,iG]
  by_cases hpl:pl+1 > 200
  ·rw[if_pos (by simpa using hpl),if_pos hpl]
   rfl
  ·rw[if_neg (by simpa using hpl),if_neg hpl,if_pos (by omega)]
   obtain⟨⟨b2,q2⟩,f1,f2,f3,f4⟩:=nQ ht (c:=46) (by decide) (by decide) e3 d3 d4 (pl+1) deep o1 o2 o3 o4
   dsimp only at f2 f3 f4
   subst f2
   rw[show aL 46 t _ d3 d4 _ deep o1 o2 o3 o4=_ from f1]
   simp only[Option.bind_some,Bool.false_eq_true,if_false]
   obtain⟨⟨b3,q3⟩,k1,k2,k3,k4⟩:=nQ ht (c:=91) (by decide) (by decide) f3 d3 d4 (pl+1) deep o1 o2 o3 o4
   dsimp only at k2 k3 k4
   subst k2
   rw[show aL 91 t _ d3 d4 _ deep o1 o2 o3 o4=_ from k1]
   simp only[Option.bind_some,Bool.false_eq_true,if_false]
   have hn:=K0 ht k3 d3 d4 (pl+1) deep o1 o2 o3 o4
   simp only[zC,kU]at hn
   cases hl:look o4 w with
   | none =>
    rw[hl]at hn
    rw[show eF t q3 d3 d4 (pl+1) deep o1 o2 o3 o4=_ from hn]
    rfl
   | some x =>
    rw[hl]at hn
    obtain⟨⟨x',q⟩,n1,n2,n3⟩:=hn
    rw[n1]
    dsimp only at n2 n3
    subst n2
    exact⟨_,rfl,rfl,n3,rfl,rfl,by show(0:Int)≤pl+1;omega,by show pl+1≤(200:Int);omega⟩
 | sg d n r =>
  have s1:=nQ ht (c:=40) (by decide) (by decide) h d3 d4 pl deep o1 o2 o3 o4
  simp only[dX]at s1
  simp only[iG]
  by_cases hd:d=40
  ·rw[if_pos hd]at s1 ⊢
   obtain⟨⟨b1,q1⟩,e1,e2,e3,e4⟩:=s1
   dsimp only at e2 e3 e4
   subst e2
   rw[show aL 40 t _ d3 d4 pl deep o1 o2 o3 o4=_ from e1]
   simp only[Option.bind_some,if_true]
   cases E with
   | none =>
    rw[if_pos (by simp;simp only[]at g2;omega)]
    rfl
   | some f =>
    obtain⟨g3,g4⟩:=g2
    rw[if_neg (by simp;omega)]
    refine(g4 q1 r pl e3 hp0 hp1).bind (fun e1 e2 he=>⟨rfl,by simp only[he]⟩) ?_
    rintro⟨x,q,a3,a4⟩ ⟨x',r1,b3⟩ hy ⟨m1,m2,m3,m4,m5,m6⟩
    dsimp only at m1 m2 m3 m4 m5 m6
    subst m1;subst m3;subst m4
    simp only[hy]
    refine(E0 ht (c:=41) (by decide) (by decide) m2 d3 d4 _ _ o1 o2 o3 o4).bind (fun e1 e2 he=>⟨rfl,by simp only[he]⟩) ?_
    rintro q2 r2 hy2 m7
    simp only[hy2]
    refine⟨_,rfl,Tree.eta _,m7,rfl,?_,m5,m6⟩
    show IntKind.i64.wrap (deep+1 - 1)=deep
    rw[aR (by omega) (by omega)];omega
  ·rw[if_neg hd]at s1 ⊢
   obtain⟨⟨b1,q1⟩,e1,e2,e3,e4⟩:=s1
   dsimp only at e2 e3 e4
   subst e2
   rw[show aL 40 t _ d3 d4 pl deep o1 o2 o3 o4=_ from e1]
   simp only[Option.bind_some,Bool.false_eq_true,if_false]
   by_cases hpl:pl+1 > 200
   ·rw[if_pos (by simpa using hpl),if_pos hpl]
    rfl
   ·rw[if_neg (by simpa using hpl),if_neg hpl,if_pos (by omega)]
    have s2:=nQ ht (c:=46) (by decide) (by decide) e3 d3 d4 (pl+1) deep o1 o2 o3 o4
    simp only[dX]at s2
    by_cases hd2:d=46
    ·rw[if_pos hd2]at s2 ⊢
     obtain⟨⟨b2,q2⟩,f1,f2,f3,f4⟩:=s2
     dsimp only at f2 f3 f4
     subst f2
     rw[show aL 46 t _ d3 d4 _ deep o1 o2 o3 o4=_ from f1]
     exact⟨_,rfl,rfl,f3,rfl,rfl,by show(0:Int)≤pl+1;omega,by show pl+1≤(200:Int);omega⟩
    ·rw[if_neg hd2]at s2 ⊢
     obtain⟨⟨b2,q2⟩,f1,f2,f3,f4⟩:=s2
     dsimp only at f2 f3 f4
     subst f2
     rw[show aL 46 t _ d3 d4 _ deep o1 o2 o3 o4=_ from f1]
     simp only[Option.bind_some,Bool.false_eq_true,if_false]
     have hd3:d=91:=by
      simp only[B0,Bool.or_eq_true,beq_iff_eq]at hth
      omega
     have s3:=nQ ht (c:=91) (by decide) (by decide) f3 d3 d4 (pl+1) deep o1 o2 o3 o4
     simp only[dX,if_pos hd3]at s3
     obtain⟨⟨b3,q3⟩,k1,k2,k3,k4⟩:=s3
     dsimp only at k2 k3 k4
     subst k2
     rw[show aL 91 t _ d3 d4 _ deep o1 o2 o3 o4=_ from k1]
     simp only[Option.bind_some,if_true]
     have s4:=nQ ht (c:=94) (by decide) (by decide) k3 d3 d4 (pl+1) deep o1 o2 o3 o4
     cases hs4:dX 94 r with
     | inr e =>
      rw[hs4]at s4
      obtain⟨e1,e2⟩:=e
      rw[show aL 94 t _ d3 d4 _ deep o1 o2 o3 o4=_ from s4]
      rfl
     | inl br =>
      obtain⟨neg,r1⟩:=br
      rw[hs4]at s4
      obtain⟨⟨b4,q4⟩,m1,m2,m3,m4⟩:=s4
      dsimp only at m2 m3 m4
      subst m2
      rw[show aL 94 t _ d3 d4 _ deep o1 o2 o3 o4=_ from m1]
      simp only[Option.bind_some]
      have s5:=aAG ht (c:=93) (by decide) (by decide) m3 d3 d4 (pl+1) deep o1 o2 o3 o4
      cases hs5:kX 93 o4 r1 0 with
      | inr e =>
       rw[hs5]at s5
       obtain⟨e1,e2⟩:=e
       simp only[]
       rw[show cH 93 t _ d3 d4 _ deep o1 o2 o3 o4=_ from s5]
       rfl
      | inl xr =>
       obtain⟨x,r2⟩:=xr
       rw[hs5]at s5
       obtain⟨⟨x',q5⟩,n1,n2,n3⟩:=s5
       dsimp only at n2 n3
       subst n2
       rw[show cH 93 t _ d3 d4 _ deep o1 o2 o3 o4=_ from n1]
       simp only[Option.bind_some]
       cases b4 with
       | true=>exact⟨_,rfl,rfl,n3,rfl,rfl,by show(0:Int)≤pl+1;omega,by show pl+1≤(200:Int);omega⟩
       | false=>exact⟨_,rfl,rfl,n3,rfl,rfl,by show(0:Int)≤pl+1;omega,by show pl+1≤(200:Int);omega⟩
end
end Go.Proofs.YtacpjjgochokcaaDoor.T
namespace Go.Proofs.YtacpjjgochokcaaDoor.T
open Go Go.Tv Go.Proofs
section
variable{t:List UInt8}
theorem aFK{d3 d4 o1 o2 o3 o4}{x:Tree}{pl deep p:Int}{k:Nat}(hk:k<4):aY t d3 d4 o1 o2 o3 o4 x pl deep (p,(k:Int))=some (.inl (p,((k+1:Nat):Int))):=by
 match k,hk with
 | 0,_=>rfl
 | 1,_=>rfl
 | 2,_=>rfl
 | 3,_=>rfl
theorem aET{d3 d4 o1 o2 o3 o4}{x:Tree}{pl deep p:Int}:iter (aY t d3 d4 o1 o2 o3 o4 x pl deep) (p,0)=iter (aY t d3 d4 o1 o2 o3 o4 x pl deep) (p,4):=by
 have h:=fun(k:Nat) (hk:k<4)=>j7 (aFK (t:=t) (d3:=d3) (d4:=d4) (o1:=o1) (o2:=o2) (o3:=o3) (o4:=o4) (x:=x) (pl:=pl) (deep:=deep) (p:=p) hk)
 exact((h 0 (by decide)).trans (h 1 (by decide))).trans ((h 2 (by decide)).trans (h 3 (by decide)))
theorem xT(ts:Toks):iQ ts = .inl (ts.hd,ts.pos)∨∃n,ts = .bad n:=by
 cases ts with
 | bad n=>exact Or.inr ⟨n,rfl⟩
 | _=>exact Or.inl rfl
variable(ht:t.length≤10000)
include ht
theorem aFE{rec E deep d3 d4 o1 o2 o3 o4}(hr:Rec t rec E deep d3 d4 o1 o2 o3 o4){ts:Toks}(hth:B0 ts=true)(h:At t ts.pos ts){pl:Int}(hp0:0≤pl)(hp1:pl≤200):
  Ok (iV rec t ts.pos d3 d4 pl deep o1 o2 o3 o4) (j5 E (b9 o1.length) o4 pl ts) (RT t deep):=by
 unfold iV
 refine(aFB ht hr hth h hp0 hp1).bind (fun e1 e2 he=>⟨rfl,by simp only[j5,he]⟩) ?_
 rintro⟨x,q,a3,a4⟩ ⟨x',r,b3⟩ hy ⟨m1,m2,m3,m4,m5,m6⟩
 dsimp only at m1 m2 m3 m4 m5 m6
 subst m1;subst m3;subst m4
 simp only[j5,hy]
 rw[aET]
 have g4:([(0:Int),(0:Int),(0:Int),(0:Int),(42:Int),(43:Int),(63:Int)]:List Int).getD (4:Int).toNat 0=42:=rfl
 have g5:([(0:Int),(0:Int),(0:Int),(0:Int),(42:Int),(43:Int),(63:Int)]:List Int).getD (5:Int).toNat 0=43:=rfl
 have g6:([(0:Int),(0:Int),(0:Int),(0:Int),(42:Int),(43:Int),(63:Int)]:List Int).getD (6:Int).toNat 0=63:=rfl
 have s4:=fun(p:Int) (h:At t p r)=>nQ ht (c:=42) (by decide) (by decide) h d3 d4 a3 a4 o1 o2 o3 o4
 have s5:=fun(p:Int) (h:At t p r)=>nQ ht (c:=43) (by decide) (by decide) h d3 d4 a3 a4 o1 o2 o3 o4
 have s6:=fun(p:Int) (h:At t p r)=>nQ ht (c:=63) (by decide) (by decide) h d3 d4 a3 a4 o1 o2 o3 o4
 have w4:IntKind.u8.wrap 4=4:=by decide
 have w5:IntKind.u8.wrap 5=5:=by decide
 have w6:IntKind.u8.wrap 6=6:=by decide
 have n4:dX 42 r = .inl (false,r)→∃q1,At t q1 r∧iter (aY t d3 d4 o1 o2 o3 o4 x a3 a4) (q,4)=iter (aY t d3 d4 o1 o2 o3 o4 x a3 a4) (q1,5):=fun hs=>by
  have s:=s4 q m2
  rw[hs]at s
  obtain⟨⟨b1,q1⟩,e1,e2,e3,e4⟩:=s
  dsimp only at e2 e3 e4
  subst e2
  refine⟨q1,e3,j7 ?_⟩
  unfold aY
  simp only[g4]
  rw[show aL 42 t _ d3 d4 a3 a4 o1 o2 o3 o4=_ from e1]
  rfl
 have n5:dX 43 r = .inl (false,r)→∀q,At t q r→∃q1,At t q1 r∧iter (aY t d3 d4 o1 o2 o3 o4 x a3 a4) (q,5)=iter (aY t d3 d4 o1 o2 o3 o4 x a3 a4) (q1,6):=fun hs q m2=>by
  have s:=s5 q m2
  rw[hs]at s
  obtain⟨⟨b1,q1⟩,e1,e2,e3,e4⟩:=s
  dsimp only at e2 e3 e4
  subst e2
  refine⟨q1,e3,j7 ?_⟩
  unfold aY
  simp only[g5]
  rw[show aL 43 t _ d3 d4 a3 a4 o1 o2 o3 o4=_ from e1]
  rfl
 have n6:dX 63 r = .inl (false,r)→∀q,At t q r→∃q1,At t q1 r∧iter (aY t d3 d4 o1 o2 o3 o4 x a3 a4) (q,6)=some (.inl q1):=fun hs q m2=>by
  have s:=s6 q m2
  rw[hs]at s
  obtain⟨⟨b1,q1⟩,e1,e2,e3,e4⟩:=s
  dsimp only at e2 e3 e4
  subst e2
  refine⟨q1,e3,?_⟩
  rw[j7 (s':=(q1,7)) (by
   unfold aY
   simp only[g6]
   rw[show aL 63 t _ d3 d4 a3 a4 o1 o2 o3 o4=_ from e1]
   rfl)]
  exact cX rfl
 have none3:dX 42 r = .inl (false,r)→dX 43 r = .inl (false,r)→dX 63 r = .inl (false,r)→Ok
   (((iter (aY t d3 d4 o1 o2 o3 o4 x a3 a4) (q,(4:Int))).bind fun(r65:((Int)⊕((Int×Int)⊕(Tree×Int×Int×Int))))=>match r65 with
   | .inl v14=>some (Sum.inl ((Tree.node x.op x.set x.kids),v14,a3,a4))
   | .inr (.inl (e51,e52))=>some (Sum.inr (e51,e52))
   | .inr (.inr ((r54,r55,r56,r57)))=>some (Sum.inl (r54,r55,r56,r57)))) (.inl (x,r,a3):TR) (RT t a4):=fun h1 h2 h3=>by
  obtain⟨q1,k1,k2⟩:=n4 h1
  obtain⟨q2,k3,k4⟩:=n5 h2 q1 k1
  obtain⟨q3,k5,k6⟩:=n6 h3 q2 k3
  rw[k2,k4,k6]
  exact⟨_,rfl,Tree.eta x,k5,rfl,rfl,m5,m6⟩
 cases r with
 | bad n =>
  rw[cX (r:= .inr (.inl (20,(n:Int)))) (by
   unfold aY
   simp only[g4]
   rw[show aL 42 t _ d3 d4 a3 a4 o1 o2 o3 o4=_ from s4 q m2]
   rfl)]
  rfl
 | eof n=>exact none3 rfl rfl rfl
 | wd w n r1=>exact none3 rfl rfl rfl
 | sg d n r1 =>
  simp only[dX]at s4 s5 s6 none3 n4 n5 n6
  simp only[]
  by_cases h42:d=42
  ·rw[if_pos h42]at s4 ⊢
   obtain⟨⟨b1,q1⟩,e1,e2,e3,e4⟩:=s4 q m2
   dsimp only at e2 e3 e4
   subst e2
   rw[cX (r:= .inr (.inr (Tree.node 4 0 [x],q1,a3,a4))) (by
    unfold aY
    simp only[g4]
    rw[show aL 42 t _ d3 d4 a3 a4 o1 o2 o3 o4=_ from e1,w4,Tree.eta]
    rfl)]
   exact⟨_,rfl,rfl,e3,rfl,rfl,m5,m6⟩
  ·rw[if_neg h42]at n4 none3 ⊢
   obtain⟨q1,k1,k2⟩:=n4 rfl
   by_cases h43:d=43
   ·rw[if_pos h43]at s5 ⊢
    obtain⟨⟨b1,q1⟩,e1,e2,e3,e4⟩:=s5 _ k1
    dsimp only at e2 e3 e4
    subst e2
    rw[k2,cX (r:= .inr (.inr (Tree.node 5 0 [x],q1,a3,a4))) (by
     unfold aY
     simp only[g5]
     rw[show aL 43 t _ d3 d4 a3 a4 o1 o2 o3 o4=_ from e1,w5,Tree.eta]
     rfl)]
    exact⟨_,rfl,rfl,e3,rfl,rfl,m5,m6⟩
   ·rw[if_neg h43]at n5 none3 ⊢
    obtain⟨q2,k3,k4⟩:=n5 rfl _ k1
    by_cases h63:d=63
    ·rw[if_pos h63]at s6 ⊢
     obtain⟨⟨b1,q1⟩,e1,e2,e3,e4⟩:=s6 _ k3
     dsimp only at e2 e3 e4
     subst e2
     rw[k2,k4,cX (r:= .inr (.inr (Tree.node 6 0 [x],q1,a3,a4))) (by
      unfold aY
      simp only[g6]
      rw[show aL 63 t _ d3 d4 a3 a4 o1 o2 o3 o4=_ from e1,w6,Tree.eta]
      rfl)]
     exact⟨_,rfl,rfl,e3,rfl,rfl,m5,m6⟩
    ·rw[if_neg h63]at none3 ⊢
     exact none3 rfl rfl rfl
omit ht in
theorem aEl{p:Int}{ts:Toks}(h:At t p ts):((cK (ts.hd:Int)).bind fun(r88:Bool) =>
 (if r88=true then some (true)
 else(if((ts.hd:Int) == (40:Int))=true then some (true)
 else(if((ts.hd:Int) == (91:Int))=true then some (true)
 else some (((ts.hd:Int) == (46:Int)))))))=some (B0 ts):=by
 have key:∀c:Nat,d8 c=false→c<256→((cK (c:Int)).bind fun(r88:Bool) =>
   (if r88=true then some (true)
   else(if((c:Int) == (40:Int))=true then some (true)
   else(if((c:Int) == (91:Int))=true then some (true)
   else some (((c:Int) == (46:Int)))))))=some (c == 40 || c == 91 || c == 46):=fun c h1 h3=>by
  rw[(nJ h3).1,h1]
  simp only[Option.bind_some,Bool.false_eq_true,if_false]
  by_cases h40:c=40
  ·subst h40;rfl
  ·rw[if_neg (by simp;omega)]
   by_cases h91:c=91
   ·subst h91;rfl
   ·rw[if_neg (by simp;omega)]
    have:((c:Int) == 46)=(c == 46):=by
     by_cases h46:c=46
     ·subst h46;rfl
     ·rw[beq_eq_false_iff_ne.mpr h46,beq_eq_false_iff_ne.mpr (by omega)]
    rw[this,beq_eq_false_iff_ne.mpr h40,beq_eq_false_iff_ne.mpr h91]
    rfl
 cases ts with
 | bad n=>exact key 0 (by decide) (by decide)
 | eof n=>exact key 0 (by decide) (by decide)
 | wd w n r =>
  obtain⟨h1,_⟩:=h.wd
  simp only[Toks.hd];rw[aDI,h1];rfl
 | sg c n r =>
  obtain⟨h1,h2,h3,h4,h5⟩:=h.sg
  exact key c h1 h3
abbrev RL3(t:List UInt8)(deep:Int)(a:List Tree×Int×Int×Int)(b:List Tree×Toks×Int):Prop:=a.1=b.1∧At t a.2.1 b.2.1∧a.2.2.1=b.2.2∧a.2.2.2=deep∧0≤b.2.2∧b.2.2≤200
theorem aAz{rec E deep d3 d4 o1 o2 o3 o4}(hr:Rec t rec E deep d3 d4 o1 o2 o3 o4)(hE:tA E):∀(f:Nat) (ts:Toks) (pl:Int) (acc:List Tree),At t ts.pos ts→iQ ts = .inl (ts.hd,ts.pos)→ts.size<f→acc.length+ts.size≤20000→0≤pl→pl≤200 →
  Ok (iter (eQ t d3 d4 o1 o2 o3 o4 rec) ((ts.pos:Int),pl,deep,acc,(ts.hd:Int))) (qX E (b9 o1.length) o4 f ts pl acc) (RL3 t deep)
 | 0,ts,pl,acc,_,_,h,_,_,_=>by omega
 | f+1,ts,pl,acc,h,hs,hf,ha,hp0,hp1=>by
  have hh:=aEl h
  simp only[qX,hs]
  cases hth:B0 ts with
  | false =>
   rw[hth]at hh
   refine⟨(acc,(ts.pos:Int),pl,deep),cX ?_,rfl,h,rfl,rfl,hp0,hp1⟩
   unfold eQ
   simp only[hh]
   rfl
  | true =>
   rw[hth]at hh
   simp only[if_true]
   have ho:=aFE ht hr hth h hp0 hp1
   cases hos:j5 E (b9 o1.length) o4 pl ts with
   | inr e =>
    rw[hos]at ho
    obtain⟨e1,e2⟩:=e
    apply cX
    unfold eQ
    simp only[hh]
    simp only[Option.bind_some,if_true]
    rw[show iV rec t _ d3 d4 pl deep o1 o2 o3 o4=_ from ho]
    rfl
   | inl xr =>
    obtain⟨x,r,pl1⟩:=xr
    rw[hos]at ho
    obtain⟨⟨x',q,a3,a4⟩,k0,m1,m2,m3,m4,m5,m6⟩:=ho
    dsimp only at m1 m2 m3 m4 m5 m6
    subst m1;subst m3;subst m4
    have hsz:=pV hE hos
    rcases xT r with hs2 | ⟨n,rfl⟩
    ·have hb:eQ t d3 d4 o1 o2 o3 o4 rec ((ts.pos:Int),pl,a4,acc,(ts.hd:Int))=some (.inl ((r.pos:Int),a3,a4,acc++[x'],(r.hd:Int))):=by
      unfold eQ
      simp only[hh]
      simp only[Option.bind_some,if_true]
      rw[k0]
      simp only[Option.bind_some,Tree.eta]
      rw[if_pos ⟨by simp;omega,by simp;omega⟩,mI ht m2,hs2]
      rfl
     rw[j7 hb]
     exact aAz hr hE f r a3 (acc++[x']) m2.posn hs2 (by omega) (by simp;omega) m5 m6
    ·match f,hf with
     | 0,hf=>omega
     | f+1,hf =>
      simp only[qX,iQ]
      apply cX
      unfold eQ
      simp only[hh]
      simp only[Option.bind_some,if_true]
      rw[k0]
      simp only[Option.bind_some,Tree.eta]
      rw[if_pos ⟨by simp;omega,by simp;omega⟩,mI ht m2]
      rfl
theorem aGG{rec E deep d3 d4 o1 o2 o3 o4}(hr:Rec t rec E deep d3 d4 o1 o2 o3 o4)(hE:tA E){p:Int}{ts:Toks}(h:At t p ts)(hz:ts.size≤10000){pl:Int}(hp0:0≤pl)(hp1:pl≤200):
  Ok (jT rec t p d3 d4 pl deep o1 o2 o3 o4) (z3 E (b9 o1.length) o4 pl ts) (RT t deep):=by
 unfold jT
 rw[mI ht h]
 rcases xT ts with hs | ⟨n,rfl⟩
 ·rw[hs]
  simp only[Option.bind_some]
  refine(aAz ht hr hE (ts.size+1) ts pl [] h.posn hs (by omega) (by simp;omega) hp0 hp1).bind (fun e1 e2 he=>⟨rfl,by simp only[z3,he]⟩) ?_
  rintro⟨l,q,a3,a4⟩ ⟨l',r,b3⟩ hy ⟨m1,m2,m3,m4,m5,m6⟩
  dsimp only at m1 m2 m3 m4 m5 m6
  subst m1;subst m3;subst m4
  simp only[z3,hy]
  match l with
  | []=>exact⟨_,rfl,rfl,m2,rfl,rfl,m5,m6⟩
  | [x]=>exact⟨_,rfl,Tree.eta x,m2,rfl,rfl,m5,m6⟩
  | x::y::l =>
   refine⟨(Tree.node 2 0 (x::y::l),q,a3,a4),?_,rfl,m2,rfl,rfl,m5,m6⟩
   simp only[List.length_cons]
   rw[if_neg (by simp;omega),if_neg (by simp;omega)]
 ·rfl
theorem aA8{rec E deep d3 d4 o1 o2 o3 o4}(hr:Rec t rec E deep d3 d4 o1 o2 o3 o4)(hE:tA E):∀(f:Nat) (ts:Toks) (p pl:Int) (acc:List Tree),At t p ts→ts.size<f→acc.length+ts.size≤20000→ts.size≤10000→0≤pl→pl≤200 →
  Ok (iter (cU t d3 d4 o1 o2 o3 o4 rec) (p,pl,deep,acc)) (B8 E (b9 o1.length) o4 f ts pl acc) (RL3 t deep)
 | 0,ts,p,pl,acc,_,h,_,_,_,_=>by omega
 | f+1,ts,p,pl,acc,h,hf,ha,hz,hp0,hp1=>by
  have hs:=nQ ht (c:=124) (by decide) (by decide) h d3 d4 pl deep o1 o2 o3 o4
  simp only[B8]
  cases hss:dX 124 ts with
  | inr e =>
   rw[hss]at hs
   obtain⟨e1,e2⟩:=e
   apply cX
   unfold cU
   simp only[]
   rw[show aL 124 t _ d3 d4 pl deep o1 o2 o3 o4=_ from hs]
   rfl
  | inl br =>
   obtain⟨b,r⟩:=br
   rw[hss]at hs
   obtain⟨⟨b1,q1⟩,e1,e2,e3,e4⟩:=hs
   dsimp only at e2 e3 e4
   subst e2
   have hsz:=iI hss
   cases b1 with
   | false =>
    refine⟨(acc,q1,pl,deep),cX ?_,rfl,e3,rfl,rfl,hp0,hp1⟩
    unfold cU
    simp only[]
    rw[show aL 124 t _ d3 d4 pl deep o1 o2 o3 o4=_ from e1]
    rfl
   | true =>
    simp only[if_true]at hsz
    have ho:=aGG ht hr hE e3 (by omega) hp0 hp1
    simp only[]
    cases hos:z3 E (b9 o1.length) o4 pl r with
    | inr e =>
     rw[hos]at ho
     obtain⟨e5,e6⟩:=e
     apply cX
     unfold cU
     simp only[]
     rw[show aL 124 t _ d3 d4 pl deep o1 o2 o3 o4=_ from e1]
     simp only[Option.bind_some,if_true]
     rw[show jT rec t _ d3 d4 pl deep o1 o2 o3 o4=_ from ho]
     rfl
    | inl xr =>
     obtain⟨x,r1,pl1⟩:=xr
     rw[hos]at ho
     obtain⟨⟨x',q,a3,a4⟩,k0,m1,m2,m3,m4,m5,m6⟩:=ho
     dsimp only at m1 m2 m3 m4 m5 m6
     subst m1;subst m3;subst m4
     have hsz2:=qK hE hos
     have hb:cU t d3 d4 o1 o2 o3 o4 rec (p,pl,a4,acc)=some (.inl (q,a3,a4,acc++[x'])):=by
      unfold cU
      simp only[]
      rw[show aL 124 t _ d3 d4 pl a4 o1 o2 o3 o4=_ from e1]
      simp only[Option.bind_some,if_true]
      rw[k0]
      simp only[Option.bind_some,Tree.eta]
      rw[if_pos ⟨by simp;omega,by simp;omega⟩]
     rw[j7 hb]
     exact aA8 hr hE f r1 q a3 (acc++[x']) m2 (by omega) (by simp;omega) (by omega) m5 m6
theorem aFa{rec E deep d3 d4 o1 o2 o3 o4}(hr:Rec t rec E deep d3 d4 o1 o2 o3 o4)(hE:tA E){p:Int}{ts:Toks}(h:At t p ts)(hz:ts.size≤10000){pl:Int}(hp0:0≤pl)(hp1:pl≤200):
  Ok (gJ rec t p d3 d4 pl deep o1 o2 o3 o4) (oT E (b9 o1.length) o4 pl ts) (RT t deep):=by
 unfold gJ
 refine(aGG ht hr hE h hz hp0 hp1).bind (fun e1 e2 he=>⟨rfl,by simp only[oT,he]⟩) ?_
 rintro⟨x,q,a3,a4⟩ ⟨x',r,b3⟩ hy ⟨m1,m2,m3,m4,m5,m6⟩
 dsimp only at m1 m2 m3 m4 m5 m6
 subst m1;subst m3;subst m4
 have hsz:=qK hE hy
 simp only[oT,hy,Tree.eta]
 refine(aA8 ht hr hE (r.size+1) r q a3 [x] m2 (by omega) (by simp;omega) (by omega) m5 m6).bind (fun e1 e2 he=>⟨rfl,by simp only[he]⟩) ?_
 rintro⟨l,q1,c3,c4⟩ ⟨l',r1,d5⟩ hy2 ⟨n1,n2,n3,n4,n5,n6⟩
 dsimp only at n1 n2 n3 n4 n5 n6
 subst n1;subst n3;subst n4
 simp only[hy2]
 match l with
 | []=>exact⟨_,rfl,rfl,n2,rfl,rfl,n5,n6⟩
 | [x]=>exact⟨(x,q1,c3,c4),rfl,rfl,n2,rfl,rfl,n5,n6⟩
 | x::y::l =>
  refine⟨(Tree.node 3 0 (x::y::l),q1,c3,c4),?_,rfl,n2,rfl,rfl,n5,n6⟩
  simp only[List.length_cons]
  rw[if_neg (by simp;omega)]
theorem L3{d3 d4 o1 o2 o3 o4}:∀(d n:Nat) (deep:Int),d<n→deep=16 - (d:Int)→0≤deep→∀(p:Int) (ts:Toks) (pl:Int),At t p ts→ts.size≤10000→0≤pl→pl≤200 →
  Ok (g8 n t p d3 d4 pl deep o1 o2 o3 o4) (gZ (b9 o1.length) o4 d pl ts) (RT t deep)
 | d,0,deep,hn,_,_,_,_,_,_,_,_,_=>by omega
 | 0,n+1,deep,hn,hd,h0,p,ts,pl,h,hz,hp0,hp1 =>
  aFa ht (E:=none) ⟨h0,by omega,by show deep=16;omega⟩ uN h hz hp0 hp1
 | d+1,n+1,deep,hn,hd,h0,p,ts,pl,h,hz,hp0,hp1=>by
  refine aFa ht (E:=some (gZ (b9 o1.length) o4 d)) ⟨h0,by omega,by omega,fun p1 ts1 pl1 h1 h2 h3=> ?_⟩ D1 h hz hp0 hp1
  have hz1:ts1.size≤10000:=by
   obtain⟨a,b,rfl⟩:=h1
   have:=M2 (t:=t) _ p1.toNat (Nat.le_refl _) (by omega)
   omega
  exact L3 d n (deep+1) (by omega) (by omega) (by omega) p1 ts1 pl1 h1 hz1 h2 h3
end
end Go.Proofs.YtacpjjgochokcaaDoor.T
