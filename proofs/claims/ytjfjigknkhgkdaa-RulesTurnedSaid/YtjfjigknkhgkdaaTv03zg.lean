/- The program's parser of rules says what the pieces say: names, sets, things. -/
import Derived.Test.YtjfjigknkhgkdaaTv03zf
namespace Go.Proofs.Ytjfjigknkhgkdaa.T
open Go Go.Tv Go.Proofs
theorem Ok.bind{A B C D:Type}{x:Option (A⊕Er)}{y:B⊕Er}{R:A→B→Prop}(h:Ok x y R){k:A⊕Er→Option (C⊕Er)}{s:D⊕Er}{R':C→D→Prop}
  (h1:∀e1 e2,y = .inr (e1,e2)→k (.inr (e1,e2))=some (.inr (e1,e2))∧s = .inr (e1,e2)) (h2:∀a b,y = .inl b→R a b→Ok (k (.inl a)) s R'):Ok (x.bind k) s R':=by
 cases y with
 | inr e =>
  obtain⟨e1,e2⟩:=e
  rw[show x=some (.inr (e1,e2))from h,Option.bind_some,(h1 e1 e2 rfl).1,(h1 e1 e2 rfl).2]
  rfl
 | inl b =>
  obtain⟨a,h3,h4⟩:=h
  rw[h3]
  exact h2 a b rfl h4
theorem u9{c:Nat}(h:dS c=false){w:List UInt8}(hw:dS ((w.headD 0).toNat)=true):(((w.headD 0).toNat:Nat):Int)≠(c:Int):=fun hh=>by
 have:(w.headD 0).toNat=c:=by omega
 rw[this,h]at hw;cases hw
section
variable{t:List UInt8}(ht:t.length≤10000)
include ht
theorem Z5{p:Int}{ts:Toks}(h:At t p ts)(d3 d4 d5 d6 o1 o2 o3 o4):Ok (fZ t p d3 d4 d5 d6 o1 o2 o3 o4) (hU o4 ts) (fun a b=>a.1=b.1∧At t a.2 b.2.2):=by
 unfold fZ
 refine(F8 ht h d3 d4 d5 d6 o1 o2 o3 o4).bind (fun e1 e2 he=>⟨rfl,by simp only[hU,he]⟩) ?_
 rintro⟨w,n,q⟩ ⟨w',n',r⟩ hy ⟨h1,h2,h3⟩
 dsimp only at h1 h2 h3
 subst h1;subst h2
 simp only[hU,hy]
 cases hl:look o4 w with
 | some b=>rw[show dI .str o4 w=some b from hl];rfl
 | none=>rw[show dI .str o4 w=none from hl];exact⟨_,rfl,rfl,h3⟩
theorem yQ{p:Int}{ts:Toks}(h:At t p ts)(d3 d4 d5 d6 o1 o2 o3 o4):Ok (dN t p d3 d4 d5 d6 o1 o2 o3 o4) (jN o4 ts) (fun a b=>a.1=b.1∧At t a.2 b.2):=by
 unfold dN
 refine(F8 ht h d3 d4 d5 d6 o1 o2 o3 o4).bind (fun e1 e2 he=>⟨rfl,by simp only[jN,he]⟩) ?_
 rintro⟨w,n,q⟩ ⟨w',n',r⟩ hy ⟨h1,h2,h3⟩
 dsimp only at h1 h2 h3
 subst h1;subst h2
 simp only[jN,hy]
 cases hl:look o4 w with
 | some b=>rw[show dI .str o4 w=some b from hl];exact⟨_,rfl,rfl,h3⟩
 | none=>rw[show dI .str o4 w=none from hl];rfl
theorem B2{c:Nat}(hc:dS c=false)(hc0:c≠0)(d3 d4 d5 d6 o1 o2 o3 o4):∀(ts:Toks) (p b:Int),At t p ts→Ok (iter (bP (c:Int) t d3 d4 d5 d6 o1 o2 o3 o4) (p,b)) (jG c o4 ts b) (fun a b=>a.2=b.1∧At t (a.1+1) b.2∧0≤a.1∧a.1<t.length)
 | .bad n,p,b,h=>by
  apply aX
  unfold bP
  simp only[lA ht h]
  rfl
 | .eof n,p,b,h=>by
  have hn:=yQ ht h.posn d3 d4 d5 d6 o1 o2 o3 o4
  apply aX
  unfold bP
  simp only[lA ht h,Option.bind_some,gS]
  rw[if_pos (by simp[Toks.hd];omega),show dN t _ d3 d4 d5 d6 o1 o2 o3 o4=some (.inr (21,(n:Int)))from hn]
  rfl
 | .sg d n r,p,b,h=>by
  obtain⟨h1,h2,h3,h4,h5⟩:=h.sg
  have hn:=yQ ht h.posn d3 d4 d5 d6 o1 o2 o3 o4
  simp only[jG]
  by_cases hd:d=c
  ·rw[if_pos hd]
   refine⟨((n:Int),b),?_,rfl,h4,by simp only[];omega,by simp only[];omega⟩
   apply aX
   unfold bP
   simp only[lA ht h,Option.bind_some,gS,Toks.hd,Toks.pos]
   rw[if_neg (by simp[hd])]
  ·rw[if_neg hd]
   apply aX
   unfold bP
   simp only[lA ht h,Option.bind_some,gS,Toks.hd]
   rw[if_pos (by simp;omega),show dN t _ d3 d4 d5 d6 o1 o2 o3 o4=some (.inr (21,(n:Int)))from hn]
   rfl
 | .wd w n r,p,b,h=>by
  obtain⟨h1,h2,h3,h4,h5⟩:=h.wd
  have hn:=yQ ht h.posn d3 d4 d5 d6 o1 o2 o3 o4
  simp only[jG]
  simp only[jN,gO]at hn
  cases hl:look o4 w with
  | none =>
   rw[hl]at hn
   apply aX
   unfold bP
   simp only[lA ht h,Option.bind_some,gS,Toks.hd]
   rw[if_pos (by simpa using u9 hc h1),show dN t _ d3 d4 d5 d6 o1 o2 o3 o4=some (.inr (22,(n:Int)))from hn]
   rfl
  | some x =>
   rw[hl]at hn
   obtain⟨⟨x',q⟩,e1,e2,e3⟩:=hn
   dsimp only at e2 e3
   subst e2
   have hb:bP (c:Int) t d3 d4 d5 d6 o1 o2 o3 o4 (p,b)=some (.inl (q,bY .or .u32 b x')):=by
    unfold bP
    simp only[lA ht h,Option.bind_some,gS,Toks.hd]
    rw[if_pos (by simpa using u9 hc h1),e1]
    rfl
   rw[bR hb]
   exact B2 hc hc0 d3 d4 d5 d6 o1 o2 o3 o4 r q _ e3
theorem M2{c:Nat}(hc:dS c=false)(hc0:c≠0){ts:Toks}{p:Int}(h:At t p ts)(d3 d4 d5 d6 o1 o2 o3 o4):Ok (cH (c:Int) t p d3 d4 d5 d6 o1 o2 o3 o4) (jG c o4 ts 0) (fun a b=>a.1=b.1∧At t a.2 b.2):=by
 unfold cH
 refine(B2 ht hc hc0 d3 d4 d5 d6 o1 o2 o3 o4 ts p 0 h).bind (fun e1 e2 he=>⟨rfl,he⟩) ?_
 rintro⟨q,x⟩ ⟨x',r⟩ hy ⟨h1,h2,h3,h4⟩
 rw[hy]
 refine⟨_,rfl,h1,?_⟩
 dsimp only at h2 h3 h4 ⊢
 rw[aP (by omega) (by omega)]
 exact h2
end
theorem Tree.eta(x:Tree):Tree.node x.op x.set x.kids=x:=by cases x;rfl
def Rec(t:List UInt8)(rec:List UInt8→Int→Int→Int→Int→Int→List (List UInt8)→List Int→RL→iF→Option ((Tree×Int×Int×Int)⊕(Int×Int)))(E:Option (Int→Toks→TR))(deep:Int)(d3 d4:Int)(o1:List (List UInt8))(o2:List Int)(o3:RL)(o4:iF):Prop :=
 0≤deep∧deep≤16∧match E with
 | none=>deep=16
 | some f=>deep<16∧∀p ts pl,At t p ts→0≤pl→pl≤200→Ok (rec t p d3 d4 pl (deep+1) o1 o2 o3 o4) (f pl ts) (fun a b=>a.1=b.1∧At t a.2.1 b.2.1∧a.2.2.1=b.2.2∧a.2.2.2=deep+1∧0≤b.2.2∧b.2.2≤200)
abbrev RT(t:List UInt8)(deep:Int)(a:Tree×Int×Int×Int)(b:Tree×Toks×Int):Prop:=a.1=b.1∧At t a.2.1 b.2.1∧a.2.2.1=b.2.2∧a.2.2.2=deep∧0≤b.2.2∧b.2.2≤200
section
variable{t:List UInt8}(ht:t.length≤10000)
include ht
theorem aA7{rec E deep d3 d4 o1 o2 o3 o4}(hr:Rec t rec E deep d3 d4 o1 o2 o3 o4){ts:Toks}(hth:xG ts=true)(h:At t ts.pos ts){pl:Int}(hp0:0≤pl)(hp1:pl≤200):
  Ok (jF rec t ts.pos d3 d4 pl deep o1 o2 o3 o4) (hX E (dM o1.length) o4 pl ts) (RT t deep):=by
 obtain⟨g0,g1,g2⟩:=hr
 have w1:IntKind.i64.wrap (pl+1)=pl+1:=aP (by omega) (by omega)
 have w2:IntKind.i64.wrap (deep+1)=deep+1:=aP (by omega) (by omega)
 unfold jF
 rw[w1,w2]
 cases ts with
 | bad n=>cases hth
 | eof n=>cases hth
 | wd w n r =>
  have s1:=lX ht (c:=40) (by decide) (by decide) h d3 d4 pl deep o1 o2 o3 o4
  obtain⟨⟨b1,q1⟩,e1,e2,e3,e4⟩:=s1
  dsimp only at e2 e3 e4
  subst e2
  rw[show aJ 40 t _ d3 d4 pl deep o1 o2 o3 o4=_ from e1]
  simp only[Option.bind_some,Bool.false_eq_true,if_false,hX]
  by_cases hpl:pl+1 > 200
  ·rw[if_pos (by simpa using hpl),if_pos hpl]
   rfl
  ·rw[if_neg (by simpa using hpl),if_neg hpl,if_pos (by omega)]
   obtain⟨⟨b2,q2⟩,f1,f2,f3,f4⟩:=lX ht (c:=46) (by decide) (by decide) e3 d3 d4 (pl+1) deep o1 o2 o3 o4
   dsimp only at f2 f3 f4
   subst f2
   rw[show aJ 46 t _ d3 d4 _ deep o1 o2 o3 o4=_ from f1]
   simp only[Option.bind_some,Bool.false_eq_true,if_false]
   obtain⟨⟨b3,q3⟩,k1,k2,k3,k4⟩:=lX ht (c:=91) (by decide) (by decide) f3 d3 d4 (pl+1) deep o1 o2 o3 o4
   dsimp only at k2 k3 k4
   subst k2
   rw[show aJ 91 t _ d3 d4 _ deep o1 o2 o3 o4=_ from k1]
   simp only[Option.bind_some,Bool.false_eq_true,if_false]
   have hn:=yQ ht k3 d3 d4 (pl+1) deep o1 o2 o3 o4
   simp only[jN,gO]at hn
   cases hl:look o4 w with
   | none =>
    rw[hl]at hn
    rw[show dN t q3 d3 d4 (pl+1) deep o1 o2 o3 o4=_ from hn]
    rfl
   | some x =>
    rw[hl]at hn
    obtain⟨⟨x',q⟩,n1,n2,n3⟩:=hn
    rw[n1]
    dsimp only at n2 n3
    subst n2
    exact⟨_,rfl,rfl,n3,rfl,rfl,by show(0:Int)≤pl+1;omega,by show pl+1≤(200:Int);omega⟩
 | sg d n r =>
  have s1:=lX ht (c:=40) (by decide) (by decide) h d3 d4 pl deep o1 o2 o3 o4
  simp only[bF]at s1
  simp only[hX]
  by_cases hd:d=40
  ·rw[if_pos hd]at s1 ⊢
   obtain⟨⟨b1,q1⟩,e1,e2,e3,e4⟩:=s1
   dsimp only at e2 e3 e4
   subst e2
   rw[show aJ 40 t _ d3 d4 pl deep o1 o2 o3 o4=_ from e1]
   simp only[Option.bind_some,if_true]
   cases E with
   | none =>
    rw[if_pos (by simp;simp only[]at g2;omega)]
    rfl
   | some f =>
    obtain⟨g3,g4⟩:=g2
    rw[if_neg (by simp;omega)]
    refine(g4 q1 r pl e3 hp0 hp1).bind (fun e1 e2 he=>⟨rfl,by simp only[he]⟩) ?_
    rintro⟨x,q,a3,a4⟩ ⟨x',r1,b3⟩ hy ⟨m1,m2,m3,m4,m5,m6⟩
    dsimp only at m1 m2 m3 m4 m5 m6
    subst m1;subst m3;subst m4
    simp only[hy]
    refine(xT ht (c:=41) (by decide) (by decide) m2 d3 d4 _ _ o1 o2 o3 o4).bind (fun e1 e2 he=>⟨rfl,by simp only[he]⟩) ?_
    rintro q2 r2 hy2 m7
    simp only[hy2]
    refine⟨_,rfl,Tree.eta _,m7,rfl,?_,m5,m6⟩
    show IntKind.i64.wrap (deep+1 - 1)=deep
    rw[aP (by omega) (by omega)];omega
  ·rw[if_neg hd]at s1 ⊢
   obtain⟨⟨b1,q1⟩,e1,e2,e3,e4⟩:=s1
   dsimp only at e2 e3 e4
   subst e2
   rw[show aJ 40 t _ d3 d4 pl deep o1 o2 o3 o4=_ from e1]
   simp only[Option.bind_some,Bool.false_eq_true,if_false]
   by_cases hpl:pl+1 > 200
   ·rw[if_pos (by simpa using hpl),if_pos hpl]
    rfl
   ·rw[if_neg (by simpa using hpl),if_neg hpl,if_pos (by omega)]
    have s2:=lX ht (c:=46) (by decide) (by decide) e3 d3 d4 (pl+1) deep o1 o2 o3 o4
    simp only[bF]at s2
    by_cases hd2:d=46
    ·rw[if_pos hd2]at s2 ⊢
     obtain⟨⟨b2,q2⟩,f1,f2,f3,f4⟩:=s2
     dsimp only at f2 f3 f4
     subst f2
     rw[show aJ 46 t _ d3 d4 _ deep o1 o2 o3 o4=_ from f1]
     exact⟨_,rfl,rfl,f3,rfl,rfl,by show(0:Int)≤pl+1;omega,by show pl+1≤(200:Int);omega⟩
    ·rw[if_neg hd2]at s2 ⊢
     obtain⟨⟨b2,q2⟩,f1,f2,f3,f4⟩:=s2
     dsimp only at f2 f3 f4
     subst f2
     rw[show aJ 46 t _ d3 d4 _ deep o1 o2 o3 o4=_ from f1]
     simp only[Option.bind_some,Bool.false_eq_true,if_false]
     have hd3:d=91:=by
      simp only[xG,Bool.or_eq_true,beq_iff_eq]at hth
      omega
     have s3:=lX ht (c:=91) (by decide) (by decide) f3 d3 d4 (pl+1) deep o1 o2 o3 o4
     simp only[bF,if_pos hd3]at s3
     obtain⟨⟨b3,q3⟩,k1,k2,k3,k4⟩:=s3
     dsimp only at k2 k3 k4
     subst k2
     rw[show aJ 91 t _ d3 d4 _ deep o1 o2 o3 o4=_ from k1]
     simp only[Option.bind_some,if_true]
     have s4:=lX ht (c:=94) (by decide) (by decide) k3 d3 d4 (pl+1) deep o1 o2 o3 o4
     cases hs4:bF 94 r with
     | inr e =>
      rw[hs4]at s4
      obtain⟨e1,e2⟩:=e
      rw[show aJ 94 t _ d3 d4 _ deep o1 o2 o3 o4=_ from s4]
      rfl
     | inl br =>
      obtain⟨neg,r1⟩:=br
      rw[hs4]at s4
      obtain⟨⟨b4,q4⟩,m1,m2,m3,m4⟩:=s4
      dsimp only at m2 m3 m4
      subst m2
      rw[show aJ 94 t _ d3 d4 _ deep o1 o2 o3 o4=_ from m1]
      simp only[Option.bind_some]
      have s5:=M2 ht (c:=93) (by decide) (by decide) m3 d3 d4 (pl+1) deep o1 o2 o3 o4
      cases hs5:jG 93 o4 r1 0 with
      | inr e =>
       rw[hs5]at s5
       obtain⟨e1,e2⟩:=e
       simp only[]
       rw[show cH 93 t _ d3 d4 _ deep o1 o2 o3 o4=_ from s5]
       rfl
      | inl xr =>
       obtain⟨x,r2⟩:=xr
       rw[hs5]at s5
       obtain⟨⟨x',q5⟩,n1,n2,n3⟩:=s5
       dsimp only at n2 n3
       subst n2
       rw[show cH 93 t _ d3 d4 _ deep o1 o2 o3 o4=_ from n1]
       simp only[Option.bind_some]
       cases b4 with
       | true=>exact⟨_,rfl,rfl,n3,rfl,rfl,by show(0:Int)≤pl+1;omega,by show pl+1≤(200:Int);omega⟩
       | false=>exact⟨_,rfl,rfl,n3,rfl,rfl,by show(0:Int)≤pl+1;omega,by show pl+1≤(200:Int);omega⟩
end
end Go.Proofs.Ytjfjigknkhgkdaa.T
