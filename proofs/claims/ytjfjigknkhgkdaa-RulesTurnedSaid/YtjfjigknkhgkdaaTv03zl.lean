/- The document's parser of rules says what the pieces say: expressions. -/
import Derived.Test.YtjfjigknkhgkdaaTv03zk
namespace Go.Proofs.Ytjfjigknkhgkdaa.T
open Go Go.Tv Go.Proofs
abbrev RTR(t:List UInt8)(deep:Int)(a:Tree×Int×Int×Int×Int×Int)(b:Tree×Toks×Int):Prop:=a.1=b.1∧At t a.2.1 b.2.1∧a.2.2.1=b.2.2∧a.2.2.2.1=deep∧0≤b.2.2∧b.2.2≤200
abbrev aCI:=List UInt8→Int→Int→Int→Int→Int→Int→Int→List (List UInt8)→List Int→RL→List (List UInt8)→List Int→Option (Tree×Int×Int×Int×Int×Int)
def Y0(t:List UInt8)(rec:aCI)(E:Option (Int→Toks→TR))(deep:Int)(d3 d4:Int)(o1:List (List UInt8))(o2:List Int)(o3:RL)(o4:List (List UInt8))(o5:List Int):Prop :=
 0≤deep∧deep≤16∧match E with
 | none=>deep=16
 | some f=>deep<16∧∀p ts pl,At t p ts→0≤pl→pl≤200→OkR (fun a=>a.2.2.2.2) (rec t p d3 d4 pl (deep+1) 0 0 o1 o2 o3 o4 o5) (f pl ts) (RTR t (deep+1))
theorem rM{p1 p2 p4 p5 p6 p7 p8 p9 p10 p11 p12 p13}(o1:List (List UInt8)):gV p1 p2 o1 p4 p5 p6 p7 p8 p9 p10 p11 p12 p13=some (dM o1.length):=by
 unfold gV
 rw[if_pos (by omega)]
 rfl
section
variable{t:List UInt8}(ht:t.length≤10000)
include ht
theorem wE{c:Nat}{p:Int}{n:Nat}(h:At t p (.bad n))(d3 d4 d5 d6 o1 o2 o3 o4 o5):aH (c:Int) t p d3 d4 d5 d6 0 0 o1 o2 o3 o4 o5=some (false,(n:Int),20,(n:Int)):=by
 unfold aH
 rw[yO ht h]
 rfl
theorem kQ{c:Nat}(hc:dS c=false)(hc0:c≠0){p:Int}{ts:Toks}(h:At t p ts)(hs:bF c ts = .inl (false,ts))(d3 d4 d5 d6 o1 o2 o3 o4 o5):aH (c:Int) t p d3 d4 d5 d6 0 0 o1 o2 o3 o4 o5=some (false,(ts.pos:Int),0,0):=by
 have s:=pH ht hc hc0 h d3 d4 d5 d6 o1 o2 o3 o4 o5
 rw[hs]at s
 obtain⟨⟨b1,q1,u,v⟩,k1,k2,k3,k4,k5⟩:=s
 cases k2
 cases (show b1=false from k3)
 cases (show q1=_ from k5 rfl)
 exact k1
theorem lT{c:Nat}(hc:dS c=false)(hc0:c≠0){p:Int}{ts r:Toks}(h:At t p ts)(hs:bF c ts = .inl (true,r))(d3 d4 d5 d6 o1 o2 o3 o4 o5):∃q,aH (c:Int) t p d3 d4 d5 d6 0 0 o1 o2 o3 o4 o5=some (true,q,0,0)∧At t q r:=by
 have s:=pH ht hc hc0 h d3 d4 d5 d6 o1 o2 o3 o4 o5
 rw[hs]at s
 obtain⟨⟨b1,q1,u,v⟩,k1,k2,k3,k4,k5⟩:=s
 cases k2
 cases (show b1=true from k3)
 exact⟨q1,k1,k4⟩
theorem aBg{rec E deep d3 d4 o1 o2 o3 o4 o5 sets}(hn:Nm o4 o5 sets)(hnl:o4.length≤20000)(hr:Y0 t rec E deep d3 d4 o1 o2 o3 o4 o5){ts:Toks}(hth:xG ts=true)(h:At t ts.pos ts){pl:Int}(hp0:0≤pl)(hp1:pl≤200):
  OkR (fun a=>a.2.2.2.2) (jJ rec t ts.pos d3 d4 pl deep 0 0 o1 o2 o3 o4 o5) (hX E (dM o1.length) sets pl ts) (RTR t deep):=by
 obtain⟨g0,g1,g2⟩:=hr
 have w1:IntKind.i64.wrap (pl+1)=pl+1:=aP (by omega) (by omega)
 have w2:IntKind.i64.wrap (deep+1)=deep+1:=aP (by omega) (by omega)
 unfold jJ
 rw[w1,w2]
 cases ts with
 | bad n=>cases hth
 | eof n=>cases hth
 | wd w n r =>
  rw[show aH 40 t _ d3 d4 pl deep 0 0 o1 o2 o3 o4 o5=_ from kQ ht (c:=40) (by decide) (by decide) h rfl d3 d4 pl deep o1 o2 o3 o4 o5]
  simp only[Option.bind_some,Bool.false_eq_true,if_false,hX]
  by_cases hpl:pl+1 > 200
  ·rw[if_pos (by simpa using hpl),if_pos hpl]
   exact⟨_,rfl,rfl,by show(26:Int)≠0;decide⟩
  ·rw[if_neg (by simpa using hpl),if_neg hpl]
   rw[show aH 46 t _ d3 d4 _ deep 0 0 o1 o2 o3 o4 o5=_ from kQ ht (c:=46) (by decide) (by decide) h rfl d3 d4 (pl+1) deep o1 o2 o3 o4 o5]
   simp only[Option.bind_some,Bool.false_eq_true,if_false]
   rw[show aH 91 t _ d3 d4 _ deep 0 0 o1 o2 o3 o4 o5=_ from kQ ht (c:=91) (by decide) (by decide) h rfl d3 d4 (pl+1) deep o1 o2 o3 o4 o5]
   simp only[Option.bind_some,Bool.false_eq_true,if_false]
   have hm:=G7 ht h d3 d4 (pl+1) deep o1 o2 o3 hn hnl
   simp only[jN,gO]at hm
   cases hl:look sets w with
   | none =>
    rw[hl]at hm
    obtain⟨⟨a1,a2,a3,a4⟩,k1,k2,k3⟩:=hm
    cases k2
    rw[k1]
    exact⟨_,rfl,rfl,by show(22:Int)≠0;decide⟩
   | some x =>
    rw[hl]at hm
    obtain⟨⟨x',q,a3,a4⟩,k1,k2,k3,k4⟩:=hm
    cases k2
    rw[k1]
    dsimp only at k3 k4
    subst k3
    exact⟨_,rfl,rfl,rfl,k4,rfl,rfl,by show(0:Int)≤pl+1;omega,by show pl+1≤(200:Int);omega⟩
 | sg d n r =>
  simp only[hX]
  by_cases hd:d=40
  ·rw[if_pos hd]
   obtain⟨q1,e1,e3⟩:=lT ht (c:=40) (by decide) (by decide) h (show bF 40 (.sg d n r) = .inl (true,r) by simp only[bF,if_pos hd]) d3 d4 pl deep o1 o2 o3 o4 o5
   rw[show aH 40 t _ d3 d4 pl deep 0 0 o1 o2 o3 o4 o5=_ from e1]
   simp only[Option.bind_some,if_true]
   cases E with
   | none =>
    rw[if_pos (by simp;simp only[]at g2;omega)]
    exact⟨_,rfl,rfl,by show(25:Int)≠0;decide⟩
   | some f =>
    obtain⟨g3,g4⟩:=g2
    rw[if_neg (by simp;omega)]
    refine(g4 q1 r pl e3 hp0 hp1).bind ?_ ?_
    ·rintro⟨x,q,a3,a4,c,y⟩ hy hc
     change c≠0 at hc
     refine⟨by simp only[hy],?_⟩
     simp only[gB hc]
     exact⟨_,rfl,rfl⟩
    ·rintro⟨x,q,a3,a4,c,y⟩ ⟨x',r1,b3⟩ hy hcd ⟨m1,m2,m3,m4,m5,m6⟩
     cases hcd
     dsimp only at m1 m2 m3 m4 m5 m6
     subst m1;subst m3;subst m4
     simp only[hy]
     refine(x7 ht (c:=41) (by decide) (by decide) m2 d3 d4 _ _ o1 o2 o3 o4 o5).bind ?_ ?_
     ·rintro⟨q2,c,y⟩ hy2 hc
      exact⟨by simp only[hy2],_,rfl,rfl⟩
     ·rintro⟨q2,c,y⟩ r2 hy2 hcd m7
      cases hcd
      simp only[hy2]
      refine⟨_,rfl,rfl,Tree.eta _,m7,rfl,?_,m5,m6⟩
      show IntKind.i64.wrap (deep+1 - 1)=deep
      rw[aP (by omega) (by omega)];omega
  ·rw[if_neg hd]
   rw[show aH 40 t _ d3 d4 pl deep 0 0 o1 o2 o3 o4 o5=_ from kQ ht (c:=40) (by decide) (by decide) h (by simp only[bF,if_neg hd]) d3 d4 pl deep o1 o2 o3 o4 o5]
   simp only[Option.bind_some,Bool.false_eq_true,if_false]
   by_cases hpl:pl+1 > 200
   ·rw[if_pos (by simpa using hpl),if_pos hpl]
    exact⟨_,rfl,rfl,by show(26:Int)≠0;decide⟩
   ·rw[if_neg (by simpa using hpl),if_neg hpl]
    by_cases hd2:d=46
    ·rw[if_pos hd2]
     obtain⟨q2,f1,f3⟩:=lT ht (c:=46) (by decide) (by decide) h (show bF 46 (.sg d n r) = .inl (true,r) by simp only[bF,if_pos hd2]) d3 d4 (pl+1) deep o1 o2 o3 o4 o5
     rw[show aH 46 t _ d3 d4 _ deep 0 0 o1 o2 o3 o4 o5=_ from f1]
     simp only[Option.bind_some,if_true,rM]
     exact⟨_,rfl,rfl,rfl,f3,rfl,rfl,by show(0:Int)≤pl+1;omega,by show pl+1≤(200:Int);omega⟩
    ·rw[if_neg hd2]
     rw[show aH 46 t _ d3 d4 _ deep 0 0 o1 o2 o3 o4 o5=_ from kQ ht (c:=46) (by decide) (by decide) h (by simp only[bF,if_neg hd2]) d3 d4 (pl+1) deep o1 o2 o3 o4 o5]
     simp only[Option.bind_some,Bool.false_eq_true,if_false]
     have hd3:d=91:=by
      simp only[xG,Bool.or_eq_true,beq_iff_eq]at hth
      omega
     obtain⟨q3,k1,k3⟩:=lT ht (c:=91) (by decide) (by decide) h (show bF 91 (.sg d n r) = .inl (true,r) by simp only[bF,if_pos hd3]) d3 d4 (pl+1) deep o1 o2 o3 o4 o5
     rw[show aH 91 t _ d3 d4 _ deep 0 0 o1 o2 o3 o4 o5=_ from k1]
     simp only[Option.bind_some,if_true]
     refine(pH ht (c:=94) (by decide) (by decide) k3 d3 d4 (pl+1) deep o1 o2 o3 o4 o5).bind ?_ ?_
     ·rintro⟨b,q,c,y⟩ hy hc
      change c≠0 at hc
      refine⟨by simp only[hy],?_⟩
      simp only[o7 hc,rM,Option.bind_some]
      cases b <;> exact⟨_,rfl,rfl⟩
     ·rintro⟨b,q,c,y⟩ ⟨neg,r1⟩ hy hcd ⟨m1,m2,m3⟩
      cases hcd
      dsimp only at m1 m2 m3
      subst m1
      simp only[hy]
      refine(M5 ht (c:=93) (by decide) (by decide) m2 d3 d4 (pl+1) deep o1 o2 o3 hn hnl).bind ?_ ?_
      ·rintro⟨x,q,c,y⟩ hy hc
       refine⟨by simp only[hy],?_⟩
       simp only[rM,Option.bind_some]
       cases b <;> exact⟨_,rfl,rfl⟩
      ·rintro⟨x,q,c,y⟩ ⟨x',r2⟩ hy hcd ⟨n1,n2⟩
       cases hcd
       dsimp only at n1 n2
       subst n1
       simp only[hy,rM,Option.bind_some]
       cases b with
       | true=>exact⟨_,rfl,rfl,rfl,n2,rfl,rfl,by show(0:Int)≤pl+1;omega,by show pl+1≤(200:Int);omega⟩
       | false=>exact⟨_,rfl,rfl,rfl,n2,rfl,rfl,by show(0:Int)≤pl+1;omega,by show pl+1≤(200:Int);omega⟩
end
section
variable{c:Int}(hc:c≠0)
include hc
theorem qA{rec t p d3 d4 pl dp x o1 o2 o3 o4 o5 acc}:iter (bM t d3 d4 o1 o2 o3 o4 o5 rec) (p,pl,dp,c,x,acc)=some (acc,p,pl,dp,c,x):=by
 apply aX
 unfold bM
 have hb:(c != (0:Int))=true:=by simpa using hc
 simp only[oS hc,Option.bind_some,hb,if_true]
theorem X3{rec t p d3 d4 pl dp x o1 o2 o3 o4 o5}:g7 rec t p d3 d4 pl dp c x o1 o2 o3 o4 o5=some (.node 0 0 [],p,pl,dp,c,x):=by
 unfold g7
 rw[qA hc]
 rfl
theorem qH{rec t p d3 d4 pl dp x o1 o2 o3 o4 o5 acc}:iter (b9 t d3 d4 o1 o2 o3 o4 o5 rec) (p,pl,dp,c,x,acc)=some (acc,p,pl,dp,c,x):=by
 apply aX
 unfold b9
 simp only[oX hc,Option.bind_some,Bool.false_eq_true,if_false]
theorem nT{n t p d3 d4 pl dp x o1 o2 o3 o4 o5}:eY (n+1) t p d3 d4 pl dp c x o1 o2 o3 o4 o5=some (.node 0 0 [],p,pl,dp,c,x):=by
 show dU _ t p d3 d4 pl dp c x o1 o2 o3 o4 o5=_
 unfold dU
 rw[X3 hc]
 simp only[Option.bind_some]
 rw[qH hc]
 rfl
end
theorem T2{t:List UInt8}{p:Int}{ts:Toks}(h:At t p ts)(hh:gS ts = .inl (ts.hd,ts.pos)):((if((0:Int) != (0:Int))=true then some (true)
 else((fF (ts.hd:Int)).bind fun(r333:Bool) =>
 (if(!r333)=true then(if((ts.hd:Int) != (40:Int))=true then(if((ts.hd:Int) != (91:Int))=true then some (((ts.hd:Int) != (46:Int)))
 else some (false))
 else some (false))
 else some (false)))))=some (!xG ts):=by
 have h1:=N8 h
 have hb:ts.hd<256:=by
  cases ts with
  | bad n=>cases hh
  | eof n=>exact(by decide:0<256)
  | wd w n r=>exact tN _
  | sg c n r=>exact h.sg.2.2.1
 rw[if_neg (by decide)]
 rw[(kC hb).1]at h1
 rw[zR hb]
 simp only[Option.bind_some]at h1 ⊢
 cases hl:dS ts.hd with
 | true =>
  rw[hl,if_pos rfl]at h1
  injection h1 with h1
  rw[←h1]
  rfl
 | false =>
  rw[hl,if_neg (by decide)]at h1
  rw[if_pos (by decide)]
  by_cases h40:((ts.hd:Int) == 40)=true
  ·rw[if_pos h40]at h1
   injection h1 with h1
   rw[←h1,if_neg (by simp only[bne,h40];decide)]
   rfl
  ·rw[if_neg h40]at h1
   have h40':((ts.hd:Int) == 40)=false:=by simpa using h40
   rw[if_pos (by simp only[bne,h40'];decide)]
   by_cases h91:((ts.hd:Int) == 91)=true
   ·rw[if_pos h91]at h1
    injection h1 with h1
    rw[←h1,if_neg (by simp only[bne,h91];decide)]
    rfl
   ·rw[if_neg h91]at h1
    have h91':((ts.hd:Int) == 91)=false:=by simpa using h91
    rw[if_pos (by simp only[bne,h91'];decide)]
    injection h1 with h1
    rw[←h1]
    rfl
abbrev RLR(t:List UInt8)(deep:Int)(a:List Tree×Int×Int×Int×Int×Int)(b:List Tree×Toks×Int):Prop:=a.1=b.1∧At t a.2.1 b.2.1∧a.2.2.1=b.2.2∧a.2.2.2.1=deep∧0≤b.2.2∧b.2.2≤200
section
variable{t:List UInt8}(ht:t.length≤10000)
include ht
theorem M0{rec E deep d3 d4 o1 o2 o3 o4 o5 sets}(hn:Nm o4 o5 sets)(hnl:o4.length≤20000)(hr:Y0 t rec E deep d3 d4 o1 o2 o3 o4 o5)(hE:lQ E):∀(f:Nat) (ts:Toks) (p pl:Int) (acc:List Tree),At t p ts→ts.size<f→acc.length+ts.size≤20000→0≤pl→pl≤200 →
  OkR (fun a=>a.2.2.2.2) (iter (bM t d3 d4 o1 o2 o3 o4 o5 rec) (p,pl,deep,0,0,acc)) (rT E (dM o1.length) sets f ts pl acc) (RLR t deep)
 | 0,ts,p,pl,acc,_,h,_,_,_=>by omega
 | f+1,ts,p,pl,acc,h,hf,ha,hp0,hp1=>by
  have hR:=yO ht h d3 d4 pl deep o1 o2 o3 o4 o5
  rcases rR ts with hs | ⟨n,rfl⟩
  ·have hR':jO ts=((ts.hd:Int),(ts.pos:Int),0,0):=by
    cases ts with
    | bad n=>cases hs
    | _=>rfl
   rw[hR']at hR
   have hh:=T2 h hs
   simp only[rT,hs]
   cases hth:xG ts with
   | false =>
    rw[hth]at hh
    refine⟨(acc,(ts.pos:Int),pl,deep,0,0),aX ?_,rfl,rfl,h.posn,rfl,rfl,hp0,hp1⟩
    unfold bM
    simp only[hR,Option.bind_some,hh]
    rfl
   | true =>
    rw[hth]at hh
    simp only[if_true]
    have ho:=aBg ht hn hnl hr hth h.posn hp0 hp1
    simp only[lH]
    cases hos:hX E (dM o1.length) sets pl ts with
    | inr e =>
     rw[hos]at ho
     obtain⟨⟨x,q,a3,a4,c,y⟩,k0,k1,k2⟩:=ho
     cases k1
     change c≠0 at k2
     rw[bR (s':=(q,a3,a4,c,y,acc++[x])) (by
      unfold bM
      simp only[hR,Option.bind_some,hh]
      simp only[Bool.not_true,Bool.false_eq_true,if_false,k0,Option.bind_some,oX k2,Tree.eta]
      rw[if_pos ⟨by simp;omega,by simp;omega⟩]),qA k2]
     exact⟨_,rfl,rfl,k2⟩
    | inl xr =>
     obtain⟨x,r,pl1⟩:=xr
     rw[hos]at ho
     obtain⟨⟨x',q,a3,a4,c,y⟩,k0,k1,m1,m2,m3,m4,m5,m6⟩:=ho
     cases k1
     dsimp only at m1 m2 m3 m4 m5 m6
     subst m1;subst m3;subst m4
     have hsz:=tV hE hos
     have s42:=fun hs=>kQ ht (c:=42) (by decide) (by decide) m2 hs d3 d4 a3 a4 o1 o2 o3 o4 o5
     have s43:=fun hs=>kQ ht (c:=43) (by decide) (by decide) m2.posn hs d3 d4 a3 a4 o1 o2 o3 o4 o5
     have s63:=fun hs=>kQ ht (c:=63) (by decide) (by decide) m2.posn hs d3 d4 a3 a4 o1 o2 o3 o4 o5
     have y42:=fun r1 hs=>lT ht (r:=r1) (c:=42) (by decide) (by decide) m2 hs d3 d4 a3 a4 o1 o2 o3 o4 o5
     have y43:=fun r1 hs=>lT ht (r:=r1) (c:=43) (by decide) (by decide) m2.posn hs d3 d4 a3 a4 o1 o2 o3 o4 o5
     have y63:=fun r1 hs=>lT ht (r:=r1) (c:=63) (by decide) (by decide) m2.posn hs d3 d4 a3 a4 o1 o2 o3 o4 o5
     have done:∀q r1 x,At t q r1→r1.size≤r.size→OkR (fun a=>a.2.2.2.2) (iter (bM t d3 d4 o1 o2 o3 o4 o5 rec) (q,a3,a4,0,0,acc++[x])) (rT E (dM o1.length) sets f r1 a3 (acc++[x])) (RLR t a4) :=
      fun q r1 x h1 h2=>M0 hn hnl hr hE f r1 q a3 (acc++[x]) h1 (by omega) (by simp;omega) m5 m6
     have none3:bF 42 r = .inl (false,r)→bF 43 r = .inl (false,r)→bF 63 r = .inl (false,r)→OkR (fun a=>a.2.2.2.2) (iter (bM t d3 d4 o1 o2 o3 o4 o5 rec) (p,pl,a4,0,0,acc)) (rT E (dM o1.length) sets f r a3 (acc++[x'])) (RLR t a4):=fun h1 h2 h3=>by
      rw[bR (s':=((r.pos:Int),a3,a4,0,0,acc++[x'])) (by
       unfold bM
       simp only[hR,Option.bind_some,hh]
       simp only[Bool.not_true,Bool.false_eq_true,if_false,k0,Option.bind_some,Tree.eta]
       rw[show aH 42 t _ d3 d4 a3 a4 0 0 o1 o2 o3 o4 o5=_ from s42 h1]
       simp only[Bool.false_eq_true,if_false,Option.bind_some]
       rw[show aH 43 t _ d3 d4 a3 a4 0 0 o1 o2 o3 o4 o5=_ from s43 h2]
       simp only[Bool.false_eq_true,if_false,Option.bind_some]
       rw[show aH 63 t _ d3 d4 a3 a4 0 0 o1 o2 o3 o4 o5=_ from s63 h3]
       simp only[Bool.false_eq_true,if_false,Option.bind_some,Tree.eta]
       rw[if_pos ⟨by simp;omega,by simp;omega⟩])]
      exact done _ _ _ m2.posn (Nat.le_refl _)
     cases r with
     | bad n =>
      simp only[]
      rw[bR (s':=((n:Int),a3,a4,20,(n:Int),acc++[x'])) (by
       unfold bM
       simp only[hR,Option.bind_some,hh]
       simp only[Bool.not_true,Bool.false_eq_true,if_false,k0,Option.bind_some,Tree.eta]
       rw[show aH 42 t _ d3 d4 a3 a4 0 0 o1 o2 o3 o4 o5=_ from wE ht (c:=42) m2 d3 d4 a3 a4 o1 o2 o3 o4 o5]
       simp only[Bool.false_eq_true,if_false,Option.bind_some,oX (c:=20) (by decide),Tree.eta]
       rw[if_pos ⟨by simp;omega,by simp;omega⟩]),qA (by decide)]
      exact⟨_,rfl,rfl,by show(20:Int)≠0;decide⟩
     | eof n=>exact none3 rfl rfl rfl
     | wd w n r1=>exact none3 rfl rfl rfl
     | sg d n r1 =>
      have hz1:r1.size≤(Toks.sg d n r1).size:=by simp[Toks.size]
      simp only[]
      by_cases h42:d=42
      ·obtain⟨q1,e1,e3⟩:=y42 r1 (by simp only[bF,if_pos h42])
       rw[if_pos h42,bR (s':=(q1,a3,a4,0,0,acc++[Tree.node 4 0 [x']])) (by
        unfold bM
        simp only[hR,Option.bind_some,hh]
        simp only[Bool.not_true,Bool.false_eq_true,if_false,k0,Option.bind_some,Tree.eta]
        rw[show aH 42 t _ d3 d4 a3 a4 0 0 o1 o2 o3 o4 o5=_ from e1]
        simp only[if_true,Option.bind_some]
        rw[if_pos ⟨by simp;omega,by simp;omega⟩])]
       exact done _ _ _ e3 hz1
      ·have n42:bF 42 (.sg d n r1) = .inl (false,.sg d n r1):=by simp only[bF,if_neg h42]
       rw[if_neg h42]
       by_cases h43:d=43
       ·obtain⟨q1,e1,e3⟩:=y43 r1 (by simp only[bF,if_pos h43])
        rw[if_pos h43,bR (s':=(q1,a3,a4,0,0,acc++[Tree.node 5 0 [x']])) (by
         unfold bM
         simp only[hR,Option.bind_some,hh]
         simp only[Bool.not_true,Bool.false_eq_true,if_false,k0,Option.bind_some,Tree.eta]
         rw[show aH 42 t _ d3 d4 a3 a4 0 0 o1 o2 o3 o4 o5=_ from s42 n42]
         simp only[Bool.false_eq_true,if_false,Option.bind_some]
         rw[show aH 43 t _ d3 d4 a3 a4 0 0 o1 o2 o3 o4 o5=_ from e1]
         simp only[if_true,Option.bind_some]
         rw[if_pos ⟨by simp;omega,by simp;omega⟩])]
        exact done _ _ _ e3 hz1
       ·have n43:bF 43 (.sg d n r1) = .inl (false,.sg d n r1):=by simp only[bF,if_neg h43]
        rw[if_neg h43]
        by_cases h63:d=63
        ·obtain⟨q1,e1,e3⟩:=y63 r1 (by simp only[bF,if_pos h63])
         rw[if_pos h63,bR (s':=(q1,a3,a4,0,0,acc++[Tree.node 6 0 [x']])) (by
          unfold bM
          simp only[hR,Option.bind_some,hh]
          simp only[Bool.not_true,Bool.false_eq_true,if_false,k0,Option.bind_some,Tree.eta]
          rw[show aH 42 t _ d3 d4 a3 a4 0 0 o1 o2 o3 o4 o5=_ from s42 n42]
          simp only[Bool.false_eq_true,if_false,Option.bind_some]
          rw[show aH 43 t _ d3 d4 a3 a4 0 0 o1 o2 o3 o4 o5=_ from s43 n43]
          simp only[Bool.false_eq_true,if_false,Option.bind_some]
          rw[show aH 63 t _ d3 d4 a3 a4 0 0 o1 o2 o3 o4 o5=_ from e1]
          simp only[if_true,Option.bind_some]
          rw[if_pos ⟨by simp;omega,by simp;omega⟩])]
         exact done _ _ _ e3 hz1
        ·rw[if_neg h63]
         exact none3 n42 n43 (by simp only[bF,if_neg h63])
  ·simp only[rT,gS]
   refine⟨(acc,(n:Int),pl,deep,20,(n:Int)),aX ?_,rfl,by show(20:Int)≠0;decide⟩
   unfold bM
   simp only[hR,jO]
   rfl
theorem aB2{rec E deep d3 d4 o1 o2 o3 o4 o5 sets}(hn:Nm o4 o5 sets)(hnl:o4.length≤20000)(hr:Y0 t rec E deep d3 d4 o1 o2 o3 o4 o5)(hE:lQ E){p:Int}{ts:Toks}(h:At t p ts)(hz:ts.size≤10000){pl:Int}(hp0:0≤pl)(hp1:pl≤200):
  OkR (fun a=>a.2.2.2.2) (g7 rec t p d3 d4 pl deep 0 0 o1 o2 o3 o4 o5) (qP E (dM o1.length) sets pl ts) (RTR t deep):=by
 unfold g7
 refine(M0 ht hn hnl hr hE (ts.size+1) ts p pl [] h (by omega) (by simp;omega) hp0 hp1).bind ?_ ?_
 ·rintro⟨l,q,a3,a4,c,y⟩ hy hc
  refine⟨by simp only[qP,hy],?_⟩
  match l with
  | []=>exact⟨_,rfl,rfl⟩
  | [x]=>exact⟨_,rfl,rfl⟩
  | x::y::l =>
   simp only[List.length_cons]
   rw[if_neg (by simp;omega),if_neg (by simp;omega)]
   exact⟨_,rfl,rfl⟩
 ·rintro⟨l,q,a3,a4,c,y⟩ ⟨l',r,b3⟩ hy hcd ⟨m1,m2,m3,m4,m5,m6⟩
  cases hcd
  dsimp only at m1 m2 m3 m4 m5 m6
  subst m1;subst m3;subst m4
  simp only[qP,hy]
  match l with
  | []=>exact⟨_,rfl,rfl,rfl,m2,rfl,rfl,m5,m6⟩
  | [x]=>exact⟨_,rfl,rfl,Tree.eta x,m2,rfl,rfl,m5,m6⟩
  | x::y::l =>
   refine⟨(Tree.node 2 0 (x::y::l),q,a3,a4,0,0),?_,rfl,rfl,m2,rfl,rfl,m5,m6⟩
   simp only[List.length_cons]
   rw[if_neg (by simp;omega),if_neg (by simp;omega)]
theorem O2{rec E deep d3 d4 o1 o2 o3 o4 o5 sets}(hn:Nm o4 o5 sets)(hnl:o4.length≤20000)(hr:Y0 t rec E deep d3 d4 o1 o2 o3 o4 o5)(hE:lQ E):∀(f:Nat) (ts:Toks) (p pl:Int) (acc:List Tree),At t p ts→ts.size<f→acc.length+ts.size≤20000→ts.size≤10000→0≤pl→pl≤200 →
  OkR (fun a=>a.2.2.2.2) (iter (b9 t d3 d4 o1 o2 o3 o4 o5 rec) (p,pl,deep,0,0,acc)) (xP E (dM o1.length) sets f ts pl acc) (RLR t deep)
 | 0,ts,p,pl,acc,_,h,_,_,_,_=>by omega
 | f+1,ts,p,pl,acc,h,hf,ha,hz,hp0,hp1=>by
  have hs:=pH ht (c:=124) (by decide) (by decide) h d3 d4 pl deep o1 o2 o3 o4 o5
  simp only[xP]
  cases hss:bF 124 ts with
  | inr e =>
   have hts:∃n,ts = .bad n∧e=(20,(n:Int)):=by
    cases ts with
    | bad n=>cases hss;exact⟨n,rfl,rfl⟩
    | eof n=>cases hss
    | wd w n r=>cases hss
    | sg d n r=>simp only[bF]at hss;split at hss <;> cases hss
   obtain⟨n,rfl,rfl⟩:=hts
   refine⟨(acc,(n:Int),pl,deep,20,(n:Int)),aX ?_,rfl,by show(20:Int)≠0;decide⟩
   unfold b9
   simp only[]
   rw[show aH 124 t _ d3 d4 pl deep 0 0 o1 o2 o3 o4 o5=_ from wE ht (c:=124) h d3 d4 pl deep o1 o2 o3 o4 o5]
   rfl
  | inl br =>
   obtain⟨b,r⟩:=br
   rw[hss]at hs
   obtain⟨⟨b1,q1,u,v⟩,e1,e2,e3,e4,e5⟩:=hs
   cases e2
   dsimp only at e1 e3 e4 e5
   subst e3
   have hsz:=eF hss
   cases b1 with
   | false =>
    refine⟨(acc,q1,pl,deep,0,0),aX ?_,rfl,rfl,e4,rfl,rfl,hp0,hp1⟩
    unfold b9
    simp only[]
    rw[show aH 124 t _ d3 d4 pl deep 0 0 o1 o2 o3 o4 o5=_ from e1]
    rfl
   | true =>
    simp only[if_true]at hsz
    have ho:=aB2 ht hn hnl hr hE e4 (by omega) hp0 hp1
    simp only[]
    cases hos:qP E (dM o1.length) sets pl r with
    | inr e =>
     rw[hos]at ho
     obtain⟨⟨x,q,a3,a4,c,y⟩,k0,k1,k2⟩:=ho
     cases k1
     change c≠0 at k2
     rw[bR (s':=(q,a3,a4,c,y,acc++[x])) (by
      unfold b9
      simp only[]
      rw[show aH 124 t _ d3 d4 pl deep 0 0 o1 o2 o3 o4 o5=_ from e1]
      simp only[Option.bind_some,if_true]
      rw[k0]
      simp only[Option.bind_some,Tree.eta]
      rw[if_pos ⟨by simp;omega,by simp;omega⟩]),qH k2]
     exact⟨_,rfl,rfl,k2⟩
    | inl xr =>
     obtain⟨x,r1,pl1⟩:=xr
     rw[hos]at ho
     obtain⟨⟨x',q,a3,a4,c,y⟩,k0,k1,m1,m2,m3,m4,m5,m6⟩:=ho
     cases k1
     dsimp only at m1 m2 m3 m4 m5 m6
     subst m1;subst m3;subst m4
     have hsz2:=gZ hE hos
     rw[bR (s':=(q,a3,a4,0,0,acc++[x'])) (by
      unfold b9
      simp only[]
      rw[show aH 124 t _ d3 d4 pl a4 0 0 o1 o2 o3 o4 o5=_ from e1]
      simp only[Option.bind_some,if_true]
      rw[k0]
      simp only[Option.bind_some,Tree.eta]
      rw[if_pos ⟨by simp;omega,by simp;omega⟩])]
     exact O2 hn hnl hr hE f r1 q a3 (acc++[x']) m2 (by omega) (by simp;omega) (by omega) m5 m6
theorem aAO{rec E deep d3 d4 o1 o2 o3 o4 o5 sets}(hn:Nm o4 o5 sets)(hnl:o4.length≤20000)(hr:Y0 t rec E deep d3 d4 o1 o2 o3 o4 o5)(hE:lQ E){p:Int}{ts:Toks}(h:At t p ts)(hz:ts.size≤10000){pl:Int}(hp0:0≤pl)(hp1:pl≤200):
  OkR (fun a=>a.2.2.2.2) (dU rec t p d3 d4 pl deep 0 0 o1 o2 o3 o4 o5) (mV E (dM o1.length) sets pl ts) (RTR t deep):=by
 unfold dU
 refine(aB2 ht hn hnl hr hE h hz hp0 hp1).bind ?_ ?_
 ·rintro⟨x,q,a3,a4,c,y⟩ hy hc
  change c≠0 at hc
  refine⟨by simp only[mV,hy],?_⟩
  simp only[qH hc]
  exact⟨_,rfl,rfl⟩
 ·rintro⟨x,q,a3,a4,c,y⟩ ⟨x',r,b3⟩ hy hcd ⟨m1,m2,m3,m4,m5,m6⟩
  cases hcd
  dsimp only at m1 m2 m3 m4 m5 m6
  subst m1;subst m3;subst m4
  have hsz:=gZ hE hy
  simp only[mV,hy,Tree.eta]
  refine(O2 ht hn hnl hr hE (r.size+1) r q a3 [x] m2 (by omega) (by simp;omega) (by omega) m5 m6).bind ?_ ?_
  ·rintro⟨l,q1,c3,c4,c,y⟩ hy2 hc
   refine⟨by simp only[hy2],?_⟩
   match l with
   | []=>exact⟨_,rfl,rfl⟩
   | [x]=>exact⟨_,rfl,rfl⟩
   | x::y::l =>
    simp only[List.length_cons]
    rw[if_neg (by simp;omega)]
    exact⟨_,rfl,rfl⟩
  ·rintro⟨l,q1,c3,c4,c,y⟩ ⟨l',r1,d5⟩ hy2 hcd ⟨n1,n2,n3,n4,n5,n6⟩
   cases hcd
   dsimp only at n1 n2 n3 n4 n5 n6
   subst n1;subst n3;subst n4
   simp only[hy2]
   match l with
   | []=>exact⟨_,rfl,rfl,rfl,n2,rfl,rfl,n5,n6⟩
   | [x]=>exact⟨(x,q1,c3,c4,0,0),rfl,rfl,rfl,n2,rfl,rfl,n5,n6⟩
   | x::y::l =>
    refine⟨(Tree.node 3 0 (x::y::l),q1,c3,c4,0,0),?_,rfl,rfl,n2,rfl,rfl,n5,n6⟩
    simp only[List.length_cons]
    rw[if_neg (by simp;omega)]
theorem zD{d3 d4 o1 o2 o3 o4 o5 sets}(hnm:Nm o4 o5 sets)(hnl:o4.length≤20000):∀(d n:Nat) (deep:Int),d<n→deep=16 - (d:Int)→0≤deep→∀(p:Int) (ts:Toks) (pl:Int),At t p ts→ts.size≤10000→0≤pl→pl≤200 →
  OkR (fun a=>a.2.2.2.2) (eY n t p d3 d4 pl deep 0 0 o1 o2 o3 o4 o5) (iY (dM o1.length) sets d pl ts) (RTR t deep)
 | d,0,deep,hn,_,_,_,_,_,_,_,_,_=>by omega
 | 0,n+1,deep,hn,hd,h0,p,ts,pl,h,hz,hp0,hp1 =>
  aAO ht hnm hnl (E:=none) ⟨h0,by omega,by show deep=16;omega⟩ oV h hz hp0 hp1
 | d+1,n+1,deep,hn,hd,h0,p,ts,pl,h,hz,hp0,hp1=>by
  refine aAO ht hnm hnl (E:=some (iY (dM o1.length) sets d)) ⟨h0,by omega,by omega,fun p1 ts1 pl1 h1 h2 h3=> ?_⟩ sG h hz hp0 hp1
  have hz1:ts1.size≤10000:=by
   obtain⟨a,b,rfl⟩:=h1
   have:=qK (t:=t) _ p1.toNat (Nat.le_refl _) (by omega)
   omega
  exact zD hnm hnl d n (deep+1) (by omega) (by omega) (by omega) p1 ts1 pl1 h1 hz1 h2 h3
end
end Go.Proofs.Ytjfjigknkhgkdaa.T
