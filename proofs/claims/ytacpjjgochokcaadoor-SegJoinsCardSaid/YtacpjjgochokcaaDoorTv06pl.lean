/- The document's parser of rules says what the pieces say: expressions. -/
import Derived.Test.YtacpjjgochokcaaDoorTv06pjm
namespace Go.Proofs.YtacpjjgochokcaaDoor.T
open Go Go.Tv Go.Proofs
abbrev RTR(t:List UInt8)(deep:Int)(a:Tree×Int×Int×Int×Int×Int)(b:Tree×Toks×Int):Prop:=a.1=b.1∧At t a.2.1 b.2.1∧a.2.2.1=b.2.2∧a.2.2.2.1=deep∧0≤b.2.2∧b.2.2≤200
abbrev aKV:=List UInt8→Int→Int→Int→Int→Int→Int→Int→List (List UInt8)→List Int→RL→List (List UInt8)→List Int→Option (Tree×Int×Int×Int×Int×Int)
def aGa(t:List UInt8)(rec:aKV)(E:Option (Int→Toks→TR))(deep:Int)(d3 d4:Int)(o1:List (List UInt8))(o2:List Int)(o3:RL)(o4:List (List UInt8))(o5:List Int):Prop :=
 0≤deep∧deep≤16∧match E with
 | none=>deep=16
 | some f=>deep<16∧∀p ts pl,At t p ts→0≤pl→pl≤200→OkR (fun a=>a.2.2.2.2) (rec t p d3 d4 pl (deep+1) 0 0 o1 o2 o3 o4 o5) (f pl ts) (RTR t (deep+1))
theorem xL{p1 p2 p4 p5 p6 p7 p8 p9 p10 p11 p12 p13}(o1:List (List UInt8)):kO p1 p2 o1 p4 p5 p6 p7 p8 p9 p10 p11 p12 p13=some (bZ o1.length):=by
 unfold kO
 rw[if_pos (by omega)]
 rfl
section
variable{t:List UInt8}(ht:t.length≤10000)
include ht
theorem H9{c:Nat}{p:Int}{n:Nat}(h:At t p (.bad n))(d3 d4 d5 d6 o1 o2 o3 o4 o5):aQ (c:Int) t p d3 d4 d5 d6 0 0 o1 o2 o3 o4 o5=some (false,(n:Int),20,(n:Int)):=by
 unfold aQ
 rw[T4 ht h]
 rfl
theorem pE{c:Nat}(hc:cW c=false)(hc0:c≠0){p:Int}{ts:Toks}(h:At t p ts)(hs:bF c ts = .inl (false,ts))(d3 d4 d5 d6 o1 o2 o3 o4 o5):aQ (c:Int) t p d3 d4 d5 d6 0 0 o1 o2 o3 o4 o5=some (false,(ts.pos:Int),0,0):=by
 have s:=u5 ht hc hc0 h d3 d4 d5 d6 o1 o2 o3 o4 o5
 rw[hs]at s
 obtain⟨⟨b1,q1,u,v⟩,k1,k2,k3,k4,k5⟩:=s
 cases k2
 cases (show b1=false from k3)
 cases (show q1=_ from k5 rfl)
 exact k1
theorem qX{c:Nat}(hc:cW c=false)(hc0:c≠0){p:Int}{ts r:Toks}(h:At t p ts)(hs:bF c ts = .inl (true,r))(d3 d4 d5 d6 o1 o2 o3 o4 o5):∃q,aQ (c:Int) t p d3 d4 d5 d6 0 0 o1 o2 o3 o4 o5=some (true,q,0,0)∧At t q r:=by
 have s:=u5 ht hc hc0 h d3 d4 d5 d6 o1 o2 o3 o4 o5
 rw[hs]at s
 obtain⟨⟨b1,q1,u,v⟩,k1,k2,k3,k4,k5⟩:=s
 cases k2
 cases (show b1=true from k3)
 exact⟨q1,k1,k4⟩
theorem aH5{rec E deep d3 d4 o1 o2 o3 o4 o5 sets}(hn:Nm o4 o5 sets)(hnl:o4.length≤20000)(hr:aGa t rec E deep d3 d4 o1 o2 o3 o4 o5){ts:Toks}(hth:xJ ts=true)(h:At t ts.pos ts){pl:Int}(hp0:0≤pl)(hp1:pl≤200):
  OkR (fun a=>a.2.2.2.2) (mM rec t ts.pos d3 d4 pl deep 0 0 o1 o2 o3 o4 o5) (hU E (bZ o1.length) sets pl ts) (RTR t deep):=by
 obtain⟨g0,g1,g2⟩:=hr
 have w1:IntKind.i64.wrap (pl+1)=pl+1:=aO (by omega) (by omega)
 have w2:IntKind.i64.wrap (deep+1)=deep+1:=aO (by omega) (by omega)
 unfold mM
 rw[w1,w2]
 cases ts with
 | bad n=>cases hth
 | eof n=>cases hth
 | wd w n r =>
  rw[show aQ 40 t _ d3 d4 pl deep 0 0 o1 o2 o3 o4 o5=_ from pE ht (c:=40) (by decide) (by decide) h rfl d3 d4 pl deep o1 o2 o3 o4 o5]
  simp only[Option.bind_some,Bool.false_eq_true,if_false,hU]
  by_cases hpl:pl+1 > 200
  ·rw[if_pos (by simpa using hpl),if_pos hpl]
   exact⟨_,rfl,rfl,by show(26:Int)≠0;decide⟩
  ·rw[if_neg (by simpa using hpl),if_neg hpl]
   rw[show aQ 46 t _ d3 d4 _ deep 0 0 o1 o2 o3 o4 o5=_ from pE ht (c:=46) (by decide) (by decide) h rfl d3 d4 (pl+1) deep o1 o2 o3 o4 o5]
   simp only[Option.bind_some,Bool.false_eq_true,if_false]
   rw[show aQ 91 t _ d3 d4 _ deep 0 0 o1 o2 o3 o4 o5=_ from pE ht (c:=91) (by decide) (by decide) h rfl d3 d4 (pl+1) deep o1 o2 o3 o4 o5]
   simp only[Option.bind_some,Bool.false_eq_true,if_false]
   have hm:=aCc ht h d3 d4 (pl+1) deep o1 o2 o3 hn hnl
   simp only[mY,iZ]at hm
   cases hl:look sets w with
   | none =>
    rw[hl]at hm
    obtain⟨⟨a1,a2,a3,a4⟩,k1,k2,k3⟩:=hm
    cases k2
    rw[k1]
    exact⟨_,rfl,rfl,by show(22:Int)≠0;decide⟩
   | some x =>
    rw[hl]at hm
    obtain⟨⟨x',q,a3,a4⟩,k1,k2,k3,k4⟩:=hm
    cases k2
    rw[k1]
    dsimp only at k3 k4
    subst k3
    exact⟨_,rfl,rfl,rfl,k4,rfl,rfl,by show(0:Int)≤pl+1;omega,by show pl+1≤(200:Int);omega⟩
 | sg d n r =>
  simp only[hU]
  by_cases hd:d=40
  ·rw[if_pos hd]
   obtain⟨q1,e1,e3⟩:=qX ht (c:=40) (by decide) (by decide) h (show bF 40 (.sg d n r) = .inl (true,r) by simp only[bF,if_pos hd]) d3 d4 pl deep o1 o2 o3 o4 o5
   rw[show aQ 40 t _ d3 d4 pl deep 0 0 o1 o2 o3 o4 o5=_ from e1]
   simp only[Option.bind_some,if_true]
   cases E with
   | none =>
    rw[if_pos (by simp;simp only[]at g2;omega)]
    exact⟨_,rfl,rfl,by show(25:Int)≠0;decide⟩
   | some f =>
    obtain⟨g3,g4⟩:=g2
    rw[if_neg (by simp;omega)]
    refine(g4 q1 r pl e3 hp0 hp1).bind ?_ ?_
    ·rintro⟨x,q,a3,a4,c,y⟩ hy hc
     change c≠0 at hc
     refine⟨by simp only[hy],?_⟩
     simp only[jK hc]
     exact⟨_,rfl,rfl⟩
    ·rintro⟨x,q,a3,a4,c,y⟩ ⟨x',r1,b3⟩ hy hcd ⟨m1,m2,m3,m4,m5,m6⟩
     cases hcd
     dsimp only at m1 m2 m3 m4 m5 m6
     subst m1;subst m3;subst m4
     simp only[hy]
     refine(R7 ht (c:=41) (by decide) (by decide) m2 d3 d4 _ _ o1 o2 o3 o4 o5).bind ?_ ?_
     ·rintro⟨q2,c,y⟩ hy2 hc
      exact⟨by simp only[hy2],_,rfl,rfl⟩
     ·rintro⟨q2,c,y⟩ r2 hy2 hcd m7
      cases hcd
      simp only[hy2]
      refine⟨_,rfl,rfl,Tree.eta _,m7,rfl,?_,m5,m6⟩
      show IntKind.i64.wrap (deep+1 - 1)=deep
      rw[aO (by omega) (by omega)];omega
  ·rw[if_neg hd]
   rw[show aQ 40 t _ d3 d4 pl deep 0 0 o1 o2 o3 o4 o5=_ from pE ht (c:=40) (by decide) (by decide) h (by simp only[bF,if_neg hd]) d3 d4 pl deep o1 o2 o3 o4 o5]
   simp only[Option.bind_some,Bool.false_eq_true,if_false]
   by_cases hpl:pl+1 > 200
   ·rw[if_pos (by simpa using hpl),if_pos hpl]
    exact⟨_,rfl,rfl,by show(26:Int)≠0;decide⟩
   ·rw[if_neg (by simpa using hpl),if_neg hpl]
    by_cases hd2:d=46
    ·rw[if_pos hd2]
     obtain⟨q2,f1,f3⟩:=qX ht (c:=46) (by decide) (by decide) h (show bF 46 (.sg d n r) = .inl (true,r) by simp only[bF,if_pos hd2]) d3 d4 (pl+1) deep o1 o2 o3 o4 o5
     rw[show aQ 46 t _ d3 d4 _ deep 0 0 o1 o2 o3 o4 o5=_ from f1]
     simp only[Option.bind_some,if_true,xL]
     exact⟨_,rfl,rfl,rfl,f3,rfl,rfl,by show(0:Int)≤pl+1;omega,by show pl+1≤(200:Int);omega⟩
    ·rw[if_neg hd2]
     rw[show aQ 46 t _ d3 d4 _ deep 0 0 o1 o2 o3 o4 o5=_ from pE ht (c:=46) (by decide) (by decide) h (by simp only[bF,if_neg hd2]) d3 d4 (pl+1) deep o1 o2 o3 o4 o5]
     simp only[Option.bind_some,Bool.false_eq_true,if_false]
     have hd3:d=91:=by
      simp only[xJ,Bool.or_eq_true,beq_iff_eq]at hth
      omega
     obtain⟨q3,k1,k3⟩:=qX ht (c:=91) (by decide) (by decide) h (show bF 91 (.sg d n r) = .inl (true,r) by simp only[bF,if_pos hd3]) d3 d4 (pl+1) deep o1 o2 o3 o4 o5
     rw[show aQ 91 t _ d3 d4 _ deep 0 0 o1 o2 o3 o4 o5=_ from k1]
     simp only[Option.bind_some,if_true]
     refine(u5 ht (c:=94) (by decide) (by decide) k3 d3 d4 (pl+1) deep o1 o2 o3 o4 o5).bind ?_ ?_
     ·rintro⟨b,q,c,y⟩ hy hc
      change c≠0 at hc
      refine⟨by simp only[hy],?_⟩
      simp only[uE hc,xL,Option.bind_some]
      cases b <;> exact⟨_,rfl,rfl⟩
     ·rintro⟨b,q,c,y⟩ ⟨neg,r1⟩ hy hcd ⟨m1,m2,m3⟩
      cases hcd
      dsimp only at m1 m2 m3
      subst m1
      simp only[hy]
      refine(aCS ht (c:=93) (by decide) (by decide) m2 d3 d4 (pl+1) deep o1 o2 o3 hn hnl).bind ?_ ?_
      ·rintro⟨x,q,c,y⟩ hy hc
       refine⟨by simp only[hy],?_⟩
       simp only[xL,Option.bind_some]
       cases b <;> exact⟨_,rfl,rfl⟩
      ·rintro⟨x,q,c,y⟩ ⟨x',r2⟩ hy hcd ⟨n1,n2⟩
       cases hcd
       dsimp only at n1 n2
       subst n1
       simp only[hy,xL,Option.bind_some]
       cases b with
       | true=>exact⟨_,rfl,rfl,rfl,n2,rfl,rfl,by show(0:Int)≤pl+1;omega,by show pl+1≤(200:Int);omega⟩
       | false=>exact⟨_,rfl,rfl,rfl,n2,rfl,rfl,by show(0:Int)≤pl+1;omega,by show pl+1≤(200:Int);omega⟩
end
section
variable{c:Int}(hc:c≠0)
include hc
theorem vL{rec t p d3 d4 pl dp x o1 o2 o3 o4 o5 acc}:iter (bS t d3 d4 o1 o2 o3 o4 o5 rec) (p,pl,dp,c,x,acc)=some (acc,p,pl,dp,c,x):=by
 apply bD
 unfold bS
 have hb:(c != (0:Int))=true:=by simpa using hc
 simp only[uN hc,Option.bind_some,hb,if_true]
theorem aEA{rec t p d3 d4 pl dp x o1 o2 o3 o4 o5}:kH rec t p d3 d4 pl dp c x o1 o2 o3 o4 o5=some (.node 0 0 [],p,pl,dp,c,x):=by
 unfold kH
 rw[vL hc]
 rfl
theorem wE{rec t p d3 d4 pl dp x o1 o2 o3 o4 o5 acc}:iter (cX t d3 d4 o1 o2 o3 o4 o5 rec) (p,pl,dp,c,x,acc)=some (acc,p,pl,dp,c,x):=by
 apply bD
 unfold cX
 simp only[uL hc,Option.bind_some,Bool.false_eq_true,if_false]
theorem tU{n t p d3 d4 pl dp x o1 o2 o3 o4 o5}:gT (n+1) t p d3 d4 pl dp c x o1 o2 o3 o4 o5=some (.node 0 0 [],p,pl,dp,c,x):=by
 show fK _ t p d3 d4 pl dp c x o1 o2 o3 o4 o5=_
 unfold fK
 rw[aEA hc]
 simp only[Option.bind_some]
 rw[wE hc]
 rfl
end
theorem aGe{t:List UInt8}{p:Int}{ts:Toks}(h:At t p ts)(hh:jX ts = .inl (ts.hd,ts.pos)):((if((0:Int) != (0:Int))=true then some (true)
 else((iO (ts.hd:Int)).bind fun(r333:Bool) =>
 (if(!r333)=true then(if((ts.hd:Int) != (40:Int))=true then(if((ts.hd:Int) != (91:Int))=true then some (((ts.hd:Int) != (46:Int)))
 else some (false))
 else some (false))
 else some (false)))))=some (!xJ ts):=by
 have h1:=aDm h
 have hb:ts.hd<256:=by
  cases ts with
  | bad n=>cases hh
  | eof n=>exact(by decide:0<256)
  | wd w n r=>exact A0 _
  | sg c n r=>exact h.sg.2.2.1
 rw[if_neg (by decide)]
 rw[(oV hb).1]at h1
 rw[X5 hb]
 simp only[Option.bind_some]at h1 ⊢
 cases hl:cW ts.hd with
 | true =>
  rw[hl,if_pos rfl]at h1
  injection h1 with h1
  rw[←h1]
  rfl
 | false =>
  rw[hl,if_neg (by decide)]at h1
  rw[if_pos (by decide)]
  by_cases h40:((ts.hd:Int) == 40)=true
  ·rw[if_pos h40]at h1
   injection h1 with h1
   rw[←h1,if_neg (by simp only[bne,h40];decide)]
   rfl
  ·rw[if_neg h40]at h1
   have h40':((ts.hd:Int) == 40)=false:=by simpa using h40
   rw[if_pos (by simp only[bne,h40'];decide)]
   by_cases h91:((ts.hd:Int) == 91)=true
   ·rw[if_pos h91]at h1
    injection h1 with h1
    rw[←h1,if_neg (by simp only[bne,h91];decide)]
    rfl
   ·rw[if_neg h91]at h1
    have h91':((ts.hd:Int) == 91)=false:=by simpa using h91
    rw[if_pos (by simp only[bne,h91'];decide)]
    injection h1 with h1
    rw[←h1]
    rfl
abbrev RLR(t:List UInt8)(deep:Int)(a:List Tree×Int×Int×Int×Int×Int)(b:List Tree×Toks×Int):Prop:=a.1=b.1∧At t a.2.1 b.2.1∧a.2.2.1=b.2.2∧a.2.2.2.1=deep∧0≤b.2.2∧b.2.2≤200
section
variable{t:List UInt8}(ht:t.length≤10000)
include ht
theorem aCP{rec E deep d3 d4 o1 o2 o3 o4 o5 sets}(hn:Nm o4 o5 sets)(hnl:o4.length≤20000)(hr:aGa t rec E deep d3 d4 o1 o2 o3 o4 o5)(hE:sB E):∀(f:Nat) (ts:Toks) (p pl:Int) (acc:List Tree),At t p ts→ts.size<f→acc.length+ts.size≤20000→0≤pl→pl≤200 →
  OkR (fun a=>a.2.2.2.2) (iter (bS t d3 d4 o1 o2 o3 o4 o5 rec) (p,pl,deep,0,0,acc)) (pP E (bZ o1.length) sets f ts pl acc) (RLR t deep)
 | 0,ts,p,pl,acc,_,h,_,_,_=>by omega
 | f+1,ts,p,pl,acc,h,hf,ha,hp0,hp1=>by
  have hR:=T4 ht h d3 d4 pl deep o1 o2 o3 o4 o5
  rcases wN ts with hs | ⟨n,rfl⟩
  ·have hR':mX ts=((ts.hd:Int),(ts.pos:Int),0,0):=by
    cases ts with
    | bad n=>cases hs
    | _=>rfl
   rw[hR']at hR
   have hh:=aGe h hs
   simp only[pP,hs]
   cases hth:xJ ts with
   | false =>
    rw[hth]at hh
    refine⟨(acc,(ts.pos:Int),pl,deep,0,0),bD ?_,rfl,rfl,h.posn,rfl,rfl,hp0,hp1⟩
    unfold bS
    simp only[hR,Option.bind_some,hh]
    rfl
   | true =>
    rw[hth]at hh
    simp only[if_true]
    have ho:=aH5 ht hn hnl hr hth h.posn hp0 hp1
    simp only[lK]
    cases hos:hU E (bZ o1.length) sets pl ts with
    | inr e =>
     rw[hos]at ho
     obtain⟨⟨x,q,a3,a4,c,y⟩,k0,k1,k2⟩:=ho
     cases k1
     change c≠0 at k2
     rw[b7 (s':=(q,a3,a4,c,y,acc++[x])) (by
      unfold bS
      simp only[hR,Option.bind_some,hh]
      simp only[Bool.not_true,Bool.false_eq_true,if_false,k0,Option.bind_some,uL k2,Tree.eta]
      rw[if_pos ⟨by simp;omega,by simp;omega⟩]),vL k2]
     exact⟨_,rfl,rfl,k2⟩
    | inl xr =>
     obtain⟨x,r,pl1⟩:=xr
     rw[hos]at ho
     obtain⟨⟨x',q,a3,a4,c,y⟩,k0,k1,m1,m2,m3,m4,m5,m6⟩:=ho
     cases k1
     dsimp only at m1 m2 m3 m4 m5 m6
     subst m1;subst m3;subst m4
     have hsz:=zR hE hos
     have s42:=fun hs=>pE ht (c:=42) (by decide) (by decide) m2 hs d3 d4 a3 a4 o1 o2 o3 o4 o5
     have s43:=fun hs=>pE ht (c:=43) (by decide) (by decide) m2.posn hs d3 d4 a3 a4 o1 o2 o3 o4 o5
     have s63:=fun hs=>pE ht (c:=63) (by decide) (by decide) m2.posn hs d3 d4 a3 a4 o1 o2 o3 o4 o5
     have y42:=fun r1 hs=>qX ht (r:=r1) (c:=42) (by decide) (by decide) m2 hs d3 d4 a3 a4 o1 o2 o3 o4 o5
     have y43:=fun r1 hs=>qX ht (r:=r1) (c:=43) (by decide) (by decide) m2.posn hs d3 d4 a3 a4 o1 o2 o3 o4 o5
     have y63:=fun r1 hs=>qX ht (r:=r1) (c:=63) (by decide) (by decide) m2.posn hs d3 d4 a3 a4 o1 o2 o3 o4 o5
     have done:∀q r1 x,At t q r1→r1.size≤r.size→OkR (fun a=>a.2.2.2.2) (iter (bS t d3 d4 o1 o2 o3 o4 o5 rec) (q,a3,a4,0,0,acc++[x])) (pP E (bZ o1.length) sets f r1 a3 (acc++[x])) (RLR t a4) :=
      fun q r1 x h1 h2=>aCP hn hnl hr hE f r1 q a3 (acc++[x]) h1 (by omega) (by simp;omega) m5 m6
     have none3:bF 42 r = .inl (false,r)→bF 43 r = .inl (false,r)→bF 63 r = .inl (false,r)→OkR (fun a=>a.2.2.2.2) (iter (bS t d3 d4 o1 o2 o3 o4 o5 rec) (p,pl,a4,0,0,acc)) (pP E (bZ o1.length) sets f r a3 (acc++[x'])) (RLR t a4):=fun h1 h2 h3=>by
      rw[b7 (s':=((r.pos:Int),a3,a4,0,0,acc++[x'])) (by
       unfold bS
       simp only[hR,Option.bind_some,hh]
       simp only[Bool.not_true,Bool.false_eq_true,if_false,k0,Option.bind_some,Tree.eta]
       rw[show aQ 42 t _ d3 d4 a3 a4 0 0 o1 o2 o3 o4 o5=_ from s42 h1]
       simp only[Bool.false_eq_true,if_false,Option.bind_some]
       rw[show aQ 43 t _ d3 d4 a3 a4 0 0 o1 o2 o3 o4 o5=_ from s43 h2]
       simp only[Bool.false_eq_true,if_false,Option.bind_some]
       rw[show aQ 63 t _ d3 d4 a3 a4 0 0 o1 o2 o3 o4 o5=_ from s63 h3]
       simp only[Bool.false_eq_true,if_false,Option.bind_some,Tree.eta]
       rw[if_pos ⟨by simp;omega,by simp;omega⟩])]
      exact done _ _ _ m2.posn (Nat.le_refl _)
     cases r with
     | bad n =>
      simp only[]
      rw[b7 (s':=((n:Int),a3,a4,20,(n:Int),acc++[x'])) (by
       unfold bS
       simp only[hR,Option.bind_some,hh]
       simp only[Bool.not_true,Bool.false_eq_true,if_false,k0,Option.bind_some,Tree.eta]
       rw[show aQ 42 t _ d3 d4 a3 a4 0 0 o1 o2 o3 o4 o5=_ from H9 ht (c:=42) m2 d3 d4 a3 a4 o1 o2 o3 o4 o5]
       simp only[Bool.false_eq_true,if_false,Option.bind_some,uL (c:=20) (by decide),Tree.eta]
       rw[if_pos ⟨by simp;omega,by simp;omega⟩]),vL (by decide)]
      exact⟨_,rfl,rfl,by show(20:Int)≠0;decide⟩
     | eof n=>exact none3 rfl rfl rfl
     | wd w n r1=>exact none3 rfl rfl rfl
     | sg d n r1 =>
      have hz1:r1.size≤(Toks.sg d n r1).size:=by simp[Toks.size]
      simp only[]
      by_cases h42:d=42
      ·obtain⟨q1,e1,e3⟩:=y42 r1 (by simp only[bF,if_pos h42])
       rw[if_pos h42,b7 (s':=(q1,a3,a4,0,0,acc++[Tree.node 4 0 [x']])) (by
        unfold bS
        simp only[hR,Option.bind_some,hh]
        simp only[Bool.not_true,Bool.false_eq_true,if_false,k0,Option.bind_some,Tree.eta]
        rw[show aQ 42 t _ d3 d4 a3 a4 0 0 o1 o2 o3 o4 o5=_ from e1]
        simp only[if_true,Option.bind_some]
        rw[if_pos ⟨by simp;omega,by simp;omega⟩])]
       exact done _ _ _ e3 hz1
      ·have n42:bF 42 (.sg d n r1) = .inl (false,.sg d n r1):=by simp only[bF,if_neg h42]
       rw[if_neg h42]
       by_cases h43:d=43
       ·obtain⟨q1,e1,e3⟩:=y43 r1 (by simp only[bF,if_pos h43])
        rw[if_pos h43,b7 (s':=(q1,a3,a4,0,0,acc++[Tree.node 5 0 [x']])) (by
         unfold bS
         simp only[hR,Option.bind_some,hh]
         simp only[Bool.not_true,Bool.false_eq_true,if_false,k0,Option.bind_some,Tree.eta]
         rw[show aQ 42 t _ d3 d4 a3 a4 0 0 o1 o2 o3 o4 o5=_ from s42 n42]
         simp only[Bool.false_eq_true,if_false,Option.bind_some]
         rw[show aQ 43 t _ d3 d4 a3 a4 0 0 o1 o2 o3 o4 o5=_ from e1]
         simp only[if_true,Option.bind_some]
         rw[if_pos ⟨by simp;omega,by simp;omega⟩])]
        exact done _ _ _ e3 hz1
       ·have n43:bF 43 (.sg d n r1) = .inl (false,.sg d n r1):=by simp only[bF,if_neg h43]
        rw[if_neg h43]
        by_cases h63:d=63
        ·obtain⟨q1,e1,e3⟩:=y63 r1 (by simp only[bF,if_pos h63])
         rw[if_pos h63,b7 (s':=(q1,a3,a4,0,0,acc++[Tree.node 6 0 [x']])) (by
          unfold bS
          simp only[hR,Option.bind_some,hh]
          simp only[Bool.not_true,Bool.false_eq_true,if_false,k0,Option.bind_some,Tree.eta]
          rw[show aQ 42 t _ d3 d4 a3 a4 0 0 o1 o2 o3 o4 o5=_ from s42 n42]
          simp only[Bool.false_eq_true,if_false,Option.bind_some]
          rw[show aQ 43 t _ d3 d4 a3 a4 0 0 o1 o2 o3 o4 o5=_ from s43 n43]
          simp only[Bool.false_eq_true,if_false,Option.bind_some]
          rw[show aQ 63 t _ d3 d4 a3 a4 0 0 o1 o2 o3 o4 o5=_ from e1]
          simp only[if_true,Option.bind_some]
          rw[if_pos ⟨by simp;omega,by simp;omega⟩])]
         exact done _ _ _ e3 hz1
        ·rw[if_neg h63]
         exact none3 n42 n43 (by simp only[bF,if_neg h63])
  ·simp only[pP,jX]
   refine⟨(acc,(n:Int),pl,deep,20,(n:Int)),bD ?_,rfl,by show(20:Int)≠0;decide⟩
   unfold bS
   simp only[hR,mX]
   rfl
theorem aJY{rec E deep d3 d4 o1 o2 o3 o4 o5 sets}(hn:Nm o4 o5 sets)(hnl:o4.length≤20000)(hr:aGa t rec E deep d3 d4 o1 o2 o3 o4 o5)(hE:sB E){p:Int}{ts:Toks}(h:At t p ts)(hz:ts.size≤10000){pl:Int}(hp0:0≤pl)(hp1:pl≤200):
  OkR (fun a=>a.2.2.2.2) (kH rec t p d3 d4 pl deep 0 0 o1 o2 o3 o4 o5) (vU E (bZ o1.length) sets pl ts) (RTR t deep):=by
 unfold kH
 refine(aCP ht hn hnl hr hE (ts.size+1) ts p pl [] h (by omega) (by simp;omega) hp0 hp1).bind ?_ ?_
 ·rintro⟨l,q,a3,a4,c,y⟩ hy hc
  refine⟨by simp only[vU,hy],?_⟩
  match l with
  | []=>exact⟨_,rfl,rfl⟩
  | [x]=>exact⟨_,rfl,rfl⟩
  | x::y::l =>
   simp only[List.length_cons]
   rw[if_neg (by simp;omega),if_neg (by simp;omega)]
   exact⟨_,rfl,rfl⟩
 ·rintro⟨l,q,a3,a4,c,y⟩ ⟨l',r,b3⟩ hy hcd ⟨m1,m2,m3,m4,m5,m6⟩
  cases hcd
  dsimp only at m1 m2 m3 m4 m5 m6
  subst m1;subst m3;subst m4
  simp only[vU,hy]
  match l with
  | []=>exact⟨_,rfl,rfl,rfl,m2,rfl,rfl,m5,m6⟩
  | [x]=>exact⟨_,rfl,rfl,Tree.eta x,m2,rfl,rfl,m5,m6⟩
  | x::y::l =>
   refine⟨(Tree.node 2 0 (x::y::l),q,a3,a4,0,0),?_,rfl,rfl,m2,rfl,rfl,m5,m6⟩
   simp only[List.length_cons]
   rw[if_neg (by simp;omega),if_neg (by simp;omega)]
theorem aCH{rec E deep d3 d4 o1 o2 o3 o4 o5 sets}(hn:Nm o4 o5 sets)(hnl:o4.length≤20000)(hr:aGa t rec E deep d3 d4 o1 o2 o3 o4 o5)(hE:sB E):∀(f:Nat) (ts:Toks) (p pl:Int) (acc:List Tree),At t p ts→ts.size<f→acc.length+ts.size≤20000→ts.size≤10000→0≤pl→pl≤200 →
  OkR (fun a=>a.2.2.2.2) (iter (cX t d3 d4 o1 o2 o3 o4 o5 rec) (p,pl,deep,0,0,acc)) (D2 E (bZ o1.length) sets f ts pl acc) (RLR t deep)
 | 0,ts,p,pl,acc,_,h,_,_,_,_=>by omega
 | f+1,ts,p,pl,acc,h,hf,ha,hz,hp0,hp1=>by
  have hs:=u5 ht (c:=124) (by decide) (by decide) h d3 d4 pl deep o1 o2 o3 o4 o5
  simp only[D2]
  cases hss:bF 124 ts with
  | inr e =>
   have hts:∃n,ts = .bad n∧e=(20,(n:Int)):=by
    cases ts with
    | bad n=>cases hss;exact⟨n,rfl,rfl⟩
    | eof n=>cases hss
    | wd w n r=>cases hss
    | sg d n r=>simp only[bF]at hss;split at hss <;> cases hss
   obtain⟨n,rfl,rfl⟩:=hts
   refine⟨(acc,(n:Int),pl,deep,20,(n:Int)),bD ?_,rfl,by show(20:Int)≠0;decide⟩
   unfold cX
   simp only[]
   rw[show aQ 124 t _ d3 d4 pl deep 0 0 o1 o2 o3 o4 o5=_ from H9 ht (c:=124) h d3 d4 pl deep o1 o2 o3 o4 o5]
   rfl
  | inl br =>
   obtain⟨b,r⟩:=br
   rw[hss]at hs
   obtain⟨⟨b1,q1,u,v⟩,e1,e2,e3,e4,e5⟩:=hs
   cases e2
   dsimp only at e1 e3 e4 e5
   subst e3
   have hsz:=hY hss
   cases b1 with
   | false =>
    refine⟨(acc,q1,pl,deep,0,0),bD ?_,rfl,rfl,e4,rfl,rfl,hp0,hp1⟩
    unfold cX
    simp only[]
    rw[show aQ 124 t _ d3 d4 pl deep 0 0 o1 o2 o3 o4 o5=_ from e1]
    rfl
   | true =>
    simp only[if_true]at hsz
    have ho:=aJY ht hn hnl hr hE e4 (by omega) hp0 hp1
    simp only[]
    cases hos:vU E (bZ o1.length) sets pl r with
    | inr e =>
     rw[hos]at ho
     obtain⟨⟨x,q,a3,a4,c,y⟩,k0,k1,k2⟩:=ho
     cases k1
     change c≠0 at k2
     rw[b7 (s':=(q,a3,a4,c,y,acc++[x])) (by
      unfold cX
      simp only[]
      rw[show aQ 124 t _ d3 d4 pl deep 0 0 o1 o2 o3 o4 o5=_ from e1]
      simp only[Option.bind_some,if_true]
      rw[k0]
      simp only[Option.bind_some,Tree.eta]
      rw[if_pos ⟨by simp;omega,by simp;omega⟩]),wE k2]
     exact⟨_,rfl,rfl,k2⟩
    | inl xr =>
     obtain⟨x,r1,pl1⟩:=xr
     rw[hos]at ho
     obtain⟨⟨x',q,a3,a4,c,y⟩,k0,k1,m1,m2,m3,m4,m5,m6⟩:=ho
     cases k1
     dsimp only at m1 m2 m3 m4 m5 m6
     subst m1;subst m3;subst m4
     have hsz2:=nZ hE hos
     rw[b7 (s':=(q,a3,a4,0,0,acc++[x'])) (by
      unfold cX
      simp only[]
      rw[show aQ 124 t _ d3 d4 pl a4 0 0 o1 o2 o3 o4 o5=_ from e1]
      simp only[Option.bind_some,if_true]
      rw[k0]
      simp only[Option.bind_some,Tree.eta]
      rw[if_pos ⟨by simp;omega,by simp;omega⟩])]
     exact aCH hn hnl hr hE f r1 q a3 (acc++[x']) m2 (by omega) (by simp;omega) (by omega) m5 m6
theorem aHR{rec E deep d3 d4 o1 o2 o3 o4 o5 sets}(hn:Nm o4 o5 sets)(hnl:o4.length≤20000)(hr:aGa t rec E deep d3 d4 o1 o2 o3 o4 o5)(hE:sB E){p:Int}{ts:Toks}(h:At t p ts)(hz:ts.size≤10000){pl:Int}(hp0:0≤pl)(hp1:pl≤200):
  OkR (fun a=>a.2.2.2.2) (fK rec t p d3 d4 pl deep 0 0 o1 o2 o3 o4 o5) (pF E (bZ o1.length) sets pl ts) (RTR t deep):=by
 unfold fK
 refine(aJY ht hn hnl hr hE h hz hp0 hp1).bind ?_ ?_
 ·rintro⟨x,q,a3,a4,c,y⟩ hy hc
  change c≠0 at hc
  refine⟨by simp only[pF,hy],?_⟩
  simp only[wE hc]
  exact⟨_,rfl,rfl⟩
 ·rintro⟨x,q,a3,a4,c,y⟩ ⟨x',r,b3⟩ hy hcd ⟨m1,m2,m3,m4,m5,m6⟩
  cases hcd
  dsimp only at m1 m2 m3 m4 m5 m6
  subst m1;subst m3;subst m4
  have hsz:=nZ hE hy
  simp only[pF,hy,Tree.eta]
  refine(aCH ht hn hnl hr hE (r.size+1) r q a3 [x] m2 (by omega) (by simp;omega) (by omega) m5 m6).bind ?_ ?_
  ·rintro⟨l,q1,c3,c4,c,y⟩ hy2 hc
   refine⟨by simp only[hy2],?_⟩
   match l with
   | []=>exact⟨_,rfl,rfl⟩
   | [x]=>exact⟨_,rfl,rfl⟩
   | x::y::l =>
    simp only[List.length_cons]
    rw[if_neg (by simp;omega)]
    exact⟨_,rfl,rfl⟩
  ·rintro⟨l,q1,c3,c4,c,y⟩ ⟨l',r1,d5⟩ hy2 hcd ⟨n1,n2,n3,n4,n5,n6⟩
   cases hcd
   dsimp only at n1 n2 n3 n4 n5 n6
   subst n1;subst n3;subst n4
   simp only[hy2]
   match l with
   | []=>exact⟨_,rfl,rfl,rfl,n2,rfl,rfl,n5,n6⟩
   | [x]=>exact⟨(x,q1,c3,c4,0,0),rfl,rfl,rfl,n2,rfl,rfl,n5,n6⟩
   | x::y::l =>
    refine⟨(Tree.node 3 0 (x::y::l),q1,c3,c4,0,0),?_,rfl,rfl,n2,rfl,rfl,n5,n6⟩
    simp only[List.length_cons]
    rw[if_neg (by simp;omega)]
theorem W2{d3 d4 o1 o2 o3 o4 o5 sets}(hnm:Nm o4 o5 sets)(hnl:o4.length≤20000):∀(d n:Nat) (deep:Int),d<n→deep=16 - (d:Int)→0≤deep→∀(p:Int) (ts:Toks) (pl:Int),At t p ts→ts.size≤10000→0≤pl→pl≤200 →
  OkR (fun a=>a.2.2.2.2) (gT n t p d3 d4 pl deep 0 0 o1 o2 o3 o4 o5) (hZ (bZ o1.length) sets d pl ts) (RTR t deep)
 | d,0,deep,hn,_,_,_,_,_,_,_,_,_=>by omega
 | 0,n+1,deep,hn,hd,h0,p,ts,pl,h,hz,hp0,hp1 =>
  aHR ht hnm hnl (E:=none) ⟨h0,by omega,by show deep=16;omega⟩ uC h hz hp0 hp1
 | d+1,n+1,deep,hn,hd,h0,p,ts,pl,h,hz,hp0,hp1=>by
  refine aHR ht hnm hnl (E:=some (hZ (bZ o1.length) sets d)) ⟨h0,by omega,by omega,fun p1 ts1 pl1 h1 h2 h3=> ?_⟩ yJ h hz hp0 hp1
  have hz1:ts1.size≤10000:=by
   obtain⟨a,b,rfl⟩:=h1
   have:=wM (t:=t) _ p1.toNat (Nat.le_refl _) (by omega)
   omega
  exact W2 hnm hnl d n (deep+1) (by omega) (by omega) (by omega) p1 ts1 pl1 h1 hz1 h2 h3
end
end Go.Proofs.YtacpjjgochokcaaDoor.T
