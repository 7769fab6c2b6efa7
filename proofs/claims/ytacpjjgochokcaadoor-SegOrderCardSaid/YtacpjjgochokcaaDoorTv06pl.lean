/- The document's parser of rules says what the pieces say: expressions. -/
import Derived.Test.YtacpjjgochokcaaDoorTv06pjm
namespace Go.Proofs.YtacpjjgochokcaaDoor.T
open Go Go.Tv Go.Proofs
abbrev RTR(t:List UInt8)(deep:Int)(a:Tree×Int×Int×Int×Int×Int)(b:Tree×Toks×Int):Prop:=a.1=b.1∧At t a.2.1 b.2.1∧a.2.2.1=b.2.2∧a.2.2.2.1=deep∧0≤b.2.2∧b.2.2≤200
abbrev aKM:=List UInt8→Int→Int→Int→Int→Int→Int→Int→List (List UInt8)→List Int→RL→List (List UInt8)→List Int→Option (Tree×Int×Int×Int×Int×Int)
def aGc(t:List UInt8)(rec:aKM)(E:Option (Int→Toks→TR))(deep:Int)(d3 d4:Int)(o1:List (List UInt8))(o2:List Int)(o3:RL)(o4:List (List UInt8))(o5:List Int):Prop :=
 0≤deep∧deep≤16∧match E with
 | none=>deep=16
 | some f=>deep<16∧∀p ts pl,At t p ts→0≤pl→pl≤200→OkR (fun a=>a.2.2.2.2) (rec t p d3 d4 pl (deep+1) 0 0 o1 o2 o3 o4 o5) (f pl ts) (RTR t (deep+1))
theorem x4{p1 p2 p4 p5 p6 p7 p8 p9 p10 p11 p12 p13}(o1:List (List UInt8)):kK p1 p2 o1 p4 p5 p6 p7 p8 p9 p10 p11 p12 p13=some (bR o1.length):=by
 unfold kK
 rw[if_pos (by omega)]
 rfl
section
variable{t:List UInt8}(ht:t.length≤10000)
include ht
theorem F5{c:Nat}{p:Int}{n:Nat}(h:At t p (.bad n))(d3 d4 d5 d6 o1 o2 o3 o4 o5):aN (c:Int) t p d3 d4 d5 d6 0 0 o1 o2 o3 o4 o5=some (false,(n:Int),20,(n:Int)):=by
 unfold aN
 rw[T3 ht h]
 rfl
theorem pG{c:Nat}(hc:cW c=false)(hc0:c≠0){p:Int}{ts:Toks}(h:At t p ts)(hs:bF c ts = .inl (false,ts))(d3 d4 d5 d6 o1 o2 o3 o4 o5):aN (c:Int) t p d3 d4 d5 d6 0 0 o1 o2 o3 o4 o5=some (false,(ts.pos:Int),0,0):=by
 have s:=uO ht hc hc0 h d3 d4 d5 d6 o1 o2 o3 o4 o5
 rw[hs]at s
 obtain⟨⟨b1,q1,u,v⟩,k1,k2,k3,k4,k5⟩:=s
 cases k2
 cases (show b1=false from k3)
 cases (show q1=_ from k5 rfl)
 exact k1
theorem qA{c:Nat}(hc:cW c=false)(hc0:c≠0){p:Int}{ts r:Toks}(h:At t p ts)(hs:bF c ts = .inl (true,r))(d3 d4 d5 d6 o1 o2 o3 o4 o5):∃q,aN (c:Int) t p d3 d4 d5 d6 0 0 o1 o2 o3 o4 o5=some (true,q,0,0)∧At t q r:=by
 have s:=uO ht hc hc0 h d3 d4 d5 d6 o1 o2 o3 o4 o5
 rw[hs]at s
 obtain⟨⟨b1,q1,u,v⟩,k1,k2,k3,k4,k5⟩:=s
 cases k2
 cases (show b1=true from k3)
 exact⟨q1,k1,k4⟩
theorem aII{rec E deep d3 d4 o1 o2 o3 o4 o5 sets}(hn:Nm o4 o5 sets)(hnl:o4.length≤20000)(hr:aGc t rec E deep d3 d4 o1 o2 o3 o4 o5){ts:Toks}(hth:xB ts=true)(h:At t ts.pos ts){pl:Int}(hp0:0≤pl)(hp1:pl≤200):
  OkR (fun a=>a.2.2.2.2) (mL rec t ts.pos d3 d4 pl deep 0 0 o1 o2 o3 o4 o5) (hH E (bR o1.length) sets pl ts) (RTR t deep):=by
 obtain⟨g0,g1,g2⟩:=hr
 have w1:IntKind.i64.wrap (pl+1)=pl+1:=aP (by omega) (by omega)
 have w2:IntKind.i64.wrap (deep+1)=deep+1:=aP (by omega) (by omega)
 unfold mL
 rw[w1,w2]
 cases ts with
 | bad n=>cases hth
 | eof n=>cases hth
 | wd w n r =>
  rw[show aN 40 t _ d3 d4 pl deep 0 0 o1 o2 o3 o4 o5=_ from pG ht (c:=40) (by decide) (by decide) h rfl d3 d4 pl deep o1 o2 o3 o4 o5]
  simp only[Option.bind_some,Bool.false_eq_true,if_false,hH]
  by_cases hpl:pl+1 > 200
  ·rw[if_pos (by simpa using hpl),if_pos hpl]
   exact⟨_,rfl,rfl,by show(26:Int)≠0;decide⟩
  ·rw[if_neg (by simpa using hpl),if_neg hpl]
   rw[show aN 46 t _ d3 d4 _ deep 0 0 o1 o2 o3 o4 o5=_ from pG ht (c:=46) (by decide) (by decide) h rfl d3 d4 (pl+1) deep o1 o2 o3 o4 o5]
   simp only[Option.bind_some,Bool.false_eq_true,if_false]
   rw[show aN 91 t _ d3 d4 _ deep 0 0 o1 o2 o3 o4 o5=_ from pG ht (c:=91) (by decide) (by decide) h rfl d3 d4 (pl+1) deep o1 o2 o3 o4 o5]
   simp only[Option.bind_some,Bool.false_eq_true,if_false]
   have hm:=aBQ ht h d3 d4 (pl+1) deep o1 o2 o3 hn hnl
   simp only[mX,iX]at hm
   cases hl:look sets w with
   | none =>
    rw[hl]at hm
    obtain⟨⟨a1,a2,a3,a4⟩,k1,k2,k3⟩:=hm
    cases k2
    rw[k1]
    exact⟨_,rfl,rfl,by show(22:Int)≠0;decide⟩
   | some x =>
    rw[hl]at hm
    obtain⟨⟨x',q,a3,a4⟩,k1,k2,k3,k4⟩:=hm
    cases k2
    rw[k1]
    dsimp only at k3 k4
    subst k3
    exact⟨_,rfl,rfl,rfl,k4,rfl,rfl,by show(0:Int)≤pl+1;omega,by show pl+1≤(200:Int);omega⟩
 | sg d n r =>
  simp only[hH]
  by_cases hd:d=40
  ·rw[if_pos hd]
   obtain⟨q1,e1,e3⟩:=qA ht (c:=40) (by decide) (by decide) h (show bF 40 (.sg d n r) = .inl (true,r) by simp only[bF,if_pos hd]) d3 d4 pl deep o1 o2 o3 o4 o5
   rw[show aN 40 t _ d3 d4 pl deep 0 0 o1 o2 o3 o4 o5=_ from e1]
   simp only[Option.bind_some,if_true]
   cases E with
   | none =>
    rw[if_pos (by simp;simp only[]at g2;omega)]
    exact⟨_,rfl,rfl,by show(25:Int)≠0;decide⟩
   | some f =>
    obtain⟨g3,g4⟩:=g2
    rw[if_neg (by simp;omega)]
    refine(g4 q1 r pl e3 hp0 hp1).bind ?_ ?_
    ·rintro⟨x,q,a3,a4,c,y⟩ hy hc
     change c≠0 at hc
     refine⟨by simp only[hy],?_⟩
     simp only[jH hc]
     exact⟨_,rfl,rfl⟩
    ·rintro⟨x,q,a3,a4,c,y⟩ ⟨x',r1,b3⟩ hy hcd ⟨m1,m2,m3,m4,m5,m6⟩
     cases hcd
     dsimp only at m1 m2 m3 m4 m5 m6
     subst m1;subst m3;subst m4
     simp only[hy]
     refine(U4 ht (c:=41) (by decide) (by decide) m2 d3 d4 _ _ o1 o2 o3 o4 o5).bind ?_ ?_
     ·rintro⟨q2,c,y⟩ hy2 hc
      exact⟨by simp only[hy2],_,rfl,rfl⟩
     ·rintro⟨q2,c,y⟩ r2 hy2 hcd m7
      cases hcd
      simp only[hy2]
      refine⟨_,rfl,rfl,Tree.eta _,m7,rfl,?_,m5,m6⟩
      show IntKind.i64.wrap (deep+1 - 1)=deep
      rw[aP (by omega) (by omega)];omega
  ·rw[if_neg hd]
   rw[show aN 40 t _ d3 d4 pl deep 0 0 o1 o2 o3 o4 o5=_ from pG ht (c:=40) (by decide) (by decide) h (by simp only[bF,if_neg hd]) d3 d4 pl deep o1 o2 o3 o4 o5]
   simp only[Option.bind_some,Bool.false_eq_true,if_false]
   by_cases hpl:pl+1 > 200
   ·rw[if_pos (by simpa using hpl),if_pos hpl]
    exact⟨_,rfl,rfl,by show(26:Int)≠0;decide⟩
   ·rw[if_neg (by simpa using hpl),if_neg hpl]
    by_cases hd2:d=46
    ·rw[if_pos hd2]
     obtain⟨q2,f1,f3⟩:=qA ht (c:=46) (by decide) (by decide) h (show bF 46 (.sg d n r) = .inl (true,r) by simp only[bF,if_pos hd2]) d3 d4 (pl+1) deep o1 o2 o3 o4 o5
     rw[show aN 46 t _ d3 d4 _ deep 0 0 o1 o2 o3 o4 o5=_ from f1]
     simp only[Option.bind_some,if_true,x4]
     exact⟨_,rfl,rfl,rfl,f3,rfl,rfl,by show(0:Int)≤pl+1;omega,by show pl+1≤(200:Int);omega⟩
    ·rw[if_neg hd2]
     rw[show aN 46 t _ d3 d4 _ deep 0 0 o1 o2 o3 o4 o5=_ from pG ht (c:=46) (by decide) (by decide) h (by simp only[bF,if_neg hd2]) d3 d4 (pl+1) deep o1 o2 o3 o4 o5]
     simp only[Option.bind_some,Bool.false_eq_true,if_false]
     have hd3:d=91:=by
      simp only[xB,Bool.or_eq_true,beq_iff_eq]at hth
      omega
     obtain⟨q3,k1,k3⟩:=qA ht (c:=91) (by decide) (by decide) h (show bF 91 (.sg d n r) = .inl (true,r) by simp only[bF,if_pos hd3]) d3 d4 (pl+1) deep o1 o2 o3 o4 o5
     rw[show aN 91 t _ d3 d4 _ deep 0 0 o1 o2 o3 o4 o5=_ from k1]
     simp only[Option.bind_some,if_true]
     refine(uO ht (c:=94) (by decide) (by decide) k3 d3 d4 (pl+1) deep o1 o2 o3 o4 o5).bind ?_ ?_
     ·rintro⟨b,q,c,y⟩ hy hc
      change c≠0 at hc
      refine⟨by simp only[hy],?_⟩
      simp only[t5 hc,x4,Option.bind_some]
      cases b <;> exact⟨_,rfl,rfl⟩
     ·rintro⟨b,q,c,y⟩ ⟨neg,r1⟩ hy hcd ⟨m1,m2,m3⟩
      cases hcd
      dsimp only at m1 m2 m3
      subst m1
      simp only[hy]
      refine(aDn ht (c:=93) (by decide) (by decide) m2 d3 d4 (pl+1) deep o1 o2 o3 hn hnl).bind ?_ ?_
      ·rintro⟨x,q,c,y⟩ hy hc
       refine⟨by simp only[hy],?_⟩
       simp only[x4,Option.bind_some]
       cases b <;> exact⟨_,rfl,rfl⟩
      ·rintro⟨x,q,c,y⟩ ⟨x',r2⟩ hy hcd ⟨n1,n2⟩
       cases hcd
       dsimp only at n1 n2
       subst n1
       simp only[hy,x4,Option.bind_some]
       cases b with
       | true=>exact⟨_,rfl,rfl,rfl,n2,rfl,rfl,by show(0:Int)≤pl+1;omega,by show pl+1≤(200:Int);omega⟩
       | false=>exact⟨_,rfl,rfl,rfl,n2,rfl,rfl,by show(0:Int)≤pl+1;omega,by show pl+1≤(200:Int);omega⟩
end
section
variable{c:Int}(hc:c≠0)
include hc
theorem wE{rec t p d3 d4 pl dp x o1 o2 o3 o4 o5 acc}:iter (bV t d3 d4 o1 o2 o3 o4 o5 rec) (p,pl,dp,c,x,acc)=some (acc,p,pl,dp,c,x):=by
 apply bD
 unfold bV
 have hb:(c != (0:Int))=true:=by simpa using hc
 simp only[tZ hc,Option.bind_some,hb,if_true]
theorem aFO{rec t p d3 d4 pl dp x o1 o2 o3 o4 o5}:kE rec t p d3 d4 pl dp c x o1 o2 o3 o4 o5=some (.node 0 0 [],p,pl,dp,c,x):=by
 unfold kE
 rw[wE hc]
 rfl
theorem wG{rec t p d3 d4 pl dp x o1 o2 o3 o4 o5 acc}:iter (cV t d3 d4 o1 o2 o3 o4 o5 rec) (p,pl,dp,c,x,acc)=some (acc,p,pl,dp,c,x):=by
 apply bD
 unfold cV
 simp only[uF hc,Option.bind_some,Bool.false_eq_true,if_false]
theorem rW{n t p d3 d4 pl dp x o1 o2 o3 o4 o5}:gT (n+1) t p d3 d4 pl dp c x o1 o2 o3 o4 o5=some (.node 0 0 [],p,pl,dp,c,x):=by
 show fP _ t p d3 d4 pl dp c x o1 o2 o3 o4 o5=_
 unfold fP
 rw[aFO hc]
 simp only[Option.bind_some]
 rw[wG hc]
 rfl
end
theorem aFM{t:List UInt8}{p:Int}{ts:Toks}(h:At t p ts)(hh:jQ ts = .inl (ts.hd,ts.pos)):((if((0:Int) != (0:Int))=true then some (true)
 else((iD (ts.hd:Int)).bind fun(r333:Bool) =>
 (if(!r333)=true then(if((ts.hd:Int) != (40:Int))=true then(if((ts.hd:Int) != (91:Int))=true then some (((ts.hd:Int) != (46:Int)))
 else some (false))
 else some (false))
 else some (false)))))=some (!xB ts):=by
 have h1:=aCN h
 have hb:ts.hd<256:=by
  cases ts with
  | bad n=>cases hh
  | eof n=>exact(by decide:0<256)
  | wd w n r=>exact A5 _
  | sg c n r=>exact h.sg.2.2.1
 rw[if_neg (by decide)]
 rw[(oB hb).1]at h1
 rw[W3 hb]
 simp only[Option.bind_some]at h1 ⊢
 cases hl:cW ts.hd with
 | true =>
  rw[hl,if_pos rfl]at h1
  injection h1 with h1
  rw[←h1]
  rfl
 | false =>
  rw[hl,if_neg (by decide)]at h1
  rw[if_pos (by decide)]
  by_cases h40:((ts.hd:Int) == 40)=true
  ·rw[if_pos h40]at h1
   injection h1 with h1
   rw[←h1,if_neg (by simp only[bne,h40];decide)]
   rfl
  ·rw[if_neg h40]at h1
   have h40':((ts.hd:Int) == 40)=false:=by simpa using h40
   rw[if_pos (by simp only[bne,h40'];decide)]
   by_cases h91:((ts.hd:Int) == 91)=true
   ·rw[if_pos h91]at h1
    injection h1 with h1
    rw[←h1,if_neg (by simp only[bne,h91];decide)]
    rfl
   ·rw[if_neg h91]at h1
    have h91':((ts.hd:Int) == 91)=false:=by simpa using h91
    rw[if_pos (by simp only[bne,h91'];decide)]
    injection h1 with h1
    rw[←h1]
    rfl
abbrev RLR(t:List UInt8)(deep:Int)(a:List Tree×Int×Int×Int×Int×Int)(b:List Tree×Toks×Int):Prop:=a.1=b.1∧At t a.2.1 b.2.1∧a.2.2.1=b.2.2∧a.2.2.2.1=deep∧0≤b.2.2∧b.2.2≤200
section
variable{t:List UInt8}(ht:t.length≤10000)
include ht
theorem aDa{rec E deep d3 d4 o1 o2 o3 o4 o5 sets}(hn:Nm o4 o5 sets)(hnl:o4.length≤20000)(hr:aGc t rec E deep d3 d4 o1 o2 o3 o4 o5)(hE:rT E):∀(f:Nat) (ts:Toks) (p pl:Int) (acc:List Tree),At t p ts→ts.size<f→acc.length+ts.size≤20000→0≤pl→pl≤200 →
  OkR (fun a=>a.2.2.2.2) (iter (bV t d3 d4 o1 o2 o3 o4 o5 rec) (p,pl,deep,0,0,acc)) (pS E (bR o1.length) sets f ts pl acc) (RLR t deep)
 | 0,ts,p,pl,acc,_,h,_,_,_=>by omega
 | f+1,ts,p,pl,acc,h,hf,ha,hp0,hp1=>by
  have hR:=T3 ht h d3 d4 pl deep o1 o2 o3 o4 o5
  rcases wN ts with hs | ⟨n,rfl⟩
  ·have hR':mU ts=((ts.hd:Int),(ts.pos:Int),0,0):=by
    cases ts with
    | bad n=>cases hs
    | _=>rfl
   rw[hR']at hR
   have hh:=aFM h hs
   simp only[pS,hs]
   cases hth:xB ts with
   | false =>
    rw[hth]at hh
    refine⟨(acc,(ts.pos:Int),pl,deep,0,0),bD ?_,rfl,rfl,h.posn,rfl,rfl,hp0,hp1⟩
    unfold bV
    simp only[hR,Option.bind_some,hh]
    rfl
   | true =>
    rw[hth]at hh
    simp only[if_true]
    have ho:=aII ht hn hnl hr hth h.posn hp0 hp1
    simp only[lF]
    cases hos:hH E (bR o1.length) sets pl ts with
    | inr e =>
     rw[hos]at ho
     obtain⟨⟨x,q,a3,a4,c,y⟩,k0,k1,k2⟩:=ho
     cases k1
     change c≠0 at k2
     rw[b9 (s':=(q,a3,a4,c,y,acc++[x])) (by
      unfold bV
      simp only[hR,Option.bind_some,hh]
      simp only[Bool.not_true,Bool.false_eq_true,if_false,k0,Option.bind_some,uF k2,Tree.eta]
      rw[if_pos ⟨by simp;omega,by simp;omega⟩]),wE k2]
     exact⟨_,rfl,rfl,k2⟩
    | inl xr =>
     obtain⟨x,r,pl1⟩:=xr
     rw[hos]at ho
     obtain⟨⟨x',q,a3,a4,c,y⟩,k0,k1,m1,m2,m3,m4,m5,m6⟩:=ho
     cases k1
     dsimp only at m1 m2 m3 m4 m5 m6
     subst m1;subst m3;subst m4
     have hsz:=zH hE hos
     have s42:=fun hs=>pG ht (c:=42) (by decide) (by decide) m2 hs d3 d4 a3 a4 o1 o2 o3 o4 o5
     have s43:=fun hs=>pG ht (c:=43) (by decide) (by decide) m2.posn hs d3 d4 a3 a4 o1 o2 o3 o4 o5
     have s63:=fun hs=>pG ht (c:=63) (by decide) (by decide) m2.posn hs d3 d4 a3 a4 o1 o2 o3 o4 o5
     have y42:=fun r1 hs=>qA ht (r:=r1) (c:=42) (by decide) (by decide) m2 hs d3 d4 a3 a4 o1 o2 o3 o4 o5
     have y43:=fun r1 hs=>qA ht (r:=r1) (c:=43) (by decide) (by decide) m2.posn hs d3 d4 a3 a4 o1 o2 o3 o4 o5
     have y63:=fun r1 hs=>qA ht (r:=r1) (c:=63) (by decide) (by decide) m2.posn hs d3 d4 a3 a4 o1 o2 o3 o4 o5
     have done:∀q r1 x,At t q r1→r1.size≤r.size→OkR (fun a=>a.2.2.2.2) (iter (bV t d3 d4 o1 o2 o3 o4 o5 rec) (q,a3,a4,0,0,acc++[x])) (pS E (bR o1.length) sets f r1 a3 (acc++[x])) (RLR t a4) :=
      fun q r1 x h1 h2=>aDa hn hnl hr hE f r1 q a3 (acc++[x]) h1 (by omega) (by simp;omega) m5 m6
     have none3:bF 42 r = .inl (false,r)→bF 43 r = .inl (false,r)→bF 63 r = .inl (false,r)→OkR (fun a=>a.2.2.2.2) (iter (bV t d3 d4 o1 o2 o3 o4 o5 rec) (p,pl,a4,0,0,acc)) (pS E (bR o1.length) sets f r a3 (acc++[x'])) (RLR t a4):=fun h1 h2 h3=>by
      rw[b9 (s':=((r.pos:Int),a3,a4,0,0,acc++[x'])) (by
       unfold bV
       simp only[hR,Option.bind_some,hh]
       simp only[Bool.not_true,Bool.false_eq_true,if_false,k0,Option.bind_some,Tree.eta]
       rw[show aN 42 t _ d3 d4 a3 a4 0 0 o1 o2 o3 o4 o5=_ from s42 h1]
       simp only[Bool.false_eq_true,if_false,Option.bind_some]
       rw[show aN 43 t _ d3 d4 a3 a4 0 0 o1 o2 o3 o4 o5=_ from s43 h2]
       simp only[Bool.false_eq_true,if_false,Option.bind_some]
       rw[show aN 63 t _ d3 d4 a3 a4 0 0 o1 o2 o3 o4 o5=_ from s63 h3]
       simp only[Bool.false_eq_true,if_false,Option.bind_some,Tree.eta]
       rw[if_pos ⟨by simp;omega,by simp;omega⟩])]
      exact done _ _ _ m2.posn (Nat.le_refl _)
     cases r with
     | bad n =>
      simp only[]
      rw[b9 (s':=((n:Int),a3,a4,20,(n:Int),acc++[x'])) (by
       unfold bV
       simp only[hR,Option.bind_some,hh]
       simp only[Bool.not_true,Bool.false_eq_true,if_false,k0,Option.bind_some,Tree.eta]
       rw[show aN 42 t _ d3 d4 a3 a4 0 0 o1 o2 o3 o4 o5=_ from F5 ht (c:=42) m2 d3 d4 a3 a4 o1 o2 o3 o4 o5]
       simp only[Bool.false_eq_true,if_false,Option.bind_some,uF (c:=20) (by decide),Tree.eta]
       rw[if_pos ⟨by simp;omega,by simp;omega⟩]),wE (by decide)]
      exact⟨_,rfl,rfl,by show(20:Int)≠0;decide⟩
     | eof n=>exact none3 rfl rfl rfl
     | wd w n r1=>exact none3 rfl rfl rfl
     | sg d n r1 =>
      have hz1:r1.size≤(Toks.sg d n r1).size:=by simp[Toks.size]
      simp only[]
      by_cases h42:d=42
      ·obtain⟨q1,e1,e3⟩:=y42 r1 (by simp only[bF,if_pos h42])
       rw[if_pos h42,b9 (s':=(q1,a3,a4,0,0,acc++[Tree.node 4 0 [x']])) (by
        unfold bV
        simp only[hR,Option.bind_some,hh]
        simp only[Bool.not_true,Bool.false_eq_true,if_false,k0,Option.bind_some,Tree.eta]
        rw[show aN 42 t _ d3 d4 a3 a4 0 0 o1 o2 o3 o4 o5=_ from e1]
        simp only[if_true,Option.bind_some]
        rw[if_pos ⟨by simp;omega,by simp;omega⟩])]
       exact done _ _ _ e3 hz1
      ·have n42:bF 42 (.sg d n r1) = .inl (false,.sg d n r1):=by simp only[bF,if_neg h42]
       rw[if_neg h42]
       by_cases h43:d=43
       ·obtain⟨q1,e1,e3⟩:=y43 r1 (by simp only[bF,if_pos h43])
        rw[if_pos h43,b9 (s':=(q1,a3,a4,0,0,acc++[Tree.node 5 0 [x']])) (by
         unfold bV
         simp only[hR,Option.bind_some,hh]
         simp only[Bool.not_true,Bool.false_eq_true,if_false,k0,Option.bind_some,Tree.eta]
         rw[show aN 42 t _ d3 d4 a3 a4 0 0 o1 o2 o3 o4 o5=_ from s42 n42]
         simp only[Bool.false_eq_true,if_false,Option.bind_some]
         rw[show aN 43 t _ d3 d4 a3 a4 0 0 o1 o2 o3 o4 o5=_ from e1]
         simp only[if_true,Option.bind_some]
         rw[if_pos ⟨by simp;omega,by simp;omega⟩])]
        exact done _ _ _ e3 hz1
       ·have n43:bF 43 (.sg d n r1) = .inl (false,.sg d n r1):=by simp only[bF,if_neg h43]
        rw[if_neg h43]
        by_cases h63:d=63
        ·obtain⟨q1,e1,e3⟩:=y63 r1 (by simp only[bF,if_pos h63])
         rw[if_pos h63,b9 (s':=(q1,a3,a4,0,0,acc++[Tree.node 6 0 [x']])) (by
          unfold bV
          simp only[hR,Option.bind_some,hh]
          simp only[Bool.not_true,Bool.false_eq_true,if_false,k0,Option.bind_some,Tree.eta]
          rw[show aN 42 t _ d3 d4 a3 a4 0 0 o1 o2 o3 o4 o5=_ from s42 n42]
          simp only[Bool.false_eq_true,if_false,Option.bind_some]
          rw[show aN 43 t _ d3 d4 a3 a4 0 0 o1 o2 o3 o4 o5=_ from s43 n43]
          simp only[Bool.false_eq_true,if_false,Option.bind_some]
          rw[show aN 63 t _ d3 d4 a3 a4 0 0 o1 o2 o3 o4 o5=_ from e1]
          simp only[if_true,Option.bind_some]
          rw[if_pos ⟨by simp;omega,by simp;omega⟩])]
         exact done _ _ _ e3 hz1
        ·rw[if_neg h63]
         exact none3 n42 n43 (by simp only[bF,if_neg h63])
  ·simp only[pS,jQ]
   refine⟨(acc,(n:Int),pl,deep,20,(n:Int)),bD ?_,rfl,by show(20:Int)≠0;decide⟩
   unfold bV
   simp only[hR,mU]
   rfl
theorem aJl{rec E deep d3 d4 o1 o2 o3 o4 o5 sets}(hn:Nm o4 o5 sets)(hnl:o4.length≤20000)(hr:aGc t rec E deep d3 d4 o1 o2 o3 o4 o5)(hE:rT E){p:Int}{ts:Toks}(h:At t p ts)(hz:ts.size≤10000){pl:Int}(hp0:0≤pl)(hp1:pl≤200):
  OkR (fun a=>a.2.2.2.2) (kE rec t p d3 d4 pl deep 0 0 o1 o2 o3 o4 o5) (vB E (bR o1.length) sets pl ts) (RTR t deep):=by
 unfold kE
 refine(aDa ht hn hnl hr hE (ts.size+1) ts p pl [] h (by omega) (by simp;omega) hp0 hp1).bind ?_ ?_
 ·rintro⟨l,q,a3,a4,c,y⟩ hy hc
  refine⟨by simp only[vB,hy],?_⟩
  match l with
  | []=>exact⟨_,rfl,rfl⟩
  | [x]=>exact⟨_,rfl,rfl⟩
  | x::y::l =>
   simp only[List.length_cons]
   rw[if_neg (by simp;omega),if_neg (by simp;omega)]
   exact⟨_,rfl,rfl⟩
 ·rintro⟨l,q,a3,a4,c,y⟩ ⟨l',r,b3⟩ hy hcd ⟨m1,m2,m3,m4,m5,m6⟩
  cases hcd
  dsimp only at m1 m2 m3 m4 m5 m6
  subst m1;subst m3;subst m4
  simp only[vB,hy]
  match l with
  | []=>exact⟨_,rfl,rfl,rfl,m2,rfl,rfl,m5,m6⟩
  | [x]=>exact⟨_,rfl,rfl,Tree.eta x,m2,rfl,rfl,m5,m6⟩
  | x::y::l =>
   refine⟨(Tree.node 2 0 (x::y::l),q,a3,a4,0,0),?_,rfl,rfl,m2,rfl,rfl,m5,m6⟩
   simp only[List.length_cons]
   rw[if_neg (by simp;omega),if_neg (by simp;omega)]
theorem aCW{rec E deep d3 d4 o1 o2 o3 o4 o5 sets}(hn:Nm o4 o5 sets)(hnl:o4.length≤20000)(hr:aGc t rec E deep d3 d4 o1 o2 o3 o4 o5)(hE:rT E):∀(f:Nat) (ts:Toks) (p pl:Int) (acc:List Tree),At t p ts→ts.size<f→acc.length+ts.size≤20000→ts.size≤10000→0≤pl→pl≤200 →
  OkR (fun a=>a.2.2.2.2) (iter (cV t d3 d4 o1 o2 o3 o4 o5 rec) (p,pl,deep,0,0,acc)) (C4 E (bR o1.length) sets f ts pl acc) (RLR t deep)
 | 0,ts,p,pl,acc,_,h,_,_,_,_=>by omega
 | f+1,ts,p,pl,acc,h,hf,ha,hz,hp0,hp1=>by
  have hs:=uO ht (c:=124) (by decide) (by decide) h d3 d4 pl deep o1 o2 o3 o4 o5
  simp only[C4]
  cases hss:bF 124 ts with
  | inr e =>
   have hts:∃n,ts = .bad n∧e=(20,(n:Int)):=by
    cases ts with
    | bad n=>cases hss;exact⟨n,rfl,rfl⟩
    | eof n=>cases hss
    | wd w n r=>cases hss
    | sg d n r=>simp only[bF]at hss;split at hss <;> cases hss
   obtain⟨n,rfl,rfl⟩:=hts
   refine⟨(acc,(n:Int),pl,deep,20,(n:Int)),bD ?_,rfl,by show(20:Int)≠0;decide⟩
   unfold cV
   simp only[]
   rw[show aN 124 t _ d3 d4 pl deep 0 0 o1 o2 o3 o4 o5=_ from F5 ht (c:=124) h d3 d4 pl deep o1 o2 o3 o4 o5]
   rfl
  | inl br =>
   obtain⟨b,r⟩:=br
   rw[hss]at hs
   obtain⟨⟨b1,q1,u,v⟩,e1,e2,e3,e4,e5⟩:=hs
   cases e2
   dsimp only at e1 e3 e4 e5
   subst e3
   have hsz:=gR hss
   cases b1 with
   | false =>
    refine⟨(acc,q1,pl,deep,0,0),bD ?_,rfl,rfl,e4,rfl,rfl,hp0,hp1⟩
    unfold cV
    simp only[]
    rw[show aN 124 t _ d3 d4 pl deep 0 0 o1 o2 o3 o4 o5=_ from e1]
    rfl
   | true =>
    simp only[if_true]at hsz
    have ho:=aJl ht hn hnl hr hE e4 (by omega) hp0 hp1
    simp only[]
    cases hos:vB E (bR o1.length) sets pl r with
    | inr e =>
     rw[hos]at ho
     obtain⟨⟨x,q,a3,a4,c,y⟩,k0,k1,k2⟩:=ho
     cases k1
     change c≠0 at k2
     rw[b9 (s':=(q,a3,a4,c,y,acc++[x])) (by
      unfold cV
      simp only[]
      rw[show aN 124 t _ d3 d4 pl deep 0 0 o1 o2 o3 o4 o5=_ from e1]
      simp only[Option.bind_some,if_true]
      rw[k0]
      simp only[Option.bind_some,Tree.eta]
      rw[if_pos ⟨by simp;omega,by simp;omega⟩]),wG k2]
     exact⟨_,rfl,rfl,k2⟩
    | inl xr =>
     obtain⟨x,r1,pl1⟩:=xr
     rw[hos]at ho
     obtain⟨⟨x',q,a3,a4,c,y⟩,k0,k1,m1,m2,m3,m4,m5,m6⟩:=ho
     cases k1
     dsimp only at m1 m2 m3 m4 m5 m6
     subst m1;subst m3;subst m4
     have hsz2:=nW hE hos
     rw[b9 (s':=(q,a3,a4,0,0,acc++[x'])) (by
      unfold cV
      simp only[]
      rw[show aN 124 t _ d3 d4 pl a4 0 0 o1 o2 o3 o4 o5=_ from e1]
      simp only[Option.bind_some,if_true]
      rw[k0]
      simp only[Option.bind_some,Tree.eta]
      rw[if_pos ⟨by simp;omega,by simp;omega⟩])]
     exact aCW hn hnl hr hE f r1 q a3 (acc++[x']) m2 (by omega) (by simp;omega) (by omega) m5 m6
theorem aHV{rec E deep d3 d4 o1 o2 o3 o4 o5 sets}(hn:Nm o4 o5 sets)(hnl:o4.length≤20000)(hr:aGc t rec E deep d3 d4 o1 o2 o3 o4 o5)(hE:rT E){p:Int}{ts:Toks}(h:At t p ts)(hz:ts.size≤10000){pl:Int}(hp0:0≤pl)(hp1:pl≤200):
  OkR (fun a=>a.2.2.2.2) (fP rec t p d3 d4 pl deep 0 0 o1 o2 o3 o4 o5) (pA E (bR o1.length) sets pl ts) (RTR t deep):=by
 unfold fP
 refine(aJl ht hn hnl hr hE h hz hp0 hp1).bind ?_ ?_
 ·rintro⟨x,q,a3,a4,c,y⟩ hy hc
  change c≠0 at hc
  refine⟨by simp only[pA,hy],?_⟩
  simp only[wG hc]
  exact⟨_,rfl,rfl⟩
 ·rintro⟨x,q,a3,a4,c,y⟩ ⟨x',r,b3⟩ hy hcd ⟨m1,m2,m3,m4,m5,m6⟩
  cases hcd
  dsimp only at m1 m2 m3 m4 m5 m6
  subst m1;subst m3;subst m4
  have hsz:=nW hE hy
  simp only[pA,hy,Tree.eta]
  refine(aCW ht hn hnl hr hE (r.size+1) r q a3 [x] m2 (by omega) (by simp;omega) (by omega) m5 m6).bind ?_ ?_
  ·rintro⟨l,q1,c3,c4,c,y⟩ hy2 hc
   refine⟨by simp only[hy2],?_⟩
   match l with
   | []=>exact⟨_,rfl,rfl⟩
   | [x]=>exact⟨_,rfl,rfl⟩
   | x::y::l =>
    simp only[List.length_cons]
    rw[if_neg (by simp;omega)]
    exact⟨_,rfl,rfl⟩
  ·rintro⟨l,q1,c3,c4,c,y⟩ ⟨l',r1,d5⟩ hy2 hcd ⟨n1,n2,n3,n4,n5,n6⟩
   cases hcd
   dsimp only at n1 n2 n3 n4 n5 n6
   subst n1;subst n3;subst n4
   simp only[hy2]
   match l with
   | []=>exact⟨_,rfl,rfl,rfl,n2,rfl,rfl,n5,n6⟩
   | [x]=>exact⟨(x,q1,c3,c4,0,0),rfl,rfl,rfl,n2,rfl,rfl,n5,n6⟩
   | x::y::l =>
    refine⟨(Tree.node 3 0 (x::y::l),q1,c3,c4,0,0),?_,rfl,rfl,n2,rfl,rfl,n5,n6⟩
    simp only[List.length_cons]
    rw[if_neg (by simp;omega)]
theorem W1{d3 d4 o1 o2 o3 o4 o5 sets}(hnm:Nm o4 o5 sets)(hnl:o4.length≤20000):∀(d n:Nat) (deep:Int),d<n→deep=16 - (d:Int)→0≤deep→∀(p:Int) (ts:Toks) (pl:Int),At t p ts→ts.size≤10000→0≤pl→pl≤200 →
  OkR (fun a=>a.2.2.2.2) (gT n t p d3 d4 pl deep 0 0 o1 o2 o3 o4 o5) (gU (bR o1.length) sets d pl ts) (RTR t deep)
 | d,0,deep,hn,_,_,_,_,_,_,_,_,_=>by omega
 | 0,n+1,deep,hn,hd,h0,p,ts,pl,h,hz,hp0,hp1 =>
  aHV ht hnm hnl (E:=none) ⟨h0,by omega,by show deep=16;omega⟩ uB h hz hp0 hp1
 | d+1,n+1,deep,hn,hd,h0,p,ts,pl,h,hz,hp0,hp1=>by
  refine aHV ht hnm hnl (E:=some (gU (bR o1.length) sets d)) ⟨h0,by omega,by omega,fun p1 ts1 pl1 h1 h2 h3=> ?_⟩ yO h hz hp0 hp1
  have hz1:ts1.size≤10000:=by
   obtain⟨a,b,rfl⟩:=h1
   have:=vG (t:=t) _ p1.toNat (Nat.le_refl _) (by omega)
   omega
  exact W1 hnm hnl d n (deep+1) (by omega) (by omega) (by omega) p1 ts1 pl1 h1 hz1 h2 h3
end
end Go.Proofs.YtacpjjgochokcaaDoor.T
