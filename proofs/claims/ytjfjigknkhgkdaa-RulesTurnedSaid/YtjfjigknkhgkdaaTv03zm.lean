/- The document's parser of rules says what the pieces say: lines, and all of them. -/
import Derived.Test.YtjfjigknkhgkdaaTv03zl
namespace Go.Proofs.Ytjfjigknkhgkdaa.T
open Go Go.Tv Go.Proofs
abbrev StR:=Int×List (List UInt8)×Int×Int×List Int×RL×List (List UInt8)×List Int×Int×Int×Int×Int
abbrev cdS(a:StR):Er:=a.2.2.2.2.2.2.2.2.2.2
theorem I8{d n:Int}{s:PS}{ts r l pl}(h1:nL d n s ts = .inl (r,l,pl)):r.size≤ts.size:=by
 unfold nL at h1
 split at h1
 ·cases h1
 ·split at h1
  ·cases h1
  ·rename_i h2
   split at h1
   ·cases h1
   ·rename_i h3
    split at h1
    ·cases h1
    ·rename_i h4
     split at h1
     ·cases h1
     ·rename_i h5
      cases h1
      have:=dL h2
      have:=cK h3
      have:=dL h4
      have:=cK h5
      omega
theorem w9{w b p1 p2 p3 p4 p5 p6 p7 p8 o1 o2 o3}(o4:List (List UInt8))(o5:List Int)(h1:o4.length≤30000)(h2:o4.length=o5.length):fH w b p1 p2 p3 p4 p5 p6 p7 p8 o1 o2 o3 o4 o5=some (o4++[w],o5++[b]):=by
 unfold fH
 rw[if_pos ⟨by simp;omega,by simp;omega⟩,if_pos ⟨by simp;omega,by simp;omega⟩]
theorem OkR.id{A B:Type}{cd:A→Er}{x:Option A}{y:B⊕Er}{R:A→B→Prop}{k:A→Option A}(hk:∀a,k a=some a)(h:OkR cd x y R):OkR cd (x.bind k) y R:=by
 have:x.bind k=x:=by
  cases x with
  | none=>rfl
  | some a=>exact hk a
 rw[this];exact h
section
variable{t:List UInt8}(ht:t.length≤10000)
include ht
theorem aBW{p:Int}{s:PS}{ts:Toks}{o4 o5}(hn:Nm o4 o5 s.sets)(hnl:o4.length≤20000)(h:At t p ts)(hz:ts.size≤10000)(I2 n:Int)(d3 d4)(hl:s.list.length≤24)(hp0:0≤s.pl)(hp1:s.pl≤200):OkR (fun a=>a.2.2.2.2) (fS I2 n t p d3 d4 s.pl 0 0 0 s.cls s.treat s.list o4 o5) (nL I2 n s ts) (fun a b=>At t a.1 b.1∧a.2.1=b.2.1∧a.2.2.1=b.2.2∧a.2.2.2.1=0):=by
 unfold fS nL
 by_cases h24:s.list.length≥24
 ·rw[if_pos (by simp;omega),if_pos h24]
  have e:cE 24 n t p d3 d4 s.pl 0 0 0 s.cls s.treat s.list o4 o5=some (24,n):=rfl
  have h24':(24:Int)≠0:=by decide
  simp only[e,Option.bind_some,nT h24',gB h24']
  exact⟨_,rfl,rfl,h24'⟩
 ·rw[if_neg (by simp;omega),if_neg h24]
  simp only[Option.bind_some]
  refine(zD ht hn hnl 16 1000 0 (by omega) (by omega) (by omega) p ts s.pl h hz hp0 hp1).bind ?_ ?_
  ·rintro⟨x,q,a3,a4,c,y⟩ hy hc
   change c≠0 at hc
   refine⟨by simp only[hy],?_⟩
   simp only[nT hc,gB hc,Option.bind_some,fO hc,Bool.false_eq_true,if_false]
   exact⟨_,rfl,rfl⟩
  ·rintro⟨x,q,a3,a4,c,y⟩ ⟨x',r,b3⟩ hy hcd ⟨m1,m2,m3,m4,m5,m6⟩
   cases hcd
   dsimp only at m1 m2 m3 m4 m5 m6
   subst m1;subst m3;subst m4
   have z1:=dL hy
   simp only[hy]
   refine(x7 ht (c:=47) (by decide) (by decide) m2 d3 d4 a3 0 s.cls s.treat s.list o4 o5).bind ?_ ?_
   ·rintro⟨q,c,y⟩ hy hc
    change c≠0 at hc
    refine⟨by simp only[hy],?_⟩
    simp only[nT hc,gB hc,Option.bind_some,fO hc,Bool.false_eq_true,if_false]
    exact⟨_,rfl,rfl⟩
   ·rintro⟨q1,c,y⟩ r1 hy1 hcd h4
    cases hcd
    have z2:=cK hy1
    simp only[hy1]
    refine(zD ht hn hnl 16 1000 0 (by omega) (by omega) (by omega) q1 r1 a3 h4 (by omega) m5 m6).bind ?_ ?_
    ·rintro⟨x,q,a3,a4,c,y⟩ hy hc
     change c≠0 at hc
     refine⟨by simp only[hy],?_⟩
     simp only[gB hc,Option.bind_some,fO hc,Bool.false_eq_true,if_false]
     exact⟨_,rfl,rfl⟩
    ·rintro⟨y,q2,c3,c4,c,y9⟩ ⟨y',r2,d5⟩ hy2 hcd ⟨n1,n2,n3,n4,n5,n6⟩
     cases hcd
     dsimp only at n1 n2 n3 n4 n5 n6
     subst n1;subst n3;subst n4
     simp only[hy2]
     refine(x7 ht (c:=59) (by decide) (by decide) n2 d3 d4 c3 0 s.cls s.treat s.list o4 o5).bind ?_ ?_
     ·rintro⟨q,c,y⟩ hy hc
      change c≠0 at hc
      refine⟨by simp only[hy],?_⟩
      simp only[Option.bind_some,fO hc,Bool.false_eq_true,if_false]
      exact⟨_,rfl,rfl⟩
     ·rintro⟨q3,c,y9⟩ r3 hy3 hcd h5
      cases hcd
      simp only[hy3,Tree.eta,BEq.rfl,if_true]
      rw[if_pos ⟨by simp;omega,by simp;omega⟩]
      exact⟨_,rfl,rfl,h5,rfl,rfl,rfl⟩
theorem yN{d3 d4 d5 d6 o3}:∀(f:Nat) (ts:Toks) (p:Int) (cls:List (List UInt8)) (tr:List Int) (names:List (List UInt8)) (bits:List Int) (sets:iF),At t p ts→ts.size<f→cls.length≤24→tr.length=cls.length→Nm names bits sets→names.length+ts.size≤20000 →
  OkR (fun a=>a.2.2.2.2.2) (iter (cI t d3 d4 d5 d6 o3) (p,cls,tr,names,bits,0,0)) (lD f ts cls tr sets) (fun a b=>At t a.1 b.1∧a.2.1=b.2.1∧a.2.2.1=b.2.2.1∧Nm a.2.2.2.1 a.2.2.2.2.1 b.2.2.2∧a.2.2.2.1.length+b.1.size≤20000)
 | 0,ts,p,cls,tr,names,bits,sets,_,hf,_,_,_,_=>by omega
 | f+1,ts,p,cls,tr,names,bits,sets,h,hf,hc,htr,hn,hnl=>by
  have hs:=pH ht (c:=59) (by decide) (by decide) h d3 d4 d5 d6 cls tr o3 names bits
  have dead:∀(c x p:Int),c≠0→iter (cI t d3 d4 d5 d6 o3) (p,cls,tr,names,bits,c,x)=some (p,cls,tr,names,bits,c,x):=fun c x p hc=>by
   apply aX
   unfold cI
   simp only[fO hc]
   rfl
  simp only[lD]
  cases hss:bF 59 ts with
  | inr e =>
   have hts:∃n,ts = .bad n∧e=(20,(n:Int)):=by
    cases ts with
    | bad n=>cases hss;exact⟨n,rfl,rfl⟩
    | eof n=>cases hss
    | wd w n r=>cases hss
    | sg d n r=>simp only[bF]at hss;split at hss <;> cases hss
   obtain⟨n,rfl,rfl⟩:=hts
   have h20:(20:Int)≠0:=by decide
   rw[bR (s':=((n:Int),cls,tr,names,bits,20,(n:Int))) (by
    unfold cI
    simp only[BEq.rfl,if_true]
    rw[show aH 59 t _ d3 d4 d5 d6 0 0 cls tr o3 names bits=_ from wE ht (c:=59) h d3 d4 d5 d6 cls tr o3 names bits]
    simp only[Option.bind_some,Bool.not_false,if_true,I0 h20]
    rfl),dead _ _ _ h20]
   exact⟨_,rfl,rfl,h20⟩
  | inl br =>
   obtain⟨b,r⟩:=br
   rw[hss]at hs
   obtain⟨⟨b1,q1,u,v⟩,e1,e2,e3,e4,e5⟩:=hs
   cases e2
   dsimp only at e1 e3 e4 e5
   subst e3
   have hsz:=eF hss
   cases b1 with
   | true =>
    simp only[if_true]at hsz
    refine⟨(q1,cls,tr,names,bits,0,0),aX ?_,rfl,e4,rfl,rfl,hn,by simp only[];omega⟩
    unfold cI
    simp only[BEq.rfl,if_true]
    rw[show aH 59 t _ d3 d4 d5 d6 0 0 cls tr o3 names bits=_ from e1]
    rfl
   | false =>
    simp only[Bool.false_eq_true,if_false]at hsz
    simp only[]
    have hf1:=W0 ht e4 d3 d4 d5 d6 cls tr o3 hn (by omega)
    cases hfs:hU sets r with
    | inr e =>
     rw[hfs]at hf1
     obtain⟨⟨w,n,q,c,x⟩,k0,k1,k2⟩:=hf1
     cases k1
     change c≠0 at k2
     rw[bR (s':=(q,cls,tr,names,bits,c,x)) (by
      unfold cI
      simp only[BEq.rfl,if_true]
      rw[show aH 59 t _ d3 d4 d5 d6 0 0 cls tr o3 names bits=_ from e1]
      simp only[Option.bind_some,Bool.not_false,if_true]
      rw[k0]
      simp only[Option.bind_some,fO k2,Bool.false_eq_true,if_false]),dead _ _ _ k2]
     exact⟨_,rfl,rfl,k2⟩
    | inl x =>
     obtain⟨w,n,r1⟩:=x
     rw[hfs]at hf1
     obtain⟨⟨w',n',q,c,x⟩,k0,k1,k2,k3,k4⟩:=hf1
     cases k1
     dsimp only at k2 k3 k4
     subst k2;subst k3
     have hsz2:=jD hfs
     simp only[]
     by_cases h24:cls.length≥24
     ·rw[if_pos h24]
      have h24':(24:Int)≠0:=by decide
      rw[bR (s':=(q,cls,tr,names,bits,24,n')) (by
       unfold cI
       simp only[BEq.rfl,if_true]
       rw[show aH 59 t _ d3 d4 d5 d6 0 0 cls tr o3 names bits=_ from e1]
       simp only[Option.bind_some,Bool.not_false,if_true]
       rw[k0]
       simp only[Option.bind_some,BEq.rfl,if_true]
       rw[if_pos (by simp;omega)]
       rfl),dead _ _ _ h24']
      exact⟨_,rfl,rfl,h24'⟩
     ·rw[if_neg h24]
      have hne:¬((cls.length:Int) == 24)=true:=by simp;omega
      rw[bR (s':=(q,cls++[w'],tr++[(cls.length:Int)],names++[w'],bits++[aAC cls.length],0,0)) (by
       unfold cI
       simp only[BEq.rfl,if_true]
       rw[show aH 59 t _ d3 d4 d5 d6 0 0 cls tr o3 names bits=_ from e1]
       simp only[Option.bind_some,Bool.not_false,if_true]
       rw[k0]
       simp only[Option.bind_some,BEq.rfl,if_true]
       rw[if_neg hne]
       simp only[Option.bind_some,BEq.rfl,if_true]
       rw[if_pos (by omega),w9 names bits (by omega) hn.hlen]
       simp only[Option.bind_some]
       rw[if_pos ⟨by simp;omega,by simp;omega⟩,if_pos ⟨by simp;omega,by simp;omega⟩]
       rfl)]
      exact yN f r1 q _ _ _ _ _ k4 (by omega) (by simp;omega) (by simp;omega) (hn.add w' (aAC cls.length)) (by simp;omega)
def RSR(t:List UInt8)(a:StR)(b:PS):Prop:=∃p names bits,a=(p,b.cls,b.join,b.after,b.treat,b.list,names,bits,b.pl,0,0,0)∧At t p b.ts∧Nm names bits b.sets∧names.length+b.ts.size≤20000
theorem aB8{p:Int}{s:PS}{w:List UInt8}{n:Nat}{r:Toks}(hts:s.ts = .wd w n r)(h:At t p s.ts)(hI:Inv s){names bits}(hn:Nm names bits s.sets)(hnl:names.length+s.ts.size≤20000):
  OkR cdS (iL t p s.join s.after s.pl 0 0 0 s.cls s.treat s.list names bits) (lR s w n r) (RSR t):=by
 obtain⟨i1,i2,i3,i4,i5⟩:=hI
 have hw:=M9 ht h s.join s.after s.pl 0 s.cls s.treat s.list names bits
 have hzr:r.size≤10000:=by
  obtain⟨a,b,c⟩:=h
  have:=qK (t:=t) _ p.toNat (Nat.le_refl _) (by omega)
  rw[c,hts]at this
  simp only[Toks.size]at this
  omega
 rw[hts]at hw h hnl
 simp only[Toks.size]at hnl
 obtain⟨⟨w',n',q,c,x⟩,k0,kc,k1,k2,k3⟩:=hw
 cases kc
 dsimp only at k1 k2 k3
 subst k1;subst k2
 unfold iL
 rw[k0]
 simp only[Option.bind_some,beq_iff_eq]
 unfold lR
 by_cases c1:w'=[99,108,97,115,115]
 ·simp only[if_pos c1]
  refine OkR.id (fun a=>rfl) ?_
  ·refine(yN ht (r.size+1) r q s.cls s.treat names bits s.sets k3 (by omega) i1 i2 hn (by omega)).bind ?_ ?_
   ·rintro⟨q1,a2,a3,a4,a5,c,x⟩ hy hc
    exact⟨by simp only[hy],_,rfl,rfl⟩
   ·rintro⟨q1,a2,a3,a4,a5,c,x⟩ ⟨r1,b2,b3,b4⟩ hy hcd ⟨m1,m2,m3,m4,m5⟩
    cases hcd
    dsimp only at m1 m2 m3 m4 m5
    subst m2;subst m3
    simp only[hy]
    exact⟨_,rfl,rfl,q1,a4,a5,rfl,m1,m4,m5⟩
 ·simp only[if_neg c1]
  by_cases c2:w'=[115,101,116]
  ·simp only[if_pos c2]
   refine OkR.id (fun a=>rfl) ?_
   ·unfold J6
    refine(W0 ht k3 s.join s.after s.pl 0 s.cls s.treat s.list hn (by omega)).bind ?_ ?_
    ·rintro⟨w,n,q,c,x⟩ hy hc
     change c≠0 at hc
     refine⟨by simp only[hy],?_⟩
     simp only[gB hc,o7 hc,Option.bind_some,if_neg hc]
     exact⟨_,rfl,rfl⟩
    ·rintro⟨w,n,q,c,x⟩ ⟨w',n',r1⟩ hy hcd ⟨m1,m2,m3⟩
     cases hcd
     dsimp only at m1 m2 m3
     subst m1;subst m2
     have z1:=jD hy
     simp only[hy]
     refine(x7 ht (c:=61) (by decide) (by decide) m3 s.join s.after s.pl 0 s.cls s.treat s.list names bits).bind ?_ ?_
     ·rintro⟨q,c,x⟩ hy hc
      change c≠0 at hc
      refine⟨by simp only[hy],?_⟩
      simp only[o7 hc,Option.bind_some,if_neg hc]
      exact⟨_,rfl,rfl⟩
     ·rintro⟨q,c,x⟩ r2 hy2 hcd m4
      cases hcd
      have z2:=cK hy2
      simp only[hy2]
      refine(M5 ht (c:=59) (by decide) (by decide) m4 s.join s.after s.pl 0 s.cls s.treat s.list hn (by omega)).bind ?_ ?_
      ·rintro⟨y,q,c,x⟩ hy hc
       change c≠0 at hc
       refine⟨by simp only[hy],?_⟩
       simp only[if_neg hc]
       exact⟨_,rfl,rfl⟩
      ·rintro⟨y,q,c,x⟩ ⟨y',r3⟩ hy3 hcd ⟨m5,m6⟩
       cases hcd
       dsimp only at m5 m6
       subst m5
       have z3:=fR hy3
       simp only[hy3,if_true]
       rw[w9 names bits (by omega) hn.hlen]
       exact⟨_,rfl,rfl,q,_,_,rfl,m6,hn.add w y,by simp;omega⟩
  ·simp only[if_neg c2]
   by_cases c3:w'=[106,111,105,110]
   ·simp only[if_pos c3]
    refine OkR.id (fun a=>rfl) ?_
    ·unfold vI
     refine(M5 ht (c:=47) (by decide) (by decide) k3 s.join s.after s.pl 0 s.cls s.treat s.list hn (by omega)).bind ?_ ?_
     ·rintro⟨y,q,c,x⟩ hy hc
      change c≠0 at hc
      refine⟨by simp only[hy],?_⟩
      simp only[o7 hc]
      exact⟨_,rfl,rfl⟩
     ·rintro⟨y,q,c,x⟩ ⟨y',r1⟩ hy hcd ⟨m5,m6⟩
      cases hcd
      dsimp only at m5 m6
      subst m5
      have z1:=fR hy
      simp only[hy]
      refine(M5 ht (c:=59) (by decide) (by decide) m6 (bY .or .u32 s.join y) s.after s.pl 0 s.cls s.treat s.list hn (by omega)).bind ?_ ?_
      ·rintro⟨y,q,c,x⟩ hy hc
       exact⟨by simp only[hy],_,rfl,rfl⟩
      ·rintro⟨y2,q,c,x⟩ ⟨y',r3⟩ hy3 hcd ⟨m5,m6⟩
       cases hcd
       dsimp only at m5 m6
       subst m5
       have z3:=fR hy3
       simp only[hy3]
       exact⟨_,rfl,rfl,q,_,_,rfl,m6,hn,by simp;omega⟩
   ·simp only[if_neg c3]
    by_cases c4:w'=[116,114,101,97,116]
    ·simp only[if_pos c4]
     refine OkR.id (fun a=>rfl) ?_
     ·unfold pT
      refine(Z8 ht k3 s.join s.after s.pl 0 s.cls s.treat s.list names bits i1).bind ?_ ?_
      ·rintro⟨y,q,c,x⟩ hy hc
       change c≠0 at hc
       refine⟨by simp only[hy],?_⟩
       simp only[gB hc,vA hc,Option.bind_some,if_neg hc]
       exact⟨_,rfl,rfl⟩
      ·rintro⟨y,q,c,x⟩ ⟨y',r1⟩ hy hcd ⟨m5,m6⟩
       cases hcd
       dsimp only at m5 m6
       subst m5
       have z1:=oU hy
       have g1:0≤y∧y<s.cls.length:=by
        unfold xB at hy
        split at hy
        ·cases hy
        ·split at hy
         ·cases hy;exact⟨by omega,by omega⟩
         ·cases hy
       simp only[hy]
       refine(x7 ht (c:=61) (by decide) (by decide) m6 s.join s.after s.pl 0 s.cls s.treat s.list names bits).bind ?_ ?_
       ·rintro⟨q,c,x⟩ hy hc
        change c≠0 at hc
        refine⟨by simp only[hy],?_⟩
        simp only[gB hc,vA hc,Option.bind_some,if_neg hc]
        exact⟨_,rfl,rfl⟩
       ·rintro⟨q,c,x⟩ r2 hy2 hcd m4
        cases hcd
        have z2:=cK hy2
        simp only[hy2]
        refine(Z8 ht m4 s.join s.after s.pl 0 s.cls s.treat s.list names bits i1).bind ?_ ?_
        ·rintro⟨y,q,c,x⟩ hy hc
         change c≠0 at hc
         refine⟨by simp only[hy],?_⟩
         simp only[gB hc,Option.bind_some,if_neg hc]
         exact⟨_,rfl,rfl⟩
        ·rintro⟨y2,q,c,x⟩ ⟨y',r3⟩ hy3 hcd ⟨m7,m8⟩
         cases hcd
         dsimp only at m7 m8
         subst m7
         have z3:=oU hy3
         simp only[hy3,if_true]
         rw[if_pos ⟨g1.1,by omega⟩,if_pos (by omega)]
         simp only[Option.bind_some]
         refine(x7 ht (c:=59) (by decide) (by decide) m8 s.join s.after s.pl 0 s.cls (s.treat.set y.toNat y2) s.list names bits).bind ?_ ?_
         ·rintro⟨q,c,x⟩ hy hc
          exact⟨by simp only[hy],_,rfl,rfl⟩
         ·rintro⟨q,c,x⟩ r4 hy4 hcd m9
          cases hcd
          have z4:=cK hy4
          simp only[hy4]
          exact⟨_,rfl,rfl,q,_,_,rfl,m9,hn,by simp;omega⟩
    ·simp only[if_neg c4]
     have hrule:∀d:Int,OkR cdS ((fS d (n:Int) t q s.join s.after s.pl 0 0 0 s.cls s.treat s.list names bits).bind fun((r872,r873,r874,r875,r876,r877):Int×RL×Int×Int×Int×Int) =>
       some ((r872,s.cls,s.join,s.after,s.treat,r873,names,bits,r874,r875,r876,r877):StR)) (match nL d n s r with
       | .inr e=> .inr e
       | .inl (r,l,pl)=> .inl { s with ts:=r,list:=l,pl:=pl }) (RSR t):=fun d=>by
      refine(aBW ht (s:=s) hn (by omega) k3 hzr d n s.join s.after i3 i4 i5).bind ?_ ?_
      ·rintro⟨q1,a2,a3,a4,c,x⟩ hy hc
       exact⟨by simp only[hy],_,rfl,rfl⟩
      ·rintro⟨q1,a2,a3,a4,c,x⟩ ⟨r1,b2,b3⟩ hy hcd ⟨m1,m2,m3,m4⟩
       cases hcd
       dsimp only at m1 m2 m3 m4
       subst m2;subst m3;subst m4
       have z1:=I8 hy
       simp only[hy]
       exact⟨_,rfl,rfl,q1,_,_,rfl,m1,hn,by simp only[];omega⟩
     by_cases c5:w'=[107,101,101,112]
     ·simp only[if_pos c5,does?]
      exact OkR.id (fun a=>rfl) (hrule 0)
     ·by_cases c6:w'=[109,97,121]
      ·simp only[if_neg c5,if_pos c6,does?]
       exact OkR.id (fun a=>rfl) (hrule 1)
      ·by_cases c7:w'=[109,117,115,116]
       ·simp only[if_neg c5,if_neg c6,if_pos c7,does?]
        exact OkR.id (fun a=>rfl) (hrule 2)
       ·simp only[if_neg c5,if_neg c6,if_neg c7,does?]
        exact⟨(q,s.cls,s.join,s.after,s.treat,s.list,names,bits,s.pl,0,21,n),rfl,rfl,by show(21:Int)≠0;decide⟩
theorem X4{p:Int}{c n:Nat}{r:Toks}(h:At t p (.sg c n r))(d3 d4 d5 d6 o1 o2 o3 o4 o5):cZ t p d3 d4 d5 d6 0 0 o1 o2 o3 o4 o5=some ([],(n:Int),(n:Int),21,(n:Int)):=by
 unfold cZ
 have e00:((0:Int) == 0)=true:=rfl
 obtain⟨h1,h2,h3,h4,h5⟩:=h.sg
 rw[yO ht h,show jO (.sg c n r)=((c:Int),(n:Int),0,0)from rfl]
 simp only[Option.bind_some,e00,if_true]
 rw[zR h3,h1]
 rfl
theorem K9:∀(f:Nat) (s:PS) (p:Int) (names:List (List UInt8)) (bits:List Int),At t p s.ts→s.ts.size<f→Inv s→Nm names bits s.sets→names.length+s.ts.size≤20000 →
  OkR cdS (iter (cD t) (p,s.cls,s.join,s.after,s.treat,s.list,names,bits,s.pl,0,0,0)) (xI f s) (fun a b=>a.2.1=b.cls∧a.2.2.1=b.join∧a.2.2.2.1=b.after∧a.2.2.2.2.1=b.treat∧a.2.2.2.2.2.1=b.list)
 | 0,s,p,names,bits,_,h,_,_,_=>by omega
 | f+1,s,p,names,bits,h,hf,hI,hn,hnl=>by
  have hh:=yO ht h s.join s.after s.pl 0 s.cls s.treat s.list names bits
  have dead:∀(a:StR),(cdS a).1≠0→iter (cD t) a=some a:=fun⟨a1,a2,a3,a4,a5,a6,a7,a8,a9,a10,c,x⟩ hc=>by
   change c≠0 at hc
   apply aX
   unfold cD
   simp only[oS hc]
   rfl
  have hne:∀(x:Nat),x≠0→((x:Int) != 0)=true:=fun x hx=>by rw[bne_iff_ne];omega
  simp only[xI]
  cases hts:s.ts with
  | bad n =>
   rw[hts]at hh
   refine⟨((n:Int),s.cls,s.join,s.after,s.treat,s.list,names,bits,s.pl,0,20,(n:Int)),aX ?_,rfl,by show(20:Int)≠0;decide⟩
   unfold cD
   simp only[hh]
   rfl
  | eof n =>
   rw[hts]at hh
   refine⟨((n:Int),s.cls,s.join,s.after,s.treat,s.list,names,bits,s.pl,0,0,0),aX ?_,rfl,rfl,rfl,rfl,rfl,rfl⟩
   unfold cD
   simp only[hh]
   rfl
  | sg c n r =>
   have hq:=h.posn
   rw[hts]at hh hq h
   have k0:=X4 ht hq s.join s.after s.pl 0 s.cls s.treat s.list names bits
   obtain⟨h1,h2,h3,h4,h5⟩:=h.sg
   have h21:(21:Int)≠0:=by decide
   have hc0:c≠0:=by rintro rfl;cases h2
   have hbody:∃a:StR,cD t (p,s.cls,s.join,s.after,s.treat,s.list,names,bits,s.pl,0,0,0)=some (.inl a)∧cdS a=(21,(n:Int)):=by
    unfold cD
    have e1:jO (.sg c n r)=((c:Int),(n:Int),0,0):=rfl
    simp only[hh,e1,Option.bind_some,hne c hc0,if_true,BEq.rfl]
    unfold iL
    rw[show cZ t (n:Int) s.join s.after s.pl 0 0 0 s.cls s.treat s.list names bits=some ([],(n:Int),(n:Int),21,(n:Int))from k0]
    exact⟨_,rfl,rfl⟩
   obtain⟨a,h6,h7⟩:=hbody
   rw[bR h6,dead a (by rw[h7];exact h21)]
   exact⟨a,rfl,h7,h21⟩
  | wd w n r =>
   have hl:=aB8 ht hts h.posn hI hn hnl
   simp only[]
   have hhd:(s.ts.hd:Int) != 0:=by
    rw[hts]at h
    obtain⟨h1,_⟩:=h.wd
    rw[hts]
    apply hne
    intro hh
    simp only[Toks.hd]at hh
    rw[hh]at h1;cases h1
   have e1:jO s.ts=((s.ts.hd:Int),(s.ts.pos:Int),0,0):=by rw[hts];rfl
   cases hls:lR s w n r with
   | inr e =>
    rw[hls]at hl
    obtain⟨a,k0,k1,k2⟩:=hl
    subst k1
    rw[bR (s':=a) (by
     unfold cD
     simp only[hh,e1,Option.bind_some,hhd,if_true,BEq.rfl,k0]),dead a k2]
    exact⟨a,rfl,rfl,k2⟩
   | inl s1 =>
    rw[hls]at hl
    obtain⟨a,k0,k1,p1,nm1,bt1,rfl,m1,m2,m3⟩:=hl
    have hz:=qN hls
    rw[bR (s':=(p1,s1.cls,s1.join,s1.after,s1.treat,s1.list,nm1,bt1,s1.pl,0,0,0)) (by
     unfold cD
     simp only[hh,e1,Option.bind_some,hhd,if_true,BEq.rfl,k0])]
    have hI1:Inv s1:=by
     obtain⟨a,_,_,_,h6⟩:=(xY ht hts h hI).2 s1 hls
     exact h6
    rw[hts]at hf
    simp only[Toks.size]at hf
    exact K9 f s1 p1 nm1 bt1 m1 (by omega) hI1 m2 m3
end
theorem aA3(t:List UInt8):nP t=some (yY (qJ t)):=by
 unfold nP qJ
 by_cases hl:t.length > 4096
 ·rw[if_pos (by simp;omega),if_pos hl]
  rfl
 ·rw[if_neg (by simp;omega),if_neg hl]
  have hz:=qK (t:=t) _ 0 (Nat.le_refl _) (by omega)
  have h:=K9 (t:=t) (by omega) (t.length+1) (J8 (T t 0)) 0 [] [] (at0 t) (by show(T t 0).size<_;omega) (aBh _) ⟨rfl,rfl⟩ (by show 0+(T t 0).size≤_;omega)
  cases hs:xI (t.length+1) (J8 (T t 0))with
  | inr e =>
   rw[hs]at h
   obtain⟨⟨a1,a2,a3,a4,a5,a6,a7,a8,a9,a10,c,x⟩,h1,h2,h3⟩:=h
   cases h2
   change c≠0 at h3
   rw[show iter (cD t) (0,[],0,0,[],[],[],[],0,0,0,0)=_ from h1]
   simp only[Option.bind_some]
   rw[if_pos (by rw[bne_iff_ne];exact h3)]
   rfl
  | inl s =>
   rw[hs]at h
   obtain⟨⟨a1,a2,a3,a4,a5,a6,a7,a8,a9,a10,c,x⟩,h1,h2,h3,h4,h5,h6,h7⟩:=h
   cases h2
   dsimp only at h3 h4 h5 h6 h7
   subst h3;subst h4;subst h5;subst h6;subst h7
   rw[show iter (cD t) (0,[],0,0,[],[],[],[],0,0,0,0)=_ from h1]
   rfl
end Go.Proofs.Ytjfjigknkhgkdaa.T
