/- The program's parser of rules says what the pieces say: lines, and all of them. -/
import Derived.Test.YtjfjigknkhgkdaaTv03zh
namespace Go.Proofs.Ytjfjigknkhgkdaa.T
open Go Go.Tv Go.Proofs
theorem vW:∀ {m:iF} {w:List UInt8} {b:Int},look m w=none→fY .str m w b=m++[(w,b)]
 | [],_,_,_=>rfl
 | x::r,w,b,h=>by
  simp only[look,dI]at h
  simp only[fY]
  split at h
  ·cases h
  ·rename_i hk
   rw[if_neg hk,List.cons_append]
   exact congrArg _ (vW h)
theorem Z7(cls:List (List UInt8))(w:List UInt8)(hl:cls.length≤24):bV cls w=some (if bZ cls w<cls.length then(bZ cls w:Int)else -1):=by
 unfold bV
 have hle:bZ cls w≤cls.length:=j5 _ _
 have hb:∀k,k<bZ cls w→aL cls w (k:Int)=some (.inl ((k+1:Nat):Int)):=fun k hk=>by
  have:=lJ (fun i=>cls.getD i [] == w) cls.length hk
  unfold aL
  rw[if_pos (by simp;omega),if_pos ⟨by omega,by omega⟩,if_neg (by
   rw[Int.toNat_natCast];intro hh
   rw[beq_iff_eq]at hh
   simp only[←hh,BEq.rfl]at this
   cases this),aP (by omega) (by omega)]
  rfl
 by_cases hp:bZ cls w<cls.length
 ·have hat:=lI (fun i=>cls.getD i [] == w) cls.length hp
  have he:aL cls w ((bZ cls w:Nat):Int)=some (.inr (.inr (bZ cls w:Int))):=by
   unfold aL
   rw[if_pos (by simp;omega),if_pos ⟨by omega,by omega⟩,if_pos (by
    rw[Int.toNat_natCast,beq_iff_eq]
    exact(beq_iff_eq.mp hat).symm)]
  have:=cC (fun k:Nat=>(k:Int)) (bZ cls w) hb he
  rw[show iter (aL cls w) 0=_ from this,if_pos hp]
  rfl
 ·have hpe:bZ cls w=cls.length:=by omega
  have he:aL cls w ((bZ cls w:Nat):Int)=some (.inr (.inl ())):=by
   unfold aL
   rw[if_neg (by simp;omega)]
  have:=cC (fun k:Nat=>(k:Int)) (bZ cls w) hb he
  rw[show iter (aL cls w) 0=_ from this,if_neg hp]
  rfl
theorem P1{ts:Toks}{w n r}(h:gO ts = .inl (w,n,r)):n=ts.pos:=by
 cases ts <;> simp only[gO]at h <;> cases h
 rfl
section
variable{t:List UInt8}(ht:t.length≤10000)
include ht
theorem aBS{p:Int}{ts:Toks}(h:At t p ts)(d3 d4 d5 d6 o1 o2 o3 o4)(hl:o1.length≤24):Ok (j8 t p d3 d4 d5 d6 o1 o2 o3 o4) (xB o1 ts) (fun a b=>a.1=b.1∧At t a.2 b.2∧0≤b.1∧b.1<o1.length):=by
 unfold j8
 refine(F8 ht h d3 d4 d5 d6 o1 o2 o3 o4).bind (fun e1 e2 he=>⟨rfl,by simp only[xB,he]⟩) ?_
 rintro⟨w,n,q⟩ ⟨w',n',r⟩ hy ⟨h1,h2,h3⟩
 dsimp only at h1 h2 h3
 subst h1;subst h2
 simp only[xB,hy]
 rw[Z7 _ _ hl]
 simp only[Option.bind_some]
 by_cases hp:bZ o1 w<o1.length
 ·rw[if_pos hp,if_pos hp,if_neg (by simp)]
  exact⟨_,rfl,rfl,h3,by simp only[];omega,by simp only[];omega⟩
 ·rw[if_neg hp,if_neg hp,if_pos (by decide)]
  rfl
theorem aC7{p:Int}{ts:Toks}(h:At t p ts)(d3 d4 d5 d6 o1 o2 o3 o4):Ok (j3 t p d3 d4 d5 d6 o1 o2 o3 o4) (J6 o4 ts) (fun a b=>At t a.1 b.1∧a.2=b.2):=by
 unfold j3
 refine(Z5 ht h d3 d4 d5 d6 o1 o2 o3 o4).bind (fun e1 e2 he=>⟨rfl,by simp only[J6,he]⟩) ?_
 rintro⟨w,q⟩ ⟨w',n',r⟩ hy ⟨h1,h3⟩
 dsimp only at h1 h3
 subst h1
 simp only[J6,hy]
 refine(xT ht (c:=61) (by decide) (by decide) h3 d3 d4 d5 d6 o1 o2 o3 o4).bind (fun e1 e2 he=>⟨rfl,by simp only[he]⟩) ?_
 rintro q1 r1 hy1 h4
 simp only[hy1]
 refine(M2 ht (c:=59) (by decide) (by decide) h4 d3 d4 d5 d6 o1 o2 o3 o4).bind (fun e1 e2 he=>⟨rfl,by simp only[he]⟩) ?_
 rintro⟨x,q2⟩ ⟨x',r2⟩ hy2 ⟨h5,h6⟩
 dsimp only at h5 h6
 subst h5
 simp only[hy2]
 refine⟨_,rfl,h6,vW ?_⟩
 unfold hU at hy
 split at hy
 ·cases hy
 ·split at hy
  ·cases hy
  ·cases hy;assumption
theorem aBT{p:Int}{ts:Toks}(h:At t p ts)(d3 d4 d5 d6 o1 o2 o3 o4):Ok (iO t p d3 d4 d5 d6 o1 o2 o3 o4) (vI o4 ts) (fun a b=>At t a.1 b.1∧a.2.1=bY .or .u32 d3 b.2.1∧a.2.2=bY .or .u32 d4 b.2.2):=by
 unfold iO
 refine(M2 ht (c:=47) (by decide) (by decide) h d3 d4 d5 d6 o1 o2 o3 o4).bind (fun e1 e2 he=>⟨rfl,by simp only[vI,he]⟩) ?_
 rintro⟨x,q⟩ ⟨x',r⟩ hy ⟨h1,h3⟩
 dsimp only at h1 h3
 subst h1
 simp only[vI,hy]
 refine(M2 ht (c:=59) (by decide) (by decide) h3 (bY .or .u32 d3 x) d4 d5 d6 o1 o2 o3 o4).bind (fun e1 e2 he=>⟨rfl,by simp only[he]⟩) ?_
 rintro⟨x,q2⟩ ⟨x',r2⟩ hy2 ⟨h5,h6⟩
 dsimp only at h5 h6
 subst h5
 simp only[hy2]
 exact⟨_,rfl,h6,rfl,rfl⟩
theorem aBz{p:Int}{ts:Toks}(h:At t p ts)(d3 d4 d5 d6 o1 o2 o3 o4)(hl:o1.length≤24)(h2:o2.length=o1.length):Ok (g8 t p d3 d4 d5 d6 o1 o2 o3 o4) (pT o1 o2 ts) (fun a b=>At t a.1 b.1∧a.2=b.2∧b.2.length=o2.length):=by
 unfold g8
 refine(aBS ht h d3 d4 d5 d6 o1 o2 o3 o4 hl).bind (fun e1 e2 he=>⟨rfl,by simp only[pT,he]⟩) ?_
 rintro⟨x,q⟩ ⟨x',r⟩ hy ⟨h1,h3,g1,g2⟩
 dsimp only at h1 h3 g1 g2
 subst h1
 simp only[pT,hy]
 refine(xT ht (c:=61) (by decide) (by decide) h3 d3 d4 d5 d6 o1 o2 o3 o4).bind (fun e1 e2 he=>⟨rfl,by simp only[he]⟩) ?_
 rintro q1 r1 hy1 h4
 simp only[hy1]
 refine(aBS ht h4 d3 d4 d5 d6 o1 o2 o3 o4 hl).bind (fun e1 e2 he=>⟨rfl,by simp only[he]⟩) ?_
 rintro⟨y,q2⟩ ⟨y',r2⟩ hy2 ⟨h5,h6,g3,g4⟩
 dsimp only at h5 h6 g3 g4
 subst h5
 simp only[hy2]
 rw[if_pos ⟨g1,by omega⟩,if_pos (by omega)]
 refine(xT ht (c:=59) (by decide) (by decide) h6 d3 d4 d5 d6 o1 (o2.set x.toNat y) o3 o4).bind (fun e1 e2 he=>⟨rfl,by simp only[he]⟩) ?_
 rintro q3 r3 hy3 h7
 simp only[hy3]
 exact⟨_,rfl,h7,rfl,by simp⟩
theorem aBI{p:Int}{s:PS}{ts:Toks}(h:At t p ts)(hz:ts.size≤10000)(I2 n:Int)(d3 d4)(hl:s.list.length≤24)(hp0:0≤s.pl)(hp1:s.pl≤200):Ok (iM I2 n t p d3 d4 s.pl 0 s.cls s.treat s.list s.sets) (nL I2 n s ts) (fun a b=>At t a.1 b.1∧a.2.1=b.2.1∧a.2.2.1=b.2.2∧a.2.2.2=0∧b.2.1.length≤24∧0≤b.2.2∧b.2.2≤200):=by
 unfold iM nL
 by_cases h24:s.list.length≥24
 ·rw[if_pos (by simp;omega),if_pos h24]
  rfl
 ·rw[if_neg (by simp;omega),if_neg h24]
  refine(zE ht 16 1000 0 (by omega) (by omega) (by omega) p ts s.pl h hz hp0 hp1).bind (fun e1 e2 he=>⟨rfl,by simp only[he]⟩) ?_
  rintro⟨x,q,a3,a4⟩ ⟨x',r,b3⟩ hy ⟨m1,m2,m3,m4,m5,m6⟩
  dsimp only at m1 m2 m3 m4 m5 m6
  subst m1;subst m3;subst m4
  have z1:=dL hy
  simp only[hy]
  refine(xT ht (c:=47) (by decide) (by decide) m2 d3 d4 a3 0 s.cls s.treat s.list s.sets).bind (fun e1 e2 he=>⟨rfl,by simp only[he]⟩) ?_
  rintro q1 r1 hy1 h4
  have z2:=cK hy1
  simp only[hy1]
  refine(zE ht 16 1000 0 (by omega) (by omega) (by omega) q1 r1 a3 h4 (by omega) m5 m6).bind (fun e1 e2 he=>⟨rfl,by simp only[he]⟩) ?_
  rintro⟨y,q2,c3,c4⟩ ⟨y',r2,d5⟩ hy2 ⟨n1,n2,n3,n4,n5,n6⟩
  dsimp only at n1 n2 n3 n4 n5 n6
  subst n1;subst n3;subst n4
  simp only[hy2]
  refine(xT ht (c:=59) (by decide) (by decide) n2 d3 d4 c3 0 s.cls s.treat s.list s.sets).bind (fun e1 e2 he=>⟨rfl,by simp only[he]⟩) ?_
  rintro q3 r3 hy3 h5
  simp only[hy3,Tree.eta]
  rw[if_pos ⟨by simp;omega,by simp;omega⟩]
  exact⟨_,rfl,h5,rfl,rfl,rfl,by simp;omega,n5,n6⟩
theorem xX{d3 d4 d5 d6 o3}:∀(f:Nat) (ts:Toks) (p:Int) (cls:List (List UInt8)) (tr:List Int) (sets:iF),At t p ts→ts.size<f→cls.length≤24→tr.length=cls.length →
  Ok (iter (cN t d3 d4 d5 d6 o3) (p,cls,tr,sets)) (lD f ts cls tr sets) (fun a b=>At t a.1 b.1∧a.2=b.2∧b.2.1.length≤24∧b.2.2.1.length=b.2.1.length)
 | 0,ts,p,cls,tr,sets,_,hf,_,_=>by omega
 | f+1,ts,p,cls,tr,sets,h,hf,hc,htr=>by
  have hs:=lX ht (c:=59) (by decide) (by decide) h d3 d4 d5 d6 cls tr o3 sets
  simp only[lD]
  cases hss:bF 59 ts with
  | inr e =>
   rw[hss]at hs
   obtain⟨e1,e2⟩:=e
   apply aX
   unfold cN
   simp only[]
   rw[show aJ 59 t _ d3 d4 d5 d6 cls tr o3 sets=_ from hs]
   rfl
  | inl br =>
   obtain⟨b,r⟩:=br
   rw[hss]at hs
   obtain⟨⟨b1,q1⟩,e1,e2,e3,e4⟩:=hs
   dsimp only at e2 e3 e4
   subst e2
   have hsz:=eF hss
   cases b1 with
   | true =>
    refine⟨(q1,cls,tr,sets),aX ?_,e3,rfl,hc,htr⟩
    unfold cN
    simp only[]
    rw[show aJ 59 t _ d3 d4 d5 d6 cls tr o3 sets=_ from e1]
    rfl
   | false =>
    simp only[Bool.false_eq_true,if_false]at hsz
    simp only[]
    have hh:=lA ht e3 d3 d4 d5 d6 cls tr o3 sets
    have hre:r=ts:=by
     cases ts with
     | bad n=>cases hss
     | eof n=>cases hss;rfl
     | wd w n r=>cases hss;rfl
     | sg d n r1=>simp only[bF]at hss;split at hss <;> cases hss;rfl
    rcases rR r with hs2 | ⟨n,hn⟩
    ·rw[hs2]at hh
     have hf1:=Z5 ht e3.posn d3 d4 d5 d6 cls tr o3 sets
     cases hfs:hU sets r with
     | inr e =>
      rw[hfs]at hf1
      obtain⟨e5,e6⟩:=e
      apply aX
      unfold cN
      simp only[]
      rw[show aJ 59 t _ d3 d4 d5 d6 cls tr o3 sets=_ from e1]
      simp only[Option.bind_some,Bool.not_false,if_true]
      rw[hh]
      simp only[Option.bind_some]
      rw[show fZ t _ d3 d4 d5 d6 cls tr o3 sets=_ from hf1]
      rfl
     | inl x =>
      obtain⟨w,n,r1⟩:=x
      rw[hfs]at hf1
      obtain⟨⟨w',q⟩,k0,k1,k2⟩:=hf1
      dsimp only at k1 k2
      subst k1
      have hsz2:=jD hfs
      have hnp:n=r.pos∧look sets w'=none:=by
       unfold hU at hfs
       split at hfs
       ·cases hfs
       ·split at hfs
        ·cases hfs
        ·cases hfs;exact⟨P1 (by assumption),by assumption⟩
      simp only[]
      by_cases h24:cls.length≥24
      ·rw[if_pos h24]
       apply aX
       unfold cN
       simp only[]
       rw[show aJ 59 t _ d3 d4 d5 d6 cls tr o3 sets=_ from e1]
       simp only[Option.bind_some,Bool.not_false,if_true]
       rw[hh]
       simp only[Option.bind_some]
       rw[k0]
       simp only[Option.bind_some]
       rw[if_pos (by simp;omega),hnp.1]
       rfl
      ·rw[if_neg h24]
       have hb:cN t d3 d4 d5 d6 o3 (p,cls,tr,sets)=some (.inl (q,cls++[w'],tr++[(cls.length:Int)],sets++[(w',aAC cls.length)])):=by
        unfold cN
        simp only[]
        rw[show aJ 59 t _ d3 d4 d5 d6 cls tr o3 sets=_ from e1]
        simp only[Option.bind_some,Bool.not_false,if_true]
        rw[hh]
        simp only[Option.bind_some]
        rw[k0]
        simp only[Option.bind_some]
        rw[if_neg (by simp;omega),if_pos (by omega),if_pos ⟨by simp;omega,by simp;omega⟩,if_pos ⟨by simp;omega,by simp;omega⟩,vW hnp.2]
        rfl
       rw[bR hb]
       exact xX f r1 q _ _ _ k2 (by omega) (by simp;omega) (by simp;omega)
    ·subst hn;subst hre;cases hss
theorem aBs{p:Int}{ts:Toks}(h:At t p ts)(d3 d4 d5 d6 o1 o2 o3 o4)(hc:o1.length≤24)(htr:o2.length=o1.length):Ok (gY t p d3 d4 d5 d6 o1 o2 o3 o4) (lD (ts.size+1) ts o1 o2 o4) (fun a b=>At t a.1 b.1∧a.2=b.2∧b.2.1.length≤24∧b.2.2.1.length=b.2.1.length):=by
 unfold gY
 refine(xX ht (ts.size+1) ts p o1 o2 o4 h (by omega) hc htr).bind (fun e1 e2 he=>⟨rfl,he⟩) ?_
 rintro⟨q,c,r,s⟩ ⟨r1,c1,t1,s1⟩ hy hR
 rw[hy]
 exact⟨_,rfl,hR⟩
end
structure Inv(s:PS):Prop where
 hc:s.cls.length≤24
 htr:s.treat.length=s.cls.length
 hl:s.list.length≤24
 hp0:0≤s.pl
 hp1:s.pl≤200
abbrev St:=Int×List (List UInt8)×Int×Int×List Int×RL×iF×Int×Int
def RS(t:List UInt8)(a:St)(b:PS):Prop:=At t a.1 b.ts∧a.2=(b.cls,b.join,b.after,b.treat,b.list,b.sets,b.pl,0)∧Inv b
theorem T9(a w:List UInt8):kR .str a w=decide (w=a):=by
 show(a == w)=decide (w=a)
 by_cases h:w=a
 ·subst h;simp
 ·rw[decide_eq_false h,beq_eq_false_iff_ne];exact fun hh=>h hh.symm
theorem aAw(w:List UInt8):dI .str (fY .str (fY .str (fY .str ([]:List ((List UInt8)×Int)) ([107,101,101,112]:List UInt8) (0:Int)) ([109,97,121]:List UInt8) (1:Int)) ([109,117,115,116]:List UInt8) (2:Int)) w=does? w:=by
 have e:fY .str (fY .str (fY .str ([]:List ((List UInt8)×Int)) ([107,101,101,112]:List UInt8) (0:Int)) ([109,97,121]:List UInt8) (1:Int)) ([109,117,115,116]:List UInt8) (2:Int)=[([107,101,101,112],0),([109,97,121],1),([109,117,115,116],2)]:=by rfl
 rw[e]
 unfold does?
 simp only[dI,T9,decide_eq_true_eq]
section
variable{t:List UInt8}(ht:t.length≤10000)
include ht
theorem xY{p:Int}{s:PS}{w:List UInt8}{n:Nat}{r:Toks}(hts:s.ts = .wd w n r)(h:At t p s.ts)(hI:Inv s):
  (∀e,lR s w n r = .inr e→dR t (p,s.cls,s.join,s.after,s.treat,s.list,s.sets,s.pl,0)=some (.inr (.inr e))) ∧
  (∀s1,lR s w n r = .inl s1→∃a,dR t (p,s.cls,s.join,s.after,s.treat,s.list,s.sets,s.pl,0)=some (.inl a)∧RS t a s1):=by
 obtain⟨i1,i2,i3,i4,i5⟩:=hI
 have hh:=lA ht h s.join s.after s.pl 0 s.cls s.treat s.list s.sets
 have hw:=F8 ht h.posn s.join s.after s.pl 0 s.cls s.treat s.list s.sets
 have hzr:r.size≤10000:=by
  obtain⟨a,b,c⟩:=h
  have:=qK (t:=t) _ p.toNat (Nat.le_refl _) (by omega)
  rw[c,hts]at this
  simp only[Toks.size]at this
  omega
 rw[hts]at hh hw h
 obtain⟨⟨w',n',q⟩,k0,k1,k2,k3⟩:=hw
 dsimp only at k1 k2 k3
 subst k1;subst k2
 have hne:(((Toks.wd w' n r).hd:Int) != 0)=true:=by
  obtain⟨h1,_⟩:=h.wd
  simp only[bne_iff_ne,ne_eq]
  intro hh
  have:(w'.headD 0).toNat=0:=by simp only[Toks.hd]at hh;omega
  rw[this]at h1;cases h1
 have body:∀o,dR t (p,s.cls,s.join,s.after,s.treat,s.list,s.sets,s.pl,0)=o→dR t (p,s.cls,s.join,s.after,s.treat,s.list,s.sets,s.pl,0)=o:=fun _ h=>h
 unfold dR at body ⊢
 simp only[hh,gS,Option.bind_some,hne,if_true,k0,T9,decide_eq_true_eq,aAw]at body ⊢
 clear body
 unfold lR
 by_cases c1:w'=[99,108,97,115,115]
 ·simp only[if_pos c1]
  have hc:=aBs ht k3 s.join s.after s.pl 0 s.cls s.treat s.list s.sets i1 i2
  cases hcs:lD (r.size+1) r s.cls s.treat s.sets with
  | inr e =>
   rw[hcs]at hc
   refine⟨fun e' he=> ?_,fun s1 h1=>by cases h1⟩
   cases he
   rw[show gY t q _ _ _ _ _ _ _ _=_ from hc]
   rfl
  | inl x =>
   obtain⟨r1,c,tr,st⟩:=x
   rw[hcs]at hc
   obtain⟨⟨q1,x⟩,m0,m1,m2,m3,m4⟩:=hc
   dsimp only at m1 m2 m3 m4
   subst m2
   refine⟨fun e' he=>(by cases he),fun s1 h1=> ?_⟩
   cases h1
   rw[m0]
   exact⟨_,rfl,m1,rfl,m3,m4,i3,i4,i5⟩
 ·simp only[if_neg c1]
  by_cases c2:w'=[115,101,116]
  ·simp only[if_pos c2]
   have hc:=aC7 ht k3 s.join s.after s.pl 0 s.cls s.treat s.list s.sets
   cases hcs:J6 s.sets r with
   | inr e =>
    rw[hcs]at hc
    refine⟨fun e' he=> ?_,fun s1 h1=>by cases h1⟩
    cases he
    rw[show j3 t q _ _ _ _ _ _ _ _=_ from hc]
    rfl
   | inl x =>
    obtain⟨r1,st⟩:=x
    rw[hcs]at hc
    obtain⟨⟨q1,x⟩,m0,m1,m2⟩:=hc
    dsimp only at m1 m2
    subst m2
    refine⟨fun e' he=>(by cases he),fun s1 h1=> ?_⟩
    cases h1
    rw[m0]
    exact⟨_,rfl,m1,rfl,i1,i2,i3,i4,i5⟩
  ·simp only[if_neg c2]
   by_cases c3:w'=[106,111,105,110]
   ·simp only[if_pos c3]
    have hc:=aBT ht k3 s.join s.after s.pl 0 s.cls s.treat s.list s.sets
    cases hcs:vI s.sets r with
    | inr e =>
     rw[hcs]at hc
     refine⟨fun e' he=> ?_,fun s1 h1=>by cases h1⟩
     cases he
     rw[show iO t q _ _ _ _ _ _ _ _=_ from hc]
     rfl
    | inl x =>
     obtain⟨r1,x1,x2⟩:=x
     rw[hcs]at hc
     obtain⟨⟨q1,y1,y2⟩,m0,m1,m2,m3⟩:=hc
     dsimp only at m1 m2 m3
     subst m2;subst m3
     refine⟨fun e' he=>(by cases he),fun s1 h1=> ?_⟩
     cases h1
     rw[m0]
     exact⟨_,rfl,m1,rfl,i1,i2,i3,i4,i5⟩
   ·simp only[if_neg c3]
    by_cases c4:w'=[116,114,101,97,116]
    ·simp only[if_pos c4]
     have hc:=aBz ht k3 s.join s.after s.pl 0 s.cls s.treat s.list s.sets i1 i2
     cases hcs:pT s.cls s.treat r with
     | inr e =>
      rw[hcs]at hc
      refine⟨fun e' he=> ?_,fun s1 h1=>by cases h1⟩
      cases he
      rw[show g8 t q _ _ _ _ _ _ _ _=_ from hc]
      rfl
     | inl x =>
      obtain⟨r1,x1⟩:=x
      rw[hcs]at hc
      obtain⟨⟨q1,y1⟩,m0,m1,m2,m3⟩:=hc
      dsimp only at m1 m2 m3
      subst m2
      refine⟨fun e' he=>(by cases he),fun s1 h1=> ?_⟩
      cases h1
      rw[m0]
      exact⟨_,rfl,m1,rfl,i1,by show List.length _=_;rw[m3];exact i2,i3,i4,i5⟩
    ·simp only[if_neg c4]
     cases hd:does? w' with
     | none =>
      refine⟨fun e' he=> ?_,fun s1 h1=>by cases h1⟩
      cases he
      rfl
     | some d =>
      simp only[Option.isSome_some,if_true,Option.getD_some]
      have hc:=aBI ht (s:=s) k3 hzr d n s.join s.after i3 i4 i5
      cases hcs:nL d n s r with
      | inr e =>
       rw[hcs]at hc
       refine⟨fun e' he=> ?_,fun s1 h1=>by cases h1⟩
       cases he
       rw[show iM d n t q _ _ _ _ _ _ _ _=_ from hc]
       rfl
      | inl x =>
       obtain⟨r1,x1,x2⟩:=x
       rw[hcs]at hc
       obtain⟨⟨q1,y1,y2,y3⟩,m0,m1,m2,m3,m4,m5,m6,m7⟩:=hc
       dsimp only at m1 m2 m3 m4 m5 m6 m7
       subst m2;subst m3;subst m4
       refine⟨fun e' he=>(by cases he),fun s1 h1=> ?_⟩
       cases h1
       rw[m0]
       exact⟨_,rfl,m1,rfl,i1,i2,m5,m6,m7⟩
omit ht in
theorem tC:∀ {f:Nat} {ts:Toks} {cls tr sets r c x y},lD f ts cls tr sets = .inl (r,c,x,y)→r.size≤ts.size
 | 0,ts,cls,tr,sets,r,c,x,y,h=>by cases h;exact Nat.le_refl _
 | f+1,ts,cls,tr,sets,r,c,x,y,h=>by
  simp only[lD]at h
  split at h
  ·cases h
  ·rename_i h1
   cases h
   have:=eF h1
   simp only[if_true]at this
   omega
  ·rename_i h1
   have:=eF h1
   simp only[Bool.false_eq_true,if_false]at this
   split at h
   ·cases h
   ·rename_i h2
    have h3:=jD h2
    split at h
    ·cases h
    ·have:=tC h
     omega
omit ht in
theorem qN{s s1:PS}{w n r}(h:lR s w n r = .inl s1):s1.ts.size≤r.size:=by
 unfold lR at h
 split at h
 ·split at h
  ·cases h
  ·rename_i h1;cases h;exact tC h1
 ·split at h
  ·split at h
   ·cases h
   ·rename_i h1
    cases h
    unfold J6 at h1
    split at h1
    ·cases h1
    ·rename_i h2
     split at h1
     ·cases h1
     ·rename_i h3
      split at h1
      ·cases h1
      ·rename_i h4
       cases h1
       have:=jD h2
       have:=cK h3
       have:=fR h4
       simp only[];omega
  ·split at h
   ·split at h
    ·cases h
    ·rename_i h1
     cases h
     unfold vI at h1
     split at h1
     ·cases h1
     ·rename_i h2
      split at h1
      ·cases h1
      ·rename_i h3
       cases h1
       have:=fR h2
       have:=fR h3
       simp only[];omega
   ·split at h
    ·split at h
     ·cases h
     ·rename_i h1
      cases h
      unfold pT at h1
      split at h1
      ·cases h1
      ·rename_i h2
       split at h1
       ·cases h1
       ·rename_i h3
        split at h1
        ·cases h1
        ·rename_i h4
         split at h1
         ·cases h1
         ·rename_i h5
          cases h1
          have:=oU h2
          have:=cK h3
          have:=oU h4
          have:=cK h5
          simp only[];omega
    ·split at h
     ·cases h
     ·split at h
      ·cases h
      ·rename_i h1
       cases h
       unfold nL at h1
       split at h1
       ·cases h1
       ·split at h1
        ·cases h1
        ·rename_i h2
         split at h1
         ·cases h1
         ·rename_i h3
          split at h1
          ·cases h1
          ·rename_i h4
           split at h1
           ·cases h1
           ·rename_i h5
            cases h1
            have:=dL h2
            have:=cK h3
            have:=dL h4
            have:=cK h5
            simp only[];omega
theorem yW:∀(f:Nat) (s:PS) (p:Int),At t p s.ts→s.ts.size<f→Inv s →
  Ok (iter (dR t) (p,s.cls,s.join,s.after,s.treat,s.list,s.sets,s.pl,0)) (xI f s) (RS t)
 | 0,s,p,_,h,_=>by omega
 | f+1,s,p,h,hf,hI=>by
  have hh:=lA ht h s.join s.after s.pl 0 s.cls s.treat s.list s.sets
  have hw:=F8 ht h.posn s.join s.after s.pl 0 s.cls s.treat s.list s.sets
  simp only[xI]
  cases hts:s.ts with
  | bad n =>
   rw[hts]at hh
   apply aX
   unfold dR
   simp only[hh]
   rfl
  | eof n =>
   rw[hts]at hh
   have hq:=h.posn
   rw[hts]at hq
   refine⟨((n:Int),s.cls,s.join,s.after,s.treat,s.list,s.sets,s.pl,0),aX ?_,?_,rfl,hI⟩
   ·unfold dR
    simp only[hh]
    rfl
   ·rw[hts];exact hq
  | sg c n r =>
   rw[hts]at hh hw
   rw[hts]at h
   obtain⟨h1,h2,h3,h4,h5⟩:=h.sg
   apply aX
   unfold dR
   simp only[hh,gS,Option.bind_some]
   rw[if_pos (by
    simp only[bne_iff_ne,ne_eq,Toks.hd]
    intro hc
    have:c=0:=by omega
    subst this;cases h2),show fC t _ _ _ _ _ _ _ _ _=_ from hw]
   rfl
  | wd w n r =>
   obtain⟨b1,b2⟩:=xY ht hts h hI
   simp only[]
   cases hl:lR s w n r with
   | inr e=>exact aX (b1 e hl)
   | inl s1 =>
    obtain⟨a,b3,b4,b5,b6⟩:=b2 s1 hl
    have hz:=qN hl
    rw[hts]at hf
    simp only[Toks.size]at hf
    rw[bR b3]
    obtain⟨a1,a2⟩:=a
    dsimp only at b4 b5
    subst b5
    exact yW f s1 a1 b4 (by omega) b6
end
def qJ(t:List UInt8):(List (List UInt8)×Int×Int×List Int×RL)⊕Er :=
 if t.length > 4096 then .inr (24,4096)else match xI (t.length+1) (J8 (T t 0))with
 | .inr e=> .inr e
 | .inl s=> .inl (s.cls,s.join,s.after,s.treat,s.list)
def yY:((List (List UInt8)×Int×Int×List Int×RL)⊕Er)→(List (List UInt8)×Int×Int×List Int×RL)×Int×Int
 | .inr e=>(([],0,0,[],[]),e)
 | .inl x=>(x,0,0)
theorem at0(t:List UInt8):At t 0 (T t 0):=⟨by omega,by omega,rfl⟩
theorem aBh(ts:Toks):Inv (J8 ts):=⟨Nat.zero_le _,rfl,Nat.zero_le _,Int.le_refl _,by show(0:Int)≤200;decide⟩
theorem aA2(t:List UInt8):d9 t=some (yY (qJ t)):=by
 unfold d9 iU qJ
 by_cases hl:t.length > 4096
 ·rw[if_pos (by simp;omega),if_pos hl]
  rfl
 ·rw[if_neg (by simp;omega),if_neg hl]
  have hz:=qK (t:=t) _ 0 (Nat.le_refl _) (by omega)
  have h:=yW (t:=t) (by omega) (t.length+1) (J8 (T t 0)) 0 (at0 t) (by show(T t 0).size<_;omega) (aBh _)
  unfold zC
  cases hs:xI (t.length+1) (J8 (T t 0))with
  | inr e =>
   rw[hs]at h
   obtain⟨e1,e2⟩:=e
   rw[show iter (dR t) (0,[],0,0,[],[],[],0,0)=_ from h]
   rfl
  | inl s =>
   rw[hs]at h
   obtain⟨⟨a1,a2⟩,h1,h2,h3,h4⟩:=h
   dsimp only at h2 h3
   subst h3
   rw[show iter (dR t) (0,[],0,0,[],[],[],0,0)=_ from h1]
   rfl
end Go.Proofs.Ytjfjigknkhgkdaa.T
