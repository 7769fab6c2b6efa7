/- Pieces: the next one, words and signs, as both parsers take them. -/
import Derived.Test.YtjfjigknkhgkdaaTv03zd
namespace Go.Proofs.Ytjfjigknkhgkdaa.T
open Go Go.Tv Go.Proofs
abbrev S3(x:UInt8):Bool:=dS x.toNat
theorem aCf{t:List UInt8}{a:Nat}(h:a<t.length)(hp:(T t a).pos=a):T t a =
  if dS (t.getD a 0).toNat then .wd ((t.drop a).takeWhile S3) a (T t (a+((t.drop a).takeWhile S3).length))
  else if nC (t.getD a 0).toNat then .sg (t.getD a 0).toNat a (T t (a+1))
  else .bad a:=by
 have e:=sD h
 by_cases h35:(t.getD a 0).toNat=35
 ·exfalso
  have eh:=yX h h35
  rcases mO (t.drop a) 0 (by omega)with⟨_,e⟩ | ⟨j,hj,_,hj3,e⟩
  ·rw[eh,e,List.length_drop]at hp
   simp only[Toks.pos]at hp
   omega
  ·rw[List.length_drop]at hj
   have hg:(t.drop a).getD j 0=t.getD (a+j) 0:=by simp[List.getD_eq_getElem?_getD]
   rw[hg]at hj3
   have h0:j≠0:=by rintro rfl;simp only[Nat.add_zero]at hj3;omega
   rw[eh,e,List.drop_drop]at hp
   have:=(M6 t _ (a+j) (Nat.le_refl _) (by omega)).1
   change (T t (a+j)).pos=a at hp
   omega
 ·rw[if_neg h35]at e
  by_cases hb:wZ (t.getD a 0).toNat=true
  ·exfalso
   rw[if_pos hb]at e
   rw[e]at hp
   have:=(M6 t _ (a+1) (Nat.le_refl _) (by omega)).1
   omega
  ·rw[if_neg hb]at e
   exact e
theorem aCJ{t:List UInt8}{n:Nat}{w r}(h:At t n (.wd w n r)):n<t.length∧dS (t.getD n 0).toNat=true∧w=(t.drop n).takeWhile S3∧r=T t (n+w.length):=by
 obtain⟨h1,h2,h3⟩:=h
 rw[Int.toNat_natCast]at h3
 rcases Nat.lt_or_ge n t.length with hl | hl
 ·have e:=aCf hl (by rw[h3];rfl)
  rw[h3]at e
  by_cases hc:dS (t.getD n 0).toNat=true
  ·rw[if_pos hc]at e
   injection e with e1 e2 e3
   exact⟨hl,hc,e1,by rw[e3,e1]⟩
  ·rw[if_neg hc]at e
   split at e <;> cases e
 ·rw[pL hl]at h3;cases h3
theorem aCL{t:List UInt8}{n c:Nat}{r}(h:At t n (.sg c n r)):n<t.length∧dS c=false∧nC c=true∧c<256∧r=T t (n+1):=by
 obtain⟨h1,h2,h3⟩:=h
 rw[Int.toNat_natCast]at h3
 rcases Nat.lt_or_ge n t.length with hl | hl
 ·have e:=aCf hl (by rw[h3];rfl)
  rw[h3]at e
  by_cases hc:dS (t.getD n 0).toNat=true
  ·rw[if_pos hc]at e;cases e
  ·rw[if_neg hc]at e
   by_cases hs:nC (t.getD n 0).toNat=true
   ·rw[if_pos hs]at e
    injection e with e1 e2 e3
    exact⟨hl,by rw[e1];simpa using hc,by rw[e1];exact hs,by rw[e1];exact tN _,e3⟩
   ·rw[if_neg hs]at e;cases e
 ·rw[pL hl]at h3;cases h3
theorem At.wd{t:List UInt8}{p:Int}{w n r}(h:At t p (.wd w n r)):dS ((w.headD 0).toNat)=true∧w=(t.drop n).takeWhile S3∧n+w.length≤t.length∧At t ((n+w.length:Nat):Int) r∧1≤w.length:=by
 obtain⟨h1,h2,h3,h4⟩:=aCJ (show At t (n:Int) _ from h.posn)
 have hw:w=t.getD n 0::(t.drop (n+1)).takeWhile S3:=by
  rw[h3,iK (d:=0) h1,List.takeWhile_cons,if_pos h2]
 have hle:w.length≤t.length - n:=by
  rw[h3,←List.length_drop];exact(List.takeWhile_prefix _).length_le
 refine⟨by rw[hw];exact h2,h3,by omega,⟨by omega,by omega,by rw[Int.toNat_natCast];exact h4.symm⟩,by rw[hw];simp⟩
theorem At.sg{t:List UInt8}{p:Int}{c n r}(h:At t p (.sg c n r)):dS c=false∧nC c=true∧c<256∧At t ((n:Int)+1) r∧n<t.length:=by
 obtain⟨h1,h2,h3,h4,h5⟩:=aCL (show At t (n:Int) _ from h.posn)
 refine⟨h2,h3,h4,⟨by omega,by omega,?_⟩,h1⟩
 rw[show((n:Int)+1).toNat=n+1 by omega];exact h5.symm
theorem L9{t:List UInt8}{a:Nat}(h:a<t.length):((t.drop a).takeWhile S3).length=if dS (t.getD a 0).toNat then((t.drop (a+1)).takeWhile S3).length+1 else 0:=by
 rw[iK (d:=0) h,List.takeWhile_cons]
 split <;> simp
theorem Z0{t:List UInt8}(ht:t.length≤10000):∀(m a:Nat),t.length - a≤m→a≤t.length→iter (dO t) (a:Int)=some ((a+((t.drop a).takeWhile S3).length:Nat):Int):=by
 intro m
 have hend:∀a:Nat,a=t.length→iter (dO t) (a:Int)=some ((a+((t.drop a).takeWhile S3).length:Nat):Int):=fun a h=>by
  rw[List.drop_eq_nil_of_le (by omega)]
  apply aX
  unfold dO
  rw[if_neg (by simp;omega)]
  rfl
 induction m with
 | zero=>intro a h1 h2;exact hend a (by omega)
 | succ m ih =>
  intro a h1 h2
  rcases Nat.lt_or_ge a t.length with h | h
  ·have c1:decide ((a:Int)<(t.length:Int))=true:=by simp;omega
   have c2:0≤(a:Int)∧(a:Int)<(t.length:Int):=⟨by omega,by omega⟩
   have e:=L9 h
   by_cases hl:dS (t.getD a 0).toNat=true
   ·have hb:dO t (a:Int)=some (.inl ((a+1:Nat):Int)):=by
     unfold dO
     rw[if_pos c1,if_pos c2,Int.toNat_natCast,V2,hl]
     simp only[Option.bind_some]
     rw[if_pos trivial,aP (by omega) (by omega)]
     rfl
    rw[bR hb,ih (a+1) (by omega) (by omega),e,if_pos hl]
    congr 2;omega
   ·rw[e,if_neg hl]
    apply aX
    unfold dO
    rw[if_pos c1,if_pos c2,Int.toNat_natCast,V2]
    simp only[Option.bind_some]
    rw[if_neg hl]
    rfl
  ·exact hend a (by omega)
theorem U1{t:List UInt8}(ht:t.length≤10000):∀(m a:Nat),t.length - a≤m→a≤t.length→iter (dQ t) (a:Int)=some ((a+((t.drop a).takeWhile S3).length:Nat):Int):=by
 intro m
 have hend:∀a:Nat,a=t.length→iter (dQ t) (a:Int)=some ((a+((t.drop a).takeWhile S3).length:Nat):Int):=fun a h=>by
  rw[List.drop_eq_nil_of_le (by omega)]
  apply aX
  unfold dQ
  rw[if_neg (by simp;omega)]
  rfl
 induction m with
 | zero=>intro a h1 h2;exact hend a (by omega)
 | succ m ih =>
  intro a h1 h2
  rcases Nat.lt_or_ge a t.length with h | h
  ·have c1:decide ((a:Int)<(t.length:Int))=true:=by simp;omega
   have c2:0≤(a:Int)∧(a:Int)<(t.length:Int):=⟨by omega,by omega⟩
   have e:=L9 h
   by_cases hl:dS (t.getD a 0).toNat=true
   ·have hb:dQ t (a:Int)=some (.inl ((a+1:Nat):Int)):=by
     unfold dQ
     rw[if_pos c1,if_pos c2,Int.toNat_natCast,S4,hl]
     simp only[Option.bind_some]
     rw[if_pos trivial,aP (by omega) (by omega)]
     rfl
    rw[bR hb,ih (a+1) (by omega) (by omega),e,if_pos hl]
    congr 2;omega
   ·rw[e,if_neg hl]
    apply aX
    unfold dQ
    rw[if_pos c1,if_pos c2,Int.toNat_natCast,S4]
    simp only[Option.bind_some]
    rw[if_neg hl]
    rfl
  ·exact hend a (by omega)
def Ok{A B:Type}(x:Option (A⊕Er))(y:B⊕Er)(R:A→B→Prop):Prop:=match y with
 | .inr e=>x=some (.inr e)
 | .inl b=>∃a,x=some (.inl a)∧R a b
def gO:Toks→(List UInt8×Int×Toks)⊕Er
 | .bad n=> .inr (20,n)
 | .wd w n r=> .inl (w,n,r)
 | .eof n=> .inr (21,n)
 | .sg _ n _=> .inr (21,n)
def bF(c:Nat):Toks→(Bool×Toks)⊕Er
 | .bad n=> .inr (20,n)
 | .sg d n r=>if d=c then .inl (true,r)else .inl (false,.sg d n r)
 | ts=> .inl (false,ts)
def kD(c:Nat):Toks→Toks⊕Er
 | .bad n=> .inr (20,n)
 | .sg d n r=>if d=c then .inl r else .inr (21,n)
 | ts=> .inr (21,ts.pos)
theorem nF{t:List UInt8}{n:Nat}{w:List UInt8}(hw:w=(t.drop n).takeWhile S3):(t.take (n+w.length)).drop n=w:=by
 rw[List.drop_take,show n+w.length - n=w.length by omega,hw]
 exact(List.prefix_iff_eq_take.mp (List.takeWhile_prefix _)).symm
theorem F8{t:List UInt8}(ht:t.length≤10000){p:Int}{ts:Toks}(h:At t p ts)(d3 d4 d5 d6 o1 o2 o3 o4):Ok (fC t p d3 d4 d5 d6 o1 o2 o3 o4) (gO ts) (fun a b=>a.1=b.1∧a.2.1=b.2.1∧At t a.2.2 b.2.2):=by
 unfold fC
 rw[lA ht h]
 simp only[Option.bind_some]
 have hq:=h.posn
 cases ts with
 | bad n=>rfl
 | eof n =>
  simp only[gS,Toks.hd,Toks.pos,gO,Ok]
  rw[(kC (show 0<256 by decide)).1]
  rfl
 | sg c n r =>
  obtain⟨h1,h2,h3,h4,h5⟩:=h.sg
  simp only[gS,Toks.hd,Toks.pos,gO,Ok]
  rw[(kC h3).1,h1]
  rfl
 | wd w n r =>
  obtain⟨h1,h2,h3,h4,h5⟩:=h.wd
  simp only[gS,Toks.hd,Toks.pos,gO,Ok]
  rw[V2,h1]
  simp only[Option.bind_some]
  rw[if_neg (by simp),Z0 ht _ n (Nat.le_refl _) (by omega),←h2]
  simp only[Option.bind_some]
  rw[if_pos ⟨by omega,by omega,by omega⟩]
  refine⟨_,rfl,?_,rfl,h4⟩
  simp only[Int.toNat_natCast]
  exact nF h2
theorem lX{t:List UInt8}(ht:t.length≤10000){c:Nat}(hc:dS c=false)(hc0:c≠0){p:Int}{ts:Toks}(h:At t p ts)(d3 d4 d5 d6 o1 o2 o3 o4):Ok (aJ (c:Int) t p d3 d4 d5 d6 o1 o2 o3 o4) (bF c ts) (fun a b=>a.1=b.1∧At t a.2 b.2∧(a.1=false→a.2=b.2.pos)):=by
 unfold aJ
 rw[lA ht h]
 simp only[Option.bind_some]
 have hq:=h.posn
 cases ts with
 | bad n=>rfl
 | eof n =>
  simp only[gS,Toks.hd,Toks.pos,bF,Ok]
  rw[if_pos (by simp;omega)]
  exact⟨_,rfl,rfl,hq,fun _=>rfl⟩
 | sg d n r =>
  obtain⟨h1,h2,h3,h4,h5⟩:=h.sg
  simp only[gS,Toks.hd,Toks.pos,bF]
  by_cases hd:d=c
  ·rw[if_neg (by simp[hd]),if_pos hd,aP (by omega) (by omega)]
   exact⟨_,rfl,rfl,h4,fun h=>by cases h⟩
  ·rw[if_pos (by simp;omega),if_neg hd]
   exact⟨_,rfl,rfl,hq,fun _=>rfl⟩
 | wd w n r =>
  obtain⟨h1,h2,h3,h4,h5⟩:=h.wd
  simp only[gS,Toks.hd,Toks.pos,bF,Ok]
  rw[if_pos (by
   simp only[bne_iff_ne,ne_eq]
   intro hh
   have:(w.headD 0).toNat=c:=by omega
   rw[this,hc]at h1;cases h1)]
  exact⟨_,rfl,rfl,hq,fun _=>rfl⟩
theorem xT{t:List UInt8}(ht:t.length≤10000){c:Nat}(hc:dS c=false)(hc0:c≠0){p:Int}{ts:Toks}(h:At t p ts)(d3 d4 d5 d6 o1 o2 o3 o4):Ok (eH (c:Int) t p d3 d4 d5 d6 o1 o2 o3 o4) (kD c ts) (fun a b=>At t a b):=by
 have hs:=lX ht hc hc0 h d3 d4 d5 d6 o1 o2 o3 o4
 unfold eH
 cases ts with
 | bad n=>rw[show aJ (c:Int) t p d3 d4 d5 d6 o1 o2 o3 o4=_ from hs];rfl
 | eof n =>
  obtain⟨⟨b,q⟩,h1,h2,h3,h4⟩:=hs
  cases (show b=false from h2)
  cases (show q=_ from h4 rfl)
  rw[h1];rfl
 | sg d n r =>
  by_cases hd:d=c
  ·simp only[bF,if_pos hd]at hs
   obtain⟨⟨b,q⟩,h1,h2,h3,h4⟩:=hs
   cases (show b=true from h2)
   simp only[kD,if_pos hd]
   rw[h1];exact⟨_,rfl,h3⟩
  ·simp only[bF,if_neg hd]at hs
   obtain⟨⟨b,q⟩,h1,h2,h3,h4⟩:=hs
   cases (show b=false from h2)
   cases (show q=_ from h4 rfl)
   simp only[kD,if_neg hd]
   rw[h1];rfl
 | wd w n r =>
  obtain⟨⟨b,q⟩,h1,h2,h3,h4⟩:=hs
  cases (show b=false from h2)
  cases (show q=_ from h4 rfl)
  rw[h1];rfl
end Go.Proofs.Ytjfjigknkhgkdaa.T
