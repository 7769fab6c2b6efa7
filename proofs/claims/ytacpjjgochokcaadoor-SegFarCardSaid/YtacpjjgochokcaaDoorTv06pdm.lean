/- The pieces of a text of rules: both parsers see the same ones. -/
import Derived.Test.YtacpjjgochokcaaDoorTvT06xb
import Derived.Test.YtacpjjgochokcaaDoorTvYm
namespace Go.Proofs.YtacpjjgochokcaaDoor.T
open Go Go.Tv Go.Proofs
def lD(c:Nat):Bool:=c == 95 || (97≤c && c≤122) || (65≤c && c≤90) || (48≤c && c≤57)
def aBr(c:Nat):Bool:=c == 32 || c == 9 || c == 10 || c == 13
def R2(c:Nat):Bool:=[40,41,91,93,94,124,42,43,63,46,59,47,61].contains c
theorem aC0(c:UInt8):c.toNat<256:=UInt8.toNat_lt c
inductive Toks where
 | bad (n:Nat)
 | eof (n:Nat)
 | wd (w:List UInt8) (n:Nat) (r:Toks)
 | sg (c:Nat) (n:Nat) (r:Toks)
def tk:Option Nat→List UInt8→Nat→Toks
 | _,[],n=> .eof n
 | none,c::r,n=>if c.toNat=10 then tk (some 0) r (n+1)else tk none r (n+1)
 | some (k+1),_::r,n=>tk (some k) r (n+1)
 | some 0,c::r,n =>
  if c.toNat=35 then tk none r (n+1)
  else if aBr c.toNat then tk (some 0) r (n+1)
  else if lD c.toNat then .wd (c::r.takeWhile fun x=>lD x.toNat) n (tk (some (r.takeWhile fun x=>lD x.toNat).length) r (n+1))
  else if R2 c.toNat then .sg c.toNat n (tk (some 0) r (n+1))
  else .bad n
theorem M0:∀(k:Nat) (l:List UInt8) (n:Nat),k≤l.length→tk (some k) l n=tk (some 0) (l.drop k) (n+k)
 | 0,l,n,_=>rfl
 | k+1,[],n,h=>by simp at h
 | k+1,c::r,n,h=>by
  have:=M0 k r (n+1) (by simpa using h)
  show tk (some k) r (n+1)=tk (some 0) (r.drop k) (n+(k+1))
  rw[this,Nat.add_assoc,Nat.add_comm 1 k]
def T(t:List UInt8)(a:Nat):Toks:=tk (some 0) (t.drop a) a
def Toks.pos:Toks→Nat
 | .bad n=>n
 | .eof n=>n
 | .wd _ n _=>n
 | .sg _ n _=>n
def Toks.hd:Toks→Nat
 | .bad _=>0
 | .eof _=>0
 | .wd w _ _=>(w.headD 0).toNat
 | .sg c _ _=>c
def Toks.size:Toks→Nat
 | .bad _=>0
 | .eof _=>0
 | .wd _ _ r=>r.size+1
 | .sg _ _ r=>r.size+1
theorem E1{t:List UInt8}{a:Nat}(h:t.length≤a):T t a = .eof a:=by
 unfold T;rw[List.drop_eq_nil_of_le h];rfl
theorem L0{t:List UInt8}{a:Nat}(h:a<t.length):T t a =
  if(t.getD a 0).toNat=35 then tk none (t.drop (a+1)) (a+1)
  else if aBr (t.getD a 0).toNat then T t (a+1)
  else if lD (t.getD a 0).toNat then .wd ((t.drop a).takeWhile fun x=>lD x.toNat) a (T t (a+((t.drop a).takeWhile fun x=>lD x.toNat).length))
  else if R2 (t.getD a 0).toNat then .sg (t.getD a 0).toNat a (T t (a+1))
  else .bad a:=by
 unfold T
 have e:t.drop a=t.getD a 0::t.drop (a+1):=lZ h
 generalize hc:t.getD a 0=c at e
 rw[e]
 simp only[tk]
 split
 ·rfl
 ·split
  ·rfl
  ·split
   ·rename_i hl
    have:(c::List.drop (a+1) t).takeWhile (fun x=>lD x.toNat)=c::(List.drop (a+1) t).takeWhile (fun x=>lD x.toNat):=by
     rw[List.takeWhile_cons,if_pos hl]
    rw[this,M0 _ _ _ (List.takeWhile_prefix _).length_le,List.drop_drop]
    simp only[List.length_cons]
    rw[show a+1+(List.takeWhile (fun x=>lD x.toNat) (List.drop (a+1) t)).length=a+((List.takeWhile (fun x=>lD x.toNat) (List.drop (a+1) t)).length+1) by omega]
   ·rfl
theorem aDB{t:List UInt8}{a:Nat}(h:a<t.length):tk none (t.drop a) a=if(t.getD a 0).toNat=10 then T t (a+1)else tk none (t.drop (a+1)) (a+1):=by
 have e:t.drop a=t.getD a 0::t.drop (a+1):=lZ h
 generalize hc:t.getD a 0=c at e
 rw[e]
 rfl
theorem aAc{t:List UInt8}{a:Nat}(h:a<t.length)(hc:(t.getD a 0).toNat=35):T t a=tk none (t.drop a) a:=by
 rw[L0 h,if_pos hc,aDB h,if_neg (by omega)]
theorem pC:∀(l:List UInt8) (k:Int),0≤k→(tY l 10 k = -1∧∀n,tk none l n = .eof (n+l.length))∨∃j:Nat,j<l.length∧tY l 10 k=k+j∧(l.getD j 0).toNat=10∧∀n,tk none l n=tk (some 0) (l.drop j) (n+j)
 | [],k,hk=>Or.inl ⟨rfl,fun n=>rfl⟩
 | c::r,k,hk=>by
  have e10:(Int.toNat 10).toUInt8=(10:UInt8):=by decide
  by_cases hc:c.toNat=10
  ·have hc':c=10:=UInt8.toNat_inj.mp (by rw[hc];decide)
   subst hc'
   refine Or.inr ⟨0,by simp,?_,rfl,fun n=> ?_⟩
   ·simp[tY]
   ·show tk none ((10:UInt8)::r) n=tk (some 0) ((10:UInt8)::r) n
    simp only[tk]
    rw[if_pos (by decide),if_neg (by decide),if_pos (by decide)]
  ·have hc':¬(c == (10:UInt8))=true:=by
    intro h;apply hc;rw[beq_iff_eq.mp h];decide
   have e:tY (c::r) 10 k=tY r 10 (k+1):=by
    simp only[tY,e10]
    rw[if_neg hc']
   have e2:∀n,tk none (c::r) n=tk none r (n+1):=fun n=>by
    simp only[tk];rw[if_neg hc]
   rcases pC r (k+1) (by omega)with⟨h1,h2⟩ | ⟨j,h1,h2,h3,h4⟩
   ·exact Or.inl ⟨by rw[e,h1],fun n=>by rw[e2,h2,List.length_cons];congr 1;omega⟩
   ·refine Or.inr ⟨j+1,by simp;omega,by rw[e,h2];push_cast;omega,h3,fun n=> ?_⟩
    rw[e2,h4,List.drop_succ_cons];congr 1;omega
theorem aAu(t:List UInt8):∀(m a:Nat),t.length - a≤m→a≤t.length→a≤(T t a).pos∧(T t a).pos≤t.length∧T t (T t a).pos=T t a:=by
 intro m
 have hend:∀a,a=t.length→a≤(T t a).pos∧(T t a).pos≤t.length∧T t (T t a).pos=T t a:=fun a h=>by
  rw[E1 (by omega)]
  exact⟨Nat.le_refl _,by simp only[Toks.pos];omega,E1 (by simp only[Toks.pos];omega)⟩
 induction m with
 | zero=>intro a h1 h2;exact hend a (by omega)
 | succ m ih =>
  intro a h1 h2
  rcases Nat.lt_or_ge a t.length with h | h
  ·by_cases h35:(t.getD a 0).toNat=35
   ·rw[aAc h h35]
    rcases pC (t.drop a) 0 (by omega)with⟨_,e⟩ | ⟨j,hj,_,hj3,e⟩
    ·rw[e,List.length_drop]
     simp only[Toks.pos]
     exact⟨by omega,by omega,E1 (by omega)⟩
    ·rw[e,List.drop_drop]
     rw[List.length_drop]at hj
     have hg:(t.drop a).getD j 0=t.getD (a+j) 0:=by simp[List.getD_eq_getElem?_getD]
     rw[hg]at hj3
     have h0:j≠0:=by rintro rfl;simp only[Nat.add_zero]at hj3;omega
     have:=ih (a+j) (by omega) (by omega)
     exact⟨by have:=this.1;show a≤(T t (a+j)).pos;omega,this.2⟩
   ·have e:=L0 h
    rw[if_neg h35]at e
    by_cases hb:aBr (t.getD a 0).toNat=true
    ·rw[if_pos hb]at e
     rw[e]
     have:=ih (a+1) (by omega) (by omega)
     exact⟨by omega,this.2⟩
    ·rw[if_neg hb]at e
     have hp:(T t a).pos=a:=by
      rw[e]
      split
      ·rfl
      ·split <;> rfl
     rw[hp]
     exact⟨Nat.le_refl _,h2,rfl⟩
  ·exact hend a (by omega)
def At(t:List UInt8)(p:Int)(ts:Toks):Prop:=0≤p∧p≤t.length∧T t p.toNat=ts
theorem At.posn{t:List UInt8}{p:Int}{ts:Toks}(h:At t p ts):At t (ts.pos:Int) ts:=by
 obtain⟨h1,h2,rfl⟩:=h
 have:=aAu t (t.length - p.toNat) p.toNat (Nat.le_refl _) (by omega)
 exact⟨by omega,by omega,by simpa using this.2.2⟩
abbrev Er:=Int×Int
end Go.Proofs.YtacpjjgochokcaaDoor.T
namespace Go.Proofs.YtacpjjgochokcaaDoor.T
open Go Go.Tv Go.Proofs
abbrev isL(x:UInt8):Bool:=lD x.toNat
theorem aDw{t:List UInt8}{a:Nat}(h:a<t.length)(hp:(T t a).pos=a):T t a =
  if lD (t.getD a 0).toNat then .wd ((t.drop a).takeWhile isL) a (T t (a+((t.drop a).takeWhile isL).length))
  else if R2 (t.getD a 0).toNat then .sg (t.getD a 0).toNat a (T t (a+1))
  else .bad a:=by
 have e:=L0 h
 by_cases h35:(t.getD a 0).toNat=35
 ·exfalso
  have eh:=aAc h h35
  rcases pC (t.drop a) 0 (by omega)with⟨_,e⟩ | ⟨j,hj,_,hj3,e⟩
  ·rw[eh,e,List.length_drop]at hp
   simp only[Toks.pos]at hp
   omega
  ·rw[List.length_drop]at hj
   have hg:(t.drop a).getD j 0=t.getD (a+j) 0:=by simp[List.getD_eq_getElem?_getD]
   rw[hg]at hj3
   have h0:j≠0:=by rintro rfl;simp only[Nat.add_zero]at hj3;omega
   rw[eh,e,List.drop_drop]at hp
   have:=(aAu t _ (a+j) (Nat.le_refl _) (by omega)).1
   change (T t (a+j)).pos=a at hp
   omega
 ·rw[if_neg h35]at e
  by_cases hb:aBr (t.getD a 0).toNat=true
  ·exfalso
   rw[if_pos hb]at e
   rw[e]at hp
   have:=(aAu t _ (a+1) (Nat.le_refl _) (by omega)).1
   omega
  ·rw[if_neg hb]at e
   exact e
theorem aEi{t:List UInt8}{n:Nat}{w r}(h:At t n (.wd w n r)):n<t.length∧lD (t.getD n 0).toNat=true∧w=(t.drop n).takeWhile isL∧r=T t (n+w.length):=by
 obtain⟨h1,h2,h3⟩:=h
 rw[Int.toNat_natCast]at h3
 rcases Nat.lt_or_ge n t.length with hl | hl
 ·have e:=aDw hl (by rw[h3];rfl)
  rw[h3]at e
  by_cases hc:lD (t.getD n 0).toNat=true
  ·rw[if_pos hc]at e
   injection e with e1 e2 e3
   exact⟨hl,hc,e1,by rw[e3,e1]⟩
  ·rw[if_neg hc]at e
   split at e <;> cases e
 ·rw[E1 hl]at h3;cases h3
theorem aEF{t:List UInt8}{n c:Nat}{r}(h:At t n (.sg c n r)):n<t.length∧lD c=false∧R2 c=true∧c<256∧r=T t (n+1):=by
 obtain⟨h1,h2,h3⟩:=h
 rw[Int.toNat_natCast]at h3
 rcases Nat.lt_or_ge n t.length with hl | hl
 ·have e:=aDw hl (by rw[h3];rfl)
  rw[h3]at e
  by_cases hc:lD (t.getD n 0).toNat=true
  ·rw[if_pos hc]at e;cases e
  ·rw[if_neg hc]at e
   by_cases hs:R2 (t.getD n 0).toNat=true
   ·rw[if_pos hs]at e
    injection e with e1 e2 e3
    exact⟨hl,by rw[e1];simpa using hc,by rw[e1];exact hs,by rw[e1];exact aC0 _,e3⟩
   ·rw[if_neg hs]at e;cases e
 ·rw[E1 hl]at h3;cases h3
theorem At.wd{t:List UInt8}{p:Int}{w n r}(h:At t p (.wd w n r)):lD ((w.headD 0).toNat)=true∧w=(t.drop n).takeWhile isL∧n+w.length≤t.length∧At t ((n+w.length:Nat):Int) r∧1≤w.length:=by
 obtain⟨h1,h2,h3,h4⟩:=aEi (show At t (n:Int) _ from h.posn)
 have hw:w=t.getD n 0::(t.drop (n+1)).takeWhile isL:=by
  rw[h3,lZ (d:=0) h1,List.takeWhile_cons,if_pos h2]
 have hle:w.length≤t.length - n:=by
  rw[h3,←List.length_drop];exact(List.takeWhile_prefix _).length_le
 refine⟨by rw[hw];exact h2,h3,by omega,⟨by omega,by omega,by rw[Int.toNat_natCast];exact h4.symm⟩,by rw[hw];simp⟩
theorem At.sg{t:List UInt8}{p:Int}{c n r}(h:At t p (.sg c n r)):lD c=false∧R2 c=true∧c<256∧At t ((n:Int)+1) r∧n<t.length:=by
 obtain⟨h1,h2,h3,h4,h5⟩:=aEF (show At t (n:Int) _ from h.posn)
 refine⟨h2,h3,h4,⟨by omega,by omega,?_⟩,h1⟩
 rw[show((n:Int)+1).toNat=n+1 by omega];exact h5.symm
def Ok{A B:Type}(x:Option (A⊕Er))(y:B⊕Er)(R:A→B→Prop):Prop:=match y with
 | .inr e=>x=some (.inr e)
 | .inl b=>∃a,x=some (.inl a)∧R a b
end Go.Proofs.YtacpjjgochokcaaDoor.T
