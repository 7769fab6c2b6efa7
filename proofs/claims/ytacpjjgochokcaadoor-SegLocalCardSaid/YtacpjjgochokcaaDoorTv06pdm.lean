/- The pieces of a text of rules: both parsers see the same ones. -/
import Derived.Test.YtacpjjgochokcaaDoorTvT06xb
import Derived.Test.YtacpjjgochokcaaDoorTvYm
namespace Go.Proofs.YtacpjjgochokcaaDoor.T
open Go Go.Tv Go.Proofs
def d8(c:Nat):Bool:=c == 95 || (97≤c && c≤122) || (65≤c && c≤90) || (48≤c && c≤57)
def sM(c:Nat):Bool:=c == 32 || c == 9 || c == 10 || c == 13
def tU(c:Nat):Bool:=[40,41,91,93,94,124,42,43,63,46,59,47,61].contains c
theorem aDa:((List.range 256).all fun n=>(cK (n:Int) == some (d8 n)) && (iT (n:Int) == some (sM n)) && (decide (rR [40,41,91,93,94,124,42,43,63,46,59,47,61] (n:Int) 0<0) == !tU n)
  && (!(d8 n && tU n)) && (n.toUInt8.toNat == n))=true:=by kernel_rfl
theorem nJ{n:Nat}(h:n<256):cK (n:Int)=some (d8 n)∧iT (n:Int)=some (sM n)∧decide (rR [40,41,91,93,94,124,42,43,63,46,59,47,61] (n:Int) 0<0) = !tU n:=by
 have h1:=List.all_eq_true.mp aDa n (List.mem_range.mpr h)
 simp only[Bool.and_eq_true,beq_iff_eq]at h1
 exact⟨h1.1.1.1.1,h1.1.1.1.2,h1.1.1.2⟩
theorem aAK(c:UInt8):c.toNat<256:=UInt8.toNat_lt c
theorem aDI(c:UInt8):cK (c.toNat:Int)=some (d8 c.toNat):=(nJ (aAK c)).1
theorem aGH(c:UInt8):iT (c.toNat:Int)=some (sM c.toNat):=(nJ (aAK c)).2.1
theorem aHU(c:UInt8):decide (rR [40,41,91,93,94,124,42,43,63,46,59,47,61] (c.toNat:Int) 0<0) = !tU c.toNat:=(nJ (aAK c)).2.2
inductive Toks where
 | bad (n:Nat)
 | eof (n:Nat)
 | wd (w:List UInt8) (n:Nat) (r:Toks)
 | sg (c:Nat) (n:Nat) (r:Toks)
def tk:Option Nat→List UInt8→Nat→Toks
 | _,[],n=> .eof n
 | none,c::r,n=>if c.toNat=10 then tk (some 0) r (n+1)else tk none r (n+1)
 | some (k+1),_::r,n=>tk (some k) r (n+1)
 | some 0,c::r,n =>
  if c.toNat=35 then tk none r (n+1)
  else if sM c.toNat then tk (some 0) r (n+1)
  else if d8 c.toNat then .wd (c::r.takeWhile fun x=>d8 x.toNat) n (tk (some (r.takeWhile fun x=>d8 x.toNat).length) r (n+1))
  else if tU c.toNat then .sg c.toNat n (tk (some 0) r (n+1))
  else .bad n
theorem J9:∀(k:Nat) (l:List UInt8) (n:Nat),k≤l.length→tk (some k) l n=tk (some 0) (l.drop k) (n+k)
 | 0,l,n,_=>rfl
 | k+1,[],n,h=>by simp at h
 | k+1,c::r,n,h=>by
  have:=J9 k r (n+1) (by simpa using h)
  show tk (some k) r (n+1)=tk (some 0) (r.drop k) (n+(k+1))
  rw[this,Nat.add_assoc,Nat.add_comm 1 k]
def T(t:List UInt8)(a:Nat):Toks:=tk (some 0) (t.drop a) a
def Toks.pos:Toks→Nat
 | .bad n=>n
 | .eof n=>n
 | .wd _ n _=>n
 | .sg _ n _=>n
def Toks.hd:Toks→Nat
 | .bad _=>0
 | .eof _=>0
 | .wd w _ _=>(w.headD 0).toNat
 | .sg c _ _=>c
def Toks.size:Toks→Nat
 | .bad _=>0
 | .eof _=>0
 | .wd _ _ r=>r.size+1
 | .sg _ _ r=>r.size+1
theorem vE{t:List UInt8}{a:Nat}(h:t.length≤a):T t a = .eof a:=by
 unfold T;rw[List.drop_eq_nil_of_le h];rfl
theorem M0{t:List UInt8}{a:Nat}(h:a<t.length):T t a =
  if(t.getD a 0).toNat=35 then tk none (t.drop (a+1)) (a+1)
  else if sM (t.getD a 0).toNat then T t (a+1)
  else if d8 (t.getD a 0).toNat then .wd ((t.drop a).takeWhile fun x=>d8 x.toNat) a (T t (a+((t.drop a).takeWhile fun x=>d8 x.toNat).length))
  else if tU (t.getD a 0).toNat then .sg (t.getD a 0).toNat a (T t (a+1))
  else .bad a:=by
 unfold T
 have e:t.drop a=t.getD a 0::t.drop (a+1):=jV h
 generalize hc:t.getD a 0=c at e
 rw[e]
 simp only[tk]
 split
 ·rfl
 ·split
  ·rfl
  ·split
   ·rename_i hl
    have:(c::List.drop (a+1) t).takeWhile (fun x=>d8 x.toNat)=c::(List.drop (a+1) t).takeWhile (fun x=>d8 x.toNat):=by
     rw[List.takeWhile_cons,if_pos hl]
    rw[this,J9 _ _ _ (List.takeWhile_prefix _).length_le,List.drop_drop]
    simp only[List.length_cons]
    rw[show a+1+(List.takeWhile (fun x=>d8 x.toNat) (List.drop (a+1) t)).length=a+((List.takeWhile (fun x=>d8 x.toNat) (List.drop (a+1) t)).length+1) by omega]
   ·rfl
theorem aG1{t:List UInt8}{a:Nat}(h:a<t.length):tk none (t.drop a) a=if(t.getD a 0).toNat=10 then T t (a+1)else tk none (t.drop (a+1)) (a+1):=by
 have e:t.drop a=t.getD a 0::t.drop (a+1):=jV h
 generalize hc:t.getD a 0=c at e
 rw[e]
 rfl
theorem Z3{t:List UInt8}{a:Nat}(h:a<t.length)(hc:(t.getD a 0).toNat=35):T t a=tk none (t.drop a) a:=by
 rw[M0 h,if_pos hc,aG1 h,if_neg (by omega)]
theorem n0:∀(l:List UInt8) (k:Int),0≤k→(rR l 10 k = -1∧∀n,tk none l n = .eof (n+l.length))∨∃j:Nat,j<l.length∧rR l 10 k=k+j∧(l.getD j 0).toNat=10∧∀n,tk none l n=tk (some 0) (l.drop j) (n+j)
 | [],k,hk=>Or.inl ⟨rfl,fun n=>rfl⟩
 | c::r,k,hk=>by
  have e10:(Int.toNat 10).toUInt8=(10:UInt8):=by decide
  by_cases hc:c.toNat=10
  ·have hc':c=10:=UInt8.toNat_inj.mp (by rw[hc];decide)
   subst hc'
   refine Or.inr ⟨0,by simp,?_,rfl,fun n=> ?_⟩
   ·simp[rR]
   ·show tk none ((10:UInt8)::r) n=tk (some 0) ((10:UInt8)::r) n
    simp only[tk]
    rw[if_pos (by decide),if_neg (by decide),if_pos (by decide)]
  ·have hc':¬(c == (10:UInt8))=true:=by
    intro h;apply hc;rw[beq_iff_eq.mp h];decide
   have e:rR (c::r) 10 k=rR r 10 (k+1):=by
    simp only[rR,e10]
    rw[if_neg hc']
   have e2:∀n,tk none (c::r) n=tk none r (n+1):=fun n=>by
    simp only[tk];rw[if_neg hc]
   rcases n0 r (k+1) (by omega)with⟨h1,h2⟩ | ⟨j,h1,h2,h3,h4⟩
   ·exact Or.inl ⟨by rw[e,h1],fun n=>by rw[e2,h2,List.length_cons];congr 1;omega⟩
   ·refine Or.inr ⟨j+1,by simp;omega,by rw[e,h2];push_cast;omega,h3,fun n=> ?_⟩
    rw[e2,h4,List.drop_succ_cons];congr 1;omega
theorem aAy(t:List UInt8):∀(m a:Nat),t.length - a≤m→a≤t.length→a≤(T t a).pos∧(T t a).pos≤t.length∧T t (T t a).pos=T t a:=by
 intro m
 have hend:∀a,a=t.length→a≤(T t a).pos∧(T t a).pos≤t.length∧T t (T t a).pos=T t a:=fun a h=>by
  rw[vE (by omega)]
  exact⟨Nat.le_refl _,by simp only[Toks.pos];omega,vE (by simp only[Toks.pos];omega)⟩
 induction m with
 | zero=>intro a h1 h2;exact hend a (by omega)
 | succ m ih =>
  intro a h1 h2
  rcases Nat.lt_or_ge a t.length with h | h
  ·by_cases h35:(t.getD a 0).toNat=35
   ·rw[Z3 h h35]
    rcases n0 (t.drop a) 0 (by omega)with⟨_,e⟩ | ⟨j,hj,_,hj3,e⟩
    ·rw[e,List.length_drop]
     simp only[Toks.pos]
     exact⟨by omega,by omega,vE (by omega)⟩
    ·rw[e,List.drop_drop]
     rw[List.length_drop]at hj
     have hg:(t.drop a).getD j 0=t.getD (a+j) 0:=by simp[List.getD_eq_getElem?_getD]
     rw[hg]at hj3
     have h0:j≠0:=by rintro rfl;simp only[Nat.add_zero]at hj3;omega
     have:=ih (a+j) (by omega) (by omega)
     exact⟨by have:=this.1;show a≤(T t (a+j)).pos;omega,this.2⟩
   ·have e:=M0 h
    rw[if_neg h35]at e
    by_cases hb:sM (t.getD a 0).toNat=true
    ·rw[if_pos hb]at e
     rw[e]
     have:=ih (a+1) (by omega) (by omega)
     exact⟨by omega,this.2⟩
    ·rw[if_neg hb]at e
     have hp:(T t a).pos=a:=by
      rw[e]
      split
      ·rfl
      ·split <;> rfl
     rw[hp]
     exact⟨Nat.le_refl _,h2,rfl⟩
  ·exact hend a (by omega)
def At(t:List UInt8)(p:Int)(ts:Toks):Prop:=0≤p∧p≤t.length∧T t p.toNat=ts
theorem At.posn{t:List UInt8}{p:Int}{ts:Toks}(h:At t p ts):At t (ts.pos:Int) ts:=by
 obtain⟨h1,h2,rfl⟩:=h
 have:=aAy t (t.length - p.toNat) p.toNat (Nat.le_refl _) (by omega)
 exact⟨by omega,by omega,by simpa using this.2.2⟩
abbrev Er:=Int×Int
def aE8:Toks→Int⊕((Int×Int)⊕(Int×Int))
 | .bad n=> .inr (.inl (20,n))
 | .eof n=> .inl n
 | ts=> .inr (.inr (ts.hd,ts.pos))
def iQ:Toks→(Int×Int)⊕(Int×Int)
 | .bad n=> .inr (20,n)
 | ts=> .inl (ts.hd,ts.pos)
theorem j7{S T:Type}{body:S→Option (S⊕T)}{s s':S}(h:body s=some (.inl s')):iter body s=iter body s':=by rw[kY,h]
theorem cX{S T:Type}{body:S→Option (S⊕T)}{s:S}{r:T}(h:body s=some (.inr r)):iter body s=some r:=by rw[kY,h]
theorem aDJ{t:List UInt8}(ht:t.length≤10000)(d3 d4 d5 d6 o1 o2 o3 o4):∀(m a:Nat),t.length - a≤m→a≤t.length→iter (bW t d3 d4 d5 d6 o1 o2 o3 o4) (a:Int)=some (aE8 (T t a)):=by
 intro m
 have hend:∀a:Nat,a=t.length→iter (bW t d3 d4 d5 d6 o1 o2 o3 o4) (a:Int)=some (aE8 (T t a)):=fun a h=>by
  rw[vE (by omega)]
  apply cX
  unfold bW
  rw[if_neg (by simp;omega)]
  rfl
 induction m with
 | zero=>intro a h1 h2;exact hend a (by omega)
 | succ m ih =>
  intro a h1 h2
  rcases Nat.lt_or_ge a t.length with h | h
  ·have c1:decide ((a:Int)<(t.length:Int))=true:=by simp;omega
   have c2:0≤(a:Int)∧(a:Int)<(t.length:Int):=⟨by omega,by omega⟩
   by_cases h35:(t.getD a 0).toNat=35
   ·have z35:(((t.getD a 0).toNat:Int) == (35:Int))=true:=by rw[h35];rfl
    have e0:(t.take t.length).drop a=t.drop a:=by rw[List.take_length]
    rw[Z3 h h35]
    rcases n0 (t.drop a) 0 (by omega)with⟨e1,e⟩ | ⟨j,hj,e1,hj3,e⟩
    ·have hb:bW t d3 d4 d5 d6 o1 o2 o3 o4 (a:Int)=some (.inl (t.length:Int)):=by
      unfold bW
      rw[if_pos c1,if_pos c2,Int.toNat_natCast,if_pos z35,if_pos ⟨by omega,by omega,by omega⟩]
      simp only[cJ,cZ,Option.bind_some,Int.toNat_natCast,e0,e1]
      rw[if_pos (by decide)]
      simp only[Option.bind_some]
      have ew:IntKind.i64.wrap ((t.length:Int) - (a:Int))=(t.length:Int) - a:=aR (by omega) (by omega)
      rw[ew,aR (by omega) (by omega),show(a:Int)+((t.length:Int) - a)=(t.length:Int) by omega]
     rw[j7 hb,hend t.length rfl,vE (Nat.le_refl _),e,List.length_drop]
     congr 3;omega
    ·rw[List.length_drop]at hj
     have hg:(t.drop a).getD j 0=t.getD (a+j) 0:=by simp[List.getD_eq_getElem?_getD]
     rw[hg]at hj3
     have h0:j≠0:=by rintro rfl;simp only[Nat.add_zero]at hj3;omega
     have hb:bW t d3 d4 d5 d6 o1 o2 o3 o4 (a:Int)=some (.inl ((a+j:Nat):Int)):=by
      unfold bW
      rw[if_pos c1,if_pos c2,Int.toNat_natCast,if_pos z35,if_pos ⟨by omega,by omega,by omega⟩]
      simp only[cJ,cZ,Option.bind_some,Int.toNat_natCast,e0,e1]
      rw[if_neg (by simp)]
      simp only[Option.bind_some]
      rw[aR (by omega) (by omega),show(a:Int)+(0+(j:Int))=((a+j:Nat):Int) by omega]
     rw[j7 hb,ih (a+j) (by omega) (by omega),e,List.drop_drop]
     rfl
   ·have hz:¬(((t.getD a 0).toNat:Int) == (35:Int))=true:=by simp only[beq_iff_eq];omega
    have e:=M0 h
    rw[if_neg h35]at e
    by_cases hb:sM (t.getD a 0).toNat=true
    ·have hb':bW t d3 d4 d5 d6 o1 o2 o3 o4 (a:Int)=some (.inl ((a+1:Nat):Int)):=by
      unfold bW
      rw[if_pos c1,if_pos c2,Int.toNat_natCast,if_neg hz,aGH]
      simp only[Option.bind_some]
      rw[if_pos hb,aR (by omega) (by omega)]
      rfl
     rw[j7 hb',e,if_pos hb]
     exact ih (a+1) (by omega) (by omega)
    ·rw[if_neg hb]at e
     apply cX
     unfold bW
     rw[if_pos c1,if_pos c2,Int.toNat_natCast,if_neg hz,aGH,aDI]
     simp only[Option.bind_some]
     rw[if_neg hb]
     by_cases hl:d8 (t.getD a 0).toNat=true
     ·rw[if_pos hl]at e
      rw[e,hl,if_neg (by simp)]
      simp only[Option.bind_some]
      rw[if_neg (by simp)]
      show _=some (Sum.inr (Sum.inr (Sum.inr ((((List.headD (List.takeWhile (fun x=>d8 x.toNat) (List.drop a t)) 0).toNat:Nat):Int),(a:Int)))))
      rw[jV (d:=0) h,List.takeWhile_cons,if_pos hl]
      rfl
     ·rw[if_neg hl]at e
      have hl':d8 (t.getD a 0).toNat=false:=by simpa using hl
      rw[hl',if_pos (by rfl)]
      simp only[cJ,cZ,Option.bind_some,aHU]
      by_cases hs:tU (t.getD a 0).toNat=true
      ·rw[if_pos hs]at e
       rw[e,hs,if_neg (by simp)]
       rfl
      ·rw[if_neg hs]at e
       have hs':tU (t.getD a 0).toNat=false:=by simpa using hs
       rw[e,hs',if_pos (by rfl)]
       rfl
  ·exact hend a (by omega)
theorem mI{t:List UInt8}(ht:t.length≤10000){p:Int}{ts:Toks}(h:At t p ts)(d3 d4 d5 d6 o1 o2 o3 o4):eJ t p d3 d4 d5 d6 o1 o2 o3 o4=some (iQ ts):=by
 obtain⟨h1,h2,rfl⟩:=h
 obtain⟨a,rfl⟩:=Int.eq_ofNat_of_zero_le h1
 unfold eJ
 rw[aDJ ht d3 d4 d5 d6 o1 o2 o3 o4 _ a (Nat.le_refl _) (by omega),Int.toNat_natCast]
 cases T t a <;> rfl
end Go.Proofs.YtacpjjgochokcaaDoor.T
namespace Go.Proofs.YtacpjjgochokcaaDoor.T
open Go Go.Tv Go.Proofs
abbrev isL(x:UInt8):Bool:=d8 x.toNat
theorem aG9{t:List UInt8}{a:Nat}(h:a<t.length)(hp:(T t a).pos=a):T t a =
  if d8 (t.getD a 0).toNat then .wd ((t.drop a).takeWhile isL) a (T t (a+((t.drop a).takeWhile isL).length))
  else if tU (t.getD a 0).toNat then .sg (t.getD a 0).toNat a (T t (a+1))
  else .bad a:=by
 have e:=M0 h
 by_cases h35:(t.getD a 0).toNat=35
 ·exfalso
  have eh:=Z3 h h35
  rcases n0 (t.drop a) 0 (by omega)with⟨_,e⟩ | ⟨j,hj,_,hj3,e⟩
  ·rw[eh,e,List.length_drop]at hp
   simp only[Toks.pos]at hp
   omega
  ·rw[List.length_drop]at hj
   have hg:(t.drop a).getD j 0=t.getD (a+j) 0:=by simp[List.getD_eq_getElem?_getD]
   rw[hg]at hj3
   have h0:j≠0:=by rintro rfl;simp only[Nat.add_zero]at hj3;omega
   rw[eh,e,List.drop_drop]at hp
   have:=(aAy t _ (a+j) (Nat.le_refl _) (by omega)).1
   change (T t (a+j)).pos=a at hp
   omega
 ·rw[if_neg h35]at e
  by_cases hb:sM (t.getD a 0).toNat=true
  ·exfalso
   rw[if_pos hb]at e
   rw[e]at hp
   have:=(aAy t _ (a+1) (Nat.le_refl _) (by omega)).1
   omega
  ·rw[if_neg hb]at e
   exact e
theorem aIs{t:List UInt8}{n:Nat}{w r}(h:At t n (.wd w n r)):n<t.length∧d8 (t.getD n 0).toNat=true∧w=(t.drop n).takeWhile isL∧r=T t (n+w.length):=by
 obtain⟨h1,h2,h3⟩:=h
 rw[Int.toNat_natCast]at h3
 rcases Nat.lt_or_ge n t.length with hl | hl
 ·have e:=aG9 hl (by rw[h3];rfl)
  rw[h3]at e
  by_cases hc:d8 (t.getD n 0).toNat=true
  ·rw[if_pos hc]at e
   injection e with e1 e2 e3
   exact⟨hl,hc,e1,by rw[e3,e1]⟩
  ·rw[if_neg hc]at e
   split at e <;> cases e
 ·rw[vE hl]at h3;cases h3
theorem aIb{t:List UInt8}{n c:Nat}{r}(h:At t n (.sg c n r)):n<t.length∧d8 c=false∧tU c=true∧c<256∧r=T t (n+1):=by
 obtain⟨h1,h2,h3⟩:=h
 rw[Int.toNat_natCast]at h3
 rcases Nat.lt_or_ge n t.length with hl | hl
 ·have e:=aG9 hl (by rw[h3];rfl)
  rw[h3]at e
  by_cases hc:d8 (t.getD n 0).toNat=true
  ·rw[if_pos hc]at e;cases e
  ·rw[if_neg hc]at e
   by_cases hs:tU (t.getD n 0).toNat=true
   ·rw[if_pos hs]at e
    injection e with e1 e2 e3
    exact⟨hl,by rw[e1];simpa using hc,by rw[e1];exact hs,by rw[e1];exact aAK _,e3⟩
   ·rw[if_neg hs]at e;cases e
 ·rw[vE hl]at h3;cases h3
theorem At.wd{t:List UInt8}{p:Int}{w n r}(h:At t p (.wd w n r)):d8 ((w.headD 0).toNat)=true∧w=(t.drop n).takeWhile isL∧n+w.length≤t.length∧At t ((n+w.length:Nat):Int) r∧1≤w.length:=by
 obtain⟨h1,h2,h3,h4⟩:=aIs (show At t (n:Int) _ from h.posn)
 have hw:w=t.getD n 0::(t.drop (n+1)).takeWhile isL:=by
  rw[h3,jV (d:=0) h1,List.takeWhile_cons,if_pos h2]
 have hle:w.length≤t.length - n:=by
  rw[h3,←List.length_drop];exact(List.takeWhile_prefix _).length_le
 refine⟨by rw[hw];exact h2,h3,by omega,⟨by omega,by omega,by rw[Int.toNat_natCast];exact h4.symm⟩,by rw[hw];simp⟩
theorem At.sg{t:List UInt8}{p:Int}{c n r}(h:At t p (.sg c n r)):d8 c=false∧tU c=true∧c<256∧At t ((n:Int)+1) r∧n<t.length:=by
 obtain⟨h1,h2,h3,h4,h5⟩:=aIb (show At t (n:Int) _ from h.posn)
 refine⟨h2,h3,h4,⟨by omega,by omega,?_⟩,h1⟩
 rw[show((n:Int)+1).toNat=n+1 by omega];exact h5.symm
theorem aD2{t:List UInt8}{a:Nat}(h:a<t.length):((t.drop a).takeWhile isL).length=if d8 (t.getD a 0).toNat then((t.drop (a+1)).takeWhile isL).length+1 else 0:=by
 rw[jV (d:=0) h,List.takeWhile_cons]
 split <;> simp
theorem aDe{t:List UInt8}(ht:t.length≤10000):∀(m a:Nat),t.length - a≤m→a≤t.length→iter (eC t) (a:Int)=some ((a+((t.drop a).takeWhile isL).length:Nat):Int):=by
 intro m
 have hend:∀a:Nat,a=t.length→iter (eC t) (a:Int)=some ((a+((t.drop a).takeWhile isL).length:Nat):Int):=fun a h=>by
  rw[List.drop_eq_nil_of_le (by omega)]
  apply cX
  unfold eC
  rw[if_neg (by simp;omega)]
  rfl
 induction m with
 | zero=>intro a h1 h2;exact hend a (by omega)
 | succ m ih =>
  intro a h1 h2
  rcases Nat.lt_or_ge a t.length with h | h
  ·have c1:decide ((a:Int)<(t.length:Int))=true:=by simp;omega
   have c2:0≤(a:Int)∧(a:Int)<(t.length:Int):=⟨by omega,by omega⟩
   have e:=aD2 h
   by_cases hl:d8 (t.getD a 0).toNat=true
   ·have hb:eC t (a:Int)=some (.inl ((a+1:Nat):Int)):=by
     unfold eC
     rw[if_pos c1,if_pos c2,Int.toNat_natCast,aDI,hl]
     simp only[Option.bind_some]
     rw[if_pos trivial,aR (by omega) (by omega)]
     rfl
    rw[j7 hb,ih (a+1) (by omega) (by omega),e,if_pos hl]
    congr 2;omega
   ·rw[e,if_neg hl]
    apply cX
    unfold eC
    rw[if_pos c1,if_pos c2,Int.toNat_natCast,aDI]
    simp only[Option.bind_some]
    rw[if_neg hl]
    rfl
  ·exact hend a (by omega)
def Ok{A B:Type}(x:Option (A⊕Er))(y:B⊕Er)(R:A→B→Prop):Prop:=match y with
 | .inr e=>x=some (.inr e)
 | .inl b=>∃a,x=some (.inl a)∧R a b
def kU:Toks→(List UInt8×Int×Toks)⊕Er
 | .bad n=> .inr (20,n)
 | .wd w n r=> .inl (w,n,r)
 | .eof n=> .inr (21,n)
 | .sg _ n _=> .inr (21,n)
def dX(c:Nat):Toks→(Bool×Toks)⊕Er
 | .bad n=> .inr (20,n)
 | .sg d n r=>if d=c then .inl (true,r)else .inl (false,.sg d n r)
 | ts=> .inl (false,ts)
def mV(c:Nat):Toks→Toks⊕Er
 | .bad n=> .inr (20,n)
 | .sg d n r=>if d=c then .inl r else .inr (21,n)
 | ts=> .inr (21,ts.pos)
theorem yX{t:List UInt8}{n:Nat}{w:List UInt8}(hw:w=(t.drop n).takeWhile isL):(t.take (n+w.length)).drop n=w:=by
 rw[List.drop_take,show n+w.length - n=w.length by omega,hw]
 exact(List.prefix_iff_eq_take.mp (List.takeWhile_prefix _)).symm
theorem O9{t:List UInt8}(ht:t.length≤10000){p:Int}{ts:Toks}(h:At t p ts)(d3 d4 d5 d6 o1 o2 o3 o4):Ok (fP t p d3 d4 d5 d6 o1 o2 o3 o4) (kU ts) (fun a b=>a.1=b.1∧a.2.1=b.2.1∧At t a.2.2 b.2.2):=by
 unfold fP
 rw[mI ht h]
 simp only[Option.bind_some]
 have hq:=h.posn
 cases ts with
 | bad n=>rfl
 | eof n =>
  simp only[iQ,Toks.hd,Toks.pos,kU,Ok]
  rw[(nJ (show 0<256 by decide)).1]
  rfl
 | sg c n r =>
  obtain⟨h1,h2,h3,h4,h5⟩:=h.sg
  simp only[iQ,Toks.hd,Toks.pos,kU,Ok]
  rw[(nJ h3).1,h1]
  rfl
 | wd w n r =>
  obtain⟨h1,h2,h3,h4,h5⟩:=h.wd
  simp only[iQ,Toks.hd,Toks.pos,kU,Ok]
  rw[aDI,h1]
  simp only[Option.bind_some]
  rw[if_neg (by simp),aDe ht _ n (Nat.le_refl _) (by omega),←h2]
  simp only[Option.bind_some]
  rw[if_pos ⟨by omega,by omega,by omega⟩]
  refine⟨_,rfl,?_,rfl,h4⟩
  simp only[Int.toNat_natCast]
  exact yX h2
theorem nQ{t:List UInt8}(ht:t.length≤10000){c:Nat}(hc:d8 c=false)(hc0:c≠0){p:Int}{ts:Toks}(h:At t p ts)(d3 d4 d5 d6 o1 o2 o3 o4):Ok (aL (c:Int) t p d3 d4 d5 d6 o1 o2 o3 o4) (dX c ts) (fun a b=>a.1=b.1∧At t a.2 b.2∧(a.1=false→a.2=b.2.pos)):=by
 unfold aL
 rw[mI ht h]
 simp only[Option.bind_some]
 have hq:=h.posn
 cases ts with
 | bad n=>rfl
 | eof n =>
  simp only[iQ,Toks.hd,Toks.pos,dX,Ok]
  rw[if_pos (by simp;omega)]
  exact⟨_,rfl,rfl,hq,fun _=>rfl⟩
 | sg d n r =>
  obtain⟨h1,h2,h3,h4,h5⟩:=h.sg
  simp only[iQ,Toks.hd,Toks.pos,dX]
  by_cases hd:d=c
  ·rw[if_neg (by simp[hd]),if_pos hd,aR (by omega) (by omega)]
   exact⟨_,rfl,rfl,h4,fun h=>by cases h⟩
  ·rw[if_pos (by simp;omega),if_neg hd]
   exact⟨_,rfl,rfl,hq,fun _=>rfl⟩
 | wd w n r =>
  obtain⟨h1,h2,h3,h4,h5⟩:=h.wd
  simp only[iQ,Toks.hd,Toks.pos,dX,Ok]
  rw[if_pos (by
   simp only[bne_iff_ne,ne_eq]
   intro hh
   have:(w.headD 0).toNat=c:=by omega
   rw[this,hc]at h1;cases h1)]
  exact⟨_,rfl,rfl,hq,fun _=>rfl⟩
theorem E0{t:List UInt8}(ht:t.length≤10000){c:Nat}(hc:d8 c=false)(hc0:c≠0){p:Int}{ts:Toks}(h:At t p ts)(d3 d4 d5 d6 o1 o2 o3 o4):Ok (eZ (c:Int) t p d3 d4 d5 d6 o1 o2 o3 o4) (mV c ts) (fun a b=>At t a b):=by
 have hs:=nQ ht hc hc0 h d3 d4 d5 d6 o1 o2 o3 o4
 unfold eZ
 cases ts with
 | bad n=>rw[show aL (c:Int) t p d3 d4 d5 d6 o1 o2 o3 o4=_ from hs];rfl
 | eof n =>
  obtain⟨⟨b,q⟩,h1,h2,h3,h4⟩:=hs
  cases (show b=false from h2)
  cases (show q=_ from h4 rfl)
  rw[h1];rfl
 | sg d n r =>
  by_cases hd:d=c
  ·simp only[dX,if_pos hd]at hs
   obtain⟨⟨b,q⟩,h1,h2,h3,h4⟩:=hs
   cases (show b=true from h2)
   simp only[mV,if_pos hd]
   rw[h1];exact⟨_,rfl,h3⟩
  ·simp only[dX,if_neg hd]at hs
   obtain⟨⟨b,q⟩,h1,h2,h3,h4⟩:=hs
   cases (show b=false from h2)
   cases (show q=_ from h4 rfl)
   simp only[mV,if_neg hd]
   rw[h1];rfl
 | wd w n r =>
  obtain⟨⟨b,q⟩,h1,h2,h3,h4⟩:=hs
  cases (show b=false from h2)
  cases (show q=_ from h4 rfl)
  rw[h1];rfl
end Go.Proofs.YtacpjjgochokcaaDoor.T
