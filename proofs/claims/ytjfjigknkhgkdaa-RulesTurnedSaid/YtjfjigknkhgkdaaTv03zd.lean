/- The pieces of a text of rules: both parsers see the same ones. -/
import Derived.Test.YtjfjigknkhgkdaaTvT03zRulesTurned
import Derived.Test.YtjfjigknkhgkdaaTvYm
namespace Go.Proofs.Ytjfjigknkhgkdaa.T
open Go Go.Tv Go.Proofs
def dS(c:Nat):Bool:=c == 95 || (97≤c && c≤122) || (65≤c && c≤90) || (48≤c && c≤57)
def wZ(c:Nat):Bool:=c == 32 || c == 9 || c == 10 || c == 13
def nC(c:Nat):Bool:=[40,41,91,93,94,124,42,43,63,46,59,47,61].contains c
theorem C9:((List.range 256).all fun n=>(cS (n:Int) == some (dS n)) && (fQ (n:Int) == some (wZ n)) && (decide (pR [40,41,91,93,94,124,42,43,63,46,59,47,61] (n:Int) 0<0) == !nC n)
  && (!(dS n && nC n)) && (n.toUInt8.toNat == n))=true:=by kernel_rfl
theorem kC{n:Nat}(h:n<256):cS (n:Int)=some (dS n)∧fQ (n:Int)=some (wZ n)∧decide (pR [40,41,91,93,94,124,42,43,63,46,59,47,61] (n:Int) 0<0) = !nC n:=by
 have h1:=List.all_eq_true.mp C9 n (List.mem_range.mpr h)
 simp only[Bool.and_eq_true,beq_iff_eq]at h1
 exact⟨h1.1.1.1.1,h1.1.1.1.2,h1.1.1.2⟩
theorem tN(c:UInt8):c.toNat<256:=UInt8.toNat_lt c
theorem V2(c:UInt8):cS (c.toNat:Int)=some (dS c.toNat):=(kC (tN c)).1
theorem aBl(c:UInt8):fQ (c.toNat:Int)=some (wZ c.toNat):=(kC (tN c)).2.1
theorem N1:((List.range 256).all fun n=>fF (n:Int) == some (dS n))=true:=by kernel_rfl
theorem S4(c:UInt8):fF (c.toNat:Int)=some (dS c.toNat):=by
 have h1:=List.all_eq_true.mp N1 c.toNat (List.mem_range.mpr (tN c))
 simpa using h1
theorem aC1(c:UInt8):decide (pR [40,41,91,93,94,124,42,43,63,46,59,47,61] (c.toNat:Int) 0<0) = !nC c.toNat:=(kC (tN c)).2.2
inductive Toks where
 | bad (n:Nat)
 | eof (n:Nat)
 | wd (w:List UInt8) (n:Nat) (r:Toks)
 | sg (c:Nat) (n:Nat) (r:Toks)
def tk:Option Nat→List UInt8→Nat→Toks
 | _,[],n=> .eof n
 | none,c::r,n=>if c.toNat=10 then tk (some 0) r (n+1)else tk none r (n+1)
 | some (k+1),_::r,n=>tk (some k) r (n+1)
 | some 0,c::r,n =>
  if c.toNat=35 then tk none r (n+1)
  else if wZ c.toNat then tk (some 0) r (n+1)
  else if dS c.toNat then .wd (c::r.takeWhile fun x=>dS x.toNat) n (tk (some (r.takeWhile fun x=>dS x.toNat).length) r (n+1))
  else if nC c.toNat then .sg c.toNat n (tk (some 0) r (n+1))
  else .bad n
theorem N4:∀(k:Nat) (l:List UInt8) (n:Nat),k≤l.length→tk (some k) l n=tk (some 0) (l.drop k) (n+k)
 | 0,l,n,_=>rfl
 | k+1,[],n,h=>by simp at h
 | k+1,c::r,n,h=>by
  have:=N4 k r (n+1) (by simpa using h)
  show tk (some k) r (n+1)=tk (some 0) (r.drop k) (n+(k+1))
  rw[this,Nat.add_assoc,Nat.add_comm 1 k]
def T(t:List UInt8)(a:Nat):Toks:=tk (some 0) (t.drop a) a
def Toks.pos:Toks→Nat
 | .bad n=>n
 | .eof n=>n
 | .wd _ n _=>n
 | .sg _ n _=>n
def Toks.hd:Toks→Nat
 | .bad _=>0
 | .eof _=>0
 | .wd w _ _=>(w.headD 0).toNat
 | .sg c _ _=>c
def Toks.size:Toks→Nat
 | .bad _=>0
 | .eof _=>0
 | .wd _ _ r=>r.size+1
 | .sg _ _ r=>r.size+1
theorem pL{t:List UInt8}{a:Nat}(h:t.length≤a):T t a = .eof a:=by
 unfold T;rw[List.drop_eq_nil_of_le h];rfl
theorem sD{t:List UInt8}{a:Nat}(h:a<t.length):T t a =
  if(t.getD a 0).toNat=35 then tk none (t.drop (a+1)) (a+1)
  else if wZ (t.getD a 0).toNat then T t (a+1)
  else if dS (t.getD a 0).toNat then .wd ((t.drop a).takeWhile fun x=>dS x.toNat) a (T t (a+((t.drop a).takeWhile fun x=>dS x.toNat).length))
  else if nC (t.getD a 0).toNat then .sg (t.getD a 0).toNat a (T t (a+1))
  else .bad a:=by
 unfold T
 have e:t.drop a=t.getD a 0::t.drop (a+1):=iK h
 generalize hc:t.getD a 0=c at e
 rw[e]
 simp only[tk]
 split
 ·rfl
 ·split
  ·rfl
  ·split
   ·rename_i hl
    have:(c::List.drop (a+1) t).takeWhile (fun x=>dS x.toNat)=c::(List.drop (a+1) t).takeWhile (fun x=>dS x.toNat):=by
     rw[List.takeWhile_cons,if_pos hl]
    rw[this,N4 _ _ _ (List.takeWhile_prefix _).length_le,List.drop_drop]
    simp only[List.length_cons]
    rw[show a+1+(List.takeWhile (fun x=>dS x.toNat) (List.drop (a+1) t)).length=a+((List.takeWhile (fun x=>dS x.toNat) (List.drop (a+1) t)).length+1) by omega]
   ·rfl
theorem L4{t:List UInt8}{a:Nat}(h:a<t.length):tk none (t.drop a) a=if(t.getD a 0).toNat=10 then T t (a+1)else tk none (t.drop (a+1)) (a+1):=by
 have e:t.drop a=t.getD a 0::t.drop (a+1):=iK h
 generalize hc:t.getD a 0=c at e
 rw[e]
 rfl
theorem yX{t:List UInt8}{a:Nat}(h:a<t.length)(hc:(t.getD a 0).toNat=35):T t a=tk none (t.drop a) a:=by
 rw[sD h,if_pos hc,L4 h,if_neg (by omega)]
theorem aCr{t:List UInt8}{a:Nat}(h:a<t.length)(hc:(t.getD a 0).toNat=10):T t a=T t (a+1):=by
 rw[sD h,if_neg (by omega),if_pos (by rw[hc];decide)]
theorem mO:∀(l:List UInt8) (k:Int),0≤k→(pR l 10 k = -1∧∀n,tk none l n = .eof (n+l.length))∨∃j:Nat,j<l.length∧pR l 10 k=k+j∧(l.getD j 0).toNat=10∧∀n,tk none l n=tk (some 0) (l.drop j) (n+j)
 | [],k,hk=>Or.inl ⟨rfl,fun n=>rfl⟩
 | c::r,k,hk=>by
  have e10:(Int.toNat 10).toUInt8=(10:UInt8):=by decide
  by_cases hc:c.toNat=10
  ·have hc':c=10:=UInt8.toNat_inj.mp (by rw[hc];decide)
   subst hc'
   refine Or.inr ⟨0,by simp,?_,rfl,fun n=> ?_⟩
   ·simp[pR]
   ·show tk none ((10:UInt8)::r) n=tk (some 0) ((10:UInt8)::r) n
    simp only[tk]
    rw[if_pos (by decide),if_neg (by decide),if_pos (by decide)]
  ·have hc':¬(c == (10:UInt8))=true:=by
    intro h;apply hc;rw[beq_iff_eq.mp h];decide
   have e:pR (c::r) 10 k=pR r 10 (k+1):=by
    simp only[pR,e10]
    rw[if_neg hc']
   have e2:∀n,tk none (c::r) n=tk none r (n+1):=fun n=>by
    simp only[tk];rw[if_neg hc]
   rcases mO r (k+1) (by omega)with⟨h1,h2⟩ | ⟨j,h1,h2,h3,h4⟩
   ·exact Or.inl ⟨by rw[e,h1],fun n=>by rw[e2,h2,List.length_cons];congr 1;omega⟩
   ·refine Or.inr ⟨j+1,by simp;omega,by rw[e,h2];push_cast;omega,h3,fun n=> ?_⟩
    rw[e2,h4,List.drop_succ_cons];congr 1;omega
theorem M6(t:List UInt8):∀(m a:Nat),t.length - a≤m→a≤t.length→a≤(T t a).pos∧(T t a).pos≤t.length∧T t (T t a).pos=T t a:=by
 intro m
 have hend:∀a,a=t.length→a≤(T t a).pos∧(T t a).pos≤t.length∧T t (T t a).pos=T t a:=fun a h=>by
  rw[pL (by omega)]
  exact⟨Nat.le_refl _,by simp only[Toks.pos];omega,pL (by simp only[Toks.pos];omega)⟩
 induction m with
 | zero=>intro a h1 h2;exact hend a (by omega)
 | succ m ih =>
  intro a h1 h2
  rcases Nat.lt_or_ge a t.length with h | h
  ·by_cases h35:(t.getD a 0).toNat=35
   ·rw[yX h h35]
    rcases mO (t.drop a) 0 (by omega)with⟨_,e⟩ | ⟨j,hj,_,hj3,e⟩
    ·rw[e,List.length_drop]
     simp only[Toks.pos]
     exact⟨by omega,by omega,pL (by omega)⟩
    ·rw[e,List.drop_drop]
     rw[List.length_drop]at hj
     have hg:(t.drop a).getD j 0=t.getD (a+j) 0:=by simp[List.getD_eq_getElem?_getD]
     rw[hg]at hj3
     have h0:j≠0:=by rintro rfl;simp only[Nat.add_zero]at hj3;omega
     have:=ih (a+j) (by omega) (by omega)
     exact⟨by have:=this.1;show a≤(T t (a+j)).pos;omega,this.2⟩
   ·have e:=sD h
    rw[if_neg h35]at e
    by_cases hb:wZ (t.getD a 0).toNat=true
    ·rw[if_pos hb]at e
     rw[e]
     have:=ih (a+1) (by omega) (by omega)
     exact⟨by omega,this.2⟩
    ·rw[if_neg hb]at e
     have hp:(T t a).pos=a:=by
      rw[e]
      split
      ·rfl
      ·split <;> rfl
     rw[hp]
     exact⟨Nat.le_refl _,h2,rfl⟩
  ·exact hend a (by omega)
def At(t:List UInt8)(p:Int)(ts:Toks):Prop:=0≤p∧p≤t.length∧T t p.toNat=ts
theorem At.posn{t:List UInt8}{p:Int}{ts:Toks}(h:At t p ts):At t (ts.pos:Int) ts:=by
 obtain⟨h1,h2,rfl⟩:=h
 have:=M6 t (t.length - p.toNat) p.toNat (Nat.le_refl _) (by omega)
 exact⟨by omega,by omega,by simpa using this.2.2⟩
abbrev Er:=Int×Int
def aAZ:Toks→Int⊕((Int×Int)⊕(Int×Int))
 | .bad n=> .inr (.inl (20,n))
 | .eof n=> .inl n
 | ts=> .inr (.inr (ts.hd,ts.pos))
def gS:Toks→(Int×Int)⊕(Int×Int)
 | .bad n=> .inr (20,n)
 | ts=> .inl (ts.hd,ts.pos)
theorem bR{S T:Type}{body:S→Option (S⊕T)}{s s':S}(h:body s=some (.inl s')):iter body s=iter body s':=by rw[mU,h]
theorem aX{S T:Type}{body:S→Option (S⊕T)}{s:S}{r:T}(h:body s=some (.inr r)):iter body s=some r:=by rw[mU,h]
theorem W6{t:List UInt8}(ht:t.length≤10000)(d3 d4 d5 d6 o1 o2 o3 o4):∀(m a:Nat),t.length - a≤m→a≤t.length→iter (bW t d3 d4 d5 d6 o1 o2 o3 o4) (a:Int)=some (aAZ (T t a)):=by
 intro m
 have hend:∀a:Nat,a=t.length→iter (bW t d3 d4 d5 d6 o1 o2 o3 o4) (a:Int)=some (aAZ (T t a)):=fun a h=>by
  rw[pL (by omega)]
  apply aX
  unfold bW
  rw[if_neg (by simp;omega)]
  rfl
 induction m with
 | zero=>intro a h1 h2;exact hend a (by omega)
 | succ m ih =>
  intro a h1 h2
  rcases Nat.lt_or_ge a t.length with h | h
  ·have c1:decide ((a:Int)<(t.length:Int))=true:=by simp;omega
   have c2:0≤(a:Int)∧(a:Int)<(t.length:Int):=⟨by omega,by omega⟩
   by_cases h35:(t.getD a 0).toNat=35
   ·have z35:(((t.getD a 0).toNat:Int) == (35:Int))=true:=by rw[h35];rfl
    have e0:(t.take t.length).drop a=t.drop a:=by rw[List.take_length]
    rw[yX h h35]
    rcases mO (t.drop a) 0 (by omega)with⟨e1,e⟩ | ⟨j,hj,e1,hj3,e⟩
    ·have hb:bW t d3 d4 d5 d6 o1 o2 o3 o4 (a:Int)=some (.inl (t.length:Int)):=by
      unfold bW
      rw[if_pos c1,if_pos c2,Int.toNat_natCast,if_pos z35,if_pos ⟨by omega,by omega,by omega⟩]
      simp only[cT,cY,Option.bind_some,Int.toNat_natCast,e0,e1]
      rw[if_pos (by decide)]
      simp only[Option.bind_some]
      have ew:IntKind.i64.wrap ((t.length:Int) - (a:Int))=(t.length:Int) - a:=aP (by omega) (by omega)
      rw[ew,aP (by omega) (by omega),show(a:Int)+((t.length:Int) - a)=(t.length:Int) by omega]
     rw[bR hb,hend t.length rfl,pL (Nat.le_refl _),e,List.length_drop]
     congr 3;omega
    ·rw[List.length_drop]at hj
     have hg:(t.drop a).getD j 0=t.getD (a+j) 0:=by simp[List.getD_eq_getElem?_getD]
     rw[hg]at hj3
     have h0:j≠0:=by rintro rfl;simp only[Nat.add_zero]at hj3;omega
     have hb:bW t d3 d4 d5 d6 o1 o2 o3 o4 (a:Int)=some (.inl ((a+j:Nat):Int)):=by
      unfold bW
      rw[if_pos c1,if_pos c2,Int.toNat_natCast,if_pos z35,if_pos ⟨by omega,by omega,by omega⟩]
      simp only[cT,cY,Option.bind_some,Int.toNat_natCast,e0,e1]
      rw[if_neg (by simp)]
      simp only[Option.bind_some]
      rw[aP (by omega) (by omega),show(a:Int)+(0+(j:Int))=((a+j:Nat):Int) by omega]
     rw[bR hb,ih (a+j) (by omega) (by omega),e,List.drop_drop]
     rfl
   ·have hz:¬(((t.getD a 0).toNat:Int) == (35:Int))=true:=by simp only[beq_iff_eq];omega
    have e:=sD h
    rw[if_neg h35]at e
    by_cases hb:wZ (t.getD a 0).toNat=true
    ·have hb':bW t d3 d4 d5 d6 o1 o2 o3 o4 (a:Int)=some (.inl ((a+1:Nat):Int)):=by
      unfold bW
      rw[if_pos c1,if_pos c2,Int.toNat_natCast,if_neg hz,aBl]
      simp only[Option.bind_some]
      rw[if_pos hb,aP (by omega) (by omega)]
      rfl
     rw[bR hb',e,if_pos hb]
     exact ih (a+1) (by omega) (by omega)
    ·rw[if_neg hb]at e
     apply aX
     unfold bW
     rw[if_pos c1,if_pos c2,Int.toNat_natCast,if_neg hz,aBl,V2]
     simp only[Option.bind_some]
     rw[if_neg hb]
     by_cases hl:dS (t.getD a 0).toNat=true
     ·rw[if_pos hl]at e
      rw[e,hl,if_neg (by simp)]
      simp only[Option.bind_some]
      rw[if_neg (by simp)]
      show _=some (Sum.inr (Sum.inr (Sum.inr ((((List.headD (List.takeWhile (fun x=>dS x.toNat) (List.drop a t)) 0).toNat:Nat):Int),(a:Int)))))
      rw[iK (d:=0) h,List.takeWhile_cons,if_pos hl]
      rfl
     ·rw[if_neg hl]at e
      have hl':dS (t.getD a 0).toNat=false:=by simpa using hl
      rw[hl',if_pos (by rfl)]
      simp only[cT,cY,Option.bind_some,aC1]
      by_cases hs:nC (t.getD a 0).toNat=true
      ·rw[if_pos hs]at e
       rw[e,hs,if_neg (by simp)]
       rfl
      ·rw[if_neg hs]at e
       have hs':nC (t.getD a 0).toNat=false:=by simpa using hs
       rw[e,hs',if_pos (by rfl)]
       rfl
  ·exact hend a (by omega)
theorem lA{t:List UInt8}(ht:t.length≤10000){p:Int}{ts:Toks}(h:At t p ts)(d3 d4 d5 d6 o1 o2 o3 o4):dV t p d3 d4 d5 d6 o1 o2 o3 o4=some (gS ts):=by
 obtain⟨h1,h2,rfl⟩:=h
 obtain⟨a,rfl⟩:=Int.eq_ofNat_of_zero_le h1
 unfold dV
 rw[W6 ht d3 d4 d5 d6 o1 o2 o3 o4 _ a (Nat.le_refl _) (by omega),Int.toNat_natCast]
 cases T t a <;> rfl
end Go.Proofs.Ytjfjigknkhgkdaa.T
