/- Least: keys as bytes tell the keys. -/
import Derived.Test.YtacpjjgochokcaaDoorTv06arfm
namespace Go.Proofs.YtacpjjgochokcaaDoor.T
open Go Go.Tv Go.Proofs
theorem wW(x:Int):IntKind.u8.wrap x=x % 256:=by
 simp[IntKind.wrap,IntKind.bits,IntKind.signed]
def N9(x:Int):Prop:=0≤x∧x<4294967296
theorem aA6(x:Int):kN x=[x % 256,(x / 256) % 256,(x / 65536) % 256,(x / 16777216) % 256]:=by
 have e1:((2:Int) ^ (min (8:Int).toNat IntKind.i64.bits))=256:=by decide
 have e2:((2:Int) ^ (min (16:Int).toNat IntKind.i64.bits))=65536:=by decide
 have e3:((2:Int) ^ (min (24:Int).toNat IntKind.i64.bits))=16777216:=by decide
 unfold kN
 rw[e1,e2,e3,wW,wW,wW,wW]
 rw[Int.fdiv_eq_ediv_of_nonneg _ (by decide),Int.fdiv_eq_ediv_of_nonneg _ (by decide),Int.fdiv_eq_ediv_of_nonneg _ (by decide)]
theorem aDv{x y:Int}(hx:N9 x)(hy:N9 y)(h:bD (kN x)=bD (kN y)):x=y:=by
 rw[aA6,aA6]at h
 unfold N9 at hx hy
 simp only[bD,List.map_cons,List.map_nil,List.cons.injEq,and_true]at h
 obtain⟨h1,h2,h3,h4⟩:=h
 have key:∀a b:Int,0≤a→a<256→0≤b→b<256→UInt8.ofNat a.toNat=UInt8.ofNat b.toNat→a=b:=fun a b a0 a1 b0 b1 e=>by
  have:=congrArg UInt8.toNat e
  simp only[UInt8.toNat_ofNat']at this
  omega
 have k1:=key _ _ (by omega) (by omega) (by omega) (by omega) h1
 have k2:=key _ _ (by omega) (by omega) (by omega) (by omega) h2
 have k3:=key _ _ (by omega) (by omega) (by omega) (by omega) h3
 have k4:=key _ _ (by omega) (by omega) (by omega) (by omega) h4
 omega
theorem xA:∀ {l l':List Int},l.length=l'.length→(∀x∈l,N9 x)→(∀x∈l',N9 x)→oQ l=oQ l'→l=l'
 | [],[],_,_,_,_=>rfl
 | [],_::_,h,_,_,_=>by simp at h
 | _::_,[],h,_,_,_=>by simp at h
 | x::l,y::l',hl,h1,h2,h=>by
  have e:∀z m,oQ (z::m)=bD (kN z)++oQ m:=fun z m=>by simp[oQ,bD]
  rw[e,e]at h
  have hlen:(bD (kN x)).length=(bD (kN y)).length:=by simp[bD,kN]
  obtain⟨q1,q2⟩:=List.append_inj h hlen
  rw[aDv (h1 x (by simp)) (h2 y (by simp)) q1,xA (by simpa using hl) (fun z hz=>h1 z (by simp[hz])) (fun z hz=>h2 z (by simp[hz])) q2]
theorem xP{B:Nat→List UInt8}{n s t:Nat}(hs:s<n)(ht:t<n):kQ B n s=kQ B n t↔B s=B t:=by
 unfold kQ
 constructor
 ·intro h
  have h':(cI B n).idxOf (B s)=(cI B n).idxOf (B t):=by omega
  have h1:(cI B n)[(cI B n).idxOf (B s)]'(List.idxOf_lt_length_of_mem (jH hs))=B s:=List.getElem_idxOf _
  have h2:(cI B n)[(cI B n).idxOf (B t)]'(List.idxOf_lt_length_of_mem (jH ht))=B t:=List.getElem_idxOf _
  rw[←h1,←h2]
  congr 1
 ·intro h;rw[h]
theorem Z8{B:Nat→List UInt8}{n s:Nat}(hs:s<n):0≤kQ B n s∧kQ B n s<((cI B n).length:Int):=by
 have:=List.idxOf_lt_length_of_mem (jH (B:=B) hs)
 unfold kQ
 omega
theorem D8:∀(l:List Int) (a:Int),a≤l.foldl max a∧(∀x∈l,x≤l.foldl max a)∧(l.foldl max a=a∨l.foldl max a∈l)
 | [],a=>⟨Int.le_refl _,by simp,.inl rfl⟩
 | x::l,a=>by
  obtain⟨h1,h2,h3⟩:=D8 l (max a x)
  simp only[List.foldl_cons]
  refine⟨by omega,fun y hy=> ?_,?_⟩
  ·rcases List.mem_cons.1 hy with rfl | hy
   ·omega
   ·exact h2 y hy
  ·rcases h3 with h3 | h3
   ·rw[h3]
    rcases Int.le_total a x with h | h
    ·right;rw[Int.max_eq_right h];simp
    ·left;exact Int.max_eq_left h
   ·exact .inr (List.mem_cons_of_mem _ h3)
theorem sS{B:Nat→List UInt8}{n:Nat}(hn:0<n):((List.range n).map (kQ B n)).foldl max 0=((cI B n).length:Int) - 1:=by
 obtain⟨h1,h2,h3⟩:=D8 ((List.range n).map (kQ B n)) 0
 have hpos:0<(cI B n).length:=List.length_pos_of_mem (jH (B:=B) hn)
 apply Int.le_antisymm
 ·rcases h3 with h3 | h3
  ·omega
  ·obtain⟨s,hs,e⟩:=List.mem_map.1 h3
   have:=(Z8 (B:=B) (List.mem_range.1 hs)).2
   omega
 ·obtain⟨s,hs,e⟩:=wQ (B:=B) (n:=n) (List.getElem_mem (l:=cI B n) (n:=(cI B n).length - 1) (by omega))
  have hk:kQ B n s=((cI B n).length:Int) - 1:=by
   unfold kQ
   rw[e,(rK B n).idxOf_getElem]
   omega
  rw[←hk]
  exact h2 _ (List.mem_map.2 ⟨s,List.mem_range.2 hs,rfl⟩)
end Go.Proofs.YtacpjjgochokcaaDoor.T
namespace Go.Proofs.YtacpjjgochokcaaDoor.T
open Go Go.Tv Go.Proofs
theorem aFn{B B':Nat→List UInt8}:∀n,(∀s t,s<n→t<n→B' s=B' t→B s=B t) →
  (cI B n).length≤(cI B' n).length∧((cI B n).length=(cI B' n).length→∀s t,s<n→t<n→B s=B t→B' s=B' t)
 | 0,_=>⟨Nat.le_refl _,fun _ s t hs=>absurd hs (by omega)⟩
 | n+1,h=>by
  obtain⟨i1,i2⟩:=aFn n fun s t hs ht=>h s t (by omega) (by omega)
  simp only[cI]
  by_cases h':B' n∈cI B' n
  ·obtain⟨s0,q1,q2⟩:=wQ h'
   have q3:=h s0 n (by omega) (by omega) q2
   have hb:B n∈cI B n:=by rw[←q3];exact jH q1
   rw[if_pos h',if_pos hb]
   refine⟨i1,fun e s t hs ht est=> ?_⟩
   have key:∀s,s<n→B s=B n→B' s=B' n:=fun s hs est=>by rw[←q2];exact i2 e s s0 hs q1 (by rw[est,q3])
   rcases Nat.lt_or_ge s n with hs' | hs' <;> rcases Nat.lt_or_ge t n with ht' | ht'
   ·exact i2 e s t hs' ht' est
   ·obtain rfl:t=n:=by omega
    exact key s hs' est
   ·obtain rfl:s=n:=by omega
    exact(key t ht' est.symm).symm
   ·obtain rfl:s=n:=by omega
    obtain rfl:t=s:=by omega
    rfl
  ·rw[if_neg h']
   by_cases hb:B n∈cI B n
   ·rw[if_pos hb]
    simp only[List.length_append,List.length_cons,List.length_nil]
    exact⟨by omega,fun e=>absurd e (by omega)⟩
   ·rw[if_neg hb]
    simp only[List.length_append,List.length_cons,List.length_nil]
    refine⟨by omega,fun e s t hs ht est=> ?_⟩
    rcases Nat.lt_or_ge s n with hs' | hs' <;> rcases Nat.lt_or_ge t n with ht' | ht'
    ·exact i2 (by omega) s t hs' ht' est
    ·obtain rfl:t=n:=by omega
     exact absurd (by rw[←est];exact jH hs') hb
    ·obtain rfl:s=n:=by omega
     exact absurd (by rw[est];exact jH ht') hb
    ·obtain rfl:s=n:=by omega
     obtain rfl:t=s:=by omega
     rfl
structure OkA(nx:List (List Int))(ot:List Int)(n c:Nat):Prop where
 hn:nx.length=n
 ho:ot.length=n
 pos:0<n
 small:n≤1000
 cs:c≤1000
 row:∀s,s<n→(nx.getD s []).length=c
 way:∀s k,s<n→k<c→0≤(nx.getD s []).getD k 0∧(nx.getD s []).getD k 0<(n:Int)
 out:∀s,s<n→N9 (ot.getD s 0)
def dl(nx:List (List Int))(s k:Nat):Nat:=((nx.getD s []).getD k 0).toNat
theorem OkA.dl_lt{nx:List (List Int)}{ot:List Int}{n c:Nat}(h:OkA nx ot n c){s k:Nat}(hs:s<n)(hk:k<c):dl nx s k<n:=by
 have:=h.way s k hs hk
 unfold dl
 omega
section
variable{nx:List (List Int)}{ot:List Int}{n c:Nat}(h:OkA nx ot n c)
include h
theorem qW{s:Nat}(hs:s<n):dP (s:Int) nx ot []=some [ot.getD s 0]:=by
 have ho:=h.ho
 have hw:IntKind.i64.wrap (ot.getD s 0)=ot.getD s 0:=by
  obtain⟨a,b⟩:=h.out s hs
  exact aR (by omega) (by omega)
 unfold dP
 simp only[Int.toNat_natCast,hw]
 rw[if_pos ⟨by omega,by omega⟩,if_pos ⟨by simp,by simp⟩]
 rfl
def nZ(kd:List Int)(nx:List (List Int))(s:Nat):List Int:=kd.getD s 0::(nx.getD s []).map fun t=>kd.getD t.toNat 0
theorem aEK{kd:List Int}(hk:kd.length=n){s:Nat}(hs:s<n):dR (s:Int) kd nx ot []=some (nZ kd nx s):=by
 have hn:=h.hn
 have hrow:=h.row s hs
 have hc:=h.cs
 unfold dR
 simp only[Int.toNat_natCast,List.nil_append]
 rw[if_pos ⟨by omega,by omega⟩,if_pos ⟨by simp,by simp⟩,if_pos ⟨by omega,by omega⟩]
 have hi:=bZ (body:=dC (s:Int) kd nx) (fun k=>(kd.getD s 0::((nx.getD s []).take k).map (fun t=>kd.getD t.toNat 0),(k:Int))) (nx.getD s []).length (r:=nZ kd nx s) (fun k hkl=>by
  have hw:=h.way s k hs (by omega)
  have hg:(nx.getD s [])[k]? = some ((nx.getD s []).getD k 0):=by
   generalize nx.getD s []=l at hkl
   rw[List.getD_eq_getElem?_getD,List.getElem?_eq_getElem hkl];rfl
  have e:((nx.getD s []).take (k+1)).map (fun t=>kd.getD t.toNat 0)=((nx.getD s []).take k).map (fun t=>kd.getD t.toNat 0)++[kd.getD ((nx.getD s []).getD k 0).toNat 0]:=by
   rw[List.take_add_one,List.map_append,hg]
   rfl
  simp only[dC,Int.toNat_natCast]
  rw[if_pos (by simp only[decide_eq_true_eq];omega),if_pos ⟨by omega,by omega⟩,if_pos ⟨by omega,by omega⟩]
  have hl:(((nx.getD s []).take k).map (fun t=>kd.getD t.toNat 0)).length≤1000:=by simp only[List.length_map,List.length_take];omega
  rw[if_pos ⟨by simp only[List.length_cons,List.length_nil];omega,by simp only[List.length_cons,List.length_nil];omega⟩,aR (by omega) (by omega),e]
  rfl) (by simp[dC,nZ])
 have hi':iter (dC (s:Int) kd nx) ([kd.getD s 0],(0:Int))=some (nZ kd nx s):=hi
 rw[hi']
 rfl
theorem aFH:gR (ot.length:Int) nx ot=some ((List.range n).map (kQ (fun s=>oQ [ot.getD s 0]) n)):=by
 have ho:=h.ho
 have hs:=h.small
 unfold gR
 rw[ho,if_pos ⟨by omega,by omega,by omega,by omega⟩,aDb,Int.toNat_natCast]
 rw[F9 (fun s k=>dP s nx ot k) (fun s=>[ot.getD s 0]) n (by omega) (fun s hs=>qW h hs) (fun s hs=>by simp)]
 rfl
theorem aF1{kd:List Int}(hk:kd.length=n):gK (kd.length:Int) kd nx ot=some ((List.range n).map (kQ (fun s=>oQ (nZ kd nx s)) n)):=by
 have hs:=h.small
 unfold gK
 rw[hk,if_pos ⟨by omega,by omega,by omega,by omega⟩,aBw,Int.toNat_natCast]
 rw[F9 (fun s k=>dR s kd nx ot k) (fun s=>nZ kd nx s) n (by omega) (fun s hs=>aEK h hk hs) (fun s hs=>by
  simp only[nZ,List.length_cons,List.length_map,h.row s hs]
  have:=h.cs
  omega)]
 rfl
end
end Go.Proofs.YtacpjjgochokcaaDoor.T
namespace Go.Proofs.YtacpjjgochokcaaDoor.T
open Go Go.Tv Go.Proofs
def run(nx:List (List Int))(s:Nat)(w:List Nat):Nat:=w.foldl (dl nx) s
def Leq(nx:List (List Int))(ot:List Int)(c s t:Nat):Prop:=∀w:List Nat,(∀k∈w,k<c)→ot.getD (run nx s w) 0=ot.getD (run nx t w) 0
theorem fH{f:Nat→Int}{n s:Nat}(hs:s<n):((List.range n).map f).getD s 0=f s:=by
 rw[List.getD_eq_getElem?_getD,List.getElem?_map,List.getElem?_range hs]
 rfl
theorem S9{nx:List (List Int)}{ot:List Int}{c s t k:Nat}(hk:k<c)(e:Leq nx ot c s t):Leq nx ot c (dl nx s k) (dl nx t k):=fun w hw =>
 e (k::w) (by intro j hj;rcases List.mem_cons.1 hj with rfl | hj;exact hk;exact hw j hj)
section
variable{nx:List (List Int)}{ot:List Int}{n c:Nat}(h:OkA nx ot n c)
include h
theorem qO{B:Nat→List UInt8}{s t:Nat}(hs:s<n)(ht:t<n):
  oQ (nZ ((List.range n).map (kQ B n)) nx s)=oQ (nZ ((List.range n).map (kQ B n)) nx t)↔B s=B t∧∀k,k<c→B (dl nx s k)=B (dl nx t k):=by
 have hsm:=h.small
 have hk:∀s,s<n→N9 (kQ B n s):=fun s hs=>by
  obtain⟨a,b⟩:=Z8 (B:=B) hs
  have:=mH B n
  exact⟨a,by omega⟩
 have hmem:∀s,s<n→∀x∈nZ ((List.range n).map (kQ B n)) nx s,N9 x:=fun s hs x hx=>by
  simp only[nZ,List.mem_cons,List.mem_map]at hx
  rcases hx with rfl | ⟨y,hy,rfl⟩
  ·rw[fH hs];exact hk s hs
  ·obtain⟨j,hj⟩:=List.mem_iff_getElem?.1 hy
   have hjl:j<c:=by rw[←h.row s hs];exact(List.getElem?_eq_some_iff.1 hj).1
   have hw:=h.way s j hs hjl
   have:(nx.getD s []).getD j 0=y:=by
    generalize nx.getD s []=l at hj
    rw[List.getD_eq_getElem?_getD,hj];rfl
   rw[this]at hw
   rw[fH (by omega)]
   exact hk _ (by omega)
 have hget:∀s,s<n→∀k,k<c→((nx.getD s []).map fun t=>((List.range n).map (kQ B n)).getD t.toNat 0)[k]? = some (kQ B n (dl nx s k)):=fun s hs k hkc=>by
  have hl:k<(nx.getD s []).length:=by rw[h.row s hs];exact hkc
  have hd:=h.dl_lt hs hkc
  have e:(nx.getD s [])[k]? = some ((nx.getD s []).getD k 0):=by
   generalize nx.getD s []=l at hl
   rw[List.getD_eq_getElem?_getD,List.getElem?_eq_getElem hl];rfl
  rw[List.getElem?_map,e]
  simp only[Option.map_some,Option.some.injEq]
  exact fH (f:=kQ B n) hd
 have hlen:∀s,s<n→((nx.getD s []).map fun t=>((List.range n).map (kQ B n)).getD t.toNat 0).length=c:=fun s hs=>by rw[List.length_map,h.row s hs]
 constructor
 ·intro e
  have e2:=xA (by simp only[nZ,List.length_cons];rw[hlen s hs,hlen t ht]) (hmem s hs) (hmem t ht) e
  simp only[nZ,List.cons.injEq]at e2
  obtain⟨q1,q2⟩:=e2
  rw[fH hs,fH ht]at q1
  refine⟨(xP hs ht).1 q1,fun k hkc=> ?_⟩
  have:=hget s hs k hkc
  rw[q2,hget t ht k hkc]at this
  exact(xP (h.dl_lt hs hkc) (h.dl_lt ht hkc)).1 (Option.some.inj this).symm
 ·rintro⟨q1,q2⟩
  congr 1
  simp only[nZ,List.cons.injEq]
  refine⟨by rw[fH hs,fH ht];exact(xP hs ht).2 q1,List.ext_getElem? fun k=> ?_⟩
  rcases Nat.lt_or_ge k c with hkc | hkc
  ·rw[hget s hs k hkc,hget t ht k hkc,(xP (h.dl_lt hs hkc) (h.dl_lt ht hkc)).2 (q2 k hkc)]
  ·rw[List.getElem?_eq_none (by rw[hlen s hs];exact hkc),List.getElem?_eq_none (by rw[hlen t ht];exact hkc)]
theorem aCO:∀(w:List Nat) {s:Nat},s<n→(∀k∈w,k<c)→run nx s w<n
 | [],s,hs,_=>hs
 | k::w,s,hs,hw=>aCO w (h.dl_lt hs (hw k (by simp))) (fun k hk=>hw k (by simp[hk]))
theorem aBo:∃B:Nat→List UInt8,(gR (ot.length:Int) nx ot).bind (iter (hZ nx ot))=some ((List.range n).map (kQ B n))∧∀s t,s<n→t<n→(B s=B t↔Leq nx ot c s t):=by
 rw[aFH h]
 simp only[Option.bind_some]
 have hsm:=h.small
 have hmost:∀B:Nat→List UInt8,fK ((List.range n).map (kQ B n))=some (((cI B n).length:Int) - 1):=fun B=>by
  rw[aBg _ (by simp;omega),sS h.pos]
 obtain⟨r,h1,B,h2,h3⟩:=cC (body:=hZ nx ot)
  (fun kd=>∃B:Nat→List UInt8,kd=(List.range n).map (kQ B n)∧(∀s t,s<n→t<n→Leq nx ot c s t→B s=B t)∧(∀s t,s<n→t<n→B s=B t→ot.getD s 0=ot.getD t 0))
  (fun kd=>n - (kd.foldl max 0).toNat)
  (fun kd=>∃B:Nat→List UInt8,kd=(List.range n).map (kQ B n)∧∀s t,s<n→t<n→(B s=B t↔Leq nx ot c s t))
  (fun kd ⟨B,hB,hc,ho⟩=>by
   have hl:kd.length=n:=by rw[hB];simp
   obtain⟨f1,f2⟩:=aFn (B:=B) (B':=fun s=>oQ (nZ kd nx s)) n (fun s t hs ht e=>by
    simp only[hB]at e
    exact((qO h hs ht).1 e).1)
   simp only[hZ]
   rw[aF1 h hl]
   simp only[Option.bind_some]
   rw[hmost]
   simp only[Option.bind_some]
   have hmk:fK kd=some (((cI B n).length:Int) - 1):=by rw[hB];exact hmost B
   rw[hmk]
   simp only[Option.bind_some]
   by_cases e:(cI (fun s=>oQ (nZ kd nx s)) n).length=(cI B n).length
   ·right
    rw[if_pos (by simp[e])]
    refine⟨kd,rfl,B,hB,fun s t hs ht=>⟨fun est=> ?_,hc s t hs ht⟩⟩
    have stab:∀s t,s<n→t<n→B s=B t→∀k,k<c→B (dl nx s k)=B (dl nx t k):=fun s t hs ht est k hk=>by
     have:=f2 e.symm s t hs ht est
     simp only[hB]at this
     exact((qO h hs ht).1 this).2 k hk
    have all:∀(w:List Nat) (s t:Nat),s<n→t<n→B s=B t→(∀k∈w,k<c)→ot.getD (run nx s w) 0=ot.getD (run nx t w) 0:=fun w=>by
     induction w with
     | nil=>intro s t hs ht est _;exact ho s t hs ht est
     | cons k w ih =>
      intro s t hs ht est hw
      have hk:=hw k (by simp)
      exact ih _ _ (h.dl_lt hs hk) (h.dl_lt ht hk) (stab s t hs ht est k hk) (fun j hj=>hw j (by simp[hj]))
    exact fun w hw=>all w s t hs ht est hw
   ·left
    rw[if_neg (by simp;omega)]
    refine⟨_,rfl,⟨fun s=>oQ (nZ kd nx s),rfl,fun s t hs ht est=> ?_,fun s t hs ht est=> ?_⟩,?_⟩
    ·simp only[hB]
     exact(qO h hs ht).2 ⟨hc s t hs ht est,fun k hk=>hc _ _ (h.dl_lt hs hk) (h.dl_lt ht hk) (S9 hk est)⟩
    ·simp only[hB]at est
     exact ho s t hs ht ((qO h hs ht).1 est).1
    ·have hn:=mH (fun s=>oQ (nZ kd nx s)) n
     have hp:0<(cI B n).length:=List.length_pos_of_mem (jH (B:=B) h.pos)
     have m1:kd.foldl max 0=((cI B n).length:Int) - 1:=by rw[hB];exact sS h.pos
     have m2:=sS (B:=fun s=>oQ (nZ kd nx s)) h.pos
     simp only[m1,m2]
     omega)
  (s:=(List.range n).map (kQ (fun s=>oQ [ot.getD s 0]) n))
  ⟨_,rfl,fun s t hs ht e=>by
   have:=e [] (by simp)
   simp only[run,List.foldl_nil]at this
   rw[this],fun s t hs ht e=>by
   have:=xA (by simp) (fun x hx=>by simp at hx;rw[hx];exact h.out s hs) (fun x hx=>by simp at hx;rw[hx];exact h.out t ht) e
   simpa using this⟩
 exact⟨B,by rw[h1,h2],h3⟩
end
end Go.Proofs.YtacpjjgochokcaaDoor.T
namespace Go.Proofs.YtacpjjgochokcaaDoor.T
open Go Go.Tv Go.Proofs
section
variable{nx:List (List Int)}{ot:List Int}{n c:Nat}(h:OkA nx ot n c)
include h
theorem aFJ{s:Nat}(hs:s<n):iter (fF nx (s:Int)) (0:Int)=some (Sum.inl ()):=by
 have hn:=h.hn
 have hc:=h.cs
 have hrow:=h.row s hs
 exact bZ (body:=fF nx (s:Int)) (fun k=>(k:Int)) c (r:=Sum.inl ()) (fun k hk=>by
  have hw:=h.way s k hs hk
  simp only[fF,Int.toNat_natCast]
  rw[if_pos (by simp only[decide_eq_true_eq];omega),if_pos ⟨by omega,by omega⟩,if_neg (by simp only[decide_eq_true_eq];omega)]
  simp only[Option.bind_some]
  rw[if_neg (by simp only[decide_eq_true_eq];omega),aR (by omega) (by omega)]
  rfl) (by simp only[fF,Int.toNat_natCast];rw[if_neg (by simp only[decide_eq_true_eq];omega)])
theorem aAl:kC nx ot=some true:=by
 have hn:=h.hn
 have ho:=h.ho
 have hp:=h.pos
 have hs:=h.small
 have hi:iter (fB nx) (0:Int)=some (Sum.inl ()):=bZ (body:=fB nx) (fun k=>(k:Int)) n (r:=Sum.inl ()) (fun k hk=>by
  simp only[fB,Int.toNat_natCast]
  have h0:(nx.getD ((0:Int).toNat) ([]:List Int)).length=c:=h.row 0 hp
  rw[if_pos (by simp only[hn,decide_eq_true_eq];omega),if_pos ⟨by omega,by omega⟩,if_pos ⟨by omega,by omega⟩,if_neg (by simp only[h.row k hk,h0];simp),aFJ h hk]
  simp only[Option.bind_some]
  rw[aR (by omega) (by omega)]
  rfl) (by simp only[fB];rw[if_neg (by simp[hn])])
 unfold kC
 rw[if_neg (by simp only[beq_iff_eq];omega)]
 simp only[Option.bind_some]
 rw[if_neg (by simp only[bne_iff_ne,ne_eq];omega),hi]
 rfl
theorem aEe:∃B:Nat→List UInt8,(∀s t,s<n→t<n→(B s=B t↔Leq nx ot c s t)) ∧
  gQ nx ot=(hU nx ot ((List.range n).map (kQ B n))).bind fun r=>some ((r.1,r.2),(0:Int)):=by
 obtain⟨B,h1,h2⟩:=aBo h
 refine⟨B,h2,?_⟩
 unfold gQ
 rw[aAl h]
 simp only[Option.bind_some,Bool.not_true,Bool.false_eq_true,if_false]
 cases hsp:gR (ot.length:Int) nx ot with
 | none=>rw[hsp]at h1;cases h1
 | some kd =>
  rw[hsp]at h1
  simp only[Option.bind_some]at h1 ⊢
  rw[h1]
  rfl
end
end Go.Proofs.YtacpjjgochokcaaDoor.T
namespace Go.Proofs.YtacpjjgochokcaaDoor.T
open Go Go.Tv Go.Proofs
theorem X5:∀(M:Nat) (l:List Nat),l.Nodup→(∀x∈l,x<M)→l.length≤M
 | 0,l,_,h=>by
  cases l with
  | nil=>exact Nat.le_refl _
  | cons x l=>exact absurd (h x (by simp)) (by omega)
 | M+1,l,hn,h=>by
  by_cases hm:M∈l
  ·have h1:=X5 M (l.erase M) (hn.erase M) fun x hx=>by
    have:=(hn.mem_erase_iff).1 hx
    have:=h x this.2
    omega
   rw[List.length_erase_of_mem hm]at h1
   omega
  ·have:=X5 M l hn fun x hx=>by
    have h1:=h x hx
    have h2:x≠M:=fun e=>hm (e ▸ hx)
    omega
   omega
def qS(kd:Nat→Int)(ln:List Nat)(t:Nat):List Nat:=if kd t∈ln.map kd then ln else ln++[t]
def fW(kd:Nat→Int):List Nat→List Nat→List Int→List Nat×List Int
 | ln,[],r=>(ln,r)
 | ln,t::ts,r=>fW kd (qS kd ln t) ts (r++[((ln.map kd).idxOf (kd t):Int)])
def fD(nx:List (List Int))(s:Nat):List Nat:=(nx.getD s []).map Int.toNat
def rG(kd:Nat→Int)(nx:List (List Int))(ot:List Int):(List (List Int)×List Int×List Nat×Nat)→Option ((List (List Int)×List Int×List Nat×Nat)⊕(List (List Int)×List Int)):=fun(N,O,ln,i) =>
 if i<ln.length then some (.inl (N++[(fW kd ln (fD nx (ln.getD i 0)) []).2],O++[ot.getD (ln.getD i 0) 0],(fW kd ln (fD nx (ln.getD i 0)) []).1,i+1))else some (.inr (N,O))
structure Lane(kd:Nat→Int)(n M:Nat)(ln:List Nat):Prop where
 nodup:(ln.map kd).Nodup
 lt:∀s∈ln,s<n
theorem Lane.le{kd:Nat→Int}{n M:Nat}{ln:List Nat}(h:Lane kd n M ln)(hk:∀s,s<n→0≤kd s∧kd s<M):ln.length≤M:=by
 have h1:(ln.map fun s=>(kd s).toNat).Nodup:=by
  have:ln.map (fun s=>(kd s).toNat)=(ln.map kd).map Int.toNat:=by simp
  rw[this,List.Nodup,List.pairwise_map]
  refine List.Pairwise.imp_of_mem (fun {a b} ha hb hab e=>hab ?_) h.nodup
  obtain⟨s,hs,rfl⟩:=List.mem_map.1 ha
  obtain⟨t,ht,rfl⟩:=List.mem_map.1 hb
  have:=hk s (h.lt s hs)
  have:=hk t (h.lt t ht)
  omega
 have:=X5 M _ h1 fun x hx=>by
  obtain⟨s,hs,rfl⟩:=List.mem_map.1 hx
  have:=hk s (h.lt s hs)
  omega
 simpa using this
theorem Lane.add{kd:Nat→Int}{n M:Nat}{ln:List Nat}(h:Lane kd n M ln){t:Nat}(ht:t<n):Lane kd n M (qS kd ln t):=by
 unfold qS
 split
 ·exact h
 ·rename_i hm
  refine⟨?_,fun s hs=> ?_⟩
  ·rw[List.map_append]
   refine List.nodup_append.2 ⟨h.nodup,by simp,fun a ha b hb e=> ?_⟩
   simp only[List.map_cons,List.map_nil,List.mem_singleton]at hb
   subst hb
   subst e
   exact hm ha
  ·rcases List.mem_append.1 hs with hs | hs
   ·exact h.lt s hs
   ·simp at hs;omega
theorem Lane.walked{kd:Nat→Int}{n M:Nat}:∀(ts ln:List Nat) (r:List Int),Lane kd n M ln→(∀t∈ts,t<n)→Lane kd n M (fW kd ln ts r).1
 | [],_,_,h,_=>h
 | t::ts,ln,r,h,ht=>by
  simp only[fW]
  exact Lane.walked ts _ _ (h.add (ht t (by simp))) (fun s hs=>ht s (by simp[hs]))
theorem l7{kd:Nat→Int}:∀ {ts ln:List Nat} {r:List Int},∃l,(fW kd ln ts r).1=ln++l
 | [],ln,_=>⟨[],by simp[fW]⟩
 | t::ts,ln,r=>by
  obtain⟨l,e⟩:=l7 (kd:=kd) (ts:=ts) (ln:=qS kd ln t) (r:=r++[((ln.map kd).idxOf (kd t):Int)])
  simp only[fW]
  rw[e]
  unfold qS
  split
  ·exact⟨l,rfl⟩
  ·exact⟨t::l,by simp⟩
theorem G4{kd:Nat→Int}:∀(ts:List Nat) (ln:List Nat) (r:List Int) (t:Nat),fW kd ln (ts++[t]) r=(qS kd (fW kd ln ts r).1 t,(fW kd ln ts r).2++[(((fW kd ln ts r).1.map kd).idxOf (kd t):Int)])
 | [],ln,r,t=>rfl
 | x::ts,ln,r,t=>by simp only[List.cons_append,fW];exact G4 ts _ _ t
theorem V7{kd:Nat→Int}:∀(ts:List Nat) (ln:List Nat) (r:List Int),(fW kd ln ts r).2.length=r.length+ts.length
 | [],ln,r=>by simp[fW]
 | x::ts,ln,r=>by simp only[fW,V7 ts,List.length_append,List.length_cons,List.length_nil];omega
def cN(kd:Nat→Int)(M:Nat)(ln:List Nat):List Int:=(List.range M).map fun(k:Nat)=>if(k:Int)∈ln.map kd then((ln.map kd).idxOf (k:Int):Int)else -1
theorem wD{kd:Nat→Int}{M:Nat}{ln:List Nat}{k:Nat}(hk:k<M):(cN kd M ln).getD k 0=if(k:Int)∈ln.map kd then((ln.map kd).idxOf (k:Int):Int)else -1:=fH hk
theorem tP{b:Int}:∀ {d l:List Int},b∈d→(d++l).idxOf b=d.idxOf b
 | [],_,h=>by simp at h
 | x::d,l,h=>by
  simp only[List.cons_append,List.idxOf_cons]
  by_cases e:x=b
  ·subst e;simp
  ·have:(x == b)=false:=by simpa using e
   rw[this]
   rcases List.mem_cons.1 h with h | h
   ·exact absurd h.symm e
   ·rw[tP (l:=l) h]
theorem tC{b:Int}:∀ {d l:List Int},b ∉ d→(d++b::l).idxOf b=d.length
 | [],_,_=>by simp
 | x::d,l,h=>by
  have e:(x == b)=false:=by
   simp only[List.mem_cons,not_or]at h
   simpa using fun e=>h.1 e.symm
  simp only[List.cons_append,List.idxOf_cons,e,cond_false,List.length_cons]
  rw[tC (fun hm=>h (List.mem_cons_of_mem _ hm))]
theorem vB{kd:Nat→Int}{M:Nat}{ln:List Nat}{t:Nat}(h0:0≤kd t)(h1:kd t<M)(hm:kd t ∉ ln.map kd):(cN kd M ln).set (kd t).toNat (ln.length:Int)=cN kd M (ln++[t]):=by
 refine List.ext_getElem? fun k=> ?_
 rw[List.getElem?_set]
 have hlen:∀l,(cN kd M l).length=M:=fun l=>by simp[cN]
 rcases Nat.lt_or_ge k M with hk | hk
 ·have g:∀l,(cN kd M l)[k]? = some (if(k:Int)∈l.map kd then((l.map kd).idxOf (k:Int):Int)else -1):=fun l=>by
   unfold cN
   rw[List.getElem?_map,List.getElem?_range hk]
   rfl
  by_cases e:(kd t).toNat=k
  ·have ek:(k:Int)=kd t:=by omega
   rw[if_pos e,if_pos (by rw[hlen];omega),g,ek,List.map_append]
   simp only[List.map_cons,List.map_nil]
   rw[if_pos (by simp),tC hm,List.length_map]
  ·rw[if_neg e,g,g,List.map_append]
   simp only[List.map_cons,List.map_nil,List.mem_append,List.mem_singleton]
   have ne:(k:Int)≠kd t:=fun h=>e (by omega)
   by_cases hkm:(k:Int)∈ln.map kd
   ·rw[if_pos hkm,if_pos (.inl hkm),tP hkm]
   ·rw[if_neg hkm,if_neg (by intro h;rcases h with h | h;exact hkm h;exact ne h)]
 ·rw[List.getElem?_eq_none (by rw[hlen];exact hk),List.getElem?_eq_none (by rw[hlen];exact hk)]
  split
  ·rw[if_neg (by rw[hlen];omega)]
  ·rfl
end Go.Proofs.YtacpjjgochokcaaDoor.T
