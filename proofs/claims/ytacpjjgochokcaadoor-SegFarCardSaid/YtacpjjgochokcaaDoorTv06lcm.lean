/- Least: keys as bytes tell the keys. -/
import Derived.Test.YtacpjjgochokcaaDoorTv06arfm
namespace Go.Proofs.YtacpjjgochokcaaDoor.T
open Go Go.Tv Go.Proofs
theorem t9(x:Int):IntKind.u8.wrap x=x % 256:=by
 simp[IntKind.wrap,IntKind.bits,IntKind.signed]
def zS(x:Int):Prop:=0≤x∧x<4294967296
theorem O0(x:Int):iU x=[x % 256,(x / 256) % 256,(x / 65536) % 256,(x / 16777216) % 256]:=by
 have e1:((2:Int) ^ (min (8:Int).toNat IntKind.i64.bits))=256:=by decide
 have e2:((2:Int) ^ (min (16:Int).toNat IntKind.i64.bits))=65536:=by decide
 have e3:((2:Int) ^ (min (24:Int).toNat IntKind.i64.bits))=16777216:=by decide
 unfold iU
 rw[e1,e2,e3,t9,t9,t9,t9]
 rw[Int.fdiv_eq_ediv_of_nonneg _ (by decide),Int.fdiv_eq_ediv_of_nonneg _ (by decide),Int.fdiv_eq_ediv_of_nonneg _ (by decide)]
theorem aAj{x y:Int}(hx:zS x)(hy:zS y)(h:bQ (iU x)=bQ (iU y)):x=y:=by
 rw[O0,O0]at h
 unfold zS at hx hy
 simp only[bQ,List.map_cons,List.map_nil,List.cons.injEq,and_true]at h
 obtain⟨h1,h2,h3,h4⟩:=h
 have key:∀a b:Int,0≤a→a<256→0≤b→b<256→UInt8.ofNat a.toNat=UInt8.ofNat b.toNat→a=b:=fun a b a0 a1 b0 b1 e=>by
  have:=congrArg UInt8.toNat e
  simp only[UInt8.toNat_ofNat']at this
  omega
 have k1:=key _ _ (by omega) (by omega) (by omega) (by omega) h1
 have k2:=key _ _ (by omega) (by omega) (by omega) (by omega) h2
 have k3:=key _ _ (by omega) (by omega) (by omega) (by omega) h3
 have k4:=key _ _ (by omega) (by omega) (by omega) (by omega) h4
 omega
theorem uM:∀ {l l':List Int},l.length=l'.length→(∀x∈l,zS x)→(∀x∈l',zS x)→mI l=mI l'→l=l'
 | [],[],_,_,_,_=>rfl
 | [],_::_,h,_,_,_=>by simp at h
 | _::_,[],h,_,_,_=>by simp at h
 | x::l,y::l',hl,h1,h2,h=>by
  have e:∀z m,mI (z::m)=bQ (iU z)++mI m:=fun z m=>by simp[mI,bQ]
  rw[e,e]at h
  have hlen:(bQ (iU x)).length=(bQ (iU y)).length:=by simp[bQ,iU]
  obtain⟨q1,q2⟩:=List.append_inj h hlen
  rw[aAj (h1 x (by simp)) (h2 y (by simp)) q1,uM (by simpa using hl) (fun z hz=>h1 z (by simp[hz])) (fun z hz=>h2 z (by simp[hz])) q2]
theorem vS{B:Nat→List UInt8}{n s t:Nat}(hs:s<n)(ht:t<n):iX B n s=iX B n t↔B s=B t:=by
 unfold iX
 constructor
 ·intro h
  have h':(b6 B n).idxOf (B s)=(b6 B n).idxOf (B t):=by omega
  have h1:(b6 B n)[(b6 B n).idxOf (B s)]'(List.idxOf_lt_length_of_mem (iC hs))=B s:=List.getElem_idxOf _
  have h2:(b6 B n)[(b6 B n).idxOf (B t)]'(List.idxOf_lt_length_of_mem (iC ht))=B t:=List.getElem_idxOf _
  rw[←h1,←h2]
  congr 1
 ·intro h;rw[h]
theorem I3{B:Nat→List UInt8}{n s:Nat}(hs:s<n):0≤iX B n s∧iX B n s<((b6 B n).length:Int):=by
 have:=List.idxOf_lt_length_of_mem (iC (B:=B) hs)
 unfold iX
 omega
theorem yF:∀(l:List Int) (a:Int),a≤l.foldl max a∧(∀x∈l,x≤l.foldl max a)∧(l.foldl max a=a∨l.foldl max a∈l)
 | [],a=>⟨Int.le_refl _,by simp,.inl rfl⟩
 | x::l,a=>by
  obtain⟨h1,h2,h3⟩:=yF l (max a x)
  simp only[List.foldl_cons]
  refine⟨by omega,fun y hy=> ?_,?_⟩
  ·rcases List.mem_cons.1 hy with rfl | hy
   ·omega
   ·exact h2 y hy
  ·rcases h3 with h3 | h3
   ·rw[h3]
    rcases Int.le_total a x with h | h
    ·right;rw[Int.max_eq_right h];simp
    ·left;exact Int.max_eq_left h
   ·exact .inr (List.mem_cons_of_mem _ h3)
theorem qA{B:Nat→List UInt8}{n:Nat}(hn:0<n):((List.range n).map (iX B n)).foldl max 0=((b6 B n).length:Int) - 1:=by
 obtain⟨h1,h2,h3⟩:=yF ((List.range n).map (iX B n)) 0
 have hpos:0<(b6 B n).length:=List.length_pos_of_mem (iC (B:=B) hn)
 apply Int.le_antisymm
 ·rcases h3 with h3 | h3
  ·omega
  ·obtain⟨s,hs,e⟩:=List.mem_map.1 h3
   have:=(I3 (B:=B) (List.mem_range.1 hs)).2
   omega
 ·obtain⟨s,hs,e⟩:=uD (B:=B) (n:=n) (List.getElem_mem (l:=b6 B n) (n:=(b6 B n).length - 1) (by omega))
  have hk:iX B n s=((b6 B n).length:Int) - 1:=by
   unfold iX
   rw[e,(pQ B n).idxOf_getElem]
   omega
  rw[←hk]
  exact h2 _ (List.mem_map.2 ⟨s,List.mem_range.2 hs,rfl⟩)
end Go.Proofs.YtacpjjgochokcaaDoor.T
namespace Go.Proofs.YtacpjjgochokcaaDoor.T
open Go Go.Tv Go.Proofs
theorem aBQ{B B':Nat→List UInt8}:∀n,(∀s t,s<n→t<n→B' s=B' t→B s=B t) →
  (b6 B n).length≤(b6 B' n).length∧((b6 B n).length=(b6 B' n).length→∀s t,s<n→t<n→B s=B t→B' s=B' t)
 | 0,_=>⟨Nat.le_refl _,fun _ s t hs=>absurd hs (by omega)⟩
 | n+1,h=>by
  obtain⟨i1,i2⟩:=aBQ n fun s t hs ht=>h s t (by omega) (by omega)
  simp only[b6]
  by_cases h':B' n∈b6 B' n
  ·obtain⟨s0,q1,q2⟩:=uD h'
   have q3:=h s0 n (by omega) (by omega) q2
   have hb:B n∈b6 B n:=by rw[←q3];exact iC q1
   rw[if_pos h',if_pos hb]
   refine⟨i1,fun e s t hs ht est=> ?_⟩
   have key:∀s,s<n→B s=B n→B' s=B' n:=fun s hs est=>by rw[←q2];exact i2 e s s0 hs q1 (by rw[est,q3])
   rcases Nat.lt_or_ge s n with hs' | hs' <;> rcases Nat.lt_or_ge t n with ht' | ht'
   ·exact i2 e s t hs' ht' est
   ·obtain rfl:t=n:=by omega
    exact key s hs' est
   ·obtain rfl:s=n:=by omega
    exact(key t ht' est.symm).symm
   ·obtain rfl:s=n:=by omega
    obtain rfl:t=s:=by omega
    rfl
  ·rw[if_neg h']
   by_cases hb:B n∈b6 B n
   ·rw[if_pos hb]
    simp only[List.length_append,List.length_cons,List.length_nil]
    exact⟨by omega,fun e=>absurd e (by omega)⟩
   ·rw[if_neg hb]
    simp only[List.length_append,List.length_cons,List.length_nil]
    refine⟨by omega,fun e s t hs ht est=> ?_⟩
    rcases Nat.lt_or_ge s n with hs' | hs' <;> rcases Nat.lt_or_ge t n with ht' | ht'
    ·exact i2 (by omega) s t hs' ht' est
    ·obtain rfl:t=n:=by omega
     exact absurd (by rw[←est];exact iC hs') hb
    ·obtain rfl:s=n:=by omega
     exact absurd (by rw[est];exact iC ht') hb
    ·obtain rfl:s=n:=by omega
     obtain rfl:t=s:=by omega
     rfl
structure OkA(nx:List (List Int))(ot:List Int)(n c:Nat):Prop where
 hn:nx.length=n
 ho:ot.length=n
 pos:0<n
 small:n≤1000
 cs:c≤1000
 row:∀s,s<n→(nx.getD s []).length=c
 way:∀s k,s<n→k<c→0≤(nx.getD s []).getD k 0∧(nx.getD s []).getD k 0<(n:Int)
 out:∀s,s<n→zS (ot.getD s 0)
def dl(nx:List (List Int))(s k:Nat):Nat:=((nx.getD s []).getD k 0).toNat
theorem OkA.dl_lt{nx:List (List Int)}{ot:List Int}{n c:Nat}(h:OkA nx ot n c){s k:Nat}(hs:s<n)(hk:k<c):dl nx s k<n:=by
 have:=h.way s k hs hk
 unfold dl
 omega
section
variable{nx:List (List Int)}{ot:List Int}{n c:Nat}(h:OkA nx ot n c)
include h
theorem oF{s:Nat}(hs:s<n):cV (s:Int) nx ot []=some [ot.getD s 0]:=by
 have ho:=h.ho
 have hw:IntKind.i64.wrap (ot.getD s 0)=ot.getD s 0:=by
  obtain⟨a,b⟩:=h.out s hs
  exact aY (by omega) (by omega)
 unfold cV
 simp only[Int.toNat_natCast,hw]
 rw[if_pos ⟨by omega,by omega⟩,if_pos ⟨by simp,by simp⟩]
 rfl
def lY(kd:List Int)(nx:List (List Int))(s:Nat):List Int:=kd.getD s 0::(nx.getD s []).map fun t=>kd.getD t.toNat 0
theorem aBg{kd:List Int}(hk:kd.length=n){s:Nat}(hs:s<n):cX (s:Int) kd nx ot []=some (lY kd nx s):=by
 have hn:=h.hn
 have hrow:=h.row s hs
 have hc:=h.cs
 unfold cX
 simp only[Int.toNat_natCast,List.nil_append]
 rw[if_pos ⟨by omega,by omega⟩,if_pos ⟨by simp,by simp⟩,if_pos ⟨by omega,by omega⟩]
 have hi:=b8 (body:=cM (s:Int) kd nx) (fun k=>(kd.getD s 0::((nx.getD s []).take k).map (fun t=>kd.getD t.toNat 0),(k:Int))) (nx.getD s []).length (r:=lY kd nx s) (fun k hkl=>by
  have hw:=h.way s k hs (by omega)
  have hg:(nx.getD s [])[k]? = some ((nx.getD s []).getD k 0):=by
   generalize nx.getD s []=l at hkl
   rw[List.getD_eq_getElem?_getD,List.getElem?_eq_getElem hkl];rfl
  have e:((nx.getD s []).take (k+1)).map (fun t=>kd.getD t.toNat 0)=((nx.getD s []).take k).map (fun t=>kd.getD t.toNat 0)++[kd.getD ((nx.getD s []).getD k 0).toNat 0]:=by
   rw[List.take_add_one,List.map_append,hg]
   rfl
  simp only[cM,Int.toNat_natCast]
  rw[if_pos (by simp only[decide_eq_true_eq];omega),if_pos ⟨by omega,by omega⟩,if_pos ⟨by omega,by omega⟩]
  have hl:(((nx.getD s []).take k).map (fun t=>kd.getD t.toNat 0)).length≤1000:=by simp only[List.length_map,List.length_take];omega
  rw[if_pos ⟨by simp only[List.length_cons,List.length_nil];omega,by simp only[List.length_cons,List.length_nil];omega⟩,aY (by omega) (by omega),e]
  rfl) (by simp[cM,lY])
 have hi':iter (cM (s:Int) kd nx) ([kd.getD s 0],(0:Int))=some (lY kd nx s):=hi
 rw[hi']
 rfl
theorem aCb:fM (ot.length:Int) nx ot=some ((List.range n).map (iX (fun s=>mI [ot.getD s 0]) n)):=by
 have ho:=h.ho
 have hs:=h.small
 unfold fM
 rw[ho,if_pos ⟨by omega,by omega,by omega,by omega⟩,U1,Int.toNat_natCast]
 rw[xR (fun s k=>cV s nx ot k) (fun s=>[ot.getD s 0]) n (by omega) (fun s hs=>oF h hs) (fun s hs=>by simp)]
 rfl
theorem aCC{kd:List Int}(hk:kd.length=n):fQ (kd.length:Int) kd nx ot=some ((List.range n).map (iX (fun s=>mI (lY kd nx s)) n)):=by
 have hs:=h.small
 unfold fQ
 rw[hk,if_pos ⟨by omega,by omega,by omega,by omega⟩,S2,Int.toNat_natCast]
 rw[xR (fun s k=>cX s kd nx ot k) (fun s=>lY kd nx s) n (by omega) (fun s hs=>aBg h hk hs) (fun s hs=>by
  simp only[lY,List.length_cons,List.length_map,h.row s hs]
  have:=h.cs
  omega)]
 rfl
end
end Go.Proofs.YtacpjjgochokcaaDoor.T
namespace Go.Proofs.YtacpjjgochokcaaDoor.T
open Go Go.Tv Go.Proofs
def run(nx:List (List Int))(s:Nat)(w:List Nat):Nat:=w.foldl (dl nx) s
def Leq(nx:List (List Int))(ot:List Int)(c s t:Nat):Prop:=∀w:List Nat,(∀k∈w,k<c)→ot.getD (run nx s w) 0=ot.getD (run nx t w) 0
theorem d8{f:Nat→Int}{n s:Nat}(hs:s<n):((List.range n).map f).getD s 0=f s:=by
 rw[List.getD_eq_getElem?_getD,List.getElem?_map,List.getElem?_range hs]
 rfl
theorem G9{nx:List (List Int)}{ot:List Int}{c s t k:Nat}(hk:k<c)(e:Leq nx ot c s t):Leq nx ot c (dl nx s k) (dl nx t k):=fun w hw =>
 e (k::w) (by intro j hj;rcases List.mem_cons.1 hj with rfl | hj;exact hk;exact hw j hj)
section
variable{nx:List (List Int)}{ot:List Int}{n c:Nat}(h:OkA nx ot n c)
include h
theorem n8{B:Nat→List UInt8}{s t:Nat}(hs:s<n)(ht:t<n):
  mI (lY ((List.range n).map (iX B n)) nx s)=mI (lY ((List.range n).map (iX B n)) nx t)↔B s=B t∧∀k,k<c→B (dl nx s k)=B (dl nx t k):=by
 have hsm:=h.small
 have hk:∀s,s<n→zS (iX B n s):=fun s hs=>by
  obtain⟨a,b⟩:=I3 (B:=B) hs
  have:=kH B n
  exact⟨a,by omega⟩
 have hmem:∀s,s<n→∀x∈lY ((List.range n).map (iX B n)) nx s,zS x:=fun s hs x hx=>by
  simp only[lY,List.mem_cons,List.mem_map]at hx
  rcases hx with rfl | ⟨y,hy,rfl⟩
  ·rw[d8 hs];exact hk s hs
  ·obtain⟨j,hj⟩:=List.mem_iff_getElem?.1 hy
   have hjl:j<c:=by rw[←h.row s hs];exact(List.getElem?_eq_some_iff.1 hj).1
   have hw:=h.way s j hs hjl
   have:(nx.getD s []).getD j 0=y:=by
    generalize nx.getD s []=l at hj
    rw[List.getD_eq_getElem?_getD,hj];rfl
   rw[this]at hw
   rw[d8 (by omega)]
   exact hk _ (by omega)
 have hget:∀s,s<n→∀k,k<c→((nx.getD s []).map fun t=>((List.range n).map (iX B n)).getD t.toNat 0)[k]? = some (iX B n (dl nx s k)):=fun s hs k hkc=>by
  have hl:k<(nx.getD s []).length:=by rw[h.row s hs];exact hkc
  have hd:=h.dl_lt hs hkc
  have e:(nx.getD s [])[k]? = some ((nx.getD s []).getD k 0):=by
   generalize nx.getD s []=l at hl
   rw[List.getD_eq_getElem?_getD,List.getElem?_eq_getElem hl];rfl
  rw[List.getElem?_map,e]
  simp only[Option.map_some,Option.some.injEq]
  exact d8 (f:=iX B n) hd
 have hlen:∀s,s<n→((nx.getD s []).map fun t=>((List.range n).map (iX B n)).getD t.toNat 0).length=c:=fun s hs=>by rw[List.length_map,h.row s hs]
 constructor
 ·intro e
  have e2:=uM (by simp only[lY,List.length_cons];rw[hlen s hs,hlen t ht]) (hmem s hs) (hmem t ht) e
  simp only[lY,List.cons.injEq]at e2
  obtain⟨q1,q2⟩:=e2
  rw[d8 hs,d8 ht]at q1
  refine⟨(vS hs ht).1 q1,fun k hkc=> ?_⟩
  have:=hget s hs k hkc
  rw[q2,hget t ht k hkc]at this
  exact(vS (h.dl_lt hs hkc) (h.dl_lt ht hkc)).1 (Option.some.inj this).symm
 ·rintro⟨q1,q2⟩
  congr 1
  simp only[lY,List.cons.injEq]
  refine⟨by rw[d8 hs,d8 ht];exact(vS hs ht).2 q1,List.ext_getElem? fun k=> ?_⟩
  rcases Nat.lt_or_ge k c with hkc | hkc
  ·rw[hget s hs k hkc,hget t ht k hkc,(vS (h.dl_lt hs hkc) (h.dl_lt ht hkc)).2 (q2 k hkc)]
  ·rw[List.getElem?_eq_none (by rw[hlen s hs];exact hkc),List.getElem?_eq_none (by rw[hlen t ht];exact hkc)]
theorem aAL:∀(w:List Nat) {s:Nat},s<n→(∀k∈w,k<c)→run nx s w<n
 | [],s,hs,_=>hs
 | k::w,s,hs,hw=>aAL w (h.dl_lt hs (hw k (by simp))) (fun k hk=>hw k (by simp[hk]))
theorem P6:∃B:Nat→List UInt8,(fM (ot.length:Int) nx ot).bind (iter (gF nx ot))=some ((List.range n).map (iX B n))∧∀s t,s<n→t<n→(B s=B t↔Leq nx ot c s t):=by
 rw[aCb h]
 simp only[Option.bind_some]
 have hsm:=h.small
 have hmost:∀B:Nat→List UInt8,eM ((List.range n).map (iX B n))=some (((b6 B n).length:Int) - 1):=fun B=>by
  rw[M8 _ (by simp;omega),qA h.pos]
 obtain⟨r,h1,B,h2,h3⟩:=bS (body:=gF nx ot)
  (fun kd=>∃B:Nat→List UInt8,kd=(List.range n).map (iX B n)∧(∀s t,s<n→t<n→Leq nx ot c s t→B s=B t)∧(∀s t,s<n→t<n→B s=B t→ot.getD s 0=ot.getD t 0))
  (fun kd=>n - (kd.foldl max 0).toNat)
  (fun kd=>∃B:Nat→List UInt8,kd=(List.range n).map (iX B n)∧∀s t,s<n→t<n→(B s=B t↔Leq nx ot c s t))
  (fun kd ⟨B,hB,hc,ho⟩=>by
   have hl:kd.length=n:=by rw[hB];simp
   obtain⟨f1,f2⟩:=aBQ (B:=B) (B':=fun s=>mI (lY kd nx s)) n (fun s t hs ht e=>by
    simp only[hB]at e
    exact((n8 h hs ht).1 e).1)
   simp only[gF]
   rw[aCC h hl]
   simp only[Option.bind_some]
   rw[hmost]
   simp only[Option.bind_some]
   have hmk:eM kd=some (((b6 B n).length:Int) - 1):=by rw[hB];exact hmost B
   rw[hmk]
   simp only[Option.bind_some]
   by_cases e:(b6 (fun s=>mI (lY kd nx s)) n).length=(b6 B n).length
   ·right
    rw[if_pos (by simp[e])]
    refine⟨kd,rfl,B,hB,fun s t hs ht=>⟨fun est=> ?_,hc s t hs ht⟩⟩
    have stab:∀s t,s<n→t<n→B s=B t→∀k,k<c→B (dl nx s k)=B (dl nx t k):=fun s t hs ht est k hk=>by
     have:=f2 e.symm s t hs ht est
     simp only[hB]at this
     exact((n8 h hs ht).1 this).2 k hk
    have all:∀(w:List Nat) (s t:Nat),s<n→t<n→B s=B t→(∀k∈w,k<c)→ot.getD (run nx s w) 0=ot.getD (run nx t w) 0:=fun w=>by
     induction w with
     | nil=>intro s t hs ht est _;exact ho s t hs ht est
     | cons k w ih =>
      intro s t hs ht est hw
      have hk:=hw k (by simp)
      exact ih _ _ (h.dl_lt hs hk) (h.dl_lt ht hk) (stab s t hs ht est k hk) (fun j hj=>hw j (by simp[hj]))
    exact fun w hw=>all w s t hs ht est hw
   ·left
    rw[if_neg (by simp;omega)]
    refine⟨_,rfl,⟨fun s=>mI (lY kd nx s),rfl,fun s t hs ht est=> ?_,fun s t hs ht est=> ?_⟩,?_⟩
    ·simp only[hB]
     exact(n8 h hs ht).2 ⟨hc s t hs ht est,fun k hk=>hc _ _ (h.dl_lt hs hk) (h.dl_lt ht hk) (G9 hk est)⟩
    ·simp only[hB]at est
     exact ho s t hs ht ((n8 h hs ht).1 est).1
    ·have hn:=kH (fun s=>mI (lY kd nx s)) n
     have hp:0<(b6 B n).length:=List.length_pos_of_mem (iC (B:=B) h.pos)
     have m1:kd.foldl max 0=((b6 B n).length:Int) - 1:=by rw[hB];exact qA h.pos
     have m2:=qA (B:=fun s=>mI (lY kd nx s)) h.pos
     simp only[m1,m2]
     omega)
  (s:=(List.range n).map (iX (fun s=>mI [ot.getD s 0]) n))
  ⟨_,rfl,fun s t hs ht e=>by
   have:=e [] (by simp)
   simp only[run,List.foldl_nil]at this
   rw[this],fun s t hs ht e=>by
   have:=uM (by simp) (fun x hx=>by simp at hx;rw[hx];exact h.out s hs) (fun x hx=>by simp at hx;rw[hx];exact h.out t ht) e
   simpa using this⟩
 exact⟨B,by rw[h1,h2],h3⟩
end
end Go.Proofs.YtacpjjgochokcaaDoor.T
namespace Go.Proofs.YtacpjjgochokcaaDoor.T
open Go Go.Tv Go.Proofs
section
variable{nx:List (List Int)}{ot:List Int}{n c:Nat}(h:OkA nx ot n c)
include h
theorem aCl{s:Nat}(hs:s<n):iter (eE nx (s:Int)) (0:Int)=some (Sum.inl ()):=by
 have hn:=h.hn
 have hc:=h.cs
 have hrow:=h.row s hs
 exact b8 (body:=eE nx (s:Int)) (fun k=>(k:Int)) c (r:=Sum.inl ()) (fun k hk=>by
  have hw:=h.way s k hs hk
  simp only[eE,Int.toNat_natCast]
  rw[if_pos (by simp only[decide_eq_true_eq];omega),if_pos ⟨by omega,by omega⟩,if_neg (by simp only[decide_eq_true_eq];omega)]
  simp only[Option.bind_some]
  rw[if_neg (by simp only[decide_eq_true_eq];omega),aY (by omega) (by omega)]
  rfl) (by simp only[eE,Int.toNat_natCast];rw[if_neg (by simp only[decide_eq_true_eq];omega)])
theorem J2:iO nx ot=some true:=by
 have hn:=h.hn
 have ho:=h.ho
 have hp:=h.pos
 have hs:=h.small
 have hi:iter (dZ nx) (0:Int)=some (Sum.inl ()):=b8 (body:=dZ nx) (fun k=>(k:Int)) n (r:=Sum.inl ()) (fun k hk=>by
  simp only[dZ,Int.toNat_natCast]
  have h0:(nx.getD ((0:Int).toNat) ([]:List Int)).length=c:=h.row 0 hp
  rw[if_pos (by simp only[hn,decide_eq_true_eq];omega),if_pos ⟨by omega,by omega⟩,if_pos ⟨by omega,by omega⟩,if_neg (by simp only[h.row k hk,h0];simp),aCl h hk]
  simp only[Option.bind_some]
  rw[aY (by omega) (by omega)]
  rfl) (by simp only[dZ];rw[if_neg (by simp[hn])])
 unfold iO
 rw[if_neg (by simp only[beq_iff_eq];omega)]
 simp only[Option.bind_some]
 rw[if_neg (by simp only[bne_iff_ne,ne_eq];omega),hi]
 rfl
theorem aBa:∃B:Nat→List UInt8,(∀s t,s<n→t<n→(B s=B t↔Leq nx ot c s t)) ∧
  fN nx ot=(gC nx ot ((List.range n).map (iX B n))).bind fun r=>some ((r.1,r.2),(0:Int)):=by
 obtain⟨B,h1,h2⟩:=P6 h
 refine⟨B,h2,?_⟩
 unfold fN
 rw[J2 h]
 simp only[Option.bind_some,Bool.not_true,Bool.false_eq_true,if_false]
 cases hsp:fM (ot.length:Int) nx ot with
 | none=>rw[hsp]at h1;cases h1
 | some kd =>
  rw[hsp]at h1
  simp only[Option.bind_some]at h1 ⊢
  rw[h1]
  rfl
end
end Go.Proofs.YtacpjjgochokcaaDoor.T
namespace Go.Proofs.YtacpjjgochokcaaDoor.T
open Go Go.Tv Go.Proofs
theorem L5:∀(M:Nat) (l:List Nat),l.Nodup→(∀x∈l,x<M)→l.length≤M
 | 0,l,_,h=>by
  cases l with
  | nil=>exact Nat.le_refl _
  | cons x l=>exact absurd (h x (by simp)) (by omega)
 | M+1,l,hn,h=>by
  by_cases hm:M∈l
  ·have h1:=L5 M (l.erase M) (hn.erase M) fun x hx=>by
    have:=(hn.mem_erase_iff).1 hx
    have:=h x this.2
    omega
   rw[List.length_erase_of_mem hm]at h1
   omega
  ·have:=L5 M l hn fun x hx=>by
    have h1:=h x hx
    have h2:x≠M:=fun e=>hm (e ▸ hx)
    omega
   omega
def oG(kd:Nat→Int)(ln:List Nat)(t:Nat):List Nat:=if kd t∈ln.map kd then ln else ln++[t]
def eW(kd:Nat→Int):List Nat→List Nat→List Int→List Nat×List Int
 | ln,[],r=>(ln,r)
 | ln,t::ts,r=>eW kd (oG kd ln t) ts (r++[((ln.map kd).idxOf (kd t):Int)])
def eD(nx:List (List Int))(s:Nat):List Nat:=(nx.getD s []).map Int.toNat
def oW(kd:Nat→Int)(nx:List (List Int))(ot:List Int):(List (List Int)×List Int×List Nat×Nat)→Option ((List (List Int)×List Int×List Nat×Nat)⊕(List (List Int)×List Int)):=fun(N,O,ln,i) =>
 if i<ln.length then some (.inl (N++[(eW kd ln (eD nx (ln.getD i 0)) []).2],O++[ot.getD (ln.getD i 0) 0],(eW kd ln (eD nx (ln.getD i 0)) []).1,i+1))else some (.inr (N,O))
structure Lane(kd:Nat→Int)(n M:Nat)(ln:List Nat):Prop where
 nodup:(ln.map kd).Nodup
 lt:∀s∈ln,s<n
theorem Lane.le{kd:Nat→Int}{n M:Nat}{ln:List Nat}(h:Lane kd n M ln)(hk:∀s,s<n→0≤kd s∧kd s<M):ln.length≤M:=by
 have h1:(ln.map fun s=>(kd s).toNat).Nodup:=by
  have:ln.map (fun s=>(kd s).toNat)=(ln.map kd).map Int.toNat:=by simp
  rw[this,List.Nodup,List.pairwise_map]
  refine List.Pairwise.imp_of_mem (fun {a b} ha hb hab e=>hab ?_) h.nodup
  obtain⟨s,hs,rfl⟩:=List.mem_map.1 ha
  obtain⟨t,ht,rfl⟩:=List.mem_map.1 hb
  have:=hk s (h.lt s hs)
  have:=hk t (h.lt t ht)
  omega
 have:=L5 M _ h1 fun x hx=>by
  obtain⟨s,hs,rfl⟩:=List.mem_map.1 hx
  have:=hk s (h.lt s hs)
  omega
 simpa using this
theorem Lane.add{kd:Nat→Int}{n M:Nat}{ln:List Nat}(h:Lane kd n M ln){t:Nat}(ht:t<n):Lane kd n M (oG kd ln t):=by
 unfold oG
 split
 ·exact h
 ·rename_i hm
  refine⟨?_,fun s hs=> ?_⟩
  ·rw[List.map_append]
   refine List.nodup_append.2 ⟨h.nodup,by simp,fun a ha b hb e=> ?_⟩
   simp only[List.map_cons,List.map_nil,List.mem_singleton]at hb
   subst hb
   subst e
   exact hm ha
  ·rcases List.mem_append.1 hs with hs | hs
   ·exact h.lt s hs
   ·simp at hs;omega
theorem Lane.walked{kd:Nat→Int}{n M:Nat}:∀(ts ln:List Nat) (r:List Int),Lane kd n M ln→(∀t∈ts,t<n)→Lane kd n M (eW kd ln ts r).1
 | [],_,_,h,_=>h
 | t::ts,ln,r,h,ht=>by
  simp only[eW]
  exact Lane.walked ts _ _ (h.add (ht t (by simp))) (fun s hs=>ht s (by simp[hs]))
theorem jR{kd:Nat→Int}:∀ {ts ln:List Nat} {r:List Int},∃l,(eW kd ln ts r).1=ln++l
 | [],ln,_=>⟨[],by simp[eW]⟩
 | t::ts,ln,r=>by
  obtain⟨l,e⟩:=jR (kd:=kd) (ts:=ts) (ln:=oG kd ln t) (r:=r++[((ln.map kd).idxOf (kd t):Int)])
  simp only[eW]
  rw[e]
  unfold oG
  split
  ·exact⟨l,rfl⟩
  ·exact⟨t::l,by simp⟩
theorem xU{kd:Nat→Int}:∀(ts:List Nat) (ln:List Nat) (r:List Int) (t:Nat),eW kd ln (ts++[t]) r=(oG kd (eW kd ln ts r).1 t,(eW kd ln ts r).2++[(((eW kd ln ts r).1.map kd).idxOf (kd t):Int)])
 | [],ln,r,t=>rfl
 | x::ts,ln,r,t=>by simp only[List.cons_append,eW];exact xU ts _ _ t
theorem E3{kd:Nat→Int}:∀(ts:List Nat) (ln:List Nat) (r:List Int),(eW kd ln ts r).2.length=r.length+ts.length
 | [],ln,r=>by simp[eW]
 | x::ts,ln,r=>by simp only[eW,E3 ts,List.length_append,List.length_cons,List.length_nil];omega
def b9(kd:Nat→Int)(M:Nat)(ln:List Nat):List Int:=(List.range M).map fun(k:Nat)=>if(k:Int)∈ln.map kd then((ln.map kd).idxOf (k:Int):Int)else -1
theorem sM{kd:Nat→Int}{M:Nat}{ln:List Nat}{k:Nat}(hk:k<M):(b9 kd M ln).getD k 0=if(k:Int)∈ln.map kd then((ln.map kd).idxOf (k:Int):Int)else -1:=d8 hk
theorem qU{b:Int}:∀ {d l:List Int},b∈d→(d++l).idxOf b=d.idxOf b
 | [],_,h=>by simp at h
 | x::d,l,h=>by
  simp only[List.cons_append,List.idxOf_cons]
  by_cases e:x=b
  ·subst e;simp
  ·have:(x == b)=false:=by simpa using e
   rw[this]
   rcases List.mem_cons.1 h with h | h
   ·exact absurd h.symm e
   ·rw[qU (l:=l) h]
theorem pY{b:Int}:∀ {d l:List Int},b ∉ d→(d++b::l).idxOf b=d.length
 | [],_,_=>by simp
 | x::d,l,h=>by
  have e:(x == b)=false:=by
   simp only[List.mem_cons,not_or]at h
   simpa using fun e=>h.1 e.symm
  simp only[List.cons_append,List.idxOf_cons,e,cond_false,List.length_cons]
  rw[pY (fun hm=>h (List.mem_cons_of_mem _ hm))]
theorem sX{kd:Nat→Int}{M:Nat}{ln:List Nat}{t:Nat}(h0:0≤kd t)(h1:kd t<M)(hm:kd t ∉ ln.map kd):(b9 kd M ln).set (kd t).toNat (ln.length:Int)=b9 kd M (ln++[t]):=by
 refine List.ext_getElem? fun k=> ?_
 rw[List.getElem?_set]
 have hlen:∀l,(b9 kd M l).length=M:=fun l=>by simp[b9]
 rcases Nat.lt_or_ge k M with hk | hk
 ·have g:∀l,(b9 kd M l)[k]? = some (if(k:Int)∈l.map kd then((l.map kd).idxOf (k:Int):Int)else -1):=fun l=>by
   unfold b9
   rw[List.getElem?_map,List.getElem?_range hk]
   rfl
  by_cases e:(kd t).toNat=k
  ·have ek:(k:Int)=kd t:=by omega
   rw[if_pos e,if_pos (by rw[hlen];omega),g,ek,List.map_append]
   simp only[List.map_cons,List.map_nil]
   rw[if_pos (by simp),pY hm,List.length_map]
  ·rw[if_neg e,g,g,List.map_append]
   simp only[List.map_cons,List.map_nil,List.mem_append,List.mem_singleton]
   have ne:(k:Int)≠kd t:=fun h=>e (by omega)
   by_cases hkm:(k:Int)∈ln.map kd
   ·rw[if_pos hkm,if_pos (.inl hkm),qU hkm]
   ·rw[if_neg hkm,if_neg (by intro h;rcases h with h | h;exact hkm h;exact ne h)]
 ·rw[List.getElem?_eq_none (by rw[hlen];exact hk),List.getElem?_eq_none (by rw[hlen];exact hk)]
  split
  ·rw[if_neg (by rw[hlen];omega)]
  ·rfl
end Go.Proofs.YtacpjjgochokcaaDoor.T
