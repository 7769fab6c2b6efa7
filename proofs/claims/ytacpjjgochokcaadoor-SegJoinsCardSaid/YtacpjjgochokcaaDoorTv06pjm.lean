/- The document's parser of rules says what the pieces say: pieces, names and sets. -/
import Derived.Test.YtacpjjgochokcaaDoorTv06pi
namespace Go.Proofs.YtacpjjgochokcaaDoor.T
open Go Go.Tv Go.Proofs
def OkR{A B:Type}(cd:A→Er)(x:Option A)(y:B⊕Er)(R:A→B→Prop):Prop:=match y with
 | .inr e=>∃a,x=some a∧cd a=e∧e.1≠0
 | .inl b=>∃a,x=some a∧cd a=(0,0)∧R a b
theorem OkR.bind{A B C D:Type}{cd:A→Er}{x:Option A}{y:B⊕Er}{R:A→B→Prop}(h:OkR cd x y R){k:A→Option C}{cd':C→Er}{s:D⊕Er}{R':C→D→Prop}
  (h1:∀a,y = .inr (cd a)→(cd a).1≠0→s = .inr (cd a)∧∃c,k a=some c∧cd' c=cd a) (h2:∀a b,y = .inl b→cd a=(0,0)→R a b→OkR cd' (k a) s R'):OkR cd' (x.bind k) s R':=by
 cases y with
 | inr e =>
  obtain⟨a,h3,h4,h5⟩:=h
  subst h4
  obtain⟨h6,c,h7,h8⟩:=h1 a rfl h5
  rw[h3,h6,Option.bind_some]
  exact⟨c,h7,h8,h5⟩
 | inl b =>
  obtain⟨a,h3,h4,h5⟩:=h
  rw[h3]
  exact h2 a b rfl h4 h5
theorem aFU:((List.range 256).all fun n=>decide (j8 (fun i=>([40,41,91,93,94,124,42,43,63,46,59,47,61]:List UInt8).getD i 0 == n.toUInt8) 13<13) == qA n)=true:=by kernel_rfl
theorem aFJ(c:UInt8):decide (j8 (fun i=>([40,41,91,93,94,124,42,43,63,46,59,47,61]:List UInt8).getD i 0 == c) 13<13)=qA c.toNat:=by
 have h1:=List.all_eq_true.mp aFU c.toNat (List.mem_range.mpr (A0 c))
 rw[beq_iff_eq]at h1
 have e:c.toNat.toUInt8=c:=by simp
 rw[e]at h1
 exact h1
theorem M1(t:List UInt8)(a:Nat)(x y:Int):iter (gB t (a:Int) x y) 0=some (if qA (t.getD a 0).toNat then .inr (((t.getD a 0).toNat:Int),(a:Int),x,y)else .inl ()):=by
 have hs:=aFJ (t.getD a 0)
 have hb:∀k,k<j8 (fun i=>([40,41,91,93,94,124,42,43,63,46,59,47,61]:List UInt8).getD i 0 == t.getD a 0) 13→gB t (a:Int) x y (k:Int)=some (.inl ((k+1:Nat):Int)):=fun k hk=>by
  have h1:=qS _ _ hk
  have h2:=nY (fun i=>([40,41,91,93,94,124,42,43,63,46,59,47,61]:List UInt8).getD i 0 == t.getD a 0) 13
  unfold gB
  rw[if_pos (by simp;omega),if_pos ⟨by omega,by simp;omega⟩,if_neg (by
   simp only[Int.toNat_natCast];intro hh
   rw[beq_iff_eq]at hh
   have:([40,41,91,93,94,124,42,43,63,46,59,47,61]:List UInt8).getD k 0=t.getD a 0:=UInt8.toNat_inj.mp (by omega)
   rw[this]at h1
   simp at h1),aO (by omega) (by omega)]
  rfl
 by_cases hp:j8 (fun i=>([40,41,91,93,94,124,42,43,63,46,59,47,61]:List UInt8).getD i 0 == t.getD a 0) 13<13
 ·have hat:=qL _ _ hp
  rw[decide_eq_true hp]at hs
  rw[if_pos hs.symm]
  refine bH (fun k:Nat=>(k:Int)) _ hb ?_
  unfold gB
  rw[show([40,41,91,93,94,124,42,43,63,46,59,47,61]:List UInt8).length=13 from rfl]
  rw[if_pos (decide_eq_true (Int.ofNat_lt.mpr hp)),if_pos ⟨Int.natCast_nonneg _,Int.ofNat_lt.mpr hp⟩,if_pos (by
   simp only[Int.toNat_natCast]
   rw[beq_iff_eq]at hat ⊢
   rw[hat])]
  simp only[Int.toNat_natCast]
 ·have h2:=nY (fun i=>([40,41,91,93,94,124,42,43,63,46,59,47,61]:List UInt8).getD i 0 == t.getD a 0) 13
  rw[decide_eq_false hp]at hs
  rw[if_neg (by rw[←hs];simp)]
  refine bH (fun k:Nat=>(k:Int)) _ hb ?_
  unfold gB
  rw[show([40,41,91,93,94,124,42,43,63,46,59,47,61]:List UInt8).length=13 from rfl]
  rw[if_neg (fun hh=>hp (Int.ofNat_lt.mp (of_decide_eq_true hh)))]
theorem aFO{t:List UInt8}(ht:t.length≤10000):∀(m a:Nat),t.length - a≤m→a≤t.length→∃b:Nat,iter (eH t) (a:Int)=some (b:Int)∧a≤b∧b≤t.length∧tk none (t.drop a) a=T t b:=by
 intro m
 have hend:∀a:Nat,a=t.length→∃b:Nat,iter (eH t) (a:Int)=some (b:Int)∧a≤b∧b≤t.length∧tk none (t.drop a) a=T t b:=fun a h=>by
  refine⟨a,?_,Nat.le_refl _,by omega,?_⟩
  ·apply bD
   unfold eH
   rw[if_neg (by simp;omega)]
   rfl
  ·rw[vD (by omega),List.drop_eq_nil_of_le (by omega)]
   rfl
 induction m with
 | zero=>intro a h1 h2;exact hend a (by omega)
 | succ m ih =>
  intro a h1 h2
  rcases Nat.lt_or_ge a t.length with h | h
  ·by_cases h10:(t.getD a 0).toNat=10
   ·refine⟨a,?_,Nat.le_refl _,h2,?_⟩
    ·apply bD
     unfold eH
     rw[if_pos (by simp;omega),if_pos ⟨by omega,by omega⟩,Int.toNat_natCast,h10]
     rfl
    ·rw[aC8 h,if_pos h10,aKZ h h10]
   ·obtain⟨b,k1,k2,k3,k4⟩:=ih (a+1) (by omega) (by omega)
    refine⟨b,?_,by omega,k3,?_⟩
    ·rw[b7 (s':=((a+1:Nat):Int)) (by
      unfold eH
      rw[if_pos (by simp;omega),if_pos ⟨by omega,by omega⟩,Int.toNat_natCast,aO (by omega) (by omega)]
      simp only[Option.bind_some]
      rw[if_pos (by rw[bne_iff_ne];omega)]
      rfl),k1]
    ·rw[aC8 h,if_neg h10,k4]
  ·exact hend a (by omega)
def aFB:Toks→(Int×Int×Int)⊕(Int×Int×Int×Int)
 | .bad n=> .inl (n,20,n)
 | .eof n=> .inl (n,0,0)
 | ts=> .inr (ts.hd,ts.pos,0,0)
def mX:Toks→Int×Int×Int×Int
 | .bad n=>(0,n,20,n)
 | ts=>(ts.hd,ts.pos,0,0)
theorem aEo{t:List UInt8}(ht:t.length≤10000)(d3 d4 d5 d6 o1 o2 o3 o4 o5):∀(m a:Nat),t.length - a≤m→a≤t.length→iter (cS t d3 d4 d5 d6 o1 o2 o3 o4 o5) ((a:Int),0,0)=some (aFB (T t a)):=by
 intro m
 have hend:∀a:Nat,a=t.length→iter (cS t d3 d4 d5 d6 o1 o2 o3 o4 o5) ((a:Int),0,0)=some (aFB (T t a)):=fun a h=>by
  rw[vD (by omega)]
  apply bD
  have c1:decide ((a:Int)<(t.length:Int))=false:=by simp;omega
  unfold cS
  simp only[c1]
  rfl
 induction m with
 | zero=>intro a h1 h2;exact hend a (by omega)
 | succ m ih =>
  intro a h1 h2
  rcases Nat.lt_or_ge a t.length with h | h
  ·have c1:decide ((a:Int)<(t.length:Int))=true:=by simp;omega
   have c2:0≤(a:Int)∧(a:Int)<(t.length:Int):=⟨by omega,by omega⟩
   have pre:∀ {X:Type} (u v:Option X),(((if((0:Int) == (0:Int))=true then some (decide ((a:Int)<(t.length:Int)))else some (false))).bind fun(v45:Bool)=>(if v45=true then u else v))=u:=fun u v=>by
    rw[c1];rfl
   by_cases h35:(t.getD a 0).toNat=35
   ·have z35:(((t.getD a 0).toNat:Int) == (35:Int))=true:=by rw[h35];rfl
    obtain⟨b,k1,k2,k3,k4⟩:=aFO ht _ (a+1) (Nat.le_refl _) (by omega)
    have k0:iter (eH t) (a:Int)=some (b:Int):=by
     rw[b7 (s':=((a+1:Nat):Int)) (by
      unfold eH
      rw[if_pos (by simp;omega),if_pos ⟨by omega,by omega⟩,Int.toNat_natCast,aO (by omega) (by omega),h35]
      rfl),k1]
    rw[b7 (s':=((b:Int),0,0)) (by
     unfold cS
     simp only[]
     rw[pre,if_pos c2,Int.toNat_natCast,if_pos z35,k0]
     rfl),ih b (by omega) k3,aAl h h35,aC8 h,if_neg (by omega),k4]
   ·have hz:¬(((t.getD a 0).toNat:Int) == (35:Int))=true:=by simp only[beq_iff_eq];omega
    have e:=zC h
    rw[if_neg h35]at e
    have hbl:(if(((t.getD a 0).toNat:Int) == (32:Int))=true then some (true)
      else(if(((t.getD a 0).toNat:Int) == (9:Int))=true then some (true)
      else(if(((t.getD a 0).toNat:Int) == (10:Int))=true then some (true)
      else some ((((t.getD a 0).toNat:Int) == (13:Int))))))=some (sA (t.getD a 0).toNat):=by
     have:=aIk (t.getD a 0)
     unfold i8 at this
     rw[←this]
     repeat (first | rfl | (split <;> try rfl))
    by_cases hb:sA (t.getD a 0).toNat=true
    ·rw[b7 (s':=(((a+1:Nat):Int),0,0)) (by
      unfold cS
      simp only[]
      rw[pre,if_pos c2,Int.toNat_natCast,if_neg hz,hbl,hb,aO (by omega) (by omega)]
      rfl),ih (a+1) (by omega) (by omega),e,if_pos hb]
    ·rw[if_neg hb]at e
     have hb':sA (t.getD a 0).toNat=false:=by simpa using hb
     by_cases hl:cW (t.getD a 0).toNat=true
     ·have hsn:qA (t.getD a 0).toNat=false:=by
       have h1:=List.all_eq_true.mp aBH _ (List.mem_range.mpr (A0 (t.getD a 0)))
       simp only[Bool.and_eq_true]at h1
       have:=h1.1.2
       rw[hl]at this
       simpa using this
      rw[if_pos hl]at e
      apply bD
      unfold cS
      simp only[]
      rw[pre,if_pos c2,Int.toNat_natCast,if_neg hz,hbl,hb',M1,hsn]
      simp only[Option.bind_some,Bool.false_eq_true,if_false]
      rw[aEq,hl,e]
      show _=some (Sum.inr (Sum.inr ((((List.headD (List.takeWhile (fun x=>cW x.toNat) (List.drop a t)) 0).toNat:Nat):Int),(a:Int),(0:Int),(0:Int))))
      rw[lW (d:=0) h,List.takeWhile_cons,if_pos hl]
      rfl
     ·rw[if_neg hl]at e
      have hl':cW (t.getD a 0).toNat=false:=by simpa using hl
      by_cases hs:qA (t.getD a 0).toNat=true
      ·rw[if_pos hs]at e
       apply bD
       unfold cS
       simp only[]
       rw[pre,if_pos c2,Int.toNat_natCast,if_neg hz,hbl,hb',M1,hs,e]
       rfl
      ·rw[if_neg hs]at e
       have hs':qA (t.getD a 0).toNat=false:=by simpa using hs
       rw[b7 (s':=((a:Int),20,(a:Int))) (by
        unfold cS
        simp only[]
        rw[pre,if_pos c2,Int.toNat_natCast,if_neg hz,hbl,hb',M1,hs']
        simp only[Option.bind_some,Bool.false_eq_true,if_false]
        rw[aEq,hl']
        rfl),e]
       exact bD rfl
  ·exact hend a (by omega)
theorem T4{t:List UInt8}(ht:t.length≤10000){p:Int}{ts:Toks}(h:At t p ts)(d3 d4 d5 d6 o1 o2 o3 o4 o5):gA t p d3 d4 d5 d6 0 0 o1 o2 o3 o4 o5=some (mX ts):=by
 obtain⟨h1,h2,rfl⟩:=h
 obtain⟨a,rfl⟩:=Int.eq_ofNat_of_zero_le h1
 unfold gA
 rw[aEo ht d3 d4 d5 d6 o1 o2 o3 o4 o5 _ a (Nat.le_refl _) (by omega),Int.toNat_natCast]
 cases T t a <;> rfl
/-! Behind a fault nothing is changed. -/
section
variable{c:Int}(hc:c≠0)
include hc
theorem iT:(c == (0:Int))=false:=by simpa using hc
theorem uN{t p d3 d4 d5 d6 x o1 o2 o3 o4 o5}:gA t p d3 d4 d5 d6 c x o1 o2 o3 o4 o5=some (0,p,c,x):=by
 unfold gA
 rw[bD (r:= .inl (p,c,x)) (by
  unfold cS
  simp only[iT hc]
  rfl)]
 rfl
theorem G9{e n t p d3 d4 d5 d6 x o1 o2 o3 o4 o5}:cY e n t p d3 d4 d5 d6 c x o1 o2 o3 o4 o5=some (c,x):=by
 unfold cY
 rw[iT hc]
 rfl
theorem yF{t p d3 d4 d5 d6 x o1 o2 o3 o4 o5}:eE t p d3 d4 d5 d6 c x o1 o2 o3 o4 o5=some ([],p,p,c,x):=by
 unfold eE
 rw[uN hc]
 have hb:(c != (0:Int))=true:=by simpa using hc
 simp only[Option.bind_some,iT hc,Bool.false_eq_true,if_false]
 rw[if_pos hb]
theorem uL{s t p d3 d4 d5 d6 x o1 o2 o3 o4 o5}:aQ s t p d3 d4 d5 d6 c x o1 o2 o3 o4 o5=some (false,p,c,x):=by
 unfold aQ
 rw[uN hc]
 have hb:(c != (0:Int))=true:=by simpa using hc
 simp only[Option.bind_some]
 rw[if_pos hb]
 rfl
theorem jK{s t p d3 d4 d5 d6 x o1 o2 o3 o4 o5}:eR s t p d3 d4 d5 d6 c x o1 o2 o3 o4 o5=some (p,c,x):=by
 unfold eR
 rw[uL hc]
 simp only[Option.bind_some,Bool.not_false,if_true]
 rw[G9 hc]
 rfl
theorem aCp{t p d3 d4 d5 d6 x o1 o2 o3 o4 o5}:gQ t p d3 d4 d5 d6 c x o1 o2 o3 o4 o5=some (0,p,c,x):=by
 unfold gQ
 rw[yF hc]
 have hb:(c != (0:Int))=true:=by simpa using hc
 simp only[Option.bind_some]
 rw[if_pos hb]
theorem aBY{t p d3 d4 d5 d6 x o1 o2 o3 o4 o5}:gR t p d3 d4 d5 d6 c x o1 o2 o3 o4 o5=some ([],p,p,c,x):=by
 unfold gR
 rw[yF hc]
 simp only[Option.bind_some,iT hc,Bool.false_eq_true,if_false]
theorem tV{s t p d3 d4 d5 d6 x o1 o2 o3 o4 o5 b}:iter (bX s t d3 d4 d5 d6 o1 o2 o3 o4 o5) (p,c,x,b)=some (b,p,c,x):=by
 apply bD
 unfold bX
 simp only[iT hc,Option.bind_some,Bool.false_eq_true,if_false]
theorem uE{s t p d3 d4 d5 d6 x o1 o2 o3 o4 o5}:gC s t p d3 d4 d5 d6 c x o1 o2 o3 o4 o5=some (0,p,c,x):=by
 unfold gC
 rw[tV hc]
 rfl
theorem L0{t p d3 d4 d5 d6 x o1 o2 o3 o4 o5}:gP t p d3 d4 d5 d6 c x o1 o2 o3 o4 o5=some (0,p,c,x):=by
 unfold gP
 rw[yF hc]
 simp only[Option.bind_some]
 rw[bD (r:= .inl ()) (by
  unfold bV
  simp only[iT hc]
  split <;> rfl)]
 simp only[Option.bind_some]
 rw[G9 hc]
 rfl
end
end Go.Proofs.YtacpjjgochokcaaDoor.T
namespace Go.Proofs.YtacpjjgochokcaaDoor.T
open Go Go.Tv Go.Proofs
theorem X5{n:Nat}(h:n<256):iO (n:Int)=some (cW n):=by
 have h1:=List.all_eq_true.mp aDw n (List.mem_range.mpr h)
 simpa using h1
theorem aDk{p1 p2 p3 p4 p5 p6 p7 p9 p10 p11 p12 p13}(names:List (List UInt8))(w:List UInt8)(hl:names.length≤20000):mC p1 p2 p3 p4 p5 p6 p7 names p9 p10 p11 p12 p13 w=some (if cK names w<names.length then(cK names w:Int)else -1):=by
 unfold mC
 have hle:cK names w≤names.length:=nY _ _
 have hb:∀k,k<cK names w→dD names w (k:Int)=some (.inl ((k+1:Nat):Int)):=fun k hk=>by
  have:=qS (fun i=>names.getD i [] == w) names.length hk
  unfold dD
  rw[if_pos (by simp;omega),if_pos ⟨by omega,by omega⟩,if_neg (by
   rw[Int.toNat_natCast,this];simp),aO (by omega) (by omega)]
  rfl
 by_cases hp:cK names w<names.length
 ·have hat:=qL (fun i=>names.getD i [] == w) names.length hp
  have he:dD names w ((cK names w:Nat):Int)=some (.inr (.inr (cK names w:Int))):=by
   unfold dD
   rw[if_pos (by simp;omega),if_pos ⟨by omega,by omega⟩,if_pos (by
    rw[Int.toNat_natCast];exact hat)]
  have:=bH (fun k:Nat=>(k:Int)) (cK names w) hb he
  rw[show iter (dD names w) 0=_ from this,if_pos hp]
  rfl
 ·have hpe:cK names w=names.length:=by omega
  have he:dD names w ((cK names w:Nat):Int)=some (.inr (.inl ())):=by
   unfold dD
   rw[if_neg (by simp;omega)]
  have:=bH (fun k:Nat=>(k:Int)) (cK names w) hb he
  rw[show iter (dD names w) 0=_ from this,if_neg hp]
  rfl
theorem H3:∀(names:List (List UInt8)) (bits:List Int) (w:List UInt8),names.length=bits.length→look (names.zip bits) w=if cK names w<names.length then some (bits.getD (cK names w) 0)else none
 | [],_,w,_=>rfl
 | n::ns,[],w,h=>by cases h
 | n::ns,b::bs,w,h=>by
  have ih:=H3 ns bs w (by simpa using h)
  have hp:cK (n::ns) w=if(n == w)=true then 0 else cK ns w+1:=by
   unfold cK
   simp only[List.length_cons,j8]
   rfl
  have hlk:look ((n::ns).zip (b::bs)) w=if(n == w)=true then some b else look (ns.zip bs) w:=rfl
  rw[hlk,hp]
  by_cases hn:(n == w)=true
  ·rw[if_pos hn,if_pos hn,if_pos (by simp)]
   rfl
  ·rw[if_neg hn,if_neg hn,ih]
   by_cases hq:cK ns w<ns.length
   ·rw[if_pos hq,if_pos (by simp only[List.length_cons];omega)];rfl
   ·rw[if_neg hq,if_neg (by simp only[List.length_cons];omega)]
structure Nm(names:List (List UInt8))(bits:List Int)(sets:gN):Prop where
 hz:sets=names.zip bits
 hlen:names.length=bits.length
theorem Nm.look{names bits sets}(h:Nm names bits sets)(w:List UInt8):look sets w=if cK names w<names.length then some (bits.getD (cK names w) 0)else none:=by
 rw[h.hz];exact H3 names bits w h.hlen
theorem Nm.add{names bits sets}(h:Nm names bits sets)(w:List UInt8)(b:Int):Nm (names++[w]) (bits++[b]) (sets++[(w,b)]) :=
 ⟨by rw[h.hz,List.zip_append h.hlen];rfl,by simp[h.hlen]⟩
section
variable{t:List UInt8}(ht:t.length≤10000)
include ht
theorem aCF{p:Int}{ts:Toks}(h:At t p ts)(d3 d4 d5 d6 o1 o2 o3 o4 o5):OkR (fun a=>a.2.2.2) (eE t p d3 d4 d5 d6 0 0 o1 o2 o3 o4 o5) (iZ ts) (fun a b=>a.1=b.1∧a.2.1=b.2.1∧At t a.2.2.1 b.2.2):=by
 unfold eE
 have e00:((0:Int) == 0)=true:=rfl
 have n00:((0:Int) != 0)=false:=rfl
 have hh:=T4 ht h d3 d4 d5 d6 o1 o2 o3 o4 o5
 cases ts with
 | bad n =>
  rw[hh]
  exact⟨([],n,n,20,n),rfl,rfl,by show(20:Int)≠0;decide⟩
 | eof n =>
  rw[hh,show mX (.eof n)=(((0:Nat):Int),(n:Int),0,0)from rfl]
  simp only[Option.bind_some,iZ,e00,if_true]
  rw[X5 (show 0<256 by decide)]
  exact⟨([],n,n,21,n),rfl,rfl,by show(21:Int)≠0;decide⟩
 | sg c n r =>
  obtain⟨h1,h2,h3,h4,h5⟩:=h.sg
  rw[hh,show mX (.sg c n r)=((c:Int),(n:Int),0,0)from rfl]
  simp only[Option.bind_some,iZ,e00,if_true]
  rw[X5 h3,h1]
  exact⟨([],n,n,21,n),rfl,rfl,by show(21:Int)≠0;decide⟩
 | wd w n r =>
  obtain⟨h1,h2,h3,h4,h5⟩:=h.wd
  rw[hh,show mX (.wd w n r)=((((w.headD 0).toNat:Nat):Int),(n:Int),0,0)from rfl]
  simp only[Option.bind_some,iZ,e00,if_true]
  rw[aEq,h1]
  simp only[Option.bind_some,Bool.not_true,Bool.false_eq_true,if_false,n00]
  rw[aFX ht _ n (Nat.le_refl _) (by omega),←h2]
  simp only[Option.bind_some]
  rw[if_pos ⟨by omega,by omega,by omega⟩]
  refine⟨_,rfl,rfl,?_,rfl,h4⟩
  simp only[Int.toNat_natCast]
  exact tA h2
theorem u5{c:Nat}(hc:cW c=false)(hc0:c≠0){p:Int}{ts:Toks}(h:At t p ts)(d3 d4 d5 d6 o1 o2 o3 o4 o5):OkR (fun a=>a.2.2) (aQ (c:Int) t p d3 d4 d5 d6 0 0 o1 o2 o3 o4 o5) (bF c ts) (fun a b=>a.1=b.1∧At t a.2.1 b.2∧(a.1=false→a.2.1=b.2.pos)):=by
 unfold aQ
 rw[T4 ht h]
 simp only[Option.bind_some]
 have hq:=h.posn
 have n00:((0:Int) != 0)=false:=rfl
 cases ts with
 | bad n=>exact⟨(false,n,20,n),rfl,rfl,by show(20:Int)≠0;decide⟩
 | eof n =>
  simp only[mX,Toks.hd,Toks.pos,bF,n00,Option.bind_some,Bool.false_eq_true,if_false]
  rw[if_pos (by rw[bne_iff_ne];omega)]
  exact⟨_,rfl,rfl,rfl,hq,fun _=>rfl⟩
 | sg d n r =>
  obtain⟨h1,h2,h3,h4,h5⟩:=h.sg
  simp only[mX,Toks.hd,Toks.pos,bF,n00,Option.bind_some,Bool.false_eq_true,if_false]
  by_cases hd:d=c
  ·rw[if_neg (by simp[hd]),if_pos hd,aO (by omega) (by omega)]
   exact⟨_,rfl,rfl,rfl,h4,fun h=>by cases h⟩
  ·rw[if_pos (by rw[bne_iff_ne];omega),if_neg hd]
   exact⟨_,rfl,rfl,rfl,hq,fun _=>rfl⟩
 | wd w n r =>
  obtain⟨h1,h2,h3,h4,h5⟩:=h.wd
  simp only[mX,Toks.hd,Toks.pos,bF,n00,Option.bind_some,Bool.false_eq_true,if_false]
  rw[if_pos (by rw[bne_iff_ne];exact O8 hc h1)]
  exact⟨_,rfl,rfl,rfl,hq,fun _=>rfl⟩
theorem R7{c:Nat}(hc:cW c=false)(hc0:c≠0){p:Int}{ts:Toks}(h:At t p ts)(d3 d4 d5 d6 o1 o2 o3 o4 o5):OkR (fun a=>a.2) (eR (c:Int) t p d3 d4 d5 d6 0 0 o1 o2 o3 o4 o5) (lP c ts) (fun a b=>At t a.1 b):=by
 have hs:=u5 ht hc hc0 h d3 d4 d5 d6 o1 o2 o3 o4 o5
 unfold eR
 have live:bF c ts = .inl (false,ts)→lP c ts = .inr (21,(ts.pos:Int))→OkR (fun a=>a.2) ((aQ (c:Int) t p d3 d4 d5 d6 0 0 o1 o2 o3 o4 o5).bind fun((r22,r23,r24,r25):Bool×Int×Int×Int) =>
   (((if(!r22)=true then((cY (21:Int) r23 t r23 d3 d4 d5 d6 r24 r25 o1 o2 o3 o4 o5).bind fun((r32,r33):Int×Int)=>some ((r32,r33)))
   else some ((r24,r25)))).bind fun((v6,v7):Int×Int)=>some (r23,v6,v7))) (lP c ts) (fun a b=>At t a.1 b):=fun h1 h2=>by
  rw[h1]at hs
  obtain⟨⟨b,q,u,v⟩,h1,h2',h3,h4,h5⟩:=hs
  cases h2'
  cases (show b=false from h3)
  rw[h1,h2]
  exact⟨(q,21,q),rfl,by show((21,q):Er)=(21,(ts.pos:Int));rw[show q=_ from h5 rfl],by show(21:Int)≠0;decide⟩
 cases ts with
 | bad n =>
  obtain⟨⟨b,q,u,v⟩,h1,h2,h3⟩:=hs
  cases h2
  rw[h1]
  cases b
  ·exact⟨(q,20,n),rfl,rfl,by show(20:Int)≠0;decide⟩
  ·exact⟨(q,20,n),rfl,rfl,by show(20:Int)≠0;decide⟩
 | eof n=>exact live rfl rfl
 | wd w n r=>exact live rfl rfl
 | sg d n r =>
  simp only[bF,lP]at live hs ⊢
  by_cases hd:d=c
  ·rw[if_pos hd]at hs ⊢
   obtain⟨⟨b,q,u,v⟩,h1,h2',h3,h4,h5⟩:=hs
   cases h2'
   cases (show b=true from h3)
   rw[h1]
   exact⟨_,rfl,rfl,h4⟩
  ·exact live (by rw[if_neg hd]) (by rw[if_neg hd];rfl)
theorem aFG{p:Int}{ts:Toks}(h:At t p ts)(d3 d4 d5 d6 o1 o2 o3){o4 o5 sets}(hn:Nm o4 o5 sets)(hl:o4.length≤20000):OkR (fun a=>a.2.2.2) (gR t p d3 d4 d5 d6 0 0 o1 o2 o3 o4 o5) (jY sets ts) (fun a b=>a.1=b.1∧a.2.1=b.2.1∧At t a.2.2.1 b.2.2):=by
 unfold gR
 refine(aCF ht h d3 d4 d5 d6 o1 o2 o3 o4 o5).bind ?_ ?_
 ·rintro⟨w,n,q,c,x⟩ hy hc
  change c≠0 at hc
  refine⟨by simp only[jY,hy],?_⟩
  simp only[iT hc,Bool.false_eq_true,if_false,Option.bind_some]
  exact⟨_,rfl,rfl⟩
 ·rintro⟨w,n,q,c,x⟩ ⟨w',n',r⟩ hy hcd ⟨h1,h2,h3⟩
  dsimp only at h1 h2 h3
  cases hcd;subst h1;subst h2
  have hlk:=hn.look w
  simp only[jY,hy]
  simp only[aDk o4 w hl,BEq.rfl,if_true,Option.bind_some]
  by_cases hp:cK o4 w<o4.length
  ·rw[if_pos hp]at hlk ⊢
   rw[hlk,decide_eq_true (by omega)]
   exact⟨(w,n,q,23,n),rfl,rfl,by show(23:Int)≠0;decide⟩
  ·rw[if_neg hp]at hlk ⊢
   rw[hlk,show decide ((-1:Int)≥0)=false from rfl]
   exact⟨(w,n,q,0,0),rfl,rfl,rfl,rfl,h3⟩
theorem aCc{p:Int}{ts:Toks}(h:At t p ts)(d3 d4 d5 d6 o1 o2 o3){o4 o5 sets}(hn:Nm o4 o5 sets)(hl:o4.length≤20000):OkR (fun a=>a.2.2) (gQ t p d3 d4 d5 d6 0 0 o1 o2 o3 o4 o5) (mY sets ts) (fun a b=>a.1=b.1∧At t a.2.1 b.2):=by
 unfold gQ
 refine(aCF ht h d3 d4 d5 d6 o1 o2 o3 o4 o5).bind ?_ ?_
 ·rintro⟨w,n,q,c,x⟩ hy hc
  change c≠0 at hc
  refine⟨by simp only[mY,hy],?_⟩
  simp only[]
  rw[if_pos (by rw[bne_iff_ne];exact hc)]
  exact⟨_,rfl,rfl⟩
 ·rintro⟨w,n,q,c,x⟩ ⟨w',n',r⟩ hy hcd ⟨h1,h2,h3⟩
  dsimp only at h1 h2 h3
  cases hcd;subst h1;subst h2
  have hlk:=hn.look w
  simp only[mY,hy]
  simp only[aDk o4 w hl,bne_self_eq_false,Bool.false_eq_true,if_false,Option.bind_some]
  by_cases hp:cK o4 w<o4.length
  ·have:=hn.hlen
   rw[if_pos hp]at hlk ⊢
   rw[hlk,if_neg (by simp),if_pos ⟨by omega,by omega⟩,if_pos (by omega)]
   exact⟨_,rfl,rfl,rfl,h3⟩
  ·rw[if_neg hp]at hlk ⊢
   rw[hlk,if_pos (by decide)]
   exact⟨(0,q,22,n),rfl,rfl,by show(22:Int)≠0;decide⟩
theorem aEw{p:Int}{ts:Toks}(h:At t p ts)(d3 d4 d5 d6 o1 o2 o3 o4 o5)(hl:o1.length≤24):OkR (fun a=>a.2.2) (gP t p d3 d4 d5 d6 0 0 o1 o2 o3 o4 o5) (vO o1 ts) (fun a b=>a.1=b.1∧At t a.2.1 b.2):=by
 unfold gP
 refine(aCF ht h d3 d4 d5 d6 o1 o2 o3 o4 o5).bind ?_ ?_
 ·rintro⟨w,n,q,c,x⟩ hy hc
  change c≠0 at hc
  refine⟨by simp only[vO,hy],?_⟩
  simp only[]
  rw[bD (r:= .inl ()) (by
   unfold bV
   simp only[iT hc]
   split <;> rfl)]
  simp only[Option.bind_some]
  rw[G9 hc]
  exact⟨_,rfl,rfl⟩
 ·rintro⟨w,n,q,c,x⟩ ⟨w',n',r⟩ hy hcd ⟨h1,h2,h3⟩
  dsimp only at h1 h2 h3
  cases hcd;subst h1;subst h2
  simp only[vO,hy]
  have hle:cK o1 w≤o1.length:=nY _ _
  have pre:∀(k:Nat),k<o1.length→((if decide ((k:Int)<(o1.length:Int))=true then some ((0:Int) == 0)else some false):Option Bool)=some true:=fun k hk=>by
   rw[if_pos (by simp;omega)];rfl
  have hb:∀k,k<cK o1 w→bV o1 w q 0 0 (k:Int)=some (.inl ((k+1:Nat):Int)):=fun k hk=>by
   have:=qS (fun i=>o1.getD i [] == w) o1.length hk
   unfold bV
   rw[pre k (by omega)]
   simp only[Option.bind_some,if_true]
   rw[if_pos ⟨by omega,by omega⟩,if_pos (by omega),if_neg (by
    rw[Int.toNat_natCast,this];simp),aO (by omega) (by omega)]
   rfl
  by_cases hp:cK o1 w<o1.length
  ·have hat:=qL (fun i=>o1.getD i [] == w) o1.length hp
   have he:bV o1 w q 0 0 ((cK o1 w:Nat):Int)=some (.inr (.inr ((cK o1 w:Int),q,0,0))):=by
    unfold bV
    rw[pre _ hp]
    simp only[Option.bind_some,if_true]
    rw[if_pos ⟨by omega,by omega⟩,if_pos (by omega),if_pos (by
     rw[Int.toNat_natCast];exact hat)]
   have:=bH (fun k:Nat=>(k:Int)) (cK o1 w) hb he
   rw[show iter (bV o1 w q 0 0) 0=_ from this,if_pos hp]
   exact⟨_,rfl,rfl,rfl,h3⟩
  ·have hpe:cK o1 w=o1.length:=by omega
   have he:bV o1 w q 0 0 ((cK o1 w:Nat):Int)=some (.inr (.inl ())):=by
    unfold bV
    rw[if_neg (by simp;omega)]
    rfl
   have:=bH (fun k:Nat=>(k:Int)) (cK o1 w) hb he
   rw[show iter (bV o1 w q 0 0) 0=_ from this,if_neg hp]
   exact⟨(0,q,22,n),rfl,rfl,by show(22:Int)≠0;decide⟩
theorem aEs{c:Nat}(hc:cW c=false)(hc0:c≠0)(d3 d4 d5 d6 o1 o2 o3){o4 o5 sets}(hn:Nm o4 o5 sets)(hl:o4.length≤20000):∀(ts:Toks) (p b:Int),At t p ts→OkR (fun a=>a.2.2) (iter (bX (c:Int) t d3 d4 d5 d6 o1 o2 o3 o4 o5) (p,0,0,b)) (kP c sets ts b) (fun a b=>a.1=b.1∧At t a.2.1 b.2):=by
 have fault:∀(ts:Toks) (p b n e:Int),At t p ts→bF c ts = .inl (false,ts)→mY sets ts = .inr (e,n)→e≠0→∃a,iter (bX (c:Int) t d3 d4 d5 d6 o1 o2 o3 o4 o5) (p,0,0,b)=some a∧a.2.2=(e,n):=fun ts p b n e h h1 h2 he=>by
  have hs:=u5 ht hc hc0 h d3 d4 d5 d6 o1 o2 o3 o4 o5
  rw[h1]at hs
  obtain⟨⟨b1,q1,u,v⟩,k1,k2,k3,k4,k5⟩:=hs
  cases k2
  cases (show b1=false from k3)
  have hm:=aCc ht k4 d3 d4 d5 d6 o1 o2 o3 hn hl
  rw[h2]at hm
  obtain⟨⟨m1,m2,m3,m4⟩,k6,k7,k8⟩:=hm
  cases k7
  rw[b7 (s':=(m2,e,n,aK .or .u32 b m1)) (by
   unfold bX
   simp only[BEq.rfl,if_true]
   rw[k1]
   simp only[Option.bind_some,Bool.not_false,if_true]
   dsimp only at k6
   rw[k6]
   rfl),tV he]
  exact⟨_,rfl,rfl⟩
 intro ts
 induction ts with
 | bad n =>
  intro p b h
  have hs:=u5 ht hc hc0 h d3 d4 d5 d6 o1 o2 o3 o4 o5
  obtain⟨⟨b1,q1,u,v⟩,k1,k2,k3⟩:=hs
  cases k2
  have hb:iter (bX (c:Int) t d3 d4 d5 d6 o1 o2 o3 o4 o5) (p,0,0,b)=(if b1 then some (b,q1,20,(n:Int))else(iter (bX (c:Int) t d3 d4 d5 d6 o1 o2 o3 o4 o5) (q1,20,(n:Int),aK .or .u32 b 0))):=by
   cases b1 with
   | true =>
    apply bD
    unfold bX
    simp only[BEq.rfl,if_true]
    rw[k1]
    rfl
   | false =>
    rw[if_neg (by decide)]
    apply b7
    unfold bX
    simp only[BEq.rfl,if_true]
    rw[k1]
    simp only[Option.bind_some,Bool.not_false,if_true]
    rw[aCp (by decide)]
    rfl
  rw[hb]
  cases b1 with
  | true=>exact⟨_,rfl,rfl,by show(20:Int)≠0;decide⟩
  | false =>
   rw[if_neg (by decide),tV (by decide)]
   exact⟨_,rfl,rfl,by show(20:Int)≠0;decide⟩
 | eof n =>
  intro p b h
  obtain⟨a,h1,h2⟩:=fault _ p b n 21 h rfl rfl (by decide)
  exact⟨a,h1,h2,by show(21:Int)≠0;decide⟩
 | sg d n r ih =>
  intro p b h
  simp only[kP]
  by_cases hd:d=c
  ·have hs:=u5 ht hc hc0 h d3 d4 d5 d6 o1 o2 o3 o4 o5
   simp only[bF,if_pos hd]at hs
   rw[if_pos hd]
   obtain⟨⟨b1,q1,u,v⟩,k1,k2,k3,k4,k5⟩:=hs
   cases k2
   cases (show b1=true from k3)
   refine⟨(b,q1,0,0),bD ?_,rfl,rfl,k4⟩
   unfold bX
   simp only[BEq.rfl,if_true]
   rw[k1]
   rfl
  ·rw[if_neg hd]
   obtain⟨a,h1,h2⟩:=fault _ p b n 21 h (by simp only[bF,if_neg hd]) rfl (by decide)
   exact⟨a,h1,h2,by show(21:Int)≠0;decide⟩
 | wd w n r ih =>
  intro p b h
  simp only[kP]
  cases hlk:look sets w with
  | none =>
   obtain⟨a,h1,h2⟩:=fault _ p b n 22 h rfl (by simp only[mY,iZ,hlk]) (by decide)
   exact⟨a,h1,h2,by show(22:Int)≠0;decide⟩
  | some x =>
   have hs:=u5 ht hc hc0 h d3 d4 d5 d6 o1 o2 o3 o4 o5
   obtain⟨⟨b1,q1,u,v⟩,k1,k2,k3,k4,k5⟩:=hs
   cases k2
   cases (show b1=false from k3)
   have hm:=aCc ht k4 d3 d4 d5 d6 o1 o2 o3 hn hl
   simp only[mY,iZ,hlk]at hm
   obtain⟨⟨m1,m2,m3,m4⟩,k6,k7,k8,k9⟩:=hm
   cases k7
   dsimp only at k8 k9 k6
   subst k8
   rw[b7 (s':=(m2,0,0,aK .or .u32 b m1)) (by
    unfold bX
    simp only[BEq.rfl,if_true]
    rw[k1]
    simp only[Option.bind_some,Bool.not_false,if_true]
    rw[k6]
    rfl)]
   exact ih m2 _ k9
theorem aCS{c:Nat}(hc:cW c=false)(hc0:c≠0){p:Int}{ts:Toks}(h:At t p ts)(d3 d4 d5 d6 o1 o2 o3){o4 o5 sets}(hn:Nm o4 o5 sets)(hl:o4.length≤20000):OkR (fun a=>a.2.2) (gC (c:Int) t p d3 d4 d5 d6 0 0 o1 o2 o3 o4 o5) (kP c sets ts 0) (fun a b=>a.1=b.1∧At t a.2.1 b.2):=by
 have:=aEs ht hc hc0 d3 d4 d5 d6 o1 o2 o3 hn hl ts p 0 h
 unfold gC
 refine this.bind ?_ ?_
 ·rintro⟨w,n,q,c⟩ hy hc
  exact⟨hy,_,rfl,rfl⟩
 ·rintro⟨w,n,q,c⟩ ⟨x,r⟩ hy hcd ⟨h1,h2⟩
  rw[hy]
  exact⟨_,rfl,hcd,h1,h2⟩
end
end Go.Proofs.YtacpjjgochokcaaDoor.T
