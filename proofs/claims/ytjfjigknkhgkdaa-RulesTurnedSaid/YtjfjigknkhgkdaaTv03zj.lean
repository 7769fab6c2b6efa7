/- The document's parser of rules says what the pieces say: pieces, names and sets. -/
import Derived.Test.YtjfjigknkhgkdaaTv03zi
namespace Go.Proofs.Ytjfjigknkhgkdaa.T
open Go Go.Tv Go.Proofs
def OkR{A B:Type}(cd:A→Er)(x:Option A)(y:B⊕Er)(R:A→B→Prop):Prop:=match y with
 | .inr e=>∃a,x=some a∧cd a=e∧e.1≠0
 | .inl b=>∃a,x=some a∧cd a=(0,0)∧R a b
theorem OkR.bind{A B C D:Type}{cd:A→Er}{x:Option A}{y:B⊕Er}{R:A→B→Prop}(h:OkR cd x y R){k:A→Option C}{cd':C→Er}{s:D⊕Er}{R':C→D→Prop}
  (h1:∀a,y = .inr (cd a)→(cd a).1≠0→s = .inr (cd a)∧∃c,k a=some c∧cd' c=cd a) (h2:∀a b,y = .inl b→cd a=(0,0)→R a b→OkR cd' (k a) s R'):OkR cd' (x.bind k) s R':=by
 cases y with
 | inr e =>
  obtain⟨a,h3,h4,h5⟩:=h
  subst h4
  obtain⟨h6,c,h7,h8⟩:=h1 a rfl h5
  rw[h3,h6,Option.bind_some]
  exact⟨c,h7,h8,h5⟩
 | inl b =>
  obtain⟨a,h3,h4,h5⟩:=h
  rw[h3]
  exact h2 a b rfl h4 h5
theorem X0:((List.range 256).all fun n=>decide (gN (fun i=>([40,41,91,93,94,124,42,43,63,46,59,47,61]:List UInt8).getD i 0 == n.toUInt8) 13<13) == nC n)=true:=by kernel_rfl
theorem S6(c:UInt8):decide (gN (fun i=>([40,41,91,93,94,124,42,43,63,46,59,47,61]:List UInt8).getD i 0 == c) 13<13)=nC c.toNat:=by
 have h1:=List.all_eq_true.mp X0 c.toNat (List.mem_range.mpr (tN c))
 rw[beq_iff_eq]at h1
 have e:c.toNat.toUInt8=c:=by simp
 rw[e]at h1
 exact h1
theorem v4(t:List UInt8)(a:Nat)(x y:Int):iter (eI t (a:Int) x y) 0=some (if nC (t.getD a 0).toNat then .inr (((t.getD a 0).toNat:Int),(a:Int),x,y)else .inl ()):=by
 have hs:=S6 (t.getD a 0)
 have hb:∀k,k<gN (fun i=>([40,41,91,93,94,124,42,43,63,46,59,47,61]:List UInt8).getD i 0 == t.getD a 0) 13→eI t (a:Int) x y (k:Int)=some (.inl ((k+1:Nat):Int)):=fun k hk=>by
  have h1:=lJ _ _ hk
  have h2:=j5 (fun i=>([40,41,91,93,94,124,42,43,63,46,59,47,61]:List UInt8).getD i 0 == t.getD a 0) 13
  unfold eI
  rw[if_pos (by simp;omega),if_pos ⟨by omega,by simp;omega⟩,if_neg (by
   simp only[Int.toNat_natCast];intro hh
   rw[beq_iff_eq]at hh
   have:([40,41,91,93,94,124,42,43,63,46,59,47,61]:List UInt8).getD k 0=t.getD a 0:=UInt8.toNat_inj.mp (by omega)
   rw[this]at h1
   simp at h1),aP (by omega) (by omega)]
  rfl
 by_cases hp:gN (fun i=>([40,41,91,93,94,124,42,43,63,46,59,47,61]:List UInt8).getD i 0 == t.getD a 0) 13<13
 ·have hat:=lI _ _ hp
  rw[decide_eq_true hp]at hs
  rw[if_pos hs.symm]
  refine cC (fun k:Nat=>(k:Int)) _ hb ?_
  unfold eI
  rw[show([40,41,91,93,94,124,42,43,63,46,59,47,61]:List UInt8).length=13 from rfl]
  rw[if_pos (decide_eq_true (Int.ofNat_lt.mpr hp)),if_pos ⟨Int.natCast_nonneg _,Int.ofNat_lt.mpr hp⟩,if_pos (by
   simp only[Int.toNat_natCast]
   rw[beq_iff_eq]at hat ⊢
   rw[hat])]
  simp only[Int.toNat_natCast]
 ·have h2:=j5 (fun i=>([40,41,91,93,94,124,42,43,63,46,59,47,61]:List UInt8).getD i 0 == t.getD a 0) 13
  rw[decide_eq_false hp]at hs
  rw[if_neg (by rw[←hs];simp)]
  refine cC (fun k:Nat=>(k:Int)) _ hb ?_
  unfold eI
  rw[show([40,41,91,93,94,124,42,43,63,46,59,47,61]:List UInt8).length=13 from rfl]
  rw[if_neg (fun hh=>hp (Int.ofNat_lt.mp (of_decide_eq_true hh)))]
theorem V3{t:List UInt8}(ht:t.length≤10000):∀(m a:Nat),t.length - a≤m→a≤t.length→∃b:Nat,iter (dA t) (a:Int)=some (b:Int)∧a≤b∧b≤t.length∧tk none (t.drop a) a=T t b:=by
 intro m
 have hend:∀a:Nat,a=t.length→∃b:Nat,iter (dA t) (a:Int)=some (b:Int)∧a≤b∧b≤t.length∧tk none (t.drop a) a=T t b:=fun a h=>by
  refine⟨a,?_,Nat.le_refl _,by omega,?_⟩
  ·apply aX
   unfold dA
   rw[if_neg (by simp;omega)]
   rfl
  ·rw[pL (by omega),List.drop_eq_nil_of_le (by omega)]
   rfl
 induction m with
 | zero=>intro a h1 h2;exact hend a (by omega)
 | succ m ih =>
  intro a h1 h2
  rcases Nat.lt_or_ge a t.length with h | h
  ·by_cases h10:(t.getD a 0).toNat=10
   ·refine⟨a,?_,Nat.le_refl _,h2,?_⟩
    ·apply aX
     unfold dA
     rw[if_pos (by simp;omega),if_pos ⟨by omega,by omega⟩,Int.toNat_natCast,h10]
     rfl
    ·rw[L4 h,if_pos h10,aCr h h10]
   ·obtain⟨b,k1,k2,k3,k4⟩:=ih (a+1) (by omega) (by omega)
    refine⟨b,?_,by omega,k3,?_⟩
    ·rw[bR (s':=((a+1:Nat):Int)) (by
      unfold dA
      rw[if_pos (by simp;omega),if_pos ⟨by omega,by omega⟩,Int.toNat_natCast,aP (by omega) (by omega)]
      simp only[Option.bind_some]
      rw[if_pos (by rw[bne_iff_ne];omega)]
      rfl),k1]
    ·rw[L4 h,if_neg h10,k4]
  ·exact hend a (by omega)
def W4:Toks→(Int×Int×Int)⊕(Int×Int×Int×Int)
 | .bad n=> .inl (n,20,n)
 | .eof n=> .inl (n,0,0)
 | ts=> .inr (ts.hd,ts.pos,0,0)
def jO:Toks→Int×Int×Int×Int
 | .bad n=>(0,n,20,n)
 | ts=>(ts.hd,ts.pos,0,0)
theorem X1{t:List UInt8}(ht:t.length≤10000)(d3 d4 d5 d6 o1 o2 o3 o4 o5):∀(m a:Nat),t.length - a≤m→a≤t.length→iter (b7 t d3 d4 d5 d6 o1 o2 o3 o4 o5) ((a:Int),0,0)=some (W4 (T t a)):=by
 intro m
 have hend:∀a:Nat,a=t.length→iter (b7 t d3 d4 d5 d6 o1 o2 o3 o4 o5) ((a:Int),0,0)=some (W4 (T t a)):=fun a h=>by
  rw[pL (by omega)]
  apply aX
  have c1:decide ((a:Int)<(t.length:Int))=false:=by simp;omega
  unfold b7
  simp only[c1]
  rfl
 induction m with
 | zero=>intro a h1 h2;exact hend a (by omega)
 | succ m ih =>
  intro a h1 h2
  rcases Nat.lt_or_ge a t.length with h | h
  ·have c1:decide ((a:Int)<(t.length:Int))=true:=by simp;omega
   have c2:0≤(a:Int)∧(a:Int)<(t.length:Int):=⟨by omega,by omega⟩
   have pre:∀ {X:Type} (u v:Option X),(((if((0:Int) == (0:Int))=true then some (decide ((a:Int)<(t.length:Int)))else some (false))).bind fun(v45:Bool)=>(if v45=true then u else v))=u:=fun u v=>by
    rw[c1];rfl
   by_cases h35:(t.getD a 0).toNat=35
   ·have z35:(((t.getD a 0).toNat:Int) == (35:Int))=true:=by rw[h35];rfl
    obtain⟨b,k1,k2,k3,k4⟩:=V3 ht _ (a+1) (Nat.le_refl _) (by omega)
    have k0:iter (dA t) (a:Int)=some (b:Int):=by
     rw[bR (s':=((a+1:Nat):Int)) (by
      unfold dA
      rw[if_pos (by simp;omega),if_pos ⟨by omega,by omega⟩,Int.toNat_natCast,aP (by omega) (by omega),h35]
      rfl),k1]
    rw[bR (s':=((b:Int),0,0)) (by
     unfold b7
     simp only[]
     rw[pre,if_pos c2,Int.toNat_natCast,if_pos z35,k0]
     rfl),ih b (by omega) k3,yX h h35,L4 h,if_neg (by omega),k4]
   ·have hz:¬(((t.getD a 0).toNat:Int) == (35:Int))=true:=by simp only[beq_iff_eq];omega
    have e:=sD h
    rw[if_neg h35]at e
    have hbl:(if(((t.getD a 0).toNat:Int) == (32:Int))=true then some (true)
      else(if(((t.getD a 0).toNat:Int) == (9:Int))=true then some (true)
      else(if(((t.getD a 0).toNat:Int) == (10:Int))=true then some (true)
      else some ((((t.getD a 0).toNat:Int) == (13:Int))))))=some (wZ (t.getD a 0).toNat):=by
     have:=aBl (t.getD a 0)
     unfold fQ at this
     rw[←this]
     repeat (first | rfl | (split <;> try rfl))
    by_cases hb:wZ (t.getD a 0).toNat=true
    ·rw[bR (s':=(((a+1:Nat):Int),0,0)) (by
      unfold b7
      simp only[]
      rw[pre,if_pos c2,Int.toNat_natCast,if_neg hz,hbl,hb,aP (by omega) (by omega)]
      rfl),ih (a+1) (by omega) (by omega),e,if_pos hb]
    ·rw[if_neg hb]at e
     have hb':wZ (t.getD a 0).toNat=false:=by simpa using hb
     by_cases hl:dS (t.getD a 0).toNat=true
     ·have hsn:nC (t.getD a 0).toNat=false:=by
       have h1:=List.all_eq_true.mp C9 _ (List.mem_range.mpr (tN (t.getD a 0)))
       simp only[Bool.and_eq_true]at h1
       have:=h1.1.2
       rw[hl]at this
       simpa using this
      rw[if_pos hl]at e
      apply aX
      unfold b7
      simp only[]
      rw[pre,if_pos c2,Int.toNat_natCast,if_neg hz,hbl,hb',v4,hsn]
      simp only[Option.bind_some,Bool.false_eq_true,if_false]
      rw[S4,hl,e]
      show _=some (Sum.inr (Sum.inr ((((List.headD (List.takeWhile (fun x=>dS x.toNat) (List.drop a t)) 0).toNat:Nat):Int),(a:Int),(0:Int),(0:Int))))
      rw[iK (d:=0) h,List.takeWhile_cons,if_pos hl]
      rfl
     ·rw[if_neg hl]at e
      have hl':dS (t.getD a 0).toNat=false:=by simpa using hl
      by_cases hs:nC (t.getD a 0).toNat=true
      ·rw[if_pos hs]at e
       apply aX
       unfold b7
       simp only[]
       rw[pre,if_pos c2,Int.toNat_natCast,if_neg hz,hbl,hb',v4,hs,e]
       rfl
      ·rw[if_neg hs]at e
       have hs':nC (t.getD a 0).toNat=false:=by simpa using hs
       rw[bR (s':=((a:Int),20,(a:Int))) (by
        unfold b7
        simp only[]
        rw[pre,if_pos c2,Int.toNat_natCast,if_neg hz,hbl,hb',v4,hs']
        simp only[Option.bind_some,Bool.false_eq_true,if_false]
        rw[S4,hl']
        rfl),e]
       exact aX rfl
  ·exact hend a (by omega)
theorem yO{t:List UInt8}(ht:t.length≤10000){p:Int}{ts:Toks}(h:At t p ts)(d3 d4 d5 d6 o1 o2 o3 o4 o5):eG t p d3 d4 d5 d6 0 0 o1 o2 o3 o4 o5=some (jO ts):=by
 obtain⟨h1,h2,rfl⟩:=h
 obtain⟨a,rfl⟩:=Int.eq_ofNat_of_zero_le h1
 unfold eG
 rw[X1 ht d3 d4 d5 d6 o1 o2 o3 o4 o5 _ a (Nat.le_refl _) (by omega),Int.toNat_natCast]
 cases T t a <;> rfl
/-! Behind a fault nothing is changed. -/
section
variable{c:Int}(hc:c≠0)
include hc
theorem fO:(c == (0:Int))=false:=by simpa using hc
theorem oS{t p d3 d4 d5 d6 x o1 o2 o3 o4 o5}:eG t p d3 d4 d5 d6 c x o1 o2 o3 o4 o5=some (0,p,c,x):=by
 unfold eG
 rw[aX (r:= .inl (p,c,x)) (by
  unfold b7
  simp only[fO hc]
  rfl)]
 rfl
theorem vQ{e n t p d3 d4 d5 d6 x o1 o2 o3 o4 o5}:cE e n t p d3 d4 d5 d6 c x o1 o2 o3 o4 o5=some (c,x):=by
 unfold cE
 rw[fO hc]
 rfl
theorem sX{t p d3 d4 d5 d6 x o1 o2 o3 o4 o5}:cZ t p d3 d4 d5 d6 c x o1 o2 o3 o4 o5=some ([],p,p,c,x):=by
 unfold cZ
 rw[oS hc]
 have hb:(c != (0:Int))=true:=by simpa using hc
 simp only[Option.bind_some,fO hc,Bool.false_eq_true,if_false]
 rw[if_pos hb]
theorem oX{s t p d3 d4 d5 d6 x o1 o2 o3 o4 o5}:aH s t p d3 d4 d5 d6 c x o1 o2 o3 o4 o5=some (false,p,c,x):=by
 unfold aH
 rw[oS hc]
 have hb:(c != (0:Int))=true:=by simpa using hc
 simp only[Option.bind_some]
 rw[if_pos hb]
 rfl
theorem gB{s t p d3 d4 d5 d6 x o1 o2 o3 o4 o5}:dG s t p d3 d4 d5 d6 c x o1 o2 o3 o4 o5=some (p,c,x):=by
 unfold dG
 rw[oX hc]
 simp only[Option.bind_some,Bool.not_false,if_true]
 rw[vQ hc]
 rfl
theorem G9{t p d3 d4 d5 d6 x o1 o2 o3 o4 o5}:eU t p d3 d4 d5 d6 c x o1 o2 o3 o4 o5=some (0,p,c,x):=by
 unfold eU
 rw[sX hc]
 have hb:(c != (0:Int))=true:=by simpa using hc
 simp only[Option.bind_some]
 rw[if_pos hb]
theorem I0{t p d3 d4 d5 d6 x o1 o2 o3 o4 o5}:eV t p d3 d4 d5 d6 c x o1 o2 o3 o4 o5=some ([],p,p,c,x):=by
 unfold eV
 rw[sX hc]
 simp only[Option.bind_some,fO hc,Bool.false_eq_true,if_false]
theorem nE{s t p d3 d4 d5 d6 x o1 o2 o3 o4 o5 b}:iter (bQ s t d3 d4 d5 d6 o1 o2 o3 o4 o5) (p,c,x,b)=some (b,p,c,x):=by
 apply aX
 unfold bQ
 simp only[fO hc,Option.bind_some,Bool.false_eq_true,if_false]
theorem o7{s t p d3 d4 d5 d6 x o1 o2 o3 o4 o5}:eK s t p d3 d4 d5 d6 c x o1 o2 o3 o4 o5=some (0,p,c,x):=by
 unfold eK
 rw[nE hc]
 rfl
theorem vA{t p d3 d4 d5 d6 x o1 o2 o3 o4 o5}:eW t p d3 d4 d5 d6 c x o1 o2 o3 o4 o5=some (0,p,c,x):=by
 unfold eW
 rw[sX hc]
 simp only[Option.bind_some]
 rw[aX (r:= .inl ()) (by
  unfold bN
  simp only[fO hc]
  split <;> rfl)]
 simp only[Option.bind_some]
 rw[vQ hc]
 rfl
end
end Go.Proofs.Ytjfjigknkhgkdaa.T
