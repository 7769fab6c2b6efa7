/- The document's parser of rules says what the pieces say: pieces, names and sets. -/
import Derived.Test.YtacpjjgochokcaaDoorTv06pi
namespace Go.Proofs.YtacpjjgochokcaaDoor.T
open Go Go.Tv Go.Proofs
def OkR{A B:Type}(cd:A→Er)(x:Option A)(y:B⊕Er)(R:A→B→Prop):Prop:=match y with
 | .inr e=>∃a,x=some a∧cd a=e∧e.1≠0
 | .inl b=>∃a,x=some a∧cd a=(0,0)∧R a b
theorem OkR.bind{A B C D:Type}{cd:A→Er}{x:Option A}{y:B⊕Er}{R:A→B→Prop}(h:OkR cd x y R){k:A→Option C}{cd':C→Er}{s:D⊕Er}{R':C→D→Prop}
  (h1:∀a,y = .inr (cd a)→(cd a).1≠0→s = .inr (cd a)∧∃c,k a=some c∧cd' c=cd a) (h2:∀a b,y = .inl b→cd a=(0,0)→R a b→OkR cd' (k a) s R'):OkR cd' (x.bind k) s R':=by
 cases y with
 | inr e =>
  obtain⟨a,h3,h4,h5⟩:=h
  subst h4
  obtain⟨h6,c,h7,h8⟩:=h1 a rfl h5
  rw[h3,h6,Option.bind_some]
  exact⟨c,h7,h8,h5⟩
 | inl b =>
  obtain⟨a,h3,h4,h5⟩:=h
  rw[h3]
  exact h2 a b rfl h4 h5
theorem aE8:((List.range 256).all fun n=>decide (j6 (fun i=>([40,41,91,93,94,124,42,43,63,46,59,47,61]:List UInt8).getD i 0 == n.toUInt8) 13<13) == qE n)=true:=by kernel_rfl
theorem aEz(c:UInt8):decide (j6 (fun i=>([40,41,91,93,94,124,42,43,63,46,59,47,61]:List UInt8).getD i 0 == c) 13<13)=qE c.toNat:=by
 have h1:=List.all_eq_true.mp aE8 c.toNat (List.mem_range.mpr (A5 c))
 rw[beq_iff_eq]at h1
 have e:c.toNat.toUInt8=c:=by simp
 rw[e]at h1
 exact h1
theorem M7(t:List UInt8)(a:Nat)(x y:Int):iter (gA t (a:Int) x y) 0=some (if qE (t.getD a 0).toNat then .inr (((t.getD a 0).toNat:Int),(a:Int),x,y)else .inl ()):=by
 have hs:=aEz (t.getD a 0)
 have hb:∀k,k<j6 (fun i=>([40,41,91,93,94,124,42,43,63,46,59,47,61]:List UInt8).getD i 0 == t.getD a 0) 13→gA t (a:Int) x y (k:Int)=some (.inl ((k+1:Nat):Int)):=fun k hk=>by
  have h1:=pX _ _ hk
  have h2:=nZ (fun i=>([40,41,91,93,94,124,42,43,63,46,59,47,61]:List UInt8).getD i 0 == t.getD a 0) 13
  unfold gA
  rw[if_pos (by simp;omega),if_pos ⟨by omega,by simp;omega⟩,if_neg (by
   simp only[Int.toNat_natCast];intro hh
   rw[beq_iff_eq]at hh
   have:([40,41,91,93,94,124,42,43,63,46,59,47,61]:List UInt8).getD k 0=t.getD a 0:=UInt8.toNat_inj.mp (by omega)
   rw[this]at h1
   simp at h1),aP (by omega) (by omega)]
  rfl
 by_cases hp:j6 (fun i=>([40,41,91,93,94,124,42,43,63,46,59,47,61]:List UInt8).getD i 0 == t.getD a 0) 13<13
 ·have hat:=qR _ _ hp
  rw[decide_eq_true hp]at hs
  rw[if_pos hs.symm]
  refine bI (fun k:Nat=>(k:Int)) _ hb ?_
  unfold gA
  rw[show([40,41,91,93,94,124,42,43,63,46,59,47,61]:List UInt8).length=13 from rfl]
  rw[if_pos (decide_eq_true (Int.ofNat_lt.mpr hp)),if_pos ⟨Int.natCast_nonneg _,Int.ofNat_lt.mpr hp⟩,if_pos (by
   simp only[Int.toNat_natCast]
   rw[beq_iff_eq]at hat ⊢
   rw[hat])]
  simp only[Int.toNat_natCast]
 ·have h2:=nZ (fun i=>([40,41,91,93,94,124,42,43,63,46,59,47,61]:List UInt8).getD i 0 == t.getD a 0) 13
  rw[decide_eq_false hp]at hs
  rw[if_neg (by rw[←hs];simp)]
  refine bI (fun k:Nat=>(k:Int)) _ hb ?_
  unfold gA
  rw[show([40,41,91,93,94,124,42,43,63,46,59,47,61]:List UInt8).length=13 from rfl]
  rw[if_neg (fun hh=>hp (Int.ofNat_lt.mp (of_decide_eq_true hh)))]
theorem aEW{t:List UInt8}(ht:t.length≤10000):∀(m a:Nat),t.length - a≤m→a≤t.length→∃b:Nat,iter (eI t) (a:Int)=some (b:Int)∧a≤b∧b≤t.length∧tk none (t.drop a) a=T t b:=by
 intro m
 have hend:∀a:Nat,a=t.length→∃b:Nat,iter (eI t) (a:Int)=some (b:Int)∧a≤b∧b≤t.length∧tk none (t.drop a) a=T t b:=fun a h=>by
  refine⟨a,?_,Nat.le_refl _,by omega,?_⟩
  ·apply bD
   unfold eI
   rw[if_neg (by simp;omega)]
   rfl
  ·rw[uP (by omega),List.drop_eq_nil_of_le (by omega)]
   rfl
 induction m with
 | zero=>intro a h1 h2;exact hend a (by omega)
 | succ m ih =>
  intro a h1 h2
  rcases Nat.lt_or_ge a t.length with h | h
  ·by_cases h10:(t.getD a 0).toNat=10
   ·refine⟨a,?_,Nat.le_refl _,h2,?_⟩
    ·apply bD
     unfold eI
     rw[if_pos (by simp;omega),if_pos ⟨by omega,by omega⟩,Int.toNat_natCast,h10]
     rfl
    ·rw[aCL h,if_pos h10,aK2 h h10]
   ·obtain⟨b,k1,k2,k3,k4⟩:=ih (a+1) (by omega) (by omega)
    refine⟨b,?_,by omega,k3,?_⟩
    ·rw[b9 (s':=((a+1:Nat):Int)) (by
      unfold eI
      rw[if_pos (by simp;omega),if_pos ⟨by omega,by omega⟩,Int.toNat_natCast,aP (by omega) (by omega)]
      simp only[Option.bind_some]
      rw[if_pos (by rw[bne_iff_ne];omega)]
      rfl),k1]
    ·rw[aCL h,if_neg h10,k4]
  ·exact hend a (by omega)
def aEq:Toks→(Int×Int×Int)⊕(Int×Int×Int×Int)
 | .bad n=> .inl (n,20,n)
 | .eof n=> .inl (n,0,0)
 | ts=> .inr (ts.hd,ts.pos,0,0)
def mU:Toks→Int×Int×Int×Int
 | .bad n=>(0,n,20,n)
 | ts=>(ts.hd,ts.pos,0,0)
theorem aGi{t:List UInt8}(ht:t.length≤10000)(d3 d4 d5 d6 o1 o2 o3 o4 o5):∀(m a:Nat),t.length - a≤m→a≤t.length→iter (cS t d3 d4 d5 d6 o1 o2 o3 o4 o5) ((a:Int),0,0)=some (aEq (T t a)):=by
 intro m
 have hend:∀a:Nat,a=t.length→iter (cS t d3 d4 d5 d6 o1 o2 o3 o4 o5) ((a:Int),0,0)=some (aEq (T t a)):=fun a h=>by
  rw[uP (by omega)]
  apply bD
  have c1:decide ((a:Int)<(t.length:Int))=false:=by simp;omega
  unfold cS
  simp only[c1]
  rfl
 induction m with
 | zero=>intro a h1 h2;exact hend a (by omega)
 | succ m ih =>
  intro a h1 h2
  rcases Nat.lt_or_ge a t.length with h | h
  ·have c1:decide ((a:Int)<(t.length:Int))=true:=by simp;omega
   have c2:0≤(a:Int)∧(a:Int)<(t.length:Int):=⟨by omega,by omega⟩
   have pre:∀ {X:Type} (u v:Option X),(((if((0:Int) == (0:Int))=true then some (decide ((a:Int)<(t.length:Int)))else some (false))).bind fun(v45:Bool)=>(if v45=true then u else v))=u:=fun u v=>by
    rw[c1];rfl
   by_cases h35:(t.getD a 0).toNat=35
   ·have z35:(((t.getD a 0).toNat:Int) == (35:Int))=true:=by rw[h35];rfl
    obtain⟨b,k1,k2,k3,k4⟩:=aEW ht _ (a+1) (Nat.le_refl _) (by omega)
    have k0:iter (eI t) (a:Int)=some (b:Int):=by
     rw[b9 (s':=((a+1:Nat):Int)) (by
      unfold eI
      rw[if_pos (by simp;omega),if_pos ⟨by omega,by omega⟩,Int.toNat_natCast,aP (by omega) (by omega),h35]
      rfl),k1]
    rw[b9 (s':=((b:Int),0,0)) (by
     unfold cS
     simp only[]
     rw[pre,if_pos c2,Int.toNat_natCast,if_pos z35,k0]
     rfl),ih b (by omega) k3,aAh h h35,aCL h,if_neg (by omega),k4]
   ·have hz:¬(((t.getD a 0).toNat:Int) == (35:Int))=true:=by simp only[beq_iff_eq];omega
    have e:=yD h
    rw[if_neg h35]at e
    have hbl:(if(((t.getD a 0).toNat:Int) == (32:Int))=true then some (true)
      else(if(((t.getD a 0).toNat:Int) == (9:Int))=true then some (true)
      else(if(((t.getD a 0).toNat:Int) == (10:Int))=true then some (true)
      else some ((((t.getD a 0).toNat:Int) == (13:Int))))))=some (rS (t.getD a 0).toNat):=by
     have:=aIw (t.getD a 0)
     unfold iW at this
     rw[←this]
     repeat (first | rfl | (split <;> try rfl))
    by_cases hb:rS (t.getD a 0).toNat=true
    ·rw[b9 (s':=(((a+1:Nat):Int),0,0)) (by
      unfold cS
      simp only[]
      rw[pre,if_pos c2,Int.toNat_natCast,if_neg hz,hbl,hb,aP (by omega) (by omega)]
      rfl),ih (a+1) (by omega) (by omega),e,if_pos hb]
    ·rw[if_neg hb]at e
     have hb':rS (t.getD a 0).toNat=false:=by simpa using hb
     by_cases hl:cW (t.getD a 0).toNat=true
     ·have hsn:qE (t.getD a 0).toNat=false:=by
       have h1:=List.all_eq_true.mp aAu _ (List.mem_range.mpr (A5 (t.getD a 0)))
       simp only[Bool.and_eq_true]at h1
       have:=h1.1.2
       rw[hl]at this
       simpa using this
      rw[if_pos hl]at e
      apply bD
      unfold cS
      simp only[]
      rw[pre,if_pos c2,Int.toNat_natCast,if_neg hz,hbl,hb',M7,hsn]
      simp only[Option.bind_some,Bool.false_eq_true,if_false]
      rw[aFG,hl,e]
      show _=some (Sum.inr (Sum.inr ((((List.headD (List.takeWhile (fun x=>cW x.toNat) (List.drop a t)) 0).toNat:Nat):Int),(a:Int),(0:Int),(0:Int))))
      rw[lW (d:=0) h,List.takeWhile_cons,if_pos hl]
      rfl
     ·rw[if_neg hl]at e
      have hl':cW (t.getD a 0).toNat=false:=by simpa using hl
      by_cases hs:qE (t.getD a 0).toNat=true
      ·rw[if_pos hs]at e
       apply bD
       unfold cS
       simp only[]
       rw[pre,if_pos c2,Int.toNat_natCast,if_neg hz,hbl,hb',M7,hs,e]
       rfl
      ·rw[if_neg hs]at e
       have hs':qE (t.getD a 0).toNat=false:=by simpa using hs
       rw[b9 (s':=((a:Int),20,(a:Int))) (by
        unfold cS
        simp only[]
        rw[pre,if_pos c2,Int.toNat_natCast,if_neg hz,hbl,hb',M7,hs']
        simp only[Option.bind_some,Bool.false_eq_true,if_false]
        rw[aFG,hl']
        rfl),e]
       exact bD rfl
  ·exact hend a (by omega)
theorem T3{t:List UInt8}(ht:t.length≤10000){p:Int}{ts:Toks}(h:At t p ts)(d3 d4 d5 d6 o1 o2 o3 o4 o5):gC t p d3 d4 d5 d6 0 0 o1 o2 o3 o4 o5=some (mU ts):=by
 obtain⟨h1,h2,rfl⟩:=h
 obtain⟨a,rfl⟩:=Int.eq_ofNat_of_zero_le h1
 unfold gC
 rw[aGi ht d3 d4 d5 d6 o1 o2 o3 o4 o5 _ a (Nat.le_refl _) (by omega),Int.toNat_natCast]
 cases T t a <;> rfl
/-! Behind a fault nothing is changed. -/
section
variable{c:Int}(hc:c≠0)
include hc
theorem iO:(c == (0:Int))=false:=by simpa using hc
theorem tZ{t p d3 d4 d5 d6 x o1 o2 o3 o4 o5}:gC t p d3 d4 d5 d6 c x o1 o2 o3 o4 o5=some (0,p,c,x):=by
 unfold gC
 rw[bD (r:= .inl (p,c,x)) (by
  unfold cS
  simp only[iO hc]
  rfl)]
 rfl
theorem P0{e n t p d3 d4 d5 d6 x o1 o2 o3 o4 o5}:cZ e n t p d3 d4 d5 d6 c x o1 o2 o3 o4 o5=some (c,x):=by
 unfold cZ
 rw[iO hc]
 rfl
theorem yQ{t p d3 d4 d5 d6 x o1 o2 o3 o4 o5}:eC t p d3 d4 d5 d6 c x o1 o2 o3 o4 o5=some ([],p,p,c,x):=by
 unfold eC
 rw[tZ hc]
 have hb:(c != (0:Int))=true:=by simpa using hc
 simp only[Option.bind_some,iO hc,Bool.false_eq_true,if_false]
 rw[if_pos hb]
theorem uF{s t p d3 d4 d5 d6 x o1 o2 o3 o4 o5}:aN s t p d3 d4 d5 d6 c x o1 o2 o3 o4 o5=some (false,p,c,x):=by
 unfold aN
 rw[tZ hc]
 have hb:(c != (0:Int))=true:=by simpa using hc
 simp only[Option.bind_some]
 rw[if_pos hb]
 rfl
theorem jH{s t p d3 d4 d5 d6 x o1 o2 o3 o4 o5}:eT s t p d3 d4 d5 d6 c x o1 o2 o3 o4 o5=some (p,c,x):=by
 unfold eT
 rw[uF hc]
 simp only[Option.bind_some,Bool.not_false,if_true]
 rw[P0 hc]
 rfl
theorem aCp{t p d3 d4 d5 d6 x o1 o2 o3 o4 o5}:gM t p d3 d4 d5 d6 c x o1 o2 o3 o4 o5=some (0,p,c,x):=by
 unfold gM
 rw[yQ hc]
 have hb:(c != (0:Int))=true:=by simpa using hc
 simp only[Option.bind_some]
 rw[if_pos hb]
theorem aB8{t p d3 d4 d5 d6 x o1 o2 o3 o4 o5}:gN t p d3 d4 d5 d6 c x o1 o2 o3 o4 o5=some ([],p,p,c,x):=by
 unfold gN
 rw[yQ hc]
 simp only[Option.bind_some,iO hc,Bool.false_eq_true,if_false]
theorem sR{s t p d3 d4 d5 d6 x o1 o2 o3 o4 o5 b}:iter (b7 s t d3 d4 d5 d6 o1 o2 o3 o4 o5) (p,c,x,b)=some (b,p,c,x):=by
 apply bD
 unfold b7
 simp only[iO hc,Option.bind_some,Bool.false_eq_true,if_false]
theorem t5{s t p d3 d4 d5 d6 x o1 o2 o3 o4 o5}:gB s t p d3 d4 d5 d6 c x o1 o2 o3 o4 o5=some (0,p,c,x):=by
 unfold gB
 rw[sR hc]
 rfl
theorem N1{t p d3 d4 d5 d6 x o1 o2 o3 o4 o5}:gP t p d3 d4 d5 d6 c x o1 o2 o3 o4 o5=some (0,p,c,x):=by
 unfold gP
 rw[yQ hc]
 simp only[Option.bind_some]
 rw[bD (r:= .inl ()) (by
  unfold bY
  simp only[iO hc]
  split <;> rfl)]
 simp only[Option.bind_some]
 rw[P0 hc]
 rfl
end
end Go.Proofs.YtacpjjgochokcaaDoor.T
namespace Go.Proofs.YtacpjjgochokcaaDoor.T
open Go Go.Tv Go.Proofs
theorem W3{n:Nat}(h:n<256):iD (n:Int)=some (cW n):=by
 have h1:=List.all_eq_true.mp aDt n (List.mem_range.mpr h)
 simpa using h1
theorem aCO{p1 p2 p3 p4 p5 p6 p7 p9 p10 p11 p12 p13}(names:List (List UInt8))(w:List UInt8)(hl:names.length≤20000):lU p1 p2 p3 p4 p5 p6 p7 names p9 p10 p11 p12 p13 w=some (if cJ names w<names.length then(cJ names w:Int)else -1):=by
 unfold lU
 have hle:cJ names w≤names.length:=nZ _ _
 have hb:∀k,k<cJ names w→dE names w (k:Int)=some (.inl ((k+1:Nat):Int)):=fun k hk=>by
  have:=pX (fun i=>names.getD i [] == w) names.length hk
  unfold dE
  rw[if_pos (by simp;omega),if_pos ⟨by omega,by omega⟩,if_neg (by
   rw[Int.toNat_natCast,this];simp),aP (by omega) (by omega)]
  rfl
 by_cases hp:cJ names w<names.length
 ·have hat:=qR (fun i=>names.getD i [] == w) names.length hp
  have he:dE names w ((cJ names w:Nat):Int)=some (.inr (.inr (cJ names w:Int))):=by
   unfold dE
   rw[if_pos (by simp;omega),if_pos ⟨by omega,by omega⟩,if_pos (by
    rw[Int.toNat_natCast];exact hat)]
  have:=bI (fun k:Nat=>(k:Int)) (cJ names w) hb he
  rw[show iter (dE names w) 0=_ from this,if_pos hp]
  rfl
 ·have hpe:cJ names w=names.length:=by omega
  have he:dE names w ((cJ names w:Nat):Int)=some (.inr (.inl ())):=by
   unfold dE
   rw[if_neg (by simp;omega)]
  have:=bI (fun k:Nat=>(k:Int)) (cJ names w) hb he
  rw[show iter (dE names w) 0=_ from this,if_neg hp]
  rfl
theorem L3:∀(names:List (List UInt8)) (bits:List Int) (w:List UInt8),names.length=bits.length→look (names.zip bits) w=if cJ names w<names.length then some (bits.getD (cJ names w) 0)else none
 | [],_,w,_=>rfl
 | n::ns,[],w,h=>by cases h
 | n::ns,b::bs,w,h=>by
  have ih:=L3 ns bs w (by simpa using h)
  have hp:cJ (n::ns) w=if(n == w)=true then 0 else cJ ns w+1:=by
   unfold cJ
   simp only[List.length_cons,j6]
   rfl
  have hlk:look ((n::ns).zip (b::bs)) w=if(n == w)=true then some b else look (ns.zip bs) w:=rfl
  rw[hlk,hp]
  by_cases hn:(n == w)=true
  ·rw[if_pos hn,if_pos hn,if_pos (by simp)]
   rfl
  ·rw[if_neg hn,if_neg hn,ih]
   by_cases hq:cJ ns w<ns.length
   ·rw[if_pos hq,if_pos (by simp only[List.length_cons];omega)];rfl
   ·rw[if_neg hq,if_neg (by simp only[List.length_cons];omega)]
structure Nm(names:List (List UInt8))(bits:List Int)(sets:gJ):Prop where
 hz:sets=names.zip bits
 hlen:names.length=bits.length
theorem Nm.look{names bits sets}(h:Nm names bits sets)(w:List UInt8):look sets w=if cJ names w<names.length then some (bits.getD (cJ names w) 0)else none:=by
 rw[h.hz];exact L3 names bits w h.hlen
theorem Nm.add{names bits sets}(h:Nm names bits sets)(w:List UInt8)(b:Int):Nm (names++[w]) (bits++[b]) (sets++[(w,b)]) :=
 ⟨by rw[h.hz,List.zip_append h.hlen];rfl,by simp[h.hlen]⟩
section
variable{t:List UInt8}(ht:t.length≤10000)
include ht
theorem aDv{p:Int}{ts:Toks}(h:At t p ts)(d3 d4 d5 d6 o1 o2 o3 o4 o5):OkR (fun a=>a.2.2.2) (eC t p d3 d4 d5 d6 0 0 o1 o2 o3 o4 o5) (iX ts) (fun a b=>a.1=b.1∧a.2.1=b.2.1∧At t a.2.2.1 b.2.2):=by
 unfold eC
 have e00:((0:Int) == 0)=true:=rfl
 have n00:((0:Int) != 0)=false:=rfl
 have hh:=T3 ht h d3 d4 d5 d6 o1 o2 o3 o4 o5
 cases ts with
 | bad n =>
  rw[hh]
  exact⟨([],n,n,20,n),rfl,rfl,by show(20:Int)≠0;decide⟩
 | eof n =>
  rw[hh,show mU (.eof n)=(((0:Nat):Int),(n:Int),0,0)from rfl]
  simp only[Option.bind_some,iX,e00,if_true]
  rw[W3 (show 0<256 by decide)]
  exact⟨([],n,n,21,n),rfl,rfl,by show(21:Int)≠0;decide⟩
 | sg c n r =>
  obtain⟨h1,h2,h3,h4,h5⟩:=h.sg
  rw[hh,show mU (.sg c n r)=((c:Int),(n:Int),0,0)from rfl]
  simp only[Option.bind_some,iX,e00,if_true]
  rw[W3 h3,h1]
  exact⟨([],n,n,21,n),rfl,rfl,by show(21:Int)≠0;decide⟩
 | wd w n r =>
  obtain⟨h1,h2,h3,h4,h5⟩:=h.wd
  rw[hh,show mU (.wd w n r)=((((w.headD 0).toNat:Nat):Int),(n:Int),0,0)from rfl]
  simp only[Option.bind_some,iX,e00,if_true]
  rw[aFG,h1]
  simp only[Option.bind_some,Bool.not_true,Bool.false_eq_true,if_false,n00]
  rw[aFZ ht _ n (Nat.le_refl _) (by omega),←h2]
  simp only[Option.bind_some]
  rw[if_pos ⟨by omega,by omega,by omega⟩]
  refine⟨_,rfl,rfl,?_,rfl,h4⟩
  simp only[Int.toNat_natCast]
  exact tX h2
theorem uO{c:Nat}(hc:cW c=false)(hc0:c≠0){p:Int}{ts:Toks}(h:At t p ts)(d3 d4 d5 d6 o1 o2 o3 o4 o5):OkR (fun a=>a.2.2) (aN (c:Int) t p d3 d4 d5 d6 0 0 o1 o2 o3 o4 o5) (bF c ts) (fun a b=>a.1=b.1∧At t a.2.1 b.2∧(a.1=false→a.2.1=b.2.pos)):=by
 unfold aN
 rw[T3 ht h]
 simp only[Option.bind_some]
 have hq:=h.posn
 have n00:((0:Int) != 0)=false:=rfl
 cases ts with
 | bad n=>exact⟨(false,n,20,n),rfl,rfl,by show(20:Int)≠0;decide⟩
 | eof n =>
  simp only[mU,Toks.hd,Toks.pos,bF,n00,Option.bind_some,Bool.false_eq_true,if_false]
  rw[if_pos (by rw[bne_iff_ne];omega)]
  exact⟨_,rfl,rfl,rfl,hq,fun _=>rfl⟩
 | sg d n r =>
  obtain⟨h1,h2,h3,h4,h5⟩:=h.sg
  simp only[mU,Toks.hd,Toks.pos,bF,n00,Option.bind_some,Bool.false_eq_true,if_false]
  by_cases hd:d=c
  ·rw[if_neg (by simp[hd]),if_pos hd,aP (by omega) (by omega)]
   exact⟨_,rfl,rfl,rfl,h4,fun h=>by cases h⟩
  ·rw[if_pos (by rw[bne_iff_ne];omega),if_neg hd]
   exact⟨_,rfl,rfl,rfl,hq,fun _=>rfl⟩
 | wd w n r =>
  obtain⟨h1,h2,h3,h4,h5⟩:=h.wd
  simp only[mU,Toks.hd,Toks.pos,bF,n00,Option.bind_some,Bool.false_eq_true,if_false]
  rw[if_pos (by rw[bne_iff_ne];exact N9 hc h1)]
  exact⟨_,rfl,rfl,rfl,hq,fun _=>rfl⟩
theorem U4{c:Nat}(hc:cW c=false)(hc0:c≠0){p:Int}{ts:Toks}(h:At t p ts)(d3 d4 d5 d6 o1 o2 o3 o4 o5):OkR (fun a=>a.2) (eT (c:Int) t p d3 d4 d5 d6 0 0 o1 o2 o3 o4 o5) (lL c ts) (fun a b=>At t a.1 b):=by
 have hs:=uO ht hc hc0 h d3 d4 d5 d6 o1 o2 o3 o4 o5
 unfold eT
 have live:bF c ts = .inl (false,ts)→lL c ts = .inr (21,(ts.pos:Int))→OkR (fun a=>a.2) ((aN (c:Int) t p d3 d4 d5 d6 0 0 o1 o2 o3 o4 o5).bind fun((r22,r23,r24,r25):Bool×Int×Int×Int) =>
   (((if(!r22)=true then((cZ (21:Int) r23 t r23 d3 d4 d5 d6 r24 r25 o1 o2 o3 o4 o5).bind fun((r32,r33):Int×Int)=>some ((r32,r33)))
   else some ((r24,r25)))).bind fun((v6,v7):Int×Int)=>some (r23,v6,v7))) (lL c ts) (fun a b=>At t a.1 b):=fun h1 h2=>by
  rw[h1]at hs
  obtain⟨⟨b,q,u,v⟩,h1,h2',h3,h4,h5⟩:=hs
  cases h2'
  cases (show b=false from h3)
  rw[h1,h2]
  exact⟨(q,21,q),rfl,by show((21,q):Er)=(21,(ts.pos:Int));rw[show q=_ from h5 rfl],by show(21:Int)≠0;decide⟩
 cases ts with
 | bad n =>
  obtain⟨⟨b,q,u,v⟩,h1,h2,h3⟩:=hs
  cases h2
  rw[h1]
  cases b
  ·exact⟨(q,20,n),rfl,rfl,by show(20:Int)≠0;decide⟩
  ·exact⟨(q,20,n),rfl,rfl,by show(20:Int)≠0;decide⟩
 | eof n=>exact live rfl rfl
 | wd w n r=>exact live rfl rfl
 | sg d n r =>
  simp only[bF,lL]at live hs ⊢
  by_cases hd:d=c
  ·rw[if_pos hd]at hs ⊢
   obtain⟨⟨b,q,u,v⟩,h1,h2',h3,h4,h5⟩:=hs
   cases h2'
   cases (show b=true from h3)
   rw[h1]
   exact⟨_,rfl,rfl,h4⟩
  ·exact live (by rw[if_neg hd]) (by rw[if_neg hd];rfl)
theorem aEY{p:Int}{ts:Toks}(h:At t p ts)(d3 d4 d5 d6 o1 o2 o3){o4 o5 sets}(hn:Nm o4 o5 sets)(hl:o4.length≤20000):OkR (fun a=>a.2.2.2) (gN t p d3 d4 d5 d6 0 0 o1 o2 o3 o4 o5) (jS sets ts) (fun a b=>a.1=b.1∧a.2.1=b.2.1∧At t a.2.2.1 b.2.2):=by
 unfold gN
 refine(aDv ht h d3 d4 d5 d6 o1 o2 o3 o4 o5).bind ?_ ?_
 ·rintro⟨w,n,q,c,x⟩ hy hc
  change c≠0 at hc
  refine⟨by simp only[jS,hy],?_⟩
  simp only[iO hc,Bool.false_eq_true,if_false,Option.bind_some]
  exact⟨_,rfl,rfl⟩
 ·rintro⟨w,n,q,c,x⟩ ⟨w',n',r⟩ hy hcd ⟨h1,h2,h3⟩
  dsimp only at h1 h2 h3
  cases hcd;subst h1;subst h2
  have hlk:=hn.look w
  simp only[jS,hy]
  simp only[aCO o4 w hl,BEq.rfl,if_true,Option.bind_some]
  by_cases hp:cJ o4 w<o4.length
  ·rw[if_pos hp]at hlk ⊢
   rw[hlk,decide_eq_true (by omega)]
   exact⟨(w,n,q,23,n),rfl,rfl,by show(23:Int)≠0;decide⟩
  ·rw[if_neg hp]at hlk ⊢
   rw[hlk,show decide ((-1:Int)≥0)=false from rfl]
   exact⟨(w,n,q,0,0),rfl,rfl,rfl,rfl,h3⟩
theorem aBQ{p:Int}{ts:Toks}(h:At t p ts)(d3 d4 d5 d6 o1 o2 o3){o4 o5 sets}(hn:Nm o4 o5 sets)(hl:o4.length≤20000):OkR (fun a=>a.2.2) (gM t p d3 d4 d5 d6 0 0 o1 o2 o3 o4 o5) (mX sets ts) (fun a b=>a.1=b.1∧At t a.2.1 b.2):=by
 unfold gM
 refine(aDv ht h d3 d4 d5 d6 o1 o2 o3 o4 o5).bind ?_ ?_
 ·rintro⟨w,n,q,c,x⟩ hy hc
  change c≠0 at hc
  refine⟨by simp only[mX,hy],?_⟩
  simp only[]
  rw[if_pos (by rw[bne_iff_ne];exact hc)]
  exact⟨_,rfl,rfl⟩
 ·rintro⟨w,n,q,c,x⟩ ⟨w',n',r⟩ hy hcd ⟨h1,h2,h3⟩
  dsimp only at h1 h2 h3
  cases hcd;subst h1;subst h2
  have hlk:=hn.look w
  simp only[mX,hy]
  simp only[aCO o4 w hl,bne_self_eq_false,Bool.false_eq_true,if_false,Option.bind_some]
  by_cases hp:cJ o4 w<o4.length
  ·have:=hn.hlen
   rw[if_pos hp]at hlk ⊢
   rw[hlk,if_neg (by simp),if_pos ⟨by omega,by omega⟩,if_pos (by omega)]
   exact⟨_,rfl,rfl,rfl,h3⟩
  ·rw[if_neg hp]at hlk ⊢
   rw[hlk,if_pos (by decide)]
   exact⟨(0,q,22,n),rfl,rfl,by show(22:Int)≠0;decide⟩
theorem aFJ{p:Int}{ts:Toks}(h:At t p ts)(d3 d4 d5 d6 o1 o2 o3 o4 o5)(hl:o1.length≤24):OkR (fun a=>a.2.2) (gP t p d3 d4 d5 d6 0 0 o1 o2 o3 o4 o5) (vS o1 ts) (fun a b=>a.1=b.1∧At t a.2.1 b.2):=by
 unfold gP
 refine(aDv ht h d3 d4 d5 d6 o1 o2 o3 o4 o5).bind ?_ ?_
 ·rintro⟨w,n,q,c,x⟩ hy hc
  change c≠0 at hc
  refine⟨by simp only[vS,hy],?_⟩
  simp only[]
  rw[bD (r:= .inl ()) (by
   unfold bY
   simp only[iO hc]
   split <;> rfl)]
  simp only[Option.bind_some]
  rw[P0 hc]
  exact⟨_,rfl,rfl⟩
 ·rintro⟨w,n,q,c,x⟩ ⟨w',n',r⟩ hy hcd ⟨h1,h2,h3⟩
  dsimp only at h1 h2 h3
  cases hcd;subst h1;subst h2
  simp only[vS,hy]
  have hle:cJ o1 w≤o1.length:=nZ _ _
  have pre:∀(k:Nat),k<o1.length→((if decide ((k:Int)<(o1.length:Int))=true then some ((0:Int) == 0)else some false):Option Bool)=some true:=fun k hk=>by
   rw[if_pos (by simp;omega)];rfl
  have hb:∀k,k<cJ o1 w→bY o1 w q 0 0 (k:Int)=some (.inl ((k+1:Nat):Int)):=fun k hk=>by
   have:=pX (fun i=>o1.getD i [] == w) o1.length hk
   unfold bY
   rw[pre k (by omega)]
   simp only[Option.bind_some,if_true]
   rw[if_pos ⟨by omega,by omega⟩,if_pos (by omega),if_neg (by
    rw[Int.toNat_natCast,this];simp),aP (by omega) (by omega)]
   rfl
  by_cases hp:cJ o1 w<o1.length
  ·have hat:=qR (fun i=>o1.getD i [] == w) o1.length hp
   have he:bY o1 w q 0 0 ((cJ o1 w:Nat):Int)=some (.inr (.inr ((cJ o1 w:Int),q,0,0))):=by
    unfold bY
    rw[pre _ hp]
    simp only[Option.bind_some,if_true]
    rw[if_pos ⟨by omega,by omega⟩,if_pos (by omega),if_pos (by
     rw[Int.toNat_natCast];exact hat)]
   have:=bI (fun k:Nat=>(k:Int)) (cJ o1 w) hb he
   rw[show iter (bY o1 w q 0 0) 0=_ from this,if_pos hp]
   exact⟨_,rfl,rfl,rfl,h3⟩
  ·have hpe:cJ o1 w=o1.length:=by omega
   have he:bY o1 w q 0 0 ((cJ o1 w:Nat):Int)=some (.inr (.inl ())):=by
    unfold bY
    rw[if_neg (by simp;omega)]
    rfl
   have:=bI (fun k:Nat=>(k:Int)) (cJ o1 w) hb he
   rw[show iter (bY o1 w q 0 0) 0=_ from this,if_neg hp]
   exact⟨(0,q,22,n),rfl,rfl,by show(22:Int)≠0;decide⟩
theorem aGh{c:Nat}(hc:cW c=false)(hc0:c≠0)(d3 d4 d5 d6 o1 o2 o3){o4 o5 sets}(hn:Nm o4 o5 sets)(hl:o4.length≤20000):∀(ts:Toks) (p b:Int),At t p ts→OkR (fun a=>a.2.2) (iter (b7 (c:Int) t d3 d4 d5 d6 o1 o2 o3 o4 o5) (p,0,0,b)) (kA c sets ts b) (fun a b=>a.1=b.1∧At t a.2.1 b.2):=by
 have fault:∀(ts:Toks) (p b n e:Int),At t p ts→bF c ts = .inl (false,ts)→mX sets ts = .inr (e,n)→e≠0→∃a,iter (b7 (c:Int) t d3 d4 d5 d6 o1 o2 o3 o4 o5) (p,0,0,b)=some a∧a.2.2=(e,n):=fun ts p b n e h h1 h2 he=>by
  have hs:=uO ht hc hc0 h d3 d4 d5 d6 o1 o2 o3 o4 o5
  rw[h1]at hs
  obtain⟨⟨b1,q1,u,v⟩,k1,k2,k3,k4,k5⟩:=hs
  cases k2
  cases (show b1=false from k3)
  have hm:=aBQ ht k4 d3 d4 d5 d6 o1 o2 o3 hn hl
  rw[h2]at hm
  obtain⟨⟨m1,m2,m3,m4⟩,k6,k7,k8⟩:=hm
  cases k7
  rw[b9 (s':=(m2,e,n,aJ .or .u32 b m1)) (by
   unfold b7
   simp only[BEq.rfl,if_true]
   rw[k1]
   simp only[Option.bind_some,Bool.not_false,if_true]
   dsimp only at k6
   rw[k6]
   rfl),sR he]
  exact⟨_,rfl,rfl⟩
 intro ts
 induction ts with
 | bad n =>
  intro p b h
  have hs:=uO ht hc hc0 h d3 d4 d5 d6 o1 o2 o3 o4 o5
  obtain⟨⟨b1,q1,u,v⟩,k1,k2,k3⟩:=hs
  cases k2
  have hb:iter (b7 (c:Int) t d3 d4 d5 d6 o1 o2 o3 o4 o5) (p,0,0,b)=(if b1 then some (b,q1,20,(n:Int))else(iter (b7 (c:Int) t d3 d4 d5 d6 o1 o2 o3 o4 o5) (q1,20,(n:Int),aJ .or .u32 b 0))):=by
   cases b1 with
   | true =>
    apply bD
    unfold b7
    simp only[BEq.rfl,if_true]
    rw[k1]
    rfl
   | false =>
    rw[if_neg (by decide)]
    apply b9
    unfold b7
    simp only[BEq.rfl,if_true]
    rw[k1]
    simp only[Option.bind_some,Bool.not_false,if_true]
    rw[aCp (by decide)]
    rfl
  rw[hb]
  cases b1 with
  | true=>exact⟨_,rfl,rfl,by show(20:Int)≠0;decide⟩
  | false =>
   rw[if_neg (by decide),sR (by decide)]
   exact⟨_,rfl,rfl,by show(20:Int)≠0;decide⟩
 | eof n =>
  intro p b h
  obtain⟨a,h1,h2⟩:=fault _ p b n 21 h rfl rfl (by decide)
  exact⟨a,h1,h2,by show(21:Int)≠0;decide⟩
 | sg d n r ih =>
  intro p b h
  simp only[kA]
  by_cases hd:d=c
  ·have hs:=uO ht hc hc0 h d3 d4 d5 d6 o1 o2 o3 o4 o5
   simp only[bF,if_pos hd]at hs
   rw[if_pos hd]
   obtain⟨⟨b1,q1,u,v⟩,k1,k2,k3,k4,k5⟩:=hs
   cases k2
   cases (show b1=true from k3)
   refine⟨(b,q1,0,0),bD ?_,rfl,rfl,k4⟩
   unfold b7
   simp only[BEq.rfl,if_true]
   rw[k1]
   rfl
  ·rw[if_neg hd]
   obtain⟨a,h1,h2⟩:=fault _ p b n 21 h (by simp only[bF,if_neg hd]) rfl (by decide)
   exact⟨a,h1,h2,by show(21:Int)≠0;decide⟩
 | wd w n r ih =>
  intro p b h
  simp only[kA]
  cases hlk:look sets w with
  | none =>
   obtain⟨a,h1,h2⟩:=fault _ p b n 22 h rfl (by simp only[mX,iX,hlk]) (by decide)
   exact⟨a,h1,h2,by show(22:Int)≠0;decide⟩
  | some x =>
   have hs:=uO ht hc hc0 h d3 d4 d5 d6 o1 o2 o3 o4 o5
   obtain⟨⟨b1,q1,u,v⟩,k1,k2,k3,k4,k5⟩:=hs
   cases k2
   cases (show b1=false from k3)
   have hm:=aBQ ht k4 d3 d4 d5 d6 o1 o2 o3 hn hl
   simp only[mX,iX,hlk]at hm
   obtain⟨⟨m1,m2,m3,m4⟩,k6,k7,k8,k9⟩:=hm
   cases k7
   dsimp only at k8 k9 k6
   subst k8
   rw[b9 (s':=(m2,0,0,aJ .or .u32 b m1)) (by
    unfold b7
    simp only[BEq.rfl,if_true]
    rw[k1]
    simp only[Option.bind_some,Bool.not_false,if_true]
    rw[k6]
    rfl)]
   exact ih m2 _ k9
theorem aDn{c:Nat}(hc:cW c=false)(hc0:c≠0){p:Int}{ts:Toks}(h:At t p ts)(d3 d4 d5 d6 o1 o2 o3){o4 o5 sets}(hn:Nm o4 o5 sets)(hl:o4.length≤20000):OkR (fun a=>a.2.2) (gB (c:Int) t p d3 d4 d5 d6 0 0 o1 o2 o3 o4 o5) (kA c sets ts 0) (fun a b=>a.1=b.1∧At t a.2.1 b.2):=by
 have:=aGh ht hc hc0 d3 d4 d5 d6 o1 o2 o3 hn hl ts p 0 h
 unfold gB
 refine this.bind ?_ ?_
 ·rintro⟨w,n,q,c⟩ hy hc
  exact⟨hy,_,rfl,rfl⟩
 ·rintro⟨w,n,q,c⟩ ⟨x,r⟩ hy hcd ⟨h1,h2⟩
  rw[hy]
  exact⟨_,rfl,hcd,h1,h2⟩
end
end Go.Proofs.YtacpjjgochokcaaDoor.T
