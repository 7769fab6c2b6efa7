import Derived.Test.YtflahpmlcfhpcaaGreatDoorTv40gim
import Derived.Test.YtflahpmlcfhpcaaGreatDoorTvSm
import Derived.ProofKit
import Derived.OpenShut
import Derived.SizedLaws
import Derived.Carry
namespace Go.Proofs.YtflahpmlcfhpcaaGreatDoor.T
open Go Go.Tv Go.Proofs
noncomputable section
theorem Dc{L:QQ}{k:Nat}(h:∀x∈L,x.length≤k)(i:Nat):(L.getD i []).length≤k:=by
 rcases Nat.lt_or_ge i L.length with hi | hi
 ·exact h _ (bV hi _)
 ·rw[List.getD_eq_getElem?_getD,List.getElem?_eq_none hi];exact Nat.zero_le _
theorem rX{n:Int}(h:¬n=0)(i:Int):Ho (cu n i) (fun r=>r.length=1):=by
 refine aU h (aq ?_);simp[bytesOf]
theorem o7{n:Int}(h:1≤n∧n≤6)(b:Int):Ho (bZ n b) (fun r=>r.length≤12):=by
 refine ao (P:=fun r=>r.length≤12) (bI (fun(o,i)=>0≤i∧i≤n∧(o.length:Int)≤2*i) (fun(_,i)=>(n - i).toNat) ⟨Int.le_refl _,by omega,Int.le_refl _⟩ fun(o,i) ⟨f,j,p⟩=>?_) fun r e=>aq e
 refine aH (fun hi=>?_) fun _=>aq (show o.length≤12 by omega)
 rw[dec_lt]at hi;refine aU f (aU (by decide) (ao (P:=fun r=>(r.length:Int)≤2*(i+1)) (aH (fun _=>aU (by simp only[List.length_singleton];omega) (ao (rX (by omega) i) fun r e=>aU (by simp only[List.length_append,List.length_singleton];omega) (aq ?_))) fun _=>aq (show(o.length:Int)≤2*(i+1) by omega)) fun r e=>?_))
 ·simp only[List.length_append,List.length_singleton];omega
 ·rw[bW f (by omega)];exact aq ⟨⟨by(try simp only);omega,by(try simp only);omega,e⟩,by(try simp only);omega⟩
section
variable{l:QK}(hl:l.length≤1000){n:Int}(hn:1≤n∧n≤6)
include hl
theorem yS{i:Int}(h:0≤i∧i≤(l.length:Int)):Ho (bq l i) (fun r=>0≤r.2∧r.2≤(l.length:Int)):=by
 unfold bq;rw[bW h.1 (by omega),wrap_i64 (by omega) (by omega)];refine aH (fun _=>aq h) fun hi=>?_
 have e:i<(l.length:Int):=by simp only[ge_iff_le,decide_eq_true_eq]at hi;omega
 exact aU (by omega) (aq ⟨by(try simp only);omega,by(try simp only);omega⟩)
def tZ:Nat→Nat
 | 0=>20
 | d+1=>2*tZ d+3
omit hl in
theorem Dq:∀d,d≤3→20≤tZ d∧tZ d≤200
 | 0,_=>by decide
 | 1,_=>by decide
 | 2,_=>by decide
 | 3,_=>by decide
include hn
theorem DN:∀(d f:Nat),d≤3→d<f→∀ {i:Int},(0≤i∧i≤(l.length:Int))→Ho (cM f n (d:Int) l i) (fun r=>r.1.length≤tZ d∧0≤r.2∧r.2≤(l.length:Int))
 | _,0,_,h,_,_=>absurd h (by omega)
 | d,f+1,hd,z,i,hi=>by
  obtain⟨A,B⟩:=Dq d hd;simp only[cM];unfold dU;refine ao (yS hl hi) fun(c,j) e=>aH (fun _=>ao (rX (by omega) c) fun r p=>aq ⟨by(try simp only);omega,e⟩) fun q=>aU (by decide) ?_
  have u:0<d:=by simp only[decide_eq_true_eq]at q;omega
  obtain⟨d,rfl⟩:∃k,d=k+1:=⟨d - 1,by omega⟩;have v:IntKind.i64.wrap (((d+1:Nat):Int) - 1)=(d:Int):=by rw[wrap_i64 (by omega) (by omega)];omega
  have em:tZ (d+1)=2*tZ d+3:=rfl;obtain⟨C,g2⟩:=Dq d (by omega);rw[v];have p:=fun {i:Int} (hi:0≤i∧i≤(l.length:Int))=>DN d f (by omega) (by omega) hi
  refine aH (fun _=>aq ⟨by simp only[List.length_singleton];omega,e⟩) fun _=>aH (fun _=>?_) fun _=>aH (fun _=>?_) fun _=>aH (fun _=>?_) fun _=>aH (fun _=>?_) fun _=>aH (fun _=>?_) fun _=>aH (fun _=>?_) fun _=>aH (fun _=>?_) fun _=>?_
  ·exact ao (yS hl e) fun(c,j) e=>ao (o7 hn _) fun r p=>aU (by simp only[List.length_cons,List.length_nil];omega) (aU (by simp only[List.length_append,List.length_cons,List.length_nil];omega) (aq ⟨by simp only[List.length_append,List.length_cons,List.length_nil];omega,e⟩))
  ·exact ao (yS hl e) fun(c,j) e=>ao (o7 hn _) fun r p=>aU (by simp only[List.length_cons,List.length_nil];omega) (aU (by simp only[List.length_append,List.length_cons,List.length_nil];omega) (aq ⟨by simp only[List.length_append,List.length_cons,List.length_nil];omega,e⟩))
  iterate 3
   ·exact ao (p e) fun(t,j) ⟨(ht:t.length≤tZ d),e⟩=>aU (by simp only[List.length_cons,List.length_nil];omega) (aU (by simp only[List.length_append,List.length_cons,List.length_nil];omega) (aq ⟨by simp only[List.length_append,List.length_cons,List.length_nil];omega,e⟩))
  ·exact ao (p e) fun(t,j) ⟨(ht:t.length≤tZ d),e⟩=>ao (p e) fun(s,k) ⟨(x:s.length≤tZ d),hk⟩=>aU (by simp only[List.length_cons,List.length_nil];omega) (aU (by simp only[List.length_append,List.length_cons,List.length_nil];omega) (aU (by simp only[List.length_append,List.length_cons,List.length_nil];omega) (aU (by simp only[List.length_append,List.length_cons,List.length_nil];omega) (aq ⟨by simp only[List.length_append,List.length_cons,List.length_nil];omega,hk⟩))))
  ·exact ao (p e) fun(t,j) ⟨(ht:t.length≤tZ d),e⟩=>ao (p e) fun(s,k) ⟨(x:s.length≤tZ d),hk⟩=>aU (by simp only[List.length_cons,List.length_nil];omega) (aU (by simp only[List.length_append,List.length_cons,List.length_nil];omega) (aq ⟨by simp only[List.length_append,List.length_cons,List.length_nil];omega,hk⟩))
  ·exact ao (rX (by omega) c) fun r p=>aq ⟨by(try simp only);omega,e⟩
end
theorem Dr{n:Int}(hn:1≤n∧n≤6)(l:QK):Ho (eL n l) (fun r=>r.length≤200):=by
 refine aH (fun _=>aq (by decide)) fun _=>aU (by omega) ?_
 exact ao (DN (by simp only[List.length_drop,List.length_take];omega) hn 3 1000 (by omega) (by omega) ⟨Int.le_refl _,by omega⟩) fun(t,j) ⟨(e:t.length≤tZ 3),_⟩=>aq (show t.length≤200 from Nat.le_trans e (by decide))
theorem Ah{a b c:Int}{tr:QK}{l:List uC}(ha:0≤a)(hl:∀i,0≤(l.getD i (0,[],([]:QK))).1):Ho (eP a b c tr l) (fun r=>r.length≤10000):=by
 refine ao (P:=fun n=>1≤n∧n≤6) ?_ fun n hn=>ao (o7 hn _) fun t ht=>aU (by simp only[List.length_cons,List.length_nil];omega) (aU (by simp only[List.length_append,List.length_cons,List.length_nil];omega) (ao (P:=fun r=>r.length≤100) (aH (fun _=>aU (by simp only[List.length_append,List.length_cons,List.length_nil];omega) (ao (o7 hn _) fun s A=>aU (by simp only[List.length_append,List.length_cons,List.length_nil];omega) (aU (by simp only[List.length_append,List.length_cons,List.length_nil];omega) (ao (o7 hn _) fun u hu=>aU (by simp only[List.length_append,List.length_cons,List.length_nil];omega) (aU (by simp only[List.length_append,List.length_cons,List.length_nil];omega) (aq (by simp only[List.length_append,List.length_cons,List.length_nil];omega))))))) fun _=>aq (by simp only[List.length_append,List.length_cons,List.length_nil];omega)) fun v p=>ao (P:=fun r=>r.length≤200) ?_ fun v p=>ao (P:=fun r=>r.length≤10000) ?_ fun v p=>aq p))
 ·unfold bB;have:Int.tmod a 6=a % 6:=Int.tmod_eq_emod_of_nonneg ha;rw[this,wrap_i64 (x:=a % 6) (by omega) (by omega),wrap_i64 (by omega) (by omega)];exact aU (by decide) (aq ⟨by omega,by omega⟩)
 ·refine bI (fun(o,i)=>0≤i∧i≤n∧(o.length:Int)≤100+13*i) (fun(_,i)=>(n - i).toNat) ⟨Int.le_refl _,by omega,by(try simp only);omega⟩ fun(o,i) ⟨e,C,D⟩=>?_
  refine ao (P:=fun b=>b=true→i<(tr.length:Int)∧i<n) (aH (fun q=>aq fun r=>⟨of_decide_eq_true q,of_decide_eq_true r⟩) fun _=>aq fun h=>(by cases h)) fun q z=>aH (fun f=>?_) fun _=>aq (show o.length≤200 by omega)
  obtain⟨j,E⟩:=z f;refine aU (by simp only[List.length_cons,List.length_nil];omega) (ao (rX (by omega) _) fun r I=>aU (by simp only[List.length_append,List.length_cons,List.length_nil];omega) (aU (by simp only[List.length_append,List.length_cons,List.length_nil];omega) (aU ⟨e,j⟩ (ao (rX (by omega) _) fun s A=>aU (by simp only[List.length_append,List.length_cons,List.length_nil];omega) (aU (by simp only[List.length_append,List.length_cons,List.length_nil];omega) ?_)))));rw[bW e (by omega)];exact aq ⟨⟨by(try simp only);omega,by(try simp only);omega,by simp only[List.length_append,List.length_cons,List.length_nil];omega⟩,by(try simp only);omega⟩
 ·refine bI (fun(o,i)=>0≤i∧i≤10∧(o.length:Int)≤200+410*i) (fun(_,i)=>(10 - i).toNat) ⟨Int.le_refl _,by omega,by(try simp only);omega⟩ fun(o,i) ⟨e,C,D⟩=>?_
  refine ao (P:=fun b=>b=true→i<(l.length:Int)∧i<10) (aH (fun q=>aq fun r=>⟨of_decide_eq_true q,of_decide_eq_true r⟩) fun _=>aq fun h=>(by cases h)) fun q z=>aH (fun f=>?_) fun _=>aq (show o.length≤10000 by omega)
  obtain⟨j,E⟩:=z f;have J:=hl i.toNat;have B:Int.tmod (l.getD i.toNat (0,[],([]:QK))).1 3=(l.getD i.toNat (0,[],([]:QK))).1 % 3:=Int.tmod_eq_emod_of_nonneg J;have M:=Dc (L:=[([107,101,101,112,32]:QX),([109,97,121,32]:QX),([109,117,115,116,32]:QX)]) (k:=5) (by decide) (Int.tmod (l.getD i.toNat (0,[],([]:QK))).1 3).toNat;refine aU ⟨e,j⟩ (aU (by decide) (aU (by rw[B];simp only[List.length_cons,List.length_nil];omega) (aU (by rw[B];simp only[List.length_cons,List.length_nil];omega) ?_)));generalize ([([107,101,101,112,32]:QX),([109,97,121,32]:QX),([109,117,115,116,32]:QX)]:QQ).getD (Int.tmod (l.getD i.toNat (0,[],([]:QK))).1 3).toNat []=w at M ⊢;refine aU (by omega) (aU ⟨e,j⟩ (ao (Dr hn _) fun r I=>aU (by simp only[List.length_append];omega) (aU (by simp only[List.length_append,List.length_cons,List.length_nil];omega) (aU ⟨e,j⟩ (ao (Dr hn _) fun s A=>aU (by simp only[List.length_append,List.length_cons,List.length_nil];omega) (aU (by simp only[List.length_append,List.length_cons,List.length_nil];omega) ?_))))));rw[bW e (by omega)];exact aq ⟨⟨by(try simp only);omega,by(try simp only);omega,by simp only[List.length_append,List.length_cons,List.length_nil];omega⟩,by(try simp only);omega⟩
theorem sh{n:Int}(hn:¬n=0)(l:QK):Ho (cX l n) (fun _=>True):=by
 refine ao (P:=fun _=>True) ?_ fun _ _=>aq trivial
 have f:([9,10,32,45,97,98,99,233,769,8205,20013,65533,128512]:QK).length=13:=rfl;unfold fM;generalize ([9,10,32,45,97,98,99,233,769,8205,20013,65533,128512]:QK)=L at f;refine bI (fun(o,i)=>0≤i∧i≤13∧(o.length:Int)≤i) (fun(_,i)=>(13 - i).toNat) ⟨Int.le_refl _,by omega,by simp⟩ fun(o,i) ⟨j,u,v⟩=>?_
 refine ao (P:=fun b=>b=true→i<13∧i<(l.length:Int)) (aH (fun q=>aq fun r=>⟨by have:=of_decide_eq_true q;omega,of_decide_eq_true r⟩) fun _=>aq fun h=>(by cases h)) fun q p=>aH (fun e=>?_) fun _=>aq trivial
 obtain⟨x,z⟩:=p e;refine aU (by omega) (aU (by omega) (aU (by omega) (aU (by omega) (aU (by omega) (aU hn (aU (by simp only[List.length_singleton];omega) ?_))))));rw[bW j (by omega)];exact aq ⟨⟨by(try simp only);omega,by(try simp only);omega,by simp only[List.length_append,List.length_singleton];omega⟩,by(try simp only);omega⟩
theorem zC{l:QK}(hl:∀i,0≤l.getD i 0∧l.getD i 0≤255):Ho (eM l) (fun _=>True):=by
 refine ao (P:=fun _=>True) ?_ fun _ _=>aq trivial
 have p:([([97]:QX),([98]:QX),([99]:QX),([49]:QX),([50]:QX),([51]:QX),([32]:QX),([32]:QX),([97,49,98,32]:QX),([98,49,99,32]:QX),([50,99,32]:QX),([46,97,49]:QX),([99,46]:QX),([97,98,45,99,32]:QX),([99,97,45,98,45,97,32]:QX)]:QQ).length=15:=rfl;have f:∀x∈([([97]:QX),([98]:QX),([99]:QX),([49]:QX),([50]:QX),([51]:QX),([32]:QX),([32]:QX),([97,49,98,32]:QX),([98,49,99,32]:QX),([50,99,32]:QX),([46,97,49]:QX),([99,46]:QX),([97,98,45,99,32]:QX),([99,97,45,98,45,97,32]:QX)]:QQ),x.length≤7:=by decide
 unfold fA;generalize ([([97]:QX),([98]:QX),([99]:QX),([49]:QX),([50]:QX),([51]:QX),([32]:QX),([32]:QX),([97,49,98,32]:QX),([98,49,99,32]:QX),([50,99,32]:QX),([46,97,49]:QX),([99,46]:QX),([97,98,45,99,32]:QX),([99,97,45,98,45,97,32]:QX)]:QQ)=L at p f;refine bI (fun(o,i)=>0≤i∧i≤60∧(o.length:Int)≤7*i) (fun(_,i)=>(60 - i).toNat) ⟨Int.le_refl _,by omega,by simp⟩ fun(o,i) ⟨j,B,C⟩=>?_
 refine ao (P:=fun b=>b=true→i<(l.length:Int)∧i<60) (aH (fun q=>aq fun r=>⟨of_decide_eq_true q,of_decide_eq_true r⟩) fun _=>aq fun h=>(by cases h)) fun q u=>aH (fun e=>?_) fun _=>aq trivial
 obtain⟨v,D⟩:=u e;obtain⟨z,E⟩:=hl i.toNat;have A:Int.tmod (IntKind.i64.wrap (l.getD i.toNat 0)) 15=l.getD i.toNat 0 % 15:=by rw[wrap_i64 (by omega) (by omega)];exact Int.tmod_eq_emod_of_nonneg z
 have I:=Dc f (l.getD i.toNat 0 % 15).toNat;refine aU ⟨j,v⟩ (aU (by decide) ?_);rw[A];refine aU (by omega) (aU (by omega) (aU (by omega) ?_));rw[bW j (by omega)];exact aq ⟨⟨by(try simp only);omega,by(try simp only);omega,by simp only[List.length_append];omega⟩,by(try simp only);omega⟩
def Lv(a:Int)(l:List uC):Prop:=0≤a∧∀i,0≤(l.getD i (0,[],([]:QK))).1
theorem Bi{a:Int}(ha:0≤a)(b c:Int)(tr:QK)(l:List uC):Ho (bB a b c tr l) (fun n=>¬n=0):=by
 unfold bB;have:Int.tmod a 6=a % 6:=Int.tmod_eq_emod_of_nonneg ha;rw[this,wrap_i64 (x:=a % 6) (by omega) (by omega),wrap_i64 (by omega) (by omega)];exact aU (by decide) (aq (show ¬1+a % 6=0 by omega))
theorem H0{A D E:Int}{I:QK}{B:List uC}{C J L:Int}{M:QK}{f:List uC}{j p q e:QK}{u v:Int}(x:Lv A B)(z:Lv C f)(N:∀i,0≤e.getD i 0∧e.getD i 0≤255):Ho (dM A D E I B C J L M f j p q e u v) (fun _=>True):=by
 exact ao (Bi x.1 _ _ _ _) fun n hn=>ao (sh hn _) fun _ _=>ao (Bi z.1 _ _ _ _) fun n hn=>ao (sh hn _) fun _ _=>ao (sh (by decide) _) fun _ _=>ao (Ah x.1 x.2) fun _ _=>ao (Ah z.1 z.2) fun _ _=>ao (zC N) fun _ _=>aU (by decide) (aU (by decide) (aq trivial))
end
end Go.Proofs.YtflahpmlcfhpcaaGreatDoor.T
namespace Go.Tv
open Go Go.RowKit
def sL(P:Program):Nat→TypeId→Option Ty
 | 0,_=>none
 | n+1,t=>match P.underlying t with
  | some .bool=>some .bool
  | some (.int k)=>some (.int k)
  | some .string=>some .str
  | some (.float .f64)=>some .flt
  | some (.slice e)=>match sL P n e with
   | some A=>if P.cellsOf e=A.size∧0<A.size then some (.slice A)else none
   | none=>none
  | some (.struct j)=>match j.toList.mapM (fun f=>sL P n f.type)with
   | some Ts=>if iR P 0 j.toList Ts=true∧P.cellsOf t=(fY Ts).size∧Ts≠[]then some (fY Ts)else none
   | none=>none
  | _=>none
def Wf:(T:Ty)→T.den→Prop
 | .int k,n=>k.min≤(show Int from n)∧(show Int from n)≤k.max
 | .bool,_=>True
 | .str,s=>List.length (α:=UInt8) s≤maxLen
 | .flt,n=>∀m:Nat,(show QJ from n)=some m→m<18446744073709551616∧eG m=some m
 | .unit,_=>True
 | .prod a b,x=>Wf a x.1∧Wf b x.2
 | .slice A,e=>List.length (α:=A.den) e≤maxLen∧∀i (h:i<List.length (α:=A.den) e),Wf A e[i]
 | .ptr _,_=>True
 | .tree _ _,_=>True
 | .arr _ _,_=>True
 | .mapi _ _,_=>True
section
variable{H:Type}{enc':TypeId×Value→H}{P:Program}{w:World}{sp:Nat→Bool}{held:Bool}
theorem build{A:Ty}{p:Nat→A.den→Prop}:∀(n:Nat),(∀i,i<n→∃x,p i x)→∃xs:List A.den,xs.length=n∧∀i (h:i<xs.length),p i xs[i]
 | 0,_=>⟨[],rfl,fun i h=>absurd h (by simp)⟩
 | n+1,h=>by
  obtain⟨xs,q,u⟩:=build n fun i hi=>h i (by omega)
  obtain⟨x,z⟩:=h n (by omega);refine⟨xs++[x],by simp[q],fun i hi=>?_⟩;simp only[List.length_append,List.length_cons,List.length_nil]at hi;rcases Nat.lt_or_ge i xs.length with j | j
  ·rw[List.getElem_append_left j];exact u i j
  ·obtain rfl:i=n:=by omega
   have e:(xs++[x])[i]'(by simp;omega)=x:=by rw[List.getElem_append_right (by omega)];simp[q]
   rw[e];exact z
def Reads(w:World)(T:Ty)(e:QY)(x:T.den):Prop:=ah (fun a v=>w.cell? a=some v) T x (fun k v=>e[k]? = some v)∧Wf T x
theorem Em{base:Nat}{a:Addr}{n:Nat}{e:QY}(h:w.cells? base a n=some e):e.length=n∧∀k v,e[k]? = some v→w.cell? (a.add k)=some v:=by
 unfold World.cells? at h;split at h
 ·obtain⟨f,u⟩:=mT h;simp only[List.length_range]at f;refine⟨f,fun k v hk=>?_⟩;have j:k<n:=by rw[←f];exact(List.getElem?_eq_some_iff.1 hk).1
  obtain⟨y,q,x⟩:=u k k (by simp[j]);rw[hk]at q;cases q;exact x
 ·cases h
theorem Reads.cut{T:Ty}{e:QY}{off n:Nat}{x:T.den}(h:Reads w T ((e.drop off).take n) x):ah (fun a v=>w.cell? a=some v) T x (fun k v=>e[off+k]? = some v)∧Wf T x :=
 ⟨ah.mono (fun _ _ h=>h) (fun k v hk=>by
  rw[List.getElem?_take]at hk;split at hk
  ·simpa using hk
  ·cases hk) h.1,h.2⟩
theorem xH{q:QY}:∀(p:List Field) (Ts:List Ty) (off:Nat),iR P off p Ts=true→p.length=Ts.length →
  (∀(i:Nat) f T,p[i]? = some f→Ts[i]? = some T→∃x:T.den,Reads w T ((q.drop f.offset).take (P.cellsOf f.type)) x) →
  ∀e,(∃x:e.den,ah (fun a v=>w.cell? a=some v) e x (fun k v=>q[off - e.size+k]? = some v)∧Wf e x)→e.size≤off →
  ∃x:(iB e Ts).den,ah (fun a v=>w.cell? a=some v) (iB e Ts) x (fun k v=>q[off - e.size+k]? = some v)∧Wf (iB e Ts) x
 | [],[],off,_,_,_,e,u,_=>u
 | [],_::_,_,_,hl,_,_,_,_=>by simp at hl
 | _::_,[],_,_,hl,_,_,_,_=>by simp at hl
 | f::p,T::Ts,off,A,hl,B,e,⟨C,u,w0⟩,D=>by
  simp only[iR,Bool.and_eq_true,beq_iff_eq]at A;obtain⟨⟨E,N⟩,I⟩:=A;obtain⟨y,J⟩:=B 0 f T rfl rfl;have j:=J.cut;rw[E]at j;obtain⟨z,hz,L⟩:=xH p Ts (off+T.size) I (by simpa using hl) (fun i M T' a b=>B (i+1) M T' (by simpa using a) (by simpa using b)) T ⟨y,by
   rw[Nat.add_sub_cancel];exact j.1,j.2⟩ (Nat.le_add_left _ _)
  refine⟨(C,z),⟨u,?_⟩,w0,L⟩;refine ah.mono (fun _ _ h=>h) (fun k v hk=>?_) hz;rw[Nat.add_sub_cancel]at hk;show q[off - e.size+(e.size+k)]? = some v;rwa [show off - e.size+(e.size+k)=off+k by omega]
theorem Aj{u:QY}(j:List Field)(Ts:List Ty)(C:iR P 0 j Ts=true)(hl:j.length=Ts.length)(B:Ts≠[])
  (D:∀(i:Nat) f T,j[i]? = some f→Ts[i]? = some T→∃x:T.den,Reads w T ((u.drop f.offset).take (P.cellsOf f.type)) x):∃x:(fY Ts).den,Reads w (fY Ts) u x:=by
 match j,Ts with
 | [],[]=>exact absurd rfl B
 | [],_::_=>simp at hl
 | _::_,[]=>simp at hl
 | f::j,T::Ts =>
  simp only[iR,Bool.and_eq_true,beq_iff_eq]at C;obtain⟨⟨I,N⟩,J⟩:=C;obtain⟨y,L⟩:=D 0 f T rfl rfl;have e:=L.cut;rw[I]at e;obtain⟨z,hz,E⟩:=xH j Ts (0+T.size) J (by simpa using hl) (fun i M T' a b=>D (i+1) M T' (by simpa using a) (by simpa using b)) T ⟨y,by
   rw[Nat.add_sub_cancel];exact e.1,e.2⟩ (Nat.le_add_left _ _)
  have q:ah (fun a v=>w.cell? a=some v) (iB T Ts) z (fun k v=>u[k]? = some v):=ah.mono (fun _ _ h=>h) (fun k v hk=>by
   rwa [Nat.add_sub_cancel,Nat.zero_add]at hk) hz
  cases Ts with
  | nil=>exact⟨(z,()),⟨q,trivial⟩,E,trivial⟩
  | cons b r=>exact⟨z,q,E⟩
theorem AI:∀(n:Nat) (t:TypeId) (T:Ty),sL P n t=some T→∀(u:Nat) (z:QY) (r:DataW H×List MemPlace),DataW.trod enc' P w 0 sp held u t z=some r→(∃x:T.den,Reads w T z x)∧z.length=T.size
 | 0,_,_,h,_,_,_,_=>by simp[sL]at h
 | n+1,t,T,h,0,z,r,j=>by simp[DataW.trod]at j
 | n+1,t,T,h,u+1,z,r,j=>by
  have ih:=AI n;simp only[sL]at h;unfold DataW.trod at j;split at h
  ·rename_i hu;cases h;rw[hu]at j;split at j <;> first | (exfalso;simp_all;done) | skip
   rename_i b _;exact⟨⟨b,by simp[ah],trivial⟩,rfl⟩
  ·rename_i k hu;cases h;rw[hu]at j;split at j <;> first | (exfalso;simp_all;done) | skip
   rename_i J L i e;cases e;split at j
   ·rename_i hk;obtain⟨rfl,E⟩:=hk;refine⟨⟨i,by simp[ah],?_⟩,rfl⟩;simp only[Lit.wf,Bool.and_eq_true,decide_eq_true_eq]at E;exact E
   ·cases j
  ·rename_i hu;cases h;rw[hu]at j;split at j <;> first | (exfalso;simp_all;done) | skip
   rename_i s e;split at j
   ·rename_i hs;refine⟨⟨s.data.toList,by simp[ah],?_⟩,rfl⟩;show s.data.toList.length≤maxLen;have e:s.data.toList.length=s.size:=Array.length_toList;rw[e];exact hs
   ·cases j
  ·rename_i hu;cases h;rw[hu]at j;split at j <;> first | (exfalso;simp_all;done) | skip
   rename_i J L i e;cases e;split at j
   ·rename_i hk;obtain⟨rfl,E⟩:=hk;refine⟨⟨eG i,by simp[ah],fun m hm=>?_⟩,rfl⟩;have M:i<18446744073709551616:=by simpa [Lit.wf]using E
    have e:=jM hm;subst e;exact⟨M,hm⟩
   ·cases j
  ·rename_i e hu;split at h
   ·rename_i A hA;split at h
    ·rename_i N;cases h;rw[hu]at j;split at j <;> first | (exfalso;simp_all;done) | skip
     ·exact⟨⟨[],⟨none,0,0,rfl,⟨rfl,Nat.le_refl _⟩,fun i hi=>absurd hi (by simp)⟩,Nat.zero_le _,fun i hi=>absurd hi (by simp)⟩,rfl⟩
     ·rename_i e' a len cap q;cases q;simp only at j;split at j
      ·rename_i hb;simp only[Option.bind_eq_some_iff]at j;obtain⟨O,he,_⟩:=j;obtain⟨g1,g2⟩:=mT he;simp only[List.length_range]at g1;obtain⟨V,B,C⟩:=build (A:=A) (p:=fun i x=>ah (fun a v=>w.cell? a=some v) A x (fun k v=>w.cell? (a.add (i*A.size+k))=some v)∧Wf A x) len fun i hi=>by obtain⟨y,_,I⟩:=g2 i i (by simp[hi]);simp only[Option.bind_eq_some_iff]at I;obtain⟨z,X,q4⟩:=I;obtain⟨s1,s2⟩:=Em X;obtain⟨⟨x,t1,t2⟩,_⟩:=ih e A hA u z y q4;refine⟨x,ah.mono (fun _ _ h=>h) (fun k v hk=>?_) t1,t2⟩;have:=s2 k v hk;rw[add_add]at this;rw[N.1]at this;exact this
       refine⟨⟨V,⟨some a,len,cap,rfl,⟨B.symm,hb.2.1⟩,fun i hi=>⟨a,rfl,(C i hi).1⟩⟩,?_,fun i hi=>(C i hi).2⟩,rfl⟩;show V.length≤maxLen;rw[B];exact Nat.le_trans hb.2.1 hb.2.2
      ·cases j
    ·cases h
   ·cases h
  ·rename_i fs hu;split at h
   ·rename_i Ts Y;split at h
    ·rename_i hc;obtain⟨Z,a1,a2⟩:=hc;cases h;rw[hu]at j;split at j <;> first | (exfalso;simp_all;done) | skip
     rename_i a4 _ _ q;cases q;split at j
     ·rename_i D;simp only[Option.map_eq_some_iff]at j;obtain⟨V,a3,_⟩:=j;obtain⟨g1,g2⟩:=mT a3;obtain⟨J,L⟩:=mT Y;refine⟨Aj fs.toList Ts Z J.symm a2 fun i f T hf hT=>?_,by rw[D,a1]⟩;obtain⟨T',q1,I⟩:=L i f hf;rw[hT]at q1;cases q1;obtain⟨y,_,X⟩:=g2 i f hf;exact(ih f.type T I u _ y X).1
     ·cases j
    ·cases h
   ·cases h
  ·cases h
end
def Kf:List Ty→Type
 | []=>Unit
 | T::Ts=>T.den×Kf Ts
def Hw(T:Ty)(x:T.den):ag:=if T.scalar then .p false T x else .agg (flat false T x)
def JS:(Ts:List Ty)→Kf Ts→List ag
 | [],_=>[]
 | T::Ts,x=>Hw T x.1::JS Ts x.2
def Lk:(Ts:List Ty)→Kf Ts→Prop
 | [],_=>True
 | T::Ts,x=>Wf T x.1∧Lk Ts x.2
section
variable{H:Type}{en:TypeId×Value→H}{P:Program}{w:World}{sp:Nat→Bool}{held:Bool}
theorem zh{t:TypeId}{n:Nat}{T:Ty}(ht:sL P n t=some T){r:Reach}{base:Nat}{v:Value}(h:Value.okWide P w r base t v):(∃f,v = .agg f)∨T.scalar=true∧v.cells = #[v]:=by
 cases n with
 | zero=>simp[sL]at ht
 | succ n =>
  simp only[sL]at ht;unfold Value.okWide at h;split at ht
  ·rename_i hu;cases ht;rw[hu]at h;right
   simp only[Cell.okWide,hu]at h;refine⟨rfl,?_⟩;cases v <;> simp_all [Cell.ok,Value.cells]
  ·rename_i k hu;cases ht;rw[hu]at h;right
   simp only[Cell.okWide,hu]at h;refine⟨rfl,?_⟩;cases v <;> simp_all [Cell.ok,Value.cells]
  ·rename_i hu;cases ht;rw[hu]at h;right
   simp only[Cell.okWide,hu]at h;refine⟨rfl,?_⟩;cases v <;> simp_all [Cell.ok,Value.cells]
  ·rename_i hu;cases ht;rw[hu]at h;right
   simp only[Cell.okWide,hu]at h;refine⟨rfl,?_⟩;cases v <;> simp_all [Cell.ok,Value.cells]
  ·rename_i e hu;split at ht
   ·split at ht
    ·cases ht;rw[hu]at h;right
     simp only[Cell.okWide,hu]at h;refine⟨rfl,?_⟩;cases v <;> simp_all [Cell.ok,Value.cells]
    ·cases ht
   ·cases ht
  ·rename_i j hu;rw[hu]at h;obtain⟨f,e,_⟩:=h;exact .inl ⟨f,e⟩
  ·cases ht
theorem FY{t:TypeId}{n:Nat}{T:Ty}(ht:sL P n t=some T){r:Reach}{base:Nat}{f:QU}(h:Value.okWide P w r base t (.agg f)):T.scalar=false:=by
 cases n with
 | zero=>simp[sL]at ht
 | succ n =>
  simp only[sL]at ht;unfold Value.okWide at h;split at ht
  ·rename_i hu;rw[hu]at h;simp[Cell.okWide,hu,Cell.ok]at h
  ·rename_i k hu;rw[hu]at h;simp[Cell.okWide,hu,Cell.ok]at h
  ·rename_i hu;rw[hu]at h;simp[Cell.okWide,hu,Cell.ok]at h
  ·rename_i hu;rw[hu]at h;simp[Cell.okWide,hu,Cell.ok]at h
  ·rename_i e hu;rw[hu]at h;simp[Cell.okWide,hu,Cell.ok]at h
  ·split at ht
   ·rename_i Ts _;split at ht
    ·rename_i hc;cases ht;match Ts,hc.2.2 with
     | [a],_=>rfl
     | a::b::r,_=>rfl
    ·cases ht
   ·cases ht
  ·cases ht
theorem F7{t:TypeId}{n:Nat}{T:Ty}(ht:sL P n t=some T){v:Value}{d:DataW H}{p:List MemPlace}(h:DataW.Trod en P w 0 sp held t v d p){r:Reach}{base:Nat}(A:Value.okWide P w r base t v):
  ∃x:T.den,V (Fr gm (fun _=>False) w) jh (Hw T x) v∧Wf T x:=by
 obtain⟨j,B⟩:=h;obtain⟨⟨x,C,D⟩,E⟩:=AI n t T ht j _ _ B;refine⟨x,?_,D⟩;have f:ah (Fr gm (fun _=>False) w false) T x (fun k u=>v.cells.toList[k]? = some u):=ah.mono (fun a u hu=>⟨fun e=>e,fun _ e=>e,World.fx hu⟩) (fun _ _ h=>h) C;rcases zh ht A with⟨I,rfl⟩ | ⟨q,hc⟩
 ·have q:=FY ht A;unfold Hw;rw[q];simp only[Bool.false_eq_true,if_false,V];refine⟨I,rfl,by rw[eW,←E];simp[Value.cells],jB false T x _ (ah.mono (fun _ _ h=>h) (fun k u hk=>by simpa [Value.cells]using hk) f)⟩
 ·unfold Hw;rw[if_pos q];simp only[V];refine⟨q,?_⟩;rw[hc]at f;have z:ah (Fr gm (fun _=>False) w false) T x (fun k u=>(#[v]:QU).toList[k]? = some u):=f;refine ah.gD (fun k u hk hu=>?_) z;rw[Ty.fD q]at hk;obtain rfl:k=0:=by omega
  simp at hu;exact hu.symm
theorem yh{n:Nat}:∀ {ts:List TypeId} {Ts:List Ty} {e:QY} {f:List (DataW H)} {p:List MemPlace},ts.map (sL P n)=Ts.map some→DataW.TrodAll en P w 0 sp held ts e f p→∀ {r:Reach} {base:Nat},
  (∀(j:Nat) t v,ts[j]? = some t→e[j]? = some v→Value.okWide P w r base t v)→∃x:Kf Ts,iL (Fr gm (fun _=>False) w) jh (JS Ts x) e∧Lk Ts x∧f.length=ts.length
 | [],[],[],[],_,_,_,_,_,_=>⟨(),trivial,trivial,rfl⟩
 | t::ts,T::Ts,v::e,d::f,p,hT,⟨q,M,z,A,_⟩,r,base,u=>by
  simp only[List.map_cons,List.cons.injEq]at hT;obtain⟨x,B,D⟩:=F7 hT.1 z (u 0 t v rfl rfl);obtain⟨y,E,I,hl⟩:=yh hT.2 A (fun j J L a b=>u (j+1) J L (by simpa using a) (by simpa using b));exact⟨(x,y),⟨B,E⟩,⟨D,I⟩,by simp[hl]⟩
 | [],_::_,_,_,_,hT,_,_,_,_=>by simp at hT
 | _::_,[],_,_,_,hT,_,_,_,_=>by simp at hT
 | [],[],_::_,_,_,_,h,_,_,_=>h.elim
 | [],[],[],_::_,_,_,h,_,_,_=>h.elim
 | _::_,_::_,[],_,_,_,h,_,_,_=>h.elim
 | _::_,_::_,_::_,[],_,_,h,_,_,_=>h.elim
theorem xE(hl:laidOutB P=true){x:World}(hb:Below w.heap.size w x):∀ {ts:List TypeId} {j:QY} {u:List (DataW H)} {p:List MemPlace},ts.all (fun t=>P.readableRec t && decide (t<P.types.size))=true →
  DataW.TrodAll en P w 0 (fun _=>true) true ts j u p→DataW.TrodAll en P x 0 (fun b=>decide (b<w.heap.size)) true ts j u p
 | [],[],[],_,_,h=>h
 | t::ts,v::j,d::u,p,f,⟨q,A,z,B,e⟩ =>
  by
   simp only[List.all_cons,Bool.and_eq_true,decide_eq_true_eq]at f;exact⟨q,A,Below.trod hl f.1.1 f.1.2 z hb (by obtain⟨m,D⟩:=z;exact DataW.trod_lt m _ _ _ D),xE hl hb f.2 B,e⟩
 | [],_::_,_,_,_,h=>h.elim
 | [],[],_::_,_,_,h=>h.elim
 | _::_,[],_,_,_,h=>h.elim
 | _::_,_::_,[],_,_,h=>h.elim
end
end Go.Tv
