import Derived.Test.YtobbjfkfmdiklaaGreatDoorTvT50a0
import Derived.Test.YtobbjfkfmdiklaaGreatDoorTvT50aa
import Derived.Test.YtobbjfkfmdiklaaGreatDoorTvT50aa3
import Derived.Test.YtobbjfkfmdiklaaGreatDoorTv50gfm
namespace Go.Proofs.YtobbjfkfmdiklaaGreatDoor.T
open Go Go.Tv Go.Proofs
noncomputable section
set_option maxRecDepth 100000
set_option maxHeartbeats 4000000
end
end Go.Proofs.YtobbjfkfmdiklaaGreatDoor.T
namespace Go.Proofs.YtobbjfkfmdiklaaGreatDoor.T
open Go Go.Tv Go.Proofs
noncomputable section
abbrev My:=Int×(Int×Int)×Int×Qk×Bool
abbrev dst(c:Wy)(x:QK)(p:Qk×QK)(f:Kn)(out:List My)(k:Int):Qk×Bool×Int×Int×Int×Int×Int×QJ×QK×Qk×QK×(Option ((Qk×QK)×(Qk×QZ)))×Kn×(List My)×Int :=
 ((LF p.1 p.2 c).1,(LF p.1 p.2 c).2,c.1,c.2.1,c.2.2.1,c.2.2.2.1,c.2.2.2.2.1,c.2.2.2.2.2,x,p.1,p.2,some (JK p.1 p.2 c),f,out,k)
theorem D4{L:QQ}{k:Nat}(h:∀x∈L,x.length≤k)(i:Nat):(L.getD i []).length≤k:=by
 rcases Nat.lt_or_ge i L.length with hi | hi
 ·exact h _ (bU hi _)
 ·rw[List.getD_eq_getElem?_getD,List.getElem?_eq_none hi];exact Nat.zero_le _
theorem qP{n:Int}(h:¬n=0)(i:Int):Ho (cm n i) (fun r=>r.length=1):=by
 refine aU h (aq ?_);simp[bytesOf]
theorem oX{n:Int}(h:1≤n∧n≤6)(b:Int):Ho (ca n b) (fun r=>r.length≤12):=by
 refine ao (P:=fun r=>r.length≤12) (bH (fun(o,i)=>0≤i∧i≤n∧(o.length:Int)≤2*i) (fun(_,i)=>(n - i).toNat) ⟨Int.le_refl _,by omega,Int.le_refl _⟩ fun(o,i) ⟨h1,h2,j⟩=>?_) fun r f=>aq f
 refine aH (fun hi=>?_) fun _=>aq (show o.length≤12 by omega)
 rw[dec_lt]at hi;refine aU h1 (aU (by decide) (ao (P:=fun r=>(r.length:Int)≤2*(i+1)) (aH (fun _=>aU (by simp only[List.length_singleton];omega) (ao (qP (by omega) i) fun r f=>aU (by simp only[List.length_append,List.length_singleton];omega) (aq ?_))) fun _=>aq (show(o.length:Int)≤2*(i+1) by omega)) fun r f=>?_))
 ·simp only[List.length_append,List.length_singleton];omega
 ·rw[bS h1 (by omega)];exact aq ⟨⟨by(try simp only);omega,by(try simp only);omega,f⟩,by(try simp only);omega⟩
section
variable{l:QK}(hl:l.length≤1000){n:Int}(hn:1≤n∧n≤6)
include hl
theorem zJ{i:Int}(h:0≤i∧i≤(l.length:Int)):Ho (bp l i) (fun r=>0≤r.2∧r.2≤(l.length:Int)):=by
 unfold bp;rw[bS h.1 (by omega),wrap_i64 (by omega) (by omega)];refine aH (fun _=>aq h) fun hi=>?_
 have f:i<(l.length:Int):=by simp only[ge_iff_le,decide_eq_true_eq]at hi;omega
 exact aU (by omega) (aq ⟨by(try simp only);omega,by(try simp only);omega⟩)
def um:Nat→Nat
 | 0=>20
 | d+1=>2*um d+3
omit hl in
theorem DZ:∀d,d≤3→20≤um d∧um d≤200
 | 0,_=>by decide
 | 1,_=>by decide
 | 2,_=>by decide
 | 3,_=>by decide
include hn
theorem Dk:∀(d f:Nat),d≤3→d<f→∀ {i:Int},(0≤i∧i≤(l.length:Int))→Ho (cD f n (d:Int) l i) (fun r=>r.1.length≤um d∧0≤r.2∧r.2≤(l.length:Int))
 | _,0,_,h,_,_=>absurd h (by omega)
 | d,f+1,hd,A,i,hi=>by
  obtain⟨B,C⟩:=DZ d hd;simp only[cD];unfold dI;refine ao (zJ hl hi) fun(c,j) p=>aH (fun _=>ao (qP (by omega) c) fun r q=>aq ⟨by(try simp only);omega,p⟩) fun u=>aU (by decide) ?_
  have v:0<d:=by simp only[decide_eq_true_eq]at u;omega
  obtain⟨d,rfl⟩:∃k,d=k+1:=⟨d - 1,by omega⟩;have x:IntKind.i64.wrap (((d+1:Nat):Int) - 1)=(d:Int):=by rw[wrap_i64 (by omega) (by omega)];omega
  have em:um (d+1)=2*um d+3:=rfl;obtain⟨D,g2⟩:=DZ d (by omega);rw[x];have q:=fun {i:Int} (hi:0≤i∧i≤(l.length:Int))=>Dk d f (by omega) (by omega) hi
  refine aH (fun _=>aq ⟨by simp only[List.length_singleton];omega,p⟩) fun _=>aH (fun _=>?_) fun _=>aH (fun _=>?_) fun _=>aH (fun _=>?_) fun _=>aH (fun _=>?_) fun _=>aH (fun _=>?_) fun _=>aH (fun _=>?_) fun _=>aH (fun _=>?_) fun _=>?_
  ·exact ao (zJ hl p) fun(c,j) p=>ao (oX hn _) fun r q=>aU (by simp only[List.length_cons,List.length_nil];omega) (aU (by simp only[List.length_append,List.length_cons,List.length_nil];omega) (aq ⟨by simp only[List.length_append,List.length_cons,List.length_nil];omega,p⟩))
  ·exact ao (zJ hl p) fun(c,j) p=>ao (oX hn _) fun r q=>aU (by simp only[List.length_cons,List.length_nil];omega) (aU (by simp only[List.length_append,List.length_cons,List.length_nil];omega) (aq ⟨by simp only[List.length_append,List.length_cons,List.length_nil];omega,p⟩))
  iterate 3
   ·exact ao (q p) fun(t,j) ⟨(ht:t.length≤um d),p⟩=>aU (by simp only[List.length_cons,List.length_nil];omega) (aU (by simp only[List.length_append,List.length_cons,List.length_nil];omega) (aq ⟨by simp only[List.length_append,List.length_cons,List.length_nil];omega,p⟩))
  ·exact ao (q p) fun(t,j) ⟨(ht:t.length≤um d),p⟩=>ao (q p) fun(s,k) ⟨(z:s.length≤um d),hk⟩=>aU (by simp only[List.length_cons,List.length_nil];omega) (aU (by simp only[List.length_append,List.length_cons,List.length_nil];omega) (aU (by simp only[List.length_append,List.length_cons,List.length_nil];omega) (aU (by simp only[List.length_append,List.length_cons,List.length_nil];omega) (aq ⟨by simp only[List.length_append,List.length_cons,List.length_nil];omega,hk⟩))))
  ·exact ao (q p) fun(t,j) ⟨(ht:t.length≤um d),p⟩=>ao (q p) fun(s,k) ⟨(z:s.length≤um d),hk⟩=>aU (by simp only[List.length_cons,List.length_nil];omega) (aU (by simp only[List.length_append,List.length_cons,List.length_nil];omega) (aq ⟨by simp only[List.length_append,List.length_cons,List.length_nil];omega,hk⟩))
  ·exact ao (qP (by omega) c) fun r q=>aq ⟨by(try simp only);omega,p⟩
end
theorem DN{n:Int}(hn:1≤n∧n≤6)(l:QK):Ho (eI n l) (fun r=>r.length≤200):=by
 refine aH (fun _=>aq (by decide)) fun _=>aU (by omega) ?_
 exact ao (Dk (by simp only[List.length_drop,List.length_take];omega) hn 3 1000 (by omega) (by omega) ⟨Int.le_refl _,by omega⟩) fun(t,j) ⟨(h1:t.length≤um 3),_⟩=>aq (show t.length≤200 from Nat.le_trans h1 (by decide))
theorem BA{a b c:Int}{tr:QK}{l:List wO}(ha:0≤a)(hl:∀i,0≤(l.getD i (0,[],([]:QK))).1):Ho (eQ a b c tr l) (fun r=>r.length≤10000):=by
 refine ao (P:=fun n=>1≤n∧n≤6) ?_ fun n hn=>ao (oX hn _) fun t ht=>aU (by simp only[List.length_cons,List.length_nil];omega) (aU (by simp only[List.length_append,List.length_cons,List.length_nil];omega) (ao (P:=fun r=>r.length≤100) (aH (fun _=>aU (by simp only[List.length_append,List.length_cons,List.length_nil];omega) (ao (oX hn _) fun s A=>aU (by simp only[List.length_append,List.length_cons,List.length_nil];omega) (aU (by simp only[List.length_append,List.length_cons,List.length_nil];omega) (ao (oX hn _) fun u hu=>aU (by simp only[List.length_append,List.length_cons,List.length_nil];omega) (aU (by simp only[List.length_append,List.length_cons,List.length_nil];omega) (aq (by simp only[List.length_append,List.length_cons,List.length_nil];omega))))))) fun _=>aq (by simp only[List.length_append,List.length_cons,List.length_nil];omega)) fun v p=>ao (P:=fun r=>r.length≤200) ?_ fun v p=>ao (P:=fun r=>r.length≤10000) ?_ fun v p=>aq p))
 ·unfold bB;have:Int.tmod a 6=a % 6:=Int.tmod_eq_emod_of_nonneg ha;rw[this,wrap_i64 (x:=a % 6) (by omega) (by omega),wrap_i64 (by omega) (by omega)];exact aU (by decide) (aq ⟨by omega,by omega⟩)
 ·refine bH (fun(o,i)=>0≤i∧i≤n∧(o.length:Int)≤100+13*i) (fun(_,i)=>(n - i).toNat) ⟨Int.le_refl _,by omega,by(try simp only);omega⟩ fun(o,i) ⟨h1,h2,C⟩=>?_
  refine ao (P:=fun b=>b=true→i<(tr.length:Int)∧i<n) (aH (fun q=>aq fun r=>⟨of_decide_eq_true q,of_decide_eq_true r⟩) fun _=>aq fun h=>(by cases h)) fun q z=>aH (fun f=>?_) fun _=>aq (show o.length≤200 by omega)
  obtain⟨j,D⟩:=z f;refine aU (by simp only[List.length_cons,List.length_nil];omega) (ao (qP (by omega) _) fun r E=>aU (by simp only[List.length_append,List.length_cons,List.length_nil];omega) (aU (by simp only[List.length_append,List.length_cons,List.length_nil];omega) (aU ⟨h1,j⟩ (ao (qP (by omega) _) fun s A=>aU (by simp only[List.length_append,List.length_cons,List.length_nil];omega) (aU (by simp only[List.length_append,List.length_cons,List.length_nil];omega) ?_)))));rw[bS h1 (by omega)];exact aq ⟨⟨by(try simp only);omega,by(try simp only);omega,by simp only[List.length_append,List.length_cons,List.length_nil];omega⟩,by(try simp only);omega⟩
 ·refine bH (fun(o,i)=>0≤i∧i≤10∧(o.length:Int)≤200+410*i) (fun(_,i)=>(10 - i).toNat) ⟨Int.le_refl _,by omega,by(try simp only);omega⟩ fun(o,i) ⟨h1,h2,C⟩=>?_
  refine ao (P:=fun b=>b=true→i<(l.length:Int)∧i<10) (aH (fun q=>aq fun r=>⟨of_decide_eq_true q,of_decide_eq_true r⟩) fun _=>aq fun h=>(by cases h)) fun q z=>aH (fun f=>?_) fun _=>aq (show o.length≤10000 by omega)
  obtain⟨j,D⟩:=z f;have I:=hl i.toNat;have B:Int.tmod (l.getD i.toNat (0,[],([]:QK))).1 3=(l.getD i.toNat (0,[],([]:QK))).1 % 3:=Int.tmod_eq_emod_of_nonneg I;have J:=D4 (L:=[([107,101,101,112,32]:QX),([109,97,121,32]:QX),([109,117,115,116,32]:QX)]) (k:=5) (by decide) (Int.tmod (l.getD i.toNat (0,[],([]:QK))).1 3).toNat;refine aU ⟨h1,j⟩ (aU (by decide) (aU (by rw[B];simp only[List.length_cons,List.length_nil];omega) (aU (by rw[B];simp only[List.length_cons,List.length_nil];omega) ?_)));generalize ([([107,101,101,112,32]:QX),([109,97,121,32]:QX),([109,117,115,116,32]:QX)]:QQ).getD (Int.tmod (l.getD i.toNat (0,[],([]:QK))).1 3).toNat []=w at J ⊢;refine aU (by omega) (aU ⟨h1,j⟩ (ao (DN hn _) fun r E=>aU (by simp only[List.length_append];omega) (aU (by simp only[List.length_append,List.length_cons,List.length_nil];omega) (aU ⟨h1,j⟩ (ao (DN hn _) fun s A=>aU (by simp only[List.length_append,List.length_cons,List.length_nil];omega) (aU (by simp only[List.length_append,List.length_cons,List.length_nil];omega) ?_))))));rw[bS h1 (by omega)];exact aq ⟨⟨by(try simp only);omega,by(try simp only);omega,by simp only[List.length_append,List.length_cons,List.length_nil];omega⟩,by(try simp only);omega⟩
theorem sX{n:Int}(hn:¬n=0)(l:QK):Ho (cR l n) (fun _=>True):=by
 refine ao (P:=fun _=>True) ?_ fun _ _=>aq trivial
 have j:([9,10,32,45,97,98,99,233,769,8205,20013,65533,128512]:QK).length=13:=rfl;unfold fE;generalize ([9,10,32,45,97,98,99,233,769,8205,20013,65533,128512]:QK)=L at j;refine bH (fun(o,i)=>0≤i∧i≤13∧(o.length:Int)≤i) (fun(_,i)=>(13 - i).toNat) ⟨Int.le_refl _,by omega,by simp⟩ fun(o,i) ⟨h1,h2,u⟩=>?_
 refine ao (P:=fun b=>b=true→i<13∧i<(l.length:Int)) (aH (fun q=>aq fun r=>⟨by have:=of_decide_eq_true q;omega,of_decide_eq_true r⟩) fun _=>aq fun h=>(by cases h)) fun q p=>aH (fun f=>?_) fun _=>aq trivial
 obtain⟨v,x⟩:=p f;refine aU (by omega) (aU (by omega) (aU (by omega) (aU (by omega) (aU (by omega) (aU hn (aU (by simp only[List.length_singleton];omega) ?_))))));rw[bS h1 (by omega)];exact aq ⟨⟨by(try simp only);omega,by(try simp only);omega,by simp only[List.length_append,List.length_singleton];omega⟩,by(try simp only);omega⟩
theorem BQ{l:QK}(hl:∀i,0≤l.getD i 0∧l.getD i 0≤255):Ho (eE l) (fun _=>True):=by
 refine ao (P:=fun _=>True) ?_ fun _ _=>aq trivial
 have p:([([97]:QX),([98]:QX),([99]:QX),([49]:QX),([50]:QX),([51]:QX),([32]:QX),([32]:QX),([97,49,98,32]:QX),([98,49,99,32]:QX),([50,99,32]:QX),([46,97,49]:QX),([99,46]:QX),([97,98,45,99,32]:QX),([99,97,45,98,45,97,32]:QX)]:QQ).length=15:=rfl;have j:∀x∈([([97]:QX),([98]:QX),([99]:QX),([49]:QX),([50]:QX),([51]:QX),([32]:QX),([32]:QX),([97,49,98,32]:QX),([98,49,99,32]:QX),([50,99,32]:QX),([46,97,49]:QX),([99,46]:QX),([97,98,45,99,32]:QX),([99,97,45,98,45,97,32]:QX)]:QQ),x.length≤7:=by decide
 unfold ff;generalize ([([97]:QX),([98]:QX),([99]:QX),([49]:QX),([50]:QX),([51]:QX),([32]:QX),([32]:QX),([97,49,98,32]:QX),([98,49,99,32]:QX),([50,99,32]:QX),([46,97,49]:QX),([99,46]:QX),([97,98,45,99,32]:QX),([99,97,45,98,45,97,32]:QX)]:QQ)=L at p j;refine bH (fun(o,i)=>0≤i∧i≤60∧(o.length:Int)≤7*i) (fun(_,i)=>(60 - i).toNat) ⟨Int.le_refl _,by omega,by simp⟩ fun(o,i) ⟨h1,h2,B⟩=>?_
 refine ao (P:=fun b=>b=true→i<(l.length:Int)∧i<60) (aH (fun q=>aq fun r=>⟨of_decide_eq_true q,of_decide_eq_true r⟩) fun _=>aq fun h=>(by cases h)) fun q u=>aH (fun f=>?_) fun _=>aq trivial
 obtain⟨v,C⟩:=u f;obtain⟨z,D⟩:=hl i.toNat;have A:Int.tmod (IntKind.i64.wrap (l.getD i.toNat 0)) 15=l.getD i.toNat 0 % 15:=by rw[wrap_i64 (by omega) (by omega)];exact Int.tmod_eq_emod_of_nonneg z
 have E:=D4 j (l.getD i.toNat 0 % 15).toNat;refine aU ⟨h1,v⟩ (aU (by decide) ?_);rw[A];refine aU (by omega) (aU (by omega) (aU (by omega) ?_));rw[bS h1 (by omega)];exact aq ⟨⟨by(try simp only);omega,by(try simp only);omega,by simp only[List.length_append];omega⟩,by(try simp only);omega⟩
def Ml(a:Int)(l:List wO):Prop:=0≤a∧∀i,0≤(l.getD i (0,[],([]:QK))).1
theorem Bb{a:Int}(ha:0≤a)(b c:Int)(tr:QK)(l:List wO):Ho (bB a b c tr l) (fun n=>¬n=0):=by
 unfold bB;have:Int.tmod a 6=a % 6:=Int.tmod_eq_emod_of_nonneg ha;rw[this,wrap_i64 (x:=a % 6) (by omega) (by omega),wrap_i64 (by omega) (by omega)];exact aU (by decide) (aq (show ¬1+a % 6=0 by omega))
theorem Iq{z C D:Int}{E:QK}{A:List wO}{B I J:Int}{L:QK}{j:List wO}{p q u f:QK}{v x:Int}(h1:Ml z A)(h2:Ml B j)(M:∀i,0≤f.getD i 0∧f.getD i 0≤255):Ho (dB z C D E A B I J L j p q u f v x) (fun _=>True):=by
 exact ao (Bb h1.1 _ _ _ _) fun n hn=>ao (sX hn _) fun _ _=>ao (Bb h2.1 _ _ _ _) fun n hn=>ao (sX hn _) fun _ _=>ao (sX (by decide) _) fun _ _=>ao (BA h1.1 h1.2) fun _ _=>ao (BA h2.1 h2.2) fun _ _=>ao (BQ M) fun _ _=>aU (by decide) (aU (by decide) (aq trivial))
end
end Go.Proofs.YtobbjfkfmdiklaaGreatDoor.T
