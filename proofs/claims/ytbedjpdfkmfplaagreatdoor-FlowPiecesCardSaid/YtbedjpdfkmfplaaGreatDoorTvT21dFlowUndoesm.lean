import Derived.Test.YtbedjpdfkmfplaaGreatDoorTvT21d0
import Derived.Test.YtbedjpdfkmfplaaGreatDoorTvT21da
import Derived.Test.YtbedjpdfkmfplaaGreatDoorTvT21da3
import Derived.Test.YtbedjpdfkmfplaaGreatDoorTv31gjm
namespace Go.Proofs.YtbedjpdfkmfplaaGreatDoor.T
open Go Go.Tv Go.Proofs
noncomputable section
set_option maxRecDepth 100000
set_option maxHeartbeats 4000000
end
end Go.Proofs.YtbedjpdfkmfplaaGreatDoor.T
namespace Go.Proofs.YtbedjpdfkmfplaaGreatDoor.T
open Go Go.Tv Go.Proofs
noncomputable section
theorem Gc.cl{b:Option Z1}{c:Wy}{x:QK}{p:Qk×QK}{kn:Kn}(h:Gc b c x p kn):p.1.length≤4096:=(h.pm.Oy (by have:=h.len;omega)).1
theorem Gc.rl{b:Option Z1}{c:Wy}{x:QK}{p:Qk×QK}{kn:Kn}(h:Gc b c x p kn):(LF p.1 p.2 c).1.length≤4096:=by
 have hl:=h.cl;have f:=h.pm.LW.len;have e:JO p.2 p.1.length 0 (gq p.2 p.2.length):=by rw[sk];exact oe _ _ _ (by omega)
 have:=(qy c e).2;unfold LF;omega
theorem Ke{cl l:Qk}{o:QK}{r:Qk}(h:gW cl o l=some r)(hl:l.length≤4096):r.length≤100000:=by
 unfold gW at h;split at h
 ·cases h;simp
 ·cases hi:iter (dE cl l) (([]:Qk),(0:Int))with
  | none=>rw[hi]at h;cases h
  | some q =>
   rw[hi]at h;cases h;have:=IB (body:=dE cl l) (fun z:Qk×Int=>0≤z.2∧z.2≤(l.length:Int)∧(z.1.length:Int)=z.2) (fun r=>r.length≤100000) (fun s y f e=>?_) (fun s y f e=>?_) (s:=([],0)) ⟨by simp,by simp,by simp⟩ hi
   ·exact this
   ·obtain⟨out,i⟩:=s;obtain⟨j,u,v⟩:=f;simp only at j u v;simp only[dE]at e
    repeat' split at e
    all_goals first | (cases e;done) | skip
    rename_i A _ _ _ _;cases e;have B:=of_decide_eq_true A;have C:IntKind.i64.wrap (i+1)=i+1:=wrap_i64 (by omega) (by omega);simp only[C,List.length_append,List.length_singleton];omega
   ·obtain⟨out,i⟩:=s;obtain⟨j,u,v⟩:=f;simp only at j u v;simp only[dE]at e
    repeat' split at e
    all_goals first | (cases e;omega) | cases e
theorem vh{f:Option Z1}{c:Wy}{x:QK}{p:Qk×QK}{kn:Kn}(h:Gc f c x p kn)(b:Option Z1):∃r,r.length≤100000∧cT (LF p.1 p.2 c).1 (LF p.1 p.2 c).2 b c.1 c.2.1 c.2.2.1 c.2.2.2.1 c.2.2.2.2.1 c.2.2.2.2.2 x p.1 p.2 (some (me p.1 p.2 c)) kn=some (r,(LF p.1 p.2 c).2):=by
 obtain⟨r,e⟩:=Hu h;refine⟨r,Ke e h.rl,?_⟩;unfold cT;rw[e];rfl
theorem NT:¬(1:Int)=2:=by decide
theorem N9:¬(1:Int)=3:=by decide
theorem Gd{L:QQ}{k:Nat}(h:∀x∈L,x.length≤k)(i:Nat):(L.getD i []).length≤k:=by
 rcases Nat.lt_or_ge i L.length with hi | hi
 ·exact h _ (bU hi _)
 ·rw[List.getD_eq_getElem?_getD,List.getElem?_eq_none hi];exact Nat.zero_le _
theorem so{n:Int}(h:¬n=0)(i:Int):Ho (cv n i) (fun r=>r.length=1):=by
 refine aW h (aq ?_);simp[bytesOf]
theorem ql{n:Int}(h:1≤n∧n≤6)(b:Int):Ho (bZ n b) (fun r=>r.length≤12):=by
 refine ao (P:=fun r=>r.length≤12) (bG (fun(o,i)=>0≤i∧i≤n∧(o.length:Int)≤2*i) (fun(_,i)=>(n - i).toNat) ⟨Int.le_refl _,by omega,Int.le_refl _⟩ fun(o,i) ⟨f,j,q⟩=>?_) fun r e=>aq e
 refine aJ (fun hi=>?_) fun _=>aq (show o.length≤12 by omega)
 rw[dec_lt]at hi;refine aW f (aW (by decide) (ao (P:=fun r=>(r.length:Int)≤2*(i+1)) (aJ (fun _=>aW (by simp only[List.length_singleton];omega) (ao (so (by omega) i) fun r e=>aW (by simp only[List.length_append,List.length_singleton];omega) (aq ?_))) fun _=>aq (show(o.length:Int)≤2*(i+1) by omega)) fun r e=>?_))
 ·simp only[List.length_append,List.length_singleton];omega
 ·rw[bS f (by omega)];exact aq ⟨⟨by(try simp only);omega,by(try simp only);omega,e⟩,by(try simp only);omega⟩
section
variable{l:QK}(hl:l.length≤1000){n:Int}(hn:1≤n∧n≤6)
include hl
theorem AN{i:Int}(h:0≤i∧i≤(l.length:Int)):Ho (br l i) (fun r=>0≤r.2∧r.2≤(l.length:Int)):=by
 unfold br;rw[bS h.1 (by omega),wrap_i64 (by omega) (by omega)];refine aJ (fun _=>aq h) fun hi=>?_
 have e:i<(l.length:Int):=by simp only[ge_iff_le,decide_eq_true_eq]at hi;omega
 exact aW (by omega) (aq ⟨by(try simp only);omega,by(try simp only);omega⟩)
def vS:Nat→Nat
 | 0=>20
 | d+1=>2*vS d+3
omit hl in
theorem FY:∀d,d≤3→20≤vS d∧vS d≤200
 | 0,_=>by decide
 | 1,_=>by decide
 | 2,_=>by decide
 | 3,_=>by decide
include hn
theorem F5:∀(d f:Nat),d≤3→d<f→∀ {i:Int},(0≤i∧i≤(l.length:Int))→Ho (cS f n (d:Int) l i) (fun r=>r.1.length≤vS d∧0≤r.2∧r.2≤(l.length:Int))
 | _,0,_,h,_,_=>absurd h (by omega)
 | d,f+1,hd,B,i,hi=>by
  obtain⟨C,D⟩:=FY d hd;simp only[cS];unfold ep;refine ao (AN hl hi) fun(c,j) e=>aJ (fun _=>ao (so (by omega) c) fun r q=>aq ⟨by(try simp only);omega,e⟩) fun u=>aW (by decide) ?_
  have v:0<d:=by simp only[decide_eq_true_eq]at u;omega
  obtain⟨d,rfl⟩:∃k,d=k+1:=⟨d - 1,by omega⟩;have z:IntKind.i64.wrap (((d+1:Nat):Int) - 1)=(d:Int):=by rw[wrap_i64 (by omega) (by omega)];omega
  have em:vS (d+1)=2*vS d+3:=rfl;obtain⟨E,g2⟩:=FY d (by omega);rw[z];have q:=fun {i:Int} (hi:0≤i∧i≤(l.length:Int))=>F5 d f (by omega) (by omega) hi
  refine aJ (fun _=>aq ⟨by simp only[List.length_singleton];omega,e⟩) fun _=>aJ (fun _=>?_) fun _=>aJ (fun _=>?_) fun _=>aJ (fun _=>?_) fun _=>aJ (fun _=>?_) fun _=>aJ (fun _=>?_) fun _=>aJ (fun _=>?_) fun _=>aJ (fun _=>?_) fun _=>?_
  ·exact ao (AN hl e) fun(c,j) e=>ao (ql hn _) fun r q=>aW (by simp only[List.length_cons,List.length_nil];omega) (aW (by simp only[List.length_append,List.length_cons,List.length_nil];omega) (aq ⟨by simp only[List.length_append,List.length_cons,List.length_nil];omega,e⟩))
  ·exact ao (AN hl e) fun(c,j) e=>ao (ql hn _) fun r q=>aW (by simp only[List.length_cons,List.length_nil];omega) (aW (by simp only[List.length_append,List.length_cons,List.length_nil];omega) (aq ⟨by simp only[List.length_append,List.length_cons,List.length_nil];omega,e⟩))
  iterate 3
   ·exact ao (q e) fun(t,j) ⟨(ht:t.length≤vS d),e⟩=>aW (by simp only[List.length_cons,List.length_nil];omega) (aW (by simp only[List.length_append,List.length_cons,List.length_nil];omega) (aq ⟨by simp only[List.length_append,List.length_cons,List.length_nil];omega,e⟩))
  ·exact ao (q e) fun(t,j) ⟨(ht:t.length≤vS d),e⟩=>ao (q e) fun(s,k) ⟨(A:s.length≤vS d),hk⟩=>aW (by simp only[List.length_cons,List.length_nil];omega) (aW (by simp only[List.length_append,List.length_cons,List.length_nil];omega) (aW (by simp only[List.length_append,List.length_cons,List.length_nil];omega) (aW (by simp only[List.length_append,List.length_cons,List.length_nil];omega) (aq ⟨by simp only[List.length_append,List.length_cons,List.length_nil];omega,hk⟩))))
  ·exact ao (q e) fun(t,j) ⟨(ht:t.length≤vS d),e⟩=>ao (q e) fun(s,k) ⟨(A:s.length≤vS d),hk⟩=>aW (by simp only[List.length_cons,List.length_nil];omega) (aW (by simp only[List.length_append,List.length_cons,List.length_nil];omega) (aq ⟨by simp only[List.length_append,List.length_cons,List.length_nil];omega,hk⟩))
  ·exact ao (so (by omega) c) fun r q=>aq ⟨by(try simp only);omega,e⟩
end
theorem FD{n:Int}(hn:1≤n∧n≤6)(l:QK):Ho (fq n l) (fun r=>r.length≤200):=by
 refine aJ (fun _=>aq (by decide)) fun _=>aW (by omega) ?_
 exact ao (F5 (by simp only[List.length_drop,List.length_take];omega) hn 3 1000 (by omega) (by omega) ⟨Int.le_refl _,by omega⟩) fun(t,j) ⟨(e:t.length≤vS 3),_⟩=>aq (show t.length≤200 from Nat.le_trans e (by decide))
theorem Cb{a b c:Int}{tr:QK}{l:List wo}(ha:0≤a)(hl:∀i,0≤(l.getD i (0,[],([]:QK))).1):Ho (fh a b c tr l) (fun r=>r.length≤10000):=by
 refine ao (P:=fun n=>1≤n∧n≤6) ?_ fun n hn=>ao (ql hn _) fun t ht=>aW (by simp only[List.length_cons,List.length_nil];omega) (aW (by simp only[List.length_append,List.length_cons,List.length_nil];omega) (ao (P:=fun r=>r.length≤100) (aJ (fun _=>aW (by simp only[List.length_append,List.length_cons,List.length_nil];omega) (ao (ql hn _) fun s B=>aW (by simp only[List.length_append,List.length_cons,List.length_nil];omega) (aW (by simp only[List.length_append,List.length_cons,List.length_nil];omega) (ao (ql hn _) fun u hu=>aW (by simp only[List.length_append,List.length_cons,List.length_nil];omega) (aW (by simp only[List.length_append,List.length_cons,List.length_nil];omega) (aq (by simp only[List.length_append,List.length_cons,List.length_nil];omega))))))) fun _=>aq (by simp only[List.length_append,List.length_cons,List.length_nil];omega)) fun v z=>ao (P:=fun r=>r.length≤200) ?_ fun v z=>ao (P:=fun r=>r.length≤10000) ?_ fun v z=>aq z))
 ·unfold bC;have:Int.tmod a 6=a % 6:=Int.tmod_eq_emod_of_nonneg ha;rw[this,wrap_i64 (x:=a % 6) (by omega) (by omega),wrap_i64 (by omega) (by omega)];exact aW (by decide) (aq ⟨by omega,by omega⟩)
 ·refine bG (fun(o,i)=>0≤i∧i≤n∧(o.length:Int)≤100+13*i) (fun(_,i)=>(n - i).toNat) ⟨Int.le_refl _,by omega,by(try simp only);omega⟩ fun(o,i) ⟨e,D,E⟩=>?_
  refine ao (P:=fun b=>b=true→i<(tr.length:Int)∧i<n) (aJ (fun q=>aq fun r=>⟨of_decide_eq_true q,of_decide_eq_true r⟩) fun _=>aq fun h=>(by cases h)) fun q A=>aJ (fun f=>?_) fun _=>aq (show o.length≤200 by omega)
  obtain⟨j,I⟩:=A f;refine aW (by simp only[List.length_cons,List.length_nil];omega) (ao (so (by omega) _) fun r J=>aW (by simp only[List.length_append,List.length_cons,List.length_nil];omega) (aW (by simp only[List.length_append,List.length_cons,List.length_nil];omega) (aW ⟨e,j⟩ (ao (so (by omega) _) fun s B=>aW (by simp only[List.length_append,List.length_cons,List.length_nil];omega) (aW (by simp only[List.length_append,List.length_cons,List.length_nil];omega) ?_)))));rw[bS e (by omega)];exact aq ⟨⟨by(try simp only);omega,by(try simp only);omega,by simp only[List.length_append,List.length_cons,List.length_nil];omega⟩,by(try simp only);omega⟩
 ·refine bG (fun(o,i)=>0≤i∧i≤10∧(o.length:Int)≤200+410*i) (fun(_,i)=>(10 - i).toNat) ⟨Int.le_refl _,by omega,by(try simp only);omega⟩ fun(o,i) ⟨e,D,E⟩=>?_
  refine ao (P:=fun b=>b=true→i<(l.length:Int)∧i<10) (aJ (fun q=>aq fun r=>⟨of_decide_eq_true q,of_decide_eq_true r⟩) fun _=>aq fun h=>(by cases h)) fun q A=>aJ (fun f=>?_) fun _=>aq (show o.length≤10000 by omega)
  obtain⟨j,I⟩:=A f;have M:=hl i.toNat;have C:Int.tmod (l.getD i.toNat (0,[],([]:QK))).1 3=(l.getD i.toNat (0,[],([]:QK))).1 % 3:=Int.tmod_eq_emod_of_nonneg M;have N:=Gd (L:=[([107,101,101,112,32]:QX),([109,97,121,32]:QX),([109,117,115,116,32]:QX)]) (k:=5) (by decide) (Int.tmod (l.getD i.toNat (0,[],([]:QK))).1 3).toNat;refine aW ⟨e,j⟩ (aW (by decide) (aW (by rw[C];simp only[List.length_cons,List.length_nil];omega) (aW (by rw[C];simp only[List.length_cons,List.length_nil];omega) ?_)));generalize ([([107,101,101,112,32]:QX),([109,97,121,32]:QX),([109,117,115,116,32]:QX)]:QQ).getD (Int.tmod (l.getD i.toNat (0,[],([]:QK))).1 3).toNat []=w at N ⊢;refine aW (by omega) (aW ⟨e,j⟩ (ao (FD hn _) fun r J=>aW (by simp only[List.length_append];omega) (aW (by simp only[List.length_append,List.length_cons,List.length_nil];omega) (aW ⟨e,j⟩ (ao (FD hn _) fun s B=>aW (by simp only[List.length_append,List.length_cons,List.length_nil];omega) (aW (by simp only[List.length_append,List.length_cons,List.length_nil];omega) ?_))))));rw[bS e (by omega)];exact aq ⟨⟨by(try simp only);omega,by(try simp only);omega,by simp only[List.length_append,List.length_cons,List.length_nil];omega⟩,by(try simp only);omega⟩
theorem uL{n:Int}(hn:¬n=0)(l:QK):Ho (dc l n) (fun _=>True):=by
 refine ao (P:=fun _=>True) ?_ fun _ _=>aq trivial
 have f:([9,10,32,45,97,98,99,233,769,8205,20013,65533,128512]:QK).length=13:=rfl;unfold gk;generalize ([9,10,32,45,97,98,99,233,769,8205,20013,65533,128512]:QK)=L at f;refine bG (fun(o,i)=>0≤i∧i≤13∧(o.length:Int)≤i) (fun(_,i)=>(13 - i).toNat) ⟨Int.le_refl _,by omega,by simp⟩ fun(o,i) ⟨j,v,z⟩=>?_
 refine ao (P:=fun b=>b=true→i<13∧i<(l.length:Int)) (aJ (fun q=>aq fun r=>⟨by have:=of_decide_eq_true q;omega,of_decide_eq_true r⟩) fun _=>aq fun h=>(by cases h)) fun q u=>aJ (fun e=>?_) fun _=>aq trivial
 obtain⟨A,B⟩:=u e;refine aW (by omega) (aW (by omega) (aW (by omega) (aW (by omega) (aW (by omega) (aW hn (aW (by simp only[List.length_singleton];omega) ?_))))));rw[bS j (by omega)];exact aq ⟨⟨by(try simp only);omega,by(try simp only);omega,by simp only[List.length_append,List.length_singleton];omega⟩,by(try simp only);omega⟩
theorem BN{l:QK}(hl:∀i,0≤l.getD i 0∧l.getD i 0≤255):Ho (fc l) (fun _=>True):=by
 refine ao (P:=fun _=>True) ?_ fun _ _=>aq trivial
 have u:([([97]:QX),([98]:QX),([99]:QX),([49]:QX),([50]:QX),([51]:QX),([32]:QX),([32]:QX),([97,49,98,32]:QX),([98,49,99,32]:QX),([50,99,32]:QX),([46,97,49]:QX),([99,46]:QX),([97,98,45,99,32]:QX),([99,97,45,98,45,97,32]:QX)]:QQ).length=15:=rfl;have f:∀x∈([([97]:QX),([98]:QX),([99]:QX),([49]:QX),([50]:QX),([51]:QX),([32]:QX),([32]:QX),([97,49,98,32]:QX),([98,49,99,32]:QX),([50,99,32]:QX),([46,97,49]:QX),([99,46]:QX),([97,98,45,99,32]:QX),([99,97,45,98,45,97,32]:QX)]:QQ),x.length≤7:=by decide
 unfold fO;generalize ([([97]:QX),([98]:QX),([99]:QX),([49]:QX),([50]:QX),([51]:QX),([32]:QX),([32]:QX),([97,49,98,32]:QX),([98,49,99,32]:QX),([50,99,32]:QX),([46,97,49]:QX),([99,46]:QX),([97,98,45,99,32]:QX),([99,97,45,98,45,97,32]:QX)]:QQ)=L at u f;refine bG (fun(o,i)=>0≤i∧i≤60∧(o.length:Int)≤7*i) (fun(_,i)=>(60 - i).toNat) ⟨Int.le_refl _,by omega,by simp⟩ fun(o,i) ⟨j,C,D⟩=>?_
 refine ao (P:=fun b=>b=true→i<(l.length:Int)∧i<60) (aJ (fun q=>aq fun r=>⟨of_decide_eq_true q,of_decide_eq_true r⟩) fun _=>aq fun h=>(by cases h)) fun q v=>aJ (fun e=>?_) fun _=>aq trivial
 obtain⟨z,E⟩:=v e;obtain⟨A,I⟩:=hl i.toNat;have B:Int.tmod (IntKind.i64.wrap (l.getD i.toNat 0)) 15=l.getD i.toNat 0 % 15:=by rw[wrap_i64 (by omega) (by omega)];exact Int.tmod_eq_emod_of_nonneg A
 have J:=Gd f (l.getD i.toNat 0 % 15).toNat;refine aW ⟨j,z⟩ (aW (by decide) ?_);rw[B];refine aW (by omega) (aW (by omega) (aW (by omega) ?_));rw[bS j (by omega)];exact aq ⟨⟨by(try simp only);omega,by(try simp only);omega,by simp only[List.length_append];omega⟩,by(try simp only);omega⟩
def Oi(a:Int)(l:List wo):Prop:=0≤a∧∀i,0≤(l.getD i (0,[],([]:QK))).1
theorem CN{a:Int}(ha:0≤a)(b c:Int)(tr:QK)(l:List wo):Ho (bC a b c tr l) (fun n=>¬n=0):=by
 unfold bC;have:Int.tmod a 6=a % 6:=Int.tmod_eq_emod_of_nonneg ha;rw[this,wrap_i64 (x:=a % 6) (by omega) (by omega),wrap_i64 (by omega) (by omega)];exact aW (by decide) (aq (show ¬1+a % 6=0 by omega))
theorem Ko{C I J:Int}{L:QK}{D:List wo}{E M N:Int}{O:QK}{f:List wo}{j q u e:QK}{v z:Int}(A:Oi C D)(B:Oi E f)(V:∀i,0≤e.getD i 0∧e.getD i 0≤255):Ho (dQ C I J L D E M N O f j q u e v z) (fun _=>True):=by
 exact ao (CN A.1 _ _ _ _) fun n hn=>ao (uL hn _) fun _ _=>ao (CN B.1 _ _ _ _) fun n hn=>ao (uL hn _) fun _ _=>ao (uL (by decide) _) fun _ _=>ao (Cb A.1 A.2) fun _ _=>ao (Cb B.1 B.2) fun _ _=>ao (BN V) fun _ _=>aW (by decide) (aW (by decide) (aq trivial))
end
end Go.Proofs.YtbedjpdfkmfplaaGreatDoor.T
