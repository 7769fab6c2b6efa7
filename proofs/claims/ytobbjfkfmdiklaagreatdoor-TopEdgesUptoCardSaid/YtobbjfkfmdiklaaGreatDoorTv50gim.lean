import Derived.Test.YtobbjfkfmdiklaaGreatDoorTv50gfm
import Derived.Test.YtobbjfkfmdiklaaGreatDoorTv50im
import Derived.Test.YtobbjfkfmdiklaaGreatDoorTv50um
import Derived.Test.YtobbjfkfmdiklaaGreatDoorTvT50eTopEdges
namespace Go.Proofs.YtobbjfkfmdiklaaGreatDoor.T
open Go Go.Tv Go.Proofs
open Go.IntKind (i64 u64)
noncomputable section
def RH(h:Option Z3):Prop:=∀x,h=some x→x.1.length≤256∧Nt x.2.1∧qt x.2.2.1∧(1≤x.2.2.2.1∧x.2.2.2.1≤24)∧1≤x.2.2.2.2∧x.2.2.2.2≤24
theorem HU{α:Type}(x:α):(some x).isSome=true:=rfl
theorem KB{a b:Int}(p:0≤a)(h:a<b)(hb:b≤1000000):a≤(i64.wrap (Int.fdiv (u64.wrap (i64.wrap (a+b))) (2 ^ (min (1:Int).toNat u64.bits))))∧(i64.wrap (Int.fdiv (u64.wrap (i64.wrap (a+b))) (2 ^ (min (1:Int).toNat u64.bits))))<b:=by
 rw[wrap_i64 (x:=a+b) (by omega) (by omega),Fo];have e:(a+b) % 18446744073709551616=a+b:=by omega
 rw[e];have j:(2:Int) ^ (min (1:Int).toNat u64.bits)=2:=by decide
 rw[j,Int.fdiv_eq_ediv_of_nonneg _ (by omega),wrap_i64 (by omega) (by omega)];omega
theorem Ds{h:Option Z3}(q:RH h)(r:Int):Ho (dO h r) (fun _=>True):=by
 cases h with
 | none=>exact aq trivial
 | some x =>
 obtain⟨u,_⟩:=q x rfl;unfold dO;rw[if_neg (by simp),if_pos (HU x)];refine ao (P:=fun k=>0≤k∧k≤(x.1.length:Int)) (ao (P:=fun k=>0≤k∧k≤(x.1.length:Int)) (bG (fun(a,b)=>0≤a∧a≤b∧b≤(x.1.length:Int)) (fun(a,b)=>(b - a).toNat) ⟨Int.le_refl _,Int.natCast_nonneg _,Int.le_refl _⟩ fun(a,b) ⟨h1,h2,v⟩=>?_) fun k hk=>aq hk) fun k ⟨h1,h2⟩=>ao (P:=fun b=>b=false→k<(x.1.length:Int)) ?_ fun b hb=>aH (fun _=>aq trivial) fun hf=>?_
 ·refine aH (fun j=>?_) fun _=>aq ⟨h1,by omega⟩
  rw[dec_lt]at j;obtain⟨z,A⟩:=KB h1 j (by omega);refine aV (by decide) (ao (P:=fun _=>True) ?_ fun b _=>aH (fun _=>?_) fun _=>?_)
  ·unfold eC;rw[if_pos (HU x)];exact aV ⟨by omega,by simp only[Option.getD_some];omega⟩ (aq trivial)
  ·rw[bV (by omega) (by omega)];exact aq ⟨⟨by(try simp only);omega,by(try simp only);omega,by(try simp only);omega⟩,by(try simp only);omega⟩
  ·exact aq ⟨⟨by(try simp only);omega,by(try simp only);omega,by(try simp only);omega⟩,by(try simp only);omega⟩
 ·rw[if_pos (HU x)];refine aH (fun _=>aq fun h=>by cases h) fun p=>?_
  have j:k<(x.1.length:Int):=by simp only[Option.getD_some,beq_iff_eq]at p;omega
  rw[if_pos (HU x)];exact aV ⟨h1,j⟩ (aq fun _=>j)
 ·have j:=hb (by simpa using hf);rw[if_pos (HU x)];refine aV ⟨h1,j⟩ ?_;rw[if_pos (HU x)];exact aV ⟨h1,j⟩ (aq trivial)
theorem CL{l:List (QK×QK)}(hl:qt l)(w:QK):Ho (iU l w) (fun r=>0≤r→r<(l.length:Int)∧(l.getD r.toNat ([],[])).2.length=w.length+1):=by
 have q:=hl.1;refine ao (P:=Lp (fun _=>True) fun r=>0≤r→r<(l.length:Int)∧(l.getD r.toNat ([],[])).2.length=w.length+1) (bG (fun i=>0≤i∧i≤(l.length:Int)) (fun i=>((l.length:Int) - i).toNat) ⟨Int.le_refl _,by omega⟩ fun i ⟨h1,h2⟩=>?_) ?_
 ·refine aH (fun hi=>?_) fun _=>aq trivial
  rw[dec_lt]at hi;have j:=hl.2 _ (bU (i:=i.toNat) (by omega) ([],([]:QK)));refine aV ⟨h1,hi⟩ (ao (P:=fun r=>r=true→(l.getD i.toNat ([],([]:QK))).1.length=w.length) (ao (Ca (by have:=j.2;omega)) fun r p=>aq p) fun r p=>aH (fun ht=>aq fun _=>⟨hi,by rw[j.1,p ht]⟩) fun _=>?_);rw[bV h1 (by omega)];exact aq ⟨⟨by(try simp only);omega,by(try simp only);omega⟩,by(try simp only);omega⟩
 ·rintro(_ | r) h
  ·exact aq fun h=>absurd h (by decide)
  ·exact aq h
theorem GQ{h:Option Z3}(z:RH h){w:QK}(A:w.length≤4096):Ho (fc h w) (fun r=>r.length=w.length+1):=by
 have p:i64.wrap ((w.length:Int)+1)=((w.length+1:Nat):Int):=bM (by omega);unfold fc;rw[p];refine aV ⟨by omega,by omega,by omega,by omega⟩ (aH (fun _=>aq (by simp)) fun B=>?_);cases h with
 | none=>exact absurd rfl B
 | some x =>
 obtain⟨_,C,D,⟨L,_⟩,M,N⟩:=z x rfl;rw[if_pos (HU x)];refine ao (FD C A) fun v q=>?_
 rw[if_pos (HU x)];refine ao (CL D w) fun r u=>ao (P:=fun v=>v.length=w.length+1) ?_ fun v q=>?_
 ·refine aH (fun E=>?_) fun _=>aq q
  have j:0≤r:=of_decide_eq_true E;rw[if_pos (HU x)];exact aV ⟨j,(u j).1⟩ (aq (u j).2)
 ·rw[if_pos (HU x)];refine ao (P:=fun o=>o.length=w.length+1) (bG (fun(o,i)=>0≤i∧o.length=w.length+1) (fun(_,i)=>((w.length:Int)+1 - i).toNat) ⟨by simp only[Option.getD_some];omega,by simp⟩ fun(o,i) ⟨h1,h2⟩=>?_) fun o I=>aq I
  unfold gE;dsimp only;rw[if_pos (HU x)];refine aH (fun hi=>?_) fun _=>aq h2
  have J:i≤(w.length:Int) - x.2.2.2.2:=by have:=of_decide_eq_true hi;simp only[Option.getD_some]at this;rwa [wrap_i64 (by omega) (by omega)]at this
  refine aV ⟨h1,by omega⟩ (aV (by decide) (aV ⟨h1,by omega⟩ (aV (by omega) ?_)));rw[bV h1 (by omega)];exact aq ⟨⟨by(try simp only);omega,by simpa using h2⟩,by(try simp only);omega⟩
theorem FK{h:Option Z3}(u:RH h){l:XK}(hl:l.length≤4096):Ho (dQ h l) (fun _=>True):=by
 have p:i64.wrap ((l.length:Int)+1)=((l.length+1:Nat):Int):=bM (by omega);unfold dQ;rw[p];refine aV ⟨by omega,by omega,by omega,by omega⟩ (ao (P:=fun _=>True) (bG (fun(o,i)=>0≤i∧o.length=l.length+1) (fun(_,i)=>((l.length:Int)+1 - i).toNat) ⟨Int.le_refl _,by simp⟩ fun(o,i) ⟨h1,h2⟩=>?_) fun _ _=>aq trivial);refine aH (fun hi=>?_) fun _=>aq trivial
 rw[dec_lt]at hi;refine ao (P:=fun(j,w)=>i≤j∧j≤(l.length:Int)∧(w.length:Int)=j - i) (bG (fun(j,w)=>i≤j∧j≤(l.length:Int)∧(w.length:Int)=j - i) (fun(j,_)=>((l.length:Int) - j).toNat) ⟨Int.le_refl _,by omega,by simp⟩ fun(j,w) ⟨q,g2,g3⟩=>?_) fun(j,w) ⟨q,g2,g3⟩=>?_
 ·refine aH (fun v=>?_) fun _=>aq ⟨q,g2,g3⟩
  rw[dec_lt]at v;refine aV ⟨by omega,v⟩ (ao (Ds u _) fun(c,ok) _=>aH (fun _=>aq ⟨q,g2,g3⟩) fun _=>aV (by simp only[List.length_singleton];omega) ?_);rw[bV (by omega) (by omega)];exact aq ⟨⟨by(try simp only);omega,by(try simp only);omega,by simp only[List.length_append,List.length_singleton];omega⟩,by(try simp only);omega⟩
 ·refine aV ⟨h1,by omega⟩ (ao (GQ u (by omega)) fun r x=>aV ⟨by decide,by omega,by omega⟩ ?_);rw[bV (by omega) (by omega)];refine aq ⟨⟨by(try simp only);omega,?_⟩,by(try simp only);omega⟩;simp only[List.length_append,List.length_take,List.length_drop];omega
theorem zj(l:XK):Ho (nL l) (fun b=>b=true→l.length≤256):=by
 refine aH (fun _=>aq fun h=>by cases h) fun hl=>?_
 have j:l.length≤256:=by simp only[decide_eq_true_eq]at hl;omega
 refine ao (P:=fun _=>True) (bG (fun(_,i)=>0≤i∧i≤(l.length:Int)) (fun(_,i)=>((l.length:Int) - i).toNat) ⟨Int.le_refl _,by omega⟩ fun(q,i) ⟨h1,h2⟩=>?_) ?_
 ·refine aH (fun hi=>?_) fun _=>aq trivial
  rw[dec_lt]at hi;refine aV ⟨h1,hi⟩ (ao (P:=fun _=>True) ?_ fun b _=>aH (fun _=>aq trivial) fun _=>?_)
  ·repeat' split
   all_goals exact aq trivial
  ·rw[bV h1 (by omega)];exact aq ⟨⟨by(try simp only);omega,by(try simp only);omega⟩,by(try simp only);omega⟩
 ·rintro(_ | r) _
  ·exact aq fun _=>j
  ·exact aq fun _=>j
theorem CU(t:QX)(l:XK)(a b:Int):Ho (mZ t l a b) (fun r=>r.2.1=0∧RH r.1∨r.2.1≠0∧r.1=none):=by
 refine ao (zj l) fun ok j=>aH (fun _=>aq (.inr ⟨by decide,rfl⟩)) fun hk=>ao (P:=fun c=>c=false→(1≤a∧a≤24)∧1≤b∧b≤24) ?_ fun c hc=>aH (fun _=>aq (.inr ⟨by decide,rfl⟩)) fun q=>ao (zh t) fun(p,c) hp=>aH (fun h=>aq (.inr ⟨by simpa using h,rfl⟩)) fun _=>?_
 ·refine aH (fun _=>aq fun h=>by cases h) fun h1=>aH (fun _=>aq fun h=>by cases h) fun h2=>aH (fun _=>aq fun h=>by cases h) fun u=>aq fun v=>?_
  simp only[decide_eq_true_eq,decide_eq_false_iff_not]at h1 h2 u v;omega
 ·have hl:=j (by simpa using hk);refine ao (P:=fun r=>r=l) ?_ fun r z=>ao (Aq hp.1) fun t ⟨_,ht⟩=>aq (.inl ⟨rfl,fun x A=>?_⟩)
  ·refine aH (fun h=>aq (List.isEmpty_iff.1 h).symm) fun _=>aV (by simp only[List.length_nil];omega) (aq rfl)
  ·cases A;subst z;exact⟨hl,ht,hp.2,hc (by simpa using q)⟩
structure RB(b:Option Z1):Prop where
 para:∀x,Bytes x→x.length≤4096→∃p,ba b x=some (p,0)∧PM (x.length:Int) p
 MY:∀x:QK,4096<x.length→ba b x=some (([],[]),3)
theorem LW{z A:Z5}{M N:Nat}{B C u:Option zr}{D E O:Int→Int}{h:Option Z3}(h1:Mo z M)(h2:Mo A N)(V:oq B D)(g2:oq C E)(g3:oq u O)(X:RH h):RB (some (some z,some A,B,C,u,h)) where
 para x hb hl:=by
  obtain⟨s,Y,hc,Z⟩:=HV hb hl;have hr:=hc.range;have q:s.length≤4096:=by omega
  obtain⟨o1,e2,a1⟩:=yK h1 (w:=s.map fun x=>D x.1) (by simpa using q);obtain⟨o2,e3,I⟩:=yK h2 (w:=s.map fun x=>E x.1) (by simpa using q);rw[List.length_map]at I;obtain⟨J,e6,_⟩:=FK X q;obtain⟨⟨cl,st⟩,e4,j⟩:=FO g3 hc (by omega) o1;simp only at j;obtain⟨o,e5,L⟩:=GB q I J (st:=st) (by have:=j.len;have:=j.le;omega) (fun i hi=>j.at_ i hi) (fun h=>j.zero (by have:=j.len;omega));rw[j.len]at L;have a2:=j.le;refine⟨(cl,o),?_,⟨j.Lj,by simp only;omega,fun h=>j.some_ (by omega),L⟩⟩;have p:¬((x.length:Int) > 4096):=by omega
  have v:gz s o1 o2 J u=some (cl,o):=by unfold gz lA;simp only[e4,Option.bind];rw[if_pos (by have:=j.len;simp;omega)];simp only[e5]
  unfold ba;simp only[Option.getD,Option.isNone,Option.isSome,p,decide_false,Bool.false_eq_true,if_false,if_true,Option.bind,Y,ER V q,ER g2 q,e2,e3,e6,v]
 MY x hx:=by
  have p:(x.length:Int) > 4096:=by omega
  unfold ba;simp only[Option.isNone,Bool.false_eq_true,if_false,p,decide_true,if_true]
theorem pz(l:XK)(j:Int):Ho (fW l j) (fun r=>r.2=0∧(∃f,oq r.1 f)∨r.2≠0):=by
 rcases uF l j with⟨e,_⟩ | ⟨t,e,_,h⟩
 ·exact⟨_,e,.inr (by decide)⟩
 ·exact⟨_,e,.inl ⟨rfl,_,h⟩⟩
theorem EJ{m:Option Z5}:Ho (cr m) (fun _=>True):=by
 cases m with
 | none=>exact aq trivial
 | some x=>exact⟨_,rfl,trivial⟩
theorem D2(x z A B:XK)(C D E:QX)(I J:Int):Ho (jS x z A B C D E I J) (fun r=>r.2.1=0∧RB r.1∨r.2.1≠0∧r.1=none):=by
 refine ao (xn C) fun(m1,N) j=>aH (fun h=>aq (.inr ⟨by simpa using h,rfl⟩)) fun h1=>ao (xn D) fun(m2,O) p=>aH (fun h=>aq (.inr ⟨by simpa using h,rfl⟩)) fun h2=>ao EJ fun V _=>ao EJ fun X _=>aV (by decide) (ao (pz x V) fun(t1,Y) q=>aH (fun h=>aq (.inr ⟨by simpa using h,rfl⟩)) fun Z=>aV (by decide) (ao (pz z X) fun(t2,e2) u=>aH (fun h=>aq (.inr ⟨by simpa using h,rfl⟩)) fun h4=>aV (by decide) (ao (pz A 3) fun(t3,e3) v=>aH (fun h=>aq (.inr ⟨by simpa using h,rfl⟩)) fun h5=>ao (CU E B I J) fun(hy,e4) hh=>aH (fun h=>aq (.inr ⟨by simpa using h,rfl⟩)) fun h6=>aq (.inl ⟨rfl,?_⟩))))
 have z1:N.1=0:=by simpa using h1
 have z2:O.1=0:=by simpa using h2
 have z3:Y=0:=by simpa using Z
 have z4:e2=0:=by simpa using h4
 have z5:e3=0:=by simpa using h5
 have z6:e4.1=0:=by simpa using h6
 obtain⟨_,x1,L,r1,_⟩:=j.resolve_right fun h=>h.1 z1
 obtain⟨_,x2,M,r2,_⟩:=p.resolve_right fun h=>h.1 z2
 obtain⟨_,f1,g1⟩:=q.resolve_right fun h=>h z3
 obtain⟨_,f2,g2⟩:=u.resolve_right fun h=>h z4
 obtain⟨_,f3,g3⟩:=v.resolve_right fun h=>h z5
 obtain⟨_,rh⟩:=hh.resolve_right fun h=>h.1 z6
 simp only at L M;rw[L,M];exact LW r1 r2 g1 g2 g3 rh
def N5(b:Option Z1):Prop:=∀x,ba b x=ba NM x
theorem KK:∃b,jS [] jW mj [] GK GG [] 2 2=some (b,0,0)∧N5 b:=by
 obtain⟨u,v,x,e,j,p,q⟩:=Mg;exact⟨_,e,KZ j p q⟩
theorem so{p j v x z:Int}{A:QJ}(h:ix p j v x z A=some true):1≤j∧j≤64:=by
 unfold ix at h;by_cases h1:p≥1
 case neg=>simp[h1]at h
 by_cases h2:p≤1048576
 case neg=>simp[h1,h2]at h
 by_cases q:j≥1
 case neg=>simp[h1,h2,q]at h
 by_cases u:j≤64
 case neg=>simp[h1,h2,q,u]at h
 exact⟨q,u⟩
structure Oy(b:Option Z1)(c:Wy)(x:QK)(p:XZ×QK)(kn:Kn):Prop where
 Mq:Bytes x
 len:x.length≤4096
 para:ba b x=some (p,0)
 pm:PM (x.length:Int) p
 wy:Az c
 Oz:LL c kn
theorem Ah(l:QX):Bytes (bZ l):=fun x j=>by
 unfold bZ at j;obtain⟨b,_,rfl⟩:=List.mem_map.1 j;have:=b.toNat_lt;omega
theorem Io:∃S,fR=some S∧S.length=14∧∀i,(S.getD i []).length≤4:=by
 refine⟨_,rfl,rfl,fun i=>?_⟩;rcases(show i=0∨i=1∨i=2∨i=3∨i=4∨i=5∨i=6∨i=7∨i=8∨i=9∨i=10∨i=11∨i=12∨i=13∨14≤i by omega)with rfl | rfl | rfl | rfl | rfl | rfl | rfl | rfl | rfl | rfl | rfl | rfl | rfl | rfl | h
 case inr.inr.inr.inr.inr.inr.inr.inr.inr.inr.inr.inr.inr.inr=>rw[List.getD_eq_getElem?_getD,List.getElem?_eq_none (by simpa using h)];simp
 all_goals decide
theorem Hk{l:QK}(hl:l.length≤10000000)(hb:∀i,0≤l.getD i 0∧l.getD i 0≤255):∃t,eA l=some t∧Bytes t∧t.length≤4*l.length:=by
 obtain⟨S,A,p,q⟩:=Io;obtain⟨t,e,h1,h2⟩:=dG (body:=dg l) (fun z:QK×Int=>∃k:Nat,z.2=(k:Int)∧k≤l.length∧z.1.length≤4*k∧Bytes z.1) (fun z=>l.length - z.2.toNat) (fun t=>Bytes t∧t.length≤4*l.length) (by
  rintro⟨out,v⟩ ⟨k,rfl,hk,h1,h2⟩;simp only at h1 h2;by_cases B:k<l.length
  ·left
   obtain⟨C,L⟩:=hb k;have D:i64.wrap (l.getD k 0)=l.getD k 0:=wrap_i64 (by omega) (by omega);have hm:Int.tmod (l.getD k 0) 14=l.getD k 0 % 14:=Int.tmod_eq_emod_of_nonneg C;have u:(k:Int)<(l.length:Int):=by omega
   have E:0≤(k:Int):=by omega
   have I:0≤l.getD k 0 % 14∧l.getD k 0 % 14<(S.length:Int):=by rw[p];omega
   have M:=q (l.getD k 0 % 14).toNat;have g:out.length+(S.getD (l.getD k 0 % 14).toNat []).length≤140737488355328:=by omega
   have J:¬(14:Int)=0:=by decide
   refine⟨(out++bZ (S.getD (l.getD k 0 % 14).toNat []),((k+1:Nat):Int)),?_,⟨k+1,rfl,by omega,?_,?_⟩,by simp only[Int.toNat_natCast];omega⟩
   ·simp only[dg,A,Option.bind_some,u,E,and_self,decide_true,if_true,Int.toNat_natCast,D,hm,I,J,not_false_eq_true,g,bM (show k≤9000000000000000000 by omega)]
   ·simp only[List.length_append];have:(bZ (S.getD (l.getD k 0 % 14).toNat [])).length=(S.getD (l.getD k 0 % 14).toNat []).length:=by simp[bZ]
    omega
   ·intro x j;rcases List.mem_append.1 j with j | j
    ·exact h2 x j
    ·exact Ah _ x j
  ·right
   obtain rfl:k=l.length:=by omega
   refine⟨out,?_,h2,h1⟩;have u:¬((l.length:Int)<(l.length:Int)):=Int.lt_irrefl _;simp only[dg,u,decide_false,Bool.false_eq_true,if_false]) (s:=([],0)) ⟨0,rfl,by omega,by simp,fun x j=>by cases j⟩
 refine⟨t,?_,h1,h2⟩;unfold eA;rw[e];rfl
abbrev NN:=Int×(Int×Int)×Int×XZ×Bool
abbrev dst(c:Wy)(x:QK)(p:XZ×QK)(j:Kn)(out:List NN)(k:Int):XZ×Bool×Int×Int×Int×Int×Int×QJ×QK×XZ×QK×(Option ((XZ×QK)×(XZ×QZ)))×Kn×(List NN)×Int :=
 ((LF p.1 p.2 c).1,(LF p.1 p.2 c).2,c.1,c.2.1,c.2.2.1,c.2.2.2.1,c.2.2.2.2.1,c.2.2.2.2.2,x,p.1,p.2,some (Lu p.1 p.2 c),j,out,k)
theorem Et{L:QQ}{k:Nat}(h:∀x∈L,x.length≤k)(i:Nat):(L.getD i []).length≤k:=by
 rcases Nat.lt_or_ge i L.length with hi | hi
 ·exact h _ (bU hi _)
 ·rw[List.getD_eq_getElem?_getD,List.getElem?_eq_none hi];exact Nat.zero_le _
theorem sD{n:Int}(h:¬n=0)(i:Int):Ho (cv n i) (fun r=>r.length=1):=by
 refine aV h (aq ?_);simp[bytesOf]
theorem oI{n:Int}(h:1≤n∧n≤6)(b:Int):Ho (cd n b) (fun r=>r.length≤12):=by
 refine ao (P:=fun r=>r.length≤12) (bG (fun(o,i)=>0≤i∧i≤n∧(o.length:Int)≤2*i) (fun(_,i)=>(n - i).toNat) ⟨Int.le_refl _,by omega,Int.le_refl _⟩ fun(o,i) ⟨h1,h2,p⟩=>?_) fun r j=>aq j
 refine aH (fun hi=>?_) fun _=>aq (show o.length≤12 by omega)
 rw[dec_lt]at hi;refine aV h1 (aV (by decide) (ao (P:=fun r=>(r.length:Int)≤2*(i+1)) (aH (fun _=>aV (by simp only[List.length_singleton];omega) (ao (sD (by omega) i) fun r j=>aV (by simp only[List.length_append,List.length_singleton];omega) (aq ?_))) fun _=>aq (show(o.length:Int)≤2*(i+1) by omega)) fun r j=>?_))
 ·simp only[List.length_append,List.length_singleton];omega
 ·rw[bV h1 (by omega)];exact aq ⟨⟨by(try simp only);omega,by(try simp only);omega,j⟩,by(try simp only);omega⟩
section
variable{l:QK}(hl:l.length≤1000){n:Int}(hn:1≤n∧n≤6)
include hl
theorem zv{i:Int}(h:0≤i∧i≤(l.length:Int)):Ho (bp l i) (fun r=>0≤r.2∧r.2≤(l.length:Int)):=by
 unfold bp;rw[bV h.1 (by omega),wrap_i64 (by omega) (by omega)];refine aH (fun _=>aq h) fun hi=>?_
 have j:i<(l.length:Int):=by simp only[ge_iff_le,decide_eq_true_eq]at hi;omega
 exact aV (by omega) (aq ⟨by(try simp only);omega,by(try simp only);omega⟩)
def uH:Nat→Nat
 | 0=>20
 | d+1=>2*uH d+3
omit hl in
theorem ES:∀d,d≤3→20≤uH d∧uH d≤200
 | 0,_=>by decide
 | 1,_=>by decide
 | 2,_=>by decide
 | 3,_=>by decide
include hn
theorem ED:∀(d f:Nat),d≤3→d<f→∀ {i:Int},(0≤i∧i≤(l.length:Int))→Ho (cH f n (d:Int) l i) (fun r=>r.1.length≤uH d∧0≤r.2∧r.2≤(l.length:Int))
 | _,0,_,h,_,_=>absurd h (by omega)
 | d,f+1,hd,hf,i,hi=>by
  obtain⟨A,B⟩:=ES d hd;simp only[cH];unfold dR;refine ao (zv hl hi) fun(c,j) p=>aH (fun _=>ao (sD (by omega) c) fun r q=>aq ⟨by(try simp only);omega,p⟩) fun u=>aV (by decide) ?_
  have v:0<d:=by simp only[decide_eq_true_eq]at u;omega
  obtain⟨d,rfl⟩:∃k,d=k+1:=⟨d - 1,by omega⟩;have x:i64.wrap (((d+1:Nat):Int) - 1)=(d:Int):=by rw[wrap_i64 (by omega) (by omega)];omega
  have em:uH (d+1)=2*uH d+3:=rfl;obtain⟨C,g2⟩:=ES d (by omega);rw[x];have q:=fun {i:Int} (hi:0≤i∧i≤(l.length:Int))=>ED d f (by omega) (by omega) hi
  refine aH (fun _=>aq ⟨by simp only[List.length_singleton];omega,p⟩) fun _=>aH (fun _=>?_) fun _=>aH (fun _=>?_) fun _=>aH (fun _=>?_) fun _=>aH (fun _=>?_) fun _=>aH (fun _=>?_) fun _=>aH (fun _=>?_) fun _=>aH (fun _=>?_) fun _=>?_
  ·exact ao (zv hl p) fun(c,j) p=>ao (oI hn _) fun r q=>aV (by simp only[List.length_cons,List.length_nil];omega) (aV (by simp only[List.length_append,List.length_cons,List.length_nil];omega) (aq ⟨by simp only[List.length_append,List.length_cons,List.length_nil];omega,p⟩))
  ·exact ao (zv hl p) fun(c,j) p=>ao (oI hn _) fun r q=>aV (by simp only[List.length_cons,List.length_nil];omega) (aV (by simp only[List.length_append,List.length_cons,List.length_nil];omega) (aq ⟨by simp only[List.length_append,List.length_cons,List.length_nil];omega,p⟩))
  iterate 3
   ·exact ao (q p) fun(t,j) ⟨(ht:t.length≤uH d),p⟩=>aV (by simp only[List.length_cons,List.length_nil];omega) (aV (by simp only[List.length_append,List.length_cons,List.length_nil];omega) (aq ⟨by simp only[List.length_append,List.length_cons,List.length_nil];omega,p⟩))
  ·exact ao (q p) fun(t,j) ⟨(ht:t.length≤uH d),p⟩=>ao (q p) fun(s,k) ⟨(z:s.length≤uH d),hk⟩=>aV (by simp only[List.length_cons,List.length_nil];omega) (aV (by simp only[List.length_append,List.length_cons,List.length_nil];omega) (aV (by simp only[List.length_append,List.length_cons,List.length_nil];omega) (aV (by simp only[List.length_append,List.length_cons,List.length_nil];omega) (aq ⟨by simp only[List.length_append,List.length_cons,List.length_nil];omega,hk⟩))))
  ·exact ao (q p) fun(t,j) ⟨(ht:t.length≤uH d),p⟩=>ao (q p) fun(s,k) ⟨(z:s.length≤uH d),hk⟩=>aV (by simp only[List.length_cons,List.length_nil];omega) (aV (by simp only[List.length_append,List.length_cons,List.length_nil];omega) (aq ⟨by simp only[List.length_append,List.length_cons,List.length_nil];omega,hk⟩))
  ·exact ao (sD (by omega) c) fun r q=>aq ⟨by(try simp only);omega,p⟩
end
theorem Ev{n:Int}(hn:1≤n∧n≤6)(l:QK):Ho (eM n l) (fun r=>r.length≤200):=by
 refine aH (fun _=>aq (by decide)) fun _=>aV (by omega) ?_
 exact ao (ED (by simp only[List.length_drop,List.length_take];omega) hn 3 1000 (by omega) (by omega) ⟨Int.le_refl _,by omega⟩) fun(t,j) ⟨(h1:t.length≤uH 3),_⟩=>aq (show t.length≤200 from Nat.le_trans h1 (by decide))
theorem AE{a b c:Int}{tr:QK}{l:List sJ}(ha:0≤a)(hl:∀i,0≤(l.getD i (0,[],([]:QK))).1):Ho (eR a b c tr l) (fun r=>r.length≤10000):=by
 refine ao (P:=fun n=>1≤n∧n≤6) ?_ fun n hn=>ao (oI hn _) fun t ht=>aV (by simp only[List.length_cons,List.length_nil];omega) (aV (by simp only[List.length_append,List.length_cons,List.length_nil];omega) (ao (P:=fun r=>r.length≤100) (aH (fun _=>aV (by simp only[List.length_append,List.length_cons,List.length_nil];omega) (ao (oI hn _) fun s B=>aV (by simp only[List.length_append,List.length_cons,List.length_nil];omega) (aV (by simp only[List.length_append,List.length_cons,List.length_nil];omega) (ao (oI hn _) fun u hu=>aV (by simp only[List.length_append,List.length_cons,List.length_nil];omega) (aV (by simp only[List.length_append,List.length_cons,List.length_nil];omega) (aq (by simp only[List.length_append,List.length_cons,List.length_nil];omega))))))) fun _=>aq (by simp only[List.length_append,List.length_cons,List.length_nil];omega)) fun v z=>ao (P:=fun r=>r.length≤200) ?_ fun v z=>ao (P:=fun r=>r.length≤10000) ?_ fun v z=>aq z))
 ·unfold bB;have:Int.tmod a 6=a % 6:=Int.tmod_eq_emod_of_nonneg ha;rw[this,wrap_i64 (x:=a % 6) (by omega) (by omega),wrap_i64 (by omega) (by omega)];exact aV (by decide) (aq ⟨by omega,by omega⟩)
 ·refine bG (fun(o,i)=>0≤i∧i≤n∧(o.length:Int)≤100+13*i) (fun(_,i)=>(n - i).toNat) ⟨Int.le_refl _,by omega,by(try simp only);omega⟩ fun(o,i) ⟨h1,h2,D⟩=>?_
  refine ao (P:=fun b=>b=true→i<(tr.length:Int)∧i<n) (aH (fun q=>aq fun r=>⟨of_decide_eq_true q,of_decide_eq_true r⟩) fun _=>aq fun h=>(by cases h)) fun q A=>aH (fun j=>?_) fun _=>aq (show o.length≤200 by omega)
  obtain⟨p,E⟩:=A j;refine aV (by simp only[List.length_cons,List.length_nil];omega) (ao (sD (by omega) _) fun r I=>aV (by simp only[List.length_append,List.length_cons,List.length_nil];omega) (aV (by simp only[List.length_append,List.length_cons,List.length_nil];omega) (aV ⟨h1,p⟩ (ao (sD (by omega) _) fun s B=>aV (by simp only[List.length_append,List.length_cons,List.length_nil];omega) (aV (by simp only[List.length_append,List.length_cons,List.length_nil];omega) ?_)))));rw[bV h1 (by omega)];exact aq ⟨⟨by(try simp only);omega,by(try simp only);omega,by simp only[List.length_append,List.length_cons,List.length_nil];omega⟩,by(try simp only);omega⟩
 ·refine bG (fun(o,i)=>0≤i∧i≤10∧(o.length:Int)≤200+410*i) (fun(_,i)=>(10 - i).toNat) ⟨Int.le_refl _,by omega,by(try simp only);omega⟩ fun(o,i) ⟨h1,h2,D⟩=>?_
  refine ao (P:=fun b=>b=true→i<(l.length:Int)∧i<10) (aH (fun q=>aq fun r=>⟨of_decide_eq_true q,of_decide_eq_true r⟩) fun _=>aq fun h=>(by cases h)) fun q A=>aH (fun j=>?_) fun _=>aq (show o.length≤10000 by omega)
  obtain⟨p,E⟩:=A j;have J:=hl i.toNat;have C:Int.tmod (l.getD i.toNat (0,[],([]:QK))).1 3=(l.getD i.toNat (0,[],([]:QK))).1 % 3:=Int.tmod_eq_emod_of_nonneg J;have M:=Et (L:=[([107,101,101,112,32]:QX),([109,97,121,32]:QX),([109,117,115,116,32]:QX)]) (k:=5) (by decide) (Int.tmod (l.getD i.toNat (0,[],([]:QK))).1 3).toNat;refine aV ⟨h1,p⟩ (aV (by decide) (aV (by rw[C];simp only[List.length_cons,List.length_nil];omega) (aV (by rw[C];simp only[List.length_cons,List.length_nil];omega) ?_)));generalize ([([107,101,101,112,32]:QX),([109,97,121,32]:QX),([109,117,115,116,32]:QX)]:QQ).getD (Int.tmod (l.getD i.toNat (0,[],([]:QK))).1 3).toNat []=w at M ⊢;refine aV (by omega) (aV ⟨h1,p⟩ (ao (Ev hn _) fun r I=>aV (by simp only[List.length_append];omega) (aV (by simp only[List.length_append,List.length_cons,List.length_nil];omega) (aV ⟨h1,p⟩ (ao (Ev hn _) fun s B=>aV (by simp only[List.length_append,List.length_cons,List.length_nil];omega) (aV (by simp only[List.length_append,List.length_cons,List.length_nil];omega) ?_))))));rw[bV h1 (by omega)];exact aq ⟨⟨by(try simp only);omega,by(try simp only);omega,by simp only[List.length_append,List.length_cons,List.length_nil];omega⟩,by(try simp only);omega⟩
theorem tf{n:Int}(hn:¬n=0)(l:QK):Ho (cX l n) (fun _=>True):=by
 refine ao (P:=fun _=>True) ?_ fun _ _=>aq trivial
 have p:([9,10,32,45,97,98,99,233,769,8205,20013,65533,128512]:QK).length=13:=rfl;unfold fI;generalize ([9,10,32,45,97,98,99,233,769,8205,20013,65533,128512]:QK)=L at p;refine bG (fun(o,i)=>0≤i∧i≤13∧(o.length:Int)≤i) (fun(_,i)=>(13 - i).toNat) ⟨Int.le_refl _,by omega,by simp⟩ fun(o,i) ⟨h1,h2,v⟩=>?_
 refine ao (P:=fun b=>b=true→i<13∧i<(l.length:Int)) (aH (fun q=>aq fun r=>⟨by have:=of_decide_eq_true q;omega,of_decide_eq_true r⟩) fun _=>aq fun h=>(by cases h)) fun q u=>aH (fun j=>?_) fun _=>aq trivial
 obtain⟨x,z⟩:=u j;refine aV (by omega) (aV (by omega) (aV (by omega) (aV (by omega) (aV (by omega) (aV hn (aV (by simp only[List.length_singleton];omega) ?_))))));rw[bV h1 (by omega)];exact aq ⟨⟨by(try simp only);omega,by(try simp only);omega,by simp only[List.length_append,List.length_singleton];omega⟩,by(try simp only);omega⟩
theorem Ax{l:QK}(hl:∀i,0≤l.getD i 0∧l.getD i 0≤255):Ho (eS l) (fun _=>True):=by
 refine ao (P:=fun _=>True) ?_ fun _ _=>aq trivial
 have u:([([97]:QX),([98]:QX),([99]:QX),([49]:QX),([50]:QX),([51]:QX),([32]:QX),([32]:QX),([97,49,98,32]:QX),([98,49,99,32]:QX),([50,99,32]:QX),([46,97,49]:QX),([99,46]:QX),([97,98,45,99,32]:QX),([99,97,45,98,45,97,32]:QX)]:QQ).length=15:=rfl;have p:∀x∈([([97]:QX),([98]:QX),([99]:QX),([49]:QX),([50]:QX),([51]:QX),([32]:QX),([32]:QX),([97,49,98,32]:QX),([98,49,99,32]:QX),([50,99,32]:QX),([46,97,49]:QX),([99,46]:QX),([97,98,45,99,32]:QX),([99,97,45,98,45,97,32]:QX)]:QQ),x.length≤7:=by decide
 unfold fA;generalize ([([97]:QX),([98]:QX),([99]:QX),([49]:QX),([50]:QX),([51]:QX),([32]:QX),([32]:QX),([97,49,98,32]:QX),([98,49,99,32]:QX),([50,99,32]:QX),([46,97,49]:QX),([99,46]:QX),([97,98,45,99,32]:QX),([99,97,45,98,45,97,32]:QX)]:QQ)=L at u p;refine bG (fun(o,i)=>0≤i∧i≤60∧(o.length:Int)≤7*i) (fun(_,i)=>(60 - i).toNat) ⟨Int.le_refl _,by omega,by simp⟩ fun(o,i) ⟨h1,h2,C⟩=>?_
 refine ao (P:=fun b=>b=true→i<(l.length:Int)∧i<60) (aH (fun q=>aq fun r=>⟨of_decide_eq_true q,of_decide_eq_true r⟩) fun _=>aq fun h=>(by cases h)) fun q v=>aH (fun j=>?_) fun _=>aq trivial
 obtain⟨z,D⟩:=v j;obtain⟨A,E⟩:=hl i.toNat;have B:Int.tmod (i64.wrap (l.getD i.toNat 0)) 15=l.getD i.toNat 0 % 15:=by rw[wrap_i64 (by omega) (by omega)];exact Int.tmod_eq_emod_of_nonneg A
 have I:=Et p (l.getD i.toNat 0 % 15).toNat;refine aV ⟨h1,z⟩ (aV (by decide) ?_);rw[B];refine aV (by omega) (aV (by omega) (aV (by omega) ?_));rw[bV h1 (by omega)];exact aq ⟨⟨by(try simp only);omega,by(try simp only);omega,by simp only[List.length_append];omega⟩,by(try simp only);omega⟩
def Np(a:Int)(l:List sJ):Prop:=0≤a∧∀i,0≤(l.getD i (0,[],([]:QK))).1
theorem AU{a:Int}(ha:0≤a)(b c:Int)(tr:QK)(l:List sJ):Ho (bB a b c tr l) (fun n=>¬n=0):=by
 unfold bB;have:Int.tmod a 6=a % 6:=Int.tmod_eq_emod_of_nonneg ha;rw[this,wrap_i64 (x:=a % 6) (by omega) (by omega),wrap_i64 (by omega) (by omega)];exact aV (by decide) (aq (show ¬1+a % 6=0 by omega))
theorem JG{A D E:Int}{I:QK}{B:List sJ}{C J L:Int}{M:QK}{p:List sJ}{q u v j:QK}{x z:Int}(h1:Np A B)(h2:Np C p)(N:∀i,0≤j.getD i 0∧j.getD i 0≤255):Ho (cW A D E I B C J L M p q u v j x z) (fun _=>True):=by
 exact ao (AU h1.1 _ _ _ _) fun n hn=>ao (tf hn _) fun _ _=>ao (AU h2.1 _ _ _ _) fun n hn=>ao (tf hn _) fun _ _=>ao (tf (by decide) _) fun _ _=>ao (AE h1.1 h1.2) fun _ _=>ao (AE h2.1 h2.2) fun _ _=>ao (Ax N) fun _ _=>aV (by decide) (aV (by decide) (aq trivial))
end
end Go.Proofs.YtobbjfkfmdiklaaGreatDoor.T
