import Derived.Test.YtflahpmlcfhpcaaGreatDoorTv30gfm
import Derived.Test.YtflahpmlcfhpcaaGreatDoorTv30im
import Derived.Test.YtflahpmlcfhpcaaGreatDoorTv30um
import Derived.Test.YtflahpmlcfhpcaaGreatDoorTvT20da
namespace Go.Proofs.YtflahpmlcfhpcaaGreatDoor.T
open Go Go.Tv Go.Proofs
open Go.IntKind (i64 u64)
noncomputable section
def RH(h:Option Z3):Prop:=∀x,h=some x→x.1.length≤256∧LV x.2.1∧qb x.2.2.1∧(1≤x.2.2.2.1∧x.2.2.2.1≤24)∧1≤x.2.2.2.2∧x.2.2.2.2≤24
theorem Fx{α:Type}(x:α):(some x).isSome=true:=rfl
theorem JY{a b:Int}(j:0≤a)(h:a<b)(hb:b≤1000000):a≤(i64.wrap (Int.fdiv (u64.wrap (i64.wrap (a+b))) (2 ^ (min (1:Int).toNat u64.bits))))∧(i64.wrap (Int.fdiv (u64.wrap (i64.wrap (a+b))) (2 ^ (min (1:Int).toNat u64.bits))))<b:=by
 rw[wrap_i64 (x:=a+b) (by omega) (by omega),EB];have e:(a+b) % 18446744073709551616=a+b:=by omega
 rw[e];have f:(2:Int) ^ (min (1:Int).toNat u64.bits)=2:=by decide
 rw[f,Int.fdiv_eq_ediv_of_nonneg _ (by omega),wrap_i64 (by omega) (by omega)];omega
theorem CU{h:Option Z3}(p:RH h)(r:Int):Ho (dJ h r) (fun _=>True):=by
 cases h with
 | none=>exact aq trivial
 | some x =>
 obtain⟨v,_⟩:=p x rfl;unfold dJ;rw[if_neg (by simp),if_pos (Fx x)];refine ao (P:=fun k=>0≤k∧k≤(x.1.length:Int)) (ao (P:=fun k=>0≤k∧k≤(x.1.length:Int)) (bF (fun(a,b)=>0≤a∧a≤b∧b≤(x.1.length:Int)) (fun(a,b)=>(b - a).toNat) ⟨Int.le_refl _,Int.natCast_nonneg _,Int.le_refl _⟩ fun(a,b) ⟨f,q,z⟩=>?_) fun k hk=>aq hk) fun k ⟨f,q⟩=>ao (P:=fun b=>b=false→k<(x.1.length:Int)) ?_ fun b hb=>aH (fun _=>aq trivial) fun u=>?_
 ·refine aH (fun e=>?_) fun _=>aq ⟨f,by omega⟩
  rw[dec_lt]at e;obtain⟨A,B⟩:=JY f e (by omega);refine aU (by decide) (ao (P:=fun _=>True) ?_ fun b _=>aH (fun _=>?_) fun _=>?_)
  ·unfold ez;rw[if_pos (Fx x)];exact aU ⟨by omega,by simp only[Option.getD_some];omega⟩ (aq trivial)
  ·rw[bU (by omega) (by omega)];exact aq ⟨⟨by(try simp only);omega,by(try simp only);omega,by(try simp only);omega⟩,by(try simp only);omega⟩
  ·exact aq ⟨⟨by(try simp only);omega,by(try simp only);omega,by(try simp only);omega⟩,by(try simp only);omega⟩
 ·rw[if_pos (Fx x)];refine aH (fun _=>aq fun h=>by cases h) fun j=>?_
  have e:k<(x.1.length:Int):=by simp only[Option.getD_some,beq_iff_eq]at j;omega
  rw[if_pos (Fx x)];exact aU ⟨f,e⟩ (aq fun _=>e)
 ·have e:=hb (by simpa using u);rw[if_pos (Fx x)];refine aU ⟨f,e⟩ ?_;rw[if_pos (Fx x)];exact aU ⟨f,e⟩ (aq trivial)
theorem Ae{l:List (QK×QK)}(hl:qb l)(w:QK):Ho (iX l w) (fun r=>0≤r→r<(l.length:Int)∧(l.getD r.toNat ([],[])).2.length=w.length+1):=by
 have p:=hl.1;refine ao (P:=Lp (fun _=>True) fun r=>0≤r→r<(l.length:Int)∧(l.getD r.toNat ([],[])).2.length=w.length+1) (bF (fun i=>0≤i∧i≤(l.length:Int)) (fun i=>((l.length:Int) - i).toNat) ⟨Int.le_refl _,by omega⟩ fun i ⟨j,q⟩=>?_) ?_
 ·refine aH (fun hi=>?_) fun _=>aq trivial
  rw[dec_lt]at hi;have e:=hl.2 _ (bR (i:=i.toNat) (by omega) ([],([]:QK)));refine aU ⟨j,hi⟩ (ao (P:=fun r=>r=true→(l.getD i.toNat ([],([]:QK))).1.length=w.length) (ao (zR (by have:=e.2;omega)) fun r f=>aq f) fun r f=>aH (fun ht=>aq fun _=>⟨hi,by rw[e.1,f ht]⟩) fun _=>?_);rw[bU j (by omega)];exact aq ⟨⟨by(try simp only);omega,by(try simp only);omega⟩,by(try simp only);omega⟩
 ·rintro(_ | r) h
  ·exact aq fun h=>absurd h (by decide)
  ·exact aq h
theorem Gm{h:Option Z3}(z:RH h){w:QK}(A:w.length≤4096):Ho (eL h w) (fun r=>r.length=w.length+1):=by
 have f:i64.wrap ((w.length:Int)+1)=((w.length+1:Nat):Int):=bH (by omega);unfold eL;rw[f];refine aU ⟨by omega,by omega,by omega,by omega⟩ (aH (fun _=>aq (by simp)) fun B=>?_);cases h with
 | none=>exact absurd rfl B
 | some x =>
 obtain⟨_,C,D,⟨L,_⟩,M,N⟩:=z x rfl;rw[if_pos (Fx x)];refine ao (E6 C A) fun v p=>?_
 rw[if_pos (Fx x)];refine ao (Ae D w) fun r q=>ao (P:=fun v=>v.length=w.length+1) ?_ fun v p=>?_
 ·refine aH (fun E=>?_) fun _=>aq p
  have e:0≤r:=of_decide_eq_true E;rw[if_pos (Fx x)];exact aU ⟨e,(q e).1⟩ (aq (q e).2)
 ·rw[if_pos (Fx x)];refine ao (P:=fun o=>o.length=w.length+1) (bF (fun(o,i)=>0≤i∧o.length=w.length+1) (fun(_,i)=>((w.length:Int)+1 - i).toNat) ⟨by simp only[Option.getD_some];omega,by simp⟩ fun(o,i) ⟨j,u⟩=>?_) fun o I=>aq I
  unfold gn;dsimp only;rw[if_pos (Fx x)];refine aH (fun hi=>?_) fun _=>aq u
  have J:i≤(w.length:Int) - x.2.2.2.2:=by have:=of_decide_eq_true hi;simp only[Option.getD_some]at this;rwa [wrap_i64 (by omega) (by omega)]at this
  refine aU ⟨j,by omega⟩ (aU (by decide) (aU ⟨j,by omega⟩ (aU (by omega) ?_)));rw[bU j (by omega)];exact aq ⟨⟨by(try simp only);omega,by simpa using u⟩,by(try simp only);omega⟩
theorem Ew{h:Option Z3}(p:RH h){l:XK}(hl:l.length≤4096):Ho (dF h l) (fun _=>True):=by
 have e:i64.wrap ((l.length:Int)+1)=((l.length+1:Nat):Int):=bH (by omega);unfold dF;rw[e];refine aU ⟨by omega,by omega,by omega,by omega⟩ (ao (P:=fun _=>True) (bF (fun(o,i)=>0≤i∧o.length=l.length+1) (fun(_,i)=>((l.length:Int)+1 - i).toNat) ⟨Int.le_refl _,by simp⟩ fun(o,i) ⟨u,v⟩=>?_) fun _ _=>aq trivial);refine aH (fun hi=>?_) fun _=>aq trivial
 rw[dec_lt]at hi;refine ao (P:=fun(j,w)=>i≤j∧j≤(l.length:Int)∧(w.length:Int)=j - i) (bF (fun(j,w)=>i≤j∧j≤(l.length:Int)∧(w.length:Int)=j - i) (fun(j,_)=>((l.length:Int) - j).toNat) ⟨Int.le_refl _,by omega,by simp⟩ fun(j,w) ⟨f,g2,g3⟩=>?_) fun(j,w) ⟨f,g2,g3⟩=>?_
 ·refine aH (fun q=>?_) fun _=>aq ⟨f,g2,g3⟩
  rw[dec_lt]at q;refine aU ⟨by omega,q⟩ (ao (CU p _) fun(c,ok) _=>aH (fun _=>aq ⟨f,g2,g3⟩) fun _=>aU (by simp only[List.length_singleton];omega) ?_);rw[bU (by omega) (by omega)];exact aq ⟨⟨by(try simp only);omega,by(try simp only);omega,by simp only[List.length_append,List.length_singleton];omega⟩,by(try simp only);omega⟩
 ·refine aU ⟨u,by omega⟩ (ao (Gm p (by omega)) fun r x=>aU ⟨by decide,by omega,by omega⟩ ?_);rw[bU (by omega) (by omega)];refine aq ⟨⟨by(try simp only);omega,?_⟩,by(try simp only);omega⟩;simp only[List.length_append,List.length_take,List.length_drop];omega
theorem yB(l:XK):Ho (nB l) (fun b=>b=true→l.length≤256):=by
 refine aH (fun _=>aq fun h=>by cases h) fun hl=>?_
 have e:l.length≤256:=by simp only[decide_eq_true_eq]at hl;omega
 refine ao (P:=fun _=>True) (bF (fun(_,i)=>0≤i∧i≤(l.length:Int)) (fun(_,i)=>((l.length:Int) - i).toNat) ⟨Int.le_refl _,by omega⟩ fun(q,i) ⟨f,j⟩=>?_) ?_
 ·refine aH (fun hi=>?_) fun _=>aq trivial
  rw[dec_lt]at hi;refine aU ⟨f,hi⟩ (ao (P:=fun _=>True) ?_ fun b _=>aH (fun _=>aq trivial) fun _=>?_)
  ·repeat' split
   all_goals exact aq trivial
  ·rw[bU f (by omega)];exact aq ⟨⟨by(try simp only);omega,by(try simp only);omega⟩,by(try simp only);omega⟩
 ·rintro(_ | r) _
  ·exact aq fun _=>e
  ·exact aq fun _=>e
theorem Cn(t:QX)(l:XK)(a b:Int):Ho (mQ t l a b) (fun r=>r.2.1=0∧RH r.1∨r.2.1≠0∧r.1=none):=by
 refine ao (yB l) fun ok e=>aH (fun _=>aq (.inr ⟨by decide,rfl⟩)) fun hk=>ao (P:=fun c=>c=false→(1≤a∧a≤24)∧1≤b∧b≤24) ?_ fun c hc=>aH (fun _=>aq (.inr ⟨by decide,rfl⟩)) fun f=>ao (yq t) fun(p,c) j=>aH (fun h=>aq (.inr ⟨by simpa using h,rfl⟩)) fun _=>?_
 ·refine aH (fun _=>aq fun h=>by cases h) fun q=>aH (fun _=>aq fun h=>by cases h) fun u=>aH (fun _=>aq fun h=>by cases h) fun v=>aq fun z=>?_
  simp only[decide_eq_true_eq,decide_eq_false_iff_not]at q u v z;omega
 ·have hl:=e (by simpa using hk);refine ao (P:=fun r=>r=l) ?_ fun r A=>ao (Bj j.1) fun t ⟨_,ht⟩=>aq (.inl ⟨rfl,fun x B=>?_⟩)
  ·refine aH (fun h=>aq (List.isEmpty_iff.1 h).symm) fun _=>aU (by simp only[List.length_nil];omega) (aq rfl)
  ·cases B;subst A;exact⟨hl,ht,j.2,hc (by simpa using f)⟩
structure RB(b:Option Z1):Prop where
 para:∀x,Bytes x→x.length≤4096→∃p,bc b x=some (p,0)∧PM (x.length:Int) p
 LR:∀x:QK,4096<x.length→bc b x=some (([],[]),3)
theorem K4{u v:Z5}{L M:Nat}{z A p:Option yU}{B C N:Int→Int}{h:Option Z3}(O:Mo u L)(V:Mo v M)(X:nW z B)(g2:nW A C)(g3:nW p N)(Y:RH h):RB (some (some u,some v,z,A,p,h)) where
 para x hb hl:=by
  obtain⟨s,Z,hc,a1⟩:=GF hb hl;have hr:=hc.range;have j:s.length≤4096:=by omega
  obtain⟨o1,e2,a2⟩:=xX O (w:=s.map fun x=>B x.1) (by simpa using j);obtain⟨o2,e3,D⟩:=xX V (w:=s.map fun x=>C x.1) (by simpa using j);rw[List.length_map]at D;obtain⟨E,e6,_⟩:=Ew Y j;obtain⟨⟨I,st⟩,e4,e⟩:=Ey g3 hc (by omega) o1;simp only at e;obtain⟨o,e5,J⟩:=FE j D E (st:=st) (by have:=e.len;have:=e.le;omega) (fun i hi=>e.at_ i hi) (fun h=>e.zero (by have:=e.len;omega));rw[e.len]at J;have a3:=e.le;refine⟨(I,o),?_,⟨e.I1,by simp only;omega,fun h=>e.some_ (by omega),J⟩⟩;have f:¬((x.length:Int) > 4096):=by omega
  have q:gw s o1 o2 E p=some (I,o):=by unfold gw lu;simp only[e4,Option.bind];rw[if_pos (by have:=e.len;simp;omega)];simp only[e5]
  unfold bc;simp only[Option.getD,Option.isNone,Option.isSome,f,decide_false,Bool.false_eq_true,if_false,if_true,Option.bind,Z,DM X j,DM g2 j,e2,e3,e6,q]
 LR x hx:=by
  have f:(x.length:Int) > 4096:=by omega
  unfold bc;simp only[Option.isNone,Bool.false_eq_true,if_false,f,decide_true,if_true]
theorem oB(l:XK)(j:Int):Ho (fS l j) (fun r=>r.2=0∧(∃f,nW r.1 f)∨r.2≠0):=by
 rcases tW l j with⟨e,_⟩ | ⟨t,e,_,h⟩
 ·exact⟨_,e,.inr (by decide)⟩
 ·exact⟨_,e,.inl ⟨rfl,_,h⟩⟩
theorem DO{m:Option Z5}:Ho (cj m) (fun _=>True):=by
 cases m with
 | none=>exact aq trivial
 | some x=>exact⟨_,rfl,trivial⟩
theorem Cd(u v x z:XK)(A B C:QX)(D E:Int):Ho (jX u v x z A B C D E) (fun r=>r.2.1=0∧RB r.1∨r.2.1≠0∧r.1=none):=by
 refine ao (vT A) fun(m1,L) e=>aH (fun h=>aq (.inr ⟨by simpa using h,rfl⟩)) fun M=>ao (vT B) fun(m2,N) f=>aH (fun h=>aq (.inr ⟨by simpa using h,rfl⟩)) fun O=>ao DO fun V _=>ao DO fun X _=>aU (by decide) (ao (oB u V) fun(t1,Y) j=>aH (fun h=>aq (.inr ⟨by simpa using h,rfl⟩)) fun Z=>aU (by decide) (ao (oB v X) fun(t2,e2) p=>aH (fun h=>aq (.inr ⟨by simpa using h,rfl⟩)) fun h4=>aU (by decide) (ao (oB x 3) fun(t3,e3) q=>aH (fun h=>aq (.inr ⟨by simpa using h,rfl⟩)) fun h5=>ao (Cn C z D E) fun(hy,e4) hh=>aH (fun h=>aq (.inr ⟨by simpa using h,rfl⟩)) fun h6=>aq (.inl ⟨rfl,?_⟩))))
 have z1:L.1=0:=by simpa using M
 have z2:N.1=0:=by simpa using O
 have z3:Y=0:=by simpa using Z
 have z4:e2=0:=by simpa using h4
 have z5:e3=0:=by simpa using h5
 have z6:e4.1=0:=by simpa using h6
 obtain⟨_,x1,I,r1,_⟩:=e.resolve_right fun h=>h.1 z1
 obtain⟨_,x2,J,r2,_⟩:=f.resolve_right fun h=>h.1 z2
 obtain⟨_,f1,g1⟩:=j.resolve_right fun h=>h z3
 obtain⟨_,f2,g2⟩:=p.resolve_right fun h=>h z4
 obtain⟨_,f3,g3⟩:=q.resolve_right fun h=>h z5
 obtain⟨_,rh⟩:=hh.resolve_right fun h=>h.1 z6
 simp only at I J;rw[I,J];exact K4 r1 r2 g1 g2 g3 rh
def MK(b:Option Z1):Prop:=∀x,bc b x=bc L7 x
theorem Jf:∃b,jX [] jK lS [] Fs Gl [] 2 2=some (b,0,0)∧MK b:=by
 obtain⟨q,u,v,e,f,j,p⟩:=KD;exact⟨_,e,Jx f j p⟩
theorem Fw{j e v x z:Int}{A:QJ}(h:im j e v x z A=some true):1≤e∧e≤64:=by
 unfold im at h;by_cases f:j≥1
 case neg=>simp[f]at h
 by_cases p:j≤1048576
 case neg=>simp[f,p]at h
 by_cases q:e≥1
 case neg=>simp[f,p,q]at h
 by_cases u:e≤64
 case neg=>simp[f,p,q,u]at h
 exact⟨q,u⟩
structure MQ(b:Option Z1)(c:Wy)(x:QK)(p:XQ×QK)(kn:Kn):Prop where
 K9:Bytes x
 len:x.length≤4096
 para:bc b x=some (p,0)
 pm:PM (x.length:Int) p
 wy:Jg c
 MP:Kh c kn
theorem zh(l:QX):Bytes (bZ l):=fun x e=>by
 unfold bZ at e;obtain⟨b,_,rfl⟩:=List.mem_map.1 e;have:=b.toNat_lt;omega
theorem Hb:∃S,fF=some S∧S.length=14∧∀i,(S.getD i []).length≤4:=by
 refine⟨_,rfl,rfl,fun i=>?_⟩;rcases(show i=0∨i=1∨i=2∨i=3∨i=4∨i=5∨i=6∨i=7∨i=8∨i=9∨i=10∨i=11∨i=12∨i=13∨14≤i by omega)with rfl | rfl | rfl | rfl | rfl | rfl | rfl | rfl | rfl | rfl | rfl | rfl | rfl | rfl | h
 case inr.inr.inr.inr.inr.inr.inr.inr.inr.inr.inr.inr.inr.inr=>rw[List.getD_eq_getElem?_getD,List.getElem?_eq_none (by simpa using h)];simp
 all_goals decide
theorem Gb{l:QK}(hl:l.length≤1000)(hb:∀i,0≤l.getD i 0∧l.getD i 0≤255):∃t,dW l=some t∧Bytes t∧t.length≤4*l.length:=by
 obtain⟨S,B,q,u⟩:=Hb;obtain⟨t,e,p,j⟩:=dC (body:=cY l) (fun z:QK×Int=>∃k:Nat,z.2=(k:Int)∧k≤l.length∧z.1.length≤4*k∧Bytes z.1) (fun z=>l.length - z.2.toNat) (fun t=>Bytes t∧t.length≤4*l.length) (by
  rintro⟨out,v⟩ ⟨k,rfl,hk,p,j⟩;simp only at p j;by_cases C:k<l.length
  ·left
   obtain⟨D,N⟩:=hb k;have E:i64.wrap (l.getD k 0)=l.getD k 0:=wrap_i64 (by omega) (by omega);have I:Int.tmod (l.getD k 0) 14=l.getD k 0 % 14:=Int.tmod_eq_emod_of_nonneg D;have A:(k:Int)<(l.length:Int):=by omega
   have J:0≤(k:Int):=by omega
   have L:0≤l.getD k 0 % 14∧l.getD k 0 % 14<(S.length:Int):=by rw[q];omega
   have O:=u (l.getD k 0 % 14).toNat;have g:out.length+(S.getD (l.getD k 0 % 14).toNat []).length≤140737488355328:=by omega
   have M:¬(14:Int)=0:=by decide
   refine⟨(out++bZ (S.getD (l.getD k 0 % 14).toNat []),((k+1:Nat):Int)),?_,⟨k+1,rfl,by omega,?_,?_⟩,by simp only[Int.toNat_natCast];omega⟩
   ·simp only[cY,B,Option.bind_some,A,J,and_self,decide_true,if_true,Int.toNat_natCast,E,I,L,M,not_false_eq_true,g,bH (show k≤9000000000000000000 by omega)]
   ·simp only[List.length_append];have:(bZ (S.getD (l.getD k 0 % 14).toNat [])).length=(S.getD (l.getD k 0 % 14).toNat []).length:=by simp[bZ]
    omega
   ·intro x f;rcases List.mem_append.1 f with f | f
    ·exact j x f
    ·exact zh _ x f
  ·right
   obtain rfl:k=l.length:=by omega
   refine⟨out,?_,j,p⟩;have A:¬((l.length:Int)<(l.length:Int)):=Int.lt_irrefl _;simp only[cY,A,decide_false,Bool.false_eq_true,if_false]) (s:=([],0)) ⟨0,rfl,by omega,by simp,fun x f=>by cases f⟩
 refine⟨t,?_,p,j⟩;unfold dW;rw[e];rfl
abbrev L4:=Int×(Int×Int)×Int×XQ×Bool
abbrev dst(c:Wy)(x:QK)(p:XQ×QK)(e:Kn)(out:List L4)(k:Int):XQ×Bool×Int×Int×Int×Int×Int×QJ×QK×XQ×QK×(Option ((XQ×QK)×(XQ×QZ)))×Kn×(List L4)×Int :=
 ((LF p.1 p.2 c).1,(LF p.1 p.2 c).2,c.1,c.2.1,c.2.2.1,c.2.2.2.1,c.2.2.2.2.1,c.2.2.2.2.2,x,p.1,p.2,some (JG p.1 p.2 c),e,out,k)
theorem De{L:QQ}{k:Nat}(h:∀x∈L,x.length≤k)(i:Nat):(L.getD i []).length≤k:=by
 rcases Nat.lt_or_ge i L.length with hi | hi
 ·exact h _ (bR hi _)
 ·rw[List.getD_eq_getElem?_getD,List.getElem?_eq_none hi];exact Nat.zero_le _
theorem qv{n:Int}(h:¬n=0)(i:Int):Ho (cm n i) (fun r=>r.length=1):=by
 refine aU h (aq ?_);simp[bytesOf]
theorem oH{n:Int}(h:1≤n∧n≤6)(b:Int):Ho (bY n b) (fun r=>r.length≤12):=by
 refine ao (P:=fun r=>r.length≤12) (bF (fun(o,i)=>0≤i∧i≤n∧(o.length:Int)≤2*i) (fun(_,i)=>(n - i).toNat) ⟨Int.le_refl _,by omega,Int.le_refl _⟩ fun(o,i) ⟨f,j,p⟩=>?_) fun r e=>aq e
 refine aH (fun hi=>?_) fun _=>aq (show o.length≤12 by omega)
 rw[dec_lt]at hi;refine aU f (aU (by decide) (ao (P:=fun r=>(r.length:Int)≤2*(i+1)) (aH (fun _=>aU (by simp only[List.length_singleton];omega) (ao (qv (by omega) i) fun r e=>aU (by simp only[List.length_append,List.length_singleton];omega) (aq ?_))) fun _=>aq (show(o.length:Int)≤2*(i+1) by omega)) fun r e=>?_))
 ·simp only[List.length_append,List.length_singleton];omega
 ·rw[bU f (by omega)];exact aq ⟨⟨by(try simp only);omega,by(try simp only);omega,e⟩,by(try simp only);omega⟩
section
variable{l:QK}(hl:l.length≤1000){n:Int}(hn:1≤n∧n≤6)
include hl
theorem y8{i:Int}(h:0≤i∧i≤(l.length:Int)):Ho (bp l i) (fun r=>0≤r.2∧r.2≤(l.length:Int)):=by
 unfold bp;rw[bU h.1 (by omega),wrap_i64 (by omega) (by omega)];refine aH (fun _=>aq h) fun hi=>?_
 have e:i<(l.length:Int):=by simp only[ge_iff_le,decide_eq_true_eq]at hi;omega
 exact aU (by omega) (aq ⟨by(try simp only);omega,by(try simp only);omega⟩)
def ud:Nat→Nat
 | 0=>20
 | d+1=>2*ud d+3
omit hl in
theorem DE:∀d,d≤3→20≤ud d∧ud d≤200
 | 0,_=>by decide
 | 1,_=>by decide
 | 2,_=>by decide
 | 3,_=>by decide
include hn
theorem Dv:∀(d f:Nat),d≤3→d<f→∀ {i:Int},(0≤i∧i≤(l.length:Int))→Ho (cE f n (d:Int) l i) (fun r=>r.1.length≤ud d∧0≤r.2∧r.2≤(l.length:Int))
 | _,0,_,h,_,_=>absurd h (by omega)
 | d,f+1,hd,z,i,hi=>by
  obtain⟨A,B⟩:=DE d hd;simp only[cE];unfold dL;refine ao (y8 hl hi) fun(c,j) e=>aH (fun _=>ao (qv (by omega) c) fun r p=>aq ⟨by(try simp only);omega,e⟩) fun q=>aU (by decide) ?_
  have u:0<d:=by simp only[decide_eq_true_eq]at q;omega
  obtain⟨d,rfl⟩:∃k,d=k+1:=⟨d - 1,by omega⟩;have v:i64.wrap (((d+1:Nat):Int) - 1)=(d:Int):=by rw[wrap_i64 (by omega) (by omega)];omega
  have em:ud (d+1)=2*ud d+3:=rfl;obtain⟨C,g2⟩:=DE d (by omega);rw[v];have p:=fun {i:Int} (hi:0≤i∧i≤(l.length:Int))=>Dv d f (by omega) (by omega) hi
  refine aH (fun _=>aq ⟨by simp only[List.length_singleton];omega,e⟩) fun _=>aH (fun _=>?_) fun _=>aH (fun _=>?_) fun _=>aH (fun _=>?_) fun _=>aH (fun _=>?_) fun _=>aH (fun _=>?_) fun _=>aH (fun _=>?_) fun _=>aH (fun _=>?_) fun _=>?_
  ·exact ao (y8 hl e) fun(c,j) e=>ao (oH hn _) fun r p=>aU (by simp only[List.length_cons,List.length_nil];omega) (aU (by simp only[List.length_append,List.length_cons,List.length_nil];omega) (aq ⟨by simp only[List.length_append,List.length_cons,List.length_nil];omega,e⟩))
  ·exact ao (y8 hl e) fun(c,j) e=>ao (oH hn _) fun r p=>aU (by simp only[List.length_cons,List.length_nil];omega) (aU (by simp only[List.length_append,List.length_cons,List.length_nil];omega) (aq ⟨by simp only[List.length_append,List.length_cons,List.length_nil];omega,e⟩))
  iterate 3
   ·exact ao (p e) fun(t,j) ⟨(ht:t.length≤ud d),e⟩=>aU (by simp only[List.length_cons,List.length_nil];omega) (aU (by simp only[List.length_append,List.length_cons,List.length_nil];omega) (aq ⟨by simp only[List.length_append,List.length_cons,List.length_nil];omega,e⟩))
  ·exact ao (p e) fun(t,j) ⟨(ht:t.length≤ud d),e⟩=>ao (p e) fun(s,k) ⟨(x:s.length≤ud d),hk⟩=>aU (by simp only[List.length_cons,List.length_nil];omega) (aU (by simp only[List.length_append,List.length_cons,List.length_nil];omega) (aU (by simp only[List.length_append,List.length_cons,List.length_nil];omega) (aU (by simp only[List.length_append,List.length_cons,List.length_nil];omega) (aq ⟨by simp only[List.length_append,List.length_cons,List.length_nil];omega,hk⟩))))
  ·exact ao (p e) fun(t,j) ⟨(ht:t.length≤ud d),e⟩=>ao (p e) fun(s,k) ⟨(x:s.length≤ud d),hk⟩=>aU (by simp only[List.length_cons,List.length_nil];omega) (aU (by simp only[List.length_append,List.length_cons,List.length_nil];omega) (aq ⟨by simp only[List.length_append,List.length_cons,List.length_nil];omega,hk⟩))
  ·exact ao (qv (by omega) c) fun r p=>aq ⟨by(try simp only);omega,e⟩
end
theorem D4{n:Int}(hn:1≤n∧n≤6)(l:QK):Ho (eK n l) (fun r=>r.length≤200):=by
 refine aH (fun _=>aq (by decide)) fun _=>aU (by omega) ?_
 exact ao (Dv (by simp only[List.length_drop,List.length_take];omega) hn 3 1000 (by omega) (by omega) ⟨Int.le_refl _,by omega⟩) fun(t,j) ⟨(e:t.length≤ud 3),_⟩=>aq (show t.length≤200 from Nat.le_trans e (by decide))
theorem AS{a b c:Int}{tr:QK}{l:List wE}(ha:0≤a)(hl:∀i,0≤(l.getD i (0,[],([]:QK))).1):Ho (eH a b c tr l) (fun r=>r.length≤10000):=by
 refine ao (P:=fun n=>1≤n∧n≤6) ?_ fun n hn=>ao (oH hn _) fun t ht=>aU (by simp only[List.length_cons,List.length_nil];omega) (aU (by simp only[List.length_append,List.length_cons,List.length_nil];omega) (ao (P:=fun r=>r.length≤100) (aH (fun _=>aU (by simp only[List.length_append,List.length_cons,List.length_nil];omega) (ao (oH hn _) fun s A=>aU (by simp only[List.length_append,List.length_cons,List.length_nil];omega) (aU (by simp only[List.length_append,List.length_cons,List.length_nil];omega) (ao (oH hn _) fun u hu=>aU (by simp only[List.length_append,List.length_cons,List.length_nil];omega) (aU (by simp only[List.length_append,List.length_cons,List.length_nil];omega) (aq (by simp only[List.length_append,List.length_cons,List.length_nil];omega))))))) fun _=>aq (by simp only[List.length_append,List.length_cons,List.length_nil];omega)) fun v p=>ao (P:=fun r=>r.length≤200) ?_ fun v p=>ao (P:=fun r=>r.length≤10000) ?_ fun v p=>aq p))
 ·unfold bu;have:Int.tmod a 6=a % 6:=Int.tmod_eq_emod_of_nonneg ha;rw[this,wrap_i64 (x:=a % 6) (by omega) (by omega),wrap_i64 (by omega) (by omega)];exact aU (by decide) (aq ⟨by omega,by omega⟩)
 ·refine bF (fun(o,i)=>0≤i∧i≤n∧(o.length:Int)≤100+13*i) (fun(_,i)=>(n - i).toNat) ⟨Int.le_refl _,by omega,by(try simp only);omega⟩ fun(o,i) ⟨e,C,D⟩=>?_
  refine ao (P:=fun b=>b=true→i<(tr.length:Int)∧i<n) (aH (fun q=>aq fun r=>⟨of_decide_eq_true q,of_decide_eq_true r⟩) fun _=>aq fun h=>(by cases h)) fun q z=>aH (fun f=>?_) fun _=>aq (show o.length≤200 by omega)
  obtain⟨j,E⟩:=z f;refine aU (by simp only[List.length_cons,List.length_nil];omega) (ao (qv (by omega) _) fun r I=>aU (by simp only[List.length_append,List.length_cons,List.length_nil];omega) (aU (by simp only[List.length_append,List.length_cons,List.length_nil];omega) (aU ⟨e,j⟩ (ao (qv (by omega) _) fun s A=>aU (by simp only[List.length_append,List.length_cons,List.length_nil];omega) (aU (by simp only[List.length_append,List.length_cons,List.length_nil];omega) ?_)))));rw[bU e (by omega)];exact aq ⟨⟨by(try simp only);omega,by(try simp only);omega,by simp only[List.length_append,List.length_cons,List.length_nil];omega⟩,by(try simp only);omega⟩
 ·refine bF (fun(o,i)=>0≤i∧i≤10∧(o.length:Int)≤200+410*i) (fun(_,i)=>(10 - i).toNat) ⟨Int.le_refl _,by omega,by(try simp only);omega⟩ fun(o,i) ⟨e,C,D⟩=>?_
  refine ao (P:=fun b=>b=true→i<(l.length:Int)∧i<10) (aH (fun q=>aq fun r=>⟨of_decide_eq_true q,of_decide_eq_true r⟩) fun _=>aq fun h=>(by cases h)) fun q z=>aH (fun f=>?_) fun _=>aq (show o.length≤10000 by omega)
  obtain⟨j,E⟩:=z f;have J:=hl i.toNat;have B:Int.tmod (l.getD i.toNat (0,[],([]:QK))).1 3=(l.getD i.toNat (0,[],([]:QK))).1 % 3:=Int.tmod_eq_emod_of_nonneg J;have M:=De (L:=[([107,101,101,112,32]:QX),([109,97,121,32]:QX),([109,117,115,116,32]:QX)]) (k:=5) (by decide) (Int.tmod (l.getD i.toNat (0,[],([]:QK))).1 3).toNat;refine aU ⟨e,j⟩ (aU (by decide) (aU (by rw[B];simp only[List.length_cons,List.length_nil];omega) (aU (by rw[B];simp only[List.length_cons,List.length_nil];omega) ?_)));generalize ([([107,101,101,112,32]:QX),([109,97,121,32]:QX),([109,117,115,116,32]:QX)]:QQ).getD (Int.tmod (l.getD i.toNat (0,[],([]:QK))).1 3).toNat []=w at M ⊢;refine aU (by omega) (aU ⟨e,j⟩ (ao (D4 hn _) fun r I=>aU (by simp only[List.length_append];omega) (aU (by simp only[List.length_append,List.length_cons,List.length_nil];omega) (aU ⟨e,j⟩ (ao (D4 hn _) fun s A=>aU (by simp only[List.length_append,List.length_cons,List.length_nil];omega) (aU (by simp only[List.length_append,List.length_cons,List.length_nil];omega) ?_))))));rw[bU e (by omega)];exact aq ⟨⟨by(try simp only);omega,by(try simp only);omega,by simp only[List.length_append,List.length_cons,List.length_nil];omega⟩,by(try simp only);omega⟩
theorem sO{n:Int}(hn:¬n=0)(l:QK):Ho (cS l n) (fun _=>True):=by
 refine ao (P:=fun _=>True) ?_ fun _ _=>aq trivial
 have f:([9,10,32,45,97,98,99,233,769,8205,20013,65533,128512]:QK).length=13:=rfl;unfold fC;generalize ([9,10,32,45,97,98,99,233,769,8205,20013,65533,128512]:QK)=L at f;refine bF (fun(o,i)=>0≤i∧i≤13∧(o.length:Int)≤i) (fun(_,i)=>(13 - i).toNat) ⟨Int.le_refl _,by omega,by simp⟩ fun(o,i) ⟨j,u,v⟩=>?_
 refine ao (P:=fun b=>b=true→i<13∧i<(l.length:Int)) (aH (fun q=>aq fun r=>⟨by have:=of_decide_eq_true q;omega,of_decide_eq_true r⟩) fun _=>aq fun h=>(by cases h)) fun q p=>aH (fun e=>?_) fun _=>aq trivial
 obtain⟨x,z⟩:=p e;refine aU (by omega) (aU (by omega) (aU (by omega) (aU (by omega) (aU (by omega) (aU hn (aU (by simp only[List.length_singleton];omega) ?_))))));rw[bU j (by omega)];exact aq ⟨⟨by(try simp only);omega,by(try simp only);omega,by simp only[List.length_append,List.length_singleton];omega⟩,by(try simp only);omega⟩
theorem AX{l:QK}(hl:∀i,0≤l.getD i 0∧l.getD i 0≤255):Ho (eJ l) (fun _=>True):=by
 refine ao (P:=fun _=>True) ?_ fun _ _=>aq trivial
 have p:([([97]:QX),([98]:QX),([99]:QX),([49]:QX),([50]:QX),([51]:QX),([32]:QX),([32]:QX),([97,49,98,32]:QX),([98,49,99,32]:QX),([50,99,32]:QX),([46,97,49]:QX),([99,46]:QX),([97,98,45,99,32]:QX),([99,97,45,98,45,97,32]:QX)]:QQ).length=15:=rfl;have f:∀x∈([([97]:QX),([98]:QX),([99]:QX),([49]:QX),([50]:QX),([51]:QX),([32]:QX),([32]:QX),([97,49,98,32]:QX),([98,49,99,32]:QX),([50,99,32]:QX),([46,97,49]:QX),([99,46]:QX),([97,98,45,99,32]:QX),([99,97,45,98,45,97,32]:QX)]:QQ),x.length≤7:=by decide
 unfold fe;generalize ([([97]:QX),([98]:QX),([99]:QX),([49]:QX),([50]:QX),([51]:QX),([32]:QX),([32]:QX),([97,49,98,32]:QX),([98,49,99,32]:QX),([50,99,32]:QX),([46,97,49]:QX),([99,46]:QX),([97,98,45,99,32]:QX),([99,97,45,98,45,97,32]:QX)]:QQ)=L at p f;refine bF (fun(o,i)=>0≤i∧i≤60∧(o.length:Int)≤7*i) (fun(_,i)=>(60 - i).toNat) ⟨Int.le_refl _,by omega,by simp⟩ fun(o,i) ⟨j,B,C⟩=>?_
 refine ao (P:=fun b=>b=true→i<(l.length:Int)∧i<60) (aH (fun q=>aq fun r=>⟨of_decide_eq_true q,of_decide_eq_true r⟩) fun _=>aq fun h=>(by cases h)) fun q u=>aH (fun e=>?_) fun _=>aq trivial
 obtain⟨v,D⟩:=u e;obtain⟨z,E⟩:=hl i.toNat;have A:Int.tmod (i64.wrap (l.getD i.toNat 0)) 15=l.getD i.toNat 0 % 15:=by rw[wrap_i64 (by omega) (by omega)];exact Int.tmod_eq_emod_of_nonneg z
 have I:=De f (l.getD i.toNat 0 % 15).toNat;refine aU ⟨j,v⟩ (aU (by decide) ?_);rw[A];refine aU (by omega) (aU (by omega) (aU (by omega) ?_));rw[bU j (by omega)];exact aq ⟨⟨by(try simp only);omega,by(try simp only);omega,by simp only[List.length_append];omega⟩,by(try simp only);omega⟩
def Lw(a:Int)(l:List wE):Prop:=0≤a∧∀i,0≤(l.getD i (0,[],([]:QK))).1
theorem zZ{a:Int}(ha:0≤a)(b c:Int)(tr:QK)(l:List wE):Ho (bu a b c tr l) (fun n=>¬n=0):=by
 unfold bu;have:Int.tmod a 6=a % 6:=Int.tmod_eq_emod_of_nonneg ha;rw[this,wrap_i64 (x:=a % 6) (by omega) (by omega),wrap_i64 (by omega) (by omega)];exact aU (by decide) (aq (show ¬1+a % 6=0 by omega))
theorem Hx{A D E:Int}{I:QK}{B:List wE}{C J L:Int}{M:QK}{f:List wE}{j p q e:QK}{u v:Int}(x:Lw A B)(z:Lw C f)(N:∀i,0≤e.getD i 0∧e.getD i 0≤255):Ho (dA A D E I B C J L M f j p q e u v) (fun _=>True):=by
 exact ao (zZ x.1 _ _ _ _) fun n hn=>ao (sO hn _) fun _ _=>ao (zZ z.1 _ _ _ _) fun n hn=>ao (sO hn _) fun _ _=>ao (sO (by decide) _) fun _ _=>ao (AS x.1 x.2) fun _ _=>ao (AS z.1 z.2) fun _ _=>ao (AX N) fun _ _=>aU (by decide) (aU (by decide) (aq trivial))
end
end Go.Proofs.YtflahpmlcfhpcaaGreatDoor.T
