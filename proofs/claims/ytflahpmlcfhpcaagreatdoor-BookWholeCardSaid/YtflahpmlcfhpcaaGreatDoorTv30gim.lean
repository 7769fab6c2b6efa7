import Derived.Test.YtflahpmlcfhpcaaGreatDoorTv30gfm
import Derived.Test.YtflahpmlcfhpcaaGreatDoorTv30im
import Derived.Test.YtflahpmlcfhpcaaGreatDoorTv30um
import Derived.Test.YtflahpmlcfhpcaaGreatDoorTvT20da
namespace Go.Proofs.YtflahpmlcfhpcaaGreatDoor.T
open Go Go.Tv Go.Proofs
open Go.IntKind (i64 u64)
noncomputable section
def RH(h:Option Z3):Prop:=∀x,h=some x→x.1.length≤256∧L9 x.2.1∧qm x.2.2.1∧(1≤x.2.2.2.1∧x.2.2.2.1≤24)∧1≤x.2.2.2.2∧x.2.2.2.2≤24
theorem Gt{α:Type}(x:α):(some x).isSome=true:=rfl
theorem JY{a b:Int}(j:0≤a)(h:a<b)(hb:b≤1000000):a≤(i64.wrap (Int.fdiv (u64.wrap (i64.wrap (a+b))) (2 ^ (min (1:Int).toNat u64.bits))))∧(i64.wrap (Int.fdiv (u64.wrap (i64.wrap (a+b))) (2 ^ (min (1:Int).toNat u64.bits))))<b:=by
 rw[wrap_i64 (x:=a+b) (by omega) (by omega),E9];have e:(a+b) % 18446744073709551616=a+b:=by omega
 rw[e];have f:(2:Int) ^ (min (1:Int).toNat u64.bits)=2:=by decide
 rw[f,Int.fdiv_eq_ediv_of_nonneg _ (by omega),wrap_i64 (by omega) (by omega)];omega
theorem C2{h:Option Z3}(p:RH h)(r:Int):Ho (dJ h r) (fun _=>True):=by
 cases h with
 | none=>exact aq trivial
 | some x =>
 obtain⟨v,_⟩:=p x rfl;unfold dJ;rw[if_neg (by simp),if_pos (Gt x)];refine ao (P:=fun k=>0≤k∧k≤(x.1.length:Int)) (ao (P:=fun k=>0≤k∧k≤(x.1.length:Int)) (bG (fun(a,b)=>0≤a∧a≤b∧b≤(x.1.length:Int)) (fun(a,b)=>(b - a).toNat) ⟨Int.le_refl _,Int.natCast_nonneg _,Int.le_refl _⟩ fun(a,b) ⟨f,q,z⟩=>?_) fun k hk=>aq hk) fun k ⟨f,q⟩=>ao (P:=fun b=>b=false→k<(x.1.length:Int)) ?_ fun b hb=>aH (fun _=>aq trivial) fun u=>?_
 ·refine aH (fun e=>?_) fun _=>aq ⟨f,by omega⟩
  rw[dec_lt]at e;obtain⟨A,B⟩:=JY f e (by omega);refine aU (by decide) (ao (P:=fun _=>True) ?_ fun b _=>aH (fun _=>?_) fun _=>?_)
  ·unfold dZ;rw[if_pos (Gt x)];exact aU ⟨by omega,by simp only[Option.getD_some];omega⟩ (aq trivial)
  ·rw[bT (by omega) (by omega)];exact aq ⟨⟨by(try simp only);omega,by(try simp only);omega,by(try simp only);omega⟩,by(try simp only);omega⟩
  ·exact aq ⟨⟨by(try simp only);omega,by(try simp only);omega,by(try simp only);omega⟩,by(try simp only);omega⟩
 ·rw[if_pos (Gt x)];refine aH (fun _=>aq fun h=>by cases h) fun j=>?_
  have e:k<(x.1.length:Int):=by simp only[Option.getD_some,beq_iff_eq]at j;omega
  rw[if_pos (Gt x)];exact aU ⟨f,e⟩ (aq fun _=>e)
 ·have e:=hb (by simpa using u);rw[if_pos (Gt x)];refine aU ⟨f,e⟩ ?_;rw[if_pos (Gt x)];exact aU ⟨f,e⟩ (aq trivial)
theorem AR{l:List (QK×QK)}(hl:qm l)(w:QK):Ho (iL l w) (fun r=>0≤r→r<(l.length:Int)∧(l.getD r.toNat ([],[])).2.length=w.length+1):=by
 have p:=hl.1;refine ao (P:=Lp (fun _=>True) fun r=>0≤r→r<(l.length:Int)∧(l.getD r.toNat ([],[])).2.length=w.length+1) (bG (fun i=>0≤i∧i≤(l.length:Int)) (fun i=>((l.length:Int) - i).toNat) ⟨Int.le_refl _,by omega⟩ fun i ⟨j,q⟩=>?_) ?_
 ·refine aH (fun hi=>?_) fun _=>aq trivial
  rw[dec_lt]at hi;have e:=hl.2 _ (bS (i:=i.toNat) (by omega) ([],([]:QK)));refine aU ⟨j,hi⟩ (ao (P:=fun r=>r=true→(l.getD i.toNat ([],([]:QK))).1.length=w.length) (ao (Ax (by have:=e.2;omega)) fun r f=>aq f) fun r f=>aH (fun ht=>aq fun _=>⟨hi,by rw[e.1,f ht]⟩) fun _=>?_);rw[bT j (by omega)];exact aq ⟨⟨by(try simp only);omega,by(try simp only);omega⟩,by(try simp only);omega⟩
 ·rintro(_ | r) h
  ·exact aq fun h=>absurd h (by decide)
  ·exact aq h
theorem FE{h:Option Z3}(z:RH h){w:QK}(A:w.length≤4096):Ho (eQ h w) (fun r=>r.length=w.length+1):=by
 have f:i64.wrap ((w.length:Int)+1)=((w.length+1:Nat):Int):=bJ (by omega);unfold eQ;rw[f];refine aU ⟨by omega,by omega,by omega,by omega⟩ (aH (fun _=>aq (by simp)) fun B=>?_);cases h with
 | none=>exact absurd rfl B
 | some x =>
 obtain⟨_,C,D,⟨L,_⟩,M,N⟩:=z x rfl;rw[if_pos (Gt x)];refine ao (EK C A) fun v p=>?_
 rw[if_pos (Gt x)];refine ao (AR D w) fun r q=>ao (P:=fun v=>v.length=w.length+1) ?_ fun v p=>?_
 ·refine aH (fun E=>?_) fun _=>aq p
  have e:0≤r:=of_decide_eq_true E;rw[if_pos (Gt x)];exact aU ⟨e,(q e).1⟩ (aq (q e).2)
 ·rw[if_pos (Gt x)];refine ao (P:=fun o=>o.length=w.length+1) (bG (fun(o,i)=>0≤i∧o.length=w.length+1) (fun(_,i)=>((w.length:Int)+1 - i).toNat) ⟨by simp only[Option.getD_some];omega,by simp⟩ fun(o,i) ⟨j,u⟩=>?_) fun o I=>aq I
  unfold gw;dsimp only;rw[if_pos (Gt x)];refine aH (fun hi=>?_) fun _=>aq u
  have J:i≤(w.length:Int) - x.2.2.2.2:=by have:=of_decide_eq_true hi;simp only[Option.getD_some]at this;rwa [wrap_i64 (by omega) (by omega)]at this
  refine aU ⟨j,by omega⟩ (aU (by decide) (aU ⟨j,by omega⟩ (aU (by omega) ?_)));rw[bT j (by omega)];exact aq ⟨⟨by(try simp only);omega,by simpa using u⟩,by(try simp only);omega⟩
theorem E1{h:Option Z3}(p:RH h){l:XK}(hl:l.length≤4096):Ho (dG h l) (fun _=>True):=by
 have e:i64.wrap ((l.length:Int)+1)=((l.length+1:Nat):Int):=bJ (by omega);unfold dG;rw[e];refine aU ⟨by omega,by omega,by omega,by omega⟩ (ao (P:=fun _=>True) (bG (fun(o,i)=>0≤i∧o.length=l.length+1) (fun(_,i)=>((l.length:Int)+1 - i).toNat) ⟨Int.le_refl _,by simp⟩ fun(o,i) ⟨u,v⟩=>?_) fun _ _=>aq trivial);refine aH (fun hi=>?_) fun _=>aq trivial
 rw[dec_lt]at hi;refine ao (P:=fun(j,w)=>i≤j∧j≤(l.length:Int)∧(w.length:Int)=j - i) (bG (fun(j,w)=>i≤j∧j≤(l.length:Int)∧(w.length:Int)=j - i) (fun(j,_)=>((l.length:Int) - j).toNat) ⟨Int.le_refl _,by omega,by simp⟩ fun(j,w) ⟨f,g2,g3⟩=>?_) fun(j,w) ⟨f,g2,g3⟩=>?_
 ·refine aH (fun q=>?_) fun _=>aq ⟨f,g2,g3⟩
  rw[dec_lt]at q;refine aU ⟨by omega,q⟩ (ao (C2 p _) fun(c,ok) _=>aH (fun _=>aq ⟨f,g2,g3⟩) fun _=>aU (by simp only[List.length_singleton];omega) ?_);rw[bT (by omega) (by omega)];exact aq ⟨⟨by(try simp only);omega,by(try simp only);omega,by simp only[List.length_append,List.length_singleton];omega⟩,by(try simp only);omega⟩
 ·refine aU ⟨u,by omega⟩ (ao (FE p (by omega)) fun r x=>aU ⟨by decide,by omega,by omega⟩ ?_);rw[bT (by omega) (by omega)];refine aq ⟨⟨by(try simp only);omega,?_⟩,by(try simp only);omega⟩;simp only[List.length_append,List.length_take,List.length_drop];omega
theorem zr(l:XK):Ho (nt l) (fun b=>b=true→l.length≤256):=by
 refine aH (fun _=>aq fun h=>by cases h) fun hl=>?_
 have e:l.length≤256:=by simp only[decide_eq_true_eq]at hl;omega
 refine ao (P:=fun _=>True) (bG (fun(_,i)=>0≤i∧i≤(l.length:Int)) (fun(_,i)=>((l.length:Int) - i).toNat) ⟨Int.le_refl _,by omega⟩ fun(q,i) ⟨f,j⟩=>?_) ?_
 ·refine aH (fun hi=>?_) fun _=>aq trivial
  rw[dec_lt]at hi;refine aU ⟨f,hi⟩ (ao (P:=fun _=>True) ?_ fun b _=>aH (fun _=>aq trivial) fun _=>?_)
  ·repeat' split
   all_goals exact aq trivial
  ·rw[bT f (by omega)];exact aq ⟨⟨by(try simp only);omega,by(try simp only);omega⟩,by(try simp only);omega⟩
 ·rintro(_ | r) _
  ·exact aq fun _=>e
  ·exact aq fun _=>e
theorem Cc(t:QX)(l:XK)(a b:Int):Ho (mD t l a b) (fun r=>r.2.1=0∧RH r.1∨r.2.1≠0∧r.1=none):=by
 refine ao (zr l) fun ok e=>aH (fun _=>aq (.inr ⟨by decide,rfl⟩)) fun hk=>ao (P:=fun c=>c=false→(1≤a∧a≤24)∧1≤b∧b≤24) ?_ fun c hc=>aH (fun _=>aq (.inr ⟨by decide,rfl⟩)) fun f=>ao (yG t) fun(p,c) j=>aH (fun h=>aq (.inr ⟨by simpa using h,rfl⟩)) fun _=>?_
 ·refine aH (fun _=>aq fun h=>by cases h) fun q=>aH (fun _=>aq fun h=>by cases h) fun u=>aH (fun _=>aq fun h=>by cases h) fun v=>aq fun z=>?_
  simp only[decide_eq_true_eq,decide_eq_false_iff_not]at q u v z;omega
 ·have hl:=e (by simpa using hk);refine ao (P:=fun r=>r=l) ?_ fun r A=>ao (AA j.1) fun t ⟨_,ht⟩=>aq (.inl ⟨rfl,fun x B=>?_⟩)
  ·refine aH (fun h=>aq (List.isEmpty_iff.1 h).symm) fun _=>aU (by simp only[List.length_nil];omega) (aq rfl)
  ·cases B;subst A;exact⟨hl,ht,j.2,hc (by simpa using f)⟩
structure RB(b:Option Z1):Prop where
 para:∀x,Bytes x→x.length≤4096→∃p,bc b x=some (p,0)∧PM (x.length:Int) p
 LN:∀x:QK,4096<x.length→bc b x=some (([],[]),3)
theorem KB{u v:Z5}{L M:Nat}{z A p:Option y5}{B C N:Int→Int}{h:Option Z3}(O:Mo u L)(V:Mo v M)(X:nZ z B)(g2:nZ A C)(g3:nZ p N)(Y:RH h):RB (some (some u,some v,z,A,p,h)) where
 para x hb hl:=by
  obtain⟨s,Z,hc,a1⟩:=G1 hb hl;have hr:=hc.range;have j:s.length≤4096:=by omega
  obtain⟨o1,e2,a2⟩:=xR O (w:=s.map fun x=>B x.1) (by simpa using j);obtain⟨o2,e3,D⟩:=xR V (w:=s.map fun x=>C x.1) (by simpa using j);rw[List.length_map]at D;obtain⟨E,e6,_⟩:=E1 Y j;obtain⟨⟨I,st⟩,e4,e⟩:=Ek g3 hc (by omega) o1;simp only at e;obtain⟨o,e5,J⟩:=Fu j D E (st:=st) (by have:=e.len;have:=e.le;omega) (fun i hi=>e.at_ i hi) (fun h=>e.zero (by have:=e.len;omega));rw[e.len]at J;have a3:=e.le;refine⟨(I,o),?_,⟨e.HW,by simp only;omega,fun h=>e.some_ (by omega),J⟩⟩;have f:¬((x.length:Int) > 4096):=by omega
  have q:gr s o1 o2 E p=some (I,o):=by unfold gr kT;simp only[e4,Option.bind];rw[if_pos (by have:=e.len;simp;omega)];simp only[e5]
  unfold bc;simp only[Option.getD,Option.isNone,Option.isSome,f,decide_false,Bool.false_eq_true,if_false,if_true,Option.bind,Z,Dz X j,Dz g2 j,e2,e3,e6,q]
 LN x hx:=by
  have f:(x.length:Int) > 4096:=by omega
  unfold bc;simp only[Option.isNone,Bool.false_eq_true,if_false,f,decide_true,if_true]
theorem oT(l:XK)(j:Int):Ho (fU l j) (fun r=>r.2=0∧(∃f,nZ r.1 f)∨r.2≠0):=by
 rcases td l j with⟨e,_⟩ | ⟨t,e,_,h⟩
 ·exact⟨_,e,.inr (by decide)⟩
 ·exact⟨_,e,.inl ⟨rfl,_,h⟩⟩
theorem DH{m:Option Z5}:Ho (cq m) (fun _=>True):=by
 cases m with
 | none=>exact aq trivial
 | some x=>exact⟨_,rfl,trivial⟩
theorem CR(u v x z:XK)(A B C:QX)(D E:Int):Ho (jS u v x z A B C D E) (fun r=>r.2.1=0∧RB r.1∨r.2.1≠0∧r.1=none):=by
 refine ao (vI A) fun(m1,L) e=>aH (fun h=>aq (.inr ⟨by simpa using h,rfl⟩)) fun M=>ao (vI B) fun(m2,N) f=>aH (fun h=>aq (.inr ⟨by simpa using h,rfl⟩)) fun O=>ao DH fun V _=>ao DH fun X _=>aU (by decide) (ao (oT u V) fun(t1,Y) j=>aH (fun h=>aq (.inr ⟨by simpa using h,rfl⟩)) fun Z=>aU (by decide) (ao (oT v X) fun(t2,e2) p=>aH (fun h=>aq (.inr ⟨by simpa using h,rfl⟩)) fun h4=>aU (by decide) (ao (oT x 3) fun(t3,e3) q=>aH (fun h=>aq (.inr ⟨by simpa using h,rfl⟩)) fun h5=>ao (Cc C z D E) fun(hy,e4) hh=>aH (fun h=>aq (.inr ⟨by simpa using h,rfl⟩)) fun h6=>aq (.inl ⟨rfl,?_⟩))))
 have z1:L.1=0:=by simpa using M
 have z2:N.1=0:=by simpa using O
 have z3:Y=0:=by simpa using Z
 have z4:e2=0:=by simpa using h4
 have z5:e3=0:=by simpa using h5
 have z6:e4.1=0:=by simpa using h6
 obtain⟨_,x1,I,r1,_⟩:=e.resolve_right fun h=>h.1 z1
 obtain⟨_,x2,J,r2,_⟩:=f.resolve_right fun h=>h.1 z2
 obtain⟨_,f1,g1⟩:=j.resolve_right fun h=>h z3
 obtain⟨_,f2,g2⟩:=p.resolve_right fun h=>h z4
 obtain⟨_,f3,g3⟩:=q.resolve_right fun h=>h z5
 obtain⟨_,rh⟩:=hh.resolve_right fun h=>h.1 z6
 simp only at I J;rw[I,J];exact KB r1 r2 g1 g2 g3 rh
def ME(b:Option Z1):Prop:=∀x,bc b x=bc MA x
theorem Jn:∃b,jS [] jT lU [] Fy FF [] 2 2=some (b,0,0)∧ME b:=by
 obtain⟨q,u,v,e,f,j,p⟩:=KH;exact⟨_,e,J5 f j p⟩
theorem Bq{j e v x z:Int}{A:QJ}(h:ik j e v x z A=some true):1≤e∧e≤64:=by
 unfold ik at h;by_cases f:j≥1
 case neg=>simp[f]at h
 by_cases p:j≤1048576
 case neg=>simp[f,p]at h
 by_cases q:e≥1
 case neg=>simp[f,p,q]at h
 by_cases u:e≤64
 case neg=>simp[f,p,q,u]at h
 exact⟨q,u⟩
structure M9(b:Option Z1)(c:Wy)(x:QK)(p:Qk×QK)(kn:Kn):Prop where
 KC:Bytes x
 len:x.length≤4096
 para:bc b x=some (p,0)
 pm:PM (x.length:Int) p
 wy:Hx c
 M8:Kx c kn
theorem zl(l:QX):Bytes (bX l):=fun x e=>by
 unfold bX at e;obtain⟨b,_,rfl⟩:=List.mem_map.1 e;have:=b.toNat_lt;omega
theorem Hn:∃S,fJ=some S∧S.length=14∧∀i,(S.getD i []).length≤4:=by
 refine⟨_,rfl,rfl,fun i=>?_⟩;rcases(show i=0∨i=1∨i=2∨i=3∨i=4∨i=5∨i=6∨i=7∨i=8∨i=9∨i=10∨i=11∨i=12∨i=13∨14≤i by omega)with rfl | rfl | rfl | rfl | rfl | rfl | rfl | rfl | rfl | rfl | rfl | rfl | rfl | rfl | h
 case inr.inr.inr.inr.inr.inr.inr.inr.inr.inr.inr.inr.inr.inr=>rw[List.getD_eq_getElem?_getD,List.getElem?_eq_none (by simpa using h)];simp
 all_goals decide
theorem GR{l:QK}(hl:l.length≤10000000)(hb:∀i,0≤l.getD i 0∧l.getD i 0≤255):∃t,dT l=some t∧Bytes t∧t.length≤4*l.length:=by
 obtain⟨S,B,q,u⟩:=Hn;obtain⟨t,e,p,j⟩:=dn (body:=cW l) (fun z:QK×Int=>∃k:Nat,z.2=(k:Int)∧k≤l.length∧z.1.length≤4*k∧Bytes z.1) (fun z=>l.length - z.2.toNat) (fun t=>Bytes t∧t.length≤4*l.length) (by
  rintro⟨out,v⟩ ⟨k,rfl,hk,p,j⟩;simp only at p j;by_cases C:k<l.length
  ·left
   obtain⟨D,N⟩:=hb k;have E:i64.wrap (l.getD k 0)=l.getD k 0:=wrap_i64 (by omega) (by omega);have I:Int.tmod (l.getD k 0) 14=l.getD k 0 % 14:=Int.tmod_eq_emod_of_nonneg D;have A:(k:Int)<(l.length:Int):=by omega
   have J:0≤(k:Int):=by omega
   have L:0≤l.getD k 0 % 14∧l.getD k 0 % 14<(S.length:Int):=by rw[q];omega
   have O:=u (l.getD k 0 % 14).toNat;have g:out.length+(S.getD (l.getD k 0 % 14).toNat []).length≤140737488355328:=by omega
   have M:¬(14:Int)=0:=by decide
   refine⟨(out++bX (S.getD (l.getD k 0 % 14).toNat []),((k+1:Nat):Int)),?_,⟨k+1,rfl,by omega,?_,?_⟩,by simp only[Int.toNat_natCast];omega⟩
   ·simp only[cW,B,Option.bind_some,A,J,and_self,decide_true,if_true,Int.toNat_natCast,E,I,L,M,not_false_eq_true,g,bJ (show k≤9000000000000000000 by omega)]
   ·simp only[List.length_append];have:(bX (S.getD (l.getD k 0 % 14).toNat [])).length=(S.getD (l.getD k 0 % 14).toNat []).length:=by simp[bX]
    omega
   ·intro x f;rcases List.mem_append.1 f with f | f
    ·exact j x f
    ·exact zl _ x f
  ·right
   obtain rfl:k=l.length:=by omega
   refine⟨out,?_,j,p⟩;have A:¬((l.length:Int)<(l.length:Int)):=Int.lt_irrefl _;simp only[cW,A,decide_false,Bool.false_eq_true,if_false]) (s:=([],0)) ⟨0,rfl,by omega,by simp,fun x f=>by cases f⟩
 refine⟨t,?_,p,j⟩;unfold dT;rw[e];rfl
abbrev My:=Int×(Int×Int)×Int×Qk×Bool
abbrev dst(c:Wy)(x:QK)(p:Qk×QK)(e:Kn)(out:List My)(k:Int):Qk×Bool×Int×Int×Int×Int×Int×QJ×QK×Qk×QK×(Option ((Qk×QK)×(Qk×QZ)))×Kn×(List My)×Int :=
 ((LF p.1 p.2 c).1,(LF p.1 p.2 c).2,c.1,c.2.1,c.2.2.1,c.2.2.2.1,c.2.2.2.2.1,c.2.2.2.2.2,x,p.1,p.2,some (Jw p.1 p.2 c),e,out,k)
theorem D7{L:QQ}{k:Nat}(h:∀x∈L,x.length≤k)(i:Nat):(L.getD i []).length≤k:=by
 rcases Nat.lt_or_ge i L.length with hi | hi
 ·exact h _ (bS hi _)
 ·rw[List.getD_eq_getElem?_getD,List.getElem?_eq_none hi];exact Nat.zero_le _
theorem qU{n:Int}(h:¬n=0)(i:Int):Ho (cu n i) (fun r=>r.length=1):=by
 refine aU h (aq ?_);simp[bytesOf]
theorem o5{n:Int}(h:1≤n∧n≤6)(b:Int):Ho (bY n b) (fun r=>r.length≤12):=by
 refine ao (P:=fun r=>r.length≤12) (bG (fun(o,i)=>0≤i∧i≤n∧(o.length:Int)≤2*i) (fun(_,i)=>(n - i).toNat) ⟨Int.le_refl _,by omega,Int.le_refl _⟩ fun(o,i) ⟨f,j,p⟩=>?_) fun r e=>aq e
 refine aH (fun hi=>?_) fun _=>aq (show o.length≤12 by omega)
 rw[dec_lt]at hi;refine aU f (aU (by decide) (ao (P:=fun r=>(r.length:Int)≤2*(i+1)) (aH (fun _=>aU (by simp only[List.length_singleton];omega) (ao (qU (by omega) i) fun r e=>aU (by simp only[List.length_append,List.length_singleton];omega) (aq ?_))) fun _=>aq (show(o.length:Int)≤2*(i+1) by omega)) fun r e=>?_))
 ·simp only[List.length_append,List.length_singleton];omega
 ·rw[bT f (by omega)];exact aq ⟨⟨by(try simp only);omega,by(try simp only);omega,e⟩,by(try simp only);omega⟩
section
variable{l:QK}(hl:l.length≤1000){n:Int}(hn:1≤n∧n≤6)
include hl
theorem zw{i:Int}(h:0≤i∧i≤(l.length:Int)):Ho (bq l i) (fun r=>0≤r.2∧r.2≤(l.length:Int)):=by
 unfold bq;rw[bT h.1 (by omega),wrap_i64 (by omega) (by omega)];refine aH (fun _=>aq h) fun hi=>?_
 have e:i<(l.length:Int):=by simp only[ge_iff_le,decide_eq_true_eq]at hi;omega
 exact aU (by omega) (aq ⟨by(try simp only);omega,by(try simp only);omega⟩)
def uc:Nat→Nat
 | 0=>20
 | d+1=>2*uc d+3
omit hl in
theorem D4:∀d,d≤3→20≤uc d∧uc d≤200
 | 0,_=>by decide
 | 1,_=>by decide
 | 2,_=>by decide
 | 3,_=>by decide
include hn
theorem Dw:∀(d f:Nat),d≤3→d<f→∀ {i:Int},(0≤i∧i≤(l.length:Int))→Ho (cH f n (d:Int) l i) (fun r=>r.1.length≤uc d∧0≤r.2∧r.2≤(l.length:Int))
 | _,0,_,h,_,_=>absurd h (by omega)
 | d,f+1,hd,z,i,hi=>by
  obtain⟨A,B⟩:=D4 d hd;simp only[cH];unfold dL;refine ao (zw hl hi) fun(c,j) e=>aH (fun _=>ao (qU (by omega) c) fun r p=>aq ⟨by(try simp only);omega,e⟩) fun q=>aU (by decide) ?_
  have u:0<d:=by simp only[decide_eq_true_eq]at q;omega
  obtain⟨d,rfl⟩:∃k,d=k+1:=⟨d - 1,by omega⟩;have v:i64.wrap (((d+1:Nat):Int) - 1)=(d:Int):=by rw[wrap_i64 (by omega) (by omega)];omega
  have em:uc (d+1)=2*uc d+3:=rfl;obtain⟨C,g2⟩:=D4 d (by omega);rw[v];have p:=fun {i:Int} (hi:0≤i∧i≤(l.length:Int))=>Dw d f (by omega) (by omega) hi
  refine aH (fun _=>aq ⟨by simp only[List.length_singleton];omega,e⟩) fun _=>aH (fun _=>?_) fun _=>aH (fun _=>?_) fun _=>aH (fun _=>?_) fun _=>aH (fun _=>?_) fun _=>aH (fun _=>?_) fun _=>aH (fun _=>?_) fun _=>aH (fun _=>?_) fun _=>?_
  ·exact ao (zw hl e) fun(c,j) e=>ao (o5 hn _) fun r p=>aU (by simp only[List.length_cons,List.length_nil];omega) (aU (by simp only[List.length_append,List.length_cons,List.length_nil];omega) (aq ⟨by simp only[List.length_append,List.length_cons,List.length_nil];omega,e⟩))
  ·exact ao (zw hl e) fun(c,j) e=>ao (o5 hn _) fun r p=>aU (by simp only[List.length_cons,List.length_nil];omega) (aU (by simp only[List.length_append,List.length_cons,List.length_nil];omega) (aq ⟨by simp only[List.length_append,List.length_cons,List.length_nil];omega,e⟩))
  iterate 3
   ·exact ao (p e) fun(t,j) ⟨(ht:t.length≤uc d),e⟩=>aU (by simp only[List.length_cons,List.length_nil];omega) (aU (by simp only[List.length_append,List.length_cons,List.length_nil];omega) (aq ⟨by simp only[List.length_append,List.length_cons,List.length_nil];omega,e⟩))
  ·exact ao (p e) fun(t,j) ⟨(ht:t.length≤uc d),e⟩=>ao (p e) fun(s,k) ⟨(x:s.length≤uc d),hk⟩=>aU (by simp only[List.length_cons,List.length_nil];omega) (aU (by simp only[List.length_append,List.length_cons,List.length_nil];omega) (aU (by simp only[List.length_append,List.length_cons,List.length_nil];omega) (aU (by simp only[List.length_append,List.length_cons,List.length_nil];omega) (aq ⟨by simp only[List.length_append,List.length_cons,List.length_nil];omega,hk⟩))))
  ·exact ao (p e) fun(t,j) ⟨(ht:t.length≤uc d),e⟩=>ao (p e) fun(s,k) ⟨(x:s.length≤uc d),hk⟩=>aU (by simp only[List.length_cons,List.length_nil];omega) (aU (by simp only[List.length_append,List.length_cons,List.length_nil];omega) (aq ⟨by simp only[List.length_append,List.length_cons,List.length_nil];omega,hk⟩))
  ·exact ao (qU (by omega) c) fun r p=>aq ⟨by(try simp only);omega,e⟩
end
theorem DV{n:Int}(hn:1≤n∧n≤6)(l:QK):Ho (eI n l) (fun r=>r.length≤200):=by
 refine aH (fun _=>aq (by decide)) fun _=>aU (by omega) ?_
 exact ao (Dw (by simp only[List.length_drop,List.length_take];omega) hn 3 1000 (by omega) (by omega) ⟨Int.le_refl _,by omega⟩) fun(t,j) ⟨(e:t.length≤uc 3),_⟩=>aq (show t.length≤200 from Nat.le_trans e (by decide))
theorem BQ{a b c:Int}{tr:QK}{l:List wI}(ha:0≤a)(hl:∀i,0≤(l.getD i (0,[],([]:QK))).1):Ho (eK a b c tr l) (fun r=>r.length≤10000):=by
 refine ao (P:=fun n=>1≤n∧n≤6) ?_ fun n hn=>ao (o5 hn _) fun t ht=>aU (by simp only[List.length_cons,List.length_nil];omega) (aU (by simp only[List.length_append,List.length_cons,List.length_nil];omega) (ao (P:=fun r=>r.length≤100) (aH (fun _=>aU (by simp only[List.length_append,List.length_cons,List.length_nil];omega) (ao (o5 hn _) fun s A=>aU (by simp only[List.length_append,List.length_cons,List.length_nil];omega) (aU (by simp only[List.length_append,List.length_cons,List.length_nil];omega) (ao (o5 hn _) fun u hu=>aU (by simp only[List.length_append,List.length_cons,List.length_nil];omega) (aU (by simp only[List.length_append,List.length_cons,List.length_nil];omega) (aq (by simp only[List.length_append,List.length_cons,List.length_nil];omega))))))) fun _=>aq (by simp only[List.length_append,List.length_cons,List.length_nil];omega)) fun v p=>ao (P:=fun r=>r.length≤200) ?_ fun v p=>ao (P:=fun r=>r.length≤10000) ?_ fun v p=>aq p))
 ·unfold bA;have:Int.tmod a 6=a % 6:=Int.tmod_eq_emod_of_nonneg ha;rw[this,wrap_i64 (x:=a % 6) (by omega) (by omega),wrap_i64 (by omega) (by omega)];exact aU (by decide) (aq ⟨by omega,by omega⟩)
 ·refine bG (fun(o,i)=>0≤i∧i≤n∧(o.length:Int)≤100+13*i) (fun(_,i)=>(n - i).toNat) ⟨Int.le_refl _,by omega,by(try simp only);omega⟩ fun(o,i) ⟨e,C,D⟩=>?_
  refine ao (P:=fun b=>b=true→i<(tr.length:Int)∧i<n) (aH (fun q=>aq fun r=>⟨of_decide_eq_true q,of_decide_eq_true r⟩) fun _=>aq fun h=>(by cases h)) fun q z=>aH (fun f=>?_) fun _=>aq (show o.length≤200 by omega)
  obtain⟨j,E⟩:=z f;refine aU (by simp only[List.length_cons,List.length_nil];omega) (ao (qU (by omega) _) fun r I=>aU (by simp only[List.length_append,List.length_cons,List.length_nil];omega) (aU (by simp only[List.length_append,List.length_cons,List.length_nil];omega) (aU ⟨e,j⟩ (ao (qU (by omega) _) fun s A=>aU (by simp only[List.length_append,List.length_cons,List.length_nil];omega) (aU (by simp only[List.length_append,List.length_cons,List.length_nil];omega) ?_)))));rw[bT e (by omega)];exact aq ⟨⟨by(try simp only);omega,by(try simp only);omega,by simp only[List.length_append,List.length_cons,List.length_nil];omega⟩,by(try simp only);omega⟩
 ·refine bG (fun(o,i)=>0≤i∧i≤10∧(o.length:Int)≤200+410*i) (fun(_,i)=>(10 - i).toNat) ⟨Int.le_refl _,by omega,by(try simp only);omega⟩ fun(o,i) ⟨e,C,D⟩=>?_
  refine ao (P:=fun b=>b=true→i<(l.length:Int)∧i<10) (aH (fun q=>aq fun r=>⟨of_decide_eq_true q,of_decide_eq_true r⟩) fun _=>aq fun h=>(by cases h)) fun q z=>aH (fun f=>?_) fun _=>aq (show o.length≤10000 by omega)
  obtain⟨j,E⟩:=z f;have J:=hl i.toNat;have B:Int.tmod (l.getD i.toNat (0,[],([]:QK))).1 3=(l.getD i.toNat (0,[],([]:QK))).1 % 3:=Int.tmod_eq_emod_of_nonneg J;have M:=D7 (L:=[([107,101,101,112,32]:QX),([109,97,121,32]:QX),([109,117,115,116,32]:QX)]) (k:=5) (by decide) (Int.tmod (l.getD i.toNat (0,[],([]:QK))).1 3).toNat;refine aU ⟨e,j⟩ (aU (by decide) (aU (by rw[B];simp only[List.length_cons,List.length_nil];omega) (aU (by rw[B];simp only[List.length_cons,List.length_nil];omega) ?_)));generalize ([([107,101,101,112,32]:QX),([109,97,121,32]:QX),([109,117,115,116,32]:QX)]:QQ).getD (Int.tmod (l.getD i.toNat (0,[],([]:QK))).1 3).toNat []=w at M ⊢;refine aU (by omega) (aU ⟨e,j⟩ (ao (DV hn _) fun r I=>aU (by simp only[List.length_append];omega) (aU (by simp only[List.length_append,List.length_cons,List.length_nil];omega) (aU ⟨e,j⟩ (ao (DV hn _) fun s A=>aU (by simp only[List.length_append,List.length_cons,List.length_nil];omega) (aU (by simp only[List.length_append,List.length_cons,List.length_nil];omega) ?_))))));rw[bT e (by omega)];exact aq ⟨⟨by(try simp only);omega,by(try simp only);omega,by simp only[List.length_append,List.length_cons,List.length_nil];omega⟩,by(try simp only);omega⟩
theorem sX{n:Int}(hn:¬n=0)(l:QK):Ho (cR l n) (fun _=>True):=by
 refine ao (P:=fun _=>True) ?_ fun _ _=>aq trivial
 have f:([9,10,32,45,97,98,99,233,769,8205,20013,65533,128512]:QK).length=13:=rfl;unfold fN;generalize ([9,10,32,45,97,98,99,233,769,8205,20013,65533,128512]:QK)=L at f;refine bG (fun(o,i)=>0≤i∧i≤13∧(o.length:Int)≤i) (fun(_,i)=>(13 - i).toNat) ⟨Int.le_refl _,by omega,by simp⟩ fun(o,i) ⟨j,u,v⟩=>?_
 refine ao (P:=fun b=>b=true→i<13∧i<(l.length:Int)) (aH (fun q=>aq fun r=>⟨by have:=of_decide_eq_true q;omega,of_decide_eq_true r⟩) fun _=>aq fun h=>(by cases h)) fun q p=>aH (fun e=>?_) fun _=>aq trivial
 obtain⟨x,z⟩:=p e;refine aU (by omega) (aU (by omega) (aU (by omega) (aU (by omega) (aU (by omega) (aU hn (aU (by simp only[List.length_singleton];omega) ?_))))));rw[bT j (by omega)];exact aq ⟨⟨by(try simp only);omega,by(try simp only);omega,by simp only[List.length_append,List.length_singleton];omega⟩,by(try simp only);omega⟩
theorem zF{l:QK}(hl:∀i,0≤l.getD i 0∧l.getD i 0≤255):Ho (eU l) (fun _=>True):=by
 refine ao (P:=fun _=>True) ?_ fun _ _=>aq trivial
 have p:([([97]:QX),([98]:QX),([99]:QX),([49]:QX),([50]:QX),([51]:QX),([32]:QX),([32]:QX),([97,49,98,32]:QX),([98,49,99,32]:QX),([50,99,32]:QX),([46,97,49]:QX),([99,46]:QX),([97,98,45,99,32]:QX),([99,97,45,98,45,97,32]:QX)]:QQ).length=15:=rfl;have f:∀x∈([([97]:QX),([98]:QX),([99]:QX),([49]:QX),([50]:QX),([51]:QX),([32]:QX),([32]:QX),([97,49,98,32]:QX),([98,49,99,32]:QX),([50,99,32]:QX),([46,97,49]:QX),([99,46]:QX),([97,98,45,99,32]:QX),([99,97,45,98,45,97,32]:QX)]:QQ),x.length≤7:=by decide
 unfold fu;generalize ([([97]:QX),([98]:QX),([99]:QX),([49]:QX),([50]:QX),([51]:QX),([32]:QX),([32]:QX),([97,49,98,32]:QX),([98,49,99,32]:QX),([50,99,32]:QX),([46,97,49]:QX),([99,46]:QX),([97,98,45,99,32]:QX),([99,97,45,98,45,97,32]:QX)]:QQ)=L at p f;refine bG (fun(o,i)=>0≤i∧i≤60∧(o.length:Int)≤7*i) (fun(_,i)=>(60 - i).toNat) ⟨Int.le_refl _,by omega,by simp⟩ fun(o,i) ⟨j,B,C⟩=>?_
 refine ao (P:=fun b=>b=true→i<(l.length:Int)∧i<60) (aH (fun q=>aq fun r=>⟨of_decide_eq_true q,of_decide_eq_true r⟩) fun _=>aq fun h=>(by cases h)) fun q u=>aH (fun e=>?_) fun _=>aq trivial
 obtain⟨v,D⟩:=u e;obtain⟨z,E⟩:=hl i.toNat;have A:Int.tmod (i64.wrap (l.getD i.toNat 0)) 15=l.getD i.toNat 0 % 15:=by rw[wrap_i64 (by omega) (by omega)];exact Int.tmod_eq_emod_of_nonneg z
 have I:=D7 f (l.getD i.toNat 0 % 15).toNat;refine aU ⟨j,v⟩ (aU (by decide) ?_);rw[A];refine aU (by omega) (aU (by omega) (aU (by omega) ?_));rw[bT j (by omega)];exact aq ⟨⟨by(try simp only);omega,by(try simp only);omega,by simp only[List.length_append];omega⟩,by(try simp only);omega⟩
def L8(a:Int)(l:List wI):Prop:=0≤a∧∀i,0≤(l.getD i (0,[],([]:QK))).1
theorem Bg{a:Int}(ha:0≤a)(b c:Int)(tr:QK)(l:List wI):Ho (bA a b c tr l) (fun n=>¬n=0):=by
 unfold bA;have:Int.tmod a 6=a % 6:=Int.tmod_eq_emod_of_nonneg ha;rw[this,wrap_i64 (x:=a % 6) (by omega) (by omega),wrap_i64 (by omega) (by omega)];exact aU (by decide) (aq (show ¬1+a % 6=0 by omega))
theorem IQ{A D E:Int}{I:QK}{B:List wI}{C J L:Int}{M:QK}{f:List wI}{j p q e:QK}{u v:Int}(x:L8 A B)(z:L8 C f)(N:∀i,0≤e.getD i 0∧e.getD i 0≤255):Ho (dE A D E I B C J L M f j p q e u v) (fun _=>True):=by
 exact ao (Bg x.1 _ _ _ _) fun n hn=>ao (sX hn _) fun _ _=>ao (Bg z.1 _ _ _ _) fun n hn=>ao (sX hn _) fun _ _=>ao (sX (by decide) _) fun _ _=>ao (BQ x.1 x.2) fun _ _=>ao (BQ z.1 z.2) fun _ _=>ao (zF N) fun _ _=>aU (by decide) (aU (by decide) (aq trivial))
end
end Go.Proofs.YtflahpmlcfhpcaaGreatDoor.T
