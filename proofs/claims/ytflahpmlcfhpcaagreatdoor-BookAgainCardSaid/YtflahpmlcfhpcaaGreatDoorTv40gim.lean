import Derived.Test.YtflahpmlcfhpcaaGreatDoorTv40gfm
import Derived.Test.YtflahpmlcfhpcaaGreatDoorTv40im
import Derived.Test.YtflahpmlcfhpcaaGreatDoorTv40um
import Derived.Test.YtflahpmlcfhpcaaGreatDoorTvT20eBookAgain
namespace Go.Proofs.YtflahpmlcfhpcaaGreatDoor.T
open Go Go.Tv Go.Proofs
open Go.IntKind (i64 u64)
noncomputable section
def RH(h:Option Z3):Prop:=∀x,h=some x→x.1.length≤256∧LX x.2.1∧qk x.2.2.1∧(1≤x.2.2.2.1∧x.2.2.2.1≤24)∧1≤x.2.2.2.2∧x.2.2.2.2≤24
theorem Fp{α:Type}(x:α):(some x).isSome=true:=rfl
theorem JX{a b:Int}(j:0≤a)(h:a<b)(hb:b≤1000000):a≤(i64.wrap (Int.fdiv (u64.wrap (i64.wrap (a+b))) (2 ^ (min (1:Int).toNat u64.bits))))∧(i64.wrap (Int.fdiv (u64.wrap (i64.wrap (a+b))) (2 ^ (min (1:Int).toNat u64.bits))))<b:=by
 rw[wrap_i64 (x:=a+b) (by omega) (by omega),Eo];have e:(a+b) % 18446744073709551616=a+b:=by omega
 rw[e];have f:(2:Int) ^ (min (1:Int).toNat u64.bits)=2:=by decide
 rw[f,Int.fdiv_eq_ediv_of_nonneg _ (by omega),wrap_i64 (by omega) (by omega)];omega
theorem BQ{h:Option Z3}(p:RH h)(r:Int):Ho (dS h r) (fun _=>True):=by
 cases h with
 | none=>exact aq trivial
 | some x =>
 obtain⟨v,_⟩:=p x rfl;unfold dS;rw[if_neg (by simp),if_pos (Fp x)];refine ao (P:=fun k=>0≤k∧k≤(x.1.length:Int)) (ao (P:=fun k=>0≤k∧k≤(x.1.length:Int)) (bI (fun(a,b)=>0≤a∧a≤b∧b≤(x.1.length:Int)) (fun(a,b)=>(b - a).toNat) ⟨Int.le_refl _,Int.natCast_nonneg _,Int.le_refl _⟩ fun(a,b) ⟨f,q,z⟩=>?_) fun k hk=>aq hk) fun k ⟨f,q⟩=>ao (P:=fun b=>b=false→k<(x.1.length:Int)) ?_ fun b hb=>aH (fun _=>aq trivial) fun u=>?_
 ·refine aH (fun e=>?_) fun _=>aq ⟨f,by omega⟩
  rw[dec_lt]at e;obtain⟨A,B⟩:=JX f e (by omega);refine aU (by decide) (ao (P:=fun _=>True) ?_ fun b _=>aH (fun _=>?_) fun _=>?_)
  ·unfold eD;rw[if_pos (Fp x)];exact aU ⟨by omega,by simp only[Option.getD_some];omega⟩ (aq trivial)
  ·rw[bW (by omega) (by omega)];exact aq ⟨⟨by(try simp only);omega,by(try simp only);omega,by(try simp only);omega⟩,by(try simp only);omega⟩
  ·exact aq ⟨⟨by(try simp only);omega,by(try simp only);omega,by(try simp only);omega⟩,by(try simp only);omega⟩
 ·rw[if_pos (Fp x)];refine aH (fun _=>aq fun h=>by cases h) fun j=>?_
  have e:k<(x.1.length:Int):=by simp only[Option.getD_some,beq_iff_eq]at j;omega
  rw[if_pos (Fp x)];exact aU ⟨f,e⟩ (aq fun _=>e)
 ·have e:=hb (by simpa using u);rw[if_pos (Fp x)];refine aU ⟨f,e⟩ ?_;rw[if_pos (Fp x)];exact aU ⟨f,e⟩ (aq trivial)
theorem AW{l:List (QK×QK)}(hl:qk l)(w:QK):Ho (ja l w) (fun r=>0≤r→r<(l.length:Int)∧(l.getD r.toNat ([],[])).2.length=w.length+1):=by
 have p:=hl.1;refine ao (P:=Lp (fun _=>True) fun r=>0≤r→r<(l.length:Int)∧(l.getD r.toNat ([],[])).2.length=w.length+1) (bI (fun i=>0≤i∧i≤(l.length:Int)) (fun i=>((l.length:Int) - i).toNat) ⟨Int.le_refl _,by omega⟩ fun i ⟨j,q⟩=>?_) ?_
 ·refine aH (fun hi=>?_) fun _=>aq trivial
  rw[dec_lt]at hi;have e:=hl.2 _ (bV (i:=i.toNat) (by omega) ([],([]:QK)));refine aU ⟨j,hi⟩ (ao (P:=fun r=>r=true→(l.getD i.toNat ([],([]:QK))).1.length=w.length) (ao (A6 (by have:=e.2;omega)) fun r f=>aq f) fun r f=>aH (fun ht=>aq fun _=>⟨hi,by rw[e.1,f ht]⟩) fun _=>?_);rw[bW j (by omega)];exact aq ⟨⟨by(try simp only);omega,by(try simp only);omega⟩,by(try simp only);omega⟩
 ·rintro(_ | r) h
  ·exact aq fun h=>absurd h (by decide)
  ·exact aq h
theorem Gw{h:Option Z3}(z:RH h){w:QK}(A:w.length≤4096):Ho (eS h w) (fun r=>r.length=w.length+1):=by
 have f:i64.wrap ((w.length:Int)+1)=((w.length+1:Nat):Int):=bE (by omega);unfold eS;rw[f];refine aU ⟨by omega,by omega,by omega,by omega⟩ (aH (fun _=>aq (by simp)) fun B=>?_);cases h with
 | none=>exact absurd rfl B
 | some x =>
 obtain⟨_,C,D,⟨L,_⟩,M,N⟩:=z x rfl;rw[if_pos (Fp x)];refine ao (Eh C A) fun v p=>?_
 rw[if_pos (Fp x)];refine ao (AW D w) fun r q=>ao (P:=fun v=>v.length=w.length+1) ?_ fun v p=>?_
 ·refine aH (fun E=>?_) fun _=>aq p
  have e:0≤r:=of_decide_eq_true E;rw[if_pos (Fp x)];exact aU ⟨e,(q e).1⟩ (aq (q e).2)
 ·rw[if_pos (Fp x)];refine ao (P:=fun o=>o.length=w.length+1) (bI (fun(o,i)=>0≤i∧o.length=w.length+1) (fun(_,i)=>((w.length:Int)+1 - i).toNat) ⟨by simp only[Option.getD_some];omega,by simp⟩ fun(o,i) ⟨j,u⟩=>?_) fun o I=>aq I
  unfold gr;dsimp only;rw[if_pos (Fp x)];refine aH (fun hi=>?_) fun _=>aq u
  have J:i≤(w.length:Int) - x.2.2.2.2:=by have:=of_decide_eq_true hi;simp only[Option.getD_some]at this;rwa [wrap_i64 (by omega) (by omega)]at this
  refine aU ⟨j,by omega⟩ (aU (by decide) (aU ⟨j,by omega⟩ (aU (by omega) ?_)));rw[bW j (by omega)];exact aq ⟨⟨by(try simp only);omega,by simpa using u⟩,by(try simp only);omega⟩
theorem EC{h:Option Z3}(p:RH h){l:XK}(hl:l.length≤4096):Ho (dP h l) (fun _=>True):=by
 have e:i64.wrap ((l.length:Int)+1)=((l.length+1:Nat):Int):=bE (by omega);unfold dP;rw[e];refine aU ⟨by omega,by omega,by omega,by omega⟩ (ao (P:=fun _=>True) (bI (fun(o,i)=>0≤i∧o.length=l.length+1) (fun(_,i)=>((l.length:Int)+1 - i).toNat) ⟨Int.le_refl _,by simp⟩ fun(o,i) ⟨u,v⟩=>?_) fun _ _=>aq trivial);refine aH (fun hi=>?_) fun _=>aq trivial
 rw[dec_lt]at hi;refine ao (P:=fun(j,w)=>i≤j∧j≤(l.length:Int)∧(w.length:Int)=j - i) (bI (fun(j,w)=>i≤j∧j≤(l.length:Int)∧(w.length:Int)=j - i) (fun(j,_)=>((l.length:Int) - j).toNat) ⟨Int.le_refl _,by omega,by simp⟩ fun(j,w) ⟨f,g2,g3⟩=>?_) fun(j,w) ⟨f,g2,g3⟩=>?_
 ·refine aH (fun q=>?_) fun _=>aq ⟨f,g2,g3⟩
  rw[dec_lt]at q;refine aU ⟨by omega,q⟩ (ao (BQ p _) fun(c,ok) _=>aH (fun _=>aq ⟨f,g2,g3⟩) fun _=>aU (by simp only[List.length_singleton];omega) ?_);rw[bW (by omega) (by omega)];exact aq ⟨⟨by(try simp only);omega,by(try simp only);omega,by simp only[List.length_append,List.length_singleton];omega⟩,by(try simp only);omega⟩
 ·refine aU ⟨u,by omega⟩ (ao (Gw p (by omega)) fun r x=>aU ⟨by decide,by omega,by omega⟩ ?_);rw[bW (by omega) (by omega)];refine aq ⟨⟨by(try simp only);omega,?_⟩,by(try simp only);omega⟩;simp only[List.length_append,List.length_take,List.length_drop];omega
theorem za(l:XK):Ho (nA l) (fun b=>b=true→l.length≤256):=by
 refine aH (fun _=>aq fun h=>by cases h) fun hl=>?_
 have e:l.length≤256:=by simp only[decide_eq_true_eq]at hl;omega
 refine ao (P:=fun _=>True) (bI (fun(_,i)=>0≤i∧i≤(l.length:Int)) (fun(_,i)=>((l.length:Int) - i).toNat) ⟨Int.le_refl _,by omega⟩ fun(q,i) ⟨f,j⟩=>?_) ?_
 ·refine aH (fun hi=>?_) fun _=>aq trivial
  rw[dec_lt]at hi;refine aU ⟨f,hi⟩ (ao (P:=fun _=>True) ?_ fun b _=>aH (fun _=>aq trivial) fun _=>?_)
  ·repeat' split
   all_goals exact aq trivial
  ·rw[bW f (by omega)];exact aq ⟨⟨by(try simp only);omega,by(try simp only);omega⟩,by(try simp only);omega⟩
 ·rintro(_ | r) _
  ·exact aq fun _=>e
  ·exact aq fun _=>e
theorem Cf(t:QX)(l:XK)(a b:Int):Ho (mY t l a b) (fun r=>r.2.1=0∧RH r.1∨r.2.1≠0∧r.1=none):=by
 refine ao (za l) fun ok e=>aH (fun _=>aq (.inr ⟨by decide,rfl⟩)) fun hk=>ao (P:=fun c=>c=false→(1≤a∧a≤24)∧1≤b∧b≤24) ?_ fun c hc=>aH (fun _=>aq (.inr ⟨by decide,rfl⟩)) fun f=>ao (zg t) fun(p,c) j=>aH (fun h=>aq (.inr ⟨by simpa using h,rfl⟩)) fun _=>?_
 ·refine aH (fun _=>aq fun h=>by cases h) fun q=>aH (fun _=>aq fun h=>by cases h) fun u=>aH (fun _=>aq fun h=>by cases h) fun v=>aq fun z=>?_
  simp only[decide_eq_true_eq,decide_eq_false_iff_not]at q u v z;omega
 ·have hl:=e (by simpa using hk);refine ao (P:=fun r=>r=l) ?_ fun r A=>ao (Bg j.1) fun t ⟨_,ht⟩=>aq (.inl ⟨rfl,fun x B=>?_⟩)
  ·refine aH (fun h=>aq (List.isEmpty_iff.1 h).symm) fun _=>aU (by simp only[List.length_nil];omega) (aq rfl)
  ·cases B;subst A;exact⟨hl,ht,j.2,hc (by simpa using f)⟩
structure RB(b:Option Z1):Prop where
 para:∀x,Bytes x→x.length≤4096→∃p,aZ b x=some (.inr (0,p))∧PM (x.length:Int) p
 L7:∀x:QK,4096<x.length→aZ b x=some (.inl 3)
theorem Kl{u v:Z5}{L M:Nat}{z A p:Option y4}{B C N:Int→Int}{h:Option Z3}(O:Mo u L)(V:Mo v M)(X:n6 z B)(g2:n6 A C)(g3:n6 p N)(Y:RH h):RB (some (some u,some v,z,A,p,h)) where
 para x hb hl:=by
  obtain⟨s,Z,hc,a1⟩:=Hg hb hl;have hr:=hc.range;have j:s.length≤4096:=by omega
  obtain⟨o1,e2,a2⟩:=xP O (w:=s.map fun x=>B x.1) (by simpa using j);obtain⟨o2,e3,D⟩:=xP V (w:=s.map fun x=>C x.1) (by simpa using j);rw[List.length_map]at D;obtain⟨E,e6,_⟩:=EC Y j;obtain⟨⟨I,st⟩,e4,e⟩:=E1 g3 hc (by omega) o1;simp only at e;obtain⟨o,e5,J⟩:=G1 j D E (st:=st) (by have:=e.len;have:=e.le;omega) (fun i hi=>e.at_ i hi) (fun h=>e.zero (by have:=e.len;omega));rw[e.len]at J;have a3:=e.le;refine⟨(I,o),?_,⟨e.Jk,by simp only;omega,fun h=>e.some_ (by omega),J⟩⟩;have f:¬((x.length:Int) > 4096):=by omega
  have q:gz s o1 o2 E p=some (I,o):=by unfold gz lG;simp only[e4,Option.bind];rw[if_pos (by have:=e.len;simp;omega)];simp only[e5]
  unfold aZ;simp only[Option.getD,Option.isNone,Option.isSome,f,decide_false,Bool.false_eq_true,if_false,if_true,Option.bind,Z,Dm X j,Dm g2 j,e2,e3,e6,q]
 L7 x hx:=by
  have f:(x.length:Int) > 4096:=by omega
  unfold aZ;simp only[Option.isNone,Bool.false_eq_true,if_false,f,decide_true,if_true]
theorem oW(l:XK)(j:Int):Ho (fU l j) (fun r=>r.2=0∧(∃f,n6 r.1 f)∨r.2≠0):=by
 rcases tQ l j with⟨e,_⟩ | ⟨t,e,_,h⟩
 ·exact⟨_,e,.inr (by decide)⟩
 ·exact⟨_,e,.inl ⟨rfl,_,h⟩⟩
theorem C2{m:Option Z5}:Ho (cq m) (fun _=>True):=by
 cases m with
 | none=>exact aq trivial
 | some x=>exact⟨_,rfl,trivial⟩
theorem CY(u v x z:XK)(A B C:QX)(D E:Int):Ho (jO u v x z A B C D E) (fun r=>r.2.1=0∧RB r.1∨r.2.1≠0∧r.1=none):=by
 refine ao (vG A) fun(m1,L) e=>aH (fun h=>aq (.inr ⟨by simpa using h,rfl⟩)) fun M=>ao (vG B) fun(m2,N) f=>aH (fun h=>aq (.inr ⟨by simpa using h,rfl⟩)) fun O=>ao C2 fun V _=>ao C2 fun X _=>aU (by decide) (ao (oW u V) fun(t1,Y) j=>aH (fun h=>aq (.inr ⟨by simpa using h,rfl⟩)) fun Z=>aU (by decide) (ao (oW v X) fun(t2,e2) p=>aH (fun h=>aq (.inr ⟨by simpa using h,rfl⟩)) fun h4=>aU (by decide) (ao (oW x 3) fun(t3,e3) q=>aH (fun h=>aq (.inr ⟨by simpa using h,rfl⟩)) fun h5=>ao (Cf C z D E) fun(hy,e4) hh=>aH (fun h=>aq (.inr ⟨by simpa using h,rfl⟩)) fun h6=>aq (.inl ⟨rfl,?_⟩))))
 have z1:L.1=0:=by simpa using M
 have z2:N.1=0:=by simpa using O
 have z3:Y=0:=by simpa using Z
 have z4:e2=0:=by simpa using h4
 have z5:e3=0:=by simpa using h5
 have z6:e4.1=0:=by simpa using h6
 obtain⟨_,x1,I,r1,_⟩:=e.resolve_right fun h=>h.1 z1
 obtain⟨_,x2,J,r2,_⟩:=f.resolve_right fun h=>h.1 z2
 obtain⟨_,f1,g1⟩:=j.resolve_right fun h=>h z3
 obtain⟨_,f2,g2⟩:=p.resolve_right fun h=>h z4
 obtain⟨_,f3,g3⟩:=q.resolve_right fun h=>h z5
 obtain⟨_,rh⟩:=hh.resolve_right fun h=>h.1 z6
 simp only at I J;rw[I,J];exact Kl r1 r2 g1 g2 g3 rh
def MS(b:Option Z1):Prop:=∀x,aZ b x=aZ Mr x
theorem JJ:∃b,jO [] jQ mb [] Gx Gj [] 2 2=some (b,0,0)∧MS b:=by
 obtain⟨q,u,v,e,f,j,p⟩:=KG;exact⟨_,e,Jm f j p⟩
theorem Gs{j e v x z:Int}{A:QJ}(h:iy j e v x z A=some true):1≤e∧e≤64:=by
 unfold iy at h;by_cases f:j≥1
 case neg=>simp[f]at h
 by_cases p:j≤1048576
 case neg=>simp[f,p]at h
 by_cases q:e≥1
 case neg=>simp[f,p,q]at h
 by_cases u:e≤64
 case neg=>simp[f,p,q,u]at h
 exact⟨q,u⟩
theorem yK(l:QX):Bytes (cd l):=fun x e=>by
 unfold cd at e;obtain⟨b,_,rfl⟩:=List.mem_map.1 e;have:=b.toNat_lt;omega
theorem F5:∃S,fG=some S∧S.length=14∧∀i,(S.getD i []).length≤4:=by
 refine⟨_,rfl,rfl,fun i=>?_⟩;rcases(show i=0∨i=1∨i=2∨i=3∨i=4∨i=5∨i=6∨i=7∨i=8∨i=9∨i=10∨i=11∨i=12∨i=13∨14≤i by omega)with rfl | rfl | rfl | rfl | rfl | rfl | rfl | rfl | rfl | rfl | rfl | rfl | rfl | rfl | h
 case inr.inr.inr.inr.inr.inr.inr.inr.inr.inr.inr.inr.inr.inr=>rw[List.getD_eq_getElem?_getD,List.getElem?_eq_none (by simpa using h)];simp
 all_goals decide
theorem zY{l:QK}(hl:l.length≤10000000)(hb:∀i,0≤l.getD i 0∧l.getD i 0≤255):∃t,dy l=some t∧Bytes t∧t.length≤4*l.length:=by
 obtain⟨S,B,q,u⟩:=F5;obtain⟨t,e,p,j⟩:=cW (body:=dr l) (fun z:QK×Int=>∃k:Nat,z.2=(k:Int)∧k≤l.length∧z.1.length≤4*k∧Bytes z.1) (fun z=>l.length - z.2.toNat) (fun t=>Bytes t∧t.length≤4*l.length) (by
  rintro⟨out,v⟩ ⟨k,rfl,hk,p,j⟩;simp only at p j;by_cases C:k<l.length
  ·left
   obtain⟨D,N⟩:=hb k;have E:i64.wrap (l.getD k 0)=l.getD k 0:=wrap_i64 (by omega) (by omega);have I:Int.tmod (l.getD k 0) 14=l.getD k 0 % 14:=Int.tmod_eq_emod_of_nonneg D;have A:(k:Int)<(l.length:Int):=by omega
   have J:0≤(k:Int):=by omega
   have L:0≤l.getD k 0 % 14∧l.getD k 0 % 14<(S.length:Int):=by rw[q];omega
   have O:=u (l.getD k 0 % 14).toNat;have g:out.length+(S.getD (l.getD k 0 % 14).toNat []).length≤140737488355328:=by omega
   have M:¬(14:Int)=0:=by decide
   refine⟨(out++cd (S.getD (l.getD k 0 % 14).toNat []),((k+1:Nat):Int)),?_,⟨k+1,rfl,by omega,?_,?_⟩,by simp only[Int.toNat_natCast];omega⟩
   ·simp only[dr,B,Option.bind_some,A,J,and_self,decide_true,if_true,Int.toNat_natCast,E,I,L,M,not_false_eq_true,g,bE (show k≤9000000000000000000 by omega)]
   ·simp only[List.length_append];have:(cd (S.getD (l.getD k 0 % 14).toNat [])).length=(S.getD (l.getD k 0 % 14).toNat []).length:=by simp[cd]
    omega
   ·intro x f;rcases List.mem_append.1 f with f | f
    ·exact j x f
    ·exact yK _ x f
  ·right
   obtain rfl:k=l.length:=by omega
   refine⟨out,?_,j,p⟩;have A:¬((l.length:Int)<(l.length:Int)):=Int.lt_irrefl _;simp only[dr,A,decide_false,Bool.false_eq_true,if_false]) (s:=([],0)) ⟨0,rfl,by omega,by simp,fun x f=>by cases f⟩
 refine⟨t,?_,p,j⟩;unfold dy;rw[e];rfl
abbrev Mi:=Int×(Int×Int)×Int×XZ×Bool
abbrev dst(c:Wy)(x:QK)(p:XZ×QK)(e:Kn)(out:List Mi)(k:Int):XZ×Bool×Int×Int×Int×Int×Int×QJ×QK×XZ×QK×(Option ((XZ×QK)×(XZ×QZ)))×Kn×(List Mi)×Int :=
 ((LF p.1 p.2 c).1,(LF p.1 p.2 c).2,c.1,c.2.1,c.2.2.1,c.2.2.2.1,c.2.2.2.2.1,c.2.2.2.2.2,x,p.1,p.2,some (Jq p.1 p.2 c),e,out,k)
end
end Go.Proofs.YtflahpmlcfhpcaaGreatDoor.T
