import Derived.Test.YtbedjpdfkmfplaaGreatDoorTv31gfm
import Derived.Test.YtbedjpdfkmfplaaGreatDoorTv31im
import Derived.Test.YtbedjpdfkmfplaaGreatDoorTv31tm
namespace Go.Proofs.YtbedjpdfkmfplaaGreatDoor.T
open Go Go.Tv Go.Proofs
open Go.IntKind (i64)
noncomputable section
structure RB(b:Option Z1):Prop where
 para:∀x,Bytes x→x.length≤4096→∃p,aU b x=some (p,0)∧PM (x.length:Int) p
 MJ:∀x:QK,4096<x.length→aU b x=some (([],[]),3)
theorem Nu{v z:Z5}{M N:Nat}{A B q:Option Ay}{C D O:Int→Int}{h:Option Z3}(V:Mo v M)(X:Mo z N)(Y:pe A C)(g2:pe B D)(g3:pe q O)(Z:RH h):RB (some (some v,some z,A,B,q,h)) where
 para x hb hl:=by
  obtain⟨s,e1,E,a1⟩:=IT hb hl;have hr:=E.range;have j:s.length≤4096:=by omega
  obtain⟨o1,e2,a2⟩:=z9 V (w:=s.map fun x=>C x.1) (by simpa using j);obtain⟨o2,e3,I⟩:=z9 X (w:=s.map fun x=>D x.1) (by simpa using j);rw[List.length_map]at I;obtain⟨J,e6,_⟩:=Gz Z j;obtain⟨⟨cl,st⟩,e4,e⟩:=GU g3 E (by omega) o1;simp only at e;obtain⟨o,e5,L⟩:=H0 j I J (st:=st) (by have:=e.len;have:=e.le;omega) (fun i hi=>e.at_ i hi) (fun h=>e.zero (by have:=e.len;omega));rw[e.len]at L;have a3:=e.le;refine⟨(cl,o),?_,⟨e.LX,by simp only;omega,fun h=>e.some_ (by omega),L⟩⟩;have f:¬((x.length:Int) > 4096):=by omega
  have u:gS s o1 o2 J q=some (cl,o):=by unfold gS lQ;simp only[e4,Option.bind];rw[if_pos (by have:=e.len;simp;omega)];simp only[e5]
  unfold aU;simp only[Option.getD,Option.isNone,Option.isSome,f,decide_false,Bool.false_eq_true,if_false,if_true,Option.bind,e1,FX Y j,FX g2 j,e2,e3,e6,u]
 MJ x hx:=by
  have f:(x.length:Int) > 4096:=by omega
  unfold aU;simp only[Option.isNone,Bool.false_eq_true,if_false,f,decide_true,if_true]
theorem pN(l:XK)(j:Int):Ho (gw l j) (fun r=>r.2=0∧(∃f,pe r.1 f)∨r.2≠0):=by
 rcases vA l j with⟨e,_⟩ | ⟨t,e,_,h⟩
 ·exact⟨_,e,.inr (by decide)⟩
 ·exact⟨_,e,.inl ⟨rfl,_,h⟩⟩
theorem F7{m:Option Z5}:Ho (cr m) (fun _=>True):=by
 cases m with
 | none=>exact aq trivial
 | some x=>exact⟨_,rfl,trivial⟩
theorem Ec(v z A B:XK)(C D E:QX)(I J:Int):Ho (kx v z A B C D E I J) (fun r=>r.2.1=0∧RB r.1∨r.2.1≠0∧r.1=none):=by
 refine ao (xe C) fun(m1,N) e=>aJ (fun h=>aq (.inr ⟨by simpa using h,rfl⟩)) fun O=>ao (xe D) fun(m2,V) f=>aJ (fun h=>aq (.inr ⟨by simpa using h,rfl⟩)) fun X=>ao F7 fun Y _=>ao F7 fun Z _=>aW (by decide) (ao (pN v Y) fun(t1,e1) j=>aJ (fun h=>aq (.inr ⟨by simpa using h,rfl⟩)) fun h3=>aW (by decide) (ao (pN z Z) fun(t2,e2) q=>aJ (fun h=>aq (.inr ⟨by simpa using h,rfl⟩)) fun h4=>aW (by decide) (ao (pN A 3) fun(t3,e3) u=>aJ (fun h=>aq (.inr ⟨by simpa using h,rfl⟩)) fun h5=>ao (E6 E B I J) fun(hy,e4) hh=>aJ (fun h=>aq (.inr ⟨by simpa using h,rfl⟩)) fun h6=>aq (.inl ⟨rfl,?_⟩))))
 have z1:N.1=0:=by simpa using O
 have z2:V.1=0:=by simpa using X
 have z3:e1=0:=by simpa using h3
 have z4:e2=0:=by simpa using h4
 have z5:e3=0:=by simpa using h5
 have z6:e4.1=0:=by simpa using h6
 obtain⟨_,x1,L,r1,_⟩:=e.resolve_right fun h=>h.1 z1
 obtain⟨_,x2,M,r2,_⟩:=f.resolve_right fun h=>h.1 z2
 obtain⟨_,f1,g1⟩:=j.resolve_right fun h=>h z3
 obtain⟨_,f2,g2⟩:=q.resolve_right fun h=>h z4
 obtain⟨_,f3,g3⟩:=u.resolve_right fun h=>h z5
 obtain⟨_,rh⟩:=hh.resolve_right fun h=>h.1 z6
 simp only at L M;rw[L,M];exact Nu r1 r2 g1 g2 g3 rh
def O0(b:Option Z1):Prop:=∀x,aU b x=aU OK x
theorem zY{b u:Option Z1}(h:∀x,aU b x=aU u x)(x:QK)(v z A B C D E I e f j q kn):cH x v z b A B C D E I e f j q kn=cH x v z u A B C D E I e f j q kn:=by
 unfold cH;rw[h]
theorem GM{b e:Option Z1}(h:∀x,aU b x=aU e x)(f j q u v z x):fj b f j q u v z x=fj e f j q u v z x:=by
 unfold fj;simp only[zY h]
theorem Et{b u:Option Z1}(h:∀x,aU b x=aU u x)(v z A B C D E I J L M e f j q kn):bO v z A B C b D E I J L M e f j q kn=bO v z A B C u D E I J L M e f j q kn:=by
 unfold bO;simp only[zY h]
theorem Mh:∃b,kx [] j7 mP [] Jq IA [] 2 2=some (b,0,0)∧O0 b:=by
 obtain⟨u,v,z,e,f,j,q⟩:=NF;exact⟨_,e,L2 f j q⟩
theorem I6{j e z A B:Int}{C:QJ}(h:dV j e z A B C=some true):1≤e∧e≤64:=by
 unfold dV at h;by_cases f:j≥1
 case neg=>simp[f]at h
 by_cases q:j≤1048576
 case neg=>simp[f,q]at h
 by_cases u:e≥1
 case neg=>simp[f,q,u]at h
 by_cases v:e≤64
 case neg=>simp[f,q,u,v]at h
 exact⟨u,v⟩
theorem DX(e f j q u:Int)(v:QJ):∃b,dV e f j q u v=some b:=by
 unfold dV
 repeat' split
 all_goals exact⟨_,rfl⟩
theorem Dn{x:QK}(h:x.length≤100000):cd x=some x:=by
 unfold cd;cases x with
 | nil=>rfl
 | cons a r =>
  rw[if_neg (by simp),if_pos (by simp only[List.length_nil];omega)];rfl
structure Gc(b:Option Z1)(c:Wy)(x:QK)(p:Qk×QK)(kn:Kn):Prop where
 MF:Bytes x
 len:x.length≤4096
 para:aU b x=some (p,0)
 pm:PM (x.length:Int) p
 wy:I0 c
 O1:DV c kn
theorem MU{b:Option Z1}(hb:RB b){x:QK}(C:Bytes x)(A:x.length≤4096){c:Wy}(w:I0 c){kn:Kn}(hk:DV c kn)(D:Qk)(E:Bool)(j:QK)(q:Qk)(u:QK)(v):
  ∃p f,cH x D E b c.1 c.2.1 c.2.2.1 c.2.2.2.1 c.2.2.2.2.1 c.2.2.2.2.2 j q u v kn=some (0,(LF p.1 p.2 c).1,(LF p.1 p.2 c).2,x,p.1,p.2,some (me p.1 p.2 c),f)∧Gc b c x p f:=by
 obtain⟨p,I,z⟩:=hb.para x C A;obtain⟨f,e,B⟩:=LC I z A w hk D E j q u v;exact⟨p,f,e,⟨C,A,I,z,w,B⟩⟩
theorem N6{b:Option Z1}(hb:RB b){c:Wy}{x:QK}(q:Bytes x)(u:x.length≤100000):
  (dV c.1 c.2.1 c.2.2.1 c.2.2.2.1 c.2.2.2.2.1 c.2.2.2.2.2=some false∧fj b c.1 c.2.1 c.2.2.1 c.2.2.2.1 c.2.2.2.2.1 c.2.2.2.2.2 x=some (.inl 40)) ∨
  (dV c.1 c.2.1 c.2.2.1 c.2.2.2.1 c.2.2.2.2.1 c.2.2.2.2.2=some true∧((4096<x.length∧fj b c.1 c.2.1 c.2.2.1 c.2.2.2.1 c.2.2.2.2.1 c.2.2.2.2.2 x=some (.inl 3)) ∨
   (x.length≤4096∧∃p kn,fj b c.1 c.2.1 c.2.2.1 c.2.2.2.1 c.2.2.2.2.1 c.2.2.2.2.2 x=some (.inr (0,(LF p.1 p.2 c).1,(LF p.1 p.2 c).2,x,p.1,p.2,some (me p.1 p.2 c),kn))∧Gc b c x p kn))):=by
 obtain⟨ok,f⟩:=DX c.1 c.2.1 c.2.2.1 c.2.2.2.1 c.2.2.2.2.1 c.2.2.2.2.2;unfold fj;rw[f];cases ok with
 | false=>exact .inl ⟨rfl,rfl⟩
 | true =>
  refine .inr ⟨rfl,?_⟩;rw[Option.bind_some,if_neg (by decide),Dn u,Option.bind_some];by_cases j:x.length≤4096
  ·obtain⟨p,kn,e,v⟩:=MU hb q j (c:=c) (I6 f) (DV.nil c) [] false [] [] [] none;refine .inr ⟨j,p,kn,?_,v⟩;rw[e];rfl
  ·refine .inl ⟨by omega,?_⟩;unfold cH;rw[hb.MJ x (by omega)];rfl
theorem A9(l:QX):Bytes (cf l):=fun x e=>by
 unfold cf at e;obtain⟨b,_,rfl⟩:=List.mem_map.1 e;have:=b.toNat_lt;omega
theorem J2{n:Nat}(h:n≤100000):cF (n:Int)=some []:=by
 have e:i64.wrap ((0:Int) - 0)=0:=rfl;have f:i64.wrap ((n:Int) - 0)=(n:Int):=by rw[wrap_i64 (by omega) (by omega)];omega
 unfold cF;rw[e,f,if_neg (by rw[decide_eq_true_eq];omega),Option.bind_some];by_cases j:n=0
 ·subst j;rfl
 ·rw[if_pos (c:=decide ((n:Int) > 0)=true) (by rw[decide_eq_true_eq];omega),if_pos (by decide),if_pos (by rw[Int.toNat_natCast];simp;omega),if_pos (by rw[Int.toNat_natCast,List.length_replicate];omega)];rfl
theorem Gw{a b c:QK}(h:a.length+b.length+c.length≤100000):cQ a b c=some (a++b++c):=by
 have c0:0≤(0:Int)∧(0:Int)<((3:Nat):Int):=by decide
 have e:0≤(1:Int)∧(1:Int)<((3:Nat):Int):=by decide
 have f:0≤(2:Int)∧(2:Int)<((3:Nat):Int):=by decide
 have j:i64.wrap ((0:Int)+(a.length:Int))=(a.length:Int):=by rw[wrap_i64 (by omega) (by omega)];omega
 have q:i64.wrap ((a.length:Int)+(b.length:Int))=((a.length+b.length:Nat):Int):=by rw[wrap_i64 (by omega) (by omega)];omega
 have u:i64.wrap (((a.length+b.length:Nat):Int)+(c.length:Int))=((a.length+b.length+c.length:Nat):Int):=by rw[wrap_i64 (by omega) (by omega)];omega
 unfold cQ;rw[j,q,u,J2 h];have v:¬((a.length:Int)<0):=by omega
 have g2:¬(((a.length+b.length:Nat):Int)<0):=by omega
 have g3:¬(((a.length+b.length+c.length:Nat):Int)<0):=by omega
 simp only[c0,e,f,v,g2,g3,and_self,decide_false,Bool.false_eq_true,if_true,if_false,Option.bind_some,List.nil_append,List.length_append,List.length_nil];rw[if_pos (by omega),if_pos (by omega),if_pos (by omega)]
theorem Av{n:Nat}(hn:n≤4096)(f e:Int)(j:QK):jV (n:Int) f e j=some (if f<0∨e<0∨f > (n:Int)∨e > (n:Int) - f then 50 else if j.length > 4096∨(n:Int) - e+(j.length:Int) > 4096 then 3 else 0):=by
 unfold jV;by_cases u:f<0
 ·simp[u]
 by_cases v:e<0
 ·simp[u,v]
 by_cases z:f > (n:Int)
 ·simp[u,v,z]
 have D:i64.wrap ((n:Int) - f)=(n:Int) - f:=wrap_i64 (by omega) (by omega);rw[D];by_cases A:e > (n:Int) - f
 ·simp[u,v,z,A]
 have E:i64.wrap ((n:Int) - e)=(n:Int) - e:=wrap_i64 (by omega) (by omega);rw[E];by_cases B:(j.length:Int) > 4096
 ·have q:j.length > 4096:=by omega
  simp[u,v,z,A,B,q]
 have q:¬j.length > 4096:=by omega
 have I:i64.wrap ((n:Int) - e+(j.length:Int))=(n:Int) - e+(j.length:Int):=wrap_i64 (by omega) (by omega);rw[I];by_cases C:(n:Int) - e+(j.length:Int) > 4096
 ·simp[u,v,z,A,B,q,C]
 ·simp[u,v,z,A,B,q,C]
theorem Ht{x e:QK}(j:x.length≤4096)(u:e.length≤4096){i d:Nat}(h:i+d≤x.length)(hl:x.length - d+e.length≤4096):kb x (i:Int) (d:Int) e=some (x.take i++e++x.drop (i+d),0):=by
 have f:jV (x.length:Int) (i:Int) (d:Int) e=some 0:=by rw[Av j,if_neg (by omega),if_neg (by omega)]
 unfold kb;rw[f,Option.bind_some];have q:i64.wrap ((i:Int)+(d:Int))=((i+d:Nat):Int):=by rw[wrap_i64 (by omega) (by omega)];omega
 rw[if_neg (by decide),if_pos (by omega),q,if_pos (by omega)];have ht:(x.take (i:Int).toNat).drop (0:Int).toNat=x.take i:=rfl;have hd:(x.take (x.length:Int).toNat).drop ((i+d:Nat):Int).toNat=x.drop (i+d):=by rw[Int.toNat_natCast,Int.toNat_natCast,List.take_length]
 rw[ht,hd,Gw (by simp only[List.length_take,List.length_drop];omega)];rfl
theorem Al{x e:QK}(j:Bytes x)(q:Bytes e)(i d:Nat):Bytes (x.take i++e++x.drop (i+d)):=fun y f=>by
 simp only[List.mem_append]at f;rcases f with(f | f) | f
 ·exact j y (List.mem_of_mem_take f)
 ·exact q y f
 ·exact j y (List.mem_of_mem_drop f)
theorem Hu{b:Option Z1}{c:Wy}{x:QK}{p:Qk×QK}{kn:Kn}(h:Gc b c x p kn):∃r,gW p.1 p.2 (LF p.1 p.2 c).1=some r:=by
 have f:=h.pm.Oy (by have:=h.len;omega);have hl:=f.1;have q:=h.pm.LW.len;have e:JO p.2 p.1.length 0 (gq p.2 p.2.length):=by rw[sk];exact oe _ _ _ (by omega)
 obtain⟨j,u⟩:=qy c e;refine Ic hl (by unfold LF;omega) (fun k hk=>?_) p.2;obtain⟨a,b,v,z,A,B⟩:=j ((LF p.1 p.2 c).1.getD k c0) (qt hk);omega
def Nw:Nat→Qk→Nat→Prop
 | a,[],b=>a=b
 | a,x::r,b=>∃m:Nat,x.1=(a:Int)∧x.2.1=(m:Int)∧a≤m∧Nw m r b
theorem Nw.get:∀ {a b:Nat} {l:Qk},Nw a l b→∀i,i<l.length→∃u v:Nat,(l.getD i c0).1=(u:Int)∧(l.getD i c0).2.1=(v:Int)∧u≤v∧(i=0→u=a)∧(∀j,i=j+1→(l.getD j c0).2.1=(u:Int))∧(i+1=l.length→v=b)
 | a,b,[],_,i,hi=>absurd hi (by simp)
 | a,b,x::r,⟨m,z,e,A,f⟩,0,hi=>by
  refine⟨a,m,z,e,A,fun _=>rfl,fun j B=>by omega,fun q=>?_⟩;have:r=[]:=List.eq_nil_of_length_eq_zero (by simp only[List.length_cons]at q;omega);subst this;exact f
 | a,b,x::r,⟨m,z,e,A,f⟩,i+1,hi=>by
  obtain⟨u,v,C,D,E,I,J,L⟩:=f.get i (by simpa using hi);refine⟨u,v,by simpa using C,by simpa using D,E,fun h=>by omega,fun j B=>?_,fun q=>L (by simpa using q)⟩;obtain rfl:i=j:=by omega
  cases i with
  | zero=>rw[I rfl];exact e
  | succ k=>have:=J k rfl;simpa using this
theorem Nw.le:∀ {a b:Nat} {l:Qk},Nw a l b→a≤b
 | _,_,[],h=>Nat.le_of_eq h
 | _,_,_::_,⟨_,_,_,e,f⟩=>Nat.le_trans e f.le
abbrev OL:=Int×(Int×Int)×Int×Qk×Bool
abbrev dst(c:Wy)(x:QK)(p:Qk×QK)(kn:Kn)(out:List OL)(k:Int):Qk×Bool×Int×Int×Int×Int×Int×QJ×QK×Qk×QK×(Option ((Qk×QK)×(Qk×QZ)))×Kn×(List OL)×Int :=
 ((LF p.1 p.2 c).1,(LF p.1 p.2 c).2,c.1,c.2.1,c.2.2.1,c.2.2.2.1,c.2.2.2.2.1,c.2.2.2.2.2,x,p.1,p.2,some (me p.1 p.2 c),kn,out,k)
end
end Go.Proofs.YtbedjpdfkmfplaaGreatDoor.T
