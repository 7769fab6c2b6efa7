import Derived.Test.YtmcemnfjddoejaaGreatDoorTv23gfm
import Derived.Test.YtmcemnfjddoejaaGreatDoorTv23im
import Derived.Test.YtmcemnfjddoejaaGreatDoorTv23tm
namespace Go.Proofs.YtmcemnfjddoejaaGreatDoor.T
open Go Go.Tv Go.Proofs
open Go.IntKind (i64 u64)
noncomputable section
def RH(h:Option Z3):Prop:=∀x,h=some x→x.1.length≤256∧Og x.2.1∧rN x.2.2.1∧(1≤x.2.2.2.1∧x.2.2.2.1≤24)∧1≤x.2.2.2.2∧x.2.2.2.2≤24
theorem I6{α:Type}(x:α):(some x).isSome=true:=rfl
theorem Mc{a b:Int}(f:0≤a)(h:a<b)(hb:b≤1000000):a≤(i64.wrap (Int.fdiv (u64.wrap (i64.wrap (a+b))) (2 ^ (min (1:Int).toNat u64.bits))))∧(i64.wrap (Int.fdiv (u64.wrap (i64.wrap (a+b))) (2 ^ (min (1:Int).toNat u64.bits))))<b:=by
 rw[wrap_i64 (x:=a+b) (by omega) (by omega),GH];have e:(a+b) % 18446744073709551616=a+b:=by omega
 rw[e];have c:(2:Int) ^ (min (1:Int).toNat u64.bits)=2:=by decide
 rw[c,Int.fdiv_eq_ediv_of_nonneg _ (by omega),wrap_i64 (by omega) (by omega)];omega
theorem EG{h:Option Z3}(j:RH h)(r:Int):Ho (dO h r) (fun _=>True):=by
 cases h with
 | none=>exact av trivial
 | some x =>
 obtain⟨u,_⟩:=j x rfl;unfold dO;rw[if_neg (by simp),if_pos (I6 x)];refine aq (P:=fun k=>0≤k∧k≤(x.1.length:Int)) (aq (P:=fun k=>0≤k∧k≤(x.1.length:Int)) (bF (fun(a,b)=>0≤a∧a≤b∧b≤(x.1.length:Int)) (fun(a,b)=>(b - a).toNat) ⟨Int.le_refl _,Int.natCast_nonneg _,Int.le_refl _⟩ fun(a,b) ⟨e,p,v⟩=>?_) fun k hk=>av hk) fun k ⟨e,p⟩=>aq (P:=fun b=>b=false→k<(x.1.length:Int)) ?_ fun b hb=>aK (fun _=>av trivial) fun q=>?_
 ·refine aK (fun c=>?_) fun _=>av ⟨e,by omega⟩
  rw[dec_lt]at c;obtain⟨z,A⟩:=Mc e c (by omega);refine aW (by decide) (aq (P:=fun _=>True) ?_ fun b _=>aK (fun _=>?_) fun _=>?_)
  ·unfold eo;rw[if_pos (I6 x)];exact aW ⟨by omega,by simp only[Option.getD_some];omega⟩ (av trivial)
  ·rw[bQ (by omega) (by omega)];exact av ⟨⟨by(try simp only);omega,by(try simp only);omega,by(try simp only);omega⟩,by(try simp only);omega⟩
  ·exact av ⟨⟨by(try simp only);omega,by(try simp only);omega,by(try simp only);omega⟩,by(try simp only);omega⟩
 ·rw[if_pos (I6 x)];refine aK (fun _=>av fun h=>by cases h) fun f=>?_
  have c:k<(x.1.length:Int):=by simp only[Option.getD_some,beq_iff_eq]at f;omega
  rw[if_pos (I6 x)];exact aW ⟨e,c⟩ (av fun _=>c)
 ·have c:=hb (by simpa using q);rw[if_pos (I6 x)];refine aW ⟨e,c⟩ ?_;rw[if_pos (I6 x)];exact aW ⟨e,c⟩ (av trivial)
theorem CQ{l:List (QK×QK)}(hl:rN l)(w:QK):Ho (iR l w) (fun r=>0≤r→r<(l.length:Int)∧(l.getD r.toNat ([],[])).2.length=w.length+1):=by
 have j:=hl.1;refine aq (P:=Lp (fun _=>True) fun r=>0≤r→r<(l.length:Int)∧(l.getD r.toNat ([],[])).2.length=w.length+1) (bF (fun i=>0≤i∧i≤(l.length:Int)) (fun i=>((l.length:Int) - i).toNat) ⟨Int.le_refl _,by omega⟩ fun i ⟨f,p⟩=>?_) ?_
 ·refine aK (fun hi=>?_) fun _=>av trivial
  rw[dec_lt]at hi;have c:=hl.2 _ (bS (i:=i.toNat) (by omega) ([],([]:QK)));refine aW ⟨f,hi⟩ (aq (P:=fun r=>r=true→(l.getD i.toNat ([],([]:QK))).1.length=w.length) (aq (Dc (by have:=c.2;omega)) fun r e=>av e) fun r e=>aK (fun ht=>av fun _=>⟨hi,by rw[c.1,e ht]⟩) fun _=>?_);rw[bQ f (by omega)];exact av ⟨⟨by(try simp only);omega,by(try simp only);omega⟩,by(try simp only);omega⟩
 ·rintro(_ | r) h
  ·exact av fun h=>absurd h (by decide)
  ·exact av h
theorem HM{h:Option Z3}(u:RH h){w:QK}(z:w.length≤4096):Ho (eK h w) (fun r=>r.length=w.length+1):=by
 have e:i64.wrap ((w.length:Int)+1)=((w.length+1:Nat):Int):=bO (by omega);unfold eK;rw[e];refine aW ⟨by omega,by omega,by omega,by omega⟩ (aK (fun _=>av (by simp)) fun A=>?_);cases h with
 | none=>exact absurd rfl A
 | some x =>
 obtain⟨_,B,C,⟨J,_⟩,L,M⟩:=u x rfl;rw[if_pos (I6 x)];refine aq (G1 B z) fun v j=>?_
 rw[if_pos (I6 x)];refine aq (CQ C w) fun r p=>aq (P:=fun v=>v.length=w.length+1) ?_ fun v j=>?_
 ·refine aK (fun D=>?_) fun _=>av j
  have c:0≤r:=of_decide_eq_true D;rw[if_pos (I6 x)];exact aW ⟨c,(p c).1⟩ (av (p c).2)
 ·rw[if_pos (I6 x)];refine aq (P:=fun o=>o.length=w.length+1) (bF (fun(o,i)=>0≤i∧o.length=w.length+1) (fun(_,i)=>((w.length:Int)+1 - i).toNat) ⟨by simp only[Option.getD_some];omega,by simp⟩ fun(o,i) ⟨f,q⟩=>?_) fun o E=>av E
  unfold gz;dsimp only;rw[if_pos (I6 x)];refine aK (fun hi=>?_) fun _=>av q
  have I:i≤(w.length:Int) - x.2.2.2.2:=by have:=of_decide_eq_true hi;simp only[Option.getD_some]at this;rwa [wrap_i64 (by omega) (by omega)]at this
  refine aW ⟨f,by omega⟩ (aW (by decide) (aW ⟨f,by omega⟩ (aW (by omega) ?_)));rw[bQ f (by omega)];exact av ⟨⟨by(try simp only);omega,by simpa using q⟩,by(try simp only);omega⟩
theorem Hf{h:Option Z3}(p:RH h){l:XZ}(hl:l.length≤4096):Ho (dM h l) (fun _=>True):=by
 have e:i64.wrap ((l.length:Int)+1)=((l.length+1:Nat):Int):=bO (by omega);unfold dM;rw[e];refine aW ⟨by omega,by omega,by omega,by omega⟩ (aq (P:=fun _=>True) (bF (fun(o,i)=>0≤i∧o.length=l.length+1) (fun(_,i)=>((l.length:Int)+1 - i).toNat) ⟨Int.le_refl _,by simp⟩ fun(o,i) ⟨u,v⟩=>?_) fun _ _=>av trivial);refine aK (fun hi=>?_) fun _=>av trivial
 rw[dec_lt]at hi;refine aq (P:=fun(j,w)=>i≤j∧j≤(l.length:Int)∧(w.length:Int)=j - i) (bF (fun(j,w)=>i≤j∧j≤(l.length:Int)∧(w.length:Int)=j - i) (fun(j,_)=>((l.length:Int) - j).toNat) ⟨Int.le_refl _,by omega,by simp⟩ fun(j,w) ⟨f,g2,g3⟩=>?_) fun(j,w) ⟨f,g2,g3⟩=>?_
 ·refine aK (fun q=>?_) fun _=>av ⟨f,g2,g3⟩
  rw[dec_lt]at q;refine aW ⟨by omega,q⟩ (aq (EG p _) fun(c,ok) _=>aK (fun _=>av ⟨f,g2,g3⟩) fun _=>aW (by simp <;> omega) ?_);rw[bQ (by omega) (by omega)];exact av ⟨⟨by(try simp only);omega,by(try simp only);omega,by simp <;> omega⟩,by(try simp only);omega⟩
 ·refine aW ⟨u,by omega⟩ (aq (HM p (by omega)) fun r x=>aW ⟨by decide,by omega,by omega⟩ ?_);rw[bQ (by omega) (by omega)];refine av ⟨⟨by(try simp only);omega,?_⟩,by(try simp only);omega⟩;simp only[List.length_append,List.length_take,List.length_drop];omega
theorem AT(l:XZ):Ho (oS l) (fun b=>b=true→l.length≤256):=by
 refine aK (fun _=>av fun h=>by cases h) fun hl=>?_
 have c:l.length≤256:=by simp only[decide_eq_true_eq]at hl;omega
 refine aq (P:=fun _=>True) (bF (fun(_,i)=>0≤i∧i≤(l.length:Int)) (fun(_,i)=>((l.length:Int) - i).toNat) ⟨Int.le_refl _,by omega⟩ fun(q,i) ⟨e,f⟩=>?_) ?_
 ·refine aK (fun hi=>?_) fun _=>av trivial
  rw[dec_lt]at hi;refine aW ⟨e,hi⟩ (aq (P:=fun _=>True) ?_ fun b _=>aK (fun _=>av trivial) fun _=>?_)
  ·repeat' split
   all_goals exact av trivial
  ·rw[bQ e (by omega)];exact av ⟨⟨by(try simp only);omega,by(try simp only);omega⟩,by(try simp only);omega⟩
 ·rintro(_ | r) _
  ·exact av fun _=>c
  ·exact av fun _=>c
theorem EE(t:QX)(l:XZ)(a b:Int):Ho (m8 t l a b) (fun r=>r.2.1=0∧RH r.1∨r.2.1≠0∧r.1=none):=by
 refine aq (AT l) fun ok e=>aK (fun _=>av (.inr ⟨by decide,rfl⟩)) fun hk=>aq (P:=fun c=>c=false→(1≤a∧a≤24)∧1≤b∧b≤24) ?_ fun c q=>aK (fun _=>av (.inr ⟨by decide,rfl⟩)) fun f=>aq (Am t) fun(p,c) j=>aK (fun h=>av (.inr ⟨by simpa using h,rfl⟩)) fun _=>?_
 ·refine aK (fun _=>av fun h=>by cases h) fun u=>aK (fun _=>av fun h=>by cases h) fun v=>aK (fun _=>av fun h=>by cases h) fun z=>av fun A=>?_
  simp only[decide_eq_true_eq,decide_eq_false_iff_not]at u v z A;omega
 ·have hl:=e (by simpa using hk);refine aq (P:=fun r=>r=l) ?_ fun r B=>aq (Cq j.1) fun t ⟨_,ht⟩=>av (.inl ⟨rfl,fun x C=>?_⟩)
  ·refine aK (fun h=>av (List.isEmpty_iff.1 h).symm) fun _=>aW (by simp only[List.length_nil];omega) (av rfl)
  ·cases C;subst B;exact⟨hl,ht,j.2,q (by simpa using f)⟩
structure RB(b:Option Z1):Prop where
 para:∀x,Bytes x→x.length≤4096→∃p,aT b x=some (p,0)∧PM (x.length:Int) p
 Nw:∀x:QK,4096<x.length→aT b x=some (([],[]),3)
theorem MR{q u:Z6}{L M:Nat}{v z j:Option AR}{A B N:Int→Int}{h:Option Z3}(O:Mo q L)(V:Mo u M)(X:o9 v A)(g2:o9 z B)(g3:o9 j N)(Y:RH h):RB (some (some q,some u,v,z,j,h)) where
 para x hb hl:=by
  obtain⟨s,Z,C,a1⟩:=Jd hb hl;have hr:=C.range;have f:s.length≤4096:=by omega
  obtain⟨o1,e2,a2⟩:=zU O (w:=s.map fun x=>A x.1) (by simpa using f);obtain⟨o2,e3,D⟩:=zU V (w:=s.map fun x=>B x.1) (by simpa using f);rw[List.length_map]at D;obtain⟨E,e6,_⟩:=Hf Y f;obtain⟨⟨I,st⟩,e4,c⟩:=Gs g3 C (by omega) o1;simp only at c;obtain⟨o,e5,J⟩:=JI f D E (st:=st) (by have:=c.len;have:=c.le;omega) (fun i hi=>c.at_ i hi) (fun h=>c.zero (by have:=c.len;omega));rw[c.len]at J;have a3:=c.le;refine⟨(I,o),?_,⟨c.LV,by simp only;omega,fun h=>c.some_ (by omega),J⟩⟩;have e:¬((x.length:Int) > 4096):=by omega
  have p:gC s o1 o2 E j=some (I,o):=by unfold gC lz;simp only[e4,Option.bind];rw[if_pos (by have:=c.len;simp;omega)];simp only[e5]
  unfold aT;simp only[Option.getD,Option.isNone,Option.isSome,e,decide_false,Bool.false_eq_true,if_false,if_true,Option.bind,Z,Gh X f,Gh g2 f,e2,e3,e6,p]
 Nw x hx:=by
  have e:(x.length:Int) > 4096:=by omega
  unfold aT;simp only[Option.isNone,Bool.false_eq_true,if_false,e,decide_true,if_true]
theorem pX(l:XZ)(c:Int):Ho (fY l c) (fun r=>r.2=0∧(∃f,o9 r.1 f)∨r.2≠0):=by
 rcases vp l c with⟨e,_⟩ | ⟨t,e,_,h⟩
 ·exact⟨_,e,.inr (by decide)⟩
 ·exact⟨_,e,.inl ⟨rfl,_,h⟩⟩
theorem FA{m:Option Z6}:Ho (cg m) (fun _=>True):=by
 cases m with
 | none=>exact av trivial
 | some x=>exact⟨_,rfl,trivial⟩
theorem Em(u v x z:XZ)(A B C:QX)(D E:Int):Ho (j8 u v x z A B C D E) (fun r=>r.2.1=0∧RB r.1∨r.2.1≠0∧r.1=none):=by
 refine aq (xX A) fun(m1,L) e=>aK (fun h=>av (.inr ⟨by simpa using h,rfl⟩)) fun M=>aq (xX B) fun(m2,N) f=>aK (fun h=>av (.inr ⟨by simpa using h,rfl⟩)) fun O=>aq FA fun V _=>aq FA fun X _=>aW (by decide) (aq (pX u V) fun(t1,Y) j=>aK (fun h=>av (.inr ⟨by simpa using h,rfl⟩)) fun Z=>aW (by decide) (aq (pX v X) fun(t2,e2) p=>aK (fun h=>av (.inr ⟨by simpa using h,rfl⟩)) fun h4=>aW (by decide) (aq (pX x 3) fun(t3,e3) q=>aK (fun h=>av (.inr ⟨by simpa using h,rfl⟩)) fun h5=>aq (EE C z D E) fun(hy,e4) hh=>aK (fun h=>av (.inr ⟨by simpa using h,rfl⟩)) fun h6=>av (.inl ⟨rfl,?_⟩))))
 have z1:L.1=0:=by simpa using M
 have z2:N.1=0:=by simpa using O
 have z3:Y=0:=by simpa using Z
 have z4:e2=0:=by simpa using h4
 have z5:e3=0:=by simpa using h5
 have z6:e4.1=0:=by simpa using h6
 obtain⟨_,x1,I,r1,_⟩:=e.resolve_right fun h=>h.1 z1
 obtain⟨_,x2,J,r2,_⟩:=f.resolve_right fun h=>h.1 z2
 obtain⟨_,f1,g1⟩:=j.resolve_right fun h=>h z3
 obtain⟨_,f2,g2⟩:=p.resolve_right fun h=>h z4
 obtain⟨_,f3,g3⟩:=q.resolve_right fun h=>h z5
 obtain⟨_,rh⟩:=hh.resolve_right fun h=>h.1 z6
 simp only at I J;rw[I,J];exact MR r1 r2 g1 g2 g3 rh
def Pm(b:Option Z1):Prop:=∀x,aT b x=aT OT x
theorem zz{b p:Option Z1}(h:∀x,aT b x=aT p x)(x:QK)(q u v z A B C D c e f j E):cv x q u b v z A B C D c e f j E=cv x q u p v z A B C D c e f j E:=by
 unfold cv;rw[h]
theorem G4{b c:Option Z1}(h:∀x,aT b x=aT c x)(e f j p q u x):gw b e f j p q u x=gw c e f j p q u x:=by
 unfold gw;simp only[zz h]
theorem Eb{b p:Option Z1}(h:∀x,aT b x=aT p x)(q u v z A B C D E I J c e f j L):fu q u v z A b B C D E I J c e f j L=fu q u v z A p B C D E I J c e f j L:=by
 unfold fu;simp only[zz h]
theorem Lz:gH=some ([],j3,mD,[],Io,Jo,[],2,2):=rfl
theorem Mb:∃b,j8 [] j3 mD [] Io Jo [] 2 2=some (b,0,0)∧Pm b:=by
 obtain⟨p,q,u,e,c,f,j⟩:=M1;exact⟨_,e,L7 c f j⟩
theorem Ju{j e v x z:Int}{A:QJ}(h:fJ j e v x z A=some true):1≤e∧e≤64:=by
 unfold fJ at h;by_cases f:j≥1
 case neg=>simp[f]at h
 by_cases p:j≤1048576
 case neg=>simp[f,p]at h
 by_cases q:e≥1
 case neg=>simp[f,p,q]at h
 by_cases u:e≤64
 case neg=>simp[f,p,q,u]at h
 exact⟨q,u⟩
theorem Ev(e f j p q:Int)(u:QJ):∃b,fJ e f j p q u=some b:=by
 unfold fJ
 repeat' split
 all_goals exact⟨_,rfl⟩
theorem Iq{x:QK}(h:x.length≤100000):cS x=some x:=by
 unfold cS;cases x with
 | nil=>rfl
 | cons a r =>
  rw[if_neg (by simp),if_pos (by simp only[List.length_nil];omega)];rfl
structure OS(b:Option Z1)(c:Wy)(x:QK)(p:XK×QK)(kn:Kn):Prop where
 Np:Bytes x
 len:x.length≤4096
 para:aT b x=some (p,0)
 pm:PM (x.length:Int) p
 wy:JH c
 Pr:DX c kn
theorem Od{b:Option Z1}(hb:RB b){x:QK}(C:Bytes x)(A:x.length≤4096){c:Wy}(w:JH c){D:Kn}(hk:DX c D)(E:XK)(I:Bool)(j:QK)(q:XK)(u:QK)(v):
  ∃p f,cv x E I b c.1 c.2.1 c.2.2.1 c.2.2.2.1 c.2.2.2.2.1 c.2.2.2.2.2 j q u v D=some (0,(LF p.1 p.2 c).1,(LF p.1 p.2 c).2,x,p.1,p.2,some (AJ p.1 p.2 c),f)∧OS b c x p f:=by
 obtain⟨p,J,z⟩:=hb.para x C A;obtain⟨f,e,B⟩:=Ln J z A w hk E I j q u v;exact⟨p,f,e,⟨C,A,J,z,w,B⟩⟩
theorem Ow{b:Option Z1}(hb:RB b){c:Wy}{x:QK}(u:Bytes x)(v:x.length≤100000):
  (fJ c.1 c.2.1 c.2.2.1 c.2.2.2.1 c.2.2.2.2.1 c.2.2.2.2.2=some false∧gw b c.1 c.2.1 c.2.2.1 c.2.2.2.1 c.2.2.2.2.1 c.2.2.2.2.2 x=some (.inl 40)) ∨
  (fJ c.1 c.2.1 c.2.2.1 c.2.2.2.1 c.2.2.2.2.1 c.2.2.2.2.2=some true∧((4096<x.length∧gw b c.1 c.2.1 c.2.2.1 c.2.2.2.1 c.2.2.2.2.1 c.2.2.2.2.2 x=some (.inl 3)) ∨
   (x.length≤4096∧∃p j,gw b c.1 c.2.1 c.2.2.1 c.2.2.2.1 c.2.2.2.2.1 c.2.2.2.2.2 x=some (.inr (0,(LF p.1 p.2 c).1,(LF p.1 p.2 c).2,x,p.1,p.2,some (AJ p.1 p.2 c),j))∧OS b c x p j))):=by
 obtain⟨ok,f⟩:=Ev c.1 c.2.1 c.2.2.1 c.2.2.2.1 c.2.2.2.2.1 c.2.2.2.2.2;unfold gw;rw[f];cases ok with
 | false=>exact .inl ⟨rfl,rfl⟩
 | true =>
  refine .inr ⟨rfl,?_⟩;rw[Option.bind_some,if_neg (by decide),Iq v,Option.bind_some];by_cases q:x.length≤4096
  ·obtain⟨p,j,e,z⟩:=Od hb u q (c:=c) (Ju f) (DX.nil c) [] false [] [] [] none;refine .inr ⟨q,p,j,?_,z⟩;rw[e];rfl
  ·refine .inl ⟨by omega,?_⟩;unfold cv;rw[hb.Nw x (by omega)];rfl
abbrev Pg:=Int×(Int×Int×QK)×(Int×Int×Int×Int×Int×QJ)×Int×Bool×Int×Int
abbrev OJ:=Int×(Int×Int)×Int×XK×Bool
theorem LP(e f j p q:Int)(u:QJ)(b:Option Z1)(v:XK)(z:Bool)(x:QK)(A:XK)(B:QK)(m)(C:Kn)(out:List OJ):gD e f j p q u [] b (v,z,x,A,B,m,C,out,0)=some (.inr (.inl out)):=rfl
theorem JT:nJ=some ():=rfl
theorem Iy{b c:Option Z1}(h:∀x,aT b x=aT c x)(e f j p q:Int)(u:QJ)(l:List Pg):gD e f j p q u l b=gD e f j p q u l c:=by
 funext s;unfold gD iX iV fy jd;simp only[Eb h]
theorem Ky:eO=some true:=by
 obtain⟨b,e,hb⟩:=Mb;unfold eO np;rw[Lz];simp only[Option.bind_some,e,G4 hb,Iy hb];kernel_rfl
theorem F2{L:QQ}{k:Nat}(h:∀x∈L,x.length≤k)(i:Nat):(L.getD i []).length≤k:=by
 rcases Nat.lt_or_ge i L.length with hi | hi
 ·exact h _ (bS hi _)
 ·rw[List.getD_eq_getElem?_getD,List.getElem?_eq_none hi];exact Nat.zero_le _
theorem sX{n:Int}(h:¬n=0)(i:Int):Ho (cm n i) (fun r=>r.length=1):=by
 refine aW h (av ?_);simp[bytesOf]
theorem pg{n:Int}(h:1≤n∧n≤6)(b:Int):Ho (bY n b) (fun r=>r.length≤12):=by
 refine aq (P:=fun r=>r.length≤12) (bF (fun(o,i)=>0≤i∧i≤n∧(o.length:Int)≤2*i) (fun(_,i)=>(n - i).toNat) ⟨Int.le_refl _,by omega,Int.le_refl _⟩ fun(o,i) ⟨e,f,j⟩=>?_) fun r c=>av c
 refine aK (fun hi=>?_) fun _=>av (show o.length≤12 by omega)
 rw[dec_lt]at hi;refine aW e (aW (by decide) (aq (P:=fun r=>(r.length:Int)≤2*(i+1)) (aK (fun _=>aW (by simp <;> omega) (aq (sX (by omega) i) fun r c=>aW (by simp <;> omega) (av ?_))) fun _=>av (show(o.length:Int)≤2*(i+1) by omega)) fun r c=>?_))
 ·simp only[List.length_append,List.length_singleton];omega
 ·rw[bQ e (by omega)];exact av ⟨⟨by(try simp only);omega,by(try simp only);omega,c⟩,by(try simp only);omega⟩
section
variable{l:QK}(hl:l.length≤1000){n:Int}(hn:1≤n∧n≤6)
include hl
theorem Bi{i:Int}(h:0≤i∧i≤(l.length:Int)):Ho (br l i) (fun r=>0≤r.2∧r.2≤(l.length:Int)):=by
 unfold br;rw[bQ h.1 (by omega),wrap_i64 (by omega) (by omega)];refine aK (fun _=>av h) fun hi=>?_
 have c:i<(l.length:Int):=by simp only[ge_iff_le,decide_eq_true_eq]at hi;omega
 exact aW (by omega) (av ⟨by(try simp only);omega,by(try simp only);omega⟩)
def vT:Nat→Nat
 | 0=>20
 | d+1=>2*vT d+3
omit hl in
theorem FE:∀d,d≤3→20≤vT d∧vT d≤200
 | 0,_=>by decide
 | 1,_=>by decide
 | 2,_=>by decide
 | 3,_=>by decide
include hn
theorem FT:∀(d f:Nat),d≤3→d<f→∀ {i:Int},(0≤i∧i≤(l.length:Int))→Ho (cF f n (d:Int) l i) (fun r=>r.1.length≤vT d∧0≤r.2∧r.2≤(l.length:Int))
 | _,0,_,h,_,_=>absurd h (by omega)
 | d,f+1,hd,z,i,hi=>by
  obtain⟨A,B⟩:=FE d hd;simp only[cF];unfold dQ;refine aq (Bi hl hi) fun(c,j) e=>aK (fun _=>aq (sX (by omega) c) fun r p=>av ⟨by(try simp only);omega,e⟩) fun q=>aW (by decide) ?_
  have u:0<d:=by simp only[decide_eq_true_eq]at q;omega
  obtain⟨d,rfl⟩:∃k,d=k+1:=⟨d - 1,by omega⟩;have v:i64.wrap (((d+1:Nat):Int) - 1)=(d:Int):=by rw[wrap_i64 (by omega) (by omega)];omega
  have em:vT (d+1)=2*vT d+3:=rfl;obtain⟨C,g2⟩:=FE d (by omega);rw[v];have p:=fun {i:Int} (hi:0≤i∧i≤(l.length:Int))=>FT d f (by omega) (by omega) hi
  refine aK (fun _=>av ⟨by simp <;> omega,e⟩) fun _=>aK (fun _=>?_) fun _=>aK (fun _=>?_) fun _=>aK (fun _=>?_) fun _=>aK (fun _=>?_) fun _=>aK (fun _=>?_) fun _=>aK (fun _=>?_) fun _=>aK (fun _=>?_) fun _=>?_
  ·exact aq (Bi hl e) fun(c,j) e=>aq (pg hn _) fun r p=>aW (by simp <;> omega) (aW (by simp <;> omega) (av ⟨by simp <;> omega,e⟩))
  ·exact aq (Bi hl e) fun(c,j) e=>aq (pg hn _) fun r p=>aW (by simp <;> omega) (aW (by simp <;> omega) (av ⟨by simp <;> omega,e⟩))
  iterate 3
   ·exact aq (p e) fun(t,j) ⟨(ht:t.length≤vT d),e⟩=>aW (by simp <;> omega) (aW (by simp <;> omega) (av ⟨by simp <;> omega,e⟩))
  ·exact aq (p e) fun(t,j) ⟨(ht:t.length≤vT d),e⟩=>aq (p e) fun(s,k) ⟨(x:s.length≤vT d),hk⟩=>aW (by simp <;> omega) (aW (by simp <;> omega) (aW (by simp <;> omega) (aW (by simp <;> omega) (av ⟨by simp <;> omega,hk⟩))))
  ·exact aq (p e) fun(t,j) ⟨(ht:t.length≤vT d),e⟩=>aq (p e) fun(s,k) ⟨(x:s.length≤vT d),hk⟩=>aW (by simp <;> omega) (aW (by simp <;> omega) (av ⟨by simp <;> omega,hk⟩))
  ·exact aq (sX (by omega) c) fun r p=>av ⟨by(try simp only);omega,e⟩
end
theorem Gn{n:Int}(hn:1≤n∧n≤6)(l:QK):Ho (eM n l) (fun r=>r.length≤200):=by
 refine aK (fun _=>av (by decide)) fun _=>aW (by omega) ?_
 exact aq (FT (by simp only[List.length_drop,List.length_take];omega) hn 3 1000 (by omega) (by omega) ⟨Int.le_refl _,by omega⟩) fun(t,j) ⟨(c:t.length≤vT 3),_⟩=>av (show t.length≤200 from Nat.le_trans c (by decide))
theorem BU{a b c:Int}{tr:QK}{l:List yE}(ha:0≤a)(hl:∀i,0≤(l.getD i (0,[],([]:QK))).1):Ho (eP a b c tr l) (fun r=>r.length≤10000):=by
 refine aq (P:=fun n=>1≤n∧n≤6) ?_ fun n hn=>aq (pg hn _) fun t ht=>aW (by simp <;> omega) (aW (by simp <;> omega) (aq (P:=fun r=>r.length≤100) (aK (fun _=>aW (by simp <;> omega) (aq (pg hn _) fun s A=>aW (by simp <;> omega) (aW (by simp <;> omega) (aq (pg hn _) fun u hu=>aW (by simp <;> omega) (aW (by simp <;> omega) (av (by simp <;> omega))))))) fun _=>av (by simp <;> omega)) fun v p=>aq (P:=fun r=>r.length≤200) ?_ fun v p=>aq (P:=fun r=>r.length≤10000) ?_ fun v p=>av p))
 ·unfold bB;have:Int.tmod a 6=a % 6:=Int.tmod_eq_emod_of_nonneg ha;rw[this,wrap_i64 (x:=a % 6) (by omega) (by omega),wrap_i64 (by omega) (by omega)];exact aW (by decide) (av ⟨by omega,by omega⟩)
 ·refine bF (fun(o,i)=>0≤i∧i≤n∧(o.length:Int)≤100+13*i) (fun(_,i)=>(n - i).toNat) ⟨Int.le_refl _,by omega,by(try simp only);omega⟩ fun(o,i) ⟨e,C,D⟩=>?_
  refine aq (P:=fun b=>b=true→i<(tr.length:Int)∧i<n) (aK (fun q=>av fun r=>⟨of_decide_eq_true q,of_decide_eq_true r⟩) fun _=>av fun h=>(by cases h)) fun q z=>aK (fun f=>?_) fun _=>av (show o.length≤200 by omega)
  obtain⟨j,E⟩:=z f;refine aW (by simp <;> omega) (aq (sX (by omega) _) fun r I=>aW (by simp <;> omega) (aW (by simp <;> omega) (aW ⟨e,j⟩ (aq (sX (by omega) _) fun s A=>aW (by simp <;> omega) (aW (by simp <;> omega) ?_)))));rw[bQ e (by omega)];exact av ⟨⟨by(try simp only);omega,by(try simp only);omega,by simp <;> omega⟩,by(try simp only);omega⟩
 ·refine bF (fun(o,i)=>0≤i∧i≤10∧(o.length:Int)≤200+410*i) (fun(_,i)=>(10 - i).toNat) ⟨Int.le_refl _,by omega,by(try simp only);omega⟩ fun(o,i) ⟨e,C,D⟩=>?_
  refine aq (P:=fun b=>b=true→i<(l.length:Int)∧i<10) (aK (fun q=>av fun r=>⟨of_decide_eq_true q,of_decide_eq_true r⟩) fun _=>av fun h=>(by cases h)) fun q z=>aK (fun f=>?_) fun _=>av (show o.length≤10000 by omega)
  obtain⟨j,E⟩:=z f;have J:=hl i.toNat;have B:Int.tmod (l.getD i.toNat (0,[],([]:QK))).1 3=(l.getD i.toNat (0,[],([]:QK))).1 % 3:=Int.tmod_eq_emod_of_nonneg J;have M:=F2 (L:=[([107,101,101,112,32]:QX),([109,97,121,32]:QX),([109,117,115,116,32]:QX)]) (k:=5) (by decide) (Int.tmod (l.getD i.toNat (0,[],([]:QK))).1 3).toNat;refine aW ⟨e,j⟩ (aW (by decide) (aW (by rw[B];simp only[List.length_cons,List.length_nil];omega) (aW (by rw[B];simp only[List.length_cons,List.length_nil];omega) ?_)));generalize ([([107,101,101,112,32]:QX),([109,97,121,32]:QX),([109,117,115,116,32]:QX)]:QQ).getD (Int.tmod (l.getD i.toNat (0,[],([]:QK))).1 3).toNat []=w at M ⊢;refine aW (by omega) (aW ⟨e,j⟩ (aq (Gn hn _) fun r I=>aW (by simp only[List.length_append];omega) (aW (by simp <;> omega) (aW ⟨e,j⟩ (aq (Gn hn _) fun s A=>aW (by simp <;> omega) (aW (by simp <;> omega) ?_))))));rw[bQ e (by omega)];exact av ⟨⟨by(try simp only);omega,by(try simp only);omega,by simp <;> omega⟩,by(try simp only);omega⟩
theorem uM{n:Int}(hn:¬n=0)(l:QK):Ho (cV l n) (fun _=>True):=by
 refine aq (P:=fun _=>True) ?_ fun _ _=>av trivial
 have e:([9,10,32,45,97,98,99,233,769,8205,20013,65533,128512]:QK).length=13:=rfl;unfold fF;generalize ([9,10,32,45,97,98,99,233,769,8205,20013,65533,128512]:QK)=L at e;refine bF (fun(o,i)=>0≤i∧i≤13∧(o.length:Int)≤i) (fun(_,i)=>(13 - i).toNat) ⟨Int.le_refl _,by omega,by simp⟩ fun(o,i) ⟨f,p,u⟩=>?_
 refine aq (P:=fun b=>b=true→i<13∧i<(l.length:Int)) (aK (fun q=>av fun r=>⟨by have:=of_decide_eq_true q;omega,of_decide_eq_true r⟩) fun _=>av fun h=>(by cases h)) fun q j=>aK (fun c=>?_) fun _=>av trivial
 obtain⟨v,x⟩:=j c;refine aW (by omega) (aW (by omega) (aW (by omega) (aW (by omega) (aW (by omega) (aW hn (aW (by simp <;> omega) ?_))))));rw[bQ f (by omega)];exact av ⟨⟨by(try simp only);omega,by(try simp only);omega,by simp <;> omega⟩,by(try simp only);omega⟩
theorem BM{l:QK}(hl:∀i,0≤l.getD i 0∧l.getD i 0≤255):Ho (eJ l) (fun _=>True):=by
 refine aq (P:=fun _=>True) ?_ fun _ _=>av trivial
 have j:([([97]:QX),([98]:QX),([99]:QX),([49]:QX),([50]:QX),([51]:QX),([32]:QX),([32]:QX),([97,49,98,32]:QX),([98,49,99,32]:QX),([50,99,32]:QX),([46,97,49]:QX),([99,46]:QX),([97,98,45,99,32]:QX),([99,97,45,98,45,97,32]:QX)]:QQ).length=15:=rfl;have e:∀x∈([([97]:QX),([98]:QX),([99]:QX),([49]:QX),([50]:QX),([51]:QX),([32]:QX),([32]:QX),([97,49,98,32]:QX),([98,49,99,32]:QX),([50,99,32]:QX),([46,97,49]:QX),([99,46]:QX),([97,98,45,99,32]:QX),([99,97,45,98,45,97,32]:QX)]:QQ),x.length≤7:=by decide
 unfold fh;generalize ([([97]:QX),([98]:QX),([99]:QX),([49]:QX),([50]:QX),([51]:QX),([32]:QX),([32]:QX),([97,49,98,32]:QX),([98,49,99,32]:QX),([50,99,32]:QX),([46,97,49]:QX),([99,46]:QX),([97,98,45,99,32]:QX),([99,97,45,98,45,97,32]:QX)]:QQ)=L at j e;refine bF (fun(o,i)=>0≤i∧i≤60∧(o.length:Int)≤7*i) (fun(_,i)=>(60 - i).toNat) ⟨Int.le_refl _,by omega,by simp⟩ fun(o,i) ⟨f,A,B⟩=>?_
 refine aq (P:=fun b=>b=true→i<(l.length:Int)∧i<60) (aK (fun q=>av fun r=>⟨of_decide_eq_true q,of_decide_eq_true r⟩) fun _=>av fun h=>(by cases h)) fun q p=>aK (fun c=>?_) fun _=>av trivial
 obtain⟨u,C⟩:=p c;obtain⟨v,D⟩:=hl i.toNat;have z:Int.tmod (i64.wrap (l.getD i.toNat 0)) 15=l.getD i.toNat 0 % 15:=by rw[wrap_i64 (by omega) (by omega)];exact Int.tmod_eq_emod_of_nonneg v
 have E:=F2 e (l.getD i.toNat 0 % 15).toNat;refine aW ⟨f,u⟩ (aW (by decide) ?_);rw[z];refine aW (by omega) (aW (by omega) (aW (by omega) ?_));rw[bQ f (by omega)];exact av ⟨⟨by(try simp only);omega,by(try simp only);omega,by simp only[List.length_append];omega⟩,by(try simp only);omega⟩
def N6(a:Int)(l:List yE):Prop:=0≤a∧∀i,0≤(l.getD i (0,[],([]:QK))).1
theorem Dq{a:Int}(ha:0≤a)(b c:Int)(tr:QK)(l:List yE):Ho (bB a b c tr l) (fun n=>¬n=0):=by
 unfold bB;have:Int.tmod a 6=a % 6:=Int.tmod_eq_emod_of_nonneg ha;rw[this,wrap_i64 (x:=a % 6) (by omega) (by omega),wrap_i64 (by omega) (by omega)];exact aW (by decide) (av (show ¬1+a % 6=0 by omega))
theorem Kg{z C D:Int}{E:QK}{A:List yE}{B I J:Int}{L:QK}{e:List yE}{f j p c:QK}{q u:Int}(v:N6 z A)(x:N6 B e)(M:∀i,0≤c.getD i 0∧c.getD i 0≤255):Ho (dH z C D E A B I J L e f j p c q u) (fun _=>True):=by
 exact aq (Dq v.1 _ _ _ _) fun n hn=>aq (uM hn _) fun _ _=>aq (Dq x.1 _ _ _ _) fun n hn=>aq (uM hn _) fun _ _=>aq (uM (by decide) _) fun _ _=>aq (BU v.1 v.2) fun _ _=>aq (BU x.1 x.2) fun _ _=>aq (BM M) fun _ _=>aW (by decide) (aW (by decide) (av trivial))
end
end Go.Proofs.YtmcemnfjddoejaaGreatDoor.T
