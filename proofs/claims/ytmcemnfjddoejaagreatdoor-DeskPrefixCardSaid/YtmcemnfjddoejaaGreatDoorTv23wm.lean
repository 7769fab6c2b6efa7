/- New flows over the example's book. -/
import Derived.Test.YtmcemnfjddoejaaGreatDoorTv23um
namespace Go.Proofs.YtmcemnfjddoejaaGreatDoor.T
open Go Go.Tv Go.Proofs
open Go.IntKind (i64)
noncomputable section
def Ia(b:Option Z1):Prop:=∀x,aM b x=aM Ki x
theorem FM{x:List Int}(h:4096<x.length):aM Ki x=some (([],[]),3):=by
 have e:(x.length:Int) > 4096:=by omega
 unfold aM Ki;simp only[Option.isNone,Bool.false_eq_true,if_false,e,decide_true,if_true]
theorem tL{b k:Option Z1}(h:∀x,aM b x=aM k x)(x:List Int)(m p q u v z A B c e f j C):bQ x m p b q u v z A B c e f j C=bQ x m p k q u v z A B c e f j C:=by
 unfold bQ;rw[h]
theorem Fs{b c:Option Z1}(h:∀x,aM b x=aM c x)(e f j k m p x):gW b e f j k m p x=gW c e f j k m p x:=by
 unfold gW;simp only[tL h]
theorem C4{b k:Option Z1}(h:∀x,aM b x=aM k x)(m p q u v z A B C D E c e f j I):dh m p q u v b z A B C D E c e f j I=dh m p q u v k z A B C D E c e f j I:=by
 unfold dh;simp only[tL h]
theorem Ho:dF=some ([],fW,iG,[],Dc,DR,[],2,2):=rfl
theorem HO:∃b,mJ [] fW iG [] Dc DR [] 2 2=some (b,0,0)∧Ia b:=by
 obtain⟨m,p,q,e,f,j,k⟩:=K3;exact⟨_,e,JX f j k⟩
theorem AU{j e q u v:Int}{x:Option Nat}(h:cU j e q u v x=some true):1≤e∧e≤64:=by
 unfold cU at h;by_cases f:j≥1
 case neg=>simp[f]at h
 by_cases k:j≤1048576
 case neg=>simp[f,k]at h
 by_cases m:e≥1
 case neg=>simp[f,k,m]at h
 by_cases p:e≤64
 case neg=>simp[f,k,m,p]at h
 exact⟨m,p⟩
theorem wu(e f j k m:Int)(p:Option Nat):∃b,cU e f j k m p=some b:=by
 unfold cU
 repeat' split
 all_goals exact⟨_,rfl⟩
theorem HJ{x:List Int}(h:x.length≤100000):cv x=some x:=by
 unfold cv;cases x with
 | nil=>rfl
 | cons a r =>
  rw[if_neg (by simp),if_pos (by simp only[List.length_nil];omega)];rfl
structure xR(c:Wy)(x:List Int)(p:List bB×List Int)(kn:Kn):Prop where
 Kd:Bytes x
 len:x.length≤4096
 para:aM Ki x=some (p,0)
 pm:PM (x.length:Int) p
 wy:GZ c
 Mt:A6 c kn
theorem Ke{b:Option Z1}(hb:Ia b){x:List Int}(A:Bytes x)(v:x.length≤4096){c:Wy}(w:GZ c){B:Kn}(I:A6 c B)(C:List bB)(D:Bool)(j:List Int)(k:List bB)(m:List Int)(q):
  ∃p f,bQ x C D b c.1 c.2.1 c.2.2.1 c.2.2.2.1 c.2.2.2.2.1 c.2.2.2.2.2 j k m q B=some (0,(LF p.1 p.2 c).1,(LF p.1 p.2 c).2,x,p.1,p.2,some (ib p.1 p.2 c),f)∧xR c x p f:=by
 obtain⟨p,E,u⟩:=Fv A v;obtain⟨f,e,z⟩:=J1 ((hb x).trans E) u v w I C D j k m q;exact⟨p,f,e,⟨A,v,E,u,w,z⟩⟩
theorem L0{b:Option Z1}(hb:Ia b){c:Wy}{x:List Int}(m:Bytes x)(q:x.length≤100000):
  (cU c.1 c.2.1 c.2.2.1 c.2.2.2.1 c.2.2.2.2.1 c.2.2.2.2.2=some false∧gW b c.1 c.2.1 c.2.2.1 c.2.2.2.1 c.2.2.2.2.1 c.2.2.2.2.2 x=some (.inl 40)) ∨
  (cU c.1 c.2.1 c.2.2.1 c.2.2.2.1 c.2.2.2.2.1 c.2.2.2.2.2=some true∧((4096<x.length∧gW b c.1 c.2.1 c.2.2.1 c.2.2.2.1 c.2.2.2.2.1 c.2.2.2.2.2 x=some (.inl 3)) ∨
   (x.length≤4096∧∃p j,gW b c.1 c.2.1 c.2.2.1 c.2.2.2.1 c.2.2.2.2.1 c.2.2.2.2.2 x=some (.inr (0,(LF p.1 p.2 c).1,(LF p.1 p.2 c).2,x,p.1,p.2,some (ib p.1 p.2 c),j))∧xR c x p j))):=by
 obtain⟨ok,f⟩:=wu c.1 c.2.1 c.2.2.1 c.2.2.2.1 c.2.2.2.2.1 c.2.2.2.2.2;unfold gW;rw[f];cases ok with
 | false=>exact .inl ⟨rfl,rfl⟩
 | true =>
  refine .inr ⟨rfl,?_⟩;rw[Option.bind_some,if_neg (by decide),HJ q,Option.bind_some];by_cases k:x.length≤4096
  ·obtain⟨p,j,e,u⟩:=Ke hb m k (c:=c) (AU f) (A6.nil c) [] false [] [] [] none;refine .inr ⟨k,p,j,?_,u⟩;rw[e];rfl
  ·refine .inl ⟨by omega,?_⟩;unfold bQ;rw[hb x,FM (by omega)];rfl
theorem HV:∃S,eZ=some S∧S.length=14∧∀i,(S.getD i []).length≤4:=by
 refine⟨_,rfl,rfl,fun i=> ?_⟩;rcases(show i=0∨i=1∨i=2∨i=3∨i=4∨i=5∨i=6∨i=7∨i=8∨i=9∨i=10∨i=11∨i=12∨i=13∨14≤i by omega)with rfl | rfl | rfl | rfl | rfl | rfl | rfl | rfl | rfl | rfl | rfl | rfl | rfl | rfl | h
 case inr.inr.inr.inr.inr.inr.inr.inr.inr.inr.inr.inr.inr.inr=>rw[List.getD_eq_getElem?_getD,List.getElem?_eq_none (by simpa using h)];simp
 all_goals decide
theorem At(l:List UInt8):Bytes (cb l):=fun x c=>by
 unfold cb at c;obtain⟨b,_,rfl⟩:=List.mem_map.1 c;have:=b.toNat_lt;omega
theorem Ha{l:List Int}(hl:l.length≤1000)(hb:∀i,0≤l.getD i 0∧l.getD i 0≤255):∃t,dH l=some t∧Bytes t∧t.length≤4*l.length:=by
 obtain⟨S,A,p,q⟩:=HV;obtain⟨t,e,j,f⟩:=cF (body:=cO l) (fun z:List Int×Int=>∃k:Nat,z.2=(k:Int)∧k≤l.length∧z.1.length≤4*k∧Bytes z.1) (fun z=>l.length - z.2.toNat) (fun t=>Bytes t∧t.length≤4*l.length) (by
  rintro⟨out,v⟩ ⟨k,rfl,M,j,f⟩;simp only at j f;by_cases B:k<l.length
  ·left
   obtain⟨C,N⟩:=hb k;have D:i64.wrap (l.getD k 0)=l.getD k 0:=wrap_i64 (by omega) (by omega);have E:Int.tmod (l.getD k 0) 14=l.getD k 0 % 14:=Int.tmod_eq_emod_of_nonneg C;have u:(k:Int)<(l.length:Int):=by omega
   have I:0≤(k:Int):=by omega
   have J:0≤l.getD k 0 % 14∧l.getD k 0 % 14<(S.length:Int):=by rw[p];omega
   have O:=q (l.getD k 0 % 14).toNat;have g:out.length+(S.getD (l.getD k 0 % 14).toNat []).length≤140737488355328:=by omega
   have L:¬(14:Int)=0:=by decide
   refine⟨(out++cb (S.getD (l.getD k 0 % 14).toNat []),((k+1:Nat):Int)),?_,⟨k+1,rfl,by omega,?_,?_⟩,by simp only[Int.toNat_natCast];omega⟩
   ·simp only[cO,A,Option.bind_some,u,I,and_self,decide_true,if_true,Int.toNat_natCast,D,E,J,L,not_false_eq_true,g,bj (show k≤9000000000000000000 by omega)]
   ·simp only[List.length_append];have:(cb (S.getD (l.getD k 0 % 14).toNat [])).length=(S.getD (l.getD k 0 % 14).toNat []).length:=by simp[cb]
    omega
   ·intro x c;rcases List.mem_append.1 c with c | c
    ·exact f x c
    ·exact At _ x c
  ·right
   obtain rfl:k=l.length:=by omega
   refine⟨out,?_,f,j⟩;have u:¬((l.length:Int)<(l.length:Int)):=Int.lt_irrefl _;simp only[cO,u,decide_false,Bool.false_eq_true,if_false]) (s:=([],0)) ⟨0,rfl,by omega,by simp,fun x c=>by cases c⟩
 refine⟨t,?_,j,f⟩;unfold dH;rw[e];rfl
end
end Go.Proofs.YtmcemnfjddoejaaGreatDoor.T
namespace Go.Proofs.YtmcemnfjddoejaaGreatDoor.T
open Go Go.Tv Go.Proofs
open Go.IntKind (i64)
noncomputable section
theorem IS{n:Nat}(h:n≤100000):bZ (n:Int)=some []:=by
 have e:i64.wrap ((0:Int) - 0)=0:=rfl;have f:i64.wrap ((n:Int) - 0)=(n:Int):=by rw[wrap_i64 (by omega) (by omega)];omega
 unfold bZ;rw[e,f,if_neg (by rw[decide_eq_true_eq];omega),Option.bind_some];by_cases j:n=0
 ·subst j;rfl
 ·rw[if_pos (c:=decide ((n:Int) > 0)=true) (by rw[decide_eq_true_eq];omega),if_pos (by decide),if_pos (by rw[Int.toNat_natCast];simp;omega),if_pos (by rw[Int.toNat_natCast,List.length_replicate];omega)];rfl
theorem FF{a b c:List Int}(h:a.length+b.length+c.length≤100000):cg a b c=some (a++b++c):=by
 have c0:0≤(0:Int)∧(0:Int)<((3:Nat):Int):=by decide
 have e:0≤(1:Int)∧(1:Int)<((3:Nat):Int):=by decide
 have f:0≤(2:Int)∧(2:Int)<((3:Nat):Int):=by decide
 have j:i64.wrap ((0:Int)+(a.length:Int))=(a.length:Int):=by rw[wrap_i64 (by omega) (by omega)];omega
 have k:i64.wrap ((a.length:Int)+(b.length:Int))=((a.length+b.length:Nat):Int):=by rw[wrap_i64 (by omega) (by omega)];omega
 have m:i64.wrap (((a.length+b.length:Nat):Int)+(c.length:Int))=((a.length+b.length+c.length:Nat):Int):=by rw[wrap_i64 (by omega) (by omega)];omega
 unfold cg;rw[j,k,m,IS h];have p:¬((a.length:Int)<0):=by omega
 have g2:¬(((a.length+b.length:Nat):Int)<0):=by omega
 have g3:¬(((a.length+b.length+c.length:Nat):Int)<0):=by omega
 simp only[c0,e,f,p,g2,g3,and_self,decide_false,Bool.false_eq_true,if_true,if_false,Option.bind_some,List.nil_append,List.length_append,List.length_nil];rw[if_pos (by omega),if_pos (by omega),if_pos (by omega)]
theorem nY{n:Nat}(B:n≤4096)(e c:Int)(f:List Int):jt (n:Int) e c f=some (if e<0∨c<0∨e > (n:Int)∨c > (n:Int) - e then 50 else if f.length > 4096∨(n:Int) - c+(f.length:Int) > 4096 then 3 else 0):=by
 unfold jt;by_cases k:e<0
 ·simp[k]
 by_cases m:c<0
 ·simp[k,m]
 by_cases p:e > (n:Int)
 ·simp[k,m,p]
 have x:i64.wrap ((n:Int) - e)=(n:Int) - e:=wrap_i64 (by omega) (by omega);rw[x];by_cases q:c > (n:Int) - e
 ·simp[k,m,p,q]
 have z:i64.wrap ((n:Int) - c)=(n:Int) - c:=wrap_i64 (by omega) (by omega);rw[z];by_cases u:(f.length:Int) > 4096
 ·have j:f.length > 4096:=by omega
  simp[k,m,p,q,u,j]
 have j:¬f.length > 4096:=by omega
 have A:i64.wrap ((n:Int) - c+(f.length:Int))=(n:Int) - c+(f.length:Int):=wrap_i64 (by omega) (by omega);rw[A];by_cases v:(n:Int) - c+(f.length:Int) > 4096
 ·simp[k,m,p,q,u,j,v]
 ·simp[k,m,p,q,u,j,v]
theorem F1{x e:List Int}(f:x.length≤4096)(p:e.length≤4096){i d:Nat}(h:i+d≤x.length)(hl:x.length - d+e.length≤4096):dW x (i:Int) (d:Int) e=some (x.take i++e++x.drop (i+d),0):=by
 have c:jt (x.length:Int) (i:Int) (d:Int) e=some 0:=by rw[nY f,if_neg (by omega),if_neg (by omega)]
 unfold dW;rw[c,Option.bind_some];have j:i64.wrap ((i:Int)+(d:Int))=((i+d:Nat):Int):=by rw[wrap_i64 (by omega) (by omega)];omega
 rw[if_neg (by decide),if_pos (by omega),j,if_pos (by omega)];have k:(x.take (i:Int).toNat).drop (0:Int).toNat=x.take i:=rfl;have m:(x.take (x.length:Int).toNat).drop ((i+d:Nat):Int).toNat=x.drop (i+d):=by rw[Int.toNat_natCast,Int.toNat_natCast,List.take_length]
 rw[k,m,FF (by simp only[List.length_take,List.length_drop];omega)];rfl
theorem Dp{x:List Int}(j:x.length≤4096)(c e:Int)(f:List Int):(∃code,code≠0∧dW x c e f=some ([],code)) ∨
  (∃i d:Nat,c=(i:Int)∧e=(d:Int)∧i+d≤x.length∧(x.take i++f++x.drop (i+d)).length≤4096∧dW x c e f=some (x.take i++f++x.drop (i+d),0)):=by
 by_cases k:c<0∨e<0∨c > (x.length:Int)∨e > (x.length:Int) - c
 ·refine .inl ⟨50,by decide,?_⟩;unfold dW;rw[nY j,Option.bind_some,if_pos k];rfl
 ·by_cases m:f.length > 4096∨(x.length:Int) - e+(f.length:Int) > 4096
  ·refine .inl ⟨3,by decide,?_⟩;unfold dW;rw[nY j,Option.bind_some,if_neg k,if_pos m];rfl
  ·obtain⟨i,rfl⟩:∃i:Nat,c=(i:Int):=⟨c.toNat,by omega⟩;obtain⟨d,rfl⟩:∃d:Nat,e=(d:Int):=⟨e.toNat,by omega⟩;refine .inr ⟨i,d,rfl,rfl,by omega,?_,F1 j (by omega) (by omega) (by omega)⟩;simp only[List.length_append,List.length_take,List.length_drop];omega
theorem Av{x e:List Int}(f:Bytes x)(j:Bytes e)(i d:Nat):Bytes (x.take i++e++x.drop (i+d)):=fun y c=>by
 simp only[List.mem_append]at c;rcases c with(c | c) | c
 ·exact f y (List.mem_of_mem_take c)
 ·exact j y c
 ·exact f y (List.mem_of_mem_drop c)
theorem FY{c:Wy}{x:List Int}{p:List bB×List Int}{f:Kn}(h:xR c x p f):∃r,fT p.1 p.2 (LF p.1 p.2 c).1=some r:=by
 have j:=h.pm.LN (by have:=h.len;omega);have hl:=j.1;have u:=h.pm.I0.len;have e:F7 p.2 p.1.length 0 (dO p.2 p.2.length):=by rw[pr];exact lH _ _ _ (by omega)
 obtain⟨m,v⟩:=pQ c e;refine GY hl (by unfold LF;omega) (fun k q=> ?_) p.2;obtain⟨a,b,z,A,B,C⟩:=m ((LF p.1 p.2 c).1.getD k c0) (kK q);omega
end
end Go.Proofs.YtmcemnfjddoejaaGreatDoor.T
namespace Go.Proofs.YtmcemnfjddoejaaGreatDoor.T
open Go Go.Tv Go.Proofs
open Go.IntKind (i64)
noncomputable section
def tV:Nat→List bB→Nat→Prop
 | a,[],b=>a=b
 | a,x::r,b=>∃m:Nat,x.1=(a:Int)∧x.2.1=(m:Int)∧a≤m∧tV m r b
theorem tV.app:∀ {a b c:Nat} {l k:List bB},tV a l b→tV b k c→tV a (l++k) c
 | a,b,c,[],k,h,h'=>by cases h;exact h'
 | a,b,c,x::r,k,⟨m,e,f,j,p⟩,h'=>⟨m,e,f,j,p.app h'⟩
theorem tV.Mk(f:Nat):∀ {a b:Nat} {l:List bB},tV a l b→tV (f+a) (cX l (f:Int)) (f+b)
 | a,b,[],h=>by cases h;rfl
 | a,b,x::r,⟨m,e,j,p,c⟩=>by
  rw[Fy];exact⟨f+m,by simp only;omega,by simp only;omega,by omega,c.Mk f⟩
theorem zq(d:Dt)(n:Nat)(e c:Int):∀m a,a≤n→n - a≤m→tV a (eM d n e c m a) n
 | 0,a,f,j=>by simp only[eM,tV];omega
 | m+1,a,f,j=>by
  simp only[eM];split
  ·rename_i ha;have h:=tl d e c ha;exact⟨_,rfl,rfl,by omega,zq d n e c m _ h.2 (by omega)⟩
  ·simp only[tV];omega
theorem Bi(d:Dt){n:Nat}(c:Int){T:List (Int×Int)}(hT:∀a,a<n→0≤(T.getD a (0,0)).2→(a:Int)<(T.getD a (0,0)).2∧(T.getD a (0,0)).2≤(n:Int)∧((T.getD a (0,0)).2<(n:Int)→0≤(T.getD (T.getD a (0,0)).2.toNat (0,0)).2)):
  ∀m a,a≤n→n - a≤m→(a<n→0≤(T.getD a (0,0)).2)→tV a (jc d n c T m a) n
 | 0,a,e,f,_=>by simp only[jc,tV];omega
 | m+1,a,e,f,j=>by
  simp only[jc];split
  ·rename_i ha;obtain⟨p,q,k⟩:=hT a ha (j ha);exact⟨(T.getD a (0,0)).2.toNat,rfl,rfl,by omega,Bi d c hT m _ (by omega) (by omega) (fun _=>k (by omega))⟩
  ·simp only[tV];omega
theorem Hb(d:Dt)(n:Nat)(c:Wy):tV 0 (gI d n c).1 n:=by
 have f:=zq d n c.1 c.2.1 n 0 (by omega) (by omega);unfold gI ql;by_cases j:c.2.2.1=1
 ·rw[if_pos j];by_cases e:n=0
  ·rw[if_pos e];exact e.symm
  ·rw[if_neg e];by_cases k:((dI d n c n).getD 0 (0,0)).2<0
   ·rw[if_pos k];exact f
   ·rw[if_neg k];exact Bi d c.2.1 (sA d n c) n 0 (by omega) (by omega) (fun _=>by omega)
 ·rw[if_neg j];exact f
def IQ:Nat→List Int→Nat
 | c,[]=>c
 | _,t::r=>IQ t.toNat r
theorem zi:∀(l:List Int) (c:Nat) (t:Int),IQ c (l++[t])=t.toNat
 | [],_,_=>rfl
 | _::r,_,t=>zi r _ t
theorem zy{cl:List bB}{o:List Int}{M:Nat}(c:Wy):∀ {l:List Int} {e:Nat},F7 o M e l→tV e (jz cl o c e l).1 (IQ e l)
 | [],e,_=>rfl
 | t::r,e,⟨j,k,m,p,f⟩=>by
  have h:=(Hb (aN cl o e) (t.toNat - e) c).Mk e;rw[show e+(t.toNat - e)=t.toNat by omega]at h;exact h.app (zy c f)
theorem I7{n:Int}{p:List bB×List Int}(h:PM n p)(c:Wy):tV 0 (LF p.1 p.2 c).1 p.1.length:=by
 have hl:=h.I0.len;have e:F7 p.2 p.1.length 0 (dO p.2 p.2.length):=by rw[pr];exact lH _ _ _ (by omega)
 have:=zy (cl:=p.1) c e;unfold LF;rw[show IQ 0 (dO p.2 p.2.length)=p.1.length by
  rw[hl];simp only[dO];rw[if_pos h.I0.last,zi];simp]at this
 exact this
theorem AG{l:List bB}{n:Nat}(h:tV 0 l n):tV 0 (pt l) n:=by
 unfold pt;split
 ·rename_i e;subst e;cases h;exact⟨0,rfl,rfl,Nat.le_refl _,rfl⟩
 ·exact h
theorem FN(l:List bB):0<(pt l).length:=by
 unfold pt;split
 ·simp
 ·rename_i h;exact List.length_pos_iff.2 h
theorem tV.get:∀ {a b:Nat} {l:List bB},tV a l b→∀i,i<l.length→∃u v:Nat,(l.getD i c0).1=(u:Int)∧(l.getD i c0).2.1=(v:Int)∧u≤v∧(i=0→u=a)∧(∀j,i=j+1→(l.getD j c0).2.1=(u:Int))∧(i+1=l.length→v=b)
 | a,b,[],_,i,hi=>absurd hi (by simp)
 | a,b,x::r,⟨m,q,c,z,e⟩,0,hi=>by
  refine⟨a,m,q,c,z,fun _=>rfl,fun j A=>by omega,fun f=> ?_⟩;have:r=[]:=List.eq_nil_of_length_eq_zero (by simp only[List.length_cons]at f;omega);subst this;exact e
 | a,b,x::r,⟨m,q,c,z,e⟩,i+1,hi=>by
  obtain⟨u,v,B,C,D,E,I,J⟩:=e.get i (by simpa using hi);refine⟨u,v,by simpa using B,by simpa using C,D,fun h=>by omega,fun j A=> ?_,fun f=>J (by simpa using f)⟩;obtain rfl:i=j:=by omega
  cases i with
  | zero=>rw[E rfl];exact c
  | succ k=>have:=I k rfl;simpa using this
theorem tV.le:∀ {a b:Nat} {l:List bB},tV a l b→a≤b
 | _,_,[],h=>Nat.le_of_eq h
 | _,_,_::_,⟨_,_,_,c,e⟩=>Nat.le_trans c e.le
theorem tV.HN:∀ {a b:Nat} {l:List bB},tV a l b→∀i,i<l.length→(l.getD i c0).2.1≤(b:Int)
 | a,b,[],_,i,hi=>absurd hi (by simp)
 | a,b,x::r,⟨m,f,e,j,c⟩,0,hi=>by
  have:=c.le;simp only[List.getD_cons_zero,e];omega
 | a,b,x::r,⟨m,f,e,j,c⟩,i+1,hi=>by
  have:=c.HN i (by simpa using hi);simpa using this
end
end Go.Proofs.YtmcemnfjddoejaaGreatDoor.T
