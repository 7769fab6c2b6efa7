/- New flows over the example's book. -/
import Derived.Test.YtmcemnfjddoejaaGreatDoorTv23um
namespace Go.Proofs.YtmcemnfjddoejaaGreatDoor.T
open Go Go.Tv Go.Proofs
open Go.IntKind (i64 u64)
noncomputable section
def GU(b:Option Z1):Prop:=∀x,aN b x=aN J6 x
theorem FK{x:List Int}(h:4096<x.length):aN J6 x=some (([],[]),3):=by
 have e:(x.length:Int) > 4096:=by omega
 unfold aN J6;simp only[Option.isNone,Bool.false_eq_true,if_false,e,decide_true,if_true]
theorem tJ{b k:Option Z1}(h:∀x,aN b x=aN k x)(x:List Int)(m p q u v z A B c e f j C):bR x m p b q u v z A B c e f j C=bR x m p k q u v z A B c e f j C:=by
 unfold bR;rw[h]
theorem FZ{b c:Option Z1}(h:∀x,aN b x=aN c x)(e f j k m p x):gS b e f j k m p x=gS c e f j k m p x:=by
 unfold gS;simp only[tJ h]
theorem DS{b k:Option Z1}(h:∀x,aN b x=aN k x)(m p q u v z A B C D E c e f j I):dv m p q u v b z A B C D E c e f j I=dv m p q u v k z A B C D E c e f j I:=by
 unfold dv;simp only[tJ h]
theorem Ib:dG=some ([],fU,iG,[],DP,Ek,[],2,2):=rfl
theorem GM:∃b,mQ [] fU iG [] DP Ek [] 2 2=some (b,0,0)∧GU b:=by
 obtain⟨m,p,q,e,f,j,k⟩:=KV;exact⟨_,e,JU f j k⟩
theorem A0{j e q u v:Int}{x:Option Nat}(h:cS j e q u v x=some true):1≤e∧e≤64:=by
 unfold cS at h;by_cases f:j≥1
 case neg=>simp[f]at h
 by_cases k:j≤1048576
 case neg=>simp[f,k]at h
 by_cases m:e≥1
 case neg=>simp[f,k,m]at h
 by_cases p:e≤64
 case neg=>simp[f,k,m,p]at h
 exact⟨m,p⟩
theorem w9(e f j k m:Int)(p:Option Nat):∃b,cS e f j k m p=some b:=by
 unfold cS
 repeat' split
 all_goals exact⟨_,rfl⟩
theorem Hr{x:List Int}(h:x.length≤100000):cw x=some x:=by
 unfold cw;cases x with
 | nil=>rfl
 | cons a r =>
  rw[if_neg (by simp),if_pos (by simp only[List.length_nil];omega)];rfl
structure vP(c:Wy)(x:List Int)(p:List bB×List Int)(kn:Kn):Prop where
 JZ:Bytes x
 len:x.length≤4096
 para:aN J6 x=some (p,0)
 pm:PM (x.length:Int) p
 wy:HB c
 Nj:Bc c kn
theorem J9{b:Option Z1}(hb:GU b){x:List Int}(A:Bytes x)(v:x.length≤4096){c:Wy}(w:HB c){B:Kn}(I:Bc c B)(C:List bB)(D:Bool)(j:List Int)(k:List bB)(m:List Int)(q):
  ∃p f,bR x C D b c.1 c.2.1 c.2.2.1 c.2.2.2.1 c.2.2.2.2.1 c.2.2.2.2.2 j k m q B=some (0,(LF p.1 p.2 c).1,(LF p.1 p.2 c).2,x,p.1,p.2,some (ik p.1 p.2 c),f)∧vP c x p f:=by
 obtain⟨p,E,u⟩:=FG A v;obtain⟨f,e,z⟩:=Kd ((hb x).trans E) u v w I C D j k m q;exact⟨p,f,e,⟨A,v,E,u,w,z⟩⟩
theorem LZ{b:Option Z1}(hb:GU b){c:Wy}{x:List Int}(m:Bytes x)(q:x.length≤100000):
  (cS c.1 c.2.1 c.2.2.1 c.2.2.2.1 c.2.2.2.2.1 c.2.2.2.2.2=some false∧gS b c.1 c.2.1 c.2.2.1 c.2.2.2.1 c.2.2.2.2.1 c.2.2.2.2.2 x=some (.inl 40)) ∨
  (cS c.1 c.2.1 c.2.2.1 c.2.2.2.1 c.2.2.2.2.1 c.2.2.2.2.2=some true∧((4096<x.length∧gS b c.1 c.2.1 c.2.2.1 c.2.2.2.1 c.2.2.2.2.1 c.2.2.2.2.2 x=some (.inl 3)) ∨
   (x.length≤4096∧∃p j,gS b c.1 c.2.1 c.2.2.1 c.2.2.2.1 c.2.2.2.2.1 c.2.2.2.2.2 x=some (.inr (0,(LF p.1 p.2 c).1,(LF p.1 p.2 c).2,x,p.1,p.2,some (ik p.1 p.2 c),j))∧vP c x p j))):=by
 obtain⟨ok,f⟩:=w9 c.1 c.2.1 c.2.2.1 c.2.2.2.1 c.2.2.2.2.1 c.2.2.2.2.2;unfold gS;rw[f];cases ok with
 | false=>exact .inl ⟨rfl,rfl⟩
 | true =>
  refine .inr ⟨rfl,?_⟩;rw[Option.bind_some,if_neg (by decide),Hr q,Option.bind_some];by_cases k:x.length≤4096
  ·obtain⟨p,j,e,u⟩:=J9 hb m k (c:=c) (A0 f) (Bc.nil c) [] false [] [] [] none;refine .inr ⟨k,p,j,?_,u⟩;rw[e];rfl
  ·refine .inl ⟨by omega,?_⟩;unfold bR;rw[hb x,FK (by omega)];rfl
theorem H3:∃S,eY=some S∧S.length=14∧∀i,(S.getD i []).length≤4:=by
 refine⟨_,rfl,rfl,fun i=> ?_⟩;rcases(show i=0∨i=1∨i=2∨i=3∨i=4∨i=5∨i=6∨i=7∨i=8∨i=9∨i=10∨i=11∨i=12∨i=13∨14≤i by omega)with rfl | rfl | rfl | rfl | rfl | rfl | rfl | rfl | rfl | rfl | rfl | rfl | rfl | rfl | h
 case inr.inr.inr.inr.inr.inr.inr.inr.inr.inr.inr.inr.inr.inr=>rw[List.getD_eq_getElem?_getD,List.getElem?_eq_none (by simpa using h)];simp
 all_goals decide
theorem At(l:List UInt8):Bytes (ca l):=fun x c=>by
 unfold ca at c;obtain⟨b,_,rfl⟩:=List.mem_map.1 c;have:=b.toNat_lt;omega
theorem GK{l:List Int}(hl:l.length≤1000)(hb:∀i,0≤l.getD i 0∧l.getD i 0≤255):∃t,dI l=some t∧Bytes t∧t.length≤4*l.length:=by
 obtain⟨S,A,p,q⟩:=H3;obtain⟨t,e,j,f⟩:=cH (body:=cR l) (fun z:List Int×Int=>∃k:Nat,z.2=(k:Int)∧k≤l.length∧z.1.length≤4*k∧Bytes z.1) (fun z=>l.length - z.2.toNat) (fun t=>Bytes t∧t.length≤4*l.length) (by
  rintro⟨out,v⟩ ⟨k,rfl,N,j,f⟩;simp only at j f;by_cases B:k<l.length
  ·left
   obtain⟨C,O⟩:=hb k;have D:i64.wrap (l.getD k 0)=l.getD k 0:=wrap_i64 (by omega) (by omega);have E:Int.tmod (l.getD k 0) 14=l.getD k 0 % 14:=Int.tmod_eq_emod_of_nonneg C;have u:(k:Int)<(l.length:Int):=by omega
   have I:0≤(k:Int):=by omega
   have J:0≤l.getD k 0 % 14∧l.getD k 0 % 14<(S.length:Int):=by rw[p];omega
   have R:=q (l.getD k 0 % 14).toNat;have g:out.length+(S.getD (l.getD k 0 % 14).toNat []).length≤140737488355328:=by omega
   have M:¬(14:Int)=0:=by decide
   refine⟨(out++ca (S.getD (l.getD k 0 % 14).toNat []),((k+1:Nat):Int)),?_,⟨k+1,rfl,by omega,?_,?_⟩,by simp only[Int.toNat_natCast];omega⟩
   ·simp only[cR,A,Option.bind_some,u,I,and_self,decide_true,if_true,Int.toNat_natCast,D,E,J,M,not_false_eq_true,g,bj (show k≤9000000000000000000 by omega)]
   ·simp only[List.length_append];have:(ca (S.getD (l.getD k 0 % 14).toNat [])).length=(S.getD (l.getD k 0 % 14).toNat []).length:=by simp[ca]
    omega
   ·intro x c;rcases List.mem_append.1 c with c | c
    ·exact f x c
    ·exact At _ x c
  ·right
   obtain rfl:k=l.length:=by omega
   refine⟨out,?_,f,j⟩;have u:¬((l.length:Int)<(l.length:Int)):=Int.lt_irrefl _;simp only[cR,u,decide_false,Bool.false_eq_true,if_false]) (s:=([],0)) ⟨0,rfl,by omega,by simp,fun x c=>by cases c⟩
 refine⟨t,?_,j,f⟩;unfold dI;rw[e];rfl
end
end Go.Proofs.YtmcemnfjddoejaaGreatDoor.T
namespace Go.Proofs.YtmcemnfjddoejaaGreatDoor.T
open Go Go.Tv Go.Proofs
open Go.IntKind (i64 u64)
noncomputable section
theorem Je{n:Nat}(h:n≤100000):b7 (n:Int)=some []:=by
 have e:i64.wrap ((0:Int) - 0)=0:=rfl;have f:i64.wrap ((n:Int) - 0)=(n:Int):=by rw[wrap_i64 (by omega) (by omega)];omega
 unfold b7;rw[e,f,if_neg (by rw[decide_eq_true_eq];omega),Option.bind_some];by_cases j:n=0
 ·subst j;rfl
 ·rw[if_pos (c:=decide ((n:Int) > 0)=true) (by rw[decide_eq_true_eq];omega),if_pos (by decide),if_pos (by rw[Int.toNat_natCast];simp;omega),if_pos (by rw[Int.toNat_natCast,List.length_replicate];omega)];rfl
theorem FR{a b c:List Int}(h:a.length+b.length+c.length≤100000):cm a b c=some (a++b++c):=by
 have c0:0≤(0:Int)∧(0:Int)<((3:Nat):Int):=by decide
 have e:0≤(1:Int)∧(1:Int)<((3:Nat):Int):=by decide
 have f:0≤(2:Int)∧(2:Int)<((3:Nat):Int):=by decide
 have j:i64.wrap ((0:Int)+(a.length:Int))=(a.length:Int):=by rw[wrap_i64 (by omega) (by omega)];omega
 have k:i64.wrap ((a.length:Int)+(b.length:Int))=((a.length+b.length:Nat):Int):=by rw[wrap_i64 (by omega) (by omega)];omega
 have m:i64.wrap (((a.length+b.length:Nat):Int)+(c.length:Int))=((a.length+b.length+c.length:Nat):Int):=by rw[wrap_i64 (by omega) (by omega)];omega
 unfold cm;rw[j,k,m,Je h];have p:¬((a.length:Int)<0):=by omega
 have g2:¬(((a.length+b.length:Nat):Int)<0):=by omega
 have g3:¬(((a.length+b.length+c.length:Nat):Int)<0):=by omega
 simp only[c0,e,f,p,g2,g3,and_self,decide_false,Bool.false_eq_true,if_true,if_false,Option.bind_some,List.nil_append,List.length_append,List.length_nil];rw[if_pos (by omega),if_pos (by omega),if_pos (by omega)]
theorem nk{n:Nat}(B:n≤4096)(e c:Int)(f:List Int):jA (n:Int) e c f=some (if e<0∨c<0∨e > (n:Int)∨c > (n:Int) - e then 50 else if f.length > 4096∨(n:Int) - c+(f.length:Int) > 4096 then 3 else 0):=by
 unfold jA;by_cases k:e<0
 ·simp[k]
 by_cases m:c<0
 ·simp[k,m]
 by_cases p:e > (n:Int)
 ·simp[k,m,p]
 have x:i64.wrap ((n:Int) - e)=(n:Int) - e:=wrap_i64 (by omega) (by omega);rw[x];by_cases q:c > (n:Int) - e
 ·simp[k,m,p,q]
 have z:i64.wrap ((n:Int) - c)=(n:Int) - c:=wrap_i64 (by omega) (by omega);rw[z];by_cases u:(f.length:Int) > 4096
 ·have j:f.length > 4096:=by omega
  simp[k,m,p,q,u,j]
 have j:¬f.length > 4096:=by omega
 have A:i64.wrap ((n:Int) - c+(f.length:Int))=(n:Int) - c+(f.length:Int):=wrap_i64 (by omega) (by omega);rw[A];by_cases v:(n:Int) - c+(f.length:Int) > 4096
 ·simp[k,m,p,q,u,j,v]
 ·simp[k,m,p,q,u,j,v]
theorem F9{x e:List Int}(f:x.length≤4096)(p:e.length≤4096){i d:Nat}(h:i+d≤x.length)(hl:x.length - d+e.length≤4096):dU x (i:Int) (d:Int) e=some (x.take i++e++x.drop (i+d),0):=by
 have c:jA (x.length:Int) (i:Int) (d:Int) e=some 0:=by rw[nk f,if_neg (by omega),if_neg (by omega)]
 unfold dU;rw[c,Option.bind_some];have j:i64.wrap ((i:Int)+(d:Int))=((i+d:Nat):Int):=by rw[wrap_i64 (by omega) (by omega)];omega
 rw[if_neg (by decide),if_pos (by omega),j,if_pos (by omega)];have k:(x.take (i:Int).toNat).drop (0:Int).toNat=x.take i:=rfl;have m:(x.take (x.length:Int).toNat).drop ((i+d:Nat):Int).toNat=x.drop (i+d):=by rw[Int.toNat_natCast,Int.toNat_natCast,List.take_length]
 rw[k,m,FR (by simp only[List.length_take,List.length_drop];omega)];rfl
theorem Ej{x:List Int}(j:x.length≤4096)(c e:Int)(f:List Int):(∃code,code≠0∧dU x c e f=some ([],code)) ∨
  (∃i d:Nat,c=(i:Int)∧e=(d:Int)∧i+d≤x.length∧(x.take i++f++x.drop (i+d)).length≤4096∧dU x c e f=some (x.take i++f++x.drop (i+d),0)):=by
 by_cases k:c<0∨e<0∨c > (x.length:Int)∨e > (x.length:Int) - c
 ·refine .inl ⟨50,by decide,?_⟩;unfold dU;rw[nk j,Option.bind_some,if_pos k];rfl
 ·by_cases m:f.length > 4096∨(x.length:Int) - e+(f.length:Int) > 4096
  ·refine .inl ⟨3,by decide,?_⟩;unfold dU;rw[nk j,Option.bind_some,if_neg k,if_pos m];rfl
  ·obtain⟨i,rfl⟩:∃i:Nat,c=(i:Int):=⟨c.toNat,by omega⟩;obtain⟨d,rfl⟩:∃d:Nat,e=(d:Int):=⟨e.toNat,by omega⟩;refine .inr ⟨i,d,rfl,rfl,by omega,?_,F9 j (by omega) (by omega) (by omega)⟩;simp only[List.length_append,List.length_take,List.length_drop];omega
theorem Ad{x e:List Int}(f:Bytes x)(j:Bytes e)(i d:Nat):Bytes (x.take i++e++x.drop (i+d)):=fun y c=>by
 simp only[List.mem_append]at c;rcases c with(c | c) | c
 ·exact f y (List.mem_of_mem_take c)
 ·exact j y c
 ·exact f y (List.mem_of_mem_drop c)
theorem FX{c:Wy}{x:List Int}{p:List bB×List Int}{f:Kn}(h:vP c x p f):∃r,gk p.1 p.2 (LF p.1 p.2 c).1=some r:=by
 have j:=h.pm.Mb (by have:=h.len;omega);have hl:=j.1;have u:=h.pm.IL.len;have e:Gp p.2 p.1.length 0 (dQ p.2 p.2.length):=by rw[pD];exact lG _ _ _ (by omega)
 obtain⟨m,v⟩:=qa c e;refine Hi hl (by unfold LF;omega) (fun k q=> ?_) p.2;obtain⟨a,b,z,A,B,C⟩:=m ((LF p.1 p.2 c).1.getD k c0) (mW q);omega
end
end Go.Proofs.YtmcemnfjddoejaaGreatDoor.T
namespace Go.Proofs.YtmcemnfjddoejaaGreatDoor.T
open Go Go.Tv Go.Proofs
open Go.IntKind (i64 u64)
noncomputable section
def tR:Nat→List bB→Nat→Prop
 | a,[],b=>a=b
 | a,x::r,b=>∃m:Nat,x.1=(a:Int)∧x.2.1=(m:Int)∧a≤m∧tR m r b
theorem tR.app:∀ {a b c:Nat} {l k:List bB},tR a l b→tR b k c→tR a (l++k) c
 | a,b,c,[],k,h,h'=>by cases h;exact h'
 | a,b,c,x::r,k,⟨m,e,f,j,p⟩,h'=>⟨m,e,f,j,p.app h'⟩
theorem tR.ML(f:Nat):∀ {a b:Nat} {l:List bB},tR a l b→tR (f+a) (dn l (f:Int)) (f+b)
 | a,b,[],h=>by cases h;rfl
 | a,b,x::r,⟨m,e,j,p,c⟩=>by
  rw[Ff];exact⟨f+m,by simp only;omega,by simp only;omega,by omega,c.ML f⟩
theorem zw(d:Dt)(n:Nat)(e c:Int):∀m a,a≤n→n - a≤m→tR a (eO d n e c m a) n
 | 0,a,f,j=>by simp only[eO,tR];omega
 | m+1,a,f,j=>by
  simp only[eO];split
  ·rename_i ha;have h:=sw d e c ha;exact⟨_,rfl,rfl,by omega,zw d n e c m _ h.2 (by omega)⟩
  ·simp only[tR];omega
theorem Ca(d:Dt){n:Nat}(c:Int){T:List (Int×Int)}(hT:∀a,a<n→0≤(T.getD a (0,0)).2→(a:Int)<(T.getD a (0,0)).2∧(T.getD a (0,0)).2≤(n:Int)∧((T.getD a (0,0)).2<(n:Int)→0≤(T.getD (T.getD a (0,0)).2.toNat (0,0)).2)):
  ∀m a,a≤n→n - a≤m→(a<n→0≤(T.getD a (0,0)).2)→tR a (jf d n c T m a) n
 | 0,a,e,f,_=>by simp only[jf,tR];omega
 | m+1,a,e,f,j=>by
  simp only[jf];split
  ·rename_i ha;obtain⟨p,q,k⟩:=hT a ha (j ha);exact⟨(T.getD a (0,0)).2.toNat,rfl,rfl,by omega,Ca d c hT m _ (by omega) (by omega) (fun _=>k (by omega))⟩
  ·simp only[tR];omega
theorem Hm(d:Dt)(n:Nat)(c:Wy):tR 0 (gK d n c).1 n:=by
 have f:=zw d n c.1 c.2.1 n 0 (by omega) (by omega);unfold gK qG;by_cases j:c.2.2.1=1
 ·rw[if_pos j];by_cases e:n=0
  ·rw[if_pos e];exact e.symm
  ·rw[if_neg e];by_cases k:((dJ d n c n).getD 0 (0,0)).2<0
   ·rw[if_pos k];exact f
   ·rw[if_neg k];exact Ca d c.2.1 (tw d n c) n 0 (by omega) (by omega) (fun _=>by omega)
 ·rw[if_neg j];exact f
def Ir:Nat→List Int→Nat
 | c,[]=>c
 | _,t::r=>Ir t.toNat r
theorem zj:∀(l:List Int) (c:Nat) (t:Int),Ir c (l++[t])=t.toNat
 | [],_,_=>rfl
 | _::r,_,t=>zj r _ t
theorem zF{cl:List bB}{o:List Int}{M:Nat}(c:Wy):∀ {l:List Int} {e:Nat},Gp o M e l→tR e (jy cl o c e l).1 (Ir e l)
 | [],e,_=>rfl
 | t::r,e,⟨j,k,m,p,f⟩=>by
  have h:=(Hm (aM cl o e) (t.toNat - e) c).ML e;rw[show e+(t.toNat - e)=t.toNat by omega]at h;exact h.app (zF c f)
theorem Jt{n:Int}{p:List bB×List Int}(h:PM n p)(c:Wy):tR 0 (LF p.1 p.2 c).1 p.1.length:=by
 have hl:=h.IL.len;have e:Gp p.2 p.1.length 0 (dQ p.2 p.2.length):=by rw[pD];exact lG _ _ _ (by omega)
 have:=zF (cl:=p.1) c e;unfold LF;rw[show Ir 0 (dQ p.2 p.2.length)=p.1.length by
  rw[hl];simp only[dQ];rw[if_pos h.IL.last,zj];simp]at this
 exact this
theorem Cn{l:List bB}{n:Nat}(h:tR 0 l n):tR 0 (pK l) n:=by
 unfold pK;split
 ·rename_i e;subst e;cases h;exact⟨0,rfl,rfl,Nat.le_refl _,rfl⟩
 ·exact h
theorem Gc(l:List bB):0<(pK l).length:=by
 unfold pK;split
 ·simp
 ·rename_i h;exact List.length_pos_iff.2 h
theorem tR.get:∀ {a b:Nat} {l:List bB},tR a l b→∀i,i<l.length→∃u v:Nat,(l.getD i c0).1=(u:Int)∧(l.getD i c0).2.1=(v:Int)∧u≤v∧(i=0→u=a)∧(∀j,i=j+1→(l.getD j c0).2.1=(u:Int))∧(i+1=l.length→v=b)
 | a,b,[],_,i,hi=>absurd hi (by simp)
 | a,b,x::r,⟨m,q,c,z,e⟩,0,hi=>by
  refine⟨a,m,q,c,z,fun _=>rfl,fun j A=>by omega,fun f=> ?_⟩;have:r=[]:=List.eq_nil_of_length_eq_zero (by simp only[List.length_cons]at f;omega);subst this;exact e
 | a,b,x::r,⟨m,q,c,z,e⟩,i+1,hi=>by
  obtain⟨u,v,B,C,D,E,I,J⟩:=e.get i (by simpa using hi);refine⟨u,v,by simpa using B,by simpa using C,D,fun h=>by omega,fun j A=> ?_,fun f=>J (by simpa using f)⟩;obtain rfl:i=j:=by omega
  cases i with
  | zero=>rw[E rfl];exact c
  | succ k=>have:=I k rfl;simpa using this
theorem tR.le:∀ {a b:Nat} {l:List bB},tR a l b→a≤b
 | _,_,[],h=>Nat.le_of_eq h
 | _,_,_::_,⟨_,_,_,c,e⟩=>Nat.le_trans c e.le
theorem tR.GB:∀ {a b:Nat} {l:List bB},tR a l b→∀i,i<l.length→(l.getD i c0).2.1≤(b:Int)
 | a,b,[],_,i,hi=>absurd hi (by simp)
 | a,b,x::r,⟨m,f,e,j,c⟩,0,hi=>by
  have:=c.le;simp only[List.getD_cons_zero,e];omega
 | a,b,x::r,⟨m,f,e,j,c⟩,i+1,hi=>by
  have:=c.GB i (by simpa using hi);simpa using this
end
end Go.Proofs.YtmcemnfjddoejaaGreatDoor.T
namespace Go.Proofs.YtmcemnfjddoejaaGreatDoor.T
open Go Go.Tv Go.Proofs
open Go.IntKind (i64 u64)
noncomputable section
def HL(i j:Int):Int:=i64.wrap (Int.fdiv (u64.wrap (i64.wrap (i+j))) (2 ^ (min (1:Int).toNat u64.bits)))
def qc(f:Int→Option Bool):(Int×Int)→Option ((Int×Int)⊕Int):=fun((c,e):Int×Int) =>
 (if(decide (c<e))=true then(if 0≤(1:Int)then((f (HL c e)).bind fun(j:Bool) =>
 (if(!j)=true then some (Sum.inl ((i64.wrap (HL c e+(1:Int))),e))
 else some (Sum.inl (c,HL c e))))else none)
 else some (Sum.inr c))
theorem M8(c:Int)(e:List bB):iH c e=qc (fun i=>fy i c e):=rfl
theorem Ng(c:Int)(e:List bB):iM c e=qc (fun i=>jm i c e):=rfl
theorem M7(c e:Int)(f:List Int):iX c e f=qc (fun i=>dy i c e f):=rfl
theorem Ki{a b:Nat}(hb:b≤1000000)(c:a≤b):HL (a:Int) (b:Int)=(((a+b) / 2:Nat):Int):=by
 unfold HL;rw[wrap_i64 (x:=(a:Int)+b) (by omega) (by omega),uA];have e:((a:Int)+b) % 18446744073709551616=((a+b:Nat):Int):=by omega
 rw[e];have f:(2:Int) ^ (min (1:Int).toNat u64.bits)=((2:Nat):Int):=by decide
 have j:Int.fdiv ((a+b:Nat):Int) ((2:Nat):Int)=(((a+b) / 2:Nat):Int):=by rw[Int.fdiv_eq_ediv_of_nonneg _ (by omega)];rfl
 rw[f,j,wrap_i64 (by omega) (by omega)]
theorem rv{is:Int→Option Bool}(P:Nat→Bool)(n:Nat)(D:n≤1000000)(f:∀i:Nat,i<n→is (i:Int)=some (P i)):
  ∃k:Nat,k≤n∧iter (qc is) ((0:Int),(n:Int))=some (k:Int)∧(∀j,k=j+1→P j=false)∧(k<n→P k=true):=by
 obtain⟨r,u,k,v,x,z,A⟩:=cH (body:=qc is) (fun s=>∃a b:Nat,s=((a:Int),(b:Int))∧a≤b∧b≤n∧(∀j,a=j+1→P j=false)∧(b<n→P b=true))
  (fun s=>(s.2 - s.1).toNat) (fun r=>∃k:Nat,r=(k:Int)∧k≤n∧(∀j,k=j+1→P j=false)∧(k<n→P k=true))
  (fun s ⟨a,b,e,m,c,hl,p⟩=>by
   subst e;simp only[qc];by_cases h:a<b
   ·left
    have B:=Ki (a:=a) (b:=b) (by omega) m;rw[if_pos (by simp only[decide_eq_true_eq];omega),if_pos (by omega),B,f _ (by omega)];simp only[Option.bind_some];cases q:P ((a+b) / 2)with
    | false =>
     rw[if_pos (show(!false)=true from rfl),wrap_i64 (by omega) (by omega)];refine⟨_,rfl,⟨(a+b) / 2+1,b,by congr 1,by omega,c,fun j C=> ?_,p⟩,by simp only;omega⟩;obtain rfl:j=(a+b) / 2:=by omega
     exact q
    | true =>
     rw[if_neg (show ¬(!true)=true by decide)];exact⟨_,rfl,⟨a,(a+b) / 2,rfl,by omega,by omega,hl,fun _=>q⟩,by simp only;omega⟩
   ·right
    obtain rfl:a=b:=by omega
    rw[if_neg (by simp only[decide_eq_true_eq];omega)];exact⟨_,rfl,a,rfl,c,hl,p⟩)
  (s:=(0,n)) ⟨0,n,rfl,by omega,Nat.le_refl _,fun j C=>by omega,fun h=>by omega⟩
 subst v;exact⟨k,x,u,z,A⟩
theorem zy{C:List bB}(f:C.length≤4096)(O:List Int)(L:List bB)(K:List (List Int)):∃e,fk (some ((C,O),(L,K)))=some e:=by
 unfold fk;simp only[Option.isSome_some,Option.getD_some,if_true];by_cases j:0<C.length
 ·have c:i64.wrap ((C.length:Int) - 1)=((C.length - 1:Nat):Int):=by rw[wrap_i64 (by omega) (by omega)];omega
  rw[if_pos (by simp only[decide_eq_true_eq];omega),c,if_pos ⟨by omega,by omega⟩,if_pos ⟨by omega,by omega⟩];exact⟨_,rfl⟩
 ·rw[if_neg (by simp only[decide_eq_true_eq];omega)];exact⟨_,rfl⟩
theorem Ar{C:List bB}(f:C.length≤4096)(i:Int):∃k:Nat,k≤C.length∧jP C i=some (k:Int):=by
 obtain⟨k,c,e,-,-⟩:=rv (is:=fun j=>fy j i C) (fun j=>decide (i64.wrap ((C.getD j c0).1+(C.getD j c0).2.1) > i)) C.length (by omega) (fun j m=>by
  unfold fy;rw[if_pos ⟨by omega,by omega⟩,Int.toNat_natCast];rfl)
 refine⟨k,c,?_⟩;unfold jP iV;rw[M8,e];rfl
theorem Gj{L:List bB}(hl:L.length≤5000)(k:Nat):∃r:Nat,r≤L.length∧jL L (k:Int)=some (r:Int)∧(∀j,r=j+1→(L.getD j c0).2.1≤(k:Int))∧(r<L.length→(k:Int)<(L.getD r c0).2.1):=by
 obtain⟨r,e,f,m,p⟩:=rv (is:=fun j=>jm j (k:Int) L) (fun j=>decide ((L.getD j c0).2.1 > (k:Int))) L.length (by omega) (fun j c=>by
  unfold jm;rw[if_pos ⟨by omega,by omega⟩,Int.toNat_natCast];rfl)
 refine⟨r,e,?_,fun j c=> ?_,fun h=> ?_⟩
 ·unfold jL iE;rw[Ng,f];rfl
 ·have:=of_decide_eq_false (m j c);omega
 ·exact of_decide_eq_true (p h)
theorem zh(cl:List bB)(tab:Int)(l:List bB):(eb cl tab l).length=l.length:=by simp[eb]
theorem zt{cl:List bB}{tab:Int}{l:List bB}{t:Nat}(h:t<l.length):(eb cl tab l).getD t []=ot cl tab (l.getD t c0).1.toNat ((l.getD t c0).2.1.toNat - (l.getD t c0).1.toNat):=by
 unfold eb;rw[List.getD_eq_getElem?_getD,List.getElem?_map,List.getElem?_eq_getElem h,iK h];rfl
theorem Gf{C:List bB}(hC:C.length≤4096){L:List bB}(I:tR 0 L C.length)(h0:0<L.length)(hl:L.length≤5000)(O:List Int)(c:Int)(i:Int)(b:Bool):
  ∃r,eM (some ((C,O),(L,eb C c L))) i b=some r:=by
 obtain⟨e,he⟩:=zy hC O L (eb C c L);obtain⟨k,hk,ek⟩:=Ar hC i;obtain⟨r,hr,er,r1,r2⟩:=Gj hl k;have z:∀t:Nat,t<L.length→(∃u v:Nat,(L.getD t c0).1=(u:Int)∧(L.getD t c0).2.1=(v:Int)∧u≤k∧k≤v)→0≤i64.wrap ((k:Int) - (L.getD t c0).1)∧i64.wrap ((k:Int) - (L.getD t c0).1)<(((eb C c L).getD t []).length:Int):=by rintro t ht ⟨u,v,q,x,J,M⟩;rw[zt ht,q,x,kO,wrap_i64 (by omega) (by omega)];simp only[Int.toNat_natCast];omega
 unfold eM;simp only[Option.isNone_some,Option.isSome_some,Option.getD_some,Bool.false_eq_true,if_false,if_true,he,Option.bind_some,ek,er,zh];by_cases V:i<0
 ·simp only[V,decide_true,if_true,Option.bind_some];exact⟨_,rfl⟩
 by_cases h2:i > e
 ·simp only[V,h2,decide_true,decide_false,Bool.false_eq_true,if_true,if_false,Option.bind_some];exact⟨_,rfl⟩
 simp only[V,h2,decide_false,Bool.false_eq_true,if_false,Option.bind_some];have A:∀j,r=j+1→(k:Int)≤(L.getD j c0).2.1→∃u v:Nat,(L.getD j c0).1=(u:Int)∧(L.getD j c0).2.1=(v:Int)∧u≤k∧k≤v:=fun j hj B=>by obtain⟨u,v,q,x,J,-⟩:=I.get j (by omega);have:=r1 j hj;exact⟨u,v,q,x,by omega,by omega⟩
 have D:r<L.length→∃u v:Nat,(L.getD r c0).1=(u:Int)∧(L.getD r c0).2.1=(v:Int)∧u≤k∧k≤v:=fun m=>by
  obtain⟨u,v,q,x,J,M,N,-⟩:=I.get r m;have:=r2 m;refine⟨u,v,q,x,?_,by omega⟩;cases r with
  | zero=>have:=M rfl;omega
  | succ j =>have h5:=N j rfl;have:=r1 j rfl;omega
 have w1:0<r→i64.wrap ((r:Int) - 1)=((r - 1:Nat):Int):=fun h=>by rw[wrap_i64 (by omega) (by omega)];omega
 have f:0<r→(k:Int)≤(L.getD (r - 1) c0).2.1→∃y,(if 0≤((r - 1:Nat):Int)∧((r - 1:Nat):Int)<(L.length:Int)then(if 0≤i64.wrap ((k:Int) - (L.getD ((r - 1:Nat):Int).toNat c0).1)∧i64.wrap ((k:Int) - (L.getD ((r - 1:Nat):Int).toNat c0).1)<(((eb C c L).getD ((r - 1:Nat):Int).toNat []).length:Int)then some ((((r - 1:Nat):Int),((eb C c L).getD ((r - 1:Nat):Int).toNat []).getD (i64.wrap ((k:Int) - (L.getD ((r - 1:Nat):Int).toNat c0).1)).toNat 0),(0:Int))else none)else none)=some y:=fun R B=>by have X:=z (r - 1) (by omega) (A (r - 1) (by omega) B);rw[if_pos ⟨by omega,by omega⟩,Int.toNat_natCast,if_pos X];exact⟨_,rfl⟩
 have p:r<L.length→∃y,(if 0≤(r:Int)∧(r:Int)<(L.length:Int)then(if 0≤i64.wrap ((k:Int) - (L.getD (r:Int).toNat c0).1)∧i64.wrap ((k:Int) - (L.getD (r:Int).toNat c0).1)<(((eb C c L).getD (r:Int).toNat []).length:Int)then some (((r:Int),((eb C c L).getD (r:Int).toNat []).getD (i64.wrap ((k:Int) - (L.getD (r:Int).toNat c0).1)).toNat 0),(0:Int))else none)else none)=some y:=fun m=>by have X:=z r m (D m);rw[if_pos ⟨by omega,by omega⟩,Int.toNat_natCast,if_pos X];exact⟨_,rfl⟩
 by_cases hA:r=L.length
 ·have R:(k:Int)≤(L.getD (r - 1) c0).2.1:=by obtain⟨u,v,q,x,J,M,N,q6⟩:=I.get (r - 1) (by omega);have:=q6 (by omega);omega
  have hb:((r:Int) == (L.length:Int))=true:=by rw[beq_iff_eq];omega
  simp only[hb,if_true,Option.bind_some,w1 (by omega)];obtain⟨y,E⟩:=f (by omega) R;refine⟨y,?_⟩;rw[←E];split <;> simp_all
 ·have hb:((r:Int) == (L.length:Int))=false:=by rw[beq_eq_false_iff_ne];omega
  obtain⟨y,E⟩:=p (by omega);simp only[hb,Bool.false_eq_true,if_false];cases b with
  | false =>
   simp only[Bool.false_eq_true,if_false,Option.bind_some];refine⟨y,?_⟩;rw[←E];split <;> simp_all
  | true =>
   by_cases h3:r=0
   ·have Y:¬((r:Int) > 0):=by omega
    simp only[if_true,Y,decide_false,Bool.false_eq_true,if_false,Option.bind_some];refine⟨y,?_⟩;rw[←E];split <;> simp_all
   ·have Y:(r:Int) > 0:=by omega
    have hg:0≤(r:Int)∧(r:Int)<(L.length:Int):=⟨by omega,by omega⟩;simp only[if_true,Y,hg,decide_true,Option.bind_some];by_cases Z:((L.getD (r:Int).toNat c0).1 == (k:Int))=true
    ·have R:(k:Int)≤(L.getD (r - 1) c0).2.1:=by obtain⟨u,v,q,x,J,M,N,q6⟩:=I.get r (by omega);have h5:=N (r - 1) (by omega);rw[Int.toNat_natCast,q,beq_iff_eq]at Z;omega
     obtain⟨y',a1⟩:=f (by omega) R;refine⟨y',?_⟩;rw[←a1];simp only[Z,if_true,Option.bind_some,w1 (by omega)];split <;> simp_all
    ·refine⟨y,?_⟩;rw[←E];simp only[Z,if_false,Option.bind_some];split <;> simp_all
theorem Di{C:List bB}(c:C.length≤4096)(O:List Int)(L:List bB)(K:List (List Int)){k:Int}(f:0≤k):∃e,fg (some ((C,O),(L,K))) k=some e:=by
 obtain⟨e,j⟩:=zy c O L K;unfold fg;simp only[Option.isSome_some,Option.getD_some,if_true,j,Option.bind_some];by_cases h:k<(C.length:Int)
 ·simp only[h,f,and_self,decide_true,if_true];exact⟨_,rfl⟩
 ·simp only[h,decide_false,Bool.false_eq_true,if_false];exact⟨_,rfl⟩
theorem yV(M:(List bB×List Int)×(List bB×List (List Int)))(i:Int)(c:Int):∀v:Nat,v<(M.2.2.getD i.toNat []).length→(M.2.2.getD i.toNat []).length≤10000→∃u:Nat,u≤v∧iter (cu (some M) i c) (v:Int)=some (u:Int)
 | 0,_,_=>by
  refine⟨0,Nat.le_refl _,bL ?_⟩;simp[cu]
 | v+1,h,m=>by
  have w:i64.wrap (((v+1:Nat):Int) - 1)=(v:Int):=by rw[wrap_i64 (by omega) (by omega)];omega
  have f:((v+1:Nat):Int) > 0:=by omega
  have g2:0≤(v:Int)∧(v:Int)<((M.2.2.getD i.toNat []).length:Int):=⟨by omega,by omega⟩;have g3:0≤((v+1:Nat):Int)∧((v+1:Nat):Int)<((M.2.2.getD i.toNat []).length:Int):=⟨by omega,by omega⟩;obtain⟨u,hu,e⟩:=yV M i c v (by omega) m;by_cases q:((M.2.2.getD i.toNat []).getD (v:Int).toNat 0 == (M.2.2.getD i.toNat []).getD ((v+1:Nat):Int).toNat 0)=true
  ·by_cases j:((M.2.2.getD i.toNat []).getD ((v+1:Nat):Int).toNat 0 == c)=true
   ·refine⟨u,by omega,?_⟩;rw[cT (y:=(v:Int)) ?_,e];simp only[cu,Option.getD_some,f,w,g2,g3,and_self,decide_true,if_true,q,j,Option.bind_some]
   ·refine⟨v+1,Nat.le_refl _,bL ?_⟩;simp only[cu,Option.getD_some,f,w,g2,g3,and_self,decide_true,if_true,q,j,Option.bind_some,Bool.false_eq_true,if_false]
  ·refine⟨v+1,Nat.le_refl _,bL ?_⟩;simp only[cu,Option.getD_some,f,w,g2,g3,and_self,decide_true,if_true,q,Option.bind_some,Bool.false_eq_true,if_false]
theorem F7{C:List bB}(D:C.length≤4096){L:List bB}(x:tR 0 L C.length)(_:L.length≤5000)(O:List Int)(tab:Int)(i c:Int):
  ∃r,eH (some ((C,O),(L,eb C tab L))) i c=some r:=by
 unfold eH;simp only[Option.isNone_some,Option.isSome_some,Option.getD_some,Bool.false_eq_true,if_false,if_true,zh];by_cases m:i<0
 ·simp only[m,decide_true,if_true,Option.bind_some];exact⟨_,rfl⟩
 by_cases p:i≥(L.length:Int)
 ·simp only[m,p,decide_true,decide_false,Bool.false_eq_true,if_true,if_false,Option.bind_some];exact⟨_,rfl⟩
 by_cases z:c<0
 ·simp only[m,p,z,decide_true,decide_false,Bool.false_eq_true,if_true,if_false,Option.bind_some];exact⟨_,rfl⟩
 obtain⟨t,rfl⟩:∃t:Nat,i=(t:Int):=⟨i.toNat,by omega⟩;have g:0≤(t:Int)∧(t:Int)<(L.length:Int):=⟨by omega,by omega⟩;simp only[m,p,z,g,and_self,decide_false,Bool.false_eq_true,if_true,if_false,Option.bind_some];obtain⟨u,v,A,E,Z,-⟩:=x.get t (by omega);have f:=zt (cl:=C) (tab:=tab) (l:=L) (t:=t) (by omega);have B:((eb C tab L).getD t []).length=v - u+1:=by rw[f,kO,A,E];simp
 have q:((eb C tab L).getD t []).getD 0 0=0:=by rw[f,pV _ _ _ _ _ (by omega)];rfl
 have I:v≤4096:=by have:=x.GB t (by omega);omega
 obtain⟨k,k1,J,k3,M⟩:=rv (is:=fun j=>dy j (t:Int) c ((eb C tab L).getD t [])) (fun j=>decide (((eb C tab L).getD t []).getD j 0 > c)) ((eb C tab L).getD t []).length (by omega) (fun j hj=>by
  unfold dy;rw[if_pos ⟨by omega,by omega⟩,Int.toNat_natCast];rfl)
 have hk:0<k:=by
  rcases Nat.eq_zero_or_pos k with e | e
  ·subst e;have:=of_decide_eq_true (M (by omega));rw[q]at this;omega
  ·exact e
 have N:ff ((eb C tab L).getD (t:Int).toNat []) (t:Int) c=some (k:Int):=by unfold ff iL;rw[M7,Int.toNat_natCast,J];rfl
 have R:i64.wrap ((k:Int) - 1)=((k - 1:Nat):Int):=by rw[wrap_i64 (by omega) (by omega)];omega
 obtain⟨y,hy,V⟩:=yV ((C,O),(L,eb C tab L)) (t:Int) c (k - 1) (by simp only[Int.toNat_natCast];omega) (by simp only[Int.toNat_natCast];omega);have X:i64.wrap ((L.getD (t:Int).toNat c0).1+(y:Int))=(u:Int)+y:=by rw[Int.toNat_natCast,A,wrap_i64 (by omega) (by omega)]
 obtain⟨e,Y⟩:=Di D O L (eb C tab L) (k:=(u:Int)+y) (by omega);simp only[N,Option.bind_some,R,V];rw[show i64.wrap ((L.getD (t:Int).toNat (0,0,0,0)).1+(y:Int))=(u:Int)+y from X,Y];exact⟨_,rfl⟩
end
end Go.Proofs.YtmcemnfjddoejaaGreatDoor.T
