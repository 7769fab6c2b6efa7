/- Flows: lines moved, keys, places. -/
import Derived.Test.YtmcemnfjddoejaaGreatDoorTv23s
import Derived.Test.YtmcemnfjddoejaaGreatDoorTvT23aa
import Derived.Test.YtmcemnfjddoejaaGreatDoorTvSj
namespace Go.Proofs.YtmcemnfjddoejaaGreatDoor.T
open Go Go.Tv Go.Proofs
open Go.IntKind (i64 u8)
noncomputable section
theorem xA{α:Type}(p:List α)(x:α)(l:List α)(d:α):(p++x::l).getD p.length d=x:=by simp[List.getD_eq_getElem?_getD]
theorem yU(d:Dt)(n:Nat)(e c:Int):∀m a,(eM d n e c m a).length≤m
 | 0,_=>by simp[eM]
 | m+1,a=>by
  have:=yU d n e c m (lu d n e c a).1;simp only[eM];split
  ·simp only[List.length_cons];omega
  ·simp
theorem Cf(d:Dt)(n:Nat)(c:Int)(T:List (Int×Int)):∀m a,(jc d n c T m a).length≤m
 | 0,_=>by simp[jc]
 | m+1,a=>by
  have:=Cf d n c T m (T.getD a (0,0)).2.toNat;simp only[jc];split
  ·simp only[List.length_cons];omega
  ·simp
theorem xF(d:Dt)(n:Nat)(c:Wy):(gI d n c).1.length≤n:=by
 have e:=yU d n c.1 c.2.1 n 0;have m:=Cf d n c.2.1 (dI d n c n) n 0;unfold gI ql;by_cases f:c.2.2.1=1
 ·rw[if_pos f];by_cases j:n=0
  ·rw[if_pos j];simp
  ·rw[if_neg j];by_cases k:((dI d n c n).getD 0 (0,0)).2<0
   ·rw[if_pos k];exact e
   ·rw[if_neg k];exact m
 ·rw[if_neg f];exact e
theorem mT(l:List bB)(b:Int):(cX l b).length=l.length:=by simp[cX]
def Rg(n:Nat)(x:bB):Prop:=∃a b:Nat,x.1=(a:Int)∧x.2.1=(b:Int)∧a<b∧b≤n
theorem yP(d:Dt)(n:Nat)(f e:Int):∀m a,∀x∈eM d n f e m a,Rg n x
 | 0,_,x,c=>by simp[eM]at c
 | m+1,a,x,c=>by
  simp only[eM]at c;split at c
  ·rename_i ha;have h:=tl d f e ha;rcases List.mem_cons.1 c with rfl | c
   ·exact⟨a,_,rfl,rfl,h.1,h.2⟩
   ·exact yP d n f e m _ x c
  ·cases c
theorem Bh(d:Dt){n:Nat}(e:Int){T:List (Int×Int)}(hT:∀a,a<n→0≤(T.getD a (0,0)).2→(a:Int)<(T.getD a (0,0)).2∧(T.getD a (0,0)).2≤(n:Int)∧((T.getD a (0,0)).2<(n:Int)→0≤(T.getD (T.getD a (0,0)).2.toNat (0,0)).2)):∀m a,(a<n→0≤(T.getD a (0,0)).2)→∀x∈jc d n e T m a,Rg n x
 | 0,_,_,x,c=>by simp[jc]at c
 | m+1,a,f,x,c=>by
  simp only[jc]at c;split at c
  ·rename_i ha;obtain⟨k,p,j⟩:=hT a ha (f ha);rcases List.mem_cons.1 c with rfl | c
   ·exact⟨a,_,rfl,rfl,by omega,by omega⟩
   ·exact Bh d e hT m _ (fun _=>j (by omega)) x c
  ·cases c
theorem xi(d:Dt)(n:Nat)(c:Wy):∀x∈(gI d n c).1,Rg n x:=by
 have e:=yP d n c.1 c.2.1 n 0;unfold gI ql;by_cases f:c.2.2.1=1
 ·rw[if_pos f];by_cases j:n=0
  ·rw[if_pos j];intro x m;cases m
  ·rw[if_neg j];by_cases k:((dI d n c n).getD 0 (0,0)).2<0
   ·rw[if_pos k];exact e
   ·rw[if_neg k];exact Bh d c.2.1 (sA d n c) n 0 (fun _=>by omega)
 ·rw[if_neg f];exact e
theorem HM(l:List bB)(a b:Int):cX (cX l a) b=cX l (a+b):=by
 unfold cX;rw[List.map_map];refine List.map_congr_left fun x _=> ?_
 simp only[Function.comp];rw[Int.add_assoc,Int.add_assoc]
theorem Fl(l:List bB):cX l 0=l:=by
 unfold cX
 conv=>rhs;rw[←List.map_id l]
 refine List.map_congr_left fun x _=> ?_
 simp only[Int.add_zero,id]
def Nr(l:List bB):Prop:=l.length≤4096∧∀x∈l,-10000≤x.1∧x.1≤10000 ∧ -10000≤x.2.1∧x.2.1≤10000
theorem AQ{l:List bB}(h:l.length≤4096):pB l=some l:=by
 unfold pB;cases l with
 | nil=>rfl
 | cons x r =>
  rw[if_neg (by simp),if_pos (by simp only[List.length_nil];omega)];rfl
theorem Bo{l:List bB}(h:Nr l){b:Int}(E : -10000≤b)(I:b≤10000):ik l b=some (cX l b):=by
 have x:iter (fy b l) ((cX (l.take 0) b++l.drop 0),((0:Nat):Int))=some (cX l b):=by
  refine eg (fun k=>(cX (l.take k) b++l.drop k,(k:Int))) l.length (fun k m=> ?_) ?_
  ·have J:=h.2 (l.getD k c0) (kK m);have p:(cX (l.take k) b++l.drop k).length=l.length:=by rw[List.length_append,mT,List.length_take,List.length_drop];omega
   have c:(cX (l.take k) b).length=k:=by rw[mT,List.length_take];omega
   have q:(cX (l.take k) b++l.drop k).getD k c0=l.getD k c0:=by have:=xA (cX (l.take k) b) (l.getD k c0) (l.drop (k+1)) c0;rw[c]at this;rw[xq (d:=c0) m];exact this
   have u:∀y:bB,(cX (l.take k) b++l.drop k).set k y=cX (l.take k) b++y::l.drop (k+1):=fun y=>by rw[xq (d:=c0) m,List.set_append_right _ _ (by omega),c,Nat.sub_self];rfl
   have e:∀y:bB,(cX (l.take k) b++y::l.drop (k+1)).getD k c0=y:=fun y=>by have:=xA (cX (l.take k) b) y (l.drop (k+1)) c0;rw[c]at this;exact this
   have f:∀y z:bB,(cX (l.take k) b++y::l.drop (k+1)).set k z=cX (l.take k) b++z::l.drop (k+1):=fun y z=>by rw[List.set_append_right _ _ (by omega),c,Nat.sub_self];rfl
   have j:∀y:bB,(cX (l.take k) b++y::l.drop (k+1)).length=l.length:=fun y=>by rw[List.length_append,c,List.length_cons,List.length_drop];omega
   have hl:=h.1;have v:(k:Int)<(l.length:Int):=by omega
   have A:0≤(k:Int):=by omega
   have B:i64.wrap ((k:Int)+1)=((k+1:Nat):Int):=bj (by omega);have C:i64.wrap ((l.getD k c0).1+b)=(l.getD k c0).1+b:=wrap_i64 (by omega) (by omega);have D:i64.wrap ((l.getD k c0).2.1+b)=(l.getD k c0).2.1+b:=wrap_i64 (by omega) (by omega);simp only[fy,v,decide_true,if_true,p,A,and_self,Int.toNat_natCast,m,q,u,j,e,f,C,D,B];rw[nU (d:=c0) m];simp[cX]
  ·have v:¬((l.length:Int)<(l.length:Int)):=Int.lt_irrefl _;simp only[fy,v,decide_false,Bool.false_eq_true,if_false,List.take_length,List.drop_length,List.append_nil]
 unfold ik;rw[AQ h.1,Option.bind_some];have:iter (fy b l) (l,(0:Int))=some (cX l b):=x;rw[this];rfl
theorem Gz(d:Dt){n:Nat}(e:n≤4096)(c:Wy):Nr (gI d n c).1:=⟨Nat.le_trans (xF d n c) e,fun x f=>by
 obtain⟨a,b,j,k,m,p⟩:=xi d n c x f;omega⟩
theorem Ix{l:List bB}{n:Nat}(hl:l.length≤4096)(h:∀x∈l,Rg n x)(j:n≤4096){f:Nat}(k:f≤4096):Nr (cX l (f:Int)):=⟨by rw[mT];exact hl,fun x c=>by
 unfold cX at c;obtain⟨y,e,rfl⟩:=List.mem_map.1 c;obtain⟨a,b,m,p,q,u⟩:=h y e;simp only;omega⟩
def qg(d:Dt):Nat→List Int
 | 0=>[]
 | n+1=>qg d n++[(d n).1*16+(d n).2.1,(d n).2.2]
def Dj(d:Dt)(n:Nat):List UInt8:=bytesOf (qg d n)
def Sm(d:Dt)(n:Nat):Prop:=∀j,j<n→0≤(d j).1∧(d j).1≤2∧0≤(d j).2.1∧(d j).2.1≤2∧0≤(d j).2.2∧(d j).2.2≤3
theorem mU(d:Dt):∀n,(qg d n).length=2*n
 | 0=>rfl
 | n+1=>by simp[qg,mU d n];omega
theorem zL{d:Dt}:∀ {n:Nat},Sm d n→∀x∈qg d n,0≤x∧x≤255
 | 0,_,x,c=>by cases c
 | n+1,h,x,c=>by
  obtain⟨e,f,k,m,p,q⟩:=h n (by omega);simp only[qg,List.mem_append,List.mem_cons,List.not_mem_nil,or_false]at c;rcases c with c | rfl | rfl
  ·exact zL (fun j u=>h j (by omega)) x c
  ·omega
  ·omega
theorem uH:∀ {l k:List Int},(∀x∈l,0≤x∧x≤255)→(∀x∈k,0≤x∧x≤255)→bytesOf l=bytesOf k→l=k
 | [],[],_,_,_=>rfl
 | [],y::k,_,_,h=>by simp[bytesOf]at h
 | x::l,[],_,_,h=>by simp[bytesOf]at h
 | x::l,y::k,c,f,h=>by
  simp only[bytesOf,List.map_cons,List.cons.injEq]at h;have j:=c x (by simp);have m:=f y (by simp);have e:x=y:=by have:=congrArg UInt8.toNat h.1;simp only[UInt8.toNat_ofNat']at this;omega
  rw[e,uH (fun z hz=>c z (by simp[hz])) (fun z hz=>f z (by simp[hz])) h.2]
theorem BI{d c:Dt}:∀ {n:Nat},Sm d n→Sm c n→qg d n=qg c n→∀j,j<n→d j=c j
 | 0,_,_,_,j,f=>by omega
 | n+1,k,m,h,j,f=>by
  simp only[qg]at h;obtain⟨p,g2⟩:=List.append_inj h (by rw[mU,mU]);by_cases e:j=n
  ·subst e;obtain⟨q,u,v,x,z,A⟩:=k j (by omega);obtain⟨B,C,D,E,I,J⟩:=m j (by omega);simp only[List.cons.injEq,and_true]at g2;refine Prod.ext (by omega) (Prod.ext (by omega) g2.2)
  ·exact BI (fun j f=>k j (by omega)) (fun j f=>m j (by omega)) p j (by omega)
theorem GG{d e:Dt}{n c:Nat}(f:Sm d n)(k:Sm e c)(h:Dj d n=Dj e c):n=c∧∀j,j<n→d j=e j:=by
 have h':=uH (zL f) (zL k) h;have hl:=congrArg List.length h';rw[mU,mU]at hl;obtain rfl:n=c:=by omega
 exact⟨rfl,BI f k h'⟩
theorem KZ{a b:Int}(c:0≤a)(e:a≤2)(f:0≤b)(j:b≤2):bitsOf .or .u8 (u8.wrap ((u8.wrap a)*2 ^ (min (4:Int).toNat u8.bits))) b=a*16+b:=by
 rcases(show a=0∨a=1∨a=2 by omega)with rfl | rfl | rfl <;> rcases(show b=0∨b=1∨b=2 by omega)with rfl | rfl | rfl <;> decide
theorem JL{cl:List bB}{o:List Int}(j:cl.length≤4096)(M:o.length=cl.length+1){fr n:Nat}(N:fr+n≤cl.length)(m:Sm (aN cl o fr) n):oT cl o (fr:Int) ((fr+n:Nat):Int)=some (Dj (aN cl o fr) n):=by
 have p:iter (iv cl o ((fr+n:Nat):Int)) (qg (aN cl o fr) 0,((fr+0:Nat):Int))=some (qg (aN cl o fr) n):=by
  refine eg (fun k=>(qg (aN cl o fr) k,((fr+k:Nat):Int))) n (fun k q=> ?_) ?_
  ·obtain⟨u,v,z,A,O,R⟩:=m k q;have c:((fr+k:Nat):Int)<((fr+n:Nat):Int):=by omega
   have B:0≤((fr+k:Nat):Int)∧((fr+k:Nat):Int)<(cl.length:Int):=by omega
   have C:i64.wrap (((fr+k:Nat):Int)+1)=((fr+k+1:Nat):Int):=bj (by omega);have D:0≤((fr+k+1:Nat):Int)∧((fr+k+1:Nat):Int)<(o.length:Int):=by omega
   have E:0≤(4:Int):=by omega
   have e:bitsOf .or .u8 (u8.wrap ((u8.wrap (cl.getD (fr+k) c0).2.2.1)*2 ^ (min (4:Int).toNat u8.bits))) (cl.getD (fr+k) c0).2.2.2=(aN cl o fr k).1*16+(aN cl o fr k).2.1:=KZ u v z A;have f:o.getD (fr+k+1) 0=(aN cl o fr k).2.2:=rfl;have I:=mU (aN cl o fr) k;have g:∀x y:Int,((qg (aN cl o fr) k).length+([x,y]:List Int).length)*1≤140737488355328∧(qg (aN cl o fr) k).length+([x,y]:List Int).length≤9223372036854775807:=fun x y=>by simp;omega
   simp only[iv,c,B,C,D,E,and_self,decide_true,if_true,Int.toNat_natCast,e,f,g,qg];rfl
  ·have c:¬(((fr+n:Nat):Int)<((fr+n:Nat):Int)):=Int.lt_irrefl _;simp only[iv,c,decide_false,Bool.false_eq_true,if_false]
 have J:i64.wrap (((fr+n:Nat):Int) - (fr:Int))=(n:Int):=by rw[wrap_i64 (by omega) (by omega)];omega
 have L:i64.wrap (2*(n:Int))=2*(n:Int):=wrap_i64 (by omega) (by omega);unfold oT;rw[J,L,if_pos (by omega)];have:iter (iv cl o ((fr+n:Nat):Int)) (List.replicate (0:Int).toNat (0:Int),(fr:Int))=some (qg (aN cl o fr) n):=p;rw[this];rfl
def dQ(cl:List bB)(tab:Int)(l:List bB):List (List Int):=l.map fun x=>n5 cl tab x.1.toNat (x.2.1.toNat - x.1.toNat)
def pt(l:List bB):List bB:=if l=[]then[c0]else l
theorem Gh{cl:List bB}(z:DS cl)(o:List Int){c:Int}(C:1≤c)(D:c≤64){l:List bB}(hl:l.length≤4096)(E:∀x∈l,Rg cl.length x):lB cl o l c=some (some ((cl,o),(pt l,dQ cl c (pt l)))):=by
 have I:=z.1;have key:∀m:List bB,m.length≤4096→(∀x∈m,∃a b:Nat,x.1=(a:Int)∧x.2.1=(b:Int)∧a≤b∧b≤cl.length)→iter (fk cl o c m) (([]:List (List Int)),(0:Int))=some (dQ cl c m):=fun m M p=>by
  have:iter (fk cl o c m) (dQ cl c (m.take 0),((0:Nat):Int))=some (dQ cl c m):=by
   refine eg (fun k=>(dQ cl c (m.take k),(k:Int))) m.length (fun k A=> ?_) ?_
   ·obtain⟨a,b,f,j,B,q⟩:=p (m.getD k c0) (kK A);have u:(k:Int)<(m.length:Int):=by omega
    have J:0≤(k:Int):=by omega
    have v:=vM z o C D B q;have e:(dQ cl c (m.take k)).length=k:=by unfold dQ;rw[List.length_map,List.length_take];omega
    have g:∀x:List Int,(k+([x]:List (List Int)).length)*24≤140737488355328∧k+([x]:List (List Int)).length≤9223372036854775807:=fun x=>by simp;omega
    simp only[fk,u,J,and_self,decide_true,if_true,Int.toNat_natCast,f,j,v,Option.bind_some,e,g,bj (show k≤9000000000000000000 by omega)];rw[nU (d:=c0) A];unfold dQ;rw[List.map_append,List.map_cons,List.map_nil,f,j,Int.toNat_natCast,Int.toNat_natCast]
   ·have u:¬((m.length:Int)<(m.length:Int)):=Int.lt_irrefl _;simp only[fk,u,decide_false,Bool.false_eq_true,if_false,List.take_length]
  exact this
 unfold lB pt;cases l with
 | nil =>
  rw[if_pos (by simp),Option.bind_some,key [c0] (by simp) (fun x p=>by
   obtain rfl:x=c0:=by simpa using p
   exact⟨0,0,rfl,rfl,Nat.le_refl _,Nat.zero_le _⟩)]
  rfl
 | cons x r =>
  rw[if_neg (by simp;omega),Option.bind_some,key (x::r) hl (fun y L=>by
   obtain⟨a,b,f,j,B,q⟩:=E y L;exact⟨a,b,f,j,by omega,q⟩),if_neg (by simp)]
  rfl
end
end Go.Proofs.YtmcemnfjddoejaaGreatDoor.T
namespace Go.Proofs.YtmcemnfjddoejaaGreatDoor.T
open Go Go.Tv Go.Proofs
open Go.IntKind (i64 u8)
noncomputable section
def nX(o:List Int):Nat→Nat→List Int
 | 0,_=>[]
 | m+1,k=>if o.getD k 0=2 then(k:Int)::nX o m (k+1)else nX o m (k+1)
theorem uG(o:List Int):∀m k,nX o (m+1) k=nX o m k++(if o.getD (k+m) 0=2 then[((k+m:Nat):Int)]else[])
 | 0,k=>by simp only[nX];split <;> simp_all
 | m+1,k=>by
  have:=uG o m (k+1);rw[show k+1+m=k+(m+1) by omega]at this;simp only[nX]at this ⊢;rw[this];split <;> simp
theorem pr(o:List Int):∀m,dO o m=nX o m 0
 | 0=>rfl
 | m+1=>by
  rw[uG,←pr o m];simp only[dO,Nat.zero_add];split <;> simp
def F7(o:List Int)(m:Nat):Nat→List Int→Prop
 | _,[]=>True
 | fr,t::r=>fr≤t.toNat∧t=(t.toNat:Int)∧t.toNat≤m∧o.getD t.toNat 0=2∧F7 o m t.toNat r
theorem F7.from{o:List Int}{m:Nat}:∀ {fr c:Nat} {l:List Int},c≤fr→F7 o m fr l→F7 o m c l
 | _,_,[],_,_=>trivial
 | _,_,t::r,h,e=>⟨by have:=e.1;omega,e.2⟩
theorem lH(o:List Int){M:Nat}:∀m k,k+m≤M+1→F7 o M k (nX o m k)
 | 0,_,_=>trivial
 | m+1,k,h=>by
  have:=lH o (M:=M) m (k+1) (by omega);simp only[nX];split
  ·rename_i c;exact⟨by simp,by simp,by simp;omega,by simpa using c,this.from (by simp)⟩
  ·exact this.from (by omega)
def jz(cl:List bB)(o:List Int)(c:Wy):Nat→List Int→List bB×Bool
 | _,[]=>([],false)
 | fr,t::r=>(cX (gI (aN cl o fr) (t.toNat - fr) c).1 (fr:Int)++(jz cl o c t.toNat r).1,(gI (aN cl o fr) (t.toNat - fr) c).2 || (jz cl o c t.toNat r).2)
def GZ(c:Wy):Prop:=1≤c.2.1∧c.2.1≤64
theorem FO{cl:List bB}(f:DS cl){o:List Int}(j:o.length=cl.length+1){c:Wy}(w:GZ c){fr e:Nat}(p:fr≤e)(k:e≤cl.length)(m:o.getD fr 0≠3):
  hY cl o (fr:Int) (e:Int) c.1 c.2.1 c.2.2.1 c.2.2.2.1 c.2.2.2.2.1 c.2.2.2.2.2=some (cX (gI (aN cl o fr) (e - fr) c).1 (fr:Int),(gI (aN cl o fr) (e - fr) c).2):=by
 obtain⟨n,rfl⟩:∃n,e=fr+n:=⟨e - fr,by omega⟩;rw[Nat.add_sub_cancel_left];exact I2 f j k c w.1 w.2 m
end
end Go.Proofs.YtmcemnfjddoejaaGreatDoor.T
namespace Go.Proofs.YtmcemnfjddoejaaGreatDoor.T
open Go Go.Tv Go.Proofs
open Go.IntKind (i64 u8)
noncomputable section
theorem Ay.get:∀ {a n:Int} {s:List bB},Ay a s n→∀i,0≤(s.getD i c0).2.2.1∧(s.getD i c0).2.2.1≤2∧0≤(s.getD i c0).2.2.2∧(s.getD i c0).2.2.2≤2
 | a,n,[],_,i=>by simp
 | a,n,x::s,h,0=>⟨h.2.2.1,h.2.2.2.1,h.2.2.2.2.1,h.2.2.2.2.2.1⟩
 | a,n,x::s,h,i+1=>by simpa using Ay.get h.2.2.2.2.2.2 i
theorem PM.LN{n:Int}{p:List bB×List Int}(h:PM n p)(c:n≤4096):DS p.1:=⟨by have:=h.len;omega,fun i=>⟨(h.J5.get i).1,(h.J5.get i).2.1⟩⟩
theorem PM.sm{n:Int}{p:List bB×List Int}(h:PM n p)(c m:Nat):Sm (aN p.1 p.2 c) m:=fun j _=>by
 obtain⟨e,f,k,q⟩:=h.J5.get (c+j);exact⟨e,f,k,q,(h.I0.val _).1,(h.I0.val _).2⟩
abbrev Kn:=List ((List UInt8)×((List bB)×Bool))
def A6(c:Wy)(e:Kn):Prop:=∀k v,bc .str e k=some v→∀d n,Sm d n→Dj d n=k→v=gI d n c
theorem A6.nil(c:Wy):A6 c []:=fun k v h=>by cases h
theorem xc{α:Type}(k c:List UInt8)(x:α):∀q:List (List UInt8×α),bc .str (dN .str q k x) c=if c=k then some x else bc .str q c
 | []=>by
  show(if cq .str k c=true then some x else none)=_;by_cases h:c=k
  ·subst h;rw[if_pos (by simp[cq]),if_pos rfl]
  ·rw[if_neg (show ¬cq .str k c=true by simpa [cq]using Ne.symm h),if_neg h];rfl
 | p::r=>by
  simp only[dN,bc];by_cases j:p.1=k
  ·rw[if_pos (show cq .str p.1 k=true by simpa [cq]using j)];simp only[bc];by_cases h:c=k
   ·subst h;rw[if_pos rfl,if_pos (by simp[cq])]
   ·have f:¬cq .str k c=true:=by simpa [cq]using Ne.symm h
    have m:¬cq .str p.1 c=true:=by rw[j];exact f
    rw[if_neg h,if_neg f,if_neg m]
  ·rw[if_neg (show ¬cq .str p.1 k=true by simpa [cq]using j)];simp only[bc];by_cases h:p.1=c
   ·have f:cq .str p.1 c=true:=by simpa [cq]using h
    have m:¬c=k:=fun e=>j (h.trans e)
    rw[if_pos f,if_neg m,if_pos f]
   ·have f:¬cq .str p.1 c=true:=by simpa [cq]using h
    rw[if_neg f,if_neg f];exact xc k c x r
theorem nv{α:Type}{q:List UInt8→Bool}(k:List UInt8){v:α}:∀ {u:List (List UInt8×α)},bc .str (u.filter fun p=>q p.1) k=some v→bc .str u k=some v
 | [],h=>h
 | p::r,h=>by
  simp only[bc];by_cases f:cq .str p.1 k=true
  ·rw[if_pos f];have e:p.1=k:=by simpa [cq]using f
   simp only[List.filter_cons]at h;cases j:q p.1 with
   | true =>
    rw[j,if_pos rfl]at h;simp only[bc]at h;rw[if_pos f]at h;exact h
   | false =>
    rw[j,if_neg (by decide)]at h;exfalso
    have c:bc .str (r.filter fun p=>q p.1) k=none:=jq (K:= .str) rfl fun z m x=>by have:=(List.mem_filter.1 m).2;rw[x,←e,j]at this;cases this
    rw[c]at h;cases h
  ·rw[if_neg f];simp only[List.filter_cons]at h;split at h
   ·simp only[bc]at h;rw[if_neg f]at h;exact nv k h
   ·exact nv k h
theorem A6.set{c:Wy}{u:Kn}(h:A6 c u){d:Dt}{n:Nat}(A:Sm d n):A6 c (dN .str u (Dj d n) (gI d n c)):=fun k v j B C f z=>by
 rw[xc]at j;split at j
 ·rename_i e;cases j;obtain⟨rfl,D⟩:=GG f A (z.trans e);exact(AO D c).symm
 ·exact h k v j B C f z
theorem A6.K4{c:Wy}{e:Kn}(h:A6 c e)(f:List (List UInt8×Bool)):A6 c (rm .str e f):=fun k v j=>h k v (nv (q:=fun x=>(bc .str f x).getD false) k j)
theorem pQ{cl:List bB}{o:List Int}(c:Wy):∀ {l:List Int} {e:Nat},F7 o cl.length e l→(∀x∈(jz cl o c e l).1,Rg cl.length x)∧(jz cl o c e l).1.length+e≤max e cl.length
 | [],e,_=>⟨fun x f=>(by cases f),by simp only[jz,List.length_nil];omega⟩
 | t::r,e,⟨q,u,v,z,j⟩=>by
  obtain⟨k,A⟩:=pQ c j;have m:=xF (aN cl o e) (t.toNat - e) c;refine⟨fun x f=> ?_,by simp only[jz,List.length_append,mT];omega⟩;simp only[jz,List.mem_append]at f;rcases f with f | f
  ·unfold cX at f;obtain⟨y,p,rfl⟩:=List.mem_map.1 f;obtain⟨a,b,B,C,D,E⟩:=xi _ _ c y p;exact⟨e+a,e+b,by simp only;omega,by simp only;omega,by omega,by omega⟩
  ·exact k x f
theorem Ew{cl:List bB}(N:DS cl){o:List Int}(O:o.length=cl.length+1)(p:∀fr m,Sm (aN cl o fr) m){c:Wy}(w:GZ c):∀(l pre:List Int) (fr:Nat) (out:List bB) (b:Bool) (e:Kn) (D:List (List UInt8×Bool)),(pre++l).length≤5000→F7 o cl.length fr l→fr≤cl.length→o.getD fr 0≠3→out.length≤fr→A6 c e →
  ∃q B,iter (dG c.1 c.2.1 c.2.2.1 c.2.2.2.1 c.2.2.2.2.1 c.2.2.2.2.2 (cl,o) (pre++l)) (out,b,e,D,(fr:Int),(pre.length:Int))=some (out++(jz cl o c fr l).1,b || (jz cl o c fr l).2,q,B)∧A6 c q
 | [],pre,fr,out,b,e,D,_,_,_,_,_,E=>by
  have R:¬((pre.length:Int)<(pre.length:Int)):=Int.lt_irrefl _;rw[List.append_nil];exact⟨e,D,bM (by simp only[dG,R,decide_false,Bool.false_eq_true,if_false,jz,List.append_nil,Bool.or_false]),E⟩
 | t::r,pre,fr,out,b,e,D,x,hp,a3,h3,hout,E=>by
  have hl:=N.1;obtain⟨p1,V,p3,p4,p5⟩:=hp;have I:=xF (aN cl o fr) (t.toNat - fr) c;have X:=FO N O w p1 p3 h3;rw[←V]at X;have f:=JL (cl:=cl) (o:=o) (fr:=fr) (n:=t.toNat - fr) (by omega) O (by omega) (p _ _);rw[show fr+(t.toNat - fr)=t.toNat by omega,←V]at f;have j:=E.set (p fr (t.toNat - fr));have k:∀v,bc .str e (Dj (aN cl o fr) (t.toNat - fr))=some v→v=gI (aN cl o fr) (t.toNat - fr) c:=fun v hv=>E _ v hv _ _ (p _ _) rfl
  have Y:=Gz (aN cl o fr) (n:=t.toNat - fr) (by omega) c;have J:Nr (cX (gI (aN cl o fr) (t.toNat - fr) c).1 (fr:Int)):=Ix (by omega) (xi _ _ c) (by omega) (by omega);have C:=Bo J (b:= -(fr:Int)) (by omega) (by omega);rw[HM,show(fr:Int) + -(fr:Int)=0 by omega,Fl]at C;have L:=Bo Y (b:=(fr:Int)) (by omega) (by omega);have hw:i64.wrap (0 - (fr:Int)) = -(fr:Int):=by rw[wrap_i64 (by omega) (by omega)];omega
  generalize Dj (aN cl o fr) (t.toNat - fr)=key at f j k;simp only[jz];generalize gI (aN cl o fr) (t.toNat - fr) c=P at X j k L C I;have Z:pre.length+(r.length+1)≤5000:=by simpa using x
  have R:(pre.length:Int)<((pre++t::r).length:Int):=by simp;omega
  have q2:0≤(pre.length:Int):=by omega
  have g:(out.length+(cX P.1 (fr:Int)).length)*32≤140737488355328∧out.length+(cX P.1 (fr:Int)).length≤9223372036854775807:=by rw[mT];omega
  obtain⟨u,hin,a1⟩:∃u,(if(!((bc .str e key).isSome))=true then((hY cl o (fr:Int) t c.1 c.2.1 c.2.2.1 c.2.2.2.1 c.2.2.2.2.1 c.2.2.2.2.2).bind fun(M,z)=>((ik M (i64.wrap (0 - (fr:Int)))).bind fun A=>some (((dN .str e key (A,z)),A,z))))
    else some ((e,((bc .str e key).getD (([]:List bB),false)).1,((bc .str e key).getD (([]:List bB),false)).2)))=some (u,P.1,P.2)∧A6 c u:=by
   cases hf:bc .str e key with
   | none =>
    refine⟨dN .str e key P,?_,j⟩;rw[if_pos (by rfl),X,Option.bind_some];simp only[hw,C,Option.bind_some]
   | some v =>refine⟨e,?_,E⟩;rw[if_neg (by simp)];simp only[Option.getD_some];rw[k v hf]
  obtain⟨q,B,ih,a2⟩:=Ew N O p w r (pre++[t]) t.toNat (out++cX P.1 (fr:Int)) (b || P.2) u (dN .str D key true) (by simpa using x) p5 p3 (by rw[p4];decide) (by rw[List.length_append,mT];omega) a1;rw[List.append_assoc,←V]at ih;simp only[List.singleton_append,List.length_append,List.length_singleton]at ih;refine⟨q,B,?_,a2⟩;rw[←List.append_assoc,←Bool.or_assoc,←ih];refine dE ?_;simp only[dG,R,q2,and_self,decide_true,if_true,Int.toNat_natCast,xA,f,Option.bind_some];rw[hin];simp only[Option.bind_some,L,g,and_self,if_true];rw[show i64.wrap ((pre.length:Int)+1)=((pre.length+1:Nat):Int)from bj (by omega)];cases b <;> simp
def LF(cl:List bB)(o:List Int)(c:Wy):List bB×Bool:=jz cl o c 0 (dO o o.length)
def ib(cl:List bB)(o:List Int)(c:Wy):(List bB×List Int)×(List bB×List (List Int)):=((cl,o),(pt (LF cl o c).1,dQ cl c.2.1 (pt (LF cl o c).1)))
theorem PM.zero{n:Int}{p:List bB×List Int}(h:PM n p):p.2.getD 0 0≠3:=by
 by_cases c:0<p.1.length
 ·rw[h.I0.zero c];decide
 ·have:=h.I0.last;rw[show p.1.length=0 by omega]at this;rw[this];decide
theorem J1{b:Option Z1}{x:List Int}{p:List bB×List Int}(E:aM b x=some (p,0))(f:PM (x.length:Int) p)(V:x.length≤4096){c:Wy}(w:GZ c){q:Kn}(I:A6 c q)(J:List bB)(L:Bool)(u:List Int)(v:List bB)(z:List Int)(A):
  ∃j,bQ x J L b c.1 c.2.1 c.2.2.1 c.2.2.2.1 c.2.2.2.2.1 c.2.2.2.2.2 u v z A q=some (0,(LF p.1 p.2 c).1,(LF p.1 p.2 c).2,x,p.1,p.2,some (ib p.1 p.2 c),j)∧A6 c j:=by
 have B:=f.LN (by omega);have hl:=B.1;have M:=f.I0.len;have k:F7 p.2 p.1.length 0 (dO p.2 p.2.length):=by rw[pr];exact lH _ _ _ (by omega)
 have N:=qW p.2 p.2.length;obtain⟨j,m,e,C⟩:=Ew B M f.sm w (dO p.2 p.2.length) [] 0 [] false q [] (by simp;omega) k (by omega) f.zero (by simp) I;simp only[List.nil_append,List.length_nil,Bool.false_or]at e;obtain⟨O,X⟩:=pQ c k;have D:=Gh B p.2 w.1 w.2 (l:=(LF p.1 p.2 c).1) (by unfold LF;omega) O;refine⟨_,?_,C.K4 m⟩;unfold bQ;rw[E,Option.bind_some];simp only[bne_self_eq_false,Bool.false_eq_true,if_false];rw[parts_eq p.1 (by omega),Option.bind_some];have R:iter (dG c.1 c.2.1 c.2.2.1 c.2.2.2.1 c.2.2.2.2.1 c.2.2.2.2.2 p (dO p.2 p.2.length)) (([]:List bB),false,q,([]:List ((List UInt8)×Bool)),(0:Int),(0:Int))=some ((LF p.1 p.2 c).1,(LF p.1 p.2 c).2,j,m):=e;rw[R,Option.bind_some];simp only[D,Option.bind_some];rfl
end
end Go.Proofs.YtmcemnfjddoejaaGreatDoor.T
