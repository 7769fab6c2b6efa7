/- Flows: lines moved, keys, places. -/
import Derived.Test.YtmcemnfjddoejaaGreatDoorTv23s
import Derived.Test.YtmcemnfjddoejaaGreatDoorTvT23aa
import Derived.Test.YtmcemnfjddoejaaGreatDoorTvSj
namespace Go.Proofs.YtmcemnfjddoejaaGreatDoor.T
open Go Go.Tv Go.Proofs
open Go.IntKind (i64 u8)
noncomputable section
theorem wQ{α:Type}(p:List α)(x:α)(l:List α)(d:α):(p++x::l).getD p.length d=x:=by simp[List.getD_eq_getElem?_getD]
theorem zE(d:Dt)(n:Nat)(e c:Int):∀m a,(eO d n e c m a).length≤m
 | 0,_=>by simp[eO]
 | m+1,a=>by
  have:=zE d n e c m (ll d n e c a).1;simp only[eO];split
  ·simp only[List.length_cons];omega
  ·simp
theorem C1(d:Dt)(n:Nat)(c:Int)(T:List (Int×Int)):∀m a,(jf d n c T m a).length≤m
 | 0,_=>by simp[jf]
 | m+1,a=>by
  have:=C1 d n c T m (T.getD a (0,0)).2.toNat;simp only[jf];split
  ·simp only[List.length_cons];omega
  ·simp
theorem wg(d:Dt)(n:Nat)(c:Wy):(gK d n c).1.length≤n:=by
 have e:=zE d n c.1 c.2.1 n 0;have m:=C1 d n c.2.1 (dJ d n c n) n 0;unfold gK qG;by_cases f:c.2.2.1=1
 ·rw[if_pos f];by_cases j:n=0
  ·rw[if_pos j];simp
  ·rw[if_neg j];by_cases k:((dJ d n c n).getD 0 (0,0)).2<0
   ·rw[if_pos k];exact e
   ·rw[if_neg k];exact m
 ·rw[if_neg f];exact e
theorem mO(l:List bB)(b:Int):(dn l b).length=l.length:=by simp[dn]
def Rg(n:Nat)(x:bB):Prop:=∃a b:Nat,x.1=(a:Int)∧x.2.1=(b:Int)∧a<b∧b≤n
theorem zu(d:Dt)(n:Nat)(f e:Int):∀m a,∀x∈eO d n f e m a,Rg n x
 | 0,_,x,c=>by simp[eO]at c
 | m+1,a,x,c=>by
  simp only[eO]at c;split at c
  ·rename_i ha;have h:=sw d f e ha;rcases List.mem_cons.1 c with rfl | c
   ·exact⟨a,_,rfl,rfl,h.1,h.2⟩
   ·exact zu d n f e m _ x c
  ·cases c
theorem CJ(d:Dt){n:Nat}(e:Int){T:List (Int×Int)}(hT:∀a,a<n→0≤(T.getD a (0,0)).2→(a:Int)<(T.getD a (0,0)).2∧(T.getD a (0,0)).2≤(n:Int)∧((T.getD a (0,0)).2<(n:Int)→0≤(T.getD (T.getD a (0,0)).2.toNat (0,0)).2)):∀m a,(a<n→0≤(T.getD a (0,0)).2)→∀x∈jf d n e T m a,Rg n x
 | 0,_,_,x,c=>by simp[jf]at c
 | m+1,a,f,x,c=>by
  simp only[jf]at c;split at c
  ·rename_i ha;obtain⟨k,p,j⟩:=hT a ha (f ha);rcases List.mem_cons.1 c with rfl | c
   ·exact⟨a,_,rfl,rfl,by omega,by omega⟩
   ·exact CJ d e hT m _ (fun _=>j (by omega)) x c
  ·cases c
theorem xZ(d:Dt)(n:Nat)(c:Wy):∀x∈(gK d n c).1,Rg n x:=by
 have e:=zu d n c.1 c.2.1 n 0;unfold gK qG;by_cases f:c.2.2.1=1
 ·rw[if_pos f];by_cases j:n=0
  ·rw[if_pos j];intro x m;cases m
  ·rw[if_neg j];by_cases k:((dJ d n c n).getD 0 (0,0)).2<0
   ·rw[if_pos k];exact e
   ·rw[if_neg k];exact CJ d c.2.1 (tw d n c) n 0 (fun _=>by omega)
 ·rw[if_neg f];exact e
theorem Ia(l:List bB)(a b:Int):dn (dn l a) b=dn l (a+b):=by
 unfold dn;rw[List.map_map];refine List.map_congr_left fun x _=> ?_
 simp only[Function.comp];rw[Int.add_assoc,Int.add_assoc]
theorem F2(l:List bB):dn l 0=l:=by
 unfold dn
 conv=>rhs;rw[←List.map_id l]
 refine List.map_congr_left fun x _=> ?_
 simp only[Int.add_zero,id]
def Nr(l:List bB):Prop:=l.length≤4096∧∀x∈l,-10000≤x.1∧x.1≤10000 ∧ -10000≤x.2.1∧x.2.1≤10000
theorem CA{l:List bB}(h:l.length≤4096):pk l=some l:=by
 unfold pk;cases l with
 | nil=>rfl
 | cons x r =>
  rw[if_neg (by simp),if_pos (by simp only[List.length_nil];omega)];rfl
theorem CU{l:List bB}(h:Nr l){b:Int}(E : -10000≤b)(I:b≤10000):ic l b=some (dn l b):=by
 have x:iter (fC b l) ((dn (l.take 0) b++l.drop 0),((0:Nat):Int))=some (dn l b):=by
  refine dL (fun k=>(dn (l.take k) b++l.drop k,(k:Int))) l.length (fun k m=> ?_) ?_
  ·have J:=h.2 (l.getD k c0) (mW m);have p:(dn (l.take k) b++l.drop k).length=l.length:=by rw[List.length_append,mO,List.length_take,List.length_drop];omega
   have c:(dn (l.take k) b).length=k:=by rw[mO,List.length_take];omega
   have q:(dn (l.take k) b++l.drop k).getD k c0=l.getD k c0:=by have:=wQ (dn (l.take k) b) (l.getD k c0) (l.drop (k+1)) c0;rw[c]at this;rw[xq (d:=c0) m];exact this
   have u:∀y:bB,(dn (l.take k) b++l.drop k).set k y=dn (l.take k) b++y::l.drop (k+1):=fun y=>by rw[xq (d:=c0) m,List.set_append_right _ _ (by omega),c,Nat.sub_self];rfl
   have e:∀y:bB,(dn (l.take k) b++y::l.drop (k+1)).getD k c0=y:=fun y=>by have:=wQ (dn (l.take k) b) y (l.drop (k+1)) c0;rw[c]at this;exact this
   have f:∀y z:bB,(dn (l.take k) b++y::l.drop (k+1)).set k z=dn (l.take k) b++z::l.drop (k+1):=fun y z=>by rw[List.set_append_right _ _ (by omega),c,Nat.sub_self];rfl
   have j:∀y:bB,(dn (l.take k) b++y::l.drop (k+1)).length=l.length:=fun y=>by rw[List.length_append,c,List.length_cons,List.length_drop];omega
   have hl:=h.1;have v:(k:Int)<(l.length:Int):=by omega
   have A:0≤(k:Int):=by omega
   have B:i64.wrap ((k:Int)+1)=((k+1:Nat):Int):=bj (by omega);have C:i64.wrap ((l.getD k c0).1+b)=(l.getD k c0).1+b:=wrap_i64 (by omega) (by omega);have D:i64.wrap ((l.getD k c0).2.1+b)=(l.getD k c0).2.1+b:=wrap_i64 (by omega) (by omega);simp only[fC,v,decide_true,if_true,p,A,and_self,Int.toNat_natCast,m,q,u,j,e,f,C,D,B];rw[nH (d:=c0) m];simp[dn]
  ·have v:¬((l.length:Int)<(l.length:Int)):=Int.lt_irrefl _;simp only[fC,v,decide_false,Bool.false_eq_true,if_false,List.take_length,List.drop_length,List.append_nil]
 unfold ic;rw[CA h.1,Option.bind_some];have:iter (fC b l) (l,(0:Int))=some (dn l b):=x;rw[this];rfl
theorem H4(d:Dt){n:Nat}(e:n≤4096)(c:Wy):Nr (gK d n c).1:=⟨Nat.le_trans (wg d n c) e,fun x f=>by
 obtain⟨a,b,j,k,m,p⟩:=xZ d n c x f;omega⟩
theorem I6{l:List bB}{n:Nat}(hl:l.length≤4096)(h:∀x∈l,Rg n x)(j:n≤4096){f:Nat}(k:f≤4096):Nr (dn l (f:Int)):=⟨by rw[mO];exact hl,fun x c=>by
 unfold dn at c;obtain⟨y,e,rfl⟩:=List.mem_map.1 c;obtain⟨a,b,m,p,q,u⟩:=h y e;simp only;omega⟩
def ql(d:Dt):Nat→List Int
 | 0=>[]
 | n+1=>ql d n++[(d n).1*16+(d n).2.1,(d n).2.2]
def Du(d:Dt)(n:Nat):List UInt8:=bytesOf (ql d n)
def Sm(d:Dt)(n:Nat):Prop:=∀j,j<n→0≤(d j).1∧(d j).1≤2∧0≤(d j).2.1∧(d j).2.1≤2∧0≤(d j).2.2∧(d j).2.2≤3
theorem m8(d:Dt):∀n,(ql d n).length=2*n
 | 0=>rfl
 | n+1=>by simp[ql,m8 d n];omega
theorem Av{d:Dt}:∀ {n:Nat},Sm d n→∀x∈ql d n,0≤x∧x≤255
 | 0,_,x,c=>by cases c
 | n+1,h,x,c=>by
  obtain⟨e,f,k,m,p,q⟩:=h n (by omega);simp only[ql,List.mem_append,List.mem_cons,List.not_mem_nil,or_false]at c;rcases c with c | rfl | rfl
  ·exact Av (fun j u=>h j (by omega)) x c
  ·omega
  ·omega
theorem u7:∀ {l k:List Int},(∀x∈l,0≤x∧x≤255)→(∀x∈k,0≤x∧x≤255)→bytesOf l=bytesOf k→l=k
 | [],[],_,_,_=>rfl
 | [],y::k,_,_,h=>by simp[bytesOf]at h
 | x::l,[],_,_,h=>by simp[bytesOf]at h
 | x::l,y::k,c,f,h=>by
  simp only[bytesOf,List.map_cons,List.cons.injEq]at h;have j:=c x (by simp);have m:=f y (by simp);have e:x=y:=by have:=congrArg UInt8.toNat h.1;simp only[UInt8.toNat_ofNat']at this;omega
  rw[e,u7 (fun z hz=>c z (by simp[hz])) (fun z hz=>f z (by simp[hz])) h.2]
theorem CK{d c:Dt}:∀ {n:Nat},Sm d n→Sm c n→ql d n=ql c n→∀j,j<n→d j=c j
 | 0,_,_,_,j,f=>by omega
 | n+1,k,m,h,j,f=>by
  simp only[ql]at h;obtain⟨p,g2⟩:=List.append_inj h (by rw[m8,m8]);by_cases e:j=n
  ·subst e;obtain⟨q,u,v,x,z,A⟩:=k j (by omega);obtain⟨B,C,D,E,I,J⟩:=m j (by omega);simp only[List.cons.injEq,and_true]at g2;refine Prod.ext (by omega) (Prod.ext (by omega) g2.2)
  ·exact CK (fun j f=>k j (by omega)) (fun j f=>m j (by omega)) p j (by omega)
theorem Gt{d e:Dt}{n c:Nat}(f:Sm d n)(k:Sm e c)(h:Du d n=Du e c):n=c∧∀j,j<n→d j=e j:=by
 have h':=u7 (Av f) (Av k) h;have hl:=congrArg List.length h';rw[m8,m8]at hl;obtain rfl:n=c:=by omega
 exact⟨rfl,CK f k h'⟩
theorem KT{a b:Int}(c:0≤a)(e:a≤2)(f:0≤b)(j:b≤2):bitsOf .or .u8 (u8.wrap ((u8.wrap a)*2 ^ (min (4:Int).toNat u8.bits))) b=a*16+b:=by
 rcases(show a=0∨a=1∨a=2 by omega)with rfl | rfl | rfl <;> rcases(show b=0∨b=1∨b=2 by omega)with rfl | rfl | rfl <;> decide
theorem Ka{cl:List bB}{o:List Int}(j:cl.length≤4096)(M:o.length=cl.length+1){fr n:Nat}(N:fr+n≤cl.length)(m:Sm (aM cl o fr) n):pe cl o (fr:Int) ((fr+n:Nat):Int)=some (Du (aM cl o fr) n):=by
 have p:iter (im cl o ((fr+n:Nat):Int)) (ql (aM cl o fr) 0,((fr+0:Nat):Int))=some (ql (aM cl o fr) n):=by
  refine dL (fun k=>(ql (aM cl o fr) k,((fr+k:Nat):Int))) n (fun k q=> ?_) ?_
  ·obtain⟨u,v,z,A,O,R⟩:=m k q;have c:((fr+k:Nat):Int)<((fr+n:Nat):Int):=by omega
   have B:0≤((fr+k:Nat):Int)∧((fr+k:Nat):Int)<(cl.length:Int):=by omega
   have C:i64.wrap (((fr+k:Nat):Int)+1)=((fr+k+1:Nat):Int):=bj (by omega);have D:0≤((fr+k+1:Nat):Int)∧((fr+k+1:Nat):Int)<(o.length:Int):=by omega
   have E:0≤(4:Int):=by omega
   have e:bitsOf .or .u8 (u8.wrap ((u8.wrap (cl.getD (fr+k) c0).2.2.1)*2 ^ (min (4:Int).toNat u8.bits))) (cl.getD (fr+k) c0).2.2.2=(aM cl o fr k).1*16+(aM cl o fr k).2.1:=KT u v z A;have f:o.getD (fr+k+1) 0=(aM cl o fr k).2.2:=rfl;have I:=m8 (aM cl o fr) k;have g:∀x y:Int,((ql (aM cl o fr) k).length+([x,y]:List Int).length)*1≤140737488355328∧(ql (aM cl o fr) k).length+([x,y]:List Int).length≤9223372036854775807:=fun x y=>by simp;omega
   simp only[im,c,B,C,D,E,and_self,decide_true,if_true,Int.toNat_natCast,e,f,g,ql];rfl
  ·have c:¬(((fr+n:Nat):Int)<((fr+n:Nat):Int)):=Int.lt_irrefl _;simp only[im,c,decide_false,Bool.false_eq_true,if_false]
 have J:i64.wrap (((fr+n:Nat):Int) - (fr:Int))=(n:Int):=by rw[wrap_i64 (by omega) (by omega)];omega
 have L:i64.wrap (2*(n:Int))=2*(n:Int):=wrap_i64 (by omega) (by omega);unfold pe;rw[J,L,if_pos (by omega)];have:iter (im cl o ((fr+n:Nat):Int)) (List.replicate (0:Int).toNat (0:Int),(fr:Int))=some (ql (aM cl o fr) n):=p;rw[this];rfl
def eb(cl:List bB)(tab:Int)(l:List bB):List (List Int):=l.map fun x=>ot cl tab x.1.toNat (x.2.1.toNat - x.1.toNat)
def pK(l:List bB):List bB:=if l=[]then[c0]else l
theorem HO{cl:List bB}(z:Dc cl)(o:List Int){c:Int}(C:1≤c)(D:c≤64){l:List bB}(hl:l.length≤4096)(E:∀x∈l,Rg cl.length x):lC cl o l c=some (some ((cl,o),(pK l,eb cl c (pK l)))):=by
 have I:=z.1;have key:∀m:List bB,m.length≤4096→(∀x∈m,∃a b:Nat,x.1=(a:Int)∧x.2.1=(b:Int)∧a≤b∧b≤cl.length)→iter (fp cl o c m) (([]:List (List Int)),(0:Int))=some (eb cl c m):=fun m M p=>by
  have:iter (fp cl o c m) (eb cl c (m.take 0),((0:Nat):Int))=some (eb cl c m):=by
   refine dL (fun k=>(eb cl c (m.take k),(k:Int))) m.length (fun k A=> ?_) ?_
   ·obtain⟨a,b,f,j,B,q⟩:=p (m.getD k c0) (mW A);have u:(k:Int)<(m.length:Int):=by omega
    have J:0≤(k:Int):=by omega
    have v:=wu z o C D B q;have e:(eb cl c (m.take k)).length=k:=by unfold eb;rw[List.length_map,List.length_take];omega
    have g:∀x:List Int,(k+([x]:List (List Int)).length)*24≤140737488355328∧k+([x]:List (List Int)).length≤9223372036854775807:=fun x=>by simp;omega
    simp only[fp,u,J,and_self,decide_true,if_true,Int.toNat_natCast,f,j,v,Option.bind_some,e,g,bj (show k≤9000000000000000000 by omega)];rw[nH (d:=c0) A];unfold eb;rw[List.map_append,List.map_cons,List.map_nil,f,j,Int.toNat_natCast,Int.toNat_natCast]
   ·have u:¬((m.length:Int)<(m.length:Int)):=Int.lt_irrefl _;simp only[fp,u,decide_false,Bool.false_eq_true,if_false,List.take_length]
  exact this
 unfold lC pK;cases l with
 | nil =>
  rw[if_pos (by simp),Option.bind_some,key [c0] (by simp) (fun x p=>by
   obtain rfl:x=c0:=by simpa using p
   exact⟨0,0,rfl,rfl,Nat.le_refl _,Nat.zero_le _⟩)]
  rfl
 | cons x r =>
  rw[if_neg (by simp;omega),Option.bind_some,key (x::r) hl (fun y L=>by
   obtain⟨a,b,f,j,B,q⟩:=E y L;exact⟨a,b,f,j,by omega,q⟩),if_neg (by simp)]
  rfl
end
end Go.Proofs.YtmcemnfjddoejaaGreatDoor.T
namespace Go.Proofs.YtmcemnfjddoejaaGreatDoor.T
open Go Go.Tv Go.Proofs
open Go.IntKind (i64 u8)
noncomputable section
def nB(o:List Int):Nat→Nat→List Int
 | 0,_=>[]
 | m+1,k=>if o.getD k 0=2 then(k:Int)::nB o m (k+1)else nB o m (k+1)
theorem uJ(o:List Int):∀m k,nB o (m+1) k=nB o m k++(if o.getD (k+m) 0=2 then[((k+m:Nat):Int)]else[])
 | 0,k=>by simp only[nB];split <;> simp_all
 | m+1,k=>by
  have:=uJ o m (k+1);rw[show k+1+m=k+(m+1) by omega]at this;simp only[nB]at this ⊢;rw[this];split <;> simp
theorem pD(o:List Int):∀m,dQ o m=nB o m 0
 | 0=>rfl
 | m+1=>by
  rw[uJ,←pD o m];simp only[dQ,Nat.zero_add];split <;> simp
def Gp(o:List Int)(m:Nat):Nat→List Int→Prop
 | _,[]=>True
 | fr,t::r=>fr≤t.toNat∧t=(t.toNat:Int)∧t.toNat≤m∧o.getD t.toNat 0=2∧Gp o m t.toNat r
theorem Gp.from{o:List Int}{m:Nat}:∀ {fr c:Nat} {l:List Int},c≤fr→Gp o m fr l→Gp o m c l
 | _,_,[],_,_=>trivial
 | _,_,t::r,h,e=>⟨by have:=e.1;omega,e.2⟩
theorem lG(o:List Int){M:Nat}:∀m k,k+m≤M+1→Gp o M k (nB o m k)
 | 0,_,_=>trivial
 | m+1,k,h=>by
  have:=lG o (M:=M) m (k+1) (by omega);simp only[nB];split
  ·rename_i c;exact⟨by simp,by simp,by simp;omega,by simpa using c,this.from (by simp)⟩
  ·exact this.from (by omega)
def jy(cl:List bB)(o:List Int)(c:Wy):Nat→List Int→List bB×Bool
 | _,[]=>([],false)
 | fr,t::r=>(dn (gK (aM cl o fr) (t.toNat - fr) c).1 (fr:Int)++(jy cl o c t.toNat r).1,(gK (aM cl o fr) (t.toNat - fr) c).2 || (jy cl o c t.toNat r).2)
def HB(c:Wy):Prop:=1≤c.2.1∧c.2.1≤64
theorem Fu{cl:List bB}(f:Dc cl){o:List Int}(j:o.length=cl.length+1){c:Wy}(w:HB c){fr e:Nat}(p:fr≤e)(k:e≤cl.length)(m:o.getD fr 0≠3):
  ib cl o (fr:Int) (e:Int) c.1 c.2.1 c.2.2.1 c.2.2.2.1 c.2.2.2.2.1 c.2.2.2.2.2=some (dn (gK (aM cl o fr) (e - fr) c).1 (fr:Int),(gK (aM cl o fr) (e - fr) c).2):=by
 obtain⟨n,rfl⟩:∃n,e=fr+n:=⟨e - fr,by omega⟩;rw[Nat.add_sub_cancel_left];exact ID f j k c w.1 w.2 m
end
end Go.Proofs.YtmcemnfjddoejaaGreatDoor.T
namespace Go.Proofs.YtmcemnfjddoejaaGreatDoor.T
open Go Go.Tv Go.Proofs
open Go.IntKind (i64 u8)
noncomputable section
theorem Ay.get:∀ {a n:Int} {s:List bB},Ay a s n→∀i,0≤(s.getD i c0).2.2.1∧(s.getD i c0).2.2.1≤2∧0≤(s.getD i c0).2.2.2∧(s.getD i c0).2.2.2≤2
 | a,n,[],_,i=>by simp
 | a,n,x::s,h,0=>⟨h.2.2.1,h.2.2.2.1,h.2.2.2.2.1,h.2.2.2.2.2.1⟩
 | a,n,x::s,h,i+1=>by simpa using Ay.get h.2.2.2.2.2.2 i
theorem PM.Mb{n:Int}{p:List bB×List Int}(h:PM n p)(c:n≤4096):Dc p.1:=⟨by have:=h.len;omega,fun i=>⟨(h.JO.get i).1,(h.JO.get i).2.1⟩⟩
theorem PM.sm{n:Int}{p:List bB×List Int}(h:PM n p)(c m:Nat):Sm (aM p.1 p.2 c) m:=fun j _=>by
 obtain⟨e,f,k,q⟩:=h.JO.get (c+j);exact⟨e,f,k,q,(h.IL.val _).1,(h.IL.val _).2⟩
abbrev Kn:=List ((List UInt8)×((List bB)×Bool))
def Bc(c:Wy)(e:Kn):Prop:=∀k v,bc .str e k=some v→∀d n,Sm d n→Du d n=k→v=gK d n c
theorem Bc.nil(c:Wy):Bc c []:=fun k v h=>by cases h
theorem wF{α:Type}(k c:List UInt8)(x:α):∀q:List (List UInt8×α),bc .str (dP .str q k x) c=if c=k then some x else bc .str q c
 | []=>by
  show(if cr .str k c=true then some x else none)=_;by_cases h:c=k
  ·subst h;rw[if_pos (by simp[cr]),if_pos rfl]
  ·rw[if_neg (show ¬cr .str k c=true by simpa [cr]using Ne.symm h),if_neg h];rfl
 | p::r=>by
  simp only[dP,bc];by_cases j:p.1=k
  ·rw[if_pos (show cr .str p.1 k=true by simpa [cr]using j)];simp only[bc];by_cases h:c=k
   ·subst h;rw[if_pos rfl,if_pos (by simp[cr])]
   ·have f:¬cr .str k c=true:=by simpa [cr]using Ne.symm h
    have m:¬cr .str p.1 c=true:=by rw[j];exact f
    rw[if_neg h,if_neg f,if_neg m]
  ·rw[if_neg (show ¬cr .str p.1 k=true by simpa [cr]using j)];simp only[bc];by_cases h:p.1=c
   ·have f:cr .str p.1 c=true:=by simpa [cr]using h
    have m:¬c=k:=fun e=>j (h.trans e)
    rw[if_pos f,if_neg m,if_pos f]
   ·have f:¬cr .str p.1 c=true:=by simpa [cr]using h
    rw[if_neg f,if_neg f];exact wF k c x r
theorem nS{α:Type}{q:List UInt8→Bool}(k:List UInt8){v:α}:∀ {u:List (List UInt8×α)},bc .str (u.filter fun p=>q p.1) k=some v→bc .str u k=some v
 | [],h=>h
 | p::r,h=>by
  simp only[bc];by_cases f:cr .str p.1 k=true
  ·rw[if_pos f];have e:p.1=k:=by simpa [cr]using f
   simp only[List.filter_cons]at h;cases j:q p.1 with
   | true =>
    rw[j,if_pos rfl]at h;simp only[bc]at h;rw[if_pos f]at h;exact h
   | false =>
    rw[j,if_neg (by decide)]at h;exfalso
    have c:bc .str (r.filter fun p=>q p.1) k=none:=jv (K:= .str) rfl fun z m x=>by have:=(List.mem_filter.1 m).2;rw[x,←e,j]at this;cases this
    rw[c]at h;cases h
  ·rw[if_neg f];simp only[List.filter_cons]at h;split at h
   ·simp only[bc]at h;rw[if_neg f]at h;exact nS k h
   ·exact nS k h
theorem Bc.set{c:Wy}{u:Kn}(h:Bc c u){d:Dt}{n:Nat}(A:Sm d n):Bc c (dP .str u (Du d n) (gK d n c)):=fun k v j B C f z=>by
 rw[wF]at j;split at j
 ·rename_i e;cases j;obtain⟨rfl,D⟩:=Gt f A (z.trans e);exact(BD D c).symm
 ·exact h k v j B C f z
theorem Bc.Lz{c:Wy}{e:Kn}(h:Bc c e)(f:List (List UInt8×Bool)):Bc c (qX .str e f):=fun k v j=>h k v (nS (q:=fun x=>(bc .str f x).getD false) k j)
theorem qa{cl:List bB}{o:List Int}(c:Wy):∀ {l:List Int} {e:Nat},Gp o cl.length e l→(∀x∈(jy cl o c e l).1,Rg cl.length x)∧(jy cl o c e l).1.length+e≤max e cl.length
 | [],e,_=>⟨fun x f=>(by cases f),by simp only[jy,List.length_nil];omega⟩
 | t::r,e,⟨q,u,v,z,j⟩=>by
  obtain⟨k,A⟩:=qa c j;have m:=wg (aM cl o e) (t.toNat - e) c;refine⟨fun x f=> ?_,by simp only[jy,List.length_append,mO];omega⟩;simp only[jy,List.mem_append]at f;rcases f with f | f
  ·unfold dn at f;obtain⟨y,p,rfl⟩:=List.mem_map.1 f;obtain⟨a,b,B,C,D,E⟩:=xZ _ _ c y p;exact⟨e+a,e+b,by simp only;omega,by simp only;omega,by omega,by omega⟩
  ·exact k x f
theorem Et{cl:List bB}(N:Dc cl){o:List Int}(O:o.length=cl.length+1)(p:∀fr m,Sm (aM cl o fr) m){c:Wy}(w:HB c):∀(l pre:List Int) (fr:Nat) (out:List bB) (b:Bool) (e:Kn) (D:List (List UInt8×Bool)),(pre++l).length≤5000→Gp o cl.length fr l→fr≤cl.length→o.getD fr 0≠3→out.length≤fr→Bc c e →
  ∃q B,iter (dH c.1 c.2.1 c.2.2.1 c.2.2.2.1 c.2.2.2.2.1 c.2.2.2.2.2 (cl,o) (pre++l)) (out,b,e,D,(fr:Int),(pre.length:Int))=some (out++(jy cl o c fr l).1,b || (jy cl o c fr l).2,q,B)∧Bc c q
 | [],pre,fr,out,b,e,D,_,_,_,_,_,E=>by
  have R:¬((pre.length:Int)<(pre.length:Int)):=Int.lt_irrefl _;rw[List.append_nil];exact⟨e,D,bL (by simp only[dH,R,decide_false,Bool.false_eq_true,if_false,jy,List.append_nil,Bool.or_false]),E⟩
 | t::r,pre,fr,out,b,e,D,x,hp,a3,h3,hout,E=>by
  have hl:=N.1;obtain⟨p1,V,p3,p4,p5⟩:=hp;have I:=wg (aM cl o fr) (t.toNat - fr) c;have X:=Fu N O w p1 p3 h3;rw[←V]at X;have f:=Ka (cl:=cl) (o:=o) (fr:=fr) (n:=t.toNat - fr) (by omega) O (by omega) (p _ _);rw[show fr+(t.toNat - fr)=t.toNat by omega,←V]at f;have j:=E.set (p fr (t.toNat - fr));have k:∀v,bc .str e (Du (aM cl o fr) (t.toNat - fr))=some v→v=gK (aM cl o fr) (t.toNat - fr) c:=fun v hv=>E _ v hv _ _ (p _ _) rfl
  have Y:=H4 (aM cl o fr) (n:=t.toNat - fr) (by omega) c;have J:Nr (dn (gK (aM cl o fr) (t.toNat - fr) c).1 (fr:Int)):=I6 (by omega) (xZ _ _ c) (by omega) (by omega);have C:=CU J (b:= -(fr:Int)) (by omega) (by omega);rw[Ia,show(fr:Int) + -(fr:Int)=0 by omega,F2]at C;have L:=CU Y (b:=(fr:Int)) (by omega) (by omega);have hw:i64.wrap (0 - (fr:Int)) = -(fr:Int):=by rw[wrap_i64 (by omega) (by omega)];omega
  generalize Du (aM cl o fr) (t.toNat - fr)=key at f j k;simp only[jy];generalize gK (aM cl o fr) (t.toNat - fr) c=P at X j k L C I;have Z:pre.length+(r.length+1)≤5000:=by simpa using x
  have R:(pre.length:Int)<((pre++t::r).length:Int):=by simp;omega
  have q2:0≤(pre.length:Int):=by omega
  have g:(out.length+(dn P.1 (fr:Int)).length)*32≤140737488355328∧out.length+(dn P.1 (fr:Int)).length≤9223372036854775807:=by rw[mO];omega
  obtain⟨u,hin,a1⟩:∃u,(if(!((bc .str e key).isSome))=true then((ib cl o (fr:Int) t c.1 c.2.1 c.2.2.1 c.2.2.2.1 c.2.2.2.2.1 c.2.2.2.2.2).bind fun(M,z)=>((ic M (i64.wrap (0 - (fr:Int)))).bind fun A=>some (((dP .str e key (A,z)),A,z))))
    else some ((e,((bc .str e key).getD (([]:List bB),false)).1,((bc .str e key).getD (([]:List bB),false)).2)))=some (u,P.1,P.2)∧Bc c u:=by
   cases hf:bc .str e key with
   | none =>
    refine⟨dP .str e key P,?_,j⟩;rw[if_pos (by rfl),X,Option.bind_some];simp only[hw,C,Option.bind_some]
   | some v =>refine⟨e,?_,E⟩;rw[if_neg (by simp)];simp only[Option.getD_some];rw[k v hf]
  obtain⟨q,B,ih,a2⟩:=Et N O p w r (pre++[t]) t.toNat (out++dn P.1 (fr:Int)) (b || P.2) u (dP .str D key true) (by simpa using x) p5 p3 (by rw[p4];decide) (by rw[List.length_append,mO];omega) a1;rw[List.append_assoc,←V]at ih;simp only[List.singleton_append,List.length_append,List.length_singleton]at ih;refine⟨q,B,?_,a2⟩;rw[←List.append_assoc,←Bool.or_assoc,←ih];refine cT ?_;simp only[dH,R,q2,and_self,decide_true,if_true,Int.toNat_natCast,wQ,f,Option.bind_some];rw[hin];simp only[Option.bind_some,L,g,and_self,if_true];rw[show i64.wrap ((pre.length:Int)+1)=((pre.length+1:Nat):Int)from bj (by omega)];cases b <;> simp
def LF(cl:List bB)(o:List Int)(c:Wy):List bB×Bool:=jy cl o c 0 (dQ o o.length)
def ik(cl:List bB)(o:List Int)(c:Wy):(List bB×List Int)×(List bB×List (List Int)):=((cl,o),(pK (LF cl o c).1,eb cl c.2.1 (pK (LF cl o c).1)))
theorem PM.zero{n:Int}{p:List bB×List Int}(h:PM n p):p.2.getD 0 0≠3:=by
 by_cases c:0<p.1.length
 ·rw[h.IL.zero c];decide
 ·have:=h.IL.last;rw[show p.1.length=0 by omega]at this;rw[this];decide
theorem Kd{b:Option Z1}{x:List Int}{p:List bB×List Int}(E:aN b x=some (p,0))(f:PM (x.length:Int) p)(V:x.length≤4096){c:Wy}(w:HB c){q:Kn}(I:Bc c q)(J:List bB)(L:Bool)(u:List Int)(v:List bB)(z:List Int)(A):
  ∃j,bR x J L b c.1 c.2.1 c.2.2.1 c.2.2.2.1 c.2.2.2.2.1 c.2.2.2.2.2 u v z A q=some (0,(LF p.1 p.2 c).1,(LF p.1 p.2 c).2,x,p.1,p.2,some (ik p.1 p.2 c),j)∧Bc c j:=by
 have B:=f.Mb (by omega);have hl:=B.1;have M:=f.IL.len;have k:Gp p.2 p.1.length 0 (dQ p.2 p.2.length):=by rw[pD];exact lG _ _ _ (by omega)
 have N:=qZ p.2 p.2.length;obtain⟨j,m,e,C⟩:=Et B M f.sm w (dQ p.2 p.2.length) [] 0 [] false q [] (by simp;omega) k (by omega) f.zero (by simp) I;simp only[List.nil_append,List.length_nil,Bool.false_or]at e;obtain⟨O,X⟩:=qa c k;have D:=HO B p.2 w.1 w.2 (l:=(LF p.1 p.2 c).1) (by unfold LF;omega) O;refine⟨_,?_,C.Lz m⟩;unfold bR;rw[E,Option.bind_some];simp only[bne_self_eq_false,Bool.false_eq_true,if_false];rw[parts_eq p.1 (by omega),Option.bind_some];have R:iter (dH c.1 c.2.1 c.2.2.1 c.2.2.2.1 c.2.2.2.2.1 c.2.2.2.2.2 p (dQ p.2 p.2.length)) (([]:List bB),false,q,([]:List ((List UInt8)×Bool)),(0:Int),(0:Int))=some ((LF p.1 p.2 c).1,(LF p.1 p.2 c).2,j,m):=e;rw[R,Option.bind_some];simp only[D,Option.bind_some];rfl
end
end Go.Proofs.YtmcemnfjddoejaaGreatDoor.T
