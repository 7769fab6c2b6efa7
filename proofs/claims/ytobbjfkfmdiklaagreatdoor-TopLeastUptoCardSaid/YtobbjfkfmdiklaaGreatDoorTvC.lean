import Derived.Test.YtobbjfkfmdiklaaGreatDoorTvB
namespace Go.Tv
open Go Go.RowKit
inductive TK where
 | int (k:IntKind)
 | bool
 | str
 | flt
 | sl (e:TypeId)
 | st (fs:List (Nat×TypeId))
 | mp (k e:TypeId)
 | ar (n:Nat) (e:TypeId)
 | other
structure TI where
 T:Option Ty
 k:TK
 size:Nat
 bytes:Nat
 z:List af
def kf:Value→af
 | .int k n=> .p false (.int k) n
 | .bool b=> .p false .bool b
 | .string s=> .p false .str s.data.toList
 | .float .f64 b=> .p false .flt (eD b)
 | .slice none 0 0=> .nils
 | .pointer none=> .nilp
 | .nilIface=> .lit .nilIface
 | .map none=> .lit (.map none)
 | .nilFunc=> .lit .nilFunc
 | _=> .unk
def zC:Value→af
 | .agg f=> .agg (f.toList.map kf)
 | v=>kf v
def UK(P:Program)(d:TypeDesc):TK→Prop
 | .int k=>d = .int k
 | .bool=>d = .bool
 | .str=>d = .string
 | .flt=>d = .float .f64
 | .sl e=>d = .slice e
 | .mp k e=>d = .map k e
 | .ar n e=>d = .array n e
 | .st j=>∃fs:Array Field,d = .struct fs∧fs.toList.map (fun f=>(f.offset,f.type))=j∧∀f∈fs.toList,∃i,P.info? f.type=some i∧i.size≠0
 | .other=>(match d with | .struct _ | .array _ _=>false | _=>true)=true
def TK.agg:TK→Bool
 | .st _=>true
 | .ar _ _=>true
 | _=>false
structure aO(P:Program)(t:TypeId)(ti:TI):Prop where
 hi:∃i z,P.info? t=some i∧i.zero=some z∧i.size=ti.size∧i.bytes=ti.bytes∧z.cells.toList.map kf=ti.z∧z.cells.size=ti.size ∧
  ∀c∈z.cells.toList,c.oneCell'=true
 hu:∃d,P.underlying t=some d∧UK P d ti.k
 hz:((P.info? t).bind (·.zero)).map (fun z=>match z with | .agg _=>true | _=>false)=some ti.k.agg
 ha:ti.k.agg=false→ti.size=1
 hT:∀T,ti.T=some T→T.size=ti.size∧T.scalar = !ti.k.agg∧iB T ti.z=some (T.zero,[])
abbrev bQ:=List (TypeId×TI)
def bQ.find:bQ→TypeId→Option TI
 | [],_=>none
 | (k,x)::r,t=>if k=t then some x else bQ.find r t
def cb(P:Program)(tb:bQ):Prop:=∀p∈tb,aO P p.1 p.2
theorem cb.find{P:Program}{tb:bQ}(h:cb P tb){t:TypeId}{ti:TI}(j:tb.find t=some ti):aO P t ti:=by
 induction tb with
 | nil=>simp[bQ.find]at j
 | cons p r u =>
  obtain⟨k,x⟩:=p;simp only[bQ.find]at j;split at j
  ·rename_i e;cases j;subst e;exact h _ (List.mem_cons_self ..)
  ·exact u (fun q z=>h q (List.mem_cons_of_mem _ z)) j
section
variable{F F':Bool→Addr→Value→Prop}{ρ:Nat→QW}
theorem A6(v:Value):V F ρ (kf v) v:=by
 unfold kf;split <;> first | (simp[V,ah,Ty.scalar];done) | (simp only[V,ah];exact⟨rfl,_,rfl,rfl⟩)
theorem gu(l:QY):VL F ρ (l.map kf) (fun k u=>l[k]? = some u):=by
 refine VL.mk fun k x hk=>?_
 rw[List.getElem?_map]at hk;cases h:l[k]? with
 | none=>rw[h]at hk;cases hk
 | some u=>rw[h]at hk;cases hk;exact⟨u,rfl,A6 u⟩
theorem Cs(v:Value):V F ρ (zC v) v:=by
 unfold zC;split
 ·rename_i f;simp only[V];refine⟨f,rfl,by simp,?_⟩;have:=gu (F:=F) (ρ:=ρ) f.toList;simpa using this
 ·exact A6 v
theorem sb{G f:Addr→Value→Prop}:∀ {T:Ty} {x:T.den} {g:Nat→Value→Prop},T.scalar=true→T.isRef=false→ah G T x g→ah f T x g
 | .int _,_,_,_,_,h=>h
 | .bool,_,_,_,_,h=>h
 | .str,_,_,_,_,h=>h
 | .flt,_,_,_,_,h=>h
 | .unit,_,_,h,_,_=>by cases h
 | .prod _ _,_,_,h,_,_=>by cases h
 | .slice _,_,_,_,h,_=>by cases h
 | .ptr _,_,_,_,h,_=>by cases h
 | .tree _ _,_,_,h,_,_=>by cases h
theorem E7{G:Addr→Value→Prop}:∀ {T:Ty} {x:T.den} {v:Value} {g:Nat→Value→Prop},T.scalar=true→ah G T x (fun _ u=>u=v)→g 0 v→ah G T x g
 | .int _,_,_,g,_,h,f=>by simp only[ah]at h ⊢;rw[h];exact f
 | .bool,_,_,_,_,h,f=>by simp only[ah]at h ⊢;rw[h];exact f
 | .str,_,_,_,_,h,f=>by simp only[ah]at h ⊢;rw[h];exact f
 | .flt,_,_,_,_,⟨m,e,h⟩,f=>⟨m,by rw[e];exact f,h⟩
 | .unit,_,_,_,h,_,_=>by cases h
 | .prod _ _,_,_,_,h,_,_=>by cases h
 | .slice _,_,_,_,_,⟨j,l,c,e,hl,h⟩,f=>⟨j,l,c,by rw[e];exact f,hl,h⟩
 | .ptr _,none,_,_,_,h,f=>by simp only[ah]at h ⊢;rw[h];exact f
 | .ptr _,some _,_,_,_,⟨b,e,h⟩,f=>⟨b,by rw[e];exact f,h⟩
 | .tree _ _,_,_,_,h,_,_=>by cases h
 | .arr _ _,_,_,_,h,_,_=>by cases h
 | .mapi _ _,_,_,_,_,⟨none,e,h⟩,f=>⟨none,by rw[e];exact f,h⟩
 | .mapi _ _,_,_,_,_,⟨some b,e,h⟩,f=>⟨some b,by rw[e];exact f,h⟩
theorem Dc{T:Ty}{c:af}{x:T.den}{v:Value}(hT:T.scalar=true)(h:Lc T c=some x)(f:V F ρ c v):ah (F false) T x (fun _ u=>u=v):=by
 unfold Lc at h;split at h
 ·rename_i β S y;split at h
  ·rename_i e;subst e;split at h
   ·cases h
   ·rename_i hb;cases h;simp only[V]at f;cases β with
    | false=>exact f.2
    | true=>exact sb hT (by simpa using hb) f.2
  ·cases h
 ·simp only[V]at f;subst f;split at h
  ·cases h;exact⟨none,0,0,rfl,⟨rfl,Nat.le_refl _⟩,fun i hi=>absurd hi (by simp)⟩
  ·cases h
 ·simp only[V]at f;subst f;split at h
  ·cases h;rfl
  ·cases h
 ·simp only[V]at f;subst f;split at h
  ·cases h;exact⟨none,rfl,rfl⟩
  ·cases h
 ·cases h
theorem fU{T:Ty}(hT:T.scalar=true){f:List af}{x:T.den}{r:List af}(h:one T f=some (x,r)){g:Nat→Value→Prop}(j:VL F ρ f g):
  ah (F false) T x g∧r=f.drop T.size∧T.size≤f.length:=by
 unfold one at h;split at h
 ·rename_i c f;split at h
  ·rename_i y p;cases h;simp only[VL]at j;obtain⟨⟨u,h1,h2⟩,_⟩:=j;exact⟨E7 hT (Dc hT p h2) h1,by rw[Ty.fF hT];rfl,by rw[Ty.fF hT];simp⟩
  ·cases h
 ·cases h
theorem VL.drop:∀ {n:Nat} {cs:List af} {g:Nat→Value→Prop},VL F ρ cs g→VL F ρ (cs.drop n) (fun k u=>g (n+k) u)
 | 0,cs,g,h=>by simpa using h
 | n+1,[],g,h=>by simp[VL]
 | n+1,c::cs,g,h=>by
  simp only[VL]at h;have:=VL.drop (n:=n) h.2;simpa [Nat.add_assoc,Nat.add_comm,Nat.add_left_comm]using this
theorem cN:∀ {T:Ty} {j:List af} {x:T.den} {r:List af},iB T j=some (x,r)→∀ {g:Nat→Value→Prop},VL F ρ j g →
  ah (F false) T x g∧r=j.drop T.size∧T.size≤j.length
 | .unit,j,x,r,h,g,f=>by
  simp only[iB,Option.some.injEq,Prod.mk.injEq]at h;exact⟨trivial,by simp[Ty.size,h.2],by simp[Ty.size]⟩
 | .prod a b,j,x,r,h,g,f=>by
  simp only[iB]at h;split at h
  ·rename_i y D h1;split at h
   ·rename_i z C h2;cases h;obtain⟨A,B,q3⟩:=cN h1 f;subst B;obtain⟨E,I,J⟩:=cN h2 (VL.drop (n:=a.size) f);refine⟨⟨A,E⟩,by rw[I,List.drop_drop];rfl,?_⟩;simp only[List.length_drop]at J;simp only[Ty.size];omega
   ·cases h
  ·cases h
 | .int k,j,x,r,h,g,f=>fU (T:= .int k) rfl h f
 | .bool,j,x,r,h,g,f=>fU (T:= .bool) rfl h f
 | .str,j,x,r,h,g,f=>fU (T:= .str) rfl h f
 | .flt,j,x,r,h,g,f=>fU (T:= .flt) rfl h f
 | .slice a,j,x,r,h,g,f=>fU (T:= .slice a) rfl h f
 | .ptr a,j,x,r,h,g,f=>fU (T:= .ptr a) rfl h f
 | .tree p q,j,x,r,h,g,f=>by
  simp only[iB]at h;split at h
  ·rename_i o L h1;split at h
   ·rename_i s M h2;split at h
    ·rename_i ks N O;cases h;obtain⟨V,X,Y⟩:=fU (T:= .int p) rfl h1 f;subst X;obtain⟨Z,b2,b3⟩:=fU (T:= .int q) rfl h2 (VL.drop (n:=1) f);subst b2;obtain⟨c1,c2,c3⟩:=fU (T:= .slice (.tree p q)) rfl O (VL.drop (n:=1) (VL.drop (n:=1) f));obtain⟨ad,len,cap,d1,d2,d3⟩:=c1;refine⟨?_,by rw[c2,List.drop_drop,List.drop_drop];rfl,?_⟩
     ·simp only[ah,gy];exact⟨V,Z,ad,len,cap,d1,d2,eY.mk fun i hi=>let ⟨b,e,hv⟩:=d3 i hi;gy.mono (fun _ _ h=>h) (fun k v _ hk=>⟨b,e,hk⟩) hv⟩
     ·simp only[List.length_drop,Ty.size]at c3 b3 Y ⊢;omega
    ·cases h
   ·cases h
  ·cases h
 | .arr k n,j,x,r,h,g,f=>by
  simp only[iB]at h;split at h
  ·rename_i l h1;split at h
   ·rename_i hl;cases h;obtain⟨A,B⟩:=tI h1;have ht:VL F ρ (j.take n) g:=VL.mk fun k x hk=>by
     rw[List.getElem?_take]at hk;split at hk
     ·exact VL.get f hk
     ·cases hk
    refine⟨fun i hi=>B ht i hi,rfl,?_⟩;rw[hl,List.length_take]at A;simp only[Ty.size];omega
   ·cases h
  ·cases h
 | .mapi p q,j,x,r,h,g,f=>fU (T:= .mapi p q) rfl h f
end
abbrev gZ:=List (Nat×Qz)
def apply:gZ→(Nat→Qz)→(Nat→Qz)
 | [],h=>h
 | (i,o)::r,h=>apply r (bG h i o)
theorem eU(a b:gZ)(h:Nat→Qz):apply (a++b) h=apply b (apply a h):=by
 induction a generalizing h with
 | nil=>rfl
 | cons p r f=>obtain⟨i,o⟩:=p;simp[apply,f]
def gf(h:Nat→Qz):af→Option (af×gZ)
 | .sl id=>match h id with
  | some (.arr _ A xs)=>some (.p false (.slice A) xs,[(id,some (.fz A xs))])
  | some (.fz A xs)=>some (.p false (.slice A) xs,[])
  | some (.mat _ _ A f none)=>some (.p false (.slice (.slice A)) f,[(id,some (.fz (.slice A) f))])
  | some (.bytes _ xs)=>some (.p false (.slice (.int .u8)) xs,[(id,some (.fz (.int .u8) xs))])
  | some (.nds _ _ j none)=>some (.p false (.slice FD) (j.map (·.2)),[(id,some (.fz FD (j.map (·.2))))])
  | _=>none
 | x=>some (x,[])
def qi(h:Nat→Qz):List af→Option (List af×gZ)
 | []=>some ([],[])
 | c::f=>match gf h c with
  | some (x,u)=>match qi (apply u h) f with
   | some (xs,j)=>some (x::xs,u++j)
   | none=>none
  | none=>none
def cellsOf:af→List af
 | .agg f=>f
 | .lag k _ xs f=>xs.1.map (fun i=>af.p false (.int k) i)++f
 | x=>[x]
def Fj(T:Ty)(h:Nat→Qz)(x:af):Option (T.den×gZ) :=
 match qi h (cellsOf x)with
 | some (f,u)=>match iB T f with
  | some (y,[])=>some (y,u)
  | _=>none
 | none=>none
def F1(T:Ty)(h:Nat→Qz)(x:af):Option (T.den×gZ) :=
 match T,x with
 | .ptr A,.adr id i sz off=>if i*sz+off=0 then match h id with
  | some (.box f)=>match iB A f with
   | some (y,[])=>some ((some y:Option A.den),[(id,none)])
   | _=>none
  | some (.lmp k n xs f)=>match A with
   | .prod (.arr p j) B=>if e:n=j then(if k=p then(match iB B f with
    | some (y,[])=>some ((some (e ▸ xs,y):Option (ff j×B.den)),[(id,none)])
    | _=>none)else none)else none
   | _=>none
  | _=>none
  else none
 | .arr k n,.lag p j xs f=>match f with
  | []=>if e:j=n then(if p=k then some (e ▸ xs,[])else none)else none
  | _=>none
 | T,x=>Fj T h x
section
variable{P:Program}{Bw:Nat→Prop}{w0:cr P}{ρ:Nat→QW}{φ:Nat→Nat→Prop}{h:Nat→Qz}{w:World}
theorem gF(m:Mem Bw w0 ρ φ h w){x y:af}{u:gZ}(hd:gf h x=some (y,u)):
  Mem Bw w0 ρ φ (apply u h) w∧(∀β a v,Fr (own φ h) Bw w β a v→Fr (own φ (apply u h)) Bw w β a v) ∧
  ∀v,V (Fr (own φ h) Bw w) ρ x v→V (Fr (own φ (apply u h)) Bw w) ρ y v:=by
 unfold gf at hd;split at hd
 ·rename_i id;split at hd
  ·rename_i B A xs hi;cases hd;obtain⟨p,z⟩:=m.freeze hi;refine⟨p,z,fun v f=>?_⟩;obtain⟨u,j,q⟩:=p.ob id _ (aB _ _ _);simp only[V]at f;rw[f.1]at j;cases j;exact q
  ·rename_i A xs hi;cases hd;refine⟨m,fun _ _ _ h=>h,fun v f=>?_⟩;obtain⟨u,j,q⟩:=m.ob id _ hi;simp only[V]at f;rw[f.1]at j;cases j;exact q
  ·rename_i B C A D hi;cases hd;obtain⟨p,z⟩:=m.FM hi;refine⟨p,z,fun v f=>?_⟩;obtain⟨u,j,q⟩:=p.ob id _ (aB _ _ _);simp only[V]at f;rw[f.1]at j;cases j;exact q
  ·rename_i B xs hi;cases hd;obtain⟨p,z⟩:=m.Je hi;refine⟨p,z,fun v f=>?_⟩;obtain⟨u,j,q⟩:=p.ob id _ (aB _ _ _);simp only[V]at f;rw[f.1]at j;cases j;exact q
  ·rename_i B C E hi;cases hd;obtain⟨p,z⟩:=m.Fz hi;refine⟨p,z,fun v f=>?_⟩;obtain⟨u,j,q⟩:=p.ob id _ (aB _ _ _);simp only[V]at f;rw[f.1]at j;cases j;exact q
  ·cases hd
 ·cases hd;exact⟨m,fun _ _ _ h=>h,fun _ h=>h⟩
theorem oU:∀ {j f:List af} {u:gZ} {h:Nat→Qz},Mem Bw w0 ρ φ h w→qi h j=some (f,u) →
  Mem Bw w0 ρ φ (apply u h) w∧(∀β a v,Fr (own φ h) Bw w β a v→Fr (own φ (apply u h)) Bw w β a v)∧f.length=j.length ∧
  ∀g:Nat→Value→Prop,VL (Fr (own φ h) Bw w) ρ j g→VL (Fr (own φ (apply u h)) Bw w) ρ f g
 | [],f,u,h,m,hd=>by
  cases hd;exact⟨m,fun _ _ _ h=>h,rfl,fun _ h=>h⟩
 | c::j,f,u,h,m,hd=>by
  simp only[qi]at hd;split at hd
  ·rename_i x M h1;split at hd
   ·rename_i N O h2;cases hd;obtain⟨A,p,B⟩:=gF m h1;obtain⟨C,q,D,g2⟩:=oU A h2;rw[eU];refine⟨C,fun β a v E=>q _ _ _ (p _ _ _ E),by simp[D],fun g z=>?_⟩;simp only[VL]at z ⊢;obtain⟨⟨v,I,J⟩,L⟩:=z;exact⟨⟨v,I,V.mono q (fun _ _ h=>h) (B v J)⟩,g2 _ (VL.mono p (fun _ _ h=>h) (fun _ _ h=>h) L)⟩
   ·cases hd
  ·cases hd
theorem lB{G:Addr→Value→Prop}:∀ {T:Ty} {y:T.den} {l:QY},ah G T y (fun k u=>l[k]? = some u)→∀k,k<T.size→∃u,l[k]? = some u∧u.oneCell'=true
 | .int _,_,l,h,k,hk=>by simp only[Ty.size]at hk;obtain rfl:k=0:=(by omega);exact⟨_,h,rfl⟩
 | .bool,_,l,h,k,hk=>by simp only[Ty.size]at hk;obtain rfl:k=0:=(by omega);exact⟨_,h,rfl⟩
 | .str,_,l,h,k,hk=>by simp only[Ty.size]at hk;obtain rfl:k=0:=(by omega);exact⟨_,h,rfl⟩
 | .flt,_,l,⟨_,h,_⟩,k,hk=>by simp only[Ty.size]at hk;obtain rfl:k=0:=(by omega);exact⟨_,h,rfl⟩
 | .arr _ _,x,l,h,k,hk=>⟨_,h k (by rw[x.2];exact hk),rfl⟩
 | .mapi _ _,_,l,⟨_,e,_⟩,k,hk=>by simp only[Ty.size]at hk;obtain rfl:k=0:=(by omega);exact⟨_,e,rfl⟩
 | .unit,_,l,h,k,hk=>by simp[Ty.size]at hk
 | .prod a b,y,l,h,k,hk=>by
  simp only[Ty.size]at hk;rcases Nat.lt_or_ge k a.size with h' | h'
  ·exact lB h.1 k h'
  ·have h2:=h.2;have:ah G b y.2 (fun k u=>(l.drop a.size)[k]? = some u):=ah.mono (fun _ _ h=>h) (fun k u hk=>by rw[List.getElem?_drop];exact hk) h2;obtain⟨u,f,j⟩:=lB this (k - a.size) (by omega);rw[List.getElem?_drop,Nat.add_sub_cancel' h']at f;exact⟨u,f,j⟩
 | .slice _,_,l,⟨_,_,_,e,_⟩,k,hk=>by simp only[Ty.size]at hk;obtain rfl:k=0:=(by omega);exact⟨_,e,rfl⟩
 | .ptr _,none,l,h,k,hk=>by simp only[Ty.size]at hk;obtain rfl:k=0:=(by omega);exact⟨_,h,rfl⟩
 | .ptr _,some _,l,⟨_,e,_⟩,k,hk=>by simp only[Ty.size]at hk;obtain rfl:k=0:=(by omega);exact⟨_,e,rfl⟩
 | .tree q v,.node o s z,l,h,k,hk=>by
  simp only[ah,gy]at h;obtain⟨h1,h2,A,len,cap,p,_⟩:=h;simp only[Ty.size]at hk;have:k=0∨k=1∨k=2:=by omega
  rcases this with rfl | rfl | rfl
  ·exact⟨_,h1,rfl⟩
  ·exact⟨_,h2,rfl⟩
  ·exact⟨_,p,rfl⟩
end
end Go.Tv
