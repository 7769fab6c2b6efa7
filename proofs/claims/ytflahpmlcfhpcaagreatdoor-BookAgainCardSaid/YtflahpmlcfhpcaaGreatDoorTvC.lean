import Derived.Test.YtflahpmlcfhpcaaGreatDoorTvB
namespace Go.Tv
open Go Go.RowKit
inductive TK where
 | int (k:IntKind)
 | bool
 | str
 | flt
 | sl (e:TypeId)
 | st (fs:List (Nat×TypeId))
 | mp (k e:TypeId)
 | ar (n:Nat) (e:TypeId)
 | other
structure TI where
 T:Option Ty
 k:TK
 size:Nat
 bytes:Nat
 z:List ag
def j7:Value→ag
 | .int k n=> .p false (.int k) n
 | .bool b=> .p false .bool b
 | .string s=> .p false .str s.data.toList
 | .float .f64 b=> .p false .flt (eG b)
 | .slice none 0 0=> .nils
 | .pointer none=> .nilp
 | .nilIface=> .lit .nilIface
 | .map none=> .lit (.map none)
 | .nilFunc=> .lit .nilFunc
 | _=> .unk
def yw:Value→ag
 | .agg e=> .agg (e.toList.map j7)
 | v=>j7 v
def UK(P:Program)(d:TypeDesc):TK→Prop
 | .int k=>d = .int k
 | .bool=>d = .bool
 | .str=>d = .string
 | .flt=>d = .float .f64
 | .sl e=>d = .slice e
 | .mp k e=>d = .map k e
 | .ar n e=>d = .array n e
 | .st j=>∃fs:Array Field,d = .struct fs∧fs.toList.map (fun f=>(f.offset,f.type))=j∧∀f∈fs.toList,∃i,P.info? f.type=some i∧i.size≠0
 | .other=>(match d with | .struct _ | .array _ _=>false | _=>true)=true
def TK.agg:TK→Bool
 | .st _=>true
 | .ar _ _=>true
 | _=>false
structure aN(P:Program)(t:TypeId)(ti:TI):Prop where
 hi:∃i z,P.info? t=some i∧i.zero=some z∧i.size=ti.size∧i.bytes=ti.bytes∧z.cells.toList.map j7=ti.z∧z.cells.size=ti.size ∧
  ∀c∈z.cells.toList,c.oneCell'=true
 hu:∃d,P.underlying t=some d∧UK P d ti.k
 hz:((P.info? t).bind (·.zero)).map (fun z=>match z with | .agg _=>true | _=>false)=some ti.k.agg
 ha:ti.k.agg=false→ti.size=1
 hT:∀T,ti.T=some T→T.size=ti.size∧T.scalar = !ti.k.agg∧iz T ti.z=some (T.zero,[])
abbrev bU:=List (TypeId×TI)
def bU.find:bU→TypeId→Option TI
 | [],_=>none
 | (k,x)::r,t=>if k=t then some x else bU.find r t
def cg(P:Program)(tb:bU):Prop:=∀p∈tb,aN P p.1 p.2
theorem cg.find{P:Program}{tb:bU}(h:cg P tb){t:TypeId}{ti:TI}(j:tb.find t=some ti):aN P t ti:=by
 induction tb with
 | nil=>simp[bU.find]at j
 | cons p r u =>
  obtain⟨k,x⟩:=p;simp only[bU.find]at j;split at j
  ·rename_i e;cases j;subst e;exact h _ (List.mem_cons_self ..)
  ·exact u (fun q z=>h q (List.mem_cons_of_mem _ z)) j
section
variable{F F':Bool→Addr→Value→Prop}{ρ:Nat→QW}
theorem BC(v:Value):V F ρ (j7 v) v:=by
 unfold j7;split <;> first | (simp[V,ah,Ty.scalar];done) | (simp only[V,ah];exact⟨rfl,_,rfl,rfl⟩)
theorem gE(l:QY):VL F ρ (l.map j7) (fun k u=>l[k]? = some u):=by
 refine VL.mk fun k x hk=>?_
 rw[List.getElem?_map]at hk;cases h:l[k]? with
 | none=>rw[h]at hk;cases hk
 | some u=>rw[h]at hk;cases hk;exact⟨u,rfl,BC u⟩
theorem Bs(v:Value):V F ρ (yw v) v:=by
 unfold yw;split
 ·rename_i e;simp only[V];refine⟨e,rfl,by simp,?_⟩;have:=gE (F:=F) (ρ:=ρ) e.toList;simpa using this
 ·exact BC v
theorem qK{G e:Addr→Value→Prop}:∀ {T:Ty} {x:T.den} {g:Nat→Value→Prop},T.scalar=true→T.isRef=false→ah G T x g→ah e T x g
 | .int _,_,_,_,_,h=>h
 | .bool,_,_,_,_,h=>h
 | .str,_,_,_,_,h=>h
 | .flt,_,_,_,_,h=>h
 | .unit,_,_,h,_,_=>by cases h
 | .prod _ _,_,_,h,_,_=>by cases h
 | .slice _,_,_,_,h,_=>by cases h
 | .ptr _,_,_,_,h,_=>by cases h
 | .tree _ _,_,_,h,_,_=>by cases h
theorem E6{G:Addr→Value→Prop}:∀ {T:Ty} {x:T.den} {v:Value} {g:Nat→Value→Prop},T.scalar=true→ah G T x (fun _ u=>u=v)→g 0 v→ah G T x g
 | .int _,_,_,g,_,h,f=>by simp only[ah]at h ⊢;rw[h];exact f
 | .bool,_,_,_,_,h,f=>by simp only[ah]at h ⊢;rw[h];exact f
 | .str,_,_,_,_,h,f=>by simp only[ah]at h ⊢;rw[h];exact f
 | .flt,_,_,_,_,⟨m,e,h⟩,f=>⟨m,by rw[e];exact f,h⟩
 | .unit,_,_,_,h,_,_=>by cases h
 | .prod _ _,_,_,_,h,_,_=>by cases h
 | .slice _,_,_,_,_,⟨j,l,c,e,hl,h⟩,f=>⟨j,l,c,by rw[e];exact f,hl,h⟩
 | .ptr _,none,_,_,_,h,f=>by simp only[ah]at h ⊢;rw[h];exact f
 | .ptr _,some _,_,_,_,⟨b,e,h⟩,f=>⟨b,by rw[e];exact f,h⟩
 | .tree _ _,_,_,_,h,_,_=>by cases h
 | .arr _ _,_,_,_,h,_,_=>by cases h
 | .mapi _ _,_,_,_,_,⟨none,e,h⟩,f=>⟨none,by rw[e];exact f,h⟩
 | .mapi _ _,_,_,_,_,⟨some b,e,h⟩,f=>⟨some b,by rw[e];exact f,h⟩
theorem CV{T:Ty}{c:ag}{x:T.den}{v:Value}(hT:T.scalar=true)(h:Kc T c=some x)(f:V F ρ c v):ah (F false) T x (fun _ u=>u=v):=by
 unfold Kc at h;split at h
 ·rename_i β S y;split at h
  ·rename_i e;subst e;split at h
   ·cases h
   ·rename_i hb;cases h;simp only[V]at f;cases β with
    | false=>exact f.2
    | true=>exact qK hT (by simpa using hb) f.2
  ·cases h
 ·simp only[V]at f;subst f;split at h
  ·cases h;exact⟨none,0,0,rfl,⟨rfl,Nat.le_refl _⟩,fun i hi=>absurd hi (by simp)⟩
  ·cases h
 ·simp only[V]at f;subst f;split at h
  ·cases h;rfl
  ·cases h
 ·simp only[V]at f;subst f;split at h
  ·cases h;exact⟨none,rfl,rfl⟩
  ·cases h
 ·cases h
theorem fV{T:Ty}(hT:T.scalar=true){e:List ag}{x:T.den}{r:List ag}(h:one T e=some (x,r)){g:Nat→Value→Prop}(f:VL F ρ e g):
  ah (F false) T x g∧r=e.drop T.size∧T.size≤e.length:=by
 unfold one at h;split at h
 ·rename_i c e;split at h
  ·rename_i y j;cases h;simp only[VL]at f;obtain⟨⟨u,p,q⟩,_⟩:=f;exact⟨E6 hT (CV hT j q) p,by rw[Ty.fD hT];rfl,by rw[Ty.fD hT];simp⟩
  ·cases h
 ·cases h
theorem VL.drop:∀ {n:Nat} {cs:List ag} {g:Nat→Value→Prop},VL F ρ cs g→VL F ρ (cs.drop n) (fun k u=>g (n+k) u)
 | 0,cs,g,h=>by simpa using h
 | n+1,[],g,h=>by simp[VL]
 | n+1,c::cs,g,h=>by
  simp only[VL]at h;have:=VL.drop (n:=n) h.2;simpa [Nat.add_assoc,Nat.add_comm,Nat.add_left_comm]using this
theorem cQ:∀ {T:Ty} {j:List ag} {x:T.den} {r:List ag},iz T j=some (x,r)→∀ {g:Nat→Value→Prop},VL F ρ j g →
  ah (F false) T x g∧r=j.drop T.size∧T.size≤j.length
 | .unit,j,x,r,h,g,f=>by
  simp only[iz,Option.some.injEq,Prod.mk.injEq]at h;exact⟨trivial,by simp[Ty.size,h.2],by simp[Ty.size]⟩
 | .prod a b,j,x,r,h,g,f=>by
  simp only[iz]at h;split at h
  ·rename_i y I p;split at h
   ·rename_i z E B;cases h;obtain⟨C,D,q3⟩:=cQ p f;subst D;obtain⟨J,L,M⟩:=cQ B (VL.drop (n:=a.size) f);refine⟨⟨C,J⟩,by rw[L,List.drop_drop];rfl,?_⟩;simp only[List.length_drop]at M;simp only[Ty.size];omega
   ·cases h
  ·cases h
 | .int k,j,x,r,h,g,f=>fV (T:= .int k) rfl h f
 | .bool,j,x,r,h,g,f=>fV (T:= .bool) rfl h f
 | .str,j,x,r,h,g,f=>fV (T:= .str) rfl h f
 | .flt,j,x,r,h,g,f=>fV (T:= .flt) rfl h f
 | .slice a,j,x,r,h,g,f=>fV (T:= .slice a) rfl h f
 | .ptr a,j,x,r,h,g,f=>fV (T:= .ptr a) rfl h f
 | .tree q A,j,x,r,h,g,f=>by
  simp only[iz]at h;split at h
  ·rename_i o N p;split at h
   ·rename_i s O B;split at h
    ·rename_i ks V X;cases h;obtain⟨Y,Z,a3⟩:=fV (T:= .int q) rfl p f;subst Z;obtain⟨b1,b2,b3⟩:=fV (T:= .int A) rfl B (VL.drop (n:=1) f);subst b2;obtain⟨c1,c2,c3⟩:=fV (T:= .slice (.tree q A)) rfl X (VL.drop (n:=1) (VL.drop (n:=1) f));obtain⟨ad,len,cap,d1,d2,d3⟩:=c1;refine⟨?_,by rw[c2,List.drop_drop,List.drop_drop];rfl,?_⟩
     ·simp only[ah,gw];exact⟨Y,b1,ad,len,cap,d1,d2,fg.mk fun i hi=>let ⟨b,e,hv⟩:=d3 i hi;gw.mono (fun _ _ h=>h) (fun k v _ hk=>⟨b,e,hk⟩) hv⟩
     ·simp only[List.length_drop,Ty.size]at c3 b3 a3 ⊢;omega
    ·cases h
   ·cases h
  ·cases h
 | .arr k n,j,x,r,h,g,f=>by
  simp only[iz]at h;split at h
  ·rename_i l p;split at h
   ·rename_i hl;cases h;obtain⟨C,D⟩:=tE p;have ht:VL F ρ (j.take n) g:=VL.mk fun k x hk=>by
     rw[List.getElem?_take]at hk;split at hk
     ·exact VL.get f hk
     ·cases hk
    refine⟨fun i hi=>D ht i hi,rfl,?_⟩;rw[hl,List.length_take]at C;simp only[Ty.size];omega
   ·cases h
  ·cases h
 | .mapi q A,j,x,r,h,g,f=>fV (T:= .mapi q A) rfl h f
end
abbrev gZ:=List (Nat×Qz)
def apply:gZ→(Nat→Qz)→(Nat→Qz)
 | [],h=>h
 | (i,o)::r,h=>apply r (bF h i o)
theorem eU(a b:gZ)(h:Nat→Qz):apply (a++b) h=apply b (apply a h):=by
 induction a generalizing h with
 | nil=>rfl
 | cons p r e=>obtain⟨i,o⟩:=p;simp[apply,e]
def gf(h:Nat→Qz):ag→Option (ag×gZ)
 | .sl id=>match h id with
  | some (.arr _ A xs)=>some (.p false (.slice A) xs,[(id,some (.fz A xs))])
  | some (.fz A xs)=>some (.p false (.slice A) xs,[])
  | some (.mat _ _ A e none)=>some (.p false (.slice (.slice A)) e,[(id,some (.fz (.slice A) e))])
  | some (.bytes _ xs)=>some (.p false (.slice (.int .u8)) xs,[(id,some (.fz (.int .u8) xs))])
  | some (.nds _ _ f none)=>some (.p false (.slice EE) (f.map (·.2)),[(id,some (.fz EE (f.map (·.2))))])
  | _=>none
 | x=>some (x,[])
def pM(h:Nat→Qz):List ag→Option (List ag×gZ)
 | []=>some ([],[])
 | c::e=>match gf h c with
  | some (x,u)=>match pM (apply u h) e with
   | some (xs,f)=>some (x::xs,u++f)
   | none=>none
  | none=>none
def cellsOf:ag→List ag
 | .agg f=>f
 | .lag k _ xs f=>xs.1.map (fun i=>ag.p false (.int k) i)++f
 | x=>[x]
def Ea(T:Ty)(h:Nat→Qz)(x:ag):Option (T.den×gZ) :=
 match pM h (cellsOf x)with
 | some (e,u)=>match iz T e with
  | some (y,[])=>some (y,u)
  | _=>none
 | none=>none
def Fa(T:Ty)(h:Nat→Qz)(x:ag):Option (T.den×gZ) :=
 match T,x with
 | .ptr A,.adr id i sz off=>if i*sz+off=0 then match h id with
  | some (.box f)=>match iz A f with
   | some (y,[])=>some ((some y:Option A.den),[(id,none)])
   | _=>none
  | some (.lmp k n xs f)=>match A with
   | .prod (.arr p j) B=>if e:n=j then(if k=p then(match iz B f with
    | some (y,[])=>some ((some (e ▸ xs,y):Option (fh j×B.den)),[(id,none)])
    | _=>none)else none)else none
   | _=>none
  | _=>none
  else none
 | .arr k n,.lag p j xs f=>match f with
  | []=>if e:j=n then(if p=k then some (e ▸ xs,[])else none)else none
  | _=>none
 | T,x=>Ea T h x
section
variable{P:Program}{Bw:Nat→Prop}{w0:cw P}{ρ:Nat→QW}{φ:Nat→Nat→Prop}{h:Nat→Qz}{w:World}
theorem gI(m:Mem Bw w0 ρ φ h w){x y:ag}{u:gZ}(hd:gf h x=some (y,u)):
  Mem Bw w0 ρ φ (apply u h) w∧(∀β a v,Fr (own φ h) Bw w β a v→Fr (own φ (apply u h)) Bw w β a v) ∧
  ∀v,V (Fr (own φ h) Bw w) ρ x v→V (Fr (own φ (apply u h)) Bw w) ρ y v:=by
 unfold gf at hd;split at hd
 ·rename_i id;split at hd
  ·rename_i z A xs hi;cases hd;obtain⟨j,q⟩:=m.freeze hi;refine⟨j,q,fun v e=>?_⟩;obtain⟨u,f,p⟩:=j.ob id _ (aB _ _ _);simp only[V]at e;rw[e.1]at f;cases f;exact p
  ·rename_i A xs hi;cases hd;refine⟨m,fun _ _ _ h=>h,fun v e=>?_⟩;obtain⟨u,f,p⟩:=m.ob id _ hi;simp only[V]at e;rw[e.1]at f;cases f;exact p
  ·rename_i z B A C hi;cases hd;obtain⟨j,q⟩:=m.Eg hi;refine⟨j,q,fun v e=>?_⟩;obtain⟨u,f,p⟩:=j.ob id _ (aB _ _ _);simp only[V]at e;rw[e.1]at f;cases f;exact p
  ·rename_i z xs hi;cases hd;obtain⟨j,q⟩:=m.HM hi;refine⟨j,q,fun v e=>?_⟩;obtain⟨u,f,p⟩:=j.ob id _ (aB _ _ _);simp only[V]at e;rw[e.1]at f;cases f;exact p
  ·rename_i z B D hi;cases hd;obtain⟨j,q⟩:=m.ER hi;refine⟨j,q,fun v e=>?_⟩;obtain⟨u,f,p⟩:=j.ob id _ (aB _ _ _);simp only[V]at e;rw[e.1]at f;cases f;exact p
  ·cases hd
 ·cases hd;exact⟨m,fun _ _ _ h=>h,fun _ h=>h⟩
theorem pa:∀ {f e:List ag} {u:gZ} {h:Nat→Qz},Mem Bw w0 ρ φ h w→pM h f=some (e,u) →
  Mem Bw w0 ρ φ (apply u h) w∧(∀β a v,Fr (own φ h) Bw w β a v→Fr (own φ (apply u h)) Bw w β a v)∧e.length=f.length ∧
  ∀g:Nat→Value→Prop,VL (Fr (own φ h) Bw w) ρ f g→VL (Fr (own φ (apply u h)) Bw w) ρ e g
 | [],e,u,h,m,hd=>by
  cases hd;exact⟨m,fun _ _ _ h=>h,rfl,fun _ h=>h⟩
 | c::f,e,u,h,m,hd=>by
  simp only[pM]at hd;split at hd
  ·rename_i x N z;split at hd
   ·rename_i O X A;cases hd;obtain⟨B,j,C⟩:=gI m z;obtain⟨D,p,E,g2⟩:=pa B A;rw[eU];refine⟨D,fun β a v I=>p _ _ _ (j _ _ _ I),by simp[E],fun g q=>?_⟩;simp only[VL]at q ⊢;obtain⟨⟨v,J,L⟩,M⟩:=q;exact⟨⟨v,J,V.mono p (fun _ _ h=>h) (C v L)⟩,g2 _ (VL.mono j (fun _ _ h=>h) (fun _ _ h=>h) M)⟩
   ·cases hd
  ·cases hd
theorem lF{G:Addr→Value→Prop}:∀ {T:Ty} {y:T.den} {l:QY},ah G T y (fun k u=>l[k]? = some u)→∀k,k<T.size→∃u,l[k]? = some u∧u.oneCell'=true
 | .int _,_,l,h,k,hk=>by simp only[Ty.size]at hk;obtain rfl:k=0:=(by omega);exact⟨_,h,rfl⟩
 | .bool,_,l,h,k,hk=>by simp only[Ty.size]at hk;obtain rfl:k=0:=(by omega);exact⟨_,h,rfl⟩
 | .str,_,l,h,k,hk=>by simp only[Ty.size]at hk;obtain rfl:k=0:=(by omega);exact⟨_,h,rfl⟩
 | .flt,_,l,⟨_,h,_⟩,k,hk=>by simp only[Ty.size]at hk;obtain rfl:k=0:=(by omega);exact⟨_,h,rfl⟩
 | .arr _ _,x,l,h,k,hk=>⟨_,h k (by rw[x.2];exact hk),rfl⟩
 | .mapi _ _,_,l,⟨_,e,_⟩,k,hk=>by simp only[Ty.size]at hk;obtain rfl:k=0:=(by omega);exact⟨_,e,rfl⟩
 | .unit,_,l,h,k,hk=>by simp[Ty.size]at hk
 | .prod a b,y,l,h,k,hk=>by
  simp only[Ty.size]at hk;rcases Nat.lt_or_ge k a.size with h' | h'
  ·exact lF h.1 k h'
  ·have f:=h.2;have:ah G b y.2 (fun k u=>(l.drop a.size)[k]? = some u):=ah.mono (fun _ _ h=>h) (fun k u hk=>by rw[List.getElem?_drop];exact hk) f;obtain⟨u,j,p⟩:=lF this (k - a.size) (by omega);rw[List.getElem?_drop,Nat.add_sub_cancel' h']at j;exact⟨u,j,p⟩
 | .slice _,_,l,⟨_,_,_,e,_⟩,k,hk=>by simp only[Ty.size]at hk;obtain rfl:k=0:=(by omega);exact⟨_,e,rfl⟩
 | .ptr _,none,l,h,k,hk=>by simp only[Ty.size]at hk;obtain rfl:k=0:=(by omega);exact⟨_,h,rfl⟩
 | .ptr _,some _,l,⟨_,e,_⟩,k,hk=>by simp only[Ty.size]at hk;obtain rfl:k=0:=(by omega);exact⟨_,e,rfl⟩
 | .tree z A,.node o s B,l,h,k,hk=>by
  simp only[ah,gw]at h;obtain⟨q,f,C,len,cap,v,_⟩:=h;simp only[Ty.size]at hk;have:k=0∨k=1∨k=2:=by omega
  rcases this with rfl | rfl | rfl
  ·exact⟨_,q,rfl⟩
  ·exact⟨_,f,rfl⟩
  ·exact⟨_,v,rfl⟩
end
end Go.Tv
