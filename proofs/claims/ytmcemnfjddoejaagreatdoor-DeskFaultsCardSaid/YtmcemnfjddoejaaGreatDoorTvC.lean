import Derived.Test.YtmcemnfjddoejaaGreatDoorTvB
namespace Go.Tv
open Go Go.RowKit
inductive TK where
 | int (k:IntKind)
 | bool
 | str
 | flt
 | sl (e:TypeId)
 | st (fs:List (Nat×TypeId))
 | mp (k e:TypeId)
 | ar (n:Nat) (e:TypeId)
 | other
structure TI where
 T:Option Ty
 k:TK
 size:Nat
 bytes:Nat
 z:List ag
def kd:Value→ag
 | .int k n=> .p false (.int k) n
 | .bool b=> .p false .bool b
 | .string s=> .p false .str s.data.toList
 | .float .f64 b=> .p false .flt (dN b)
 | .slice none 0 0=> .nils
 | .pointer none=> .nilp
 | .nilIface=> .lit .nilIface
 | .map none=> .lit (.map none)
 | .nilFunc=> .lit .nilFunc
 | _=> .unk
def AP:Value→ag
 | .agg c=> .agg (c.toList.map kd)
 | v=>kd v
def UK(P:Program)(d:TypeDesc):TK→Prop
 | .int k=>d = .int k
 | .bool=>d = .bool
 | .str=>d = .string
 | .flt=>d = .float .f64
 | .sl e=>d = .slice e
 | .mp k e=>d = .map k e
 | .ar n e=>d = .array n e
 | .st c=>∃fs:Array Field,d = .struct fs∧fs.toList.map (fun f=>(f.offset,f.type))=c∧∀f∈fs.toList,∃i,P.info? f.type=some i∧i.size≠0
 | .other=>(match d with | .struct _ | .array _ _=>false | _=>true)=true
def TK.agg:TK→Bool
 | .st _=>true
 | .ar _ _=>true
 | _=>false
structure aP(P:Program)(t:TypeId)(ti:TI):Prop where
 hi:∃i z,P.info? t=some i∧i.zero=some z∧i.size=ti.size∧i.bytes=ti.bytes∧z.cells.toList.map kd=ti.z∧z.cells.size=ti.size ∧
  ∀c∈z.cells.toList,c.oneCell'=true
 hu:∃d,P.underlying t=some d∧UK P d ti.k
 hz:((P.info? t).bind (·.zero)).map (fun z=>match z with | .agg _=>true | _=>false)=some ti.k.agg
 ha:ti.k.agg=false→ti.size=1
 hT:∀T,ti.T=some T→T.size=ti.size∧T.scalar = !ti.k.agg∧ix T ti.z=some (T.zero,[])
abbrev bP:=List (TypeId×TI)
def bP.find:bP→TypeId→Option TI
 | [],_=>none
 | (k,x)::r,t=>if k=t then some x else bP.find r t
def bV(P:Program)(tb:bP):Prop:=∀p∈tb,aP P p.1 p.2
theorem bV.find{P:Program}{tb:bP}(h:bV P tb){t:TypeId}{ti:TI}(j:tb.find t=some ti):aP P t ti:=by
 induction tb with
 | nil=>simp[bP.find]at j
 | cons p r u =>
  obtain⟨k,x⟩:=p;simp only[bP.find]at j;split at j
  ·rename_i e;cases j;subst e;exact h _ (List.mem_cons_self ..)
  ·exact u (fun q z=>h q (List.mem_cons_of_mem _ z)) j
section
variable{F F':Bool→Addr→Value→Prop}{ρ:Nat→QW}
theorem Cj(v:Value):V F ρ (kd v) v:=by
 unfold kd;split <;> first | (simp[V,ai,Ty.scalar];done) | (simp only[V,ai];exact⟨rfl,_,rfl,rfl⟩)
theorem gv(l:QY):VL F ρ (l.map kd) (fun k u=>l[k]? = some u):=by
 refine VL.mk fun k x hk=>?_
 rw[List.getElem?_map]at hk;cases h:l[k]? with
 | none=>rw[h]at hk;cases hk
 | some u=>rw[h]at hk;cases hk;exact⟨u,rfl,Cj u⟩
theorem CR(v:Value):V F ρ (AP v) v:=by
 unfold AP;split
 ·rename_i c;simp only[V];refine⟨c,rfl,by simp,?_⟩;have:=gv (F:=F) (ρ:=ρ) c.toList;simpa using this
 ·exact Cj v
theorem sd{G c:Addr→Value→Prop}:∀ {T:Ty} {x:T.den} {g:Nat→Value→Prop},T.scalar=true→T.isRef=false→ai G T x g→ai c T x g
 | .int _,_,_,_,_,h=>h
 | .bool,_,_,_,_,h=>h
 | .str,_,_,_,_,h=>h
 | .flt,_,_,_,_,h=>h
 | .unit,_,_,h,_,_=>by cases h
 | .prod _ _,_,_,h,_,_=>by cases h
 | .slice _,_,_,_,h,_=>by cases h
 | .ptr _,_,_,_,h,_=>by cases h
 | .tree _ _,_,_,h,_,_=>by cases h
theorem Hs{G:Addr→Value→Prop}:∀ {T:Ty} {x:T.den} {v:Value} {g:Nat→Value→Prop},T.scalar=true→ai G T x (fun _ u=>u=v)→g 0 v→ai G T x g
 | .int _,_,_,g,_,h,f=>by simp only[ai]at h ⊢;rw[h];exact f
 | .bool,_,_,_,_,h,f=>by simp only[ai]at h ⊢;rw[h];exact f
 | .str,_,_,_,_,h,f=>by simp only[ai]at h ⊢;rw[h];exact f
 | .flt,_,_,_,_,⟨m,e,h⟩,f=>⟨m,by rw[e];exact f,h⟩
 | .unit,_,_,_,h,_,_=>by cases h
 | .prod _ _,_,_,_,h,_,_=>by cases h
 | .slice _,_,_,_,_,⟨j,l,c,e,hl,h⟩,f=>⟨j,l,c,by rw[e];exact f,hl,h⟩
 | .ptr _,none,_,_,_,h,f=>by simp only[ai]at h ⊢;rw[h];exact f
 | .ptr _,some _,_,_,_,⟨b,e,h⟩,f=>⟨b,by rw[e];exact f,h⟩
 | .tree _ _,_,_,_,h,_,_=>by cases h
 | .arr _ _,_,_,_,h,_,_=>by cases h
 | .mapi _ _,_,_,_,_,⟨none,e,h⟩,f=>⟨none,by rw[e];exact f,h⟩
 | .mapi _ _,_,_,_,_,⟨some b,e,h⟩,f=>⟨some b,by rw[e];exact f,h⟩
theorem EB{T:Ty}{c:ag}{x:T.den}{v:Value}(hT:T.scalar=true)(h:LK T c=some x)(f:V F ρ c v):ai (F false) T x (fun _ u=>u=v):=by
 unfold LK at h;split at h
 ·rename_i β S y;split at h
  ·rename_i e;subst e;split at h
   ·cases h
   ·rename_i hb;cases h;simp only[V]at f;cases β with
    | false=>exact f.2
    | true=>exact sd hT (by simpa using hb) f.2
  ·cases h
 ·simp only[V]at f;subst f;split at h
  ·cases h;exact⟨none,0,0,rfl,⟨rfl,Nat.le_refl _⟩,fun i hi=>absurd hi (by simp)⟩
  ·cases h
 ·simp only[V]at f;subst f;split at h
  ·cases h;rfl
  ·cases h
 ·simp only[V]at f;subst f;split at h
  ·cases h;exact⟨none,rfl,rfl⟩
  ·cases h
 ·cases h
theorem fU{T:Ty}(hT:T.scalar=true){e:List ag}{x:T.den}{r:List ag}(h:one T e=some (x,r)){g:Nat→Value→Prop}(f:VL F ρ e g):
  ai (F false) T x g∧r=e.drop T.size∧T.size≤e.length:=by
 unfold one at h;split at h
 ·rename_i c e;split at h
  ·rename_i y j;cases h;simp only[VL]at f;obtain⟨⟨u,p,q⟩,_⟩:=f;exact⟨Hs hT (EB hT j q) p,by rw[Ty.fB hT];rfl,by rw[Ty.fB hT];simp⟩
  ·cases h
 ·cases h
theorem VL.drop:∀ {n:Nat} {cs:List ag} {g:Nat→Value→Prop},VL F ρ cs g→VL F ρ (cs.drop n) (fun k u=>g (n+k) u)
 | 0,cs,g,h=>by simpa using h
 | n+1,[],g,h=>by simp[VL]
 | n+1,c::cs,g,h=>by
  simp only[VL]at h;have:=VL.drop (n:=n) h.2;simpa [Nat.add_assoc,Nat.add_comm,Nat.add_left_comm]using this
theorem cU:∀ {T:Ty} {f:List ag} {x:T.den} {r:List ag},ix T f=some (x,r)→∀ {g:Nat→Value→Prop},VL F ρ f g →
  ai (F false) T x g∧r=f.drop T.size∧T.size≤f.length
 | .unit,f,x,r,h,g,c=>by
  simp only[ix,Option.some.injEq,Prod.mk.injEq]at h;exact⟨trivial,by simp[Ty.size,h.2],by simp[Ty.size]⟩
 | .prod a b,f,x,r,h,g,c=>by
  simp only[ix]at h;split at h
  ·rename_i y E j;split at h
   ·rename_i z D A;cases h;obtain⟨B,C,q3⟩:=cU j c;subst C;obtain⟨I,J,L⟩:=cU A (VL.drop (n:=a.size) c);refine⟨⟨B,I⟩,by rw[J,List.drop_drop];rfl,?_⟩;simp only[List.length_drop]at L;simp only[Ty.size];omega
   ·cases h
  ·cases h
 | .int k,f,x,r,h,g,c=>fU (T:= .int k) rfl h c
 | .bool,f,x,r,h,g,c=>fU (T:= .bool) rfl h c
 | .str,f,x,r,h,g,c=>fU (T:= .str) rfl h c
 | .flt,f,x,r,h,g,c=>fU (T:= .flt) rfl h c
 | .slice a,f,x,r,h,g,c=>fU (T:= .slice a) rfl h c
 | .ptr a,f,x,r,h,g,c=>fU (T:= .ptr a) rfl h c
 | .tree p q,f,x,r,h,g,c=>by
  simp only[ix]at h;split at h
  ·rename_i o M j;split at h
   ·rename_i s N A;split at h
    ·rename_i ks O V;cases h;obtain⟨X,Y,Z⟩:=fU (T:= .int p) rfl j c;subst Y;obtain⟨b1,b2,b3⟩:=fU (T:= .int q) rfl A (VL.drop (n:=1) c);subst b2;obtain⟨c1,c2,c3⟩:=fU (T:= .slice (.tree p q)) rfl V (VL.drop (n:=1) (VL.drop (n:=1) c));obtain⟨ad,len,cap,d1,d2,d3⟩:=c1;refine⟨?_,by rw[c2,List.drop_drop,List.drop_drop];rfl,?_⟩
     ·simp only[ai,gy];exact⟨X,b1,ad,len,cap,d1,d2,eZ.mk fun i hi=>let ⟨b,e,hv⟩:=d3 i hi;gy.mono (fun _ _ h=>h) (fun k v _ hk=>⟨b,e,hk⟩) hv⟩
     ·simp only[List.length_drop,Ty.size]at c3 b3 Z ⊢;omega
    ·cases h
   ·cases h
  ·cases h
 | .arr k n,f,x,r,h,g,c=>by
  simp only[ix]at h;split at h
  ·rename_i l j;split at h
   ·rename_i hl;cases h;obtain⟨B,C⟩:=vz j;have ht:VL F ρ (f.take n) g:=VL.mk fun k x hk=>by
     rw[List.getElem?_take]at hk;split at hk
     ·exact VL.get c hk
     ·cases hk
    refine⟨fun i hi=>C ht i hi,rfl,?_⟩;rw[hl,List.length_take]at B;simp only[Ty.size];omega
   ·cases h
  ·cases h
 | .mapi p q,f,x,r,h,g,c=>fU (T:= .mapi p q) rfl h c
end
abbrev hD:=List (Nat×Qz)
def apply:hD→(Nat→Qz)→(Nat→Qz)
 | [],h=>h
 | (i,o)::r,h=>apply r (bq h i o)
theorem eL(a b:hD)(h:Nat→Qz):apply (a++b) h=apply b (apply a h):=by
 induction a generalizing h with
 | nil=>rfl
 | cons p r c=>obtain⟨i,o⟩:=p;simp[apply,c]
def gf(h:Nat→Qz):ag→Option (ag×hD)
 | .sl id=>match h id with
  | some (.arr _ A xs)=>some (.p false (.slice A) xs,[(id,some (.fz A xs))])
  | some (.fz A xs)=>some (.p false (.slice A) xs,[])
  | some (.mat _ _ A c none)=>some (.p false (.slice (.slice A)) c,[(id,some (.fz (.slice A) c))])
  | some (.bytes _ xs)=>some (.p false (.slice (.int .u8)) xs,[(id,some (.fz (.int .u8) xs))])
  | some (.nds _ _ e none)=>some (.p false (.slice Gw) (e.map (·.2)),[(id,some (.fz Gw (e.map (·.2))))])
  | _=>none
 | x=>some (x,[])
def qN(h:Nat→Qz):List ag→Option (List ag×hD)
 | []=>some ([],[])
 | c::e=>match gf h c with
  | some (x,u)=>match qN (apply u h) e with
   | some (xs,f)=>some (x::xs,u++f)
   | none=>none
  | none=>none
def cellsOf:ag→List ag
 | .agg c=>c
 | .lag k _ xs c=>xs.1.map (fun i=>ag.p false (.int k) i)++c
 | x=>[x]
def GI(T:Ty)(h:Nat→Qz)(x:ag):Option (T.den×hD) :=
 match qN h (cellsOf x)with
 | some (c,u)=>match ix T c with
  | some (y,[])=>some (y,u)
  | _=>none
 | none=>none
def HA(T:Ty)(h:Nat→Qz)(x:ag):Option (T.den×hD) :=
 match T,x with
 | .ptr A,.adr id i sz off=>if i*sz+off=0 then match h id with
  | some (.box c)=>match ix A c with
   | some (y,[])=>some ((some y:Option A.den),[(id,none)])
   | _=>none
  | some (.lmp k n xs c)=>match A with
   | .prod (.arr j f) B=>if e:n=f then(if k=j then(match ix B c with
    | some (y,[])=>some ((some (e ▸ xs,y):Option (fb f×B.den)),[(id,none)])
    | _=>none)else none)else none
   | _=>none
  | _=>none
  else none
 | .arr k n,.lag j f xs c=>match c with
  | []=>if e:f=n then(if j=k then some (e ▸ xs,[])else none)else none
  | _=>none
 | T,x=>GI T h x
section
variable{P:Program}{Bw:Nat→Prop}{w0:cu P}{ρ:Nat→QW}{φ:Nat→Nat→Prop}{h:Nat→Qz}{w:World}
theorem gI(m:Mem Bw w0 ρ φ h w){x y:ag}{u:hD}(hd:gf h x=some (y,u)):
  Mem Bw w0 ρ φ (apply u h) w∧(∀β a v,Fr (own φ h) Bw w β a v→Fr (own φ (apply u h)) Bw w β a v) ∧
  ∀v,V (Fr (own φ h) Bw w) ρ x v→V (Fr (own φ (apply u h)) Bw w) ρ y v:=by
 unfold gf at hd;split at hd
 ·rename_i id;split at hd
  ·rename_i q A xs hi;cases hd;obtain⟨f,p⟩:=m.freeze hi;refine⟨f,p,fun v c=>?_⟩;obtain⟨u,e,j⟩:=f.ob id _ (ao _ _ _);simp only[V]at c;rw[c.1]at e;cases e;exact j
  ·rename_i A xs hi;cases hd;refine⟨m,fun _ _ _ h=>h,fun v c=>?_⟩;obtain⟨u,e,j⟩:=m.ob id _ hi;simp only[V]at c;rw[c.1]at e;cases e;exact j
  ·rename_i q z A B hi;cases hd;obtain⟨f,p⟩:=m.Ha hi;refine⟨f,p,fun v c=>?_⟩;obtain⟨u,e,j⟩:=f.ob id _ (ao _ _ _);simp only[V]at c;rw[c.1]at e;cases e;exact j
  ·rename_i q xs hi;cases hd;obtain⟨f,p⟩:=m.Kd hi;refine⟨f,p,fun v c=>?_⟩;obtain⟨u,e,j⟩:=f.ob id _ (ao _ _ _);simp only[V]at c;rw[c.1]at e;cases e;exact j
  ·rename_i q z C hi;cases hd;obtain⟨f,p⟩:=m.Hv hi;refine⟨f,p,fun v c=>?_⟩;obtain⟨u,e,j⟩:=f.ob id _ (ao _ _ _);simp only[V]at c;rw[c.1]at e;cases e;exact j
  ·cases hd
 ·cases hd;exact⟨m,fun _ _ _ h=>h,fun _ h=>h⟩
theorem pv:∀ {f e:List ag} {u:hD} {h:Nat→Qz},Mem Bw w0 ρ φ h w→qN h f=some (e,u) →
  Mem Bw w0 ρ φ (apply u h) w∧(∀β a v,Fr (own φ h) Bw w β a v→Fr (own φ (apply u h)) Bw w β a v)∧e.length=f.length ∧
  ∀g:Nat→Value→Prop,VL (Fr (own φ h) Bw w) ρ f g→VL (Fr (own φ (apply u h)) Bw w) ρ e g
 | [],e,u,h,m,hd=>by
  cases hd;exact⟨m,fun _ _ _ h=>h,rfl,fun _ h=>h⟩
 | c::f,e,u,h,m,hd=>by
  simp only[qN]at hd;split at hd
  ·rename_i x N z;split at hd
   ·rename_i O X A;cases hd;obtain⟨B,j,C⟩:=gI m z;obtain⟨D,p,E,g2⟩:=pv B A;rw[eL];refine⟨D,fun β a v I=>p _ _ _ (j _ _ _ I),by simp[E],fun g q=>?_⟩;simp only[VL]at q ⊢;obtain⟨⟨v,J,L⟩,M⟩:=q;exact⟨⟨v,J,V.mono p (fun _ _ h=>h) (C v L)⟩,g2 _ (VL.mono j (fun _ _ h=>h) (fun _ _ h=>h) M)⟩
   ·cases hd
  ·cases hd
theorem lF{G:Addr→Value→Prop}:∀ {T:Ty} {y:T.den} {l:QY},ai G T y (fun k u=>l[k]? = some u)→∀k,k<T.size→∃u,l[k]? = some u∧u.oneCell'=true
 | .int _,_,l,h,k,hk=>by simp only[Ty.size]at hk;obtain rfl:k=0:=(by omega);exact⟨_,h,rfl⟩
 | .bool,_,l,h,k,hk=>by simp only[Ty.size]at hk;obtain rfl:k=0:=(by omega);exact⟨_,h,rfl⟩
 | .str,_,l,h,k,hk=>by simp only[Ty.size]at hk;obtain rfl:k=0:=(by omega);exact⟨_,h,rfl⟩
 | .flt,_,l,⟨_,h,_⟩,k,hk=>by simp only[Ty.size]at hk;obtain rfl:k=0:=(by omega);exact⟨_,h,rfl⟩
 | .arr _ _,x,l,h,k,hk=>⟨_,h k (by rw[x.2];exact hk),rfl⟩
 | .mapi _ _,_,l,⟨_,e,_⟩,k,hk=>by simp only[Ty.size]at hk;obtain rfl:k=0:=(by omega);exact⟨_,e,rfl⟩
 | .unit,_,l,h,k,hk=>by simp[Ty.size]at hk
 | .prod a b,y,l,h,k,hk=>by
  simp only[Ty.size]at hk;rcases Nat.lt_or_ge k a.size with h' | h'
  ·exact lF h.1 k h'
  ·have c:=h.2;have:ai G b y.2 (fun k u=>(l.drop a.size)[k]? = some u):=ai.mono (fun _ _ h=>h) (fun k u hk=>by rw[List.getElem?_drop];exact hk) c;obtain⟨u,f,j⟩:=lF this (k - a.size) (by omega);rw[List.getElem?_drop,Nat.add_sub_cancel' h']at f;exact⟨u,f,j⟩
 | .slice _,_,l,⟨_,_,_,e,_⟩,k,hk=>by simp only[Ty.size]at hk;obtain rfl:k=0:=(by omega);exact⟨_,e,rfl⟩
 | .ptr _,none,l,h,k,hk=>by simp only[Ty.size]at hk;obtain rfl:k=0:=(by omega);exact⟨_,h,rfl⟩
 | .ptr _,some _,l,⟨_,e,_⟩,k,hk=>by simp only[Ty.size]at hk;obtain rfl:k=0:=(by omega);exact⟨_,e,rfl⟩
 | .tree v z,.node o s A,l,h,k,hk=>by
  simp only[ai,gy]at h;obtain⟨p,c,B,len,cap,q,_⟩:=h;simp only[Ty.size]at hk;have:k=0∨k=1∨k=2:=by omega
  rcases this with rfl | rfl | rfl
  ·exact⟨_,p,rfl⟩
  ·exact⟨_,c,rfl⟩
  ·exact⟨_,q,rfl⟩
end
end Go.Tv
