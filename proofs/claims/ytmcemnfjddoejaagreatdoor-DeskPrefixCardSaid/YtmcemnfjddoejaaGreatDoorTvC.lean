/- Types of a program as a table; constants; what is stored as data. -/
import Derived.Test.YtmcemnfjddoejaaGreatDoorTvB
namespace Go.Tv
open Go Go.RowKit
inductive TK where
 | int (k:IntKind)
 | bool
 | str
 | flt
 | sl (e:TypeId)
 | st (fs:List (Nat×TypeId))
 | mp (k e:TypeId)
 | ar (n:Nat) (e:TypeId)
 | other
structure TI where
 T:Option Ty
 k:TK
 size:Nat
 bytes:Nat
 z:List ag
def lh:Value→ag
 | .int k n=> .p false (.int k) n
 | .bool b=> .p false .bool b
 | .string s=> .p false .str s.data.toList
 | .float .f64 b=> .p false .flt (dw b)
 | .slice none 0 0=> .nils
 | .pointer none=> .nilp
 | .nilIface=> .lit .nilIface
 | .map none=> .lit (.map none)
 | .nilFunc=> .lit .nilFunc
 | _=> .unk
def zU:Value→ag
 | .agg c=> .agg (c.toList.map lh)
 | v=>lh v
def UK(P:Program)(d:TypeDesc):TK→Prop
 | .int k=>d = .int k
 | .bool=>d = .bool
 | .str=>d = .string
 | .flt=>d = .float .f64
 | .sl e=>d = .slice e
 | .mp k e=>d = .map k e
 | .ar n e=>d = .array n e
 | .st c=>∃fs:Array Field,d = .struct fs∧fs.toList.map (fun f=>(f.offset,f.type))=c∧∀f∈fs.toList,∃i,P.info? f.type=some i∧i.size≠0
 | .other=>(match d with | .struct _ | .array _ _=>false | _=>true)=true
def TK.agg:TK→Bool
 | .st _=>true
 | .ar _ _=>true
 | _=>false
structure aQ(P:Program)(t:TypeId)(ti:TI):Prop where
 hi:∃i z,P.info? t=some i∧i.zero=some z∧i.size=ti.size∧i.bytes=ti.bytes∧z.cells.toList.map lh=ti.z∧z.cells.size=ti.size ∧
  ∀c∈z.cells.toList,c.oneCell'=true
 hu:∃d,P.underlying t=some d∧UK P d ti.k
 hz:((P.info? t).bind (·.zero)).map (fun z=>match z with | .agg _=>true | _=>false)=some ti.k.agg
 ha:ti.k.agg=false→ti.size=1
 hT:∀T,ti.T=some T→T.size=ti.size∧T.scalar = !ti.k.agg∧ic T ti.z=some (T.zero,[])
abbrev bR:=List (TypeId×TI)
def bR.find:bR→TypeId→Option TI
 | [],_=>none
 | (k,x)::r,t=>if k=t then some x else bR.find r t
def bS(P:Program)(tb:bR):Prop:=∀p∈tb,aQ P p.1 p.2
theorem bS.find{P:Program}{tb:bR}(h:bS P tb){t:TypeId}{ti:TI}(j:tb.find t=some ti):aQ P t ti:=by
 induction tb with
 | nil=>simp[bR.find]at j
 | cons p r m =>
  obtain⟨k,x⟩:=p;simp only[bR.find]at j;split at j
  ·rename_i e;cases j;subst e;exact h _ (List.mem_cons_self ..)
  ·exact m (fun q u=>h q (List.mem_cons_of_mem _ u)) j
section
variable{F F':Bool→Addr→Value→Prop}{ρ:Nat→Option Value}
theorem A8(v:Value):V F ρ (lh v) v:=by
 unfold lh;split <;> first | (simp[V,ai,Ty.scalar];done) | (simp only[V,ai];exact⟨rfl,_,rfl,rfl⟩)
theorem g9(l:List Value):VL F ρ (l.map lh) (fun k u=>l[k]? = some u):=by
 refine VL.mk fun k x c=> ?_
 rw[List.getElem?_map]at c;cases h:l[k]? with
 | none=>rw[h]at c;cases c
 | some u=>rw[h]at c;cases c;exact⟨u,rfl,A8 u⟩
theorem CG(v:Value):V F ρ (zU v) v:=by
 unfold zU;split
 ·rename_i c;simp only[V];refine⟨c,rfl,by simp,?_⟩;have:=g9 (F:=F) (ρ:=ρ) c.toList;simpa using this
 ·exact A8 v
theorem sb{G c:Addr→Value→Prop}:∀ {T:Ty} {x:T.den} {g:Nat→Value→Prop},T.scalar=true→T.isRef=false→ai G T x g→ai c T x g
 | .int _,_,_,_,_,h=>h
 | .bool,_,_,_,_,h=>h
 | .str,_,_,_,_,h=>h
 | .flt,_,_,_,_,h=>h
 | .unit,_,_,h,_,_=>by cases h
 | .prod _ _,_,_,h,_,_=>by cases h
 | .slice _,_,_,_,h,_=>by cases h
 | .ptr _,_,_,_,h,_=>by cases h
 | .tree _ _,_,_,h,_,_=>by cases h
theorem FI{G:Addr→Value→Prop}:∀ {T:Ty} {x:T.den} {v:Value} {g:Nat→Value→Prop},T.scalar=true→ai G T x (fun _ u=>u=v)→g 0 v→ai G T x g
 | .int _,_,_,g,_,h,f=>by simp only[ai]at h ⊢;rw[h];exact f
 | .bool,_,_,_,_,h,f=>by simp only[ai]at h ⊢;rw[h];exact f
 | .str,_,_,_,_,h,f=>by simp only[ai]at h ⊢;rw[h];exact f
 | .flt,_,_,_,_,⟨m,e,h⟩,f=>⟨m,by rw[e];exact f,h⟩
 | .unit,_,_,_,h,_,_=>by cases h
 | .prod _ _,_,_,_,h,_,_=>by cases h
 | .slice _,_,_,_,_,⟨j,l,c,e,hl,h⟩,f=>⟨j,l,c,by rw[e];exact f,hl,h⟩
 | .ptr _,none,_,_,_,h,f=>by simp only[ai]at h ⊢;rw[h];exact f
 | .ptr _,some _,_,_,_,⟨b,e,h⟩,f=>⟨b,by rw[e];exact f,h⟩
 | .tree _ _,_,_,_,h,_,_=>by cases h
 | .arr _ _,_,_,_,h,_,_=>by cases h
 | .mapi _ _,_,_,_,_,⟨none,e,h⟩,f=>⟨none,by rw[e];exact f,h⟩
 | .mapi _ _,_,_,_,_,⟨some b,e,h⟩,f=>⟨some b,by rw[e];exact f,h⟩
theorem C5{T:Ty}{c:ag}{x:T.den}{v:Value}(hT:T.scalar=true)(h:JT T c=some x)(f:V F ρ c v):ai (F false) T x (fun _ u=>u=v):=by
 unfold JT at h;split at h
 ·rename_i β S y;split at h
  ·rename_i e;subst e;split at h
   ·cases h
   ·rename_i hb;cases h;simp only[V]at f;cases β with
    | false=>exact f.2
    | true=>exact sb hT (by simpa using hb) f.2
  ·cases h
 ·simp only[V]at f;subst f;split at h
  ·cases h;exact⟨none,0,0,rfl,⟨rfl,Nat.le_refl _⟩,fun i hi=>absurd hi (by simp)⟩
  ·cases h
 ·simp only[V]at f;subst f;split at h
  ·cases h;rfl
  ·cases h
 ·simp only[V]at f;subst f;split at h
  ·cases h;exact⟨none,rfl,rfl⟩
  ·cases h
 ·cases h
theorem fq{T:Ty}(hT:T.scalar=true){e:List ag}{x:T.den}{r:List ag}(h:one T e=some (x,r)){g:Nat→Value→Prop}(f:VL F ρ e g):
  ai (F false) T x g∧r=e.drop T.size∧T.size≤e.length:=by
 unfold one at h;split at h
 ·rename_i c e;split at h
  ·rename_i y j;cases h;simp only[VL]at f;obtain⟨⟨u,k,m⟩,_⟩:=f;exact⟨FI hT (C5 hT j m) k,by rw[Ty.eS hT];rfl,by rw[Ty.eS hT];simp⟩
  ·cases h
 ·cases h
theorem VL.drop:∀ {n:Nat} {cs:List ag} {g:Nat→Value→Prop},VL F ρ cs g→VL F ρ (cs.drop n) (fun k u=>g (n+k) u)
 | 0,cs,g,h=>by simpa using h
 | n+1,[],g,h=>by simp[VL]
 | n+1,c::cs,g,h=>by
  simp only[VL]at h;have:=VL.drop (n:=n) h.2;simpa [Nat.add_assoc,Nat.add_comm,Nat.add_left_comm]using this
theorem cy:∀ {T:Ty} {f:List ag} {x:T.den} {r:List ag},ic T f=some (x,r)→∀ {g:Nat→Value→Prop},VL F ρ f g →
  ai (F false) T x g∧r=f.drop T.size∧T.size≤f.length
 | .unit,f,x,r,h,g,c=>by
  simp only[ic,Option.some.injEq,Prod.mk.injEq]at h;exact⟨trivial,by simp[Ty.size,h.2],by simp[Ty.size]⟩
 | .prod a b,f,x,r,h,g,c=>by
  simp only[ic]at h;split at h
  ·rename_i y E m;split at h
   ·rename_i z D A;cases h;obtain⟨B,C,q3⟩:=cy m c;subst C;obtain⟨I,J,L⟩:=cy A (VL.drop (n:=a.size) c);refine⟨⟨B,I⟩,by rw[J,List.drop_drop];rfl,?_⟩;simp only[List.length_drop]at L;simp only[Ty.size];omega
   ·cases h
  ·cases h
 | .int k,f,x,r,h,g,c=>fq (T:= .int k) rfl h c
 | .bool,f,x,r,h,g,c=>fq (T:= .bool) rfl h c
 | .str,f,x,r,h,g,c=>fq (T:= .str) rfl h c
 | .flt,f,x,r,h,g,c=>fq (T:= .flt) rfl h c
 | .slice a,f,x,r,h,g,c=>fq (T:= .slice a) rfl h c
 | .ptr a,f,x,r,h,g,c=>fq (T:= .ptr a) rfl h c
 | .tree p q,f,x,r,h,g,c=>by
  simp only[ic]at h;split at h
  ·rename_i o M m;split at h
   ·rename_i s N A;split at h
    ·rename_i ks O R;cases h;obtain⟨V,X,Y⟩:=fq (T:= .int p) rfl m c;subst X;obtain⟨Z,b2,b3⟩:=fq (T:= .int q) rfl A (VL.drop (n:=1) c);subst b2;obtain⟨c1,c2,c3⟩:=fq (T:= .slice (.tree p q)) rfl R (VL.drop (n:=1) (VL.drop (n:=1) c));obtain⟨ad,len,cap,d1,d2,d3⟩:=c1;refine⟨?_,by rw[c2,List.drop_drop,List.drop_drop];rfl,?_⟩
     ·simp only[ai,fU];exact⟨V,Z,ad,len,cap,d1,d2,eb.mk fun i hi=>let ⟨b,e,hv⟩:=d3 i hi;fU.mono (fun _ _ h=>h) (fun k v _ j=>⟨b,e,j⟩) hv⟩
     ·simp only[List.length_drop,Ty.size]at c3 b3 Y ⊢;omega
    ·cases h
   ·cases h
  ·cases h
 | .arr k n,f,x,r,h,g,c=>by
  simp only[ic]at h;split at h
  ·rename_i l m;split at h
   ·rename_i hl;cases h;obtain⟨B,C⟩:=uL m;have ht:VL F ρ (f.take n) g:=VL.mk fun k x j=>by
     rw[List.getElem?_take]at j;split at j
     ·exact VL.get c j
     ·cases j
    refine⟨fun i hi=>C ht i hi,rfl,?_⟩;rw[hl,List.length_take]at B;simp only[Ty.size];omega
   ·cases h
  ·cases h
 | .mapi p q,f,x,r,h,g,c=>fq (T:= .mapi p q) rfl h c
end
abbrev hZ:=List (Nat×Option Obj)
def apply:hZ→(Nat→Option Obj)→(Nat→Option Obj)
 | [],h=>h
 | (i,o)::r,h=>apply r (bH h i o)
theorem gG(a b:hZ)(h:Nat→Option Obj):apply (a++b) h=apply b (apply a h):=by
 induction a generalizing h with
 | nil=>rfl
 | cons p r c=>obtain⟨i,o⟩:=p;simp[apply,c]
def eW(h:Nat→Option Obj):ag→Option (ag×hZ)
 | .sl id=>match h id with
  | some (.arr _ A xs)=>some (.p false (.slice A) xs,[(id,some (.fz A xs))])
  | some (.fz A xs)=>some (.p false (.slice A) xs,[])
  | some (.mat _ _ A c none)=>some (.p false (.slice (.slice A)) c,[(id,some (.fz (.slice A) c))])
  | some (.bytes _ xs)=>some (.p false (.slice (.int .u8)) xs,[(id,some (.fz (.int .u8) xs))])
  | _=>none
 | x=>some (x,[])
def qs(h:Nat→Option Obj):List ag→Option (List ag×hZ)
 | []=>some ([],[])
 | c::e=>match eW h c with
  | some (x,u)=>match qs (apply u h) e with
   | some (xs,f)=>some (x::xs,u++f)
   | none=>none
  | none=>none
def cellsOf:ag→List ag
 | .agg c=>c
 | .lag k _ xs c=>xs.1.map (fun i=>ag.p false (.int k) i)++c
 | x=>[x]
def FU(T:Ty)(h:Nat→Option Obj)(x:ag):Option (T.den×hZ) :=
 match qs h (cellsOf x)with
 | some (c,u)=>match ic T c with
  | some (y,[])=>some (y,u)
  | _=>none
 | none=>none
def F5(T:Ty)(h:Nat→Option Obj)(x:ag):Option (T.den×hZ) :=
 match T,x with
 | .ptr A,.adr id i sz off=>if i*sz+off=0 then match h id with
  | some (.box c)=>match ic A c with
   | some (y,[])=>some ((some y:Option A.den),[(id,none)])
   | _=>none
  | some (.lmp k n xs c)=>match A with
   | .prod (.arr j f) B=>if e:n=f then(if k=j then(match ic B c with
    | some (y,[])=>some ((some (e ▸ xs,y):Option (ep f×B.den)),[(id,none)])
    | _=>none)else none)else none
   | _=>none
  | _=>none
  else none
 | .arr k n,.lag j f xs c=>match c with
  | []=>if e:f=n then(if j=k then some (e ▸ xs,[])else none)else none
  | _=>none
 | T,x=>FU T h x
section
variable{P:Program}{Bw:Nat→Prop}{w0:b9 P}{ρ:Nat→Option Value}{φ:Nat→Nat→Prop}{h:Nat→Option Obj}{w:World}
theorem gy(m:Mem Bw w0 ρ φ h w){x y:ag}{u:hZ}(f:eW h x=some (y,u)):
  Mem Bw w0 ρ φ (apply u h) w∧(∀β a v,Fr (own φ h) Bw w β a v→Fr (own φ (apply u h)) Bw w β a v) ∧
  ∀v,V (Fr (own φ h) Bw w) ρ x v→V (Fr (own φ (apply u h)) Bw w) ρ y v:=by
 unfold eW at f;split at f
 ·rename_i id;split at f
  ·rename_i q A xs hi;cases f;obtain⟨j,p⟩:=m.freeze hi;refine⟨j,p,fun v c=> ?_⟩;obtain⟨u,e,k⟩:=j.ob id _ (aw _ _ _);simp only[V]at c;rw[c.1]at e;cases e;exact k
  ·rename_i A xs hi;cases f;refine⟨m,fun _ _ _ h=>h,fun v c=> ?_⟩;obtain⟨u,e,k⟩:=m.ob id _ hi;simp only[V]at c;rw[c.1]at e;cases e;exact k
  ·rename_i q B A z hi;cases f;obtain⟨j,p⟩:=m.FE hi;refine⟨j,p,fun v c=> ?_⟩;obtain⟨u,e,k⟩:=j.ob id _ (aw _ _ _);simp only[V]at c;rw[c.1]at e;cases e;exact k
  ·rename_i q xs hi;cases f;obtain⟨j,p⟩:=m.Im hi;refine⟨j,p,fun v c=> ?_⟩;obtain⟨u,e,k⟩:=j.ob id _ (aw _ _ _);simp only[V]at c;rw[c.1]at e;cases e;exact k
  ·cases f
 ·cases f;exact⟨m,fun _ _ _ h=>h,fun _ h=>h⟩
theorem pF:∀ {j f:List ag} {u:hZ} {h:Nat→Option Obj},Mem Bw w0 ρ φ h w→qs h j=some (f,u) →
  Mem Bw w0 ρ φ (apply u h) w∧(∀β a v,Fr (own φ h) Bw w β a v→Fr (own φ (apply u h)) Bw w β a v)∧f.length=j.length ∧
  ∀g:Nat→Value→Prop,VL (Fr (own φ h) Bw w) ρ j g→VL (Fr (own φ (apply u h)) Bw w) ρ f g
 | [],f,u,h,m,e=>by
  cases e;exact⟨m,fun _ _ _ h=>h,rfl,fun _ h=>h⟩
 | c::j,f,u,h,m,e=>by
  simp only[qs]at e;split at e
  ·rename_i x N z;split at e
   ·rename_i O R A;cases e;obtain⟨B,k,C⟩:=gy m z;obtain⟨D,p,E,g2⟩:=pF B A;rw[gG];refine⟨D,fun β a v I=>p _ _ _ (k _ _ _ I),by simp[E],fun g q=> ?_⟩;simp only[VL]at q ⊢;obtain⟨⟨v,J,L⟩,M⟩:=q;exact⟨⟨v,J,V.mono p (fun _ _ h=>h) (C v L)⟩,g2 _ (VL.mono k (fun _ _ h=>h) (fun _ _ h=>h) M)⟩
   ·cases e
  ·cases e
theorem kX{G:Addr→Value→Prop}:∀ {T:Ty} {y:T.den} {l:List Value},ai G T y (fun k u=>l[k]? = some u)→∀k,k<T.size→∃u,l[k]? = some u∧u.oneCell'=true
 | .int _,_,l,h,k,c=>by simp only[Ty.size]at c;obtain rfl:k=0:=(by omega);exact⟨_,h,rfl⟩
 | .bool,_,l,h,k,c=>by simp only[Ty.size]at c;obtain rfl:k=0:=(by omega);exact⟨_,h,rfl⟩
 | .str,_,l,h,k,c=>by simp only[Ty.size]at c;obtain rfl:k=0:=(by omega);exact⟨_,h,rfl⟩
 | .flt,_,l,⟨_,h,_⟩,k,c=>by simp only[Ty.size]at c;obtain rfl:k=0:=(by omega);exact⟨_,h,rfl⟩
 | .arr _ _,x,l,h,k,c=>⟨_,h k (by rw[x.2];exact c),rfl⟩
 | .mapi _ _,_,l,⟨_,e,_⟩,k,c=>by simp only[Ty.size]at c;obtain rfl:k=0:=(by omega);exact⟨_,e,rfl⟩
 | .unit,_,l,h,k,c=>by simp[Ty.size]at c
 | .prod a b,y,l,h,k,c=>by
  simp only[Ty.size]at c;rcases Nat.lt_or_ge k a.size with h' | h'
  ·exact kX h.1 k h'
  ·have f:=h.2;have:ai G b y.2 (fun k u=>(l.drop a.size)[k]? = some u):=ai.mono (fun _ _ h=>h) (fun k u c=>by rw[List.getElem?_drop];exact c) f;obtain⟨u,j,m⟩:=kX this (k - a.size) (by omega);rw[List.getElem?_drop,Nat.add_sub_cancel' h']at j;exact⟨u,j,m⟩
 | .slice _,_,l,⟨_,_,_,e,_⟩,k,c=>by simp only[Ty.size]at c;obtain rfl:k=0:=(by omega);exact⟨_,e,rfl⟩
 | .ptr _,none,l,h,k,c=>by simp only[Ty.size]at c;obtain rfl:k=0:=(by omega);exact⟨_,h,rfl⟩
 | .ptr _,some _,l,⟨_,e,_⟩,k,c=>by simp only[Ty.size]at c;obtain rfl:k=0:=(by omega);exact⟨_,e,rfl⟩
 | .tree v z,.node o s A,l,h,k,c=>by
  simp only[ai,fU]at h;obtain⟨p,f,B,len,cap,q,_⟩:=h;simp only[Ty.size]at c;have:k=0∨k=1∨k=2:=by omega
  rcases this with rfl | rfl | rfl
  ·exact⟨_,p,rfl⟩
  ·exact⟨_,f,rfl⟩
  ·exact⟨_,q,rfl⟩
end
end Go.Tv
