import Derived.Test.YtbedjpdfkmfplaaGreatDoorTvB
namespace Go.Tv
open Go Go.RowKit
inductive TK where
 | int (k:IntKind)
 | bool
 | str
 | flt
 | sl (e:TypeId)
 | st (fs:List (Nat×TypeId))
 | mp (k e:TypeId)
 | ar (n:Nat) (e:TypeId)
 | other
structure TI where
 T:Option Ty
 k:TK
 size:Nat
 bytes:Nat
 z:List ag
def kE:Value→ag
 | .int k n=> .p false (.int k) n
 | .bool b=> .p false .bool b
 | .string s=> .p false .str s.data.toList
 | .float .f64 b=> .p false .flt (dO b)
 | .slice none 0 0=> .nils
 | .pointer none=> .nilp
 | .nilIface=> .lit .nilIface
 | .map none=> .lit (.map none)
 | .nilFunc=> .lit .nilFunc
 | _=> .unk
def A6:Value→ag
 | .agg e=> .agg (e.toList.map kE)
 | v=>kE v
def UK(P:Program)(d:TypeDesc):TK→Prop
 | .int k=>d = .int k
 | .bool=>d = .bool
 | .str=>d = .string
 | .flt=>d = .float .f64
 | .sl e=>d = .slice e
 | .mp k e=>d = .map k e
 | .ar n e=>d = .array n e
 | .st j=>∃fs:Array Field,d = .struct fs∧fs.toList.map (fun f=>(f.offset,f.type))=j∧∀f∈fs.toList,∃i,P.info? f.type=some i∧i.size≠0
 | .other=>(match d with | .struct _ | .array _ _=>false | _=>true)=true
def TK.agg:TK→Bool
 | .st _=>true
 | .ar _ _=>true
 | _=>false
structure aO(P:Program)(t:TypeId)(ti:TI):Prop where
 hi:∃i z,P.info? t=some i∧i.zero=some z∧i.size=ti.size∧i.bytes=ti.bytes∧z.cells.toList.map kE=ti.z∧z.cells.size=ti.size ∧
  ∀c∈z.cells.toList,c.oneCell'=true
 hu:∃d,P.underlying t=some d∧UK P d ti.k
 hz:((P.info? t).bind (·.zero)).map (fun z=>match z with | .agg _=>true | _=>false)=some ti.k.agg
 ha:ti.k.agg=false→ti.size=1
 hT:∀T,ti.T=some T→T.size=ti.size∧T.scalar = !ti.k.agg∧iO T ti.z=some (T.zero,[])
abbrev bQ:=List (TypeId×TI)
def bQ.find:bQ→TypeId→Option TI
 | [],_=>none
 | (k,x)::r,t=>if k=t then some x else bQ.find r t
def bY(P:Program)(tb:bQ):Prop:=∀p∈tb,aO P p.1 p.2
theorem bY.find{P:Program}{tb:bQ}(h:bY P tb){t:TypeId}{ti:TI}(j:tb.find t=some ti):aO P t ti:=by
 induction tb with
 | nil=>simp[bQ.find]at j
 | cons p r u =>
  obtain⟨k,x⟩:=p;simp only[bQ.find]at j;split at j
  ·rename_i e;cases j;subst e;exact h _ (List.mem_cons_self ..)
  ·exact u (fun q z=>h q (List.mem_cons_of_mem _ z)) j
section
variable{F F':Bool→Addr→Value→Prop}{ρ:Nat→QW}
theorem CL(v:Value):V F ρ (kE v) v:=by
 unfold kE;split <;> first | (simp[V,ai,Ty.scalar];done) | (simp only[V,ai];exact⟨rfl,_,rfl,rfl⟩)
theorem gU(l:QY):VL F ρ (l.map kE) (fun k u=>l[k]? = some u):=by
 grind (splits:=6) (ematch:=4) [VL.mk,CL]
theorem DS(v:Value):V F ρ (A6 v) v:=by
 unfold A6;split
 ·grind (splits:=6) (ematch:=4) [V,gU]
 ·exact CL v
theorem tB{G e:Addr→Value→Prop}:∀ {T:Ty} {x:T.den} {g:Nat→Value→Prop},T.scalar=true→T.isRef=false→ai G T x g→ai e T x g
 | .int _,_,_,_,_,h=>h
 | .bool,_,_,_,_,h=>h
 | .str,_,_,_,_,h=>h
 | .flt,_,_,_,_,h=>h
 | .unit,_,_,h,_,_=>by cases h
 | .prod _ _,_,_,h,_,_=>by cases h
 | .slice _,_,_,_,h,_=>by cases h
 | .ptr _,_,_,_,h,_=>by cases h
 | .tree _ _,_,_,h,_,_=>by cases h
theorem He{G:Addr→Value→Prop}:∀ {T:Ty} {x:T.den} {v:Value} {g:Nat→Value→Prop},T.scalar=true→ai G T x (fun _ u=>u=v)→g 0 v→ai G T x g
 | .int _,_,_,g,_,h,f=>by simp only[ai]at h ⊢;rw[h];exact f
 | .bool,_,_,_,_,h,f=>by simp only[ai]at h ⊢;rw[h];exact f
 | .str,_,_,_,_,h,f=>by simp only[ai]at h ⊢;rw[h];exact f
 | .flt,_,_,_,_,⟨m,e,h⟩,f=>⟨m,by rw[e];exact f,h⟩
 | .unit,_,_,_,h,_,_=>by cases h
 | .prod _ _,_,_,_,h,_,_=>by cases h
 | .slice _,_,_,_,_,⟨j,l,c,e,hl,h⟩,f=>⟨j,l,c,by rw[e];exact f,hl,h⟩
 | .ptr _,none,_,_,_,h,f=>by simp only[ai]at h ⊢;rw[h];exact f
 | .ptr _,some _,_,_,_,⟨b,e,h⟩,f=>⟨b,by rw[e];exact f,h⟩
 | .tree _ _,_,_,_,h,_,_=>by cases h
 | .arr _ _,_,_,_,h,_,_=>by cases h
 | .mapi _ _,_,_,_,_,⟨none,e,h⟩,f=>⟨none,by rw[e];exact f,h⟩
 | .mapi _ _,_,_,_,_,⟨some b,e,h⟩,f=>⟨some b,by rw[e];exact f,h⟩
theorem El{T:Ty}{c:ag}{x:T.den}{v:Value}(hT:T.scalar=true)(h:LD T c=some x)(e:V F ρ c v):ai (F false) T x (fun _ u=>u=v):=by
 unfold LD at h;split at h
 ·grind (splits:=6) (ematch:=4) [V,tB]
 ·simp only[V]at e;subst e;split at h
  ·cases h;exact⟨none,0,0,rfl,⟨rfl,Nat.le_refl _⟩,fun i hi=>absurd hi (by simp)⟩
  ·cases h
 ·simp only[V]at e;subst e;split at h
  ·cases h;rfl
  ·cases h
 ·simp only[V]at e;subst e;split at h
  ·cases h;exact⟨none,rfl,rfl⟩
  ·cases h
 ·cases h
theorem gE{T:Ty}(hT:T.scalar=true){e:List ag}{x:T.den}{r:List ag}(h:one T e=some (x,r)){g:Nat→Value→Prop}(f:VL F ρ e g):
  ai (F false) T x g∧r=e.drop T.size∧T.size≤e.length:=by
 unfold one at h;split at h
 ·rename_i c e;split at h
  ·rename_i y j;cases h;simp only[VL]at f;obtain⟨⟨u,q,v⟩,_⟩:=f;exact⟨He hT (El hT j v) q,by rw[Ty.fT hT];rfl,by rw[Ty.fT hT];simp⟩
  ·cases h
 ·cases h
theorem VL.drop:∀ {n:Nat} {cs:List ag} {g:Nat→Value→Prop},VL F ρ cs g→VL F ρ (cs.drop n) (fun k u=>g (n+k) u)
 | 0,cs,g,h=>by simpa using h
 | n+1,[],g,h=>by simp[VL]
 | n+1,c::cs,g,h=>by
  simp only[VL]at h;have:=VL.drop (n:=n) h.2;simpa [Nat.add_assoc,Nat.add_comm,Nat.add_left_comm]using this
theorem cZ:∀ {T:Ty} {j:List ag} {x:T.den} {r:List ag},iO T j=some (x,r)→∀ {g:Nat→Value→Prop},VL F ρ j g →
  ai (F false) T x g∧r=j.drop T.size∧T.size≤j.length
 | .unit,j,x,r,h,g,f=>by
  simp only[iO,Option.some.injEq,Prod.mk.injEq]at h;exact⟨trivial,by simp[Ty.size,h.2],by simp[Ty.size]⟩
 | .prod a b,j,x,r,h,g,f=>by
  simp only[iO]at h;split at h
  ·rename_i y J q;split at h
   ·rename_i z I C;cases h;obtain⟨D,E,q3⟩:=cZ q f;subst E;obtain⟨L,M,N⟩:=cZ C (VL.drop (n:=a.size) f);refine⟨⟨D,L⟩,by rw[M,List.drop_drop];rfl,?_⟩;simp only[List.length_drop]at N;simp only[Ty.size];omega
   ·cases h
  ·cases h
 | .int k,j,x,r,h,g,f=>gE (T:= .int k) rfl h f
 | .bool,j,x,r,h,g,f=>gE (T:= .bool) rfl h f
 | .str,j,x,r,h,g,f=>gE (T:= .str) rfl h f
 | .flt,j,x,r,h,g,f=>gE (T:= .flt) rfl h f
 | .slice a,j,x,r,h,g,f=>gE (T:= .slice a) rfl h f
 | .ptr a,j,x,r,h,g,f=>gE (T:= .ptr a) rfl h f
 | .tree A B,j,x,r,h,g,f=>by
  simp only[iO]at h;split at h
  ·rename_i o O q;split at h
   ·rename_i s V C;split at h
    ·rename_i ks X Y;cases h;obtain⟨Z,a2,a3⟩:=gE (T:= .int A) rfl q f;subst a2;obtain⟨b1,b2,b3⟩:=gE (T:= .int B) rfl C (VL.drop (n:=1) f);subst b2;obtain⟨c1,c2,c3⟩:=gE (T:= .slice (.tree A B)) rfl Y (VL.drop (n:=1) (VL.drop (n:=1) f));obtain⟨ad,len,cap,d1,d2,d3⟩:=c1;refine⟨?_,by rw[c2,List.drop_drop,List.drop_drop];rfl,?_⟩
     ·simp only[ai,gX];exact⟨Z,b1,ad,len,cap,d1,d2,fF.mk fun i hi=>let ⟨b,e,hv⟩:=d3 i hi;gX.mono (fun _ _ h=>h) (fun k v _ hk=>⟨b,e,hk⟩) hv⟩
     ·simp_all [List.length_drop,Ty.size] <;> omega
    ·cases h
   ·cases h
  ·cases h
 | .arr k n,j,x,r,h,g,f=>by
  simp only[iO]at h;split at h
  ·rename_i l q;split at h
   ·rename_i hl;cases h;obtain⟨D,E⟩:=uY q;have ht:VL F ρ (j.take n) g:=VL.mk fun k x hk=>by
     grind (splits:=6) (ematch:=4) [VL.get]
    refine⟨fun i hi=>E ht i hi,rfl,?_⟩;rw[hl,List.length_take]at D;simp only[Ty.size];omega
   ·cases h
  ·cases h
 | .mapi A B,j,x,r,h,g,f=>gE (T:= .mapi A B) rfl h f
end
abbrev iu:=List (Nat×Qz)
def apply:iu→(Nat→Qz)→(Nat→Qz)
 | [],h=>h
 | (i,o)::r,h=>apply r (bu h i o)
theorem fm(a b:iu)(h:Nat→Qz):apply (a++b) h=apply b (apply a h):=by
 induction a generalizing h with
 | nil=>rfl
 | cons p r e=>obtain⟨i,o⟩:=p;simp[apply,e]
def gG(h:Nat→Qz):ag→Option (ag×iu)
 | .sl id=>match h id with
  | some (.arr _ A xs)=>some (.p false (.slice A) xs,[(id,some (.fz A xs))])
  | some (.fz A xs)=>some (.p false (.slice A) xs,[])
  | some (.mat _ _ A e none)=>some (.p false (.slice (.slice A)) e,[(id,some (.fz (.slice A) e))])
  | some (.bytes _ xs)=>some (.p false (.slice (.int .u8)) xs,[(id,some (.fz (.int .u8) xs))])
  | some (.nds _ _ f none)=>some (.p false (.slice Gu) (f.map (·.2)),[(id,some (.fz Gu (f.map (·.2))))])
  | _=>none
 | x=>some (x,[])
def rf(h:Nat→Qz):List ag→Option (List ag×iu)
 | []=>some ([],[])
 | c::e=>match gG h c with
  | some (x,u)=>match rf (apply u h) e with
   | some (xs,f)=>some (x::xs,u++f)
   | none=>none
  | none=>none
def cellsOf:ag→List ag
 | .agg f=>f
 | .lag k _ xs f=>xs.1.map (fun i=>ag.p false (.int k) i)++f
 | x=>[x]
def G0(T:Ty)(h:Nat→Qz)(x:ag):Option (T.den×iu) :=
 match rf h (cellsOf x)with
 | some (e,u)=>match iO T e with
  | some (y,[])=>some (y,u)
  | _=>none
 | none=>none
def HE(T:Ty)(h:Nat→Qz)(x:ag):Option (T.den×iu) :=
 match T,x with
 | .ptr A,.adr id i sz off=>if i*sz+off=0 then match h id with
  | some (.box f)=>match iO A f with
   | some (y,[])=>some ((some y:Option A.den),[(id,none)])
   | _=>none
  | some (.lmp k n xs f)=>match A with
   | .prod (.arr q j) B=>if e:n=j then(if k=q then(match iO B f with
    | some (y,[])=>some ((some (e ▸ xs,y):Option (fG j×B.den)),[(id,none)])
    | _=>none)else none)else none
   | _=>none
  | _=>none
  else none
 | .arr k n,.lag q j xs f=>match f with
  | []=>if e:j=n then(if q=k then some (e ▸ xs,[])else none)else none
  | _=>none
 | T,x=>G0 T h x
section
variable{P:Program}{Bw:Nat→Prop}{w0:cE P}{ρ:Nat→QW}{φ:Nat→Nat→Prop}{h:Nat→Qz}{w:World}
theorem hZ(m:Mem Bw w0 ρ φ h w){x y:ag}{u:iu}(hd:gG h x=some (y,u)):
  Mem Bw w0 ρ φ (apply u h) w∧(∀β a v,Fr (own φ h) Bw w β a v→Fr (own φ (apply u h)) Bw w β a v) ∧
  ∀v,V (Fr (own φ h) Bw w) ρ x v→V (Fr (own φ (apply u h)) Bw w) ρ y v:=by
 unfold gG at hd;split at hd
 ·rename_i id;split at hd
  ·rename_i B A xs hi;cases hd;obtain⟨j,z⟩:=m.freeze hi;refine⟨j,z,fun v e=>?_⟩;obtain⟨u,f,q⟩:=j.ob id _ (av _ _ _);simp only[V]at e;rw[e.1]at f;cases f;exact q
  ·rename_i A xs hi;cases hd;refine⟨m,fun _ _ _ h=>h,fun v e=>?_⟩;obtain⟨u,f,q⟩:=m.ob id _ hi;simp only[V]at e;rw[e.1]at f;cases f;exact q
  ·rename_i B C A D hi;cases hd;obtain⟨j,z⟩:=m.Hk hi;refine⟨j,z,fun v e=>?_⟩;obtain⟨u,f,q⟩:=j.ob id _ (av _ _ _);simp only[V]at e;rw[e.1]at f;cases f;exact q
  ·rename_i B xs hi;cases hd;obtain⟨j,z⟩:=m.KR hi;refine⟨j,z,fun v e=>?_⟩;obtain⟨u,f,q⟩:=j.ob id _ (av _ _ _);simp only[V]at e;rw[e.1]at f;cases f;exact q
  ·rename_i B C E hi;cases hd;obtain⟨j,z⟩:=m.Hx hi;refine⟨j,z,fun v e=>?_⟩;obtain⟨u,f,q⟩:=j.ob id _ (av _ _ _);simp only[V]at e;rw[e.1]at f;cases f;exact q
  ·cases hd
 ·cases hd;exact⟨m,fun _ _ _ h=>h,fun _ h=>h⟩
theorem pG:∀ {f e:List ag} {u:iu} {h:Nat→Qz},Mem Bw w0 ρ φ h w→rf h f=some (e,u) →
  Mem Bw w0 ρ φ (apply u h) w∧(∀β a v,Fr (own φ h) Bw w β a v→Fr (own φ (apply u h)) Bw w β a v)∧e.length=f.length ∧
  ∀g:Nat→Value→Prop,VL (Fr (own φ h) Bw w) ρ f g→VL (Fr (own φ (apply u h)) Bw w) ρ e g
 | [],e,u,h,m,hd=>by
  cases hd;exact⟨m,fun _ _ _ h=>h,rfl,fun _ h=>h⟩
 | c::f,e,u,h,m,hd=>by
  simp only[rf]at hd;split at hd
  ·rename_i x O A;split at hd
   ·rename_i X Y B;cases hd;obtain⟨C,j,D⟩:=hZ m A;obtain⟨E,q,I,g2⟩:=pG C B;rw[fm];refine⟨E,fun β a v J=>q _ _ _ (j _ _ _ J),by simp[I],fun g z=>?_⟩;simp only[VL]at z ⊢;obtain⟨⟨v,L,M⟩,N⟩:=z;exact⟨⟨v,L,V.mono q (fun _ _ h=>h) (D v M)⟩,g2 _ (VL.mono j (fun _ _ h=>h) (fun _ _ h=>h) N)⟩
   ·cases hd
  ·cases hd
theorem lK{G:Addr→Value→Prop}:∀ {T:Ty} {y:T.den} {l:QY},ai G T y (fun k u=>l[k]? = some u)→∀k,k<T.size→∃u,l[k]? = some u∧u.oneCell'=true
 | .int _,_,l,h,k,hk=>by simp only[Ty.size]at hk;obtain rfl:k=0:=(by omega);exact⟨_,h,rfl⟩
 | .bool,_,l,h,k,hk=>by simp only[Ty.size]at hk;obtain rfl:k=0:=(by omega);exact⟨_,h,rfl⟩
 | .str,_,l,h,k,hk=>by simp only[Ty.size]at hk;obtain rfl:k=0:=(by omega);exact⟨_,h,rfl⟩
 | .flt,_,l,⟨_,h,_⟩,k,hk=>by simp only[Ty.size]at hk;obtain rfl:k=0:=(by omega);exact⟨_,h,rfl⟩
 | .arr _ _,x,l,h,k,hk=>⟨_,h k (by rw[x.2];exact hk),rfl⟩
 | .mapi _ _,_,l,⟨_,e,_⟩,k,hk=>by simp only[Ty.size]at hk;obtain rfl:k=0:=(by omega);exact⟨_,e,rfl⟩
 | .unit,_,l,h,k,hk=>by simp[Ty.size]at hk
 | .prod a b,y,l,h,k,hk=>by
  simp only[Ty.size]at hk;rcases Nat.lt_or_ge k a.size with h' | h'
  ·exact lK h.1 k h'
  ·have f:=h.2;have:ai G b y.2 (fun k u=>(l.drop a.size)[k]? = some u):=ai.mono (fun _ _ h=>h) (fun k u hk=>by rw[List.getElem?_drop];exact hk) f;obtain⟨u,j,q⟩:=lK this (k - a.size) (by omega);rw[List.getElem?_drop,Nat.add_sub_cancel' h']at j;exact⟨u,j,q⟩
 | .slice _,_,l,⟨_,_,_,e,_⟩,k,hk=>by simp only[Ty.size]at hk;obtain rfl:k=0:=(by omega);exact⟨_,e,rfl⟩
 | .ptr _,none,l,h,k,hk=>by simp only[Ty.size]at hk;obtain rfl:k=0:=(by omega);exact⟨_,h,rfl⟩
 | .ptr _,some _,l,⟨_,e,_⟩,k,hk=>by simp only[Ty.size]at hk;obtain rfl:k=0:=(by omega);exact⟨_,e,rfl⟩
 | .tree A B,.node o s C,l,h,k,hk=>by
  simp only[ai,gX]at h;obtain⟨v,f,D,len,cap,z,_⟩:=h;simp only[Ty.size]at hk;have:k=0∨k=1∨k=2:=by omega
  rcases this with rfl | rfl | rfl
  ·exact⟨_,v,rfl⟩
  ·exact⟨_,f,rfl⟩
  ·exact⟨_,z,rfl⟩
end
end Go.Tv
