import Derived.Test.YtobbjfkfmdiklaaGreatDoorTvB
namespace Go.Tv
open Go Go.RowKit
inductive TK where
 | int (k:IntKind)
 | bool
 | str
 | flt
 | sl (e:TypeId)
 | st (fs:List (Nat×TypeId))
 | mp (k e:TypeId)
 | ar (n:Nat) (e:TypeId)
 | other
structure TI where
 T:Option Ty
 k:TK
 size:Nat
 bytes:Nat
 z:List ag
def kb:Value→ag
 | .int k n=> .p false (.int k) n
 | .bool b=> .p false .bool b
 | .string s=> .p false .str s.data.toList
 | .float .f64 b=> .p false .flt (cj b)
 | .slice none 0 0=> .nils
 | .pointer none=> .nilp
 | .nilIface=> .lit .nilIface
 | .map none=> .lit (.map none)
 | .nilFunc=> .lit .nilFunc
 | _=> .unk
def zk:Value→ag
 | .agg j=> .agg (j.toList.map kb)
 | v=>kb v
def UK(P:Program)(d:TypeDesc):TK→Prop
 | .int k=>d = .int k
 | .bool=>d = .bool
 | .str=>d = .string
 | .flt=>d = .float .f64
 | .sl e=>d = .slice e
 | .mp k e=>d = .map k e
 | .ar n e=>d = .array n e
 | .st j=>∃fs:Array Field,d = .struct fs∧fs.toList.map (fun f=>(f.offset,f.type))=j∧∀f∈fs.toList,∃i,P.info? f.type=some i∧i.size≠0
 | .other=>(match d with | .struct _ | .array _ _=>false | _=>true)=true
def TK.agg:TK→Bool
 | .st _=>true
 | .ar _ _=>true
 | _=>false
structure aN(P:Program)(t:TypeId)(ti:TI):Prop where
 hi:∃i z,P.info? t=some i∧i.zero=some z∧i.size=ti.size∧i.bytes=ti.bytes∧z.cells.toList.map kb=ti.z∧z.cells.size=ti.size ∧
  ∀c∈z.cells.toList,c.oneCell'=true
 hu:∃d,P.underlying t=some d∧UK P d ti.k
 hz:((P.info? t).bind (·.zero)).map (fun z=>match z with | .agg _=>true | _=>false)=some ti.k.agg
 ha:ti.k.agg=false→ti.size=1
 hT:∀T,ti.T=some T→T.size=ti.size∧T.scalar = !ti.k.agg∧iD T ti.z=some (T.zero,[])
abbrev bT:=List (TypeId×TI)
def bT.find:bT→TypeId→Option TI
 | [],_=>none
 | (k,x)::r,t=>if k=t then some x else bT.find r t
def bX(P:Program)(tb:bT):Prop:=∀p∈tb,aN P p.1 p.2
theorem bX.find{P:Program}{tb:bT}(h:bX P tb){t:TypeId}{ti:TI}(hf:tb.find t=some ti):aN P t ti:=by
 induction tb with
 | nil=>simp[bT.find]at hf
 | cons p r j =>
  obtain⟨k,x⟩:=p;simp only[bT.find]at hf;split at hf
  ·rename_i e;cases hf;subst e;exact h _ (List.mem_cons_self ..)
  ·exact j (fun q u=>h q (List.mem_cons_of_mem _ u)) hf
section
variable{F F':Bool→Addr→Value→Prop}{ρ:Nat→QW}
theorem AK(v:Value):V F ρ (kb v) v:=by
 unfold kb;split <;> first | (simp[V,ai,Ty.scalar];done) | (simp only[V,ai];exact⟨rfl,_,rfl,rfl⟩)
theorem gw(l:QY):VL F ρ (l.map kb) (fun k u=>l[k]? = some u):=by
 refine VL.mk fun k x hk=>?_
 rw[List.getElem?_map]at hk;cases h:l[k]? with
 | none=>rw[h]at hk;cases hk
 | some u=>rw[h]at hk;cases hk;exact⟨u,rfl,AK u⟩
theorem AN(v:Value):V F ρ (zk v) v:=by
 unfold zk;split
 ·rename_i j;simp only[V];refine⟨j,rfl,by simp,?_⟩;have:=gw (F:=F) (ρ:=ρ) j.toList;simpa using this
 ·exact AK v
theorem rR{G j:Addr→Value→Prop}:∀ {T:Ty} {x:T.den} {g:Nat→Value→Prop},T.scalar=true→T.isRef=false→ai G T x g→ai j T x g
 | .int _,_,_,_,_,h=>h
 | .bool,_,_,_,_,h=>h
 | .str,_,_,_,_,h=>h
 | .flt,_,_,_,_,h=>h
 | .unit,_,_,h,_,_=>by cases h
 | .prod _ _,_,_,h,_,_=>by cases h
 | .slice _,_,_,_,h,_=>by cases h
 | .ptr _,_,_,_,h,_=>by cases h
 | .tree _ _,_,_,h,_,_=>by cases h
theorem F6{G:Addr→Value→Prop}:∀ {T:Ty} {x:T.den} {v:Value} {g:Nat→Value→Prop},T.scalar=true→ai G T x (fun _ u=>u=v)→g 0 v→ai G T x g
 | .int _,_,_,g,_,h,j=>by simp only[ai]at h ⊢;rw[h];exact j
 | .bool,_,_,_,_,h,j=>by simp only[ai]at h ⊢;rw[h];exact j
 | .str,_,_,_,_,h,j=>by simp only[ai]at h ⊢;rw[h];exact j
 | .flt,_,_,_,_,⟨m,e,h⟩,j=>⟨m,by rw[e];exact j,h⟩
 | .unit,_,_,_,h,_,_=>by cases h
 | .prod _ _,_,_,_,h,_,_=>by cases h
 | .slice _,_,_,_,_,⟨p,l,c,e,hl,h⟩,j=>⟨p,l,c,by rw[e];exact j,hl,h⟩
 | .ptr _,none,_,_,_,h,j=>by simp only[ai]at h ⊢;rw[h];exact j
 | .ptr _,some _,_,_,_,⟨b,e,h⟩,j=>⟨b,by rw[e];exact j,h⟩
 | .tree _ _,_,_,_,h,_,_=>by cases h
 | .arr _ _,_,_,_,h,_,_=>by cases h
 | .mapi _ _,_,_,_,_,⟨none,e,h⟩,j=>⟨none,by rw[e];exact j,h⟩
 | .mapi _ _,_,_,_,_,⟨some b,e,h⟩,j=>⟨some b,by rw[e];exact j,h⟩
theorem Dv{T:Ty}{c:ag}{x:T.den}{v:Value}(hT:T.scalar=true)(h:K9 T c=some x)(j:V F ρ c v):ai (F false) T x (fun _ u=>u=v):=by
 unfold K9 at h;split at h
 ·rename_i β S y;split at h
  ·rename_i e;subst e;split at h
   ·cases h
   ·rename_i hb;cases h;simp only[V]at j;cases β with
    | false=>exact j.2
    | true=>exact rR hT (by simpa using hb) j.2
  ·cases h
 ·simp only[V]at j;subst j;split at h
  ·cases h;exact⟨none,0,0,rfl,⟨rfl,Nat.le_refl _⟩,fun i hi=>absurd hi (by simp)⟩
  ·cases h
 ·simp only[V]at j;subst j;split at h
  ·cases h;rfl
  ·cases h
 ·simp only[V]at j;subst j;split at h
  ·cases h;exact⟨none,rfl,rfl⟩
  ·cases h
 ·cases h
theorem ga{T:Ty}(hT:T.scalar=true){j:List ag}{x:T.den}{r:List ag}(h:one T j=some (x,r)){g:Nat→Value→Prop}(p:VL F ρ j g):
  ai (F false) T x g∧r=j.drop T.size∧T.size≤j.length:=by
 unfold one at h;split at h
 ·rename_i c j;split at h
  ·rename_i y q;cases h;simp only[VL]at p;obtain⟨⟨u,h1,h2⟩,_⟩:=p;exact⟨F6 hT (Dv hT q h2) h1,by rw[Ty.fG hT];rfl,by rw[Ty.fG hT];simp⟩
  ·cases h
 ·cases h
theorem VL.drop:∀ {n:Nat} {cs:List ag} {g:Nat→Value→Prop},VL F ρ cs g→VL F ρ (cs.drop n) (fun k u=>g (n+k) u)
 | 0,cs,g,h=>by simpa using h
 | n+1,[],g,h=>by simp[VL]
 | n+1,c::cs,g,h=>by
  simp only[VL]at h;have:=VL.drop (n:=n) h.2;simpa [Nat.add_assoc,Nat.add_comm,Nat.add_left_comm]using this
theorem cQ:∀ {T:Ty} {p:List ag} {x:T.den} {r:List ag},iD T p=some (x,r)→∀ {g:Nat→Value→Prop},VL F ρ p g →
  ai (F false) T x g∧r=p.drop T.size∧T.size≤p.length
 | .unit,p,x,r,h,g,j=>by
  simp only[iD,Option.some.injEq,Prod.mk.injEq]at h;exact⟨trivial,by simp[Ty.size,h.2],by simp[Ty.size]⟩
 | .prod a b,p,x,r,h,g,j=>by
  simp only[iD]at h;split at h
  ·rename_i y E h1;split at h
   ·rename_i z D h2;cases h;obtain⟨B,C,q3⟩:=cQ h1 j;subst C;obtain⟨I,J,L⟩:=cQ h2 (VL.drop (n:=a.size) j);refine⟨⟨B,I⟩,by rw[J,List.drop_drop];rfl,?_⟩;simp only[List.length_drop]at L;simp only[Ty.size];omega
   ·cases h
  ·cases h
 | .int k,p,x,r,h,g,j=>ga (T:= .int k) rfl h j
 | .bool,p,x,r,h,g,j=>ga (T:= .bool) rfl h j
 | .str,p,x,r,h,g,j=>ga (T:= .str) rfl h j
 | .flt,p,x,r,h,g,j=>ga (T:= .flt) rfl h j
 | .slice a,p,x,r,h,g,j=>ga (T:= .slice a) rfl h j
 | .ptr a,p,x,r,h,g,j=>ga (T:= .ptr a) rfl h j
 | .tree q A,p,x,r,h,g,j=>by
  simp only[iD]at h;split at h
  ·rename_i o M h1;split at h
   ·rename_i s N h2;split at h
    ·rename_i ks O V;cases h;obtain⟨X,Y,Z⟩:=ga (T:= .int q) rfl h1 j;subst Y;obtain⟨b1,b2,b3⟩:=ga (T:= .int A) rfl h2 (VL.drop (n:=1) j);subst b2;obtain⟨c1,c2,c3⟩:=ga (T:= .slice (.tree q A)) rfl V (VL.drop (n:=1) (VL.drop (n:=1) j));obtain⟨ad,len,cap,d1,d2,d3⟩:=c1;refine⟨?_,by rw[c2,List.drop_drop,List.drop_drop];rfl,?_⟩
     ·simp only[ai,gF];exact⟨X,b1,ad,len,cap,d1,d2,fe.mk fun i hi=>let ⟨b,e,hv⟩:=d3 i hi;gF.mono (fun _ _ h=>h) (fun k v _ hk=>⟨b,e,hk⟩) hv⟩
     ·simp only[List.length_drop,Ty.size]at c3 b3 Z ⊢;omega
    ·cases h
   ·cases h
  ·cases h
 | .arr k n,p,x,r,h,g,j=>by
  simp only[iD]at h;split at h
  ·rename_i l h1;split at h
   ·rename_i hl;cases h;obtain⟨B,C⟩:=uD h1;have ht:VL F ρ (p.take n) g:=VL.mk fun k x hk=>by
     rw[List.getElem?_take]at hk;split at hk
     ·exact VL.get j hk
     ·cases hk
    refine⟨fun i hi=>C ht i hi,rfl,?_⟩;rw[hl,List.length_take]at B;simp only[Ty.size];omega
   ·cases h
  ·cases h
 | .mapi q A,p,x,r,h,g,j=>ga (T:= .mapi q A) rfl h j
end
abbrev gX:=List (Nat×Qz)
def apply:gX→(Nat→Qz)→(Nat→Qz)
 | [],h=>h
 | (i,o)::r,h=>apply r (bF h i o)
theorem eV(a b:gX)(h:Nat→Qz):apply (a++b) h=apply b (apply a h):=by
 induction a generalizing h with
 | nil=>rfl
 | cons p r j=>obtain⟨i,o⟩:=p;simp[apply,j]
def gk(h:Nat→Qz):ag→Option (ag×gX)
 | .sl id=>match h id with
  | some (.arr _ A xs)=>some (.p false (.slice A) xs,[(id,some (.fz A xs))])
  | some (.fz A xs)=>some (.p false (.slice A) xs,[])
  | some (.mat _ _ A j none)=>some (.p false (.slice (.slice A)) j,[(id,some (.fz (.slice A) j))])
  | some (.bytes _ xs)=>some (.p false (.slice (.int .u8)) xs,[(id,some (.fz (.int .u8) xs))])
  | some (.nds _ _ q none)=>some (.p false (.slice Fz) (q.map (·.2)),[(id,some (.fz Fz (q.map (·.2))))])
  | _=>none
 | x=>some (x,[])
def pW(h:Nat→Qz):List ag→Option (List ag×gX)
 | []=>some ([],[])
 | c::j=>match gk h c with
  | some (x,u)=>match pW (apply u h) j with
   | some (xs,p)=>some (x::xs,u++p)
   | none=>none
  | none=>none
def cellsOf:ag→List ag
 | .agg j=>j
 | .lag k _ xs j=>xs.1.map (fun i=>ag.p false (.int k) i)++j
 | x=>[x]
def Fb(T:Ty)(h:Nat→Qz)(x:ag):Option (T.den×gX) :=
 match pW h (cellsOf x)with
 | some (j,u)=>match iD T j with
  | some (y,[])=>some (y,u)
  | _=>none
 | none=>none
def Gm(T:Ty)(h:Nat→Qz)(x:ag):Option (T.den×gX) :=
 match T,x with
 | .ptr A,.adr id i sz off=>if i*sz+off=0 then match h id with
  | some (.box j)=>match iD A j with
   | some (y,[])=>some ((some y:Option A.den),[(id,none)])
   | _=>none
  | some (.lmp k n xs j)=>match A with
   | .prod (.arr q p) B=>if e:n=p then(if k=q then(match iD B j with
    | some (y,[])=>some ((some (e ▸ xs,y):Option (fh p×B.den)),[(id,none)])
    | _=>none)else none)else none
   | _=>none
  | _=>none
  else none
 | .arr k n,.lag q p xs j=>match j with
  | []=>if e:p=n then(if q=k then some (e ▸ xs,[])else none)else none
  | _=>none
 | T,x=>Fb T h x
section
variable{P:Program}{Bw:Nat→Prop}{w0:cC P}{ρ:Nat→QW}{φ:Nat→Nat→Prop}{h:Nat→Qz}{w:World}
theorem gJ(m:Mem Bw w0 ρ φ h w){x y:ag}{u:gX}(hd:gk h x=some (y,u)):
  Mem Bw w0 ρ φ (apply u h) w∧(∀β a v,Fr (own φ h) Bw w β a v→Fr (own φ (apply u h)) Bw w β a v) ∧
  ∀v,V (Fr (own φ h) Bw w) ρ x v→V (Fr (own φ (apply u h)) Bw w) ρ y v:=by
 unfold gk at hd;split at hd
 ·rename_i id;split at hd
  ·rename_i C A xs hi;cases hd;obtain⟨q,B⟩:=m.freeze hi;refine⟨q,B,fun v j=>?_⟩;obtain⟨u,p,z⟩:=q.ob id _ (aB _ _ _);simp only[V]at j;rw[j.1]at p;cases p;exact z
  ·rename_i A xs hi;cases hd;refine⟨m,fun _ _ _ h=>h,fun v j=>?_⟩;obtain⟨u,p,z⟩:=m.ob id _ hi;simp only[V]at j;rw[j.1]at p;cases p;exact z
  ·rename_i C D A E hi;cases hd;obtain⟨q,B⟩:=m.FA hi;refine⟨q,B,fun v j=>?_⟩;obtain⟨u,p,z⟩:=q.ob id _ (aB _ _ _);simp only[V]at j;rw[j.1]at p;cases p;exact z
  ·rename_i C xs hi;cases hd;obtain⟨q,B⟩:=m.Jc hi;refine⟨q,B,fun v j=>?_⟩;obtain⟨u,p,z⟩:=q.ob id _ (aB _ _ _);simp only[V]at j;rw[j.1]at p;cases p;exact z
  ·rename_i C D I hi;cases hd;obtain⟨q,B⟩:=m.Fq hi;refine⟨q,B,fun v j=>?_⟩;obtain⟨u,p,z⟩:=q.ob id _ (aB _ _ _);simp only[V]at j;rw[j.1]at p;cases p;exact z
  ·cases hd
 ·cases hd;exact⟨m,fun _ _ _ h=>h,fun _ h=>h⟩
theorem o8:∀ {p j:List ag} {u:gX} {h:Nat→Qz},Mem Bw w0 ρ φ h w→pW h p=some (j,u) →
  Mem Bw w0 ρ φ (apply u h) w∧(∀β a v,Fr (own φ h) Bw w β a v→Fr (own φ (apply u h)) Bw w β a v)∧j.length=p.length ∧
  ∀g:Nat→Value→Prop,VL (Fr (own φ h) Bw w) ρ p g→VL (Fr (own φ (apply u h)) Bw w) ρ j g
 | [],j,u,h,m,hd=>by
  cases hd;exact⟨m,fun _ _ _ h=>h,rfl,fun _ h=>h⟩
 | c::p,j,u,h,m,hd=>by
  simp only[pW]at hd;split at hd
  ·rename_i x N h1;split at hd
   ·rename_i O X h2;cases hd;obtain⟨B,q,C⟩:=gJ m h1;obtain⟨D,z,E,g2⟩:=o8 B h2;rw[eV];refine⟨D,fun β a v I=>z _ _ _ (q _ _ _ I),by simp[E],fun g A=>?_⟩;simp only[VL]at A ⊢;obtain⟨⟨v,J,L⟩,M⟩:=A;exact⟨⟨v,J,V.mono z (fun _ _ h=>h) (C v L)⟩,g2 _ (VL.mono q (fun _ _ h=>h) (fun _ _ h=>h) M)⟩
   ·cases hd
  ·cases hd
theorem lu{G:Addr→Value→Prop}:∀ {T:Ty} {y:T.den} {l:QY},ai G T y (fun k u=>l[k]? = some u)→∀k,k<T.size→∃u,l[k]? = some u∧u.oneCell'=true
 | .int _,_,l,h,k,hk=>by simp only[Ty.size]at hk;obtain rfl:k=0:=(by omega);exact⟨_,h,rfl⟩
 | .bool,_,l,h,k,hk=>by simp only[Ty.size]at hk;obtain rfl:k=0:=(by omega);exact⟨_,h,rfl⟩
 | .str,_,l,h,k,hk=>by simp only[Ty.size]at hk;obtain rfl:k=0:=(by omega);exact⟨_,h,rfl⟩
 | .flt,_,l,⟨_,h,_⟩,k,hk=>by simp only[Ty.size]at hk;obtain rfl:k=0:=(by omega);exact⟨_,h,rfl⟩
 | .arr _ _,x,l,h,k,hk=>⟨_,h k (by rw[x.2];exact hk),rfl⟩
 | .mapi _ _,_,l,⟨_,e,_⟩,k,hk=>by simp only[Ty.size]at hk;obtain rfl:k=0:=(by omega);exact⟨_,e,rfl⟩
 | .unit,_,l,h,k,hk=>by simp[Ty.size]at hk
 | .prod a b,y,l,h,k,hk=>by
  simp only[Ty.size]at hk;rcases Nat.lt_or_ge k a.size with h' | h'
  ·exact lu h.1 k h'
  ·have h2:=h.2;have:ai G b y.2 (fun k u=>(l.drop a.size)[k]? = some u):=ai.mono (fun _ _ h=>h) (fun k u hk=>by rw[List.getElem?_drop];exact hk) h2;obtain⟨u,j,p⟩:=lu this (k - a.size) (by omega);rw[List.getElem?_drop,Nat.add_sub_cancel' h']at j;exact⟨u,j,p⟩
 | .slice _,_,l,⟨_,_,_,e,_⟩,k,hk=>by simp only[Ty.size]at hk;obtain rfl:k=0:=(by omega);exact⟨_,e,rfl⟩
 | .ptr _,none,l,h,k,hk=>by simp only[Ty.size]at hk;obtain rfl:k=0:=(by omega);exact⟨_,h,rfl⟩
 | .ptr _,some _,l,⟨_,e,_⟩,k,hk=>by simp only[Ty.size]at hk;obtain rfl:k=0:=(by omega);exact⟨_,e,rfl⟩
 | .tree v z,.node o s A,l,h,k,hk=>by
  simp only[ai,gF]at h;obtain⟨h1,h2,B,len,cap,q,_⟩:=h;simp only[Ty.size]at hk;have:k=0∨k=1∨k=2:=by omega
  rcases this with rfl | rfl | rfl
  ·exact⟨_,h1,rfl⟩
  ·exact⟨_,h2,rfl⟩
  ·exact⟨_,q,rfl⟩
end
end Go.Tv
