/- Types of a program as a table; constants; what is stored as data. -/
import Derived.Test.YtbedjpdfkmfplaaGreatDoorTvB
namespace Go.Tv
open Go Go.RowKit
inductive TK where
 | int (k:IntKind)
 | bool
 | str
 | flt
 | sl (e:TypeId)
 | st (fs:List (Nat×TypeId))
 | mp (k e:TypeId)
 | ar (n:Nat) (e:TypeId)
 | other
structure TI where
 T:Option Ty
 k:TK
 size:Nat
 bytes:Nat
 z:List AVal
def pI:Value→AVal
 | .int k n=> .p false (.int k) n
 | .bool b=> .p false .bool b
 | .string s=> .p false .str s.data.toList
 | .float .f64 b=> .p false .flt (eK b)
 | .slice none 0 0=> .nils
 | .pointer none=> .nilp
 | .nilIface=> .lit .nilIface
 | .map none=> .lit (.map none)
 | _=> .unk
def aBP:Value→AVal
 | .agg cs=> .agg (cs.toList.map pI)
 | v=>pI v
def UK(P:Program)(d:TypeDesc):TK→Prop
 | .int k=>d = .int k
 | .bool=>d = .bool
 | .str=>d = .string
 | .flt=>d = .float .f64
 | .sl e=>d = .slice e
 | .mp k e=>d = .map k e
 | .ar n e=>d = .array n e
 | .st offs=>∃fs:Array Field,d = .struct fs∧fs.toList.map (fun f=>(f.offset,f.type))=offs∧∀f∈fs.toList,∃i,P.info? f.type=some i∧i.size≠0
 | .other=>(match d with | .struct _ | .array _ _=>false | _=>true)=true
def TK.agg:TK→Bool
 | .st _=>true
 | .ar _ _=>true
 | _=>false
structure TIok(P:Program)(t:TypeId)(ti:TI):Prop where
 hi:∃i z,P.info? t=some i∧i.zero=some z∧i.size=ti.size∧i.bytes=ti.bytes∧z.cells.toList.map pI=ti.z∧z.cells.size=ti.size ∧
  ∀c∈z.cells.toList,c.oneCell'=true
 hu:∃d,P.underlying t=some d∧UK P d ti.k
 hz:((P.info? t).bind (·.zero)).map (fun z=>match z with | .agg _=>true | _=>false)=some ti.k.agg
 ha:ti.k.agg=false→ti.size=1
 hT:∀T,ti.T=some T→T.size=ti.size∧T.scalar = !ti.k.agg∧jM T ti.z=some (T.zero,[])
abbrev Tab:=List (TypeId×TI)
def Tab.find:Tab→TypeId→Option TI
 | [],_=>none
 | (k,x)::r,t=>if k=t then some x else Tab.find r t
def TabOK(P:Program)(tb:Tab):Prop:=∀p∈tb,TIok P p.1 p.2
theorem TabOK.find{P:Program}{tb:Tab}(h:TabOK P tb){t:TypeId}{ti:TI}(hf:tb.find t=some ti):TIok P t ti:=by
 induction tb with
 | nil=>simp[Tab.find]at hf
 | cons p r ih =>
  obtain⟨k,x⟩:=p
  simp only[Tab.find]at hf
  split at hf
  ·rename_i e
   cases hf
   subst e
   exact h _ (List.mem_cons_self ..)
  ·exact ih (fun q hq=>h q (List.mem_cons_of_mem _ hq)) hf
section
variable{F F':Bool→Addr→Value→Prop}{ρ:Nat→Option Value}
theorem aDd(v:Value):V F ρ (pI v) v:=by
 unfold pI
 split <;> first | (simp[V,Vcells,Ty.scalar];done) | (simp only[V,Vcells];exact⟨rfl,_,rfl,rfl⟩)
theorem jU(l:List Value):VL F ρ (l.map pI) (fun k u=>l[k]? = some u):=by
 refine VL.mk fun k x hk=> ?_
 rw[List.getElem?_map]at hk
 cases h:l[k]? with
 | none=>rw[h]at hk;cases hk
 | some u=>rw[h]at hk;cases hk;exact⟨u,rfl,aDd u⟩
theorem aCy(v:Value):V F ρ (aBP v) v:=by
 unfold aBP
 split
 ·rename_i cs
  simp only[V]
  refine⟨cs,rfl,by simp,?_⟩
  have:=jU (F:=F) (ρ:=ρ) cs.toList
  simpa using this
 ·exact aDd v
theorem zT{G G':Addr→Value→Prop}:∀ {T:Ty} {x:T.den} {g:Nat→Value→Prop},T.scalar=true→T.isRef=false→Vcells G T x g→Vcells G' T x g
 | .int _,_,_,_,_,h=>h
 | .bool,_,_,_,_,h=>h
 | .str,_,_,_,_,h=>h
 | .flt,_,_,_,_,h=>h
 | .unit,_,_,h,_,_=>by cases h
 | .prod _ _,_,_,h,_,_=>by cases h
 | .slice _,_,_,_,h,_=>by cases h
 | .ptr _,_,_,_,h,_=>by cases h
 | .tree _ _,_,_,h,_,_=>by cases h
theorem aF1{G:Addr→Value→Prop}:∀ {T:Ty} {x:T.den} {v:Value} {g:Nat→Value→Prop},T.scalar=true→Vcells G T x (fun _ u=>u=v)→g 0 v→Vcells G T x g
 | .int _,_,_,g,_,h,h0=>by simp only[Vcells]at h ⊢;rw[h];exact h0
 | .bool,_,_,_,_,h,h0=>by simp only[Vcells]at h ⊢;rw[h];exact h0
 | .str,_,_,_,_,h,h0=>by simp only[Vcells]at h ⊢;rw[h];exact h0
 | .flt,_,_,_,_,⟨m,e,h⟩,h0=>⟨m,by rw[e];exact h0,h⟩
 | .unit,_,_,_,h,_,_=>by cases h
 | .prod _ _,_,_,_,h,_,_=>by cases h
 | .slice _,_,_,_,_,⟨ad,l,c,e,hl,h⟩,h0=>⟨ad,l,c,by rw[e];exact h0,hl,h⟩
 | .ptr _,none,_,_,_,h,h0=>by simp only[Vcells]at h ⊢;rw[h];exact h0
 | .ptr _,some _,_,_,_,⟨b,e,h⟩,h0=>⟨b,by rw[e];exact h0,h⟩
 | .tree _ _,_,_,_,h,_,_=>by cases h
 | .arr _ _,_,_,_,h,_,_=>by cases h
 | .mapi _ _,_,_,_,_,⟨none,e,h⟩,h0=>⟨none,by rw[e];exact h0,h⟩
 | .mapi _ _,_,_,_,_,⟨some b,e,h⟩,h0=>⟨some b,by rw[e];exact h0,h⟩
theorem aEu{T:Ty}{c:AVal}{x:T.den}{v:Value}(hT:T.scalar=true)(h:aJX T c=some x)(hv:V F ρ c v):Vcells (F false) T x (fun _ u=>u=v):=by
 unfold aJX at h
 split at h
 ·rename_i β S y
  split at h
  ·rename_i e
   subst e
   split at h
   ·cases h
   ·rename_i hb
    cases h
    simp only[V]at hv
    cases β with
    | false=>exact hv.2
    | true=>exact zT hT (by simpa using hb) hv.2
  ·cases h
 ·simp only[V]at hv
  subst hv
  split at h
  ·cases h
   exact⟨none,0,0,rfl,⟨rfl,Nat.le_refl _⟩,fun i hi=>absurd hi (by simp)⟩
  ·cases h
 ·simp only[V]at hv
  subst hv
  split at h
  ·cases h
   rfl
  ·cases h
 ·simp only[V]at hv
  subst hv
  split at h
  ·cases h
   exact⟨none,rfl,rfl⟩
  ·cases h
 ·cases h
theorem gT{T:Ty}(hT:T.scalar=true){cs:List AVal}{x:T.den}{r:List AVal}(h:one T cs=some (x,r)){g:Nat→Value→Prop}(hg:VL F ρ cs g):
  Vcells (F false) T x g∧r=cs.drop T.size∧T.size≤cs.length:=by
 unfold one at h
 split at h
 ·rename_i c cs
  split at h
  ·rename_i y hy
   cases h
   simp only[VL]at hg
   obtain⟨⟨u,h1,h2⟩,_⟩:=hg
   exact⟨aF1 hT (aEu hT hy h2) h1,by rw[Ty.size_scalar hT];rfl,by rw[Ty.size_scalar hT];simp⟩
  ·cases h
 ·cases h
theorem VL.drop:∀ {n:Nat} {cs:List AVal} {g:Nat→Value→Prop},VL F ρ cs g→VL F ρ (cs.drop n) (fun k u=>g (n+k) u)
 | 0,cs,g,h=>by simpa using h
 | n+1,[],g,h=>by simp[VL]
 | n+1,c::cs,g,h=>by
  simp only[VL]at h
  have:=VL.drop (n:=n) h.2
  simpa [Nat.add_assoc,Nat.add_comm,Nat.add_left_comm]using this
theorem dK:∀ {T:Ty} {cs:List AVal} {x:T.den} {r:List AVal},jM T cs=some (x,r)→∀ {g:Nat→Value→Prop},VL F ρ cs g →
  Vcells (F false) T x g∧r=cs.drop T.size∧T.size≤cs.length
 | .unit,cs,x,r,h,g,hg=>by
  simp only[jM,Option.some.injEq,Prod.mk.injEq]at h
  exact⟨trivial,by simp[Ty.size,h.2],by simp[Ty.size]⟩
 | .prod a b,cs,x,r,h,g,hg=>by
  simp only[jM]at h
  split at h
  ·rename_i y cs' h1
   split at h
   ·rename_i z cs'' h2
    cases h
    obtain⟨q1,q2,q3⟩:=dK h1 hg
    subst q2
    obtain⟨r1,r2,r3⟩:=dK h2 (VL.drop (n:=a.size) hg)
    refine⟨⟨q1,r1⟩,by rw[r2,List.drop_drop];rfl,?_⟩
    simp only[List.length_drop]at r3
    simp only[Ty.size]
    omega
   ·cases h
  ·cases h
 | .int k,cs,x,r,h,g,hg=>gT (T:= .int k) rfl h hg
 | .bool,cs,x,r,h,g,hg=>gT (T:= .bool) rfl h hg
 | .str,cs,x,r,h,g,hg=>gT (T:= .str) rfl h hg
 | .flt,cs,x,r,h,g,hg=>gT (T:= .flt) rfl h hg
 | .slice a,cs,x,r,h,g,hg=>gT (T:= .slice a) rfl h hg
 | .ptr a,cs,x,r,h,g,hg=>gT (T:= .ptr a) rfl h hg
 | .tree k1 k2,cs,x,r,h,g,hg=>by
  simp only[jM]at h
  split at h
  ·rename_i o cs1 h1
   split at h
   ·rename_i s cs2 h2
    split at h
    ·rename_i ks cs3 h3
     cases h
     obtain⟨a1,a2,a3⟩:=gT (T:= .int k1) rfl h1 hg
     subst a2
     obtain⟨b1,b2,b3⟩:=gT (T:= .int k2) rfl h2 (VL.drop (n:=1) hg)
     subst b2
     obtain⟨c1,c2,c3⟩:=gT (T:= .slice (.tree k1 k2)) rfl h3 (VL.drop (n:=1) (VL.drop (n:=1) hg))
     obtain⟨ad,len,cap,d1,d2,d3⟩:=c1
     refine⟨?_,by rw[c2,List.drop_drop,List.drop_drop];rfl,?_⟩
     ·simp only[Vcells,Vtree]
      exact⟨a1,b1,ad,len,cap,d1,d2,Vtrees.mk fun i hi=>let ⟨b,e,hv⟩:=d3 i hi;Vtree.mono (fun _ _ h=>h) (fun k v _ hk=>⟨b,e,hk⟩) hv⟩
     ·simp only[List.length_drop,Ty.size]at c3 b3 a3 ⊢
      omega
    ·cases h
   ·cases h
  ·cases h
 | .arr k n,cs,x,r,h,g,hg=>by
  simp only[jM]at h
  split at h
  ·rename_i l h1
   split at h
   ·rename_i hl
    cases h
    obtain⟨q1,q2⟩:=J2 h1
    have ht:VL F ρ (cs.take n) g:=VL.mk fun k x hk=>by
     rw[List.getElem?_take]at hk
     split at hk
     ·exact VL.get hg hk
     ·cases hk
    refine⟨fun i hi=>q2 ht i hi,rfl,?_⟩
    rw[hl,List.length_take]at q1
    simp only[Ty.size]
    omega
   ·cases h
  ·cases h
 | .mapi k1 k2,cs,x,r,h,g,hg=>gT (T:= .mapi k1 k2) rfl h hg
end
abbrev jJ:=List (Nat×Option Obj)
def apply:jJ→(Nat→Option Obj)→(Nat→Option Obj)
 | [],h=>h
 | (i,o)::r,h=>apply r (upd h i o)
theorem iJ(a b:jJ)(h:Nat→Option Obj):apply (a++b) h=apply b (apply a h):=by
 induction a generalizing h with
 | nil=>rfl
 | cons p r ih=>obtain⟨i,o⟩:=p;simp[apply,ih]
def gH(h:Nat→Option Obj):AVal→Option (AVal×jJ)
 | .sl id=>match h id with
  | some (.arr _ A xs)=>some (.p false (.slice A) xs,[(id,some (.fz A xs))])
  | some (.fz A xs)=>some (.p false (.slice A) xs,[])
  | some (.mat _ _ A xss none)=>some (.p false (.slice (.slice A)) xss,[(id,some (.fz (.slice A) xss))])
  | some (.bytes _ xs)=>some (.p false (.slice (.int .u8)) xs,[(id,some (.fz (.int .u8) xs))])
  | _=>none
 | x=>some (x,[])
def wY(h:Nat→Option Obj):List AVal→Option (List AVal×jJ)
 | []=>some ([],[])
 | c::cs=>match gH h c with
  | some (x,u)=>match wY (apply u h) cs with
   | some (xs,us)=>some (x::xs,u++us)
   | none=>none
  | none=>none
def cellsOf:AVal→List AVal
 | .agg cs=>cs
 | .lag k _ xs cs=>xs.1.map (fun i=>AVal.p false (.int k) i)++cs
 | x=>[x]
def aFQ(T:Ty)(h:Nat→Option Obj)(x:AVal):Option (T.den×jJ) :=
 match wY h (cellsOf x)with
 | some (cs,u)=>match jM T cs with
  | some (y,[])=>some (y,u)
  | _=>none
 | none=>none
def toT(T:Ty)(h:Nat→Option Obj)(x:AVal):Option (T.den×jJ) :=
 match T,x with
 | .ptr A,.adr id i sz off=>if i*sz+off=0 then match h id with
  | some (.box cs)=>match jM A cs with
   | some (y,[])=>some ((some y:Option A.den),[(id,none)])
   | _=>none
  | some (.lmp k n xs cs)=>match A with
   | .prod (.arr k' n') B=>if e:n=n' then(if k=k' then(match jM B cs with
    | some (y,[])=>some ((some (e ▸ xs,y):Option (Arr n'×B.den)),[(id,none)])
    | _=>none)else none)else none
   | _=>none
  | _=>none
  else none
 | .arr k n,.lag k' n' xs cs=>match cs with
  | []=>if e:n'=n then(if k'=k then some (e ▸ xs,[])else none)else none
  | _=>none
 | T,x=>aFQ T h x
section
variable{P:Program}{Bw:Nat→Prop}{w0:Base P}{ρ:Nat→Option Value}{φ:Nat→Nat→Prop}{h:Nat→Option Obj}{w:World}
theorem iQ(m:Mem Bw w0 ρ φ h w){x y:AVal}{u:jJ}(hd:gH h x=some (y,u)):
  Mem Bw w0 ρ φ (apply u h) w∧(∀β a v,Fr (own φ h) Bw w β a v→Fr (own φ (apply u h)) Bw w β a v) ∧
  ∀v,V (Fr (own φ h) Bw w) ρ x v→V (Fr (own φ (apply u h)) Bw w) ρ y v:=by
 unfold gH at hd
 split at hd
 ·rename_i id
  split at hd
  ·rename_i te A xs hi
   cases hd
   obtain⟨m',hF⟩:=m.freeze hi
   refine⟨m',hF,fun v hv=> ?_⟩
   obtain⟨u,q1,q2⟩:=m'.ob id _ (aI _ _ _)
   simp only[V]at hv
   rw[hv.1]at q1
   cases q1
   exact q2
  ·rename_i A xs hi
   cases hd
   refine⟨m,fun _ _ _ h=>h,fun v hv=> ?_⟩
   obtain⟨u,q1,q2⟩:=m.ob id _ hi
   simp only[V]at hv
   rw[hv.1]at q1
   cases q1
   exact q2
  ·rename_i te e2 A xss hi
   cases hd
   obtain⟨m',hF⟩:=m.freezeMat hi
   refine⟨m',hF,fun v hv=> ?_⟩
   obtain⟨u,q1,q2⟩:=m'.ob id _ (aI _ _ _)
   simp only[V]at hv
   rw[hv.1]at q1
   cases q1
   exact q2
  ·rename_i te xs hi
   cases hd
   obtain⟨m',hF⟩:=m.freezeB hi
   refine⟨m',hF,fun v hv=> ?_⟩
   obtain⟨u,q1,q2⟩:=m'.ob id _ (aI _ _ _)
   simp only[V]at hv
   rw[hv.1]at q1
   cases q1
   exact q2
  ·cases hd
 ·cases hd
  exact⟨m,fun _ _ _ h=>h,fun _ h=>h⟩
theorem uQ:∀ {cs ds:List AVal} {u:jJ} {h:Nat→Option Obj},Mem Bw w0 ρ φ h w→wY h cs=some (ds,u) →
  Mem Bw w0 ρ φ (apply u h) w∧(∀β a v,Fr (own φ h) Bw w β a v→Fr (own φ (apply u h)) Bw w β a v)∧ds.length=cs.length ∧
  ∀g:Nat→Value→Prop,VL (Fr (own φ h) Bw w) ρ cs g→VL (Fr (own φ (apply u h)) Bw w) ρ ds g
 | [],ds,u,h,m,hd=>by
  cases hd
  exact⟨m,fun _ _ _ h=>h,rfl,fun _ h=>h⟩
 | c::cs,ds,u,h,m,hd=>by
  simp only[wY]at hd
  split at hd
  ·rename_i x u1 h1
   split at hd
   ·rename_i xs us h2
    cases hd
    obtain⟨m1,f1,g1⟩:=iQ m h1
    obtain⟨m2,f2,l2,g2⟩:=uQ m1 h2
    rw[iJ]
    refine⟨m2,fun β a v hh=>f2 _ _ _ (f1 _ _ _ hh),by simp[l2],fun g hg=> ?_⟩
    simp only[VL]at hg ⊢
    obtain⟨⟨v,q1,q2⟩,q3⟩:=hg
    exact⟨⟨v,q1,V.mono f2 (fun _ _ h=>h) (g1 v q2)⟩,g2 _ (VL.mono f1 (fun _ _ h=>h) (fun _ _ h=>h) q3)⟩
   ·cases hd
  ·cases hd
theorem nZ{G:Addr→Value→Prop}:∀ {T:Ty} {y:T.den} {l:List Value},Vcells G T y (fun k u=>l[k]? = some u)→∀k,k<T.size→∃u,l[k]? = some u∧u.oneCell'=true
 | .int _,_,l,h,k,hk=>by simp only[Ty.size]at hk;obtain rfl:k=0:=(by omega);exact⟨_,h,rfl⟩
 | .bool,_,l,h,k,hk=>by simp only[Ty.size]at hk;obtain rfl:k=0:=(by omega);exact⟨_,h,rfl⟩
 | .str,_,l,h,k,hk=>by simp only[Ty.size]at hk;obtain rfl:k=0:=(by omega);exact⟨_,h,rfl⟩
 | .flt,_,l,⟨_,h,_⟩,k,hk=>by simp only[Ty.size]at hk;obtain rfl:k=0:=(by omega);exact⟨_,h,rfl⟩
 | .arr _ _,x,l,h,k,hk=>⟨_,h k (by rw[x.2];exact hk),rfl⟩
 | .mapi _ _,_,l,⟨_,e,_⟩,k,hk=>by simp only[Ty.size]at hk;obtain rfl:k=0:=(by omega);exact⟨_,e,rfl⟩
 | .unit,_,l,h,k,hk=>by simp[Ty.size]at hk
 | .prod a b,y,l,h,k,hk=>by
  simp only[Ty.size]at hk
  rcases Nat.lt_or_ge k a.size with h' | h'
  ·exact nZ h.1 k h'
  ·have h2:=h.2
   have:Vcells G b y.2 (fun k u=>(l.drop a.size)[k]? = some u):=Vcells.mono (fun _ _ h=>h) (fun k u hk=>by rw[List.getElem?_drop];exact hk) h2
   obtain⟨u,q1,q2⟩:=nZ this (k - a.size) (by omega)
   rw[List.getElem?_drop,Nat.add_sub_cancel' h']at q1
   exact⟨u,q1,q2⟩
 | .slice _,_,l,⟨_,_,_,e,_⟩,k,hk=>by simp only[Ty.size]at hk;obtain rfl:k=0:=(by omega);exact⟨_,e,rfl⟩
 | .ptr _,none,l,h,k,hk=>by simp only[Ty.size]at hk;obtain rfl:k=0:=(by omega);exact⟨_,h,rfl⟩
 | .ptr _,some _,l,⟨_,e,_⟩,k,hk=>by simp only[Ty.size]at hk;obtain rfl:k=0:=(by omega);exact⟨_,e,rfl⟩
 | .tree k1 k2,.node o s ks,l,h,k,hk=>by
  simp only[Vcells,Vtree]at h
  obtain⟨h1,h2,ad,len,cap,h3,_⟩:=h
  simp only[Ty.size]at hk
  have:k=0∨k=1∨k=2:=by omega
  rcases this with rfl | rfl | rfl
  ·exact⟨_,h1,rfl⟩
  ·exact⟨_,h2,rfl⟩
  ·exact⟨_,h3,rfl⟩
end
end Go.Tv
