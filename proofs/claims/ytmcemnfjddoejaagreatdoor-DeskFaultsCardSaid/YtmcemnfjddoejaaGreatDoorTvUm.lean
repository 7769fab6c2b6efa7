import Derived.Test.YtmcemnfjddoejaaGreatDoorTvSm
import Derived.ProofKit
import Derived.OpenShut
import Derived.SizedLaws
import Derived.Carry
import Derived.Test.YtmcemnfjddoejaaGreatDoorTv23gim
namespace Go.Tv
open Go Go.RowKit
def uq(P:Program):Nat→TypeId→Option Ty
 | 0,_=>none
 | n+1,t=>match P.underlying t with
  | some .bool=>some .bool
  | some (.int k)=>some (.int k)
  | some .string=>some .str
  | some (.float .f64)=>some .flt
  | some (.slice e)=>match uq P n e with
   | some A=>if P.cellsOf e=A.size∧0<A.size then some (.slice A)else none
   | none=>none
  | some (.struct c)=>match c.toList.mapM (fun f=>uq P n f.type)with
   | some Ts=>if jk P 0 c.toList Ts=true∧P.cellsOf t=(gk Ts).size∧Ts≠[]then some (gk Ts)else none
   | none=>none
  | _=>none
def Wf:(T:Ty)→T.den→Prop
 | .int k,n=>k.min≤(show Int from n)∧(show Int from n)≤k.max
 | .bool,_=>True
 | .str,s=>List.length (α:=UInt8) s≤maxLen
 | .flt,n=>∀m:Nat,(show QJ from n)=some m→m<18446744073709551616∧dN m=some m
 | .unit,_=>True
 | .prod a b,x=>Wf a x.1∧Wf b x.2
 | .slice A,c=>List.length (α:=A.den) c≤maxLen∧∀i (h:i<List.length (α:=A.den) c),Wf A c[i]
 | .ptr _,_=>True
 | .tree _ _,_=>True
 | .arr _ _,_=>True
 | .mapi _ _,_=>True
section
variable{H:Type}{enc':TypeId×Value→H}{P:Program}{w:World}{sp:Nat→Bool}{held:Bool}
theorem build{A:Ty}{p:Nat→A.den→Prop}:∀(n:Nat),(∀i,i<n→∃x,p i x)→∃xs:List A.den,xs.length=n∧∀i (h:i<xs.length),p i xs[i]
 | 0,_=>⟨[],rfl,fun i h=>absurd h (by simp)⟩
 | n+1,h=>by
  obtain⟨xs,j,q⟩:=build n fun i hi=>h i (by omega)
  obtain⟨x,u⟩:=h n (by omega);refine⟨xs++[x],by simp[j],fun i hi=>?_⟩;simp only[List.length_append,List.length_cons,List.length_nil]at hi;rcases Nat.lt_or_ge i xs.length with c | c
  ·rw[List.getElem_append_left c];exact q i c
  ·obtain rfl:i=n:=by omega
   have e:(xs++[x])[i]'(by simp;omega)=x:=by rw[List.getElem_append_right (by omega)];simp[j]
   rw[e];exact u
def Reads(w:World)(T:Ty)(c:QY)(x:T.den):Prop:=ai (fun a v=>w.cell? a=some v) T x (fun k v=>c[k]? = some v)∧Wf T x
theorem GK{base:Nat}{a:Addr}{n:Nat}{c:QY}(h:w.cells? base a n=some c):c.length=n∧∀k v,c[k]? = some v→w.cell? (a.add k)=some v:=by
 unfold World.cells? at h;split at h
 ·obtain⟨e,q⟩:=nC h;simp only[List.length_range]at e;refine⟨e,fun k v hk=>?_⟩;have f:k<n:=by rw[←e];exact(List.getElem?_eq_some_iff.1 hk).1
  obtain⟨y,j,u⟩:=q k k (by simp[f]);rw[hk]at j;cases j;exact u
 ·cases h
theorem Reads.cut{T:Ty}{e:QY}{off n:Nat}{x:T.den}(h:Reads w T ((e.drop off).take n) x):ai (fun a v=>w.cell? a=some v) T x (fun k v=>e[off+k]? = some v)∧Wf T x :=
 ⟨ai.mono (fun _ _ h=>h) (fun k v hk=>by
  rw[List.getElem?_take]at hk;split at hk
  ·simpa using hk
  ·cases hk) h.1,h.2⟩
theorem Aa{p:QY}:∀(j:List Field) (Ts:List Ty) (off:Nat),jk P off j Ts=true→j.length=Ts.length →
  (∀(i:Nat) f T,j[i]? = some f→Ts[i]? = some T→∃x:T.den,Reads w T ((p.drop f.offset).take (P.cellsOf f.type)) x) →
  ∀c,(∃x:c.den,ai (fun a v=>w.cell? a=some v) c x (fun k v=>p[off - c.size+k]? = some v)∧Wf c x)→c.size≤off →
  ∃x:(iM c Ts).den,ai (fun a v=>w.cell? a=some v) (iM c Ts) x (fun k v=>p[off - c.size+k]? = some v)∧Wf (iM c Ts) x
 | [],[],off,_,_,_,c,q,_=>q
 | [],_::_,_,_,hl,_,_,_,_=>by simp at hl
 | _::_,[],_,_,hl,_,_,_,_=>by simp at hl
 | f::j,T::Ts,off,u,hl,A,c,⟨B,q,w0⟩,C=>by
  simp only[jk,Bool.and_eq_true,beq_iff_eq]at u;obtain⟨⟨D,M⟩,E⟩:=u;obtain⟨y,I⟩:=A 0 f T rfl rfl;have e:=I.cut;rw[D]at e;obtain⟨z,hz,J⟩:=Aa j Ts (off+T.size) E (by simpa using hl) (fun i L T' a b=>A (i+1) L T' (by simpa using a) (by simpa using b)) T ⟨y,by
   rw[Nat.add_sub_cancel];exact e.1,e.2⟩ (Nat.le_add_left _ _)
  refine⟨(B,z),⟨q,?_⟩,w0,J⟩;refine ai.mono (fun _ _ h=>h) (fun k v hk=>?_) hz;rw[Nat.add_sub_cancel]at hk;show p[off - c.size+(c.size+k)]? = some v;rwa [show off - c.size+(c.size+k)=off+k by omega]
theorem Dj{q:QY}(e:List Field)(Ts:List Ty)(B:jk P 0 e Ts=true)(hl:e.length=Ts.length)(u:Ts≠[])
  (C:∀(i:Nat) f T,e[i]? = some f→Ts[i]? = some T→∃x:T.den,Reads w T ((q.drop f.offset).take (P.cellsOf f.type)) x):∃x:(gk Ts).den,Reads w (gk Ts) q x:=by
 match e,Ts with
 | [],[]=>exact absurd rfl u
 | [],_::_=>simp at hl
 | _::_,[]=>simp at hl
 | f::e,T::Ts =>
  simp only[jk,Bool.and_eq_true,beq_iff_eq]at B;obtain⟨⟨E,M⟩,I⟩:=B;obtain⟨y,J⟩:=C 0 f T rfl rfl;have c:=J.cut;rw[E]at c;obtain⟨z,hz,D⟩:=Aa e Ts (0+T.size) I (by simpa using hl) (fun i L T' a b=>C (i+1) L T' (by simpa using a) (by simpa using b)) T ⟨y,by
   rw[Nat.add_sub_cancel];exact c.1,c.2⟩ (Nat.le_add_left _ _)
  have j:ai (fun a v=>w.cell? a=some v) (iM T Ts) z (fun k v=>q[k]? = some v):=ai.mono (fun _ _ h=>h) (fun k v hk=>by
   rwa [Nat.add_sub_cancel,Nat.zero_add]at hk) hz
  cases Ts with
  | nil=>exact⟨(z,()),⟨j,trivial⟩,D,trivial⟩
  | cons b r=>exact⟨z,j,D⟩
theorem DS:∀(n:Nat) (t:TypeId) (T:Ty),uq P n t=some T→∀(j:Nat) (u:QY) (r:DataW H×List MemPlace),DataW.trod enc' P w 0 sp held j t u=some r→(∃x:T.den,Reads w T u x)∧u.length=T.size
 | 0,_,_,h,_,_,_,_=>by simp[uq]at h
 | n+1,t,T,h,0,u,r,c=>by simp[DataW.trod]at c
 | n+1,t,T,h,j+1,u,r,c=>by
  have ih:=DS n;simp only[uq]at h;unfold DataW.trod at c;split at h
  ·rename_i hu;cases h;rw[hu]at c;split at c <;> first | (exfalso;simp_all;done) | skip
   rename_i b _;exact⟨⟨b,by simp[ai],trivial⟩,rfl⟩
  ·rename_i k hu;cases h;rw[hu]at c;split at c <;> first | (exfalso;simp_all;done) | skip
   rename_i I J i e;cases e;split at c
   ·rename_i hk;obtain⟨rfl,D⟩:=hk;refine⟨⟨i,by simp[ai],?_⟩,rfl⟩;simp only[Lit.wf,Bool.and_eq_true,decide_eq_true_eq]at D;exact D
   ·cases c
  ·rename_i hu;cases h;rw[hu]at c;split at c <;> first | (exfalso;simp_all;done) | skip
   rename_i s e;split at c
   ·rename_i hs;refine⟨⟨s.data.toList,by simp[ai],?_⟩,rfl⟩;show s.data.toList.length≤maxLen;have e:s.data.toList.length=s.size:=Array.length_toList;rw[e];exact hs
   ·cases c
  ·rename_i hu;cases h;rw[hu]at c;split at c <;> first | (exfalso;simp_all;done) | skip
   rename_i I J i e;cases e;split at c
   ·rename_i hk;obtain⟨rfl,D⟩:=hk;refine⟨⟨dN i,by simp[ai],fun m hm=>?_⟩,rfl⟩;have L:i<18446744073709551616:=by simpa [Lit.wf]using D
    have e:=jP hm;subst e;exact⟨L,hm⟩
   ·cases c
  ·rename_i e hu;split at h
   ·rename_i A hA;split at h
    ·rename_i M;cases h;rw[hu]at c;split at c <;> first | (exfalso;simp_all;done) | skip
     ·exact⟨⟨[],⟨none,0,0,rfl,⟨rfl,Nat.le_refl _⟩,fun i hi=>absurd hi (by simp)⟩,Nat.zero_le _,fun i hi=>absurd hi (by simp)⟩,rfl⟩
     ·rename_i e' a len cap q;cases q;simp only at c;split at c
      ·rename_i hb;simp only[Option.bind_eq_some_iff]at c;obtain⟨N,he,_⟩:=c;obtain⟨g1,g2⟩:=nC he;simp only[List.length_range]at g1;obtain⟨O,z,B⟩:=build (A:=A) (p:=fun i x=>ai (fun a v=>w.cell? a=some v) A x (fun k v=>w.cell? (a.add (i*A.size+k))=some v)∧Wf A x) len fun i hi=>by obtain⟨y,_,E⟩:=g2 i i (by simp[hi]);simp only[Option.bind_eq_some_iff]at E;obtain⟨u,V,q4⟩:=E;obtain⟨s1,s2⟩:=GK V;obtain⟨⟨x,t1,t2⟩,_⟩:=ih e A hA j u y q4;refine⟨x,ai.mono (fun _ _ h=>h) (fun k v hk=>?_) t1,t2⟩;have:=s2 k v hk;rw[add_add]at this;rw[M.1]at this;exact this
       refine⟨⟨O,⟨some a,len,cap,rfl,⟨z.symm,hb.2.1⟩,fun i hi=>⟨a,rfl,(B i hi).1⟩⟩,?_,fun i hi=>(B i hi).2⟩,rfl⟩;show O.length≤maxLen;rw[z];exact Nat.le_trans hb.2.1 hb.2.2
      ·cases c
    ·cases h
   ·cases h
  ·rename_i fs hu;split at h
   ·rename_i Ts X;split at h
    ·rename_i hc;obtain⟨Y,Z,a1⟩:=hc;cases h;rw[hu]at c;split at c <;> first | (exfalso;simp_all;done) | skip
     rename_i a3 _ _ q;cases q;split at c
     ·rename_i C;simp only[Option.map_eq_some_iff]at c;obtain⟨O,a2,_⟩:=c;obtain⟨g1,g2⟩:=nC a2;obtain⟨I,J⟩:=nC X;refine⟨Dj fs.toList Ts Y I.symm a1 fun i f T hf hT=>?_,by rw[C,Z]⟩;obtain⟨T',q1,E⟩:=J i f hf;rw[hT]at q1;cases q1;obtain⟨y,_,V⟩:=g2 i f hf;exact(ih f.type T E j _ y V).1
     ·cases c
    ·cases h
   ·cases h
  ·cases h
end
def Mw:List Ty→Type
 | []=>Unit
 | T::Ts=>T.den×Mw Ts
def Km(T:Ty)(x:T.den):ag:=if T.scalar then .p false T x else .agg (flat false T x)
def LO:(Ts:List Ty)→Mw Ts→List ag
 | [],_=>[]
 | T::Ts,x=>Km T x.1::LO Ts x.2
def NJ:(Ts:List Ty)→Mw Ts→Prop
 | [],_=>True
 | T::Ts,x=>Wf T x.1∧NJ Ts x.2
section
variable{H:Type}{en:TypeId×Value→H}{P:Program}{w:World}{sp:Nat→Bool}{held:Bool}
theorem Az{t:TypeId}{n:Nat}{T:Ty}(ht:uq P n t=some T){r:Reach}{base:Nat}{v:Value}(h:Value.okWide P w r base t v):(∃c,v = .agg c)∨T.scalar=true∧v.cells = #[v]:=by
 cases n with
 | zero=>simp[uq]at ht
 | succ n =>
  simp only[uq]at ht;unfold Value.okWide at h;split at ht
  ·rename_i hu;cases ht;rw[hu]at h;right
   simp only[Cell.okWide,hu]at h;refine⟨rfl,?_⟩;cases v <;> simp_all [Cell.ok,Value.cells]
  ·rename_i k hu;cases ht;rw[hu]at h;right
   simp only[Cell.okWide,hu]at h;refine⟨rfl,?_⟩;cases v <;> simp_all [Cell.ok,Value.cells]
  ·rename_i hu;cases ht;rw[hu]at h;right
   simp only[Cell.okWide,hu]at h;refine⟨rfl,?_⟩;cases v <;> simp_all [Cell.ok,Value.cells]
  ·rename_i hu;cases ht;rw[hu]at h;right
   simp only[Cell.okWide,hu]at h;refine⟨rfl,?_⟩;cases v <;> simp_all [Cell.ok,Value.cells]
  ·rename_i e hu;split at ht
   ·split at ht
    ·cases ht;rw[hu]at h;right
     simp only[Cell.okWide,hu]at h;refine⟨rfl,?_⟩;cases v <;> simp_all [Cell.ok,Value.cells]
    ·cases ht
   ·cases ht
  ·rename_i f hu;rw[hu]at h;obtain⟨c,e,_⟩:=h;exact .inl ⟨c,e⟩
  ·cases ht
theorem IB{t:TypeId}{n:Nat}{T:Ty}(ht:uq P n t=some T){r:Reach}{base:Nat}{c:QU}(h:Value.okWide P w r base t (.agg c)):T.scalar=false:=by
 cases n with
 | zero=>simp[uq]at ht
 | succ n =>
  simp only[uq]at ht;unfold Value.okWide at h;split at ht
  ·rename_i hu;rw[hu]at h;simp[Cell.okWide,hu,Cell.ok]at h
  ·rename_i k hu;rw[hu]at h;simp[Cell.okWide,hu,Cell.ok]at h
  ·rename_i hu;rw[hu]at h;simp[Cell.okWide,hu,Cell.ok]at h
  ·rename_i hu;rw[hu]at h;simp[Cell.okWide,hu,Cell.ok]at h
  ·rename_i e hu;rw[hu]at h;simp[Cell.okWide,hu,Cell.ok]at h
  ·split at ht
   ·rename_i Ts _;split at ht
    ·rename_i f;cases ht;match Ts,f.2.2 with
     | [a],_=>rfl
     | a::b::r,_=>rfl
    ·cases ht
   ·cases ht
  ·cases ht
theorem HH{t:TypeId}{n:Nat}{T:Ty}(ht:uq P n t=some T){v:Value}{d:DataW H}{p:List MemPlace}(h:DataW.Trod en P w 0 sp held t v d p){r:Reach}{base:Nat}(z:Value.okWide P w r base t v):
  ∃x:T.den,V (Fr gr (fun _=>False) w) js (Km T x) v∧Wf T x:=by
 obtain⟨f,A⟩:=h;obtain⟨⟨x,B,C⟩,D⟩:=DS n t T ht f _ _ A;refine⟨x,?_,C⟩;have c:ai (Fr gr (fun _=>False) w false) T x (fun k u=>v.cells.toList[k]? = some u):=ai.mono (fun a u hu=>⟨fun e=>e,fun _ e=>e,World.fq hu⟩) (fun _ _ h=>h) B;rcases Az ht z with⟨E,rfl⟩ | ⟨j,I⟩
 ·have j:=IB ht z;unfold Km;rw[j];simp only[Bool.false_eq_true,if_false,V];refine⟨E,rfl,by rw[eG,←D];simp[Value.cells],jJ false T x _ (ai.mono (fun _ _ h=>h) (fun k u hk=>by simpa [Value.cells]using hk) c)⟩
 ·unfold Km;rw[if_pos j];simp only[V];refine⟨j,?_⟩;rw[I]at c;have q:ai (Fr gr (fun _=>False) w false) T x (fun k u=>(#[v]:QU).toList[k]? = some u):=c;refine ai.gB (fun k u hk hu=>?_) q;rw[Ty.fB j]at hk;obtain rfl:k=0:=by omega
  simp at hu;exact hu.symm
theorem Ae{n:Nat}:∀ {ts:List TypeId} {Ts:List Ty} {c:QY} {e:List (DataW H)} {p:List MemPlace},ts.map (uq P n)=Ts.map some→DataW.TrodAll en P w 0 sp held ts c e p→∀ {r:Reach} {base:Nat},
  (∀(j:Nat) t v,ts[j]? = some t→c[j]? = some v→Value.okWide P w r base t v)→∃x:Mw Ts,iP (Fr gr (fun _=>False) w) js (LO Ts x) c∧NJ Ts x∧e.length=ts.length
 | [],[],[],[],_,_,_,_,_,_=>⟨(),trivial,trivial,rfl⟩
 | t::ts,T::Ts,v::c,d::e,p,hT,⟨q,J,u,z,_⟩,r,base,f=>by
  simp only[List.map_cons,List.cons.injEq]at hT;obtain⟨x,A,B⟩:=HH hT.1 u (f 0 t v rfl rfl);obtain⟨y,D,wy,hl⟩:=Ae hT.2 z (fun j E I a b=>f (j+1) E I (by simpa using a) (by simpa using b));exact⟨(x,y),⟨A,D⟩,⟨B,wy⟩,by simp[hl]⟩
 | [],_::_,_,_,_,hT,_,_,_,_=>by simp at hT
 | _::_,[],_,_,_,hT,_,_,_,_=>by simp at hT
 | [],[],_::_,_,_,_,h,_,_,_=>h.elim
 | [],[],[],_::_,_,_,h,_,_,_=>h.elim
 | _::_,_::_,[],_,_,_,h,_,_,_=>h.elim
 | _::_,_::_,_::_,[],_,_,h,_,_,_=>h.elim
theorem zM(hl:laidOutB P=true){u:World}(hb:Below w.heap.size w u):∀ {ts:List TypeId} {f:QY} {j:List (DataW H)} {p:List MemPlace},ts.all (fun t=>P.readableRec t && decide (t<P.types.size))=true →
  DataW.TrodAll en P w 0 (fun _=>true) true ts f j p→DataW.TrodAll en P u 0 (fun b=>decide (b<w.heap.size)) true ts f j p
 | [],[],[],_,_,h=>h
 | t::ts,v::f,d::j,p,c,⟨q,z,x,A,e⟩ =>
  by
   simp only[List.all_cons,Bool.and_eq_true,decide_eq_true_eq]at c;exact⟨q,z,Below.trod hl c.1.1 c.1.2 x hb (by obtain⟨m,B⟩:=x;exact DataW.trod_lt m _ _ _ B),zM hl hb c.2 A,e⟩
 | [],_::_,_,_,_,h=>h.elim
 | [],[],_::_,_,_,h=>h.elim
 | _::_,[],_,_,_,h=>h.elim
 | _::_,_::_,[],_,_,h=>h.elim
end
end Go.Tv
namespace Go.Proofs.YtmcemnfjddoejaaGreatDoor.T
open Go Go.Tv Go.Proofs
noncomputable section
abbrev NO:Ty:= .prod (.int .u8) (.prod (.int .u8) (.prod (.int .u8) (.prod (.slice (.int .u8)) (.slice (.prod (.int .u8) (.prod (.slice (.int .u8)) (.slice (.int .u8))))))))
abbrev Ou:Ty:= .prod NO (.prod NO (.prod (.slice (.int .u8)) (.prod (.slice (.int .u8)) (.prod (.slice (.int .u8)) (.prod (.slice (.int .u8)) (.prod (.int .u8) (.int .u8)))))))
theorem H0{l:QK}(h:Wf (.slice (.int .u8)) l):∀i,0≤l.getD i 0∧l.getD i 0≤255:=fun i=>by
 by_cases hi:i<l.length
 ·have:=h.2 i hi;rw[jI hi];exact this
 ·rw[List.getD_eq_getElem?_getD,List.getElem?_eq_none (by omega)];simp
theorem F0{x:NO.den}(h:Wf NO x):N6 x.1 x.2.2.2.2:=by
 refine⟨h.1.1,fun i=>?_⟩;by_cases hi:i<x.2.2.2.2.length
 ·have:=h.2.2.2.2.2 i hi;rw[jI hi];exact this.1.1
 ·rw[List.getD_eq_getElem?_getD,List.getElem?_eq_none (by omega)];exact Int.le_refl _
theorem Kt{x:Ou.den}(h:Wf Ou x):Ho (dH x.1.1 x.1.2.1 x.1.2.2.1 x.1.2.2.2.1 x.1.2.2.2.2 x.2.1.1 x.2.1.2.1 x.2.1.2.2.1 x.2.1.2.2.2.1 x.2.1.2.2.2.2 x.2.2.1 x.2.2.2.1 x.2.2.2.2.1 x.2.2.2.2.2.1 x.2.2.2.2.2.2.1 x.2.2.2.2.2.2.2) (fun _=>True) :=
 Kg (F0 h.1) (F0 h.2.1) (H0 h.2.2.2.2.2.1)
theorem pick{α:Type}(c:Prop)[Decidable c](a b:α):(if c then some a else some b)=some (if c then a else b):=by split <;> rfl
theorem zu{E I J:Int}{L:QK}{M:List yE}{N O V:Int}{X:QK}{j:List yE}{u v z A:QK}{B C:Int}(hd:Ho (dH E I J L M N O V X j u v z A B C) (fun _=>True))(c:Wy){n:Int}(hn:0≤n∧n≤65535)(r:QX)(w:Int):
  cT E I J L M N O V X j u v z A B C c.1 c.2.1 c.2.2.1 c.2.2.2.1 c.2.2.2.2.1 c.2.2.2.2.2 n r w=some true:=by
 unfold cT;rw[Ky];simp only[Option.bind_some,Bool.not_true,Bool.false_eq_true,if_false];split
 ·rfl
 obtain⟨d,e,_⟩:=hd;have Z:Int.tmod n 5000=n % 5000:=Int.tmod_eq_emod_of_nonneg hn.1;have ew:IntKind.i64.wrap (n % 5000)=n % 5000:=wrap_i64 (by omega) (by omega);rw[e,Z,ew];simp only[Option.bind_some,pick];generalize (if(Int.tmod w 3 == 0)=true then r else d.2.2.2.2.1)=v1;generalize (if(Int.tmod w 3 == 1)=true then r else d.2.2.2.2.2.1)=v2;rw[if_pos (by decide),if_pos (by decide),if_pos (by decide),if_pos (by omega)];generalize hT:List.replicate (n % 5000).toNat (0:Int)=t;have hb:Bytes t:=fun x Y=>by rw[←hT]at Y;rw[List.eq_of_mem_replicate Y];decide
 have hl:t.length≤100000:=by rw[←hT,List.length_replicate];omega
 obtain⟨⟨b,k⟩,eb,D⟩:=Em d.1 d.2.1 d.2.2.1 d.2.2.2.1 v1 v2 d.2.2.2.2.2.2.1 d.2.2.2.2.2.2.2.1 d.2.2.2.2.2.2.2.2;unfold np;rw[if_neg (by decide),eb];simp only[Option.bind_some];by_cases hk:(k.1 != 0)=true
 ·simp[hk]
 ·simp only[hk,Bool.false_eq_true,if_false];have rb:RB b:=(D.resolve_right fun h=>by simp at hk;exact h.1 hk).2;rcases Ow rb (c:=c) hb hl with⟨-,q⟩ | ⟨-,⟨-,q⟩ | ⟨-,p,kn,q,hf⟩⟩
  ·rw[q];rfl
  ·rw[q];rfl
  ·rw[q];have f:iter (gD c.1 c.2.1 c.2.2.1 c.2.2.2.1 c.2.2.2.2.1 c.2.2.2.2.2 [] b) ((LF p.1 p.2 c).1,(LF p.1 p.2 c).2,t,p.1,p.2,some (AJ p.1 p.2 c),kn,([]:List OJ),0)=some (.inl []):=dq (LP _ _ _ _ _ _ b _ _ _ _ _ _ _ _);simp only[Option.bind_some,bne_self_eq_false,Bool.false_eq_true,if_false,JT,f];rfl
abbrev fW:List Ty:=[Ou,(.prod (.int .i64) (.prod (.int .i64) (.prod (.int .u8) (.prod (.int .i64) (.prod (.int .i64) .flt))))),(.int .u16),.str,(.int .u8)]
theorem xj(x:Mw fW)(c:NJ fW x):cT x.1.1.1 x.1.1.2.1 x.1.1.2.2.1 x.1.1.2.2.2.1 x.1.1.2.2.2.2 x.1.2.1.1 x.1.2.1.2.1 x.1.2.1.2.2.1 x.1.2.1.2.2.2.1 x.1.2.1.2.2.2.2 x.1.2.2.1 x.1.2.2.2.1 x.1.2.2.2.2.1 x.1.2.2.2.2.2.1 x.1.2.2.2.2.2.2.1 x.1.2.2.2.2.2.2.2 x.2.1.1 x.2.1.2.1 x.2.1.2.2.1 x.2.1.2.2.2.1 x.2.1.2.2.2.2.1 x.2.1.2.2.2.2.2 x.2.2.1 x.2.2.2.1 x.2.2.2.2.1=some true :=
 zu (Kt c.1) (x.2.1:Wy) c.2.2.1 _ _
end
end Go.Proofs.YtmcemnfjddoejaaGreatDoor.T
