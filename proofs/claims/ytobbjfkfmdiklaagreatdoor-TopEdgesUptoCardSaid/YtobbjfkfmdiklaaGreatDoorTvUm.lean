import Derived.Test.YtobbjfkfmdiklaaGreatDoorTvSm
import Derived.ProofKit
import Derived.OpenShut
import Derived.SizedLaws
import Derived.Carry
import Derived.Test.YtobbjfkfmdiklaaGreatDoorTv50gim
namespace Go.Tv
open Go Go.RowKit
def th(P:Program):Nat→TypeId→Option Ty
 | 0,_=>none
 | n+1,t=>match P.underlying t with
  | some .bool=>some .bool
  | some (.int k)=>some (.int k)
  | some .string=>some .str
  | some (.float .f64)=>some .flt
  | some (.slice e)=>match th P n e with
   | some A=>if P.cellsOf e=A.size∧0<A.size then some (.slice A)else none
   | none=>none
  | some (.struct j)=>match j.toList.mapM (fun f=>th P n f.type)with
   | some Ts=>if je P 0 j.toList Ts=true∧P.cellsOf t=(gh Ts).size∧Ts≠[]then some (gh Ts)else none
   | none=>none
  | _=>none
def Wf:(T:Ty)→T.den→Prop
 | .int k,n=>k.min≤(show Int from n)∧(show Int from n)≤k.max
 | .bool,_=>True
 | .str,s=>List.length (α:=UInt8) s≤maxLen
 | .flt,n=>∀m:Nat,(show QJ from n)=some m→m<18446744073709551616∧cj m=some m
 | .unit,_=>True
 | .prod a b,x=>Wf a x.1∧Wf b x.2
 | .slice A,j=>List.length (α:=A.den) j≤maxLen∧∀i (h:i<List.length (α:=A.den) j),Wf A j[i]
 | .ptr _,_=>True
 | .tree _ _,_=>True
 | .arr _ _,_=>True
 | .mapi _ _,_=>True
section
variable{H:Type}{enc':TypeId×Value→H}{P:Program}{w:World}{sp:Nat→Bool}{held:Bool}
theorem build{A:Ty}{p:Nat→A.den→Prop}:∀(n:Nat),(∀i,i<n→∃x,p i x)→∃xs:List A.den,xs.length=n∧∀i (h:i<xs.length),p i xs[i]
 | 0,_=>⟨[],rfl,fun i h=>absurd h (by simp)⟩
 | n+1,h=>by
  obtain⟨xs,h1,h2⟩:=build n fun i hi=>h i (by omega)
  obtain⟨x,q⟩:=h n (by omega);refine⟨xs++[x],by simp[h1],fun i hi=>?_⟩;simp only[List.length_append,List.length_cons,List.length_nil]at hi;rcases Nat.lt_or_ge i xs.length with j | j
  ·rw[List.getElem_append_left j];exact h2 i j
  ·obtain rfl:i=n:=by omega
   have e:(xs++[x])[i]'(by simp;omega)=x:=by rw[List.getElem_append_right (by omega)];simp[h1]
   rw[e];exact q
def Reads(w:World)(T:Ty)(j:QY)(x:T.den):Prop:=ai (fun a v=>w.cell? a=some v) T x (fun k v=>j[k]? = some v)∧Wf T x
theorem FE{base:Nat}{a:Addr}{n:Nat}{j:QY}(h:w.cells? base a n=some j):j.length=n∧∀k v,j[k]? = some v→w.cell? (a.add k)=some v:=by
 unfold World.cells? at h;split at h
 ·obtain⟨h1,h2⟩:=lC h;simp only[List.length_range]at h1;refine⟨h1,fun k v hk=>?_⟩;have q:k<n:=by rw[←h1];exact(List.getElem?_eq_some_iff.1 hk).1
  obtain⟨y,u,x⟩:=h2 k k (by simp[q]);rw[hk]at u;cases u;exact x
 ·cases h
theorem Reads.cut{T:Ty}{j:QY}{off n:Nat}{x:T.den}(h:Reads w T ((j.drop off).take n) x):ai (fun a v=>w.cell? a=some v) T x (fun k v=>j[off+k]? = some v)∧Wf T x :=
 ⟨ai.mono (fun _ _ h=>h) (fun k v hk=>by
  rw[List.getElem?_take]at hk;split at hk
  ·simpa using hk
  ·cases hk) h.1,h.2⟩
theorem yM{u:QY}:∀(q:List Field) (Ts:List Ty) (off:Nat),je P off q Ts=true→q.length=Ts.length →
  (∀(i:Nat) f T,q[i]? = some f→Ts[i]? = some T→∃x:T.den,Reads w T ((u.drop f.offset).take (P.cellsOf f.type)) x) →
  ∀j,(∃x:j.den,ai (fun a v=>w.cell? a=some v) j x (fun k v=>u[off - j.size+k]? = some v)∧Wf j x)→j.size≤off →
  ∃x:(iN j Ts).den,ai (fun a v=>w.cell? a=some v) (iN j Ts) x (fun k v=>u[off - j.size+k]? = some v)∧Wf (iN j Ts) x
 | [],[],off,_,_,_,j,A,_=>A
 | [],_::_,_,_,hl,_,_,_,_=>by simp at hl
 | _::_,[],_,_,hl,_,_,_,_=>by simp at hl
 | f::q,T::Ts,off,B,hl,hf,j,⟨C,A,w0⟩,D=>by
  simp only[je,Bool.and_eq_true,beq_iff_eq]at B;obtain⟨⟨h1,h2⟩,E⟩:=B;obtain⟨y,I⟩:=hf 0 f T rfl rfl;have p:=I.cut;rw[h1]at p;obtain⟨z,hz,J⟩:=yM q Ts (off+T.size) E (by simpa using hl) (fun i L T' a b=>hf (i+1) L T' (by simpa using a) (by simpa using b)) T ⟨y,by
   rw[Nat.add_sub_cancel];exact p.1,p.2⟩ (Nat.le_add_left _ _)
  refine⟨(C,z),⟨A,?_⟩,w0,J⟩;refine ai.mono (fun _ _ h=>h) (fun k v hk=>?_) hz;rw[Nat.add_sub_cancel]at hk;show u[off - j.size+(j.size+k)]? = some v;rwa [show off - j.size+(j.size+k)=off+k by omega]
theorem Bj{B:QY}(q:List Field)(Ts:List Ty)(D:je P 0 q Ts=true)(hl:q.length=Ts.length)(C:Ts≠[])
  (hf:∀(i:Nat) f T,q[i]? = some f→Ts[i]? = some T→∃x:T.den,Reads w T ((B.drop f.offset).take (P.cellsOf f.type)) x):∃x:(gh Ts).den,Reads w (gh Ts) B x:=by
 match q,Ts with
 | [],[]=>exact absurd rfl C
 | [],_::_=>simp at hl
 | _::_,[]=>simp at hl
 | f::q,T::Ts =>
  simp only[je,Bool.and_eq_true,beq_iff_eq]at D;obtain⟨⟨h1,h2⟩,I⟩:=D;obtain⟨y,J⟩:=hf 0 f T rfl rfl;have j:=J.cut;rw[h1]at j;obtain⟨z,hz,E⟩:=yM q Ts (0+T.size) I (by simpa using hl) (fun i L T' a b=>hf (i+1) L T' (by simpa using a) (by simpa using b)) T ⟨y,by
   rw[Nat.add_sub_cancel];exact j.1,j.2⟩ (Nat.le_add_left _ _)
  have u:ai (fun a v=>w.cell? a=some v) (iN T Ts) z (fun k v=>B[k]? = some v):=ai.mono (fun _ _ h=>h) (fun k v hk=>by
   rwa [Nat.add_sub_cancel,Nat.zero_add]at hk) hz
  cases Ts with
  | nil=>exact⟨(z,()),⟨u,trivial⟩,E,trivial⟩
  | cons b r=>exact⟨z,u,E⟩
theorem Ce:∀(n:Nat) (t:TypeId) (T:Ty),th P n t=some T→∀(u:Nat) (z:QY) (r:DataW H×List MemPlace),DataW.trod enc' P w 0 sp held u t z=some r→(∃x:T.den,Reads w T z x)∧z.length=T.size
 | 0,_,_,h,_,_,_,_=>by simp[th]at h
 | n+1,t,T,h,0,z,r,j=>by simp[DataW.trod]at j
 | n+1,t,T,h,u+1,z,r,j=>by
  have ih:=Ce n;simp only[th]at h;unfold DataW.trod at j;split at h
  ·rename_i hu;cases h;rw[hu]at j;split at j <;> first | (exfalso;simp_all;done) | skip
   rename_i b _;exact⟨⟨b,by simp[ai],trivial⟩,rfl⟩
  ·rename_i k hu;cases h;rw[hu]at j;split at j <;> first | (exfalso;simp_all;done) | skip
   rename_i J L i e;cases e;split at j
   ·rename_i hk;obtain⟨rfl,E⟩:=hk;refine⟨⟨i,by simp[ai],?_⟩,rfl⟩;simp only[Lit.wf,Bool.and_eq_true,decide_eq_true_eq]at E;exact E
   ·cases j
  ·rename_i hu;cases h;rw[hu]at j;split at j <;> first | (exfalso;simp_all;done) | skip
   rename_i s e;split at j
   ·rename_i hs;refine⟨⟨s.data.toList,by simp[ai],?_⟩,rfl⟩;show s.data.toList.length≤maxLen;have e:s.data.toList.length=s.size:=Array.length_toList;rw[e];exact hs
   ·cases j
  ·rename_i hu;cases h;rw[hu]at j;split at j <;> first | (exfalso;simp_all;done) | skip
   rename_i J L i e;cases e;split at j
   ·rename_i hk;obtain⟨rfl,E⟩:=hk;refine⟨⟨cj i,by simp[ai],fun m hm=>?_⟩,rfl⟩;have M:i<18446744073709551616:=by simpa [Lit.wf]using E
    have e:=hJ hm;subst e;exact⟨M,hm⟩
   ·cases j
  ·rename_i e hu;split at h
   ·rename_i A hA;split at h
    ·rename_i N;cases h;rw[hu]at j;split at j <;> first | (exfalso;simp_all;done) | skip
     ·exact⟨⟨[],⟨none,0,0,rfl,⟨rfl,Nat.le_refl _⟩,fun i hi=>absurd hi (by simp)⟩,Nat.zero_le _,fun i hi=>absurd hi (by simp)⟩,rfl⟩
     ·rename_i e' a len cap q;cases q;simp only at j;split at j
      ·rename_i hb;simp only[Option.bind_eq_some_iff]at j;obtain⟨O,he,_⟩:=j;obtain⟨g1,g2⟩:=lC he;simp only[List.length_range]at g1;obtain⟨V,B,C⟩:=build (A:=A) (p:=fun i x=>ai (fun a v=>w.cell? a=some v) A x (fun k v=>w.cell? (a.add (i*A.size+k))=some v)∧Wf A x) len fun i hi=>by obtain⟨y,_,I⟩:=g2 i i (by simp[hi]);simp only[Option.bind_eq_some_iff]at I;obtain⟨z,X,q4⟩:=I;obtain⟨s1,s2⟩:=FE X;obtain⟨⟨x,t1,t2⟩,_⟩:=ih e A hA u z y q4;refine⟨x,ai.mono (fun _ _ h=>h) (fun k v hk=>?_) t1,t2⟩;have:=s2 k v hk;rw[add_add]at this;rw[N.1]at this;exact this
       refine⟨⟨V,⟨some a,len,cap,rfl,⟨B.symm,hb.2.1⟩,fun i hi=>⟨a,rfl,(C i hi).1⟩⟩,?_,fun i hi=>(C i hi).2⟩,rfl⟩;show V.length≤maxLen;rw[B];exact Nat.le_trans hb.2.1 hb.2.2
      ·cases j
    ·cases h
   ·cases h
  ·rename_i fs hu;split at h
   ·rename_i Ts Y;split at h
    ·rename_i hc;obtain⟨Z,a1,a2⟩:=hc;cases h;rw[hu]at j;split at j <;> first | (exfalso;simp_all;done) | skip
     rename_i a4 _ _ q;cases q;split at j
     ·rename_i D;simp only[Option.map_eq_some_iff]at j;obtain⟨V,a3,_⟩:=j;obtain⟨g1,g2⟩:=lC a3;obtain⟨J,L⟩:=lC Y;refine⟨Bj fs.toList Ts Z J.symm a2 fun i f T hf hT=>?_,by rw[D,a1]⟩;obtain⟨T',q1,I⟩:=L i f hf;rw[hT]at q1;cases q1;obtain⟨y,_,X⟩:=g2 i f hf;exact(ih f.type T I u _ y X).1
     ·cases j
    ·cases h
   ·cases h
  ·cases h
end
def LM:List Ty→Type
 | []=>Unit
 | T::Ts=>T.den×LM Ts
def Jx(T:Ty)(x:T.den):ag:=if T.scalar then .p false T x else .agg (flat false T x)
def LG:(Ts:List Ty)→LM Ts→List ag
 | [],_=>[]
 | T::Ts,x=>Jx T x.1::LG Ts x.2
def MK:(Ts:List Ty)→LM Ts→Prop
 | [],_=>True
 | T::Ts,x=>Wf T x.1∧MK Ts x.2
section
variable{H:Type}{en:TypeId×Value→H}{P:Program}{w:World}{sp:Nat→Bool}{held:Bool}
theorem Ab{t:TypeId}{n:Nat}{T:Ty}(ht:th P n t=some T){r:Reach}{base:Nat}{v:Value}(h:Value.okWide P w r base t v):(∃j,v = .agg j)∨T.scalar=true∧v.cells = #[v]:=by
 cases n with
 | zero=>simp[th]at ht
 | succ n =>
  simp only[th]at ht;unfold Value.okWide at h;split at ht
  ·rename_i hu;cases ht;rw[hu]at h;right
   simp only[Cell.okWide,hu]at h;refine⟨rfl,?_⟩;cases v <;> simp_all [Cell.ok,Value.cells]
  ·rename_i k hu;cases ht;rw[hu]at h;right
   simp only[Cell.okWide,hu]at h;refine⟨rfl,?_⟩;cases v <;> simp_all [Cell.ok,Value.cells]
  ·rename_i hu;cases ht;rw[hu]at h;right
   simp only[Cell.okWide,hu]at h;refine⟨rfl,?_⟩;cases v <;> simp_all [Cell.ok,Value.cells]
  ·rename_i hu;cases ht;rw[hu]at h;right
   simp only[Cell.okWide,hu]at h;refine⟨rfl,?_⟩;cases v <;> simp_all [Cell.ok,Value.cells]
  ·rename_i e hu;split at ht
   ·split at ht
    ·cases ht;rw[hu]at h;right
     simp only[Cell.okWide,hu]at h;refine⟨rfl,?_⟩;cases v <;> simp_all [Cell.ok,Value.cells]
    ·cases ht
   ·cases ht
  ·rename_i p hu;rw[hu]at h;obtain⟨j,e,_⟩:=h;exact .inl ⟨j,e⟩
  ·cases ht
theorem HW{t:TypeId}{n:Nat}{T:Ty}(ht:th P n t=some T){r:Reach}{base:Nat}{j:QU}(h:Value.okWide P w r base t (.agg j)):T.scalar=false:=by
 cases n with
 | zero=>simp[th]at ht
 | succ n =>
  simp only[th]at ht;unfold Value.okWide at h;split at ht
  ·rename_i hu;rw[hu]at h;simp[Cell.okWide,hu,Cell.ok]at h
  ·rename_i k hu;rw[hu]at h;simp[Cell.okWide,hu,Cell.ok]at h
  ·rename_i hu;rw[hu]at h;simp[Cell.okWide,hu,Cell.ok]at h
  ·rename_i hu;rw[hu]at h;simp[Cell.okWide,hu,Cell.ok]at h
  ·rename_i e hu;rw[hu]at h;simp[Cell.okWide,hu,Cell.ok]at h
  ·split at ht
   ·rename_i Ts _;split at ht
    ·rename_i hc;cases ht;match Ts,hc.2.2 with
     | [a],_=>rfl
     | a::b::r,_=>rfl
    ·cases ht
   ·cases ht
  ·cases ht
theorem GS{t:TypeId}{n:Nat}{T:Ty}(ht:th P n t=some T){v:Value}{d:DataW H}{p:List MemPlace}(h:DataW.Trod en P w 0 sp held t v d p){r:Reach}{base:Nat}(B:Value.okWide P w r base t v):
  ∃x:T.den,V (Fr fK (fun _=>False) w) jl (Jx T x) v∧Wf T x:=by
 obtain⟨q,hf⟩:=h;obtain⟨⟨x,h1,h2⟩,C⟩:=Ce n t T ht q _ _ hf;refine⟨x,?_,h2⟩;have j:ai (Fr fK (fun _=>False) w false) T x (fun k u=>v.cells.toList[k]? = some u):=ai.mono (fun a u hu=>⟨fun e=>e,fun _ e=>e,World.fB hu⟩) (fun _ _ h=>h) h1;rcases Ab ht B with⟨D,rfl⟩ | ⟨z,hc⟩
 ·have z:=HW ht B;unfold Jx;rw[z];simp only[Bool.false_eq_true,if_false,V];refine⟨D,rfl,by rw[eP,←C];simp[Value.cells],jL false T x _ (ai.mono (fun _ _ h=>h) (fun k u hk=>by simpa [Value.cells]using hk) j)⟩
 ·unfold Jx;rw[if_pos z];simp only[V];refine⟨z,?_⟩;rw[hc]at j;have A:ai (Fr fK (fun _=>False) w false) T x (fun k u=>(#[v]:QU).toList[k]? = some u):=j;refine ai.gA (fun k u hk hu=>?_) A;rw[Ty.fG z]at hk;obtain rfl:k=0:=by omega
  simp at hu;exact hu.symm
theorem yx{n:Nat}:∀ {ts:List TypeId} {Ts:List Ty} {u:QY} {z:List (DataW H)} {p:List MemPlace},ts.map (th P n)=Ts.map some→DataW.TrodAll en P w 0 sp held ts u z p→∀ {r:Reach} {base:Nat},
  (∀(j:Nat) t v,ts[j]? = some t→u[j]? = some v→Value.okWide P w r base t v)→∃x:LM Ts,iS (Fr fK (fun _=>False) w) jl (LG Ts x) u∧MK Ts x∧z.length=ts.length
 | [],[],[],[],_,_,_,_,_,_=>⟨(),trivial,trivial,rfl⟩
 | t::ts,T::Ts,v::u,d::z,p,hT,⟨q,M,h1,h2,_⟩,r,base,B=>by
  simp only[List.map_cons,List.cons.injEq]at hT;obtain⟨x,D,E⟩:=GS hT.1 h1 (B 0 t v rfl rfl);obtain⟨y,I,wy,hl⟩:=yx hT.2 h2 (fun j J L a b=>B (j+1) J L (by simpa using a) (by simpa using b));exact⟨(x,y),⟨D,I⟩,⟨E,wy⟩,by simp[hl]⟩
 | [],_::_,_,_,_,hT,_,_,_,_=>by simp at hT
 | _::_,[],_,_,_,hT,_,_,_,_=>by simp at hT
 | [],[],_::_,_,_,_,h,_,_,_=>h.elim
 | [],[],[],_::_,_,_,h,_,_,_=>h.elim
 | _::_,_::_,[],_,_,_,h,_,_,_=>h.elim
 | _::_,_::_,_::_,[],_,_,h,_,_,_=>h.elim
theorem yq(hl:laidOutB P=true){z:World}(hb:Below w.heap.size w z):∀ {ts:List TypeId} {u:QY} {x:List (DataW H)} {p:List MemPlace},ts.all (fun t=>P.readableRec t && decide (t<P.types.size))=true →
  DataW.TrodAll en P w 0 (fun _=>true) true ts u x p→DataW.TrodAll en P z 0 (fun b=>decide (b<w.heap.size)) true ts u x p
 | [],[],[],_,_,h=>h
 | t::ts,v::u,d::x,p,j,⟨q,B,h1,h2,e⟩ =>
  by
   simp only[List.all_cons,Bool.and_eq_true,decide_eq_true_eq]at j;exact⟨q,B,Below.trod hl j.1.1 j.1.2 h1 hb (by obtain⟨m,hm⟩:=h1;exact DataW.trod_lt m _ _ _ hm),yq hl hb j.2 h2,e⟩
 | [],_::_,_,_,_,h=>h.elim
 | [],[],_::_,_,_,h=>h.elim
 | _::_,[],_,_,_,h=>h.elim
 | _::_,_::_,[],_,_,h=>h.elim
end
end Go.Tv
namespace Go.Proofs.YtobbjfkfmdiklaaGreatDoor.T
open Go Go.Tv Go.Proofs
noncomputable section
abbrev MM:Ty:= .prod (.int .u8) (.prod (.int .u8) (.prod (.int .u8) (.prod (.slice (.int .u8)) (.slice (.prod (.int .u8) (.prod (.slice (.int .u8)) (.slice (.int .u8))))))))
abbrev Nz:Ty:= .prod MM (.prod MM (.prod (.slice (.int .u8)) (.prod (.slice (.int .u8)) (.prod (.slice (.int .u8)) (.prod (.slice (.int .u8)) (.prod (.int .u8) (.int .u8)))))))
theorem Cg{l:QK}(h:Wf (.slice (.int .u8)) l):∀i,0≤l.getD i 0∧l.getD i 0≤255:=fun i=>by
 by_cases hi:i<l.length
 ·have:=h.2 i hi;rw[kF hi];exact this
 ·rw[List.getD_eq_getElem?_getD,List.getElem?_eq_none (by omega)];simp
theorem En{x:MM.den}(h:Wf MM x):Np x.1 x.2.2.2.2:=by
 refine⟨h.1.1,fun i=>?_⟩;by_cases hi:i<x.2.2.2.2.length
 ·have:=h.2.2.2.2.2 i hi;rw[kF hi];exact this.1.1
 ·rw[List.getD_eq_getElem?_getD,List.getElem?_eq_none (by omega)];exact Int.le_refl _
theorem Ja{x:Nz.den}(h:Wf Nz x):Ho (cW x.1.1 x.1.2.1 x.1.2.2.1 x.1.2.2.2.1 x.1.2.2.2.2 x.2.1.1 x.2.1.2.1 x.2.1.2.2.1 x.2.1.2.2.2.1 x.2.1.2.2.2.2 x.2.2.1 x.2.2.2.1 x.2.2.2.2.1 x.2.2.2.2.2.1 x.2.2.2.2.2.2.1 x.2.2.2.2.2.2.2) (fun _=>True) :=
 JG (En h.1) (En h.2.1) (Cg h.2.2.2.2.2.1)
def MH:Nat→XZ→Nat→Prop
 | a,[],b=>a=b
 | a,x::r,b=>∃m:Nat,x.1=(a:Int)∧x.2.1=(m:Int)∧a≤m∧MH m r b
theorem MH.get:∀ {a b:Nat} {l:XZ},MH a l b→∀i,i<l.length→∃u v:Nat,(l.getD i c0).1=(u:Int)∧(l.getD i c0).2.1=(v:Int)∧u≤v∧(i=0→u=a)∧(∀j,i=j+1→(l.getD j c0).2.1=(u:Int))∧(i+1=l.length→v=b)
 | a,b,[],_,i,hi=>absurd hi (by simp)
 | a,b,x::r,⟨m,B,q,C,z⟩,0,hi=>by
  refine⟨a,m,B,q,C,fun _=>rfl,fun j D=>by omega,fun A=>?_⟩;have:r=[]:=List.eq_nil_of_length_eq_zero (by simp only[List.length_cons]at A;omega);subst this;exact z
 | a,b,x::r,⟨m,B,q,C,z⟩,i+1,hi=>by
  obtain⟨u,v,h1,h2,E,I,J,L⟩:=z.get i (by simpa using hi);refine⟨u,v,by simpa using h1,by simpa using h2,E,fun h=>by omega,fun j D=>?_,fun A=>L (by simpa using A)⟩;obtain rfl:i=j:=by omega
  cases i with
  | zero=>rw[I rfl];exact q
  | succ k=>have:=J k rfl;simpa using this
theorem MH.le:∀ {a b:Nat} {l:XZ},MH a l b→a≤b
 | _,_,[],h=>Nat.le_of_eq h
 | _,_,_::_,⟨_,_,_,h1,h2⟩=>Nat.le_trans h1 h2.le
theorem sW.NJ:∀ {a n:Int} {s:XZ},sW a s n→a≤n∧∀i,i<s.length→a≤(s.getD i c0).1∧1≤(s.getD i c0).2.1∧(s.getD i c0).1+(s.getD i c0).2.1≤n
 | a,n,[],h=>⟨by simp only[sW]at h;omega,fun i hi=>absurd hi (by simp)⟩
 | a,n,x::r,⟨h1,h2,_,_,_,_,j⟩=>by
  obtain⟨q,p⟩:=j.NJ;refine⟨by omega,fun i hi=>?_⟩;cases i with
  | zero=>simp only[List.getD_cons_zero];omega
  | succ i =>
   have:=p i (by simpa using hi);simp only[List.getD_cons_succ];omega
section
variable{d:Dt}{n:Nat}(hi:∀k,0<k→k<n→lU d k≠2)(hn:lU d n=2)
include hi hn
end
end
end Go.Proofs.YtobbjfkfmdiklaaGreatDoor.T
