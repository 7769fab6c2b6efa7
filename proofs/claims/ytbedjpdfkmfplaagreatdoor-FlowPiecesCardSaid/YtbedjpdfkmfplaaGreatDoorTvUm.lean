import Derived.Test.YtbedjpdfkmfplaaGreatDoorTvSm
import Derived.ProofKit
import Derived.OpenShut
import Derived.SizedLaws
import Derived.Carry
import Derived.Test.YtbedjpdfkmfplaaGreatDoorTv31gjm
import Derived.Test.YtbedjpdfkmfplaaGreatDoorTvT21dFlowUndoesm
import Derived.Test.YtbedjpdfkmfplaaGreatDoorTvT21da
namespace Go.Tv
open Go Go.RowKit
open Go.IntKind (i64 u64)
def ud(P:Program):Nat→TypeId→Option Ty
 | 0,_=>none
 | n+1,t=>match P.underlying t with
  | some .bool=>some .bool
  | some (.int k)=>some (.int k)
  | some .string=>some .str
  | some (.float .f64)=>some .flt
  | some (.slice e)=>match ud P n e with
   | some A=>if P.cellsOf e=A.size∧0<A.size then some (.slice A)else none
   | none=>none
  | some (.struct j)=>match j.toList.mapM (fun f=>ud P n f.type)with
   | some Ts=>if jC P 0 j.toList Ts=true∧P.cellsOf t=(gH Ts).size∧Ts≠[]then some (gH Ts)else none
   | none=>none
  | _=>none
def Wf:(T:Ty)→T.den→Prop
 | .int k,n=>k.min≤(show Int from n)∧(show Int from n)≤k.max
 | .bool,_=>True
 | .str,s=>List.length (α:=UInt8) s≤maxLen
 | .flt,n=>∀m:Nat,(show QJ from n)=some m→m<18446744073709551616∧dO m=some m
 | .unit,_=>True
 | .prod a b,x=>Wf a x.1∧Wf b x.2
 | .slice A,e=>List.length (α:=A.den) e≤maxLen∧∀i (h:i<List.length (α:=A.den) e),Wf A e[i]
 | .ptr _,_=>True
 | .tree _ _,_=>True
 | .arr _ _,_=>True
 | .mapi _ _,_=>True
section
variable{H:Type}{enc':TypeId×Value→H}{P:Program}{w:World}{sp:Nat→Bool}{held:Bool}
theorem build{A:Ty}{p:Nat→A.den→Prop}:∀(n:Nat),(∀i,i<n→∃x,p i x)→∃xs:List A.den,xs.length=n∧∀i (h:i<xs.length),p i xs[i]
 | 0,_=>⟨[],rfl,fun i h=>absurd h (by simp)⟩
 | n+1,h=>by
  obtain⟨xs,q,u⟩:=build n fun i hi=>h i (by omega)
  obtain⟨x,z⟩:=h n (by omega);refine⟨xs++[x],by simp[q],fun i hi=>?_⟩;simp only[List.length_append,List.length_cons,List.length_nil]at hi;rcases Nat.lt_or_ge i xs.length with j | j
  ·rw[List.getElem_append_left j];exact u i j
  ·obtain rfl:i=n:=by omega
   have e:(xs++[x])[i]'(by simp;omega)=x:=by rw[List.getElem_append_right (by omega)];simp[q]
   rw[e];exact z
def Reads(w:World)(T:Ty)(e:QY)(x:T.den):Prop:=ai (fun a v=>w.cell? a=some v) T x (fun k v=>e[k]? = some v)∧Wf T x
theorem Gv{base:Nat}{a:Addr}{n:Nat}{e:QY}(h:w.cells? base a n=some e):e.length=n∧∀k v,e[k]? = some v→w.cell? (a.add k)=some v:=by
 unfold World.cells? at h;split at h
 ·obtain⟨f,u⟩:=nm h;simp only[List.length_range]at f;refine⟨f,fun k v hk=>?_⟩;have j:k<n:=by rw[←f];exact(List.getElem?_eq_some_iff.1 hk).1
  obtain⟨y,q,z⟩:=u k k (by simp[j]);rw[hk]at q;cases q;exact z
 ·cases h
theorem Reads.cut{T:Ty}{e:QY}{off n:Nat}{x:T.den}(h:Reads w T ((e.drop off).take n) x):ai (fun a v=>w.cell? a=some v) T x (fun k v=>e[off+k]? = some v)∧Wf T x :=
 ⟨ai.mono (fun _ _ h=>h) (fun k v hk=>by
  rw[List.getElem?_take]at hk;split at hk
  ·simpa using hk
  ·cases hk) h.1,h.2⟩
theorem zG{u:QY}:∀(q:List Field) (Ts:List Ty) (off:Nat),jC P off q Ts=true→q.length=Ts.length →
  (∀(i:Nat) f T,q[i]? = some f→Ts[i]? = some T→∃x:T.den,Reads w T ((u.drop f.offset).take (P.cellsOf f.type)) x) →
  ∀e,(∃x:e.den,ai (fun a v=>w.cell? a=some v) e x (fun k v=>u[off - e.size+k]? = some v)∧Wf e x)→e.size≤off →
  ∃x:(iX e Ts).den,ai (fun a v=>w.cell? a=some v) (iX e Ts) x (fun k v=>u[off - e.size+k]? = some v)∧Wf (iX e Ts) x
 | [],[],off,_,_,_,e,A,_=>A
 | [],_::_,_,_,hl,_,_,_,_=>by simp at hl
 | _::_,[],_,_,hl,_,_,_,_=>by simp at hl
 | f::q,T::Ts,off,B,hl,C,e,⟨D,A,w0⟩,E=>by
  simp only[jC,Bool.and_eq_true,beq_iff_eq]at B;obtain⟨⟨I,O⟩,J⟩:=B;obtain⟨y,L⟩:=C 0 f T rfl rfl;have j:=L.cut;rw[I]at j;obtain⟨z,hz,M⟩:=zG q Ts (off+T.size) J (by simpa using hl) (fun i N T' a b=>C (i+1) N T' (by simpa using a) (by simpa using b)) T ⟨y,by
   rw[Nat.add_sub_cancel];exact j.1,j.2⟩ (Nat.le_add_left _ _)
  refine⟨(D,z),⟨A,?_⟩,w0,M⟩;refine ai.mono (fun _ _ h=>h) (fun k v hk=>?_) hz;rw[Nat.add_sub_cancel]at hk;show u[off - e.size+(e.size+k)]? = some v;rwa [show off - e.size+(e.size+k)=off+k by omega]
theorem CP{u:QY}(j:List Field)(Ts:List Ty)(C:jC P 0 j Ts=true)(hl:j.length=Ts.length)(B:Ts≠[])
  (D:∀(i:Nat) f T,j[i]? = some f→Ts[i]? = some T→∃x:T.den,Reads w T ((u.drop f.offset).take (P.cellsOf f.type)) x):∃x:(gH Ts).den,Reads w (gH Ts) u x:=by
 match j,Ts with
 | [],[]=>exact absurd rfl B
 | [],_::_=>simp at hl
 | _::_,[]=>simp at hl
 | f::j,T::Ts =>
  simp only[jC,Bool.and_eq_true,beq_iff_eq]at C;obtain⟨⟨I,N⟩,J⟩:=C;obtain⟨y,L⟩:=D 0 f T rfl rfl;have e:=L.cut;rw[I]at e;obtain⟨z,hz,E⟩:=zG j Ts (0+T.size) J (by simpa using hl) (fun i M T' a b=>D (i+1) M T' (by simpa using a) (by simpa using b)) T ⟨y,by
   rw[Nat.add_sub_cancel];exact e.1,e.2⟩ (Nat.le_add_left _ _)
  have q:ai (fun a v=>w.cell? a=some v) (iX T Ts) z (fun k v=>u[k]? = some v):=ai.mono (fun _ _ h=>h) (fun k v hk=>by
   rwa [Nat.add_sub_cancel,Nat.zero_add]at hk) hz
  cases Ts with
  | nil=>exact⟨(z,()),⟨q,trivial⟩,E,trivial⟩
  | cons b r=>exact⟨z,q,E⟩
theorem C8:∀(n:Nat) (t:TypeId) (T:Ty),ud P n t=some T→∀(u:Nat) (z:QY) (r:DataW H×List MemPlace),DataW.trod enc' P w 0 sp held u t z=some r→(∃x:T.den,Reads w T z x)∧z.length=T.size
 | 0,_,_,h,_,_,_,_=>by simp[ud]at h
 | n+1,t,T,h,0,z,r,j=>by simp[DataW.trod]at j
 | n+1,t,T,h,u+1,z,r,j=>by
  have ih:=C8 n;simp only[ud]at h;unfold DataW.trod at j;split at h
  ·rename_i hu;cases h;rw[hu]at j;split at j <;> first | (exfalso;simp_all;done) | skip
   rename_i b _;exact⟨⟨b,by simp[ai],trivial⟩,rfl⟩
  ·rename_i k hu;cases h;rw[hu]at j;split at j <;> first | (exfalso;simp_all;done) | skip
   rename_i J L i e;cases e;split at j
   ·rename_i hk;obtain⟨rfl,E⟩:=hk;refine⟨⟨i,by simp[ai],?_⟩,rfl⟩;simp only[Lit.wf,Bool.and_eq_true,decide_eq_true_eq]at E;exact E
   ·cases j
  ·rename_i hu;cases h;rw[hu]at j;split at j <;> first | (exfalso;simp_all;done) | skip
   rename_i s e;split at j
   ·rename_i hs;refine⟨⟨s.data.toList,by simp[ai],?_⟩,rfl⟩;show s.data.toList.length≤maxLen;have e:s.data.toList.length=s.size:=Array.length_toList;rw[e];exact hs
   ·cases j
  ·rename_i hu;cases h;rw[hu]at j;split at j <;> first | (exfalso;simp_all;done) | skip
   rename_i J L i e;cases e;split at j
   ·rename_i hk;obtain⟨rfl,E⟩:=hk;refine⟨⟨dO i,by simp[ai],fun m hm=>?_⟩,rfl⟩;have M:i<18446744073709551616:=by simpa [Lit.wf]using E
    have e:=ky hm;subst e;exact⟨M,hm⟩
   ·cases j
  ·rename_i e hu;split at h
   ·rename_i A hA;split at h
    ·rename_i N;cases h;rw[hu]at j;split at j <;> first | (exfalso;simp_all;done) | skip
     ·exact⟨⟨[],⟨none,0,0,rfl,⟨rfl,Nat.le_refl _⟩,fun i hi=>absurd hi (by simp)⟩,Nat.zero_le _,fun i hi=>absurd hi (by simp)⟩,rfl⟩
     ·rename_i e' a len cap q;cases q;simp only at j;split at j
      ·rename_i hb;simp only[Option.bind_eq_some_iff]at j;obtain⟨O,he,_⟩:=j;obtain⟨g1,g2⟩:=nm he;simp only[List.length_range]at g1;obtain⟨V,B,C⟩:=build (A:=A) (p:=fun i x=>ai (fun a v=>w.cell? a=some v) A x (fun k v=>w.cell? (a.add (i*A.size+k))=some v)∧Wf A x) len fun i hi=>by obtain⟨y,_,I⟩:=g2 i i (by simp[hi]);simp only[Option.bind_eq_some_iff]at I;obtain⟨z,X,q4⟩:=I;obtain⟨s1,s2⟩:=Gv X;obtain⟨⟨x,t1,t2⟩,_⟩:=ih e A hA u z y q4;refine⟨x,ai.mono (fun _ _ h=>h) (fun k v hk=>?_) t1,t2⟩;have:=s2 k v hk;rw[add_add]at this;rw[N.1]at this;exact this
       refine⟨⟨V,⟨some a,len,cap,rfl,⟨B.symm,hb.2.1⟩,fun i hi=>⟨a,rfl,(C i hi).1⟩⟩,?_,fun i hi=>(C i hi).2⟩,rfl⟩;show V.length≤maxLen;rw[B];exact Nat.le_trans hb.2.1 hb.2.2
      ·cases j
    ·cases h
   ·cases h
  ·rename_i fs hu;split at h
   ·rename_i Ts Y;split at h
    ·rename_i hc;obtain⟨Z,a1,a2⟩:=hc;cases h;rw[hu]at j;split at j <;> first | (exfalso;simp_all;done) | skip
     rename_i a4 _ _ q;cases q;split at j
     ·rename_i D;simp only[Option.map_eq_some_iff]at j;obtain⟨V,a3,_⟩:=j;obtain⟨g1,g2⟩:=nm a3;obtain⟨J,L⟩:=nm Y;refine⟨CP fs.toList Ts Z J.symm a2 fun i f T hf hT=>?_,by rw[D,a1]⟩;obtain⟨T',q1,I⟩:=L i f hf;rw[hT]at q1;cases q1;obtain⟨y,_,X⟩:=g2 i f hf;exact(ih f.type T I u _ y X).1
     ·cases j
    ·cases h
   ·cases h
  ·cases h
end
def MC:List Ty→Type
 | []=>Unit
 | T::Ts=>T.den×MC Ts
def JS(T:Ty)(x:T.den):ag:=if T.scalar then .p false T x else .agg (flat false T x)
def LN:(Ts:List Ty)→MC Ts→List ag
 | [],_=>[]
 | T::Ts,x=>JS T x.1::LN Ts x.2
def NL:(Ts:List Ty)→MC Ts→Prop
 | [],_=>True
 | T::Ts,x=>Wf T x.1∧NL Ts x.2
section
variable{H:Type}{en:TypeId×Value→H}{P:Program}{w:World}{sp:Nat→Bool}{held:Bool}
theorem AV{t:TypeId}{n:Nat}{T:Ty}(ht:ud P n t=some T){r:Reach}{base:Nat}{v:Value}(h:Value.okWide P w r base t v):(∃f,v = .agg f)∨T.scalar=true∧v.cells = #[v]:=by
 cases n with
 | zero=>simp[ud]at ht
 | succ n =>
  simp only[ud]at ht;unfold Value.okWide at h;split at ht
  ·rename_i hu;cases ht;rw[hu]at h;right
   simp only[Cell.okWide,hu]at h;refine⟨rfl,?_⟩;cases v <;> simp_all [Cell.ok,Value.cells]
  ·rename_i k hu;cases ht;rw[hu]at h;right
   simp only[Cell.okWide,hu]at h;refine⟨rfl,?_⟩;cases v <;> simp_all [Cell.ok,Value.cells]
  ·rename_i hu;cases ht;rw[hu]at h;right
   simp only[Cell.okWide,hu]at h;refine⟨rfl,?_⟩;cases v <;> simp_all [Cell.ok,Value.cells]
  ·rename_i hu;cases ht;rw[hu]at h;right
   simp only[Cell.okWide,hu]at h;refine⟨rfl,?_⟩;cases v <;> simp_all [Cell.ok,Value.cells]
  ·rename_i e hu;split at ht
   ·split at ht
    ·cases ht;rw[hu]at h;right
     simp only[Cell.okWide,hu]at h;refine⟨rfl,?_⟩;cases v <;> simp_all [Cell.ok,Value.cells]
    ·cases ht
   ·cases ht
  ·rename_i j hu;rw[hu]at h;obtain⟨f,e,_⟩:=h;exact .inl ⟨f,e⟩
  ·cases ht
theorem If{t:TypeId}{n:Nat}{T:Ty}(ht:ud P n t=some T){r:Reach}{base:Nat}{f:QU}(h:Value.okWide P w r base t (.agg f)):T.scalar=false:=by
 cases n with
 | zero=>simp[ud]at ht
 | succ n =>
  simp only[ud]at ht;unfold Value.okWide at h;split at ht
  ·rename_i hu;rw[hu]at h;simp[Cell.okWide,hu,Cell.ok]at h
  ·rename_i k hu;rw[hu]at h;simp[Cell.okWide,hu,Cell.ok]at h
  ·rename_i hu;rw[hu]at h;simp[Cell.okWide,hu,Cell.ok]at h
  ·rename_i hu;rw[hu]at h;simp[Cell.okWide,hu,Cell.ok]at h
  ·rename_i e hu;rw[hu]at h;simp[Cell.okWide,hu,Cell.ok]at h
  ·split at ht
   ·rename_i Ts _;split at ht
    ·rename_i j;cases ht;match Ts,j.2.2 with
     | [a],_=>rfl
     | a::b::r,_=>rfl
    ·cases ht
   ·cases ht
  ·cases ht
theorem HJ{t:TypeId}{n:Nat}{T:Ty}(ht:ud P n t=some T){v:Value}{d:DataW H}{p:List MemPlace}(h:DataW.Trod en P w 0 sp held t v d p){r:Reach}{base:Nat}(A:Value.okWide P w r base t v):
  ∃x:T.den,V (Fr gJ (fun _=>False) w) jF (JS T x) v∧Wf T x:=by
 obtain⟨j,B⟩:=h;obtain⟨⟨x,C,D⟩,E⟩:=C8 n t T ht j _ _ B;refine⟨x,?_,D⟩;have f:ai (Fr gJ (fun _=>False) w false) T x (fun k u=>v.cells.toList[k]? = some u):=ai.mono (fun a u hu=>⟨fun e=>e,fun _ e=>e,World.fM hu⟩) (fun _ _ h=>h) C;rcases AV ht A with⟨I,rfl⟩ | ⟨q,J⟩
 ·have q:=If ht A;unfold JS;rw[q];simp only[Bool.false_eq_true,if_false,V];refine⟨I,rfl,by rw[eW,←E];simp[Value.cells],jX false T x _ (ai.mono (fun _ _ h=>h) (fun k u hk=>by simpa [Value.cells]using hk) f)⟩
 ·unfold JS;rw[if_pos q];simp only[V];refine⟨q,?_⟩;rw[J]at f;have z:ai (Fr gJ (fun _=>False) w false) T x (fun k u=>(#[v]:QU).toList[k]? = some u):=f;refine ai.gV (fun k u hk hu=>?_) z;rw[Ty.fT q]at hk;obtain rfl:k=0:=by omega
  simp at hu;exact hu.symm
theorem Ad{n:Nat}:∀ {ts:List TypeId} {Ts:List Ty} {e:QY} {f:List (DataW H)} {p:List MemPlace},ts.map (ud P n)=Ts.map some→DataW.TrodAll en P w 0 sp held ts e f p→∀ {r:Reach} {base:Nat},
  (∀(j:Nat) t v,ts[j]? = some t→e[j]? = some v→Value.okWide P w r base t v)→∃x:MC Ts,jf (Fr gJ (fun _=>False) w) jF (LN Ts x) e∧NL Ts x∧f.length=ts.length
 | [],[],[],[],_,_,_,_,_,_=>⟨(),trivial,trivial,rfl⟩
 | t::ts,T::Ts,v::e,d::f,p,hT,⟨q,L,z,A,_⟩,r,base,u=>by
  simp only[List.map_cons,List.cons.injEq]at hT;obtain⟨x,B,D⟩:=HJ hT.1 z (u 0 t v rfl rfl);obtain⟨y,E,wy,hl⟩:=Ad hT.2 A (fun j I J a b=>u (j+1) I J (by simpa using a) (by simpa using b));exact⟨(x,y),⟨B,E⟩,⟨D,wy⟩,by simp[hl]⟩
 | [],_::_,_,_,_,hT,_,_,_,_=>by simp at hT
 | _::_,[],_,_,_,hT,_,_,_,_=>by simp at hT
 | [],[],_::_,_,_,_,h,_,_,_=>h.elim
 | [],[],[],_::_,_,_,h,_,_,_=>h.elim
 | _::_,_::_,[],_,_,_,h,_,_,_=>h.elim
 | _::_,_::_,_::_,[],_,_,h,_,_,_=>h.elim
theorem zE(hl:laidOutB P=true){z:World}(hb:Below w.heap.size w z):∀ {ts:List TypeId} {j:QY} {u:List (DataW H)} {p:List MemPlace},ts.all (fun t=>P.readableRec t && decide (t<P.types.size))=true →
  DataW.TrodAll en P w 0 (fun _=>true) true ts j u p→DataW.TrodAll en P z 0 (fun b=>decide (b<w.heap.size)) true ts j u p
 | [],[],[],_,_,h=>h
 | t::ts,v::j,d::u,p,f,⟨q,B,A,D,e⟩ =>
  by
   simp only[List.all_cons,Bool.and_eq_true,decide_eq_true_eq]at f;exact⟨q,B,Below.trod hl f.1.1 f.1.2 A hb (by obtain⟨m,E⟩:=A;exact DataW.trod_lt m _ _ _ E),zE hl hb f.2 D,e⟩
 | [],_::_,_,_,_,h=>h.elim
 | [],[],_::_,_,_,h=>h.elim
 | _::_,[],_,_,_,h=>h.elim
 | _::_,_::_,[],_,_,h=>h.elim
end
end Go.Tv
namespace Go.Proofs.YtbedjpdfkmfplaaGreatDoor.T
open Go Go.Tv Go.Proofs
open Go.IntKind (i64 u64)
noncomputable section
abbrev NQ:Ty:= .prod (.int .u8) (.prod (.int .u8) (.prod (.int .u8) (.prod (.slice (.int .u8)) (.slice (.prod (.int .u8) (.prod (.slice (.int .u8)) (.slice (.int .u8))))))))
abbrev Oz:Ty:= .prod NQ (.prod NQ (.prod (.slice (.int .u8)) (.prod (.slice (.int .u8)) (.prod (.slice (.int .u8)) (.prod (.slice (.int .u8)) (.prod (.int .u8) (.int .u8)))))))
theorem yb{l:QK}(h:Wf (.slice (.int .u8)) l):∀i,0≤l.getD i 0∧l.getD i 0≤255:=fun i=>by
 by_cases hi:i<l.length
 ·have:=h.2 i hi;rw[jY hi];exact this
 ·rw[List.getD_eq_getElem?_getD,List.getElem?_eq_none (by omega)];simp
theorem Fo{x:NQ.den}(h:Wf NQ x):Oi x.1 x.2.2.2.2:=by
 refine⟨h.1.1,fun i=>?_⟩;by_cases hi:i<x.2.2.2.2.length
 ·have:=h.2.2.2.2.2 i hi;rw[jY hi];exact this.1.1
 ·rw[List.getD_eq_getElem?_getD,List.getElem?_eq_none (by omega)];exact Int.le_refl _
theorem J1{x:Oz.den}(h:Wf Oz x):Ho (dQ x.1.1 x.1.2.1 x.1.2.2.1 x.1.2.2.2.1 x.1.2.2.2.2 x.2.1.1 x.2.1.2.1 x.2.1.2.2.1 x.2.1.2.2.2.1 x.2.1.2.2.2.2 x.2.2.1 x.2.2.2.1 x.2.2.2.2.1 x.2.2.2.2.2.1 x.2.2.2.2.2.2.1 x.2.2.2.2.2.2.2) (fun _=>True) :=
 Ko (Fo h.1) (Fo h.2.1) (yb h.2.2.2.2.2.1)
theorem JD:∃S,fX=some S∧S.length=14∧∀i,(S.getD i []).length≤4:=by
 refine⟨_,rfl,rfl,fun i=>?_⟩;rcases(show i=0∨i=1∨i=2∨i=3∨i=4∨i=5∨i=6∨i=7∨i=8∨i=9∨i=10∨i=11∨i=12∨i=13∨14≤i by omega)with rfl | rfl | rfl | rfl | rfl | rfl | rfl | rfl | rfl | rfl | rfl | rfl | rfl | rfl | h
 case inr.inr.inr.inr.inr.inr.inr.inr.inr.inr.inr.inr.inr.inr=>rw[List.getD_eq_getElem?_getD,List.getElem?_eq_none (by simpa using h)];simp
 all_goals decide
theorem Ci{l:QK}(hl:l.length≤10000000)(hb:∀i,0≤l.getD i 0∧l.getD i 0≤255):∃t,dw l=some t∧Bytes t∧t.length≤4*l.length:=by
 obtain⟨S,C,u,A⟩:=JD;obtain⟨t,e,q,j⟩:=dB (body:=dr l) (fun z:QK×Int=>∃k:Nat,z.2=(k:Int)∧k≤l.length∧z.1.length≤4*k∧Bytes z.1) (fun z=>l.length - z.2.toNat) (fun t=>Bytes t∧t.length≤4*l.length) (by
  rintro⟨out,v⟩ ⟨k,rfl,hk,q,j⟩;simp only at q j;by_cases D:k<l.length
  ·left
   obtain⟨E,O⟩:=hb k;have I:i64.wrap (l.getD k 0)=l.getD k 0:=wrap_i64 (by omega) (by omega);have J:Int.tmod (l.getD k 0) 14=l.getD k 0 % 14:=Int.tmod_eq_emod_of_nonneg E;have B:(k:Int)<(l.length:Int):=by omega
   have L:0≤(k:Int):=by omega
   have M:0≤l.getD k 0 % 14∧l.getD k 0 % 14<(S.length:Int):=by rw[u];omega
   have V:=A (l.getD k 0 % 14).toNat;have g:out.length+(S.getD (l.getD k 0 % 14).toNat []).length≤140737488355328:=by omega
   have N:¬(14:Int)=0:=by decide
   refine⟨(out++cf (S.getD (l.getD k 0 % 14).toNat []),((k+1:Nat):Int)),?_,⟨k+1,rfl,by omega,?_,?_⟩,by simp only[Int.toNat_natCast];omega⟩
   ·simp only[dr,C,Option.bind_some,B,L,and_self,decide_true,if_true,Int.toNat_natCast,I,J,M,N,not_false_eq_true,g,bF (show k≤9000000000000000000 by omega)]
   ·simp only[List.length_append];have:(cf (S.getD (l.getD k 0 % 14).toNat [])).length=(S.getD (l.getD k 0 % 14).toNat []).length:=by simp[cf]
    omega
   ·intro x f;rcases List.mem_append.1 f with f | f
    ·exact j x f
    ·exact A9 _ x f
  ·right
   obtain rfl:k=l.length:=by omega
   refine⟨out,?_,j,q⟩;have B:¬((l.length:Int)<(l.length:Int)):=Int.lt_irrefl _;simp only[dr,B,decide_false,Bool.false_eq_true,if_false]) (s:=([],0)) ⟨0,rfl,by omega,by simp,fun x f=>by cases f⟩
 refine⟨t,?_,q,j⟩;unfold dw;rw[e];rfl
theorem Mm:hH=some ([],j7,mP,[],Jq,IA,[],2,2):=rfl
theorem Ku:fy=some true:=by
 obtain⟨b,e,hb⟩:=Mh;unfold fy;rw[Mm];simp only[Option.bind_some,e,GM hb,Et hb];kernel_rfl
def mr(e f j q u:Int)(v:QJ):Wy:=(1+e,1+f % 64,j % 2,q,u,v)
def OT(c:Wy):Prop:=dV c.1 c.2.1 c.2.2.1 c.2.2.2.1 c.2.2.2.2.1 c.2.2.2.2.2=some true
theorem G5{f e j q u:Int}(v:QJ)(N:0≤f∧f≤255)(z:0≤e∧e≤255)(A:0≤j∧j≤255)(O:0≤q∧q≤65535)(V:0≤u∧u≤65535):
  dX f e j q u v=some (mr f e j q u v)∧OT (mr f e j q u v):=by
 constructor
 ·have B:i64.wrap f=f:=wrap_i64 (by omega) (by omega);have C:i64.wrap (1+f)=1+f:=wrap_i64 (by omega) (by omega);have D:Int.tmod e 64=e % 64:=Int.tmod_eq_emod_of_nonneg z.1;have E:i64.wrap (e % 64)=e % 64:=wrap_i64 (by omega) (by omega);have I:i64.wrap (1+e % 64)=1+e % 64:=wrap_i64 (by omega) (by omega);have J:Int.tmod j 2=j % 2:=Int.tmod_eq_emod_of_nonneg A.1;have L:i64.wrap q=q:=wrap_i64 (by omega) (by omega);have M:i64.wrap u=u:=wrap_i64 (by omega) (by omega);unfold dX mr;rw[if_pos (by decide),if_pos (by decide),B,C,D,E,I,J,L,M]
 ·unfold OT dV mr;simp only;rw[if_pos (by rw[decide_eq_true_eq];omega),if_pos (by rw[decide_eq_true_eq];omega),if_pos (by rw[decide_eq_true_eq];omega),if_pos (by rw[decide_eq_true_eq];omega),if_pos (by rw[decide_eq_true_eq];omega),if_pos (by rw[decide_eq_true_eq];omega),if_pos (by rw[decide_eq_true_eq];omega),if_pos (by rw[decide_eq_true_eq];omega)];rw[Option.bind_some,decide_eq_true (by omega)]
theorem G3{l:Qk}(h:l.length≤100000)(b:Bool):cN l b l b=some true:=by
 have j:iter (bH l l) ((0:Nat):Int)=some (.inl ()):=by
  refine gL (fun k=>((k:Nat):Int)) l.length (fun k hk=>?_) ?_
  ·have e:(k:Int)<(l.length:Int):=by omega
   have q:0≤(k:Int):=by omega
   simp only[bH,e,q,and_self,decide_true,if_true,BEq.rfl,Bool.and_self,Bool.not_true,Bool.false_eq_true,if_false,bF (show k≤9000000000000000000 by omega)]
  ·have e:¬((l.length:Int)<(l.length:Int)):=Int.lt_irrefl _;simp only[bH,e,decide_false,Bool.false_eq_true,if_false]
 have f:iter (bH l l) (0:Int)=some (.inl ()):=j;unfold cN;rw[f];simp
theorem umod{n:Nat}(hn:n≤100000)(x:Int):¬u64.wrap (i64.wrap ((n:Int)+1))=0∧∃k:Nat,k≤n∧i64.wrap (Int.tmod (u64.wrap x) (u64.wrap (i64.wrap ((n:Int)+1))))=(k:Int):=by
 have e:i64.wrap ((n:Int)+1)=(n:Int)+1:=wrap_i64 (by omega) (by omega);have f:u64.wrap ((n:Int)+1)=(n:Int)+1:=wrap_u64 (by omega) (by omega);have j:0≤u64.wrap x:=by rw[Aa];omega
 have q:=Int.emod_nonneg (u64.wrap x) (show(n:Int)+1≠0 by omega);have u:=Int.emod_lt_of_pos (u64.wrap x) (show 0<(n:Int)+1 by omega);rw[e,f,Int.tmod_eq_emod_of_nonneg j,wrap_i64 (by omega) (by omega)];exact⟨by omega,(u64.wrap x % ((n:Int)+1)).toNat,by omega,by omega⟩
section
variable{b:Option Z1}(hb:RB b){c:Wy}{x:QK}{p:Qk×QK}{kn:Kn}(h:Gc b c x p kn)
include hb h
theorem AH{i d:Nat}{e:QK}(q:Bytes e)(u:i+d≤x.length)(v:e.length≤4096)(z:x.length - d+e.length≤4096):
  ∃f j,bO (i:Int) (d:Int) e (LF p.1 p.2 c).1 (LF p.1 p.2 c).2 b c.1 c.2.1 c.2.2.1 c.2.2.2.1 c.2.2.2.2.1 c.2.2.2.2.2 x p.1 p.2 (some (me p.1 p.2 c)) kn=some (0,(LF f.1 f.2 c).1,(LF f.1 f.2 c).2,x.take i++e++x.drop (i+d),f.1,f.2,some (me f.1 f.2 c),j)∧Gc b c (x.take i++e++x.drop (i+d)) f j:=by
 obtain⟨f,j,A,B⟩:=MU hb (Al h.MF q i d) (by simp only[List.length_append,List.length_take,List.length_drop];omega) h.wy h.O1 (LF p.1 p.2 c).1 (LF p.1 p.2 c).2 x p.1 p.2 (some (me p.1 p.2 c));refine⟨f,j,?_,B⟩;unfold bO;rw[Ht h.len v u z];simp only[Option.bind_some,bne_self_eq_false,Bool.false_eq_true,if_false,A]
omit hb in
theorem F1(e:Option Z1):eJ (LF p.1 p.2 c).1 (LF p.1 p.2 c).2 e c.1 c.2.1 c.2.2.1 c.2.2.2.1 c.2.2.2.2.1 c.2.2.2.2.2 x p.1 p.2 (some (me p.1 p.2 c)) kn=some x:=by
 have:=h.len;unfold eJ;rw[Dn (by omega)];rfl
end
theorem Gc.same{b:Option Z1}{c j:Wy}{x:QK}{p f:Qk×QK}{kn e:Kn}(h:Gc b c x p kn)(h':Gc b j x f e):f=p:=by
 have:=h.para.symm.trans h'.para;simp only[Option.some.injEq,Prod.mk.injEq,and_true]at this;exact this.symm
end
end Go.Proofs.YtbedjpdfkmfplaaGreatDoor.T
