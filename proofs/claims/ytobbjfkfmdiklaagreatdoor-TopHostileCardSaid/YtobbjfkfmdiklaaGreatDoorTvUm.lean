import Derived.Test.YtobbjfkfmdiklaaGreatDoorTvSm
import Derived.ProofKit
import Derived.OpenShut
import Derived.SizedLaws
import Derived.Carry
import Derived.Test.YtobbjfkfmdiklaaGreatDoorTvT50aTopLeastm
import Derived.Test.YtobbjfkfmdiklaaGreatDoorTv50gfm
namespace Go.Tv
open Go Go.RowKit
def sB(P:Program):Nat→TypeId→Option Ty
 | 0,_=>none
 | n+1,t=>match P.underlying t with
  | some .bool=>some .bool
  | some (.int k)=>some (.int k)
  | some .string=>some .str
  | some (.float .f64)=>some .flt
  | some (.slice e)=>match sB P n e with
   | some A=>if P.cellsOf e=A.size∧0<A.size then some (.slice A)else none
   | none=>none
  | some (.struct j)=>match j.toList.mapM (fun f=>sB P n f.type)with
   | some Ts=>if iI P 0 j.toList Ts=true∧P.cellsOf t=(fU Ts).size∧Ts≠[]then some (fU Ts)else none
   | none=>none
  | _=>none
def Wf:(T:Ty)→T.den→Prop
 | .int k,n=>k.min≤(show Int from n)∧(show Int from n)≤k.max
 | .bool,_=>True
 | .str,s=>List.length (α:=UInt8) s≤maxLen
 | .flt,n=>∀m:Nat,(show QJ from n)=some m→m<18446744073709551616∧eo m=some m
 | .unit,_=>True
 | .prod a b,x=>Wf a x.1∧Wf b x.2
 | .slice A,f=>List.length (α:=A.den) f≤maxLen∧∀i (h:i<List.length (α:=A.den) f),Wf A f[i]
 | .ptr _,_=>True
 | .tree _ _,_=>True
 | .arr _ _,_=>True
 | .mapi _ _,_=>True
section
variable{H:Type}{enc':TypeId×Value→H}{P:Program}{w:World}{sp:Nat→Bool}{held:Bool}
theorem build{A:Ty}{p:Nat→A.den→Prop}:∀(n:Nat),(∀i,i<n→∃x,p i x)→∃xs:List A.den,xs.length=n∧∀i (h:i<xs.length),p i xs[i]
 | 0,_=>⟨[],rfl,fun i h=>absurd h (by simp)⟩
 | n+1,h=>by
  obtain⟨xs,h1,h2⟩:=build n fun i hi=>h i (by omega)
  obtain⟨x,q⟩:=h n (by omega);refine⟨xs++[x],by simp[h1],fun i hi=>?_⟩;simp only[List.length_append,List.length_cons,List.length_nil]at hi;rcases Nat.lt_or_ge i xs.length with j | j
  ·rw[List.getElem_append_left j];exact h2 i j
  ·obtain rfl:i=n:=by omega
   have e:(xs++[x])[i]'(by simp;omega)=x:=by rw[List.getElem_append_right (by omega)];simp[h1]
   rw[e];exact q
def Reads(w:World)(T:Ty)(f:QY)(x:T.den):Prop:=ah (fun a v=>w.cell? a=some v) T x (fun k v=>f[k]? = some v)∧Wf T x
theorem Fj{base:Nat}{a:Addr}{n:Nat}{f:QY}(h:w.cells? base a n=some f):f.length=n∧∀k v,f[k]? = some v→w.cell? (a.add k)=some v:=by
 unfold World.cells? at h;split at h
 ·obtain⟨h1,h2⟩:=mD h;simp only[List.length_range]at h1;refine⟨h1,fun k v hk=>?_⟩;have j:k<n:=by rw[←h1];exact(List.getElem?_eq_some_iff.1 hk).1
  obtain⟨y,q,u⟩:=h2 k k (by simp[j]);rw[hk]at q;cases q;exact u
 ·cases h
theorem Reads.cut{T:Ty}{f:QY}{off n:Nat}{x:T.den}(h:Reads w T ((f.drop off).take n) x):ah (fun a v=>w.cell? a=some v) T x (fun k v=>f[off+k]? = some v)∧Wf T x :=
 ⟨ah.mono (fun _ _ h=>h) (fun k v hk=>by
  rw[List.getElem?_take]at hk;split at hk
  ·simpa using hk
  ·cases hk) h.1,h.2⟩
theorem yt{u:QY}:∀(q:List Field) (Ts:List Ty) (off:Nat),iI P off q Ts=true→q.length=Ts.length →
  (∀(i:Nat) f T,q[i]? = some f→Ts[i]? = some T→∃x:T.den,Reads w T ((u.drop f.offset).take (P.cellsOf f.type)) x) →
  ∀j,(∃x:j.den,ah (fun a v=>w.cell? a=some v) j x (fun k v=>u[off - j.size+k]? = some v)∧Wf j x)→j.size≤off →
  ∃x:(iC j Ts).den,ah (fun a v=>w.cell? a=some v) (iC j Ts) x (fun k v=>u[off - j.size+k]? = some v)∧Wf (iC j Ts) x
 | [],[],off,_,_,_,j,A,_=>A
 | [],_::_,_,_,hl,_,_,_,_=>by simp at hl
 | _::_,[],_,_,hl,_,_,_,_=>by simp at hl
 | f::q,T::Ts,off,B,hl,C,j,⟨D,A,w0⟩,E=>by
  simp only[iI,Bool.and_eq_true,beq_iff_eq]at B;obtain⟨⟨h1,h2⟩,I⟩:=B;obtain⟨y,J⟩:=C 0 f T rfl rfl;have p:=J.cut;rw[h1]at p;obtain⟨z,hz,L⟩:=yt q Ts (off+T.size) I (by simpa using hl) (fun i M T' a b=>C (i+1) M T' (by simpa using a) (by simpa using b)) T ⟨y,by
   rw[Nat.add_sub_cancel];exact p.1,p.2⟩ (Nat.le_add_left _ _)
  refine⟨(D,z),⟨A,?_⟩,w0,L⟩;refine ah.mono (fun _ _ h=>h) (fun k v hk=>?_) hz;rw[Nat.add_sub_cancel]at hk;show u[off - j.size+(j.size+k)]? = some v;rwa [show off - j.size+(j.size+k)=off+k by omega]
theorem Br{B:QY}(q:List Field)(Ts:List Ty)(D:iI P 0 q Ts=true)(hl:q.length=Ts.length)(C:Ts≠[])
  (E:∀(i:Nat) f T,q[i]? = some f→Ts[i]? = some T→∃x:T.den,Reads w T ((B.drop f.offset).take (P.cellsOf f.type)) x):∃x:(fU Ts).den,Reads w (fU Ts) B x:=by
 match q,Ts with
 | [],[]=>exact absurd rfl C
 | [],_::_=>simp at hl
 | _::_,[]=>simp at hl
 | f::q,T::Ts =>
  simp only[iI,Bool.and_eq_true,beq_iff_eq]at D;obtain⟨⟨h1,h2⟩,J⟩:=D;obtain⟨y,L⟩:=E 0 f T rfl rfl;have j:=L.cut;rw[h1]at j;obtain⟨z,hz,I⟩:=yt q Ts (0+T.size) J (by simpa using hl) (fun i M T' a b=>E (i+1) M T' (by simpa using a) (by simpa using b)) T ⟨y,by
   rw[Nat.add_sub_cancel];exact j.1,j.2⟩ (Nat.le_add_left _ _)
  have u:ah (fun a v=>w.cell? a=some v) (iC T Ts) z (fun k v=>B[k]? = some v):=ah.mono (fun _ _ h=>h) (fun k v hk=>by
   rwa [Nat.add_sub_cancel,Nat.zero_add]at hk) hz
  cases Ts with
  | nil=>exact⟨(z,()),⟨u,trivial⟩,I,trivial⟩
  | cons b r=>exact⟨z,u,I⟩
theorem zS:∀(n:Nat) (t:TypeId) (T:Ty),sB P n t=some T→∀(u:Nat) (z:QY) (r:DataW H×List MemPlace),DataW.trod enc' P w 0 sp held u t z=some r→(∃x:T.den,Reads w T z x)∧z.length=T.size
 | 0,_,_,h,_,_,_,_=>by simp[sB]at h
 | n+1,t,T,h,0,z,r,j=>by simp[DataW.trod]at j
 | n+1,t,T,h,u+1,z,r,j=>by
  have ih:=zS n;simp only[sB]at h;unfold DataW.trod at j;split at h
  ·rename_i hu;cases h;rw[hu]at j;split at j <;> first | (exfalso;simp_all;done) | skip
   rename_i b _;exact⟨⟨b,by simp[ah],trivial⟩,rfl⟩
  ·rename_i k hu;cases h;rw[hu]at j;split at j <;> first | (exfalso;simp_all;done) | skip
   rename_i J L i e;cases e;split at j
   ·rename_i hk;obtain⟨rfl,E⟩:=hk;refine⟨⟨i,by simp[ah],?_⟩,rfl⟩;simp only[Lit.wf,Bool.and_eq_true,decide_eq_true_eq]at E;exact E
   ·cases j
  ·rename_i hu;cases h;rw[hu]at j;split at j <;> first | (exfalso;simp_all;done) | skip
   rename_i s e;split at j
   ·rename_i hs;refine⟨⟨s.data.toList,by simp[ah],?_⟩,rfl⟩;show s.data.toList.length≤maxLen;have e:s.data.toList.length=s.size:=Array.length_toList;rw[e];exact hs
   ·cases j
  ·rename_i hu;cases h;rw[hu]at j;split at j <;> first | (exfalso;simp_all;done) | skip
   rename_i J L i e;cases e;split at j
   ·rename_i hk;obtain⟨rfl,E⟩:=hk;refine⟨⟨eo i,by simp[ah],fun m hm=>?_⟩,rfl⟩;have M:i<18446744073709551616:=by simpa [Lit.wf]using E
    have e:=jB hm;subst e;exact⟨M,hm⟩
   ·cases j
  ·rename_i e hu;split at h
   ·rename_i A hA;split at h
    ·rename_i N;cases h;rw[hu]at j;split at j <;> first | (exfalso;simp_all;done) | skip
     ·exact⟨⟨[],⟨none,0,0,rfl,⟨rfl,Nat.le_refl _⟩,fun i hi=>absurd hi (by simp)⟩,Nat.zero_le _,fun i hi=>absurd hi (by simp)⟩,rfl⟩
     ·rename_i e' a len cap q;cases q;simp only at j;split at j
      ·rename_i hb;simp only[Option.bind_eq_some_iff]at j;obtain⟨O,he,_⟩:=j;obtain⟨g1,g2⟩:=mD he;simp only[List.length_range]at g1;obtain⟨V,B,C⟩:=build (A:=A) (p:=fun i x=>ah (fun a v=>w.cell? a=some v) A x (fun k v=>w.cell? (a.add (i*A.size+k))=some v)∧Wf A x) len fun i hi=>by obtain⟨y,_,I⟩:=g2 i i (by simp[hi]);simp only[Option.bind_eq_some_iff]at I;obtain⟨z,X,q4⟩:=I;obtain⟨s1,s2⟩:=Fj X;obtain⟨⟨x,t1,t2⟩,_⟩:=ih e A hA u z y q4;refine⟨x,ah.mono (fun _ _ h=>h) (fun k v hk=>?_) t1,t2⟩;have:=s2 k v hk;rw[add_add]at this;rw[N.1]at this;exact this
       refine⟨⟨V,⟨some a,len,cap,rfl,⟨B.symm,hb.2.1⟩,fun i hi=>⟨a,rfl,(C i hi).1⟩⟩,?_,fun i hi=>(C i hi).2⟩,rfl⟩;show V.length≤maxLen;rw[B];exact Nat.le_trans hb.2.1 hb.2.2
      ·cases j
    ·cases h
   ·cases h
  ·rename_i fs hu;split at h
   ·rename_i Ts Y;split at h
    ·rename_i hc;obtain⟨Z,a1,a2⟩:=hc;cases h;rw[hu]at j;split at j <;> first | (exfalso;simp_all;done) | skip
     rename_i a4 _ _ q;cases q;split at j
     ·rename_i D;simp only[Option.map_eq_some_iff]at j;obtain⟨V,a3,_⟩:=j;obtain⟨g1,g2⟩:=mD a3;obtain⟨J,L⟩:=mD Y;refine⟨Br fs.toList Ts Z J.symm a2 fun i f T hf hT=>?_,by rw[D,a1]⟩;obtain⟨T',q1,I⟩:=L i f hf;rw[hT]at q1;cases q1;obtain⟨y,_,X⟩:=g2 i f hf;exact(ih f.type T I u _ y X).1
     ·cases j
    ·cases h
   ·cases h
  ·cases h
end
def Kw:List Ty→Type
 | []=>Unit
 | T::Ts=>T.den×Kw Ts
def Ip(T:Ty)(x:T.den):af:=if T.scalar then .p false T x else .agg (flat false T x)
def JG:(Ts:List Ty)→Kw Ts→List af
 | [],_=>[]
 | T::Ts,x=>Ip T x.1::JG Ts x.2
def Lx:(Ts:List Ty)→Kw Ts→Prop
 | [],_=>True
 | T::Ts,x=>Wf T x.1∧Lx Ts x.2
section
variable{H:Type}{en:TypeId×Value→H}{P:Program}{w:World}{sp:Nat→Bool}{held:Bool}
theorem yD{t:TypeId}{n:Nat}{T:Ty}(ht:sB P n t=some T){r:Reach}{base:Nat}{v:Value}(h:Value.okWide P w r base t v):(∃f,v = .agg f)∨T.scalar=true∧v.cells = #[v]:=by
 cases n with
 | zero=>simp[sB]at ht
 | succ n =>
  simp only[sB]at ht;unfold Value.okWide at h;split at ht
  ·rename_i hu;cases ht;rw[hu]at h;right
   simp only[Cell.okWide,hu]at h;refine⟨rfl,?_⟩;cases v <;> simp_all [Cell.ok,Value.cells]
  ·rename_i k hu;cases ht;rw[hu]at h;right
   simp only[Cell.okWide,hu]at h;refine⟨rfl,?_⟩;cases v <;> simp_all [Cell.ok,Value.cells]
  ·rename_i hu;cases ht;rw[hu]at h;right
   simp only[Cell.okWide,hu]at h;refine⟨rfl,?_⟩;cases v <;> simp_all [Cell.ok,Value.cells]
  ·rename_i hu;cases ht;rw[hu]at h;right
   simp only[Cell.okWide,hu]at h;refine⟨rfl,?_⟩;cases v <;> simp_all [Cell.ok,Value.cells]
  ·rename_i e hu;split at ht
   ·split at ht
    ·cases ht;rw[hu]at h;right
     simp only[Cell.okWide,hu]at h;refine⟨rfl,?_⟩;cases v <;> simp_all [Cell.ok,Value.cells]
    ·cases ht
   ·cases ht
  ·rename_i j hu;rw[hu]at h;obtain⟨f,e,_⟩:=h;exact .inl ⟨f,e⟩
  ·cases ht
theorem FE{t:TypeId}{n:Nat}{T:Ty}(ht:sB P n t=some T){r:Reach}{base:Nat}{f:QU}(h:Value.okWide P w r base t (.agg f)):T.scalar=false:=by
 cases n with
 | zero=>simp[sB]at ht
 | succ n =>
  simp only[sB]at ht;unfold Value.okWide at h;split at ht
  ·rename_i hu;rw[hu]at h;simp[Cell.okWide,hu,Cell.ok]at h
  ·rename_i k hu;rw[hu]at h;simp[Cell.okWide,hu,Cell.ok]at h
  ·rename_i hu;rw[hu]at h;simp[Cell.okWide,hu,Cell.ok]at h
  ·rename_i hu;rw[hu]at h;simp[Cell.okWide,hu,Cell.ok]at h
  ·rename_i e hu;rw[hu]at h;simp[Cell.okWide,hu,Cell.ok]at h
  ·split at ht
   ·rename_i Ts _;split at ht
    ·rename_i hc;cases ht;match Ts,hc.2.2 with
     | [a],_=>rfl
     | a::b::r,_=>rfl
    ·cases ht
   ·cases ht
  ·cases ht
theorem FX{t:TypeId}{n:Nat}{T:Ty}(ht:sB P n t=some T){v:Value}{d:DataW H}{p:List MemPlace}(h:DataW.Trod en P w 0 sp held t v d p){r:Reach}{base:Nat}(A:Value.okWide P w r base t v):
  ∃x:T.den,V (Fr fW (fun _=>False) w) jh (Ip T x) v∧Wf T x:=by
 obtain⟨j,B⟩:=h;obtain⟨⟨x,h1,h2⟩,C⟩:=zS n t T ht j _ _ B;refine⟨x,?_,h2⟩;have f:ah (Fr fW (fun _=>False) w false) T x (fun k u=>v.cells.toList[k]? = some u):=ah.mono (fun a u hu=>⟨fun e=>e,fun _ e=>e,World.fp hu⟩) (fun _ _ h=>h) h1;rcases yD ht A with⟨D,rfl⟩ | ⟨q,hc⟩
 ·have q:=FE ht A;unfold Ip;rw[q];simp only[Bool.false_eq_true,if_false,V];refine⟨D,rfl,by rw[eP,←C];simp[Value.cells],jy false T x _ (ah.mono (fun _ _ h=>h) (fun k u hk=>by simpa [Value.cells]using hk) f)⟩
 ·unfold Ip;rw[if_pos q];simp only[V];refine⟨q,?_⟩;rw[hc]at f;have z:ah (Fr fW (fun _=>False) w false) T x (fun k u=>(#[v]:QU).toList[k]? = some u):=f;refine ah.gu (fun k u hk hu=>?_) z;rw[Ty.fA q]at hk;obtain rfl:k=0:=by omega
  simp at hu;exact hu.symm
theorem ye{n:Nat}:∀ {ts:List TypeId} {Ts:List Ty} {f:QY} {u:List (DataW H)} {p:List MemPlace},ts.map (sB P n)=Ts.map some→DataW.TrodAll en P w 0 sp held ts f u p→∀ {r:Reach} {base:Nat},
  (∀(j:Nat) t v,ts[j]? = some t→f[j]? = some v→Value.okWide P w r base t v)→∃x:Kw Ts,iD (Fr fW (fun _=>False) w) jh (JG Ts x) f∧Lx Ts x∧u.length=ts.length
 | [],[],[],[],_,_,_,_,_,_=>⟨(),trivial,trivial,rfl⟩
 | t::ts,T::Ts,v::f,d::u,p,hT,⟨q,J,h1,h2,_⟩,r,base,z=>by
  simp only[List.map_cons,List.cons.injEq]at hT;obtain⟨x,A,B⟩:=FX hT.1 h1 (z 0 t v rfl rfl);obtain⟨y,D,wy,hl⟩:=ye hT.2 h2 (fun j E I a b=>z (j+1) E I (by simpa using a) (by simpa using b));exact⟨(x,y),⟨A,D⟩,⟨B,wy⟩,by simp[hl]⟩
 | [],_::_,_,_,_,hT,_,_,_,_=>by simp at hT
 | _::_,[],_,_,_,hT,_,_,_,_=>by simp at hT
 | [],[],_::_,_,_,_,h,_,_,_=>h.elim
 | [],[],[],_::_,_,_,h,_,_,_=>h.elim
 | _::_,_::_,[],_,_,_,h,_,_,_=>h.elim
 | _::_,_::_,_::_,[],_,_,h,_,_,_=>h.elim
theorem yz(hl:laidOutB P=true){x:World}(hb:Below w.heap.size w x):∀ {ts:List TypeId} {j:QY} {u:List (DataW H)} {p:List MemPlace},ts.all (fun t=>P.readableRec t && decide (t<P.types.size))=true →
  DataW.TrodAll en P w 0 (fun _=>true) true ts j u p→DataW.TrodAll en P x 0 (fun b=>decide (b<w.heap.size)) true ts j u p
 | [],[],[],_,_,h=>h
 | t::ts,v::j,d::u,p,f,⟨q,z,h1,h2,e⟩ =>
  by
   simp only[List.all_cons,Bool.and_eq_true,decide_eq_true_eq]at f;exact⟨q,z,Below.trod hl f.1.1 f.1.2 h1 hb (by obtain⟨m,hm⟩:=h1;exact DataW.trod_lt m _ _ _ hm),yz hl hb f.2 h2,e⟩
 | [],_::_,_,_,_,h=>h.elim
 | [],[],_::_,_,_,h=>h.elim
 | _::_,[],_,_,_,h=>h.elim
 | _::_,_::_,[],_,_,h=>h.elim
end
end Go.Tv
namespace Go.Proofs.YtobbjfkfmdiklaaGreatDoor.T
open Go Go.Tv Go.Proofs
noncomputable section
abbrev LC:Ty:= .prod (.int .u8) (.prod (.int .u8) (.prod (.int .u8) (.prod (.slice (.int .u8)) (.slice (.prod (.int .u8) (.prod (.slice (.int .u8)) (.slice (.int .u8))))))))
abbrev LK:Ty:= .prod LC (.prod LC (.prod (.slice (.int .u8)) (.prod (.slice (.int .u8)) (.prod (.slice (.int .u8)) (.prod (.slice (.int .u8)) (.prod (.int .u8) (.int .u8)))))))
theorem GJ{l:QK}(h:Wf (.slice (.int .u8)) l):∀i,0≤l.getD i 0∧l.getD i 0≤255:=fun i=>by
 by_cases hi:i<l.length
 ·have:=h.2 i hi;rw[kx hi];exact this
 ·rw[List.getD_eq_getElem?_getD,List.getElem?_eq_none (by omega)];simp
theorem D1{x:LC.den}(h:Wf LC x):Ml x.1 x.2.2.2.2:=by
 refine⟨h.1.1,fun i=>?_⟩;by_cases hi:i<x.2.2.2.2.length
 ·have:=h.2.2.2.2.2 i hi;rw[kx hi];exact this.1.1
 ·rw[List.getD_eq_getElem?_getD,List.getElem?_eq_none (by omega)];exact Int.le_refl _
theorem Iz{x:LK.den}(h:Wf LK x):Ho (dB x.1.1 x.1.2.1 x.1.2.2.1 x.1.2.2.2.1 x.1.2.2.2.2 x.2.1.1 x.2.1.2.1 x.2.1.2.2.1 x.2.1.2.2.2.1 x.2.1.2.2.2.2 x.2.2.1 x.2.2.2.1 x.2.2.2.2.1 x.2.2.2.2.2.1 x.2.2.2.2.2.2.1 x.2.2.2.2.2.2.2) (fun _=>True) :=
 Iq (D1 h.1) (D1 h.2.1) (GJ h.2.2.2.2.2.1)
def vk:Nat→Qk→Nat→Prop
 | a,[],b=>a=b
 | a,x::r,b=>∃m:Nat,x.1=(a:Int)∧x.2.1=(m:Int)∧a≤m∧vk m r b
theorem vk.app:∀ {a b c:Nat} {l k:Qk},vk a l b→vk b k c→vk a (l++k) c
 | a,b,c,[],k,h,h'=>by cases h;exact h'
 | a,b,c,x::r,k,⟨m,f,p,q,u⟩,h'=>⟨m,f,p,q,u.app h'⟩
theorem vk.Ms(f:Nat):∀ {a b:Nat} {l:Qk},vk a l b→vk (f+a) (ja l (f:Int)) (f+b)
 | a,b,[],h=>by cases h;rfl
 | a,b,x::r,⟨m,q,u,v,p⟩=>by
  rw[E8];exact⟨f+m,by simp only;omega,by simp only;omega,by omega,p.Ms f⟩
theorem yj(d:Dt)(n:Nat)(j f:Int):∀m a,a≤n→n - a≤m→vk a (fm d n j f m a) n
 | 0,a,h1,h2=>by simp only[fm,vk];omega
 | m+1,a,h1,h2=>by
  simp only[fm];split
  ·rename_i ha;have h:=rm d j f ha;exact⟨_,rfl,rfl,by omega,yj d n j f m _ h.2 (by omega)⟩
  ·simp only[vk];omega
theorem AB(d:Dt){n:Nat}(f:Int){T:Qq}(hT:∀a,a<n→0≤(T.getD a (0,0)).2→(a:Int)<(T.getD a (0,0)).2∧(T.getD a (0,0)).2≤(n:Int)∧((T.getD a (0,0)).2<(n:Int)→0≤(T.getD (T.getD a (0,0)).2.toNat (0,0)).2)):
  ∀m a,a≤n→n - a≤m→(a<n→0≤(T.getD a (0,0)).2)→vk a (je d n f T m a) n
 | 0,a,h1,h2,_=>by simp only[je,vk];omega
 | m+1,a,h1,h2,j=>by
  simp only[je];split
  ·rename_i ha;obtain⟨q,u,p⟩:=hT a ha (j ha);exact⟨(T.getD a (0,0)).2.toNat,rfl,rfl,by omega,AB d f hT m _ (by omega) (by omega) (fun _=>p (by omega))⟩
  ·simp only[vk];omega
theorem G8(d:Dt)(n:Nat)(c:Wy):vk 0 (gI d n c).1 n:=by
 have h1:=yj d n c.1 c.2.1 n 0 (by omega) (by omega);unfold gI pV;by_cases hm:c.2.2.1=1
 ·rw[if_pos hm];by_cases f:n=0
  ·rw[if_pos f];exact f.symm
  ·rw[if_neg f];by_cases j:((dV d n c n).getD 0 (0,0)).2<0
   ·rw[if_pos j];exact h1
   ·rw[if_neg j];exact AB d c.2.1 (rK d n c) n 0 (by omega) (by omega) (fun _=>by omega)
 ·rw[if_neg hm];exact h1
def HY:Nat→QK→Nat
 | f,[]=>f
 | _,t::r=>HY t.toNat r
theorem xY:∀(l:QK) (f:Nat) (t:Int),HY f (l++[t])=t.toNat
 | [],_,_=>rfl
 | _::r,_,t=>xY r _ t
theorem yk{cl:Qk}{o:QK}{M:Nat}(c:Wy):∀ {l:QK} {f:Nat},F7 o M f l→vk f (iQ cl o c f l).1 (HY f l)
 | [],f,_=>rfl
 | t::r,f,⟨j,p,p3,p4,p5⟩=>by
  have h:=(G8 (aN cl o f) (t.toNat - f) c).Ms f;rw[show f+(t.toNat - f)=t.toNat by omega]at h;exact h.app (yk c p5)
theorem KG{n:Int}{p:Qk×QK}(h:PM n p)(c:Wy):vk 0 (LF p.1 p.2 c).1 p.1.length:=by
 have hl:=h.Ji.len;have f:F7 p.2 p.1.length 0 (eT p.2 p.2.length):=by rw[sa];exact nc _ _ _ (by omega)
 have:=yk (cl:=p.1) c f;unfold LF;rw[show HY 0 (eT p.2 p.2.length)=p.1.length by
  rw[hl];simp only[eT];rw[if_pos h.Ji.last,xY];simp]at this
 exact this
theorem vk.get:∀ {a b:Nat} {l:Qk},vk a l b→∀i,i<l.length→∃u v:Nat,(l.getD i c0).1=(u:Int)∧(l.getD i c0).2.1=(v:Int)∧u≤v∧(i=0→u=a)∧(∀j,i=j+1→(l.getD j c0).2.1=(u:Int))∧(i+1=l.length→v=b)
 | a,b,[],_,i,hi=>absurd hi (by simp)
 | a,b,x::r,⟨m,A,f,B,q⟩,0,hi=>by
  refine⟨a,m,A,f,B,fun _=>rfl,fun j C=>by omega,fun z=>?_⟩;have:r=[]:=List.eq_nil_of_length_eq_zero (by simp only[List.length_cons]at z;omega);subst this;exact q
 | a,b,x::r,⟨m,A,f,B,q⟩,i+1,hi=>by
  obtain⟨u,v,h1,h2,D,E,I,J⟩:=q.get i (by simpa using hi);refine⟨u,v,by simpa using h1,by simpa using h2,D,fun h=>by omega,fun j C=>?_,fun z=>J (by simpa using z)⟩;obtain rfl:i=j:=by omega
  cases i with
  | zero=>rw[E rfl];exact f
  | succ k=>have:=I k rfl;simpa using this
theorem vk.le:∀ {a b:Nat} {l:Qk},vk a l b→a≤b
 | _,_,[],h=>Nat.le_of_eq h
 | _,_,_::_,⟨_,_,_,h1,h2⟩=>Nat.le_trans h1 h2.le
theorem pK.L7:∀ {a n:Int} {s:Qk},pK a s n→a≤n∧∀i,i<s.length→a≤(s.getD i c0).1∧1≤(s.getD i c0).2.1∧(s.getD i c0).1+(s.getD i c0).2.1≤n
 | a,n,[],h=>⟨by simp only[pK]at h;omega,fun i hi=>absurd hi (by simp)⟩
 | a,n,x::r,⟨h1,h2,_,_,_,_,f⟩=>by
  obtain⟨q,p⟩:=f.L7;refine⟨by omega,fun i hi=>?_⟩;cases i with
  | zero=>simp only[List.getD_cons_zero];omega
  | succ i =>
   have:=p i (by simpa using hi);simp only[List.getD_cons_succ];omega
section
variable{d:Dt}{n:Nat}(hi:∀k,0<k→k<n→oH d k≠2)(hn:oH d n=2)
include hi hn
end
end
end Go.Proofs.YtobbjfkfmdiklaaGreatDoor.T
