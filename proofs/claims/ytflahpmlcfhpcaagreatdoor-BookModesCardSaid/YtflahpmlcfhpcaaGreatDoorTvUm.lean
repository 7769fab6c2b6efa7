import Derived.Test.YtflahpmlcfhpcaaGreatDoorTvSm
import Derived.ProofKit
import Derived.OpenShut
import Derived.SizedLaws
import Derived.Carry
import Derived.Test.YtflahpmlcfhpcaaGreatDoorTv30gim
namespace Go.Tv
open Go Go.RowKit
def sA(P:Program):Nat→TypeId→Option Ty
 | 0,_=>none
 | n+1,t=>match P.underlying t with
  | some .bool=>some .bool
  | some (.int k)=>some (.int k)
  | some .string=>some .str
  | some (.float .f64)=>some .flt
  | some (.slice e)=>match sA P n e with
   | some A=>if P.cellsOf e=A.size∧0<A.size then some (.slice A)else none
   | none=>none
  | some (.struct j)=>match j.toList.mapM (fun f=>sA P n f.type)with
   | some Ts=>if iL P 0 j.toList Ts=true∧P.cellsOf t=(fV Ts).size∧Ts≠[]then some (fV Ts)else none
   | none=>none
  | _=>none
def Wf:(T:Ty)→T.den→Prop
 | .int k,n=>k.min≤(show Int from n)∧(show Int from n)≤k.max
 | .bool,_=>True
 | .str,s=>List.length (α:=UInt8) s≤maxLen
 | .flt,n=>∀m:Nat,(show QJ from n)=some m→m<18446744073709551616∧eA m=some m
 | .unit,_=>True
 | .prod a b,x=>Wf a x.1∧Wf b x.2
 | .slice A,e=>List.length (α:=A.den) e≤maxLen∧∀i (h:i<List.length (α:=A.den) e),Wf A e[i]
 | .ptr _,_=>True
 | .tree _ _,_=>True
 | .arr _ _,_=>True
 | .mapi _ _,_=>True
section
variable{H:Type}{enc':TypeId×Value→H}{P:Program}{w:World}{sp:Nat→Bool}{held:Bool}
theorem build{A:Ty}{p:Nat→A.den→Prop}:∀(n:Nat),(∀i,i<n→∃x,p i x)→∃xs:List A.den,xs.length=n∧∀i (h:i<xs.length),p i xs[i]
 | 0,_=>⟨[],rfl,fun i h=>absurd h (by simp)⟩
 | n+1,h=>by
  obtain⟨xs,q,u⟩:=build n fun i hi=>h i (by omega)
  obtain⟨x,z⟩:=h n (by omega);refine⟨xs++[x],by simp[q],fun i hi=>?_⟩;simp only[List.length_append,List.length_cons,List.length_nil]at hi;rcases Nat.lt_or_ge i xs.length with j | j
  ·rw[List.getElem_append_left j];exact u i j
  ·obtain rfl:i=n:=by omega
   have e:(xs++[x])[i]'(by simp;omega)=x:=by rw[List.getElem_append_right (by omega)];simp[q]
   rw[e];exact z
def Reads(w:World)(T:Ty)(e:QY)(x:T.den):Prop:=ah (fun a v=>w.cell? a=some v) T x (fun k v=>e[k]? = some v)∧Wf T x
theorem EW{base:Nat}{a:Addr}{n:Nat}{e:QY}(h:w.cells? base a n=some e):e.length=n∧∀k v,e[k]? = some v→w.cell? (a.add k)=some v:=by
 unfold World.cells? at h;split at h
 ·obtain⟨f,u⟩:=mD h;simp only[List.length_range]at f;refine⟨f,fun k v hk=>?_⟩;have j:k<n:=by rw[←f];exact(List.getElem?_eq_some_iff.1 hk).1
  obtain⟨y,q,x⟩:=u k k (by simp[j]);rw[hk]at q;cases q;exact x
 ·cases h
theorem Reads.cut{T:Ty}{e:QY}{off n:Nat}{x:T.den}(h:Reads w T ((e.drop off).take n) x):ah (fun a v=>w.cell? a=some v) T x (fun k v=>e[off+k]? = some v)∧Wf T x :=
 ⟨ah.mono (fun _ _ h=>h) (fun k v hk=>by
  rw[List.getElem?_take]at hk;split at hk
  ·simpa using hk
  ·cases hk) h.1,h.2⟩
theorem xF{q:QY}:∀(p:List Field) (Ts:List Ty) (off:Nat),iL P off p Ts=true→p.length=Ts.length →
  (∀(i:Nat) f T,p[i]? = some f→Ts[i]? = some T→∃x:T.den,Reads w T ((q.drop f.offset).take (P.cellsOf f.type)) x) →
  ∀e,(∃x:e.den,ah (fun a v=>w.cell? a=some v) e x (fun k v=>q[off - e.size+k]? = some v)∧Wf e x)→e.size≤off →
  ∃x:(iA e Ts).den,ah (fun a v=>w.cell? a=some v) (iA e Ts) x (fun k v=>q[off - e.size+k]? = some v)∧Wf (iA e Ts) x
 | [],[],off,_,_,_,e,u,_=>u
 | [],_::_,_,_,hl,_,_,_,_=>by simp at hl
 | _::_,[],_,_,hl,_,_,_,_=>by simp at hl
 | f::p,T::Ts,off,A,hl,B,e,⟨C,u,w0⟩,D=>by
  simp only[iL,Bool.and_eq_true,beq_iff_eq]at A;obtain⟨⟨E,N⟩,I⟩:=A;obtain⟨y,J⟩:=B 0 f T rfl rfl;have j:=J.cut;rw[E]at j;obtain⟨z,hz,L⟩:=xF p Ts (off+T.size) I (by simpa using hl) (fun i M T' a b=>B (i+1) M T' (by simpa using a) (by simpa using b)) T ⟨y,by
   rw[Nat.add_sub_cancel];exact j.1,j.2⟩ (Nat.le_add_left _ _)
  refine⟨(C,z),⟨u,?_⟩,w0,L⟩;refine ah.mono (fun _ _ h=>h) (fun k v hk=>?_) hz;rw[Nat.add_sub_cancel]at hk;show q[off - e.size+(e.size+k)]? = some v;rwa [show off - e.size+(e.size+k)=off+k by omega]
theorem Au{u:QY}(j:List Field)(Ts:List Ty)(C:iL P 0 j Ts=true)(hl:j.length=Ts.length)(B:Ts≠[])
  (D:∀(i:Nat) f T,j[i]? = some f→Ts[i]? = some T→∃x:T.den,Reads w T ((u.drop f.offset).take (P.cellsOf f.type)) x):∃x:(fV Ts).den,Reads w (fV Ts) u x:=by
 match j,Ts with
 | [],[]=>exact absurd rfl B
 | [],_::_=>simp at hl
 | _::_,[]=>simp at hl
 | f::j,T::Ts =>
  simp only[iL,Bool.and_eq_true,beq_iff_eq]at C;obtain⟨⟨I,N⟩,J⟩:=C;obtain⟨y,L⟩:=D 0 f T rfl rfl;have e:=L.cut;rw[I]at e;obtain⟨z,hz,E⟩:=xF j Ts (0+T.size) J (by simpa using hl) (fun i M T' a b=>D (i+1) M T' (by simpa using a) (by simpa using b)) T ⟨y,by
   rw[Nat.add_sub_cancel];exact e.1,e.2⟩ (Nat.le_add_left _ _)
  have q:ah (fun a v=>w.cell? a=some v) (iA T Ts) z (fun k v=>u[k]? = some v):=ah.mono (fun _ _ h=>h) (fun k v hk=>by
   rwa [Nat.add_sub_cancel,Nat.zero_add]at hk) hz
  cases Ts with
  | nil=>exact⟨(z,()),⟨q,trivial⟩,E,trivial⟩
  | cons b r=>exact⟨z,q,E⟩
theorem zE:∀(n:Nat) (t:TypeId) (T:Ty),sA P n t=some T→∀(u:Nat) (z:QY) (r:DataW H×List MemPlace),DataW.trod enc' P w 0 sp held u t z=some r→(∃x:T.den,Reads w T z x)∧z.length=T.size
 | 0,_,_,h,_,_,_,_=>by simp[sA]at h
 | n+1,t,T,h,0,z,r,j=>by simp[DataW.trod]at j
 | n+1,t,T,h,u+1,z,r,j=>by
  have ih:=zE n;simp only[sA]at h;unfold DataW.trod at j;split at h
  ·rename_i hu;cases h;rw[hu]at j;split at j <;> first | (exfalso;simp_all;done) | skip
   rename_i b _;exact⟨⟨b,by simp[ah],trivial⟩,rfl⟩
  ·rename_i k hu;cases h;rw[hu]at j;split at j <;> first | (exfalso;simp_all;done) | skip
   rename_i J L i e;cases e;split at j
   ·rename_i hk;obtain⟨rfl,E⟩:=hk;refine⟨⟨i,by simp[ah],?_⟩,rfl⟩;simp only[Lit.wf,Bool.and_eq_true,decide_eq_true_eq]at E;exact E
   ·cases j
  ·rename_i hu;cases h;rw[hu]at j;split at j <;> first | (exfalso;simp_all;done) | skip
   rename_i s e;split at j
   ·rename_i hs;refine⟨⟨s.data.toList,by simp[ah],?_⟩,rfl⟩;show s.data.toList.length≤maxLen;have e:s.data.toList.length=s.size:=Array.length_toList;rw[e];exact hs
   ·cases j
  ·rename_i hu;cases h;rw[hu]at j;split at j <;> first | (exfalso;simp_all;done) | skip
   rename_i J L i e;cases e;split at j
   ·rename_i hk;obtain⟨rfl,E⟩:=hk;refine⟨⟨eA i,by simp[ah],fun m hm=>?_⟩,rfl⟩;have M:i<18446744073709551616:=by simpa [Lit.wf]using E
    have e:=jE hm;subst e;exact⟨M,hm⟩
   ·cases j
  ·rename_i e hu;split at h
   ·rename_i A hA;split at h
    ·rename_i N;cases h;rw[hu]at j;split at j <;> first | (exfalso;simp_all;done) | skip
     ·exact⟨⟨[],⟨none,0,0,rfl,⟨rfl,Nat.le_refl _⟩,fun i hi=>absurd hi (by simp)⟩,Nat.zero_le _,fun i hi=>absurd hi (by simp)⟩,rfl⟩
     ·rename_i e' a len cap q;cases q;simp only at j;split at j
      ·rename_i hb;simp only[Option.bind_eq_some_iff]at j;obtain⟨O,he,_⟩:=j;obtain⟨g1,g2⟩:=mD he;simp only[List.length_range]at g1;obtain⟨V,B,C⟩:=build (A:=A) (p:=fun i x=>ah (fun a v=>w.cell? a=some v) A x (fun k v=>w.cell? (a.add (i*A.size+k))=some v)∧Wf A x) len fun i hi=>by obtain⟨y,_,I⟩:=g2 i i (by simp[hi]);simp only[Option.bind_eq_some_iff]at I;obtain⟨z,X,q4⟩:=I;obtain⟨s1,s2⟩:=EW X;obtain⟨⟨x,t1,t2⟩,_⟩:=ih e A hA u z y q4;refine⟨x,ah.mono (fun _ _ h=>h) (fun k v hk=>?_) t1,t2⟩;have:=s2 k v hk;rw[add_add]at this;rw[N.1]at this;exact this
       refine⟨⟨V,⟨some a,len,cap,rfl,⟨B.symm,hb.2.1⟩,fun i hi=>⟨a,rfl,(C i hi).1⟩⟩,?_,fun i hi=>(C i hi).2⟩,rfl⟩;show V.length≤maxLen;rw[B];exact Nat.le_trans hb.2.1 hb.2.2
      ·cases j
    ·cases h
   ·cases h
  ·rename_i fs hu;split at h
   ·rename_i Ts Y;split at h
    ·rename_i hc;obtain⟨Z,a1,a2⟩:=hc;cases h;rw[hu]at j;split at j <;> first | (exfalso;simp_all;done) | skip
     rename_i a4 _ _ q;cases q;split at j
     ·rename_i D;simp only[Option.map_eq_some_iff]at j;obtain⟨V,a3,_⟩:=j;obtain⟨g1,g2⟩:=mD a3;obtain⟨J,L⟩:=mD Y;refine⟨Au fs.toList Ts Z J.symm a2 fun i f T hf hT=>?_,by rw[D,a1]⟩;obtain⟨T',q1,I⟩:=L i f hf;rw[hT]at q1;cases q1;obtain⟨y,_,X⟩:=g2 i f hf;exact(ih f.type T I u _ y X).1
     ·cases j
    ·cases h
   ·cases h
  ·cases h
end
def Kf:List Ty→Type
 | []=>Unit
 | T::Ts=>T.den×Kf Ts
def H9(T:Ty)(x:T.den):af:=if T.scalar then .p false T x else .agg (flat false T x)
def Jp:(Ts:List Ty)→Kf Ts→List af
 | [],_=>[]
 | T::Ts,x=>H9 T x.1::Jp Ts x.2
def Lh:(Ts:List Ty)→Kf Ts→Prop
 | [],_=>True
 | T::Ts,x=>Wf T x.1∧Lh Ts x.2
section
variable{H:Type}{en:TypeId×Value→H}{P:Program}{w:World}{sp:Nat→Bool}{held:Bool}
theorem zv{t:TypeId}{n:Nat}{T:Ty}(ht:sA P n t=some T){r:Reach}{base:Nat}{v:Value}(h:Value.okWide P w r base t v):(∃f,v = .agg f)∨T.scalar=true∧v.cells = #[v]:=by
 cases n with
 | zero=>simp[sA]at ht
 | succ n =>
  simp only[sA]at ht;unfold Value.okWide at h;split at ht
  ·rename_i hu;cases ht;rw[hu]at h;right
   simp only[Cell.okWide,hu]at h;refine⟨rfl,?_⟩;cases v <;> simp_all [Cell.ok,Value.cells]
  ·rename_i k hu;cases ht;rw[hu]at h;right
   simp only[Cell.okWide,hu]at h;refine⟨rfl,?_⟩;cases v <;> simp_all [Cell.ok,Value.cells]
  ·rename_i hu;cases ht;rw[hu]at h;right
   simp only[Cell.okWide,hu]at h;refine⟨rfl,?_⟩;cases v <;> simp_all [Cell.ok,Value.cells]
  ·rename_i hu;cases ht;rw[hu]at h;right
   simp only[Cell.okWide,hu]at h;refine⟨rfl,?_⟩;cases v <;> simp_all [Cell.ok,Value.cells]
  ·rename_i e hu;split at ht
   ·split at ht
    ·cases ht;rw[hu]at h;right
     simp only[Cell.okWide,hu]at h;refine⟨rfl,?_⟩;cases v <;> simp_all [Cell.ok,Value.cells]
    ·cases ht
   ·cases ht
  ·rename_i j hu;rw[hu]at h;obtain⟨f,e,_⟩:=h;exact .inl ⟨f,e⟩
  ·cases ht
theorem Fy{t:TypeId}{n:Nat}{T:Ty}(ht:sA P n t=some T){r:Reach}{base:Nat}{f:QU}(h:Value.okWide P w r base t (.agg f)):T.scalar=false:=by
 cases n with
 | zero=>simp[sA]at ht
 | succ n =>
  simp only[sA]at ht;unfold Value.okWide at h;split at ht
  ·rename_i hu;rw[hu]at h;simp[Cell.okWide,hu,Cell.ok]at h
  ·rename_i k hu;rw[hu]at h;simp[Cell.okWide,hu,Cell.ok]at h
  ·rename_i hu;rw[hu]at h;simp[Cell.okWide,hu,Cell.ok]at h
  ·rename_i hu;rw[hu]at h;simp[Cell.okWide,hu,Cell.ok]at h
  ·rename_i e hu;rw[hu]at h;simp[Cell.okWide,hu,Cell.ok]at h
  ·split at ht
   ·rename_i Ts _;split at ht
    ·rename_i hc;cases ht;match Ts,hc.2.2 with
     | [a],_=>rfl
     | a::b::r,_=>rfl
    ·cases ht
   ·cases ht
  ·cases ht
theorem FA{t:TypeId}{n:Nat}{T:Ty}(ht:sA P n t=some T){v:Value}{d:DataW H}{p:List MemPlace}(h:DataW.Trod en P w 0 sp held t v d p){r:Reach}{base:Nat}(A:Value.okWide P w r base t v):
  ∃x:T.den,V (Fr fZ (fun _=>False) w) jd (H9 T x) v∧Wf T x:=by
 obtain⟨j,B⟩:=h;obtain⟨⟨x,C,D⟩,E⟩:=zE n t T ht j _ _ B;refine⟨x,?_,D⟩;have f:ah (Fr fZ (fun _=>False) w false) T x (fun k u=>v.cells.toList[k]? = some u):=ah.mono (fun a u hu=>⟨fun e=>e,fun _ e=>e,World.ff hu⟩) (fun _ _ h=>h) C;rcases zv ht A with⟨I,rfl⟩ | ⟨q,hc⟩
 ·have q:=Fy ht A;unfold H9;rw[q];simp only[Bool.false_eq_true,if_false,V];refine⟨I,rfl,by rw[eI,←E];simp[Value.cells],jA false T x _ (ah.mono (fun _ _ h=>h) (fun k u hk=>by simpa [Value.cells]using hk) f)⟩
 ·unfold H9;rw[if_pos q];simp only[V];refine⟨q,?_⟩;rw[hc]at f;have z:ah (Fr fZ (fun _=>False) w false) T x (fun k u=>(#[v]:QU).toList[k]? = some u):=f;refine ah.gf (fun k u hk hu=>?_) z;rw[Ty.fu q]at hk;obtain rfl:k=0:=by omega
  simp at hu;exact hu.symm
theorem xG{n:Nat}:∀ {ts:List TypeId} {Ts:List Ty} {e:QY} {f:List (DataW H)} {p:List MemPlace},ts.map (sA P n)=Ts.map some→DataW.TrodAll en P w 0 sp held ts e f p→∀ {r:Reach} {base:Nat},
  (∀(j:Nat) t v,ts[j]? = some t→e[j]? = some v→Value.okWide P w r base t v)→∃x:Kf Ts,iF (Fr fZ (fun _=>False) w) jd (Jp Ts x) e∧Lh Ts x∧f.length=ts.length
 | [],[],[],[],_,_,_,_,_,_=>⟨(),trivial,trivial,rfl⟩
 | t::ts,T::Ts,v::e,d::f,p,hT,⟨q,L,z,A,_⟩,r,base,u=>by
  simp only[List.map_cons,List.cons.injEq]at hT;obtain⟨x,B,D⟩:=FA hT.1 z (u 0 t v rfl rfl);obtain⟨y,E,wy,hl⟩:=xG hT.2 A (fun j I J a b=>u (j+1) I J (by simpa using a) (by simpa using b));exact⟨(x,y),⟨B,E⟩,⟨D,wy⟩,by simp[hl]⟩
 | [],_::_,_,_,_,hT,_,_,_,_=>by simp at hT
 | _::_,[],_,_,_,hT,_,_,_,_=>by simp at hT
 | [],[],_::_,_,_,_,h,_,_,_=>h.elim
 | [],[],[],_::_,_,_,h,_,_,_=>h.elim
 | _::_,_::_,[],_,_,_,h,_,_,_=>h.elim
 | _::_,_::_,_::_,[],_,_,h,_,_,_=>h.elim
theorem ye(hl:laidOutB P=true){x:World}(hb:Below w.heap.size w x):∀ {ts:List TypeId} {j:QY} {u:List (DataW H)} {p:List MemPlace},ts.all (fun t=>P.readableRec t && decide (t<P.types.size))=true →
  DataW.TrodAll en P w 0 (fun _=>true) true ts j u p→DataW.TrodAll en P x 0 (fun b=>decide (b<w.heap.size)) true ts j u p
 | [],[],[],_,_,h=>h
 | t::ts,v::j,d::u,p,f,⟨q,A,z,B,e⟩ =>
  by
   simp only[List.all_cons,Bool.and_eq_true,decide_eq_true_eq]at f;exact⟨q,A,Below.trod hl f.1.1 f.1.2 z hb (by obtain⟨m,D⟩:=z;exact DataW.trod_lt m _ _ _ D),ye hl hb f.2 B,e⟩
 | [],_::_,_,_,_,h=>h.elim
 | [],[],_::_,_,_,h=>h.elim
 | _::_,[],_,_,_,h=>h.elim
 | _::_,_::_,[],_,_,h=>h.elim
end
end Go.Tv
namespace Go.Proofs.YtflahpmlcfhpcaaGreatDoor.T
open Go Go.Tv Go.Proofs
noncomputable section
abbrev Lj:Ty:= .prod (.int .u8) (.prod (.int .u8) (.prod (.int .u8) (.prod (.slice (.int .u8)) (.slice (.prod (.int .u8) (.prod (.slice (.int .u8)) (.slice (.int .u8))))))))
abbrev Ll:Ty:= .prod Lj (.prod Lj (.prod (.slice (.int .u8)) (.prod (.slice (.int .u8)) (.prod (.slice (.int .u8)) (.prod (.slice (.int .u8)) (.prod (.int .u8) (.int .u8)))))))
theorem Ar{l:QK}(h:Wf (.slice (.int .u8)) l):∀i,0≤l.getD i 0∧l.getD i 0≤255:=fun i=>by
 by_cases hi:i<l.length
 ·have:=h.2 i hi;rw[kB hi];exact this
 ·rw[List.getD_eq_getElem?_getD,List.getElem?_eq_none (by omega)];simp
theorem Dn{x:Lj.den}(h:Wf Lj x):Lw x.1 x.2.2.2.2:=by
 refine⟨h.1.1,fun i=>?_⟩;by_cases hi:i<x.2.2.2.2.length
 ·have:=h.2.2.2.2.2 i hi;rw[kB hi];exact this.1.1
 ·rw[List.getD_eq_getElem?_getD,List.getElem?_eq_none (by omega)];exact Int.le_refl _
theorem Ij{x:Ll.den}(h:Wf Ll x):Ho (dA x.1.1 x.1.2.1 x.1.2.2.1 x.1.2.2.2.1 x.1.2.2.2.2 x.2.1.1 x.2.1.2.1 x.2.1.2.2.1 x.2.1.2.2.2.1 x.2.1.2.2.2.2 x.2.2.1 x.2.2.2.1 x.2.2.2.2.1 x.2.2.2.2.2.1 x.2.2.2.2.2.2.1 x.2.2.2.2.2.2.2) (fun _=>True) :=
 Hx (Dn h.1) (Dn h.2.1) (Ar h.2.2.2.2.2.1)
def KW:Nat→XQ→Nat→Prop
 | a,[],b=>a=b
 | a,x::r,b=>∃m:Nat,x.1=(a:Int)∧x.2.1=(m:Int)∧a≤m∧KW m r b
theorem KW.get:∀ {a b:Nat} {l:XQ},KW a l b→∀i,i<l.length→∃u v:Nat,(l.getD i c0).1=(u:Int)∧(l.getD i c0).2.1=(v:Int)∧u≤v∧(i=0→u=a)∧(∀j,i=j+1→(l.getD j c0).2.1=(u:Int))∧(i+1=l.length→v=b)
 | a,b,[],_,i,hi=>absurd hi (by simp)
 | a,b,x::r,⟨m,z,e,A,f⟩,0,hi=>by
  refine⟨a,m,z,e,A,fun _=>rfl,fun j B=>by omega,fun q=>?_⟩;have:r=[]:=List.eq_nil_of_length_eq_zero (by simp only[List.length_cons]at q;omega);subst this;exact f
 | a,b,x::r,⟨m,z,e,A,f⟩,i+1,hi=>by
  obtain⟨u,v,C,D,E,I,J,L⟩:=f.get i (by simpa using hi);refine⟨u,v,by simpa using C,by simpa using D,E,fun h=>by omega,fun j B=>?_,fun q=>L (by simpa using q)⟩;obtain rfl:i=j:=by omega
  cases i with
  | zero=>rw[I rfl];exact e
  | succ k=>have:=J k rfl;simpa using this
theorem KW.le:∀ {a b:Nat} {l:XQ},KW a l b→a≤b
 | _,_,[],h=>Nat.le_of_eq h
 | _,_,_::_,⟨_,_,_,e,f⟩=>Nat.le_trans e f.le
theorem se.Mb:∀ {a n:Int} {s:XQ},se a s n→a≤n∧∀i,i<s.length→a≤(s.getD i c0).1∧1≤(s.getD i c0).2.1∧(s.getD i c0).1+(s.getD i c0).2.1≤n
 | a,n,[],h=>⟨by simp only[se]at h;omega,fun i hi=>absurd hi (by simp)⟩
 | a,n,x::r,⟨j,p,_,_,_,_,e⟩=>by
  obtain⟨q,f⟩:=e.Mb;refine⟨by omega,fun i hi=>?_⟩;cases i with
  | zero=>simp only[List.getD_cons_zero];omega
  | succ i =>
   have:=f i (by simpa using hi);simp only[List.getD_cons_succ];omega
def tK(l:XQ):QK:=(l.filter fun x=>x.2.2.2 == 2).map fun x=>x.2.1
theorem Dd(l k:XQ):tK (l++k)=tK l++tK k:=by simp[tK]
theorem lC(x:cr)(l:XQ):tK (x::l)=if x.2.2.2=2 then x.2.1::tK l else tK l:=by
 unfold tK;rw[List.filter_cons];by_cases h:x.2.2.2=2
 ·rw[if_pos h,if_pos (by simpa using h),List.map_cons]
 ·rw[if_neg h,if_neg (by simpa using h)]
theorem Dk(f:Int):∀l:XQ,tK (ja l f)=(tK l).map (· + f)
 | []=>rfl
 | x::l=>by
  rw[Ep,lC,lC,Dk f l];by_cases h:x.2.2.2=2
  ·rw[if_pos h,if_pos h];rfl
  ·rw[if_neg h,if_neg h]
section
variable{d:Dt}{n:Nat}(hi:∀k,0<k→k<n→uW d k≠2)(hn:uW d n=2)
include hi hn
theorem Eb(j f:Int){a:Nat}(ha:a<n):(iN d n j f a).2=2↔(iN d n j f a).1=n:=by
 have h:=qU d j f a (n - a) a (-1) (a+1) 0 (Nat.le_refl _) (.inl rfl) (by omega) (by omega);unfold iN;generalize m8 d j f a (n - a) a (-1) (a+1) 0=p at h;simp only;by_cases u:0≤p.1
 ·rw[if_pos u];simp only;by_cases e:p.1.toNat=n
  ·rw[e];exact⟨fun _=>rfl,fun _=>hn⟩
  ·exact⟨fun q=>absurd q (hi _ (by omega) (by omega)),fun q=>absurd q e⟩
 ·rw[if_neg u];simp only;by_cases e:p.2=n
  ·rw[if_neg (by omega),if_pos e,e];exact⟨fun _=>rfl,fun _=>hn⟩
  ·refine⟨fun q=>?_,fun q=>absurd q e⟩;split at q
   ·omega
   ·first | omega | (rw[if_neg e]at q;omega)
theorem u6(j f:Int):∀m a,a≤n→n - a≤m→tK (fG d n j f m a)=if a<n then[(n:Int)]else[]
 | 0,a,u,p=>by rw[if_neg (by omega)];rfl
 | m+1,a,u,p=>by
  simp only[fG];by_cases ha:a<n
  ·have h:=qx d j f ha;rw[if_pos ha,if_pos ha,lC,u6 j f m _ h.2 (by omega)];have p:=Eb hi hn j f ha;unfold IW;simp only;by_cases e:(iN d n j f a).1=n
   ·rw[if_pos (p.2 e),e,if_neg (by omega)]
   ·rw[if_neg fun q=>e (p.1 q),if_pos (by omega)]
  ·rw[if_neg ha,if_neg ha];rfl
theorem xH(f:Int){T:Qq}(hT:∀a,a<n→0≤(T.getD a (0,0)).2→(a:Int)<(T.getD a (0,0)).2∧(T.getD a (0,0)).2≤(n:Int)∧((T.getD a (0,0)).2<(n:Int)→0≤(T.getD (T.getD a (0,0)).2.toNat (0,0)).2)):
  ∀m a,a≤n→n - a≤m→(a<n→0≤(T.getD a (0,0)).2)→tK (jQ d n f T m a)=if a<n then[(n:Int)]else[]
 | 0,a,j,p,_=>by rw[if_neg (by omega)];rfl
 | m+1,a,j,p,q=>by
  simp only[jQ];by_cases ha:a<n
  ·obtain⟨v,x,u⟩:=hT a ha (q ha);rw[if_pos ha,if_pos ha,lC,xH f hT m _ (by omega) (by omega) (fun _=>u (by omega))];unfold IW;simp only;by_cases e:(T.getD a (0,0)).2.toNat=n
   ·rw[e,if_pos hn,if_neg (by omega)]
   ·rw[if_neg (hi _ (by omega) (by omega)),if_pos (by omega)]
  ·rw[if_neg ha,if_neg ha];rfl
theorem Ek(c:Wy):tK (gx d n c).1=if 0<n then[(n:Int)]else[]:=by
 have e:=u6 hi hn c.1 c.2.1 n 0 (by omega) (by omega);unfold gx pT;by_cases f:c.2.2.1=1
 ·rw[if_pos f];by_cases j:n=0
  ·rw[if_pos j,if_neg (by omega)];rfl
  ·rw[if_neg j];by_cases p:((dT d n c n).getD 0 (0,0)).2<0
   ·rw[if_pos p];exact e
   ·rw[if_neg p];exact xH hi hn c.2.1 (qZ d n c) n 0 (by omega) (by omega) (fun _=>by omega)
 ·rw[if_neg f];exact e
end
theorem qj(p:XQ)(o:QK)(c:Wy):∀m k f,f<k→(∀j,f<j→j<k→o.getD j 0≠2)→tK (gv p o c f (jr o m k)).1=jr o m k
 | 0,_,_,_,_=>rfl
 | m+1,k,f,z,q=>by
  simp only[jr];by_cases e:o.getD k 0=2
  ·rw[if_pos e];simp only[gv,Dd,Dk,Int.toNat_natCast];rw[qj p o c m (k+1) k (by omega) (fun j u v=>by omega),Ek (fun j A B=>?_) ?_ c,if_pos (by omega)]
   ·simp only[List.map_cons,List.map_nil,List.cons_append,List.nil_append,List.cons.injEq,and_true];omega
   ·rw[←jS p o f (by omega),show f+(k - f)=k by omega];exact e
   ·rw[←jS p o f (by omega)];exact q _ (by omega) (by omega)
  ·rw[if_neg e];exact qj p o c m (k+1) f (by omega) (fun j u v=>by
    by_cases x:j=k
    ·rw[x];exact e
    ·exact q j u (by omega))
theorem JS{n:Int}{p:XQ×QK}(h:PM n p)(e:0<p.1.length)(c:Wy):tK (LF p.1 p.2 c).1=dS p.2 p.2.length:=by
 have hz:=h.IN.zero e;have hl:=h.IN.len;unfold LF;rw[rB,hl];simp only[jr];rw[if_neg (by rw[hz];decide)];exact qj _ _ c _ 1 0 (by omega) (fun j f q=>by omega)
end
end Go.Proofs.YtflahpmlcfhpcaaGreatDoor.T
