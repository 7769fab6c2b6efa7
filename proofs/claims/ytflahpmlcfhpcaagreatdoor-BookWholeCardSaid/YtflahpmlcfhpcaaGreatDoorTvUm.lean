import Derived.Test.YtflahpmlcfhpcaaGreatDoorTvSm
import Derived.ProofKit
import Derived.OpenShut
import Derived.SizedLaws
import Derived.Carry
import Derived.Test.YtflahpmlcfhpcaaGreatDoorTv30gim
namespace Go.Tv
open Go Go.RowKit
def sP(P:Program):Nat→TypeId→Option Ty
 | 0,_=>none
 | n+1,t=>match P.underlying t with
  | some .bool=>some .bool
  | some (.int k)=>some (.int k)
  | some .string=>some .str
  | some (.float .f64)=>some .flt
  | some (.slice e)=>match sP P n e with
   | some A=>if P.cellsOf e=A.size∧0<A.size then some (.slice A)else none
   | none=>none
  | some (.struct j)=>match j.toList.mapM (fun f=>sP P n f.type)with
   | some Ts=>if iW P 0 j.toList Ts=true∧P.cellsOf t=(fX Ts).size∧Ts≠[]then some (fX Ts)else none
   | none=>none
  | _=>none
def Wf:(T:Ty)→T.den→Prop
 | .int k,n=>k.min≤(show Int from n)∧(show Int from n)≤k.max
 | .bool,_=>True
 | .str,s=>List.length (α:=UInt8) s≤maxLen
 | .flt,n=>∀m:Nat,(show QJ from n)=some m→m<18446744073709551616∧eA m=some m
 | .unit,_=>True
 | .prod a b,x=>Wf a x.1∧Wf b x.2
 | .slice A,e=>List.length (α:=A.den) e≤maxLen∧∀i (h:i<List.length (α:=A.den) e),Wf A e[i]
 | .ptr _,_=>True
 | .tree _ _,_=>True
 | .arr _ _,_=>True
 | .mapi _ _,_=>True
section
variable{H:Type}{enc':TypeId×Value→H}{P:Program}{w:World}{sp:Nat→Bool}{held:Bool}
theorem build{A:Ty}{p:Nat→A.den→Prop}:∀(n:Nat),(∀i,i<n→∃x,p i x)→∃xs:List A.den,xs.length=n∧∀i (h:i<xs.length),p i xs[i]
 | 0,_=>⟨[],rfl,fun i h=>absurd h (by simp)⟩
 | n+1,h=>by
  obtain⟨xs,q,u⟩:=build n fun i hi=>h i (by omega)
  obtain⟨x,z⟩:=h n (by omega);refine⟨xs++[x],by simp[q],fun i hi=>?_⟩;simp only[List.length_append,List.length_cons,List.length_nil]at hi;rcases Nat.lt_or_ge i xs.length with j | j
  ·rw[List.getElem_append_left j];exact u i j
  ·obtain rfl:i=n:=by omega
   have e:(xs++[x])[i]'(by simp;omega)=x:=by rw[List.getElem_append_right (by omega)];simp[q]
   rw[e];exact z
def Reads(w:World)(T:Ty)(e:QY)(x:T.den):Prop:=ah (fun a v=>w.cell? a=some v) T x (fun k v=>e[k]? = some v)∧Wf T x
theorem E6{base:Nat}{a:Addr}{n:Nat}{e:QY}(h:w.cells? base a n=some e):e.length=n∧∀k v,e[k]? = some v→w.cell? (a.add k)=some v:=by
 unfold World.cells? at h;split at h
 ·obtain⟨f,u⟩:=mS h;simp only[List.length_range]at f;refine⟨f,fun k v hk=>?_⟩;have j:k<n:=by rw[←f];exact(List.getElem?_eq_some_iff.1 hk).1
  obtain⟨y,q,x⟩:=u k k (by simp[j]);rw[hk]at q;cases q;exact x
 ·cases h
theorem Reads.cut{T:Ty}{e:QY}{off n:Nat}{x:T.den}(h:Reads w T ((e.drop off).take n) x):ah (fun a v=>w.cell? a=some v) T x (fun k v=>e[off+k]? = some v)∧Wf T x :=
 ⟨ah.mono (fun _ _ h=>h) (fun k v hk=>by
  rw[List.getElem?_take]at hk;split at hk
  ·simpa using hk
  ·cases hk) h.1,h.2⟩
theorem xG{q:QY}:∀(p:List Field) (Ts:List Ty) (off:Nat),iW P off p Ts=true→p.length=Ts.length →
  (∀(i:Nat) f T,p[i]? = some f→Ts[i]? = some T→∃x:T.den,Reads w T ((q.drop f.offset).take (P.cellsOf f.type)) x) →
  ∀e,(∃x:e.den,ah (fun a v=>w.cell? a=some v) e x (fun k v=>q[off - e.size+k]? = some v)∧Wf e x)→e.size≤off →
  ∃x:(iy e Ts).den,ah (fun a v=>w.cell? a=some v) (iy e Ts) x (fun k v=>q[off - e.size+k]? = some v)∧Wf (iy e Ts) x
 | [],[],off,_,_,_,e,u,_=>u
 | [],_::_,_,_,hl,_,_,_,_=>by simp at hl
 | _::_,[],_,_,hl,_,_,_,_=>by simp at hl
 | f::p,T::Ts,off,A,hl,B,e,⟨C,u,w0⟩,D=>by
  simp only[iW,Bool.and_eq_true,beq_iff_eq]at A;obtain⟨⟨E,N⟩,I⟩:=A;obtain⟨y,J⟩:=B 0 f T rfl rfl;have j:=J.cut;rw[E]at j;obtain⟨z,hz,L⟩:=xG p Ts (off+T.size) I (by simpa using hl) (fun i M T' a b=>B (i+1) M T' (by simpa using a) (by simpa using b)) T ⟨y,by
   rw[Nat.add_sub_cancel];exact j.1,j.2⟩ (Nat.le_add_left _ _)
  refine⟨(C,z),⟨u,?_⟩,w0,L⟩;refine ah.mono (fun _ _ h=>h) (fun k v hk=>?_) hz;rw[Nat.add_sub_cancel]at hk;show q[off - e.size+(e.size+k)]? = some v;rwa [show off - e.size+(e.size+k)=off+k by omega]
theorem zK{u:QY}(j:List Field)(Ts:List Ty)(C:iW P 0 j Ts=true)(hl:j.length=Ts.length)(B:Ts≠[])
  (D:∀(i:Nat) f T,j[i]? = some f→Ts[i]? = some T→∃x:T.den,Reads w T ((u.drop f.offset).take (P.cellsOf f.type)) x):∃x:(fX Ts).den,Reads w (fX Ts) u x:=by
 match j,Ts with
 | [],[]=>exact absurd rfl B
 | [],_::_=>simp at hl
 | _::_,[]=>simp at hl
 | f::j,T::Ts =>
  simp only[iW,Bool.and_eq_true,beq_iff_eq]at C;obtain⟨⟨I,N⟩,J⟩:=C;obtain⟨y,L⟩:=D 0 f T rfl rfl;have e:=L.cut;rw[I]at e;obtain⟨z,hz,E⟩:=xG j Ts (0+T.size) J (by simpa using hl) (fun i M T' a b=>D (i+1) M T' (by simpa using a) (by simpa using b)) T ⟨y,by
   rw[Nat.add_sub_cancel];exact e.1,e.2⟩ (Nat.le_add_left _ _)
  have q:ah (fun a v=>w.cell? a=some v) (iy T Ts) z (fun k v=>u[k]? = some v):=ah.mono (fun _ _ h=>h) (fun k v hk=>by
   rwa [Nat.add_sub_cancel,Nat.zero_add]at hk) hz
  cases Ts with
  | nil=>exact⟨(z,()),⟨q,trivial⟩,E,trivial⟩
  | cons b r=>exact⟨z,q,E⟩
theorem AX:∀(n:Nat) (t:TypeId) (T:Ty),sP P n t=some T→∀(u:Nat) (z:QY) (r:DataW H×List MemPlace),DataW.trod enc' P w 0 sp held u t z=some r→(∃x:T.den,Reads w T z x)∧z.length=T.size
 | 0,_,_,h,_,_,_,_=>by simp[sP]at h
 | n+1,t,T,h,0,z,r,j=>by simp[DataW.trod]at j
 | n+1,t,T,h,u+1,z,r,j=>by
  have ih:=AX n;simp only[sP]at h;unfold DataW.trod at j;split at h
  ·rename_i hu;cases h;rw[hu]at j;split at j <;> first | (exfalso;simp_all;done) | skip
   rename_i b _;exact⟨⟨b,by simp[ah],trivial⟩,rfl⟩
  ·rename_i k hu;cases h;rw[hu]at j;split at j <;> first | (exfalso;simp_all;done) | skip
   rename_i J L i e;cases e;split at j
   ·rename_i hk;obtain⟨rfl,E⟩:=hk;refine⟨⟨i,by simp[ah],?_⟩,rfl⟩;simp only[Lit.wf,Bool.and_eq_true,decide_eq_true_eq]at E;exact E
   ·cases j
  ·rename_i hu;cases h;rw[hu]at j;split at j <;> first | (exfalso;simp_all;done) | skip
   rename_i s e;split at j
   ·rename_i hs;refine⟨⟨s.data.toList,by simp[ah],?_⟩,rfl⟩;show s.data.toList.length≤maxLen;have e:s.data.toList.length=s.size:=Array.length_toList;rw[e];exact hs
   ·cases j
  ·rename_i hu;cases h;rw[hu]at j;split at j <;> first | (exfalso;simp_all;done) | skip
   rename_i J L i e;cases e;split at j
   ·rename_i hk;obtain⟨rfl,E⟩:=hk;refine⟨⟨eA i,by simp[ah],fun m hm=>?_⟩,rfl⟩;have M:i<18446744073709551616:=by simpa [Lit.wf]using E
    have e:=jC hm;subst e;exact⟨M,hm⟩
   ·cases j
  ·rename_i e hu;split at h
   ·rename_i A hA;split at h
    ·rename_i N;cases h;rw[hu]at j;split at j <;> first | (exfalso;simp_all;done) | skip
     ·exact⟨⟨[],⟨none,0,0,rfl,⟨rfl,Nat.le_refl _⟩,fun i hi=>absurd hi (by simp)⟩,Nat.zero_le _,fun i hi=>absurd hi (by simp)⟩,rfl⟩
     ·rename_i e' a len cap q;cases q;simp only at j;split at j
      ·rename_i hb;simp only[Option.bind_eq_some_iff]at j;obtain⟨O,he,_⟩:=j;obtain⟨g1,g2⟩:=mS he;simp only[List.length_range]at g1;obtain⟨V,B,C⟩:=build (A:=A) (p:=fun i x=>ah (fun a v=>w.cell? a=some v) A x (fun k v=>w.cell? (a.add (i*A.size+k))=some v)∧Wf A x) len fun i hi=>by obtain⟨y,_,I⟩:=g2 i i (by simp[hi]);simp only[Option.bind_eq_some_iff]at I;obtain⟨z,X,q4⟩:=I;obtain⟨s1,s2⟩:=E6 X;obtain⟨⟨x,t1,t2⟩,_⟩:=ih e A hA u z y q4;refine⟨x,ah.mono (fun _ _ h=>h) (fun k v hk=>?_) t1,t2⟩;have:=s2 k v hk;rw[add_add]at this;rw[N.1]at this;exact this
       refine⟨⟨V,⟨some a,len,cap,rfl,⟨B.symm,hb.2.1⟩,fun i hi=>⟨a,rfl,(C i hi).1⟩⟩,?_,fun i hi=>(C i hi).2⟩,rfl⟩;show V.length≤maxLen;rw[B];exact Nat.le_trans hb.2.1 hb.2.2
      ·cases j
    ·cases h
   ·cases h
  ·rename_i fs hu;split at h
   ·rename_i Ts Y;split at h
    ·rename_i hc;obtain⟨Z,a1,a2⟩:=hc;cases h;rw[hu]at j;split at j <;> first | (exfalso;simp_all;done) | skip
     rename_i a4 _ _ q;cases q;split at j
     ·rename_i D;simp only[Option.map_eq_some_iff]at j;obtain⟨V,a3,_⟩:=j;obtain⟨g1,g2⟩:=mS a3;obtain⟨J,L⟩:=mS Y;refine⟨zK fs.toList Ts Z J.symm a2 fun i f T hf hT=>?_,by rw[D,a1]⟩;obtain⟨T',q1,I⟩:=L i f hf;rw[hT]at q1;cases q1;obtain⟨y,_,X⟩:=g2 i f hf;exact(ih f.type T I u _ y X).1
     ·cases j
    ·cases h
   ·cases h
  ·cases h
end
def Kw:List Ty→Type
 | []=>Unit
 | T::Ts=>T.den×Kw Ts
def Io(T:Ty)(x:T.den):af:=if T.scalar then .p false T x else .agg (flat false T x)
def J4:(Ts:List Ty)→Kw Ts→List af
 | [],_=>[]
 | T::Ts,x=>Io T x.1::J4 Ts x.2
def Lu:(Ts:List Ty)→Kw Ts→Prop
 | [],_=>True
 | T::Ts,x=>Wf T x.1∧Lu Ts x.2
section
variable{H:Type}{en:TypeId×Value→H}{P:Program}{w:World}{sp:Nat→Bool}{held:Bool}
theorem yJ{t:TypeId}{n:Nat}{T:Ty}(ht:sP P n t=some T){r:Reach}{base:Nat}{v:Value}(h:Value.okWide P w r base t v):(∃f,v = .agg f)∨T.scalar=true∧v.cells = #[v]:=by
 cases n with
 | zero=>simp[sP]at ht
 | succ n =>
  simp only[sP]at ht;unfold Value.okWide at h;split at ht
  ·rename_i hu;cases ht;rw[hu]at h;right
   simp only[Cell.okWide,hu]at h;refine⟨rfl,?_⟩;cases v <;> simp_all [Cell.ok,Value.cells]
  ·rename_i k hu;cases ht;rw[hu]at h;right
   simp only[Cell.okWide,hu]at h;refine⟨rfl,?_⟩;cases v <;> simp_all [Cell.ok,Value.cells]
  ·rename_i hu;cases ht;rw[hu]at h;right
   simp only[Cell.okWide,hu]at h;refine⟨rfl,?_⟩;cases v <;> simp_all [Cell.ok,Value.cells]
  ·rename_i hu;cases ht;rw[hu]at h;right
   simp only[Cell.okWide,hu]at h;refine⟨rfl,?_⟩;cases v <;> simp_all [Cell.ok,Value.cells]
  ·rename_i e hu;split at ht
   ·split at ht
    ·cases ht;rw[hu]at h;right
     simp only[Cell.okWide,hu]at h;refine⟨rfl,?_⟩;cases v <;> simp_all [Cell.ok,Value.cells]
    ·cases ht
   ·cases ht
  ·rename_i j hu;rw[hu]at h;obtain⟨f,e,_⟩:=h;exact .inl ⟨f,e⟩
  ·cases ht
theorem Hz{t:TypeId}{n:Nat}{T:Ty}(ht:sP P n t=some T){r:Reach}{base:Nat}{f:QU}(h:Value.okWide P w r base t (.agg f)):T.scalar=false:=by
 cases n with
 | zero=>simp[sP]at ht
 | succ n =>
  simp only[sP]at ht;unfold Value.okWide at h;split at ht
  ·rename_i hu;rw[hu]at h;simp[Cell.okWide,hu,Cell.ok]at h
  ·rename_i k hu;rw[hu]at h;simp[Cell.okWide,hu,Cell.ok]at h
  ·rename_i hu;rw[hu]at h;simp[Cell.okWide,hu,Cell.ok]at h
  ·rename_i hu;rw[hu]at h;simp[Cell.okWide,hu,Cell.ok]at h
  ·rename_i e hu;rw[hu]at h;simp[Cell.okWide,hu,Cell.ok]at h
  ·split at ht
   ·rename_i Ts _;split at ht
    ·rename_i hc;cases ht;match Ts,hc.2.2 with
     | [a],_=>rfl
     | a::b::r,_=>rfl
    ·cases ht
   ·cases ht
  ·cases ht
theorem F5{t:TypeId}{n:Nat}{T:Ty}(ht:sP P n t=some T){v:Value}{d:DataW H}{p:List MemPlace}(h:DataW.Trod en P w 0 sp held t v d p){r:Reach}{base:Nat}(A:Value.okWide P w r base t v):
  ∃x:T.den,V (Fr gf (fun _=>False) w) jg (Io T x) v∧Wf T x:=by
 obtain⟨j,B⟩:=h;obtain⟨⟨x,C,D⟩,E⟩:=AX n t T ht j _ _ B;refine⟨x,?_,D⟩;have f:ah (Fr gf (fun _=>False) w false) T x (fun k u=>v.cells.toList[k]? = some u):=ah.mono (fun a u hu=>⟨fun e=>e,fun _ e=>e,World.fj hu⟩) (fun _ _ h=>h) C;rcases yJ ht A with⟨I,rfl⟩ | ⟨q,hc⟩
 ·have q:=Hz ht A;unfold Io;rw[q];simp only[Bool.false_eq_true,if_false,V];refine⟨I,rfl,by rw[eP,←E];simp[Value.cells],jy false T x _ (ah.mono (fun _ _ h=>h) (fun k u hk=>by simpa [Value.cells]using hk) f)⟩
 ·unfold Io;rw[if_pos q];simp only[V];refine⟨q,?_⟩;rw[hc]at f;have z:ah (Fr gf (fun _=>False) w false) T x (fun k u=>(#[v]:QU).toList[k]? = some u):=f;refine ah.gm (fun k u hk hu=>?_) z;rw[Ty.fB q]at hk;obtain rfl:k=0:=by omega
  simp at hu;exact hu.symm
theorem xU{n:Nat}:∀ {ts:List TypeId} {Ts:List Ty} {e:QY} {f:List (DataW H)} {p:List MemPlace},ts.map (sP P n)=Ts.map some→DataW.TrodAll en P w 0 sp held ts e f p→∀ {r:Reach} {base:Nat},
  (∀(j:Nat) t v,ts[j]? = some t→e[j]? = some v→Value.okWide P w r base t v)→∃x:Kw Ts,iH (Fr gf (fun _=>False) w) jg (J4 Ts x) e∧Lu Ts x∧f.length=ts.length
 | [],[],[],[],_,_,_,_,_,_=>⟨(),trivial,trivial,rfl⟩
 | t::ts,T::Ts,v::e,d::f,p,hT,⟨q,L,z,A,_⟩,r,base,u=>by
  simp only[List.map_cons,List.cons.injEq]at hT;obtain⟨x,B,D⟩:=F5 hT.1 z (u 0 t v rfl rfl);obtain⟨y,E,wy,hl⟩:=xU hT.2 A (fun j I J a b=>u (j+1) I J (by simpa using a) (by simpa using b));exact⟨(x,y),⟨B,E⟩,⟨D,wy⟩,by simp[hl]⟩
 | [],_::_,_,_,_,hT,_,_,_,_=>by simp at hT
 | _::_,[],_,_,_,hT,_,_,_,_=>by simp at hT
 | [],[],_::_,_,_,_,h,_,_,_=>h.elim
 | [],[],[],_::_,_,_,h,_,_,_=>h.elim
 | _::_,_::_,[],_,_,_,h,_,_,_=>h.elim
 | _::_,_::_,_::_,[],_,_,h,_,_,_=>h.elim
theorem xZ(hl:laidOutB P=true){x:World}(hb:Below w.heap.size w x):∀ {ts:List TypeId} {j:QY} {u:List (DataW H)} {p:List MemPlace},ts.all (fun t=>P.readableRec t && decide (t<P.types.size))=true →
  DataW.TrodAll en P w 0 (fun _=>true) true ts j u p→DataW.TrodAll en P x 0 (fun b=>decide (b<w.heap.size)) true ts j u p
 | [],[],[],_,_,h=>h
 | t::ts,v::j,d::u,p,f,⟨q,A,z,B,e⟩ =>
  by
   simp only[List.all_cons,Bool.and_eq_true,decide_eq_true_eq]at f;exact⟨q,A,Below.trod hl f.1.1 f.1.2 z hb (by obtain⟨m,D⟩:=z;exact DataW.trod_lt m _ _ _ D),xZ hl hb f.2 B,e⟩
 | [],_::_,_,_,_,h=>h.elim
 | [],[],_::_,_,_,h=>h.elim
 | _::_,[],_,_,_,h=>h.elim
 | _::_,_::_,[],_,_,h=>h.elim
end
end Go.Tv
namespace Go.Proofs.YtflahpmlcfhpcaaGreatDoor.T
open Go Go.Tv Go.Proofs
noncomputable section
abbrev Lz:Ty:= .prod (.int .u8) (.prod (.int .u8) (.prod (.int .u8) (.prod (.slice (.int .u8)) (.slice (.prod (.int .u8) (.prod (.slice (.int .u8)) (.slice (.int .u8))))))))
abbrev Ma:Ty:= .prod Lz (.prod Lz (.prod (.slice (.int .u8)) (.prod (.slice (.int .u8)) (.prod (.slice (.int .u8)) (.prod (.slice (.int .u8)) (.prod (.int .u8) (.int .u8)))))))
theorem Br{l:QK}(h:Wf (.slice (.int .u8)) l):∀i,0≤l.getD i 0∧l.getD i 0≤255:=fun i=>by
 by_cases hi:i<l.length
 ·have:=h.2 i hi;rw[kC hi];exact this
 ·rw[List.getD_eq_getElem?_getD,List.getElem?_eq_none (by omega)];simp
theorem Ec{x:Lz.den}(h:Wf Lz x):L8 x.1 x.2.2.2.2:=by
 refine⟨h.1.1,fun i=>?_⟩;by_cases hi:i<x.2.2.2.2.length
 ·have:=h.2.2.2.2.2 i hi;rw[kC hi];exact this.1.1
 ·rw[List.getD_eq_getElem?_getD,List.getElem?_eq_none (by omega)];exact Int.le_refl _
theorem Ib{x:Ma.den}(h:Wf Ma x):Ho (dE x.1.1 x.1.2.1 x.1.2.2.1 x.1.2.2.2.1 x.1.2.2.2.2 x.2.1.1 x.2.1.2.1 x.2.1.2.2.1 x.2.1.2.2.2.1 x.2.1.2.2.2.2 x.2.2.1 x.2.2.2.1 x.2.2.2.2.1 x.2.2.2.2.2.1 x.2.2.2.2.2.2.1 x.2.2.2.2.2.2.2) (fun _=>True) :=
 IQ (Ec h.1) (Ec h.2.1) (Br h.2.2.2.2.2.1)
def uG:Nat→Qk→Nat→Prop
 | a,[],b=>a=b
 | a,x::r,b=>∃m:Nat,x.1=(a:Int)∧x.2.1=(m:Int)∧a≤m∧uG m r b
theorem uG.app:∀ {a b c:Nat} {l k:Qk},uG a l b→uG b k c→uG a (l++k) c
 | a,b,c,[],k,h,h'=>by cases h;exact h'
 | a,b,c,x::r,k,⟨m,e,f,j,p⟩,h'=>⟨m,e,f,j,p.app h'⟩
theorem uG.Mz(f:Nat):∀ {a b:Nat} {l:Qk},uG a l b→uG (f+a) (jb l (f:Int)) (f+b)
 | a,b,[],h=>by cases h;rfl
 | a,b,x::r,⟨m,j,p,q,e⟩=>by
  rw[Fj];exact⟨f+m,by simp only;omega,by simp only;omega,by omega,e.Mz f⟩
theorem yq(d:Dt)(n:Nat)(f e:Int):∀m a,a≤n→n - a≤m→uG a (eD d n f e m a) n
 | 0,a,j,p=>by simp only[eD,uG];omega
 | m+1,a,j,p=>by
  simp only[eD];split
  ·rename_i ha;have h:=rG d f e ha;exact⟨_,rfl,rfl,by omega,yq d n f e m _ h.2 (by omega)⟩
  ·simp only[uG];omega
theorem A2(d:Dt){n:Nat}(e:Int){T:Qq}(hT:∀a,a<n→0≤(T.getD a (0,0)).2→(a:Int)<(T.getD a (0,0)).2∧(T.getD a (0,0)).2≤(n:Int)∧((T.getD a (0,0)).2<(n:Int)→0≤(T.getD (T.getD a (0,0)).2.toNat (0,0)).2)):
  ∀m a,a≤n→n - a≤m→(a<n→0≤(T.getD a (0,0)).2)→uG a (iu d n e T m a) n
 | 0,a,f,j,_=>by simp only[iu,uG];omega
 | m+1,a,f,j,p=>by
  simp only[iu];split
  ·rename_i ha;obtain⟨u,v,q⟩:=hT a ha (p ha);exact⟨(T.getD a (0,0)).2.toNat,rfl,rfl,by omega,A2 d e hT m _ (by omega) (by omega) (fun _=>q (by omega))⟩
  ·simp only[uG];omega
theorem Fx(d:Dt)(n:Nat)(c:Wy):uG 0 (fA d n c).1 n:=by
 have f:=yq d n c.1 c.2.1 n 0 (by omega) (by omega);unfold fA nP;by_cases j:c.2.2.1=1
 ·rw[if_pos j];by_cases e:n=0
  ·rw[if_pos e];exact e.symm
  ·rw[if_neg e];by_cases p:((dB d n c n).getD 0 (0,0)).2<0
   ·rw[if_pos p];exact f
   ·rw[if_neg p];exact A2 d c.2.1 (oX d n c) n 0 (by omega) (by omega) (fun _=>by omega)
 ·rw[if_neg j];exact f
def HK:Nat→QK→Nat
 | e,[]=>e
 | _,t::r=>HK t.toNat r
theorem xQ:∀(l:QK) (e:Nat) (t:Int),HK e (l++[t])=t.toNat
 | [],_,_=>rfl
 | _::r,_,t=>xQ r _ t
theorem xJ{cl:Qk}{o:QK}{M:Nat}(c:Wy):∀ {l:QK} {e:Nat},EF o M e l→uG e (gM cl o c e l).1 (HK e l)
 | [],e,_=>rfl
 | t::r,e,⟨f,j,p3,p4,p5⟩=>by
  have h:=(Fx (aQ cl o e) (t.toNat - e) c).Mz e;rw[show e+(t.toNat - e)=t.toNat by omega]at h;exact h.app (xJ c p5)
theorem K5{n:Int}{p:Qk×QK}(h:PM n p)(c:Wy):uG 0 (LF p.1 p.2 c).1 p.1.length:=by
 have hl:=h.JK.len;have e:EF p.2 p.1.length 0 (eC p.2 p.2.length):=by rw[oK];exact kX _ _ _ (by omega)
 have:=xJ (cl:=p.1) c e;unfold LF;rw[show HK 0 (eC p.2 p.2.length)=p.1.length by
  rw[hl];simp only[eC];rw[if_pos h.JK.last,xQ];simp]at this
 exact this
theorem uG.get:∀ {a b:Nat} {l:Qk},uG a l b→∀i,i<l.length→∃u v:Nat,(l.getD i c0).1=(u:Int)∧(l.getD i c0).2.1=(v:Int)∧u≤v∧(i=0→u=a)∧(∀j,i=j+1→(l.getD j c0).2.1=(u:Int))∧(i+1=l.length→v=b)
 | a,b,[],_,i,hi=>absurd hi (by simp)
 | a,b,x::r,⟨m,z,e,A,f⟩,0,hi=>by
  refine⟨a,m,z,e,A,fun _=>rfl,fun j B=>by omega,fun q=>?_⟩;have:r=[]:=List.eq_nil_of_length_eq_zero (by simp only[List.length_cons]at q;omega);subst this;exact f
 | a,b,x::r,⟨m,z,e,A,f⟩,i+1,hi=>by
  obtain⟨u,v,C,D,E,I,J,L⟩:=f.get i (by simpa using hi);refine⟨u,v,by simpa using C,by simpa using D,E,fun h=>by omega,fun j B=>?_,fun q=>L (by simpa using q)⟩;obtain rfl:i=j:=by omega
  cases i with
  | zero=>rw[I rfl];exact e
  | succ k=>have:=J k rfl;simpa using this
theorem uG.le:∀ {a b:Nat} {l:Qk},uG a l b→a≤b
 | _,_,[],h=>Nat.le_of_eq h
 | _,_,_::_,⟨_,_,_,e,f⟩=>Nat.le_trans e f.le
theorem oA.Ml:∀ {a n:Int} {s:Qk},oA a s n→a≤n∧∀i,i<s.length→a≤(s.getD i c0).1∧1≤(s.getD i c0).2.1∧(s.getD i c0).1+(s.getD i c0).2.1≤n
 | a,n,[],h=>⟨by simp only[oA]at h;omega,fun i hi=>absurd hi (by simp)⟩
 | a,n,x::r,⟨p,q,_,_,_,_,e⟩=>by
  obtain⟨u,f⟩:=e.Ml;refine⟨by omega,fun i hi=>?_⟩;cases i with
  | zero=>simp only[List.getD_cons_zero];omega
  | succ i =>
   have:=f i (by simpa using hi);simp only[List.getD_cons_succ];omega
section
variable{d:Dt}{n:Nat}(hi:∀k,0<k→k<n→n8 d k≠2)(hn:n8 d n=2)
include hi hn
end
end
end Go.Proofs.YtflahpmlcfhpcaaGreatDoor.T
