/- A law's arguments, as data. -/
import Derived.Test.YtmcemnfjddoejaaGreatDoorTvSm
import Derived.ProofKit
import Derived.OpenShut
import Derived.SizedLaws
import Derived.Carry
import Derived.Test.YtmcemnfjddoejaaGreatDoorTv23zbm
namespace Go.Tv
open Go Go.RowKit
open Go.IntKind (i64 u64)
def ud(P:Program):Nat→TypeId→Option Ty
 | 0,_=>none
 | n+1,t=>match P.underlying t with
  | some .bool=>some .bool
  | some (.int k)=>some (.int k)
  | some .string=>some .str
  | some (.float .f64)=>some .flt
  | some (.slice e)=>match ud P n e with
   | some A=>if P.cellsOf e=A.size∧0<A.size then some (.slice A)else none
   | none=>none
  | some (.struct c)=>match c.toList.mapM (fun f=>ud P n f.type)with
   | some Ts=>if iN P 0 c.toList Ts=true∧P.cellsOf t=(fF Ts).size∧Ts≠[]then some (fF Ts)else none
   | none=>none
  | _=>none
def Wf:(T:Ty)→T.den→Prop
 | .int k,n=>k.min≤(show Int from n)∧(show Int from n)≤k.max
 | .bool,_=>True
 | .str,s=>List.length (α:=UInt8) s≤maxLen
 | .flt,n=>∀m:Nat,(show Option Nat from n)=some m→m<18446744073709551616∧dw m=some m
 | .unit,_=>True
 | .prod a b,x=>Wf a x.1∧Wf b x.2
 | .slice A,c=>List.length (α:=A.den) c≤maxLen∧∀i (h:i<List.length (α:=A.den) c),Wf A c[i]
 | .ptr _,_=>True
 | .tree _ _,_=>True
 | .arr _ _,_=>True
 | .mapi _ _,_=>True
section
variable{H:Type}{enc':TypeId×Value→H}{P:Program}{w:World}{sp:Nat→Bool}{held:Bool}
theorem build{A:Ty}{p:Nat→A.den→Prop}:∀(n:Nat),(∀i,i<n→∃x,p i x)→∃xs:List A.den,xs.length=n∧∀i (h:i<xs.length),p i xs[i]
 | 0,_=>⟨[],rfl,fun i h=>absurd h (by simp)⟩
 | n+1,h=>by
  obtain⟨xs,j,k⟩:=build n fun i hi=>h i (by omega)
  obtain⟨x,m⟩:=h n (by omega);refine⟨xs++[x],by simp[j],fun i hi=> ?_⟩;simp only[List.length_append,List.length_cons,List.length_nil]at hi;rcases Nat.lt_or_ge i xs.length with c | c
  ·rw[List.getElem_append_left c];exact k i c
  ·obtain rfl:i=n:=by omega
   have e:(xs++[x])[i]'(by simp;omega)=x:=by rw[List.getElem_append_right (by omega)];simp[j]
   rw[e];exact m
def Reads(w:World)(T:Ty)(c:List Value)(x:T.den):Prop:=ai (fun a v=>w.cell? a=some v) T x (fun k v=>c[k]? = some v)∧Wf T x
theorem Fe{base:Nat}{a:Addr}{n:Nat}{c:List Value}(h:w.cells? base a n=some c):c.length=n∧∀k v,c[k]? = some v→w.cell? (a.add k)=some v:=by
 unfold World.cells? at h;split at h
 ·obtain⟨e,q⟩:=mC h;simp only[List.length_range]at e;refine⟨e,fun k v j=> ?_⟩;have f:k<n:=by rw[←e];exact(List.getElem?_eq_some_iff.1 j).1
  obtain⟨y,m,u⟩:=q k k (by simp[f]);rw[j]at m;cases m;exact u
 ·cases h
theorem Reads.cut{T:Ty}{f:List Value}{off n:Nat}{x:T.den}(h:Reads w T ((f.drop off).take n) x):ai (fun a v=>w.cell? a=some v) T x (fun k v=>f[off+k]? = some v)∧Wf T x :=
 ⟨ai.mono (fun _ _ h=>h) (fun k v e=>by
  rw[List.getElem?_take]at e;split at e
  ·simpa using e
  ·cases e) h.1,h.2⟩
theorem zk{m:List Value}:∀(j:List Field) (Ts:List Ty) (off:Nat),iN P off j Ts=true→j.length=Ts.length →
  (∀(i:Nat) f T,j[i]? = some f→Ts[i]? = some T→∃x:T.den,Reads w T ((m.drop f.offset).take (P.cellsOf f.type)) x) →
  ∀c,(∃x:c.den,ai (fun a v=>w.cell? a=some v) c x (fun k v=>m[off - c.size+k]? = some v)∧Wf c x)→c.size≤off →
  ∃x:(im c Ts).den,ai (fun a v=>w.cell? a=some v) (im c Ts) x (fun k v=>m[off - c.size+k]? = some v)∧Wf (im c Ts) x
 | [],[],off,_,_,_,c,p,_=>p
 | [],_::_,_,_,hl,_,_,_,_=>by simp at hl
 | _::_,[],_,_,hl,_,_,_,_=>by simp at hl
 | f::j,T::Ts,off,q,hl,u,c,⟨A,p,w0⟩,B=>by
  simp only[iN,Bool.and_eq_true,beq_iff_eq]at q;obtain⟨⟨C,M⟩,D⟩:=q;obtain⟨y,E⟩:=u 0 f T rfl rfl;have e:=E.cut;rw[C]at e;obtain⟨z,hz,I⟩:=zk j Ts (off+T.size) D (by simpa using hl) (fun i J T' a b=>u (i+1) J T' (by simpa using a) (by simpa using b)) T ⟨y,by
   rw[Nat.add_sub_cancel];exact e.1,e.2⟩ (Nat.le_add_left _ _)
  refine⟨(A,z),⟨p,?_⟩,w0,I⟩;refine ai.mono (fun _ _ h=>h) (fun k v L=> ?_) hz;rw[Nat.add_sub_cancel]at L;show m[off - c.size+(c.size+k)]? = some v;rwa [show off - c.size+(c.size+k)=off+k by omega]
theorem Bn{m:List Value}(e:List Field)(Ts:List Ty)(u:iN P 0 e Ts=true)(hl:e.length=Ts.length)(q:Ts≠[])
  (B:∀(i:Nat) f T,e[i]? = some f→Ts[i]? = some T→∃x:T.den,Reads w T ((m.drop f.offset).take (P.cellsOf f.type)) x):∃x:(fF Ts).den,Reads w (fF Ts) m x:=by
 match e,Ts with
 | [],[]=>exact absurd rfl q
 | [],_::_=>simp at hl
 | _::_,[]=>simp at hl
 | f::e,T::Ts =>
  simp only[iN,Bool.and_eq_true,beq_iff_eq]at u;obtain⟨⟨D,M⟩,E⟩:=u;obtain⟨y,I⟩:=B 0 f T rfl rfl;have c:=I.cut;rw[D]at c;obtain⟨z,hz,C⟩:=zk e Ts (0+T.size) E (by simpa using hl) (fun i J T' a b=>B (i+1) J T' (by simpa using a) (by simpa using b)) T ⟨y,by
   rw[Nat.add_sub_cancel];exact c.1,c.2⟩ (Nat.le_add_left _ _)
  have j:ai (fun a v=>w.cell? a=some v) (im T Ts) z (fun k v=>m[k]? = some v):=ai.mono (fun _ _ h=>h) (fun k v L=>by
   rwa [Nat.add_sub_cancel,Nat.zero_add]at L) hz
  cases Ts with
  | nil=>exact⟨(z,()),⟨j,trivial⟩,C,trivial⟩
  | cons b r=>exact⟨z,j,C⟩
theorem AZ:∀(n:Nat) (t:TypeId) (T:Ty),ud P n t=some T→∀(j:Nat) (u:List Value) (r:DataW H×List MemPlace),DataW.trod enc' P w 0 sp held j t u=some r→(∃x:T.den,Reads w T u x)∧u.length=T.size
 | 0,_,_,h,_,_,_,_=>by simp[ud]at h
 | n+1,t,T,h,0,u,r,c=>by simp[DataW.trod]at c
 | n+1,t,T,h,j+1,u,r,c=>by
  have ih:=AZ n;simp only[ud]at h;unfold DataW.trod at c;split at h
  ·rename_i hu;cases h;rw[hu]at c;split at c <;> first | (exfalso;simp_all;done) | skip
   rename_i b _;exact⟨⟨b,by simp[ai],trivial⟩,rfl⟩
  ·rename_i k hu;cases h;rw[hu]at c;split at c <;> first | (exfalso;simp_all;done) | skip
   rename_i J L i e;cases e;split at c
   ·rename_i z;obtain⟨rfl,E⟩:=z;refine⟨⟨i,by simp[ai],?_⟩,rfl⟩;simp only[Lit.wf,Bool.and_eq_true,decide_eq_true_eq]at E;exact E
   ·cases c
  ·rename_i hu;cases h;rw[hu]at c;split at c <;> first | (exfalso;simp_all;done) | skip
   rename_i s e;split at c
   ·rename_i hs;refine⟨⟨s.data.toList,by simp[ai],?_⟩,rfl⟩;show s.data.toList.length≤maxLen;have e:s.data.toList.length=s.size:=Array.length_toList;rw[e];exact hs
   ·cases c
  ·rename_i hu;cases h;rw[hu]at c;split at c <;> first | (exfalso;simp_all;done) | skip
   rename_i J L i e;cases e;split at c
   ·rename_i z;obtain⟨rfl,E⟩:=z;refine⟨⟨dw i,by simp[ai],fun m hm=> ?_⟩,rfl⟩;have M:i<18446744073709551616:=by simpa [Lit.wf]using E
    have e:=jN hm;subst e;exact⟨M,hm⟩
   ·cases c
  ·rename_i e hu;split at h
   ·rename_i A hA;split at h
    ·rename_i N;cases h;rw[hu]at c;split at c <;> first | (exfalso;simp_all;done) | skip
     ·exact⟨⟨[],⟨none,0,0,rfl,⟨rfl,Nat.le_refl _⟩,fun i hi=>absurd hi (by simp)⟩,Nat.zero_le _,fun i hi=>absurd hi (by simp)⟩,rfl⟩
     ·rename_i e' a len cap q;cases q;simp only at c;split at c
      ·rename_i hb;simp only[Option.bind_eq_some_iff]at c;obtain⟨O,he,_⟩:=c;obtain⟨g1,g2⟩:=mC he;simp only[List.length_range]at g1;obtain⟨R,B,C⟩:=build (A:=A) (p:=fun i x=>ai (fun a v=>w.cell? a=some v) A x (fun k v=>w.cell? (a.add (i*A.size+k))=some v)∧Wf A x) len fun i hi=>by obtain⟨y,_,I⟩:=g2 i i (by simp[hi]);simp only[Option.bind_eq_some_iff]at I;obtain⟨u,V,q4⟩:=I;obtain⟨s1,s2⟩:=Fe V;obtain⟨⟨x,t1,t2⟩,_⟩:=ih e A hA j u y q4;refine⟨x,ai.mono (fun _ _ h=>h) (fun k v z=> ?_) t1,t2⟩;have:=s2 k v z;rw[add_add]at this;rw[N.1]at this;exact this
       refine⟨⟨R,⟨some a,len,cap,rfl,⟨B.symm,hb.2.1⟩,fun i hi=>⟨a,rfl,(C i hi).1⟩⟩,?_,fun i hi=>(C i hi).2⟩,rfl⟩;show R.length≤maxLen;rw[B];exact Nat.le_trans hb.2.1 hb.2.2
      ·cases c
    ·cases h
   ·cases h
  ·rename_i fs hu;split at h
   ·rename_i Ts X;split at h
    ·rename_i hc;obtain⟨Y,Z,a1⟩:=hc;cases h;rw[hu]at c;split at c <;> first | (exfalso;simp_all;done) | skip
     rename_i a3 _ _ q;cases q;split at c
     ·rename_i D;simp only[Option.map_eq_some_iff]at c;obtain⟨R,a2,_⟩:=c;obtain⟨g1,g2⟩:=mC a2;obtain⟨J,L⟩:=mC X;refine⟨Bn fs.toList Ts Y J.symm a1 fun i f T hf hT=> ?_,by rw[D,Z]⟩;obtain⟨T',q1,I⟩:=L i f hf;rw[hT]at q1;cases q1;obtain⟨y,_,V⟩:=g2 i f hf;exact(ih f.type T I j _ y V).1
     ·cases c
    ·cases h
   ·cases h
  ·cases h
end
end Go.Tv
namespace Go.Tv
open Go Go.RowKit
open Go.IntKind (i64 u64)
def Kk:List Ty→Type
 | []=>Unit
 | T::Ts=>T.den×Kk Ts
def Is(T:Ty)(x:T.den):ag:=if T.scalar then .p false T x else .agg (flat false T x)
def Jq:(Ts:List Ty)→Kk Ts→List ag
 | [],_=>[]
 | T::Ts,x=>Is T x.1::Jq Ts x.2
def Lr:(Ts:List Ty)→Kk Ts→Prop
 | [],_=>True
 | T::Ts,x=>Wf T x.1∧Lr Ts x.2
section
variable{H:Type}{en:TypeId×Value→H}{P:Program}{w:World}{sp:Nat→Bool}{held:Bool}
theorem zN{t:TypeId}{n:Nat}{T:Ty}(c:ud P n t=some T){r:Reach}{base:Nat}{v:Value}(h:Value.okWide P w r base t v):(∃f,v = .agg f)∨T.scalar=true∧v.cells = #[v]:=by
 cases n with
 | zero=>simp[ud]at c
 | succ n =>
  simp only[ud]at c;unfold Value.okWide at h;split at c
  ·rename_i hu;cases c;rw[hu]at h;right
   simp only[Cell.okWide,hu]at h;refine⟨rfl,?_⟩;cases v <;> simp_all [Cell.ok,Value.cells]
  ·rename_i k hu;cases c;rw[hu]at h;right
   simp only[Cell.okWide,hu]at h;refine⟨rfl,?_⟩;cases v <;> simp_all [Cell.ok,Value.cells]
  ·rename_i hu;cases c;rw[hu]at h;right
   simp only[Cell.okWide,hu]at h;refine⟨rfl,?_⟩;cases v <;> simp_all [Cell.ok,Value.cells]
  ·rename_i hu;cases c;rw[hu]at h;right
   simp only[Cell.okWide,hu]at h;refine⟨rfl,?_⟩;cases v <;> simp_all [Cell.ok,Value.cells]
  ·rename_i e hu;split at c
   ·split at c
    ·cases c;rw[hu]at h;right
     simp only[Cell.okWide,hu]at h;refine⟨rfl,?_⟩;cases v <;> simp_all [Cell.ok,Value.cells]
    ·cases c
   ·cases c
  ·rename_i j hu;rw[hu]at h;obtain⟨f,e,_⟩:=h;exact .inl ⟨f,e⟩
  ·cases c
theorem Hw{t:TypeId}{n:Nat}{T:Ty}(c:ud P n t=some T){r:Reach}{base:Nat}{f:Array Value}(h:Value.okWide P w r base t (.agg f)):T.scalar=false:=by
 cases n with
 | zero=>simp[ud]at c
 | succ n =>
  simp only[ud]at c;unfold Value.okWide at h;split at c
  ·rename_i hu;rw[hu]at h;simp[Cell.okWide,hu,Cell.ok]at h
  ·rename_i k hu;rw[hu]at h;simp[Cell.okWide,hu,Cell.ok]at h
  ·rename_i hu;rw[hu]at h;simp[Cell.okWide,hu,Cell.ok]at h
  ·rename_i hu;rw[hu]at h;simp[Cell.okWide,hu,Cell.ok]at h
  ·rename_i e hu;rw[hu]at h;simp[Cell.okWide,hu,Cell.ok]at h
  ·split at c
   ·rename_i Ts _;split at c
    ·rename_i j;cases c;match Ts,j.2.2 with
     | [a],_=>rfl
     | a::b::r,_=>rfl
    ·cases c
   ·cases c
  ·cases c
theorem HL{t:TypeId}{n:Nat}{T:Ty}(m:ud P n t=some T){v:Value}{d:DataW H}{p:List MemPlace}(h:DataW.Trod en P w 0 sp held t v d p){r:Reach}{base:Nat}(A:Value.okWide P w r base t v):
  ∃x:T.den,V (Fr fN (fun _=>False) w) jK (Is T x) v∧Wf T x:=by
 obtain⟨f,B⟩:=h;obtain⟨⟨x,C,D⟩,E⟩:=AZ n t T m f _ _ B;refine⟨x,?_,D⟩;have c:ai (Fr fN (fun _=>False) w false) T x (fun k u=>v.cells.toList[k]? = some u):=ai.mono (fun a u hu=>⟨fun e=>e,fun _ e=>e,World.gH hu⟩) (fun _ _ h=>h) C;rcases zN m A with⟨I,rfl⟩ | ⟨j,J⟩
 ·have j:=Hw m A;unfold Is;rw[j];simp only[Bool.false_eq_true,if_false,V];refine⟨I,rfl,by rw[dR,←E];simp[Value.cells],jE false T x _ (ai.mono (fun _ _ h=>h) (fun k u q=>by simpa [Value.cells]using q) c)⟩
 ·unfold Is;rw[if_pos j];simp only[V];refine⟨j,?_⟩;rw[J]at c;have z:ai (Fr fN (fun _=>False) w false) T x (fun k u=>(#[v]:Array Value).toList[k]? = some u):=c;refine ai.fR (fun k u q hu=> ?_) z;rw[Ty.eS j]at q;obtain rfl:k=0:=by omega
  simp at hu;exact hu.symm
theorem zw{n:Nat}:∀ {ts:List TypeId} {Ts:List Ty} {c:List Value} {e:List (DataW H)} {p:List MemPlace},ts.map (ud P n)=Ts.map some→DataW.TrodAll en P w 0 sp held ts c e p→∀ {r:Reach} {base:Nat},
  (∀(j:Nat) t v,ts[j]? = some t→c[j]? = some v→Value.okWide P w r base t v)→∃x:Kk Ts,iA (Fr fN (fun _=>False) w) jK (Jq Ts x) c∧Lr Ts x∧e.length=ts.length
 | [],[],[],[],_,_,_,_,_,_=>⟨(),trivial,trivial,rfl⟩
 | t::ts,T::Ts,v::c,d::e,p,hT,⟨q,E,k,m,_⟩,r,base,f=>by
  simp only[List.map_cons,List.cons.injEq]at hT;obtain⟨x,u,z⟩:=HL hT.1 k (f 0 t v rfl rfl);obtain⟨y,A,wy,hl⟩:=zw hT.2 m (fun j B D a b=>f (j+1) B D (by simpa using a) (by simpa using b));exact⟨(x,y),⟨u,A⟩,⟨z,wy⟩,by simp[hl]⟩
 | [],_::_,_,_,_,hT,_,_,_,_=>by simp at hT
 | _::_,[],_,_,_,hT,_,_,_,_=>by simp at hT
 | [],[],_::_,_,_,_,h,_,_,_=>h.elim
 | [],[],[],_::_,_,_,h,_,_,_=>h.elim
 | _::_,_::_,[],_,_,_,h,_,_,_=>h.elim
 | _::_,_::_,_::_,[],_,_,h,_,_,_=>h.elim
theorem yY(hl:laidOutB P=true){k:World}(hb:Below w.heap.size w k):∀ {ts:List TypeId} {f:List Value} {j:List (DataW H)} {p:List MemPlace},ts.all (fun t=>P.readableRec t && decide (t<P.types.size))=true →
  DataW.TrodAll en P w 0 (fun _=>true) true ts f j p→DataW.TrodAll en P k 0 (fun b=>decide (b<w.heap.size)) true ts f j p
 | [],[],[],_,_,h=>h
 | t::ts,v::f,d::j,p,c,⟨q,x,u,z,e⟩ =>
  by
   simp only[List.all_cons,Bool.and_eq_true,decide_eq_true_eq]at c;exact⟨q,x,Below.trod hl c.1.1 c.1.2 u hb (by obtain⟨m,A⟩:=u;exact DataW.trod_lt m _ _ _ A),yY hl hb c.2 z,e⟩
 | [],_::_,_,_,_,h=>h.elim
 | [],[],_::_,_,_,h=>h.elim
 | _::_,[],_,_,_,h=>h.elim
 | _::_,_::_,[],_,_,h=>h.elim
end
end Go.Tv
namespace Go.Proofs.YtmcemnfjddoejaaGreatDoor.T
open Go Go.Tv Go.Proofs
open Go.IntKind (i64 u64)
noncomputable section
def yC(c e f j k:Int)(p:Option Nat):Wy:=(1+c,1+e % 64,f % 2,j,k,p)
theorem Fi{e c f j k:Int}(p:Option Nat)(I:0≤e∧e≤255)(q:0≤c∧c≤255)(u:0≤f∧f≤255)(J:0≤j∧j≤65535)(L:0≤k∧k≤65535):
  dx e c f j k p=some (yC e c f j k p)∧cU (yC e c f j k p).1 (yC e c f j k p).2.1 (yC e c f j k p).2.2.1 (yC e c f j k p).2.2.2.1 (yC e c f j k p).2.2.2.2.1 (yC e c f j k p).2.2.2.2.2=some true:=by
 constructor
 ·have v:i64.wrap e=e:=wrap_i64 (by omega) (by omega);have x:i64.wrap (1+e)=1+e:=wrap_i64 (by omega) (by omega);have z:Int.tmod c 64=c % 64:=Int.tmod_eq_emod_of_nonneg q.1;have A:i64.wrap (c % 64)=c % 64:=wrap_i64 (by omega) (by omega);have B:i64.wrap (1+c % 64)=1+c % 64:=wrap_i64 (by omega) (by omega);have C:Int.tmod f 2=f % 2:=Int.tmod_eq_emod_of_nonneg u.1;have D:i64.wrap j=j:=wrap_i64 (by omega) (by omega);have E:i64.wrap k=k:=wrap_i64 (by omega) (by omega);unfold dx yC;rw[if_pos (by decide),if_pos (by decide),v,x,z,A,B,C,D,E]
 ·unfold cU yC;simp only;rw[if_pos (by rw[decide_eq_true_eq];omega),if_pos (by rw[decide_eq_true_eq];omega),if_pos (by rw[decide_eq_true_eq];omega),if_pos (by rw[decide_eq_true_eq];omega),if_pos (by rw[decide_eq_true_eq];omega),if_pos (by rw[decide_eq_true_eq];omega),if_pos (by rw[decide_eq_true_eq];omega),if_pos (by rw[decide_eq_true_eq];omega)];rw[Option.bind_some,decide_eq_true (by omega)]
theorem Fh{l:List bB}(h:l.length≤100000)(b:Bool):cf l b l b=some true:=by
 have f:iter (bD l l) ((0:Nat):Int)=some (.inl ()):=by
  refine eg (fun k=>((k:Nat):Int)) l.length (fun k p=> ?_) ?_
  ·have c:(k:Int)<(l.length:Int):=by omega
   have j:0≤(k:Int):=by omega
   simp only[bD,c,j,and_self,decide_true,if_true,BEq.rfl,Bool.and_self,Bool.not_true,Bool.false_eq_true,if_false,bj (show k≤9000000000000000000 by omega)]
  ·have c:¬((l.length:Int)<(l.length:Int)):=Int.lt_irrefl _;simp only[bD,c,decide_false,Bool.false_eq_true,if_false]
 have e:iter (bD l l) (0:Int)=some (.inl ()):=f;unfold cf;rw[e];simp
theorem GK{l:List Int}(h:Wf (.slice (.int .u8)) l):∀i,0≤l.getD i 0∧l.getD i 0≤255:=fun i=>by
 by_cases hi:i<l.length
 ·have:=h.2 i hi;rw[iL hi];exact this
 ·rw[List.getD_eq_getElem?_getD,List.getElem?_eq_none (by omega)];simp
theorem Gg{l:List Int}(h:Wf (.slice (.int .u8)) l):Bytes l:=fun x c=>by
 obtain⟨i,hi,rfl⟩:=List.mem_iff_getElem.1 c;exact h.2 i hi
theorem GU{l:List xS}(hl:l.length≤20)(hb:∀i,i<l.length→Bytes (l.getD i F6).2.1.2.2){m:Nat}(N:m≤1000):∃L,dT l false (m:Int)=some L∧L.length=l.length∧∀s∈L,HZ s:=by
 obtain⟨L,e,c,f⟩:=cF (body:=dp l false (m:Int)) (fun z:List xS×Int=>∃k:Nat,z.2=(k:Int)∧k≤l.length∧z.1.length=k∧∀s∈z.1,HZ s) (fun z=>l.length - z.2.toNat) (fun L=>L.length=l.length∧∀s∈L,HZ s) (by
  rintro⟨out,v⟩ ⟨k,rfl,O,c,f⟩;simp only at c f;by_cases q:k<l.length
  ·left
   have j:=hb k q;have A:(k:Int)<(l.length:Int):=by omega
   have g2:0≤(k:Int):=by omega
   have g3:¬((k:Int)≥80):=by omega
   have w:=bj (i:=k) (by omega);generalize u:l.getD k F6=s at j;have g4:0≤(0:Int)∧0≤min (s.2.1.2.2.length:Int) (20:Int)∧min (s.2.1.2.2.length:Int) (20:Int)≤(s.2.1.2.2.length:Int):=by omega
   have B:(([]:List Int).length+((s.2.1.2.2.take (min (s.2.1.2.2.length:Int) (20:Int)).toNat).drop (0:Int).toNat).length)*1≤140737488355328∧([]:List Int).length+((s.2.1.2.2.take (min (s.2.1.2.2.length:Int) (20:Int)).toNat).drop (0:Int).toNat).length≤9223372036854775807:=by simp only[List.length_nil,List.length_drop,List.length_take];omega
   have C:¬(4:Int)=0:=by decide
   have D:¬(5:Int)=0:=by decide
   have E:¬u64.wrap (i64.wrap ((m:Int)+1))=0:=by rw[bj (i:=m) (by omega),mW];omega
   have I:∀a:xS,(out.length+([a]:List xS).length)*128≤140737488355328∧out.length+([a]:List xS).length≤9223372036854775807:=fun a=>by simp only[List.length_singleton];omega
   have x:0≤i64.wrap (Int.tmod (u64.wrap s.1) 4)∧i64.wrap (Int.tmod (u64.wrap s.1) 4)≤3:=by
    have:0≤u64.wrap s.1:=by rw[mW];omega
    rw[Int.tmod_eq_emod_of_nonneg this,wrap_i64 (by omega) (by omega)];omega
   refine⟨_,by
    simp only[dp,A,g2,g3,and_self,decide_true,decide_false,Bool.false_eq_true,Bool.not_false,if_true,if_false,Int.toNat_natCast,u,g4,B,C,D,E,not_false_eq_true,Option.bind_some,I,w];rfl,⟨k+1,rfl,by omega,by simp[c],fun y p=> ?_⟩,by simp only[Int.toNat_natCast];omega⟩
   rcases List.mem_append.1 p with p | p
   ·exact f y p
   ·rw[List.mem_singleton.1 p];exact⟨x.1,x.2,fun z hz=>j z (List.mem_of_mem_take (List.mem_of_mem_drop hz))⟩
  ·right
   obtain rfl:k=l.length:=by omega
   refine⟨out,?_,c,f⟩;have J:¬((l.length:Int)<(l.length:Int)):=Int.lt_irrefl _;simp only[dp,J,decide_false,Bool.false_eq_true,if_false]) (s:=(([]:List xS),(0:Int))) ⟨0,rfl,by omega,rfl,fun s M=>by cases M⟩
 refine⟨L,?_,c,f⟩;unfold dT;rw[e];rfl
theorem Ie{L:List xS}(h:∀s∈L,HZ s):∀i,i<L.length→HZ (L.getD i F6):=fun _ hi=>h _ (kK hi)
end
end Go.Proofs.YtmcemnfjddoejaaGreatDoor.T
