/- A law's arguments, as data. -/
import Derived.Test.YtbedjpdfkmfplaaGreatDoorTvSm
import Derived.ProofKit
import Derived.OpenShut
import Derived.SizedLaws
import Derived.Carry
import Derived.Test.YtbedjpdfkmfplaaGreatDoorTv21tm
import Derived.Test.YtbedjpdfkmfplaaGreatDoorTvT21bFlowNew
namespace Go.Tv
open Go Go.RowKit
def F0(P:Program):Nat→TypeId→Option Ty
 | 0,_=>none
 | n+1,t=>match P.underlying t with
  | some .bool=>some .bool
  | some (.int k)=>some (.int k)
  | some .string=>some .str
  | some (.float .f64)=>some .flt
  | some (.slice e)=>match F0 P n e with
   | some A=>if P.cellsOf e=A.size∧0<A.size then some (.slice A)else none
   | none=>none
  | some (.struct fs)=>match fs.toList.mapM (fun f=>F0 P n f.type)with
   | some Ts=>if j5 P 0 fs.toList Ts=true∧P.cellsOf t=(gQ Ts).size∧Ts≠[]then some (gQ Ts)else none
   | none=>none
  | _=>none
def Wf:(T:Ty)→T.den→Prop
 | .int k,n=>k.min≤(show Int from n)∧(show Int from n)≤k.max
 | .bool,_=>True
 | .str,s=>List.length (α:=UInt8) s≤maxLen
 | .flt,n=>∀m:Nat,(show Option Nat from n)=some m→m<18446744073709551616∧dO m=some m
 | .unit,_=>True
 | .prod a b,x=>Wf a x.1∧Wf b x.2
 | .slice A,xs=>List.length (α:=A.den) xs≤maxLen∧∀i (h:i<List.length (α:=A.den) xs),Wf A xs[i]
 | .ptr _,_=>True
 | .tree _ _,_=>True
 | .arr _ _,_=>True
 | .mapi _ _,_=>True
section
variable{H:Type}{enc':TypeId×Value→H}{P:Program}{w:World}{sp:Nat→Bool}{held:Bool}
theorem build{A:Ty}{p:Nat→A.den→Prop}:∀(n:Nat),(∀i,i<n→∃x,p i x)→∃xs:List A.den,xs.length=n∧∀i (h:i<xs.length),p i xs[i]
 | 0,_=>⟨[],rfl,fun i h=>absurd h (by simp)⟩
 | n+1,h=>by
  obtain⟨xs,h1,h2⟩:=build n fun i hi=>h i (by omega)
  obtain⟨x,hx⟩:=h n (by omega)
  refine⟨xs++[x],by simp[h1],fun i hi=> ?_⟩
  simp only[List.length_append,List.length_cons,List.length_nil]at hi
  rcases Nat.lt_or_ge i xs.length with h3 | h3
  ·rw[List.getElem_append_left h3];exact h2 i h3
  ·obtain rfl:i=n:=by omega
   have e:(xs++[x])[i]'(by simp;omega)=x:=by
    rw[List.getElem_append_right (by omega)]
    simp[h1]
   rw[e];exact hx
def Reads(w:World)(T:Ty)(cs:List Value)(x:T.den):Prop:=Vcells (fun a v=>w.cell? a=some v) T x (fun k v=>cs[k]? = some v)∧Wf T x
theorem aFY{base:Nat}{a:Addr}{n:Nat}{cs:List Value}(h:w.cells? base a n=some cs):cs.length=n∧∀k v,cs[k]? = some v→w.cell? (a.add k)=some v:=by
 unfold World.cells? at h
 split at h
 ·obtain⟨h1,h2⟩:=pN h
  simp only[List.length_range]at h1
  refine⟨h1,fun k v hk=> ?_⟩
  have hlt:k<n:=by rw[←h1];exact(List.getElem?_eq_some_iff.1 hk).1
  obtain⟨y,q1,q2⟩:=h2 k k (by simp[hlt])
  rw[hk]at q1
  cases q1
  exact q2
 ·cases h
theorem Reads.cut{T:Ty}{cs:List Value}{off n:Nat}{x:T.den}(h:Reads w T ((cs.drop off).take n) x):Vcells (fun a v=>w.cell? a=some v) T x (fun k v=>cs[off+k]? = some v)∧Wf T x :=
 ⟨Vcells.mono (fun _ _ h=>h) (fun k v hk=>by
  rw[List.getElem?_take]at hk
  split at hk
  ·simpa using hk
  ·cases hk) h.1,h.2⟩
theorem aAZ{cs:List Value}:∀(fs:List Field) (Ts:List Ty) (off:Nat),j5 P off fs Ts=true→fs.length=Ts.length →
  (∀(i:Nat) f T,fs[i]? = some f→Ts[i]? = some T→∃x:T.den,Reads w T ((cs.drop f.offset).take (P.cellsOf f.type)) x) →
  ∀T0,(∃x:T0.den,Vcells (fun a v=>w.cell? a=some v) T0 x (fun k v=>cs[off - T0.size+k]? = some v)∧Wf T0 x)→T0.size≤off →
  ∃x:(jD T0 Ts).den,Vcells (fun a v=>w.cell? a=some v) (jD T0 Ts) x (fun k v=>cs[off - T0.size+k]? = some v)∧Wf (jD T0 Ts) x
 | [],[],off,_,_,_,T0,h0,_=>h0
 | [],_::_,_,_,hl,_,_,_,_=>by simp at hl
 | _::_,[],_,_,hl,_,_,_,_=>by simp at hl
 | f::fs,T::Ts,off,ho,hl,hf,T0,⟨x0,h0,w0⟩,hle=>by
  simp only[j5,Bool.and_eq_true,beq_iff_eq]at ho
  obtain⟨⟨h1,h2⟩,h3⟩:=ho
  obtain⟨y,hy⟩:=hf 0 f T rfl rfl
  have hy':=hy.cut
  rw[h1]at hy'
  obtain⟨z,hz,wz⟩:=aAZ fs Ts (off+T.size) h3 (by simpa using hl) (fun i f' T' a b=>hf (i+1) f' T' (by simpa using a) (by simpa using b)) T ⟨y,by
   rw[Nat.add_sub_cancel];exact hy'.1,hy'.2⟩ (Nat.le_add_left _ _)
  refine⟨(x0,z),⟨h0,?_⟩,w0,wz⟩
  refine Vcells.mono (fun _ _ h=>h) (fun k v hk=> ?_) hz
  rw[Nat.add_sub_cancel]at hk
  show cs[off - T0.size+(T0.size+k)]? = some v
  rwa [show off - T0.size+(T0.size+k)=off+k by omega]
theorem aDM{cs:List Value}(fs:List Field)(Ts:List Ty)(ho:j5 P 0 fs Ts=true)(hl:fs.length=Ts.length)(hne:Ts≠[])
  (hf:∀(i:Nat) f T,fs[i]? = some f→Ts[i]? = some T→∃x:T.den,Reads w T ((cs.drop f.offset).take (P.cellsOf f.type)) x):∃x:(gQ Ts).den,Reads w (gQ Ts) cs x:=by
 match fs,Ts with
 | [],[]=>exact absurd rfl hne
 | [],_::_=>simp at hl
 | _::_,[]=>simp at hl
 | f::fs,T::Ts =>
  simp only[j5,Bool.and_eq_true,beq_iff_eq]at ho
  obtain⟨⟨h1,h2⟩,h3⟩:=ho
  obtain⟨y,hy⟩:=hf 0 f T rfl rfl
  have hy':=hy.cut
  rw[h1]at hy'
  obtain⟨z,hz,wz⟩:=aAZ fs Ts (0+T.size) h3 (by simpa using hl) (fun i f' T' a b=>hf (i+1) f' T' (by simpa using a) (by simpa using b)) T ⟨y,by
   rw[Nat.add_sub_cancel];exact hy'.1,hy'.2⟩ (Nat.le_add_left _ _)
  have hz':Vcells (fun a v=>w.cell? a=some v) (jD T Ts) z (fun k v=>cs[k]? = some v):=Vcells.mono (fun _ _ h=>h) (fun k v hk=>by
   rwa [Nat.add_sub_cancel,Nat.zero_add]at hk) hz
  cases Ts with
  | nil=>exact⟨(z,()),⟨hz',trivial⟩,wz,trivial⟩
  | cons b r=>exact⟨z,hz',wz⟩
theorem aCN:∀(n:Nat) (t:TypeId) (T:Ty),F0 P n t=some T→∀(fuel:Nat) (cs:List Value) (r:DataW H×List MemPlace),DataW.trod enc' P w 0 sp held fuel t cs=some r→(∃x:T.den,Reads w T cs x)∧cs.length=T.size
 | 0,_,_,h,_,_,_,_=>by simp[F0]at h
 | n+1,t,T,h,0,cs,r,hr=>by simp[DataW.trod]at hr
 | n+1,t,T,h,fuel+1,cs,r,hr=>by
  have ih:=aCN n
  simp only[F0]at h
  unfold DataW.trod at hr
  split at h
  ·rename_i hu
   cases h
   rw[hu]at hr
   split at hr <;> first | (exfalso;simp_all;done) | skip
   rename_i b _
   exact⟨⟨b,by simp[Vcells],trivial⟩,rfl⟩
  ·rename_i k hu
   cases h
   rw[hu]at hr
   split at hr <;> first | (exfalso;simp_all;done) | skip
   rename_i k1 k2 i e
   cases e
   split at hr
   ·rename_i hk
    obtain⟨rfl,hw⟩:=hk
    refine⟨⟨i,by simp[Vcells],?_⟩,rfl⟩
    simp only[Lit.wf,Bool.and_eq_true,decide_eq_true_eq]at hw
    exact hw
   ·cases hr
  ·rename_i hu
   cases h
   rw[hu]at hr
   split at hr <;> first | (exfalso;simp_all;done) | skip
   rename_i s e
   split at hr
   ·rename_i hs
    refine⟨⟨s.data.toList,by simp[Vcells],?_⟩,rfl⟩
    show s.data.toList.length≤maxLen
    have e:s.data.toList.length=s.size:=Array.length_toList
    rw[e]
    exact hs
   ·cases hr
  ·rename_i hu
   cases h
   rw[hu]at hr
   split at hr <;> first | (exfalso;simp_all;done) | skip
   rename_i k1 k2 i e
   cases e
   split at hr
   ·rename_i hk
    obtain⟨rfl,hw⟩:=hk
    refine⟨⟨dO i,by simp[Vcells],fun m hm=> ?_⟩,rfl⟩
    have hw2:i<18446744073709551616:=by simpa [Lit.wf]using hw
    have e:=lD hm
    subst e
    exact⟨hw2,hm⟩
   ·cases hr
  ·rename_i e hu
   split at h
   ·rename_i A hA
    split at h
    ·rename_i hsz
     cases h
     rw[hu]at hr
     split at hr <;> first | (exfalso;simp_all;done) | skip
     ·exact⟨⟨[],⟨none,0,0,rfl,⟨rfl,Nat.le_refl _⟩,fun i hi=>absurd hi (by simp)⟩,Nat.zero_le _,fun i hi=>absurd hi (by simp)⟩,rfl⟩
     ·rename_i e' a len cap q
      cases q
      simp only at hr
      split at hr
      ·rename_i hb
       simp only[Option.bind_eq_some_iff]at hr
       obtain⟨elems,he,_⟩:=hr
       obtain⟨g1,g2⟩:=pN he
       simp only[List.length_range]at g1
       obtain⟨xs,hx1,hx2⟩:=build (A:=A) (p:=fun i x=>Vcells (fun a v=>w.cell? a=some v) A x (fun k v=>w.cell? (a.add (i*A.size+k))=some v)∧Wf A x) len fun i hi=>by
        obtain⟨y,_,q2⟩:=g2 i i (by simp[hi])
        simp only[Option.bind_eq_some_iff]at q2
        obtain⟨cs,q3,q4⟩:=q2
        obtain⟨s1,s2⟩:=aFY q3
        obtain⟨⟨x,t1,t2⟩,_⟩:=ih e A hA fuel cs y q4
        refine⟨x,Vcells.mono (fun _ _ h=>h) (fun k v hk=> ?_) t1,t2⟩
        have:=s2 k v hk
        rw[l9]at this
        rw[hsz.1]at this
        exact this
       refine⟨⟨xs,⟨some a,len,cap,rfl,⟨hx1.symm,hb.2.1⟩,fun i hi=>⟨a,rfl,(hx2 i hi).1⟩⟩,?_,fun i hi=>(hx2 i hi).2⟩,rfl⟩
       show xs.length≤maxLen
       rw[hx1]
       exact Nat.le_trans hb.2.1 hb.2.2
      ·cases hr
    ·cases h
   ·cases h
  ·rename_i fs hu
   split at h
   ·rename_i Ts hTs
    split at h
    ·rename_i hc
     obtain⟨hc1,hc2,hc3⟩:=hc
     cases h
     rw[hu]at hr
     split at hr <;> first | (exfalso;simp_all;done) | skip
     rename_i fs' _ _ q
     cases q
     split at hr
     ·rename_i hlen
      simp only[Option.map_eq_some_iff]at hr
      obtain⟨xs,hxs,_⟩:=hr
      obtain⟨g1,g2⟩:=pN hxs
      obtain⟨k1,k2⟩:=pN hTs
      refine⟨aDM fs.toList Ts hc1 k1.symm hc3 fun i f T hf hT=> ?_,by rw[hlen,hc2]⟩
      obtain⟨T',q1,q2⟩:=k2 i f hf
      rw[hT]at q1
      cases q1
      obtain⟨y,_,q3⟩:=g2 i f hf
      exact(ih f.type T q2 fuel _ y q3).1
     ·cases hr
    ·cases h
   ·cases h
  ·cases h
end
end Go.Tv
namespace Go.Tv
open Go Go.RowKit
def Tup:List Ty→Type
 | []=>Unit
 | T::Ts=>T.den×Tup Ts
def aIm(T:Ty)(x:T.den):AVal:=if T.scalar then .p false T x else .agg (gS false T x)
def aJD:(Ts:List Ty)→Tup Ts→List AVal
 | [],_=>[]
 | T::Ts,x=>aIm T x.1::aJD Ts x.2
def WfT:(Ts:List Ty)→Tup Ts→Prop
 | [],_=>True
 | T::Ts,x=>Wf T x.1∧WfT Ts x.2
section
variable{H:Type}{en:TypeId×Value→H}{P:Program}{w:World}{sp:Nat→Bool}{held:Bool}
theorem aBD{t:TypeId}{n:Nat}{T:Ty}(ht:F0 P n t=some T){r:Reach}{base:Nat}{v:Value}(h:Value.okWide P w r base t v):(∃cs,v = .agg cs)∨T.scalar=true∧v.cells = #[v]:=by
 cases n with
 | zero=>simp[F0]at ht
 | succ n =>
  simp only[F0]at ht
  unfold Value.okWide at h
  split at ht
  ·rename_i hu
   cases ht
   rw[hu]at h
   right
   simp only[Cell.okWide,hu]at h
   refine⟨rfl,?_⟩
   cases v <;> simp_all [Cell.ok,Value.cells]
  ·rename_i k hu
   cases ht
   rw[hu]at h
   right
   simp only[Cell.okWide,hu]at h
   refine⟨rfl,?_⟩
   cases v <;> simp_all [Cell.ok,Value.cells]
  ·rename_i hu
   cases ht
   rw[hu]at h
   right
   simp only[Cell.okWide,hu]at h
   refine⟨rfl,?_⟩
   cases v <;> simp_all [Cell.ok,Value.cells]
  ·rename_i hu
   cases ht
   rw[hu]at h
   right
   simp only[Cell.okWide,hu]at h
   refine⟨rfl,?_⟩
   cases v <;> simp_all [Cell.ok,Value.cells]
  ·rename_i e hu
   split at ht
   ·split at ht
    ·cases ht
     rw[hu]at h
     right
     simp only[Cell.okWide,hu]at h
     refine⟨rfl,?_⟩
     cases v <;> simp_all [Cell.ok,Value.cells]
    ·cases ht
   ·cases ht
  ·rename_i fs hu
   rw[hu]at h
   obtain⟨cs,e,_⟩:=h
   exact .inl ⟨cs,e⟩
  ·cases ht
theorem aHr{t:TypeId}{n:Nat}{T:Ty}(ht:F0 P n t=some T){r:Reach}{base:Nat}{cs:Array Value}(h:Value.okWide P w r base t (.agg cs)):T.scalar=false:=by
 cases n with
 | zero=>simp[F0]at ht
 | succ n =>
  simp only[F0]at ht
  unfold Value.okWide at h
  split at ht
  ·rename_i hu
   rw[hu]at h
   simp[Cell.okWide,hu,Cell.ok]at h
  ·rename_i k hu
   rw[hu]at h
   simp[Cell.okWide,hu,Cell.ok]at h
  ·rename_i hu
   rw[hu]at h
   simp[Cell.okWide,hu,Cell.ok]at h
  ·rename_i hu
   rw[hu]at h
   simp[Cell.okWide,hu,Cell.ok]at h
  ·rename_i e hu
   rw[hu]at h
   simp[Cell.okWide,hu,Cell.ok]at h
  ·split at ht
   ·rename_i Ts _
    split at ht
    ·rename_i hc
     cases ht
     match Ts,hc.2.2 with
     | [a],_=>rfl
     | a::b::r,_=>rfl
    ·cases ht
   ·cases ht
  ·cases ht
theorem aGF{t:TypeId}{n:Nat}{T:Ty}(ht:F0 P n t=some T){v:Value}{d:DataW H}{p:List MemPlace}(h:DataW.Trod en P w 0 sp held t v d p){r:Reach}{base:Nat}(hv:Value.okWide P w r base t v):
  ∃x:T.den,V (Fr gZ (fun _=>False) w) lE (aIm T x) v∧Wf T x:=by
 obtain⟨fuel,hf⟩:=h
 obtain⟨⟨x,h1,h2⟩,h3⟩:=aCN n t T ht fuel _ _ hf
 refine⟨x,?_,h2⟩
 have h1':Vcells (Fr gZ (fun _=>False) w false) T x (fun k u=>v.cells.toList[k]? = some u):=Vcells.mono (fun a u hu=>⟨fun e=>e,fun _ e=>e,World.cell_peek hu⟩) (fun _ _ h=>h) h1
 rcases aBD ht hv with⟨cs,rfl⟩ | ⟨hs,hc⟩
 ·have hs:=aHr ht hv
  unfold aIm
  rw[hs]
  simp only[Bool.false_eq_true,if_false,V]
  refine⟨cs,rfl,by rw[eZ,←h3];simp[Value.cells],kQ false T x _ (Vcells.mono (fun _ _ h=>h) (fun k u hk=>by simpa [Value.cells]using hk) h1')⟩
 ·unfold aIm
  rw[if_pos hs]
  simp only[V]
  refine⟨hs,?_⟩
  rw[hc]at h1'
  have h2':Vcells (Fr gZ (fun _=>False) w false) T x (fun k u=>(#[v]:Array Value).toList[k]? = some u):=h1'
  refine Vcells.monoLt (fun k u hk hu=> ?_) h2'
  rw[Ty.size_scalar hs]at hk
  obtain rfl:k=0:=by omega
  simp at hu
  exact hu.symm
theorem aAz{n:Nat}:∀ {ts:List TypeId} {Ts:List Ty} {vs:List Value} {ds:List (DataW H)} {p:List MemPlace},ts.map (F0 P n)=Ts.map some→DataW.TrodAll en P w 0 sp held ts vs ds p→∀ {r:Reach} {base:Nat},
  (∀(j:Nat) t v,ts[j]? = some t→vs[j]? = some v→Value.okWide P w r base t v)→∃x:Tup Ts,VVs (Fr gZ (fun _=>False) w) lE (aJD Ts x) vs∧WfT Ts x∧ds.length=ts.length
 | [],[],[],[],_,_,_,_,_,_=>⟨(),trivial,trivial,rfl⟩
 | t::ts,T::Ts,v::vs,d::ds,p,hT,⟨q,q',h1,h2,_⟩,r,base,hv=>by
  simp only[List.map_cons,List.cons.injEq]at hT
  obtain⟨x,hx,wx⟩:=aGF hT.1 h1 (hv 0 t v rfl rfl)
  obtain⟨y,hy,wy,hl⟩:=aAz hT.2 h2 (fun j t' v' a b=>hv (j+1) t' v' (by simpa using a) (by simpa using b))
  exact⟨(x,y),⟨hx,hy⟩,⟨wx,wy⟩,by simp[hl]⟩
 | [],_::_,_,_,_,hT,_,_,_,_=>by simp at hT
 | _::_,[],_,_,_,hT,_,_,_,_=>by simp at hT
 | [],[],_::_,_,_,_,h,_,_,_=>h.elim
 | [],[],[],_::_,_,_,h,_,_,_=>h.elim
 | _::_,_::_,[],_,_,_,h,_,_,_=>h.elim
 | _::_,_::_,_::_,[],_,_,h,_,_,_=>h.elim
theorem aA0(hl:laidOutB P=true){w':World}(hb:Below w.heap.size w w'):∀ {ts:List TypeId} {vs:List Value} {ds:List (DataW H)} {p:List MemPlace},ts.all (fun t=>P.readableRec t && decide (t<P.types.size))=true →
  DataW.TrodAll en P w 0 (fun _=>true) true ts vs ds p→DataW.TrodAll en P w' 0 (fun b=>decide (b<w.heap.size)) true ts vs ds p
 | [],[],[],_,_,h=>h
 | t::ts,v::vs,d::ds,p,hr,⟨q,q',h1,h2,e⟩ =>
  by
   simp only[List.all_cons,Bool.and_eq_true,decide_eq_true_eq]at hr
   exact⟨q,q',Below.trod hl hr.1.1 hr.1.2 h1 hb (by obtain⟨m,hm⟩:=h1;exact DataW.trod_lt m _ _ _ hm),aA0 hl hb hr.2 h2,e⟩
 | [],_::_,_,_,_,h=>h.elim
 | [],[],_::_,_,_,h=>h.elim
 | _::_,[],_,_,_,h=>h.elim
 | _::_,_::_,[],_,_,h=>h.elim
end
end Go.Tv
namespace Go.Proofs.YtbedjpdfkmfplaaGreatDoor.T
open Go Go.Tv Go.Proofs
theorem aER(c1 c2 c3 c4 c5:Int)(c6:Option Nat)(h:0≤c3):∃b,dZ c1 c2 c3 c4 c5 c6=some b∧eV c1 c2 c3 c4 c5 c6=some b:=by
 unfold dZ eV
 by_cases h1:c1≥1
 case neg=>exact⟨false,by simp[h1],by simp[h1]⟩
 by_cases h2:c1≤1048576
 case neg=>exact⟨false,by simp[h1,h2],by simp[h1,h2]⟩
 by_cases h3:c2≥1
 case neg=>exact⟨false,by simp[h1,h2,h3],by simp[h1,h2,h3]⟩
 by_cases h4:c2≤64
 case neg=>exact⟨false,by simp[h1,h2,h3,h4],by simp[h1,h2,h3,h4]⟩
 by_cases h5:c3≤1
 case neg=>exact⟨false,by simp[h1,h2,h3,h4,h5],by simp[h1,h2,h3,h4,show ¬c3=0 by omega,show ¬c3=1 by omega]⟩
 by_cases h6:c4≥0
 case neg=>exact⟨false,by simp[h1,h2,h3,h4,h5,h6],by rcases(show c3=0∨c3=1 by omega)with rfl | rfl <;> simp[h1,h2,h3,h4,h6]⟩
 by_cases h7:c4≤1048576
 case neg=>exact⟨false,by simp[h1,h2,h3,h4,h5,h6,h7],by rcases(show c3=0∨c3=1 by omega)with rfl | rfl <;> simp[h1,h2,h3,h4,h6,h7]⟩
 by_cases h8:c5≥0
 case neg=>exact⟨false,by simp[h1,h2,h3,h4,h5,h6,h7,h8],by rcases(show c3=0∨c3=1 by omega)with rfl | rfl <;> simp[h1,h2,h3,h4,h6,h7,h8]⟩
 exact⟨decide (c5≤1048576),by simp[h1,h2,h3,h4,h5,h6,h7,h8],by rcases(show c3=0∨c3=1 by omega)with rfl | rfl <;> simp[h1,h2,h3,h4,h6,h7,h8]⟩
theorem aGc(n:Nat):Bytes (List.replicate n 0):=fun x hx=>by
 rw[(List.mem_replicate.1 hx).2]
 omega
theorem aEL(c:Wy)(l:List Int)(n e1 e2:Int)(e3:List Int)(hl:∀i,0≤l.getD i 0∧l.getD i 0≤255)(hn:0≤n)(h3:0≤c.2.2.1):eE c.1 c.2.1 c.2.2.1 c.2.2.2.1 c.2.2.2.2.1 c.2.2.2.2.2 l n e1 e2 e3=some true:=by
 unfold eE
 simp only[aId,Option.bind_some,Bool.not_true,Bool.false_eq_true,if_false]
 by_cases hx:(l.length:Int) > 100
 ·simp only[hx,decide_true,if_true,Option.bind_some]
 by_cases hy:(e3.length:Int) > 5000
 ·simp only[hx,hy,decide_true,decide_false,Bool.false_eq_true,if_true,if_false,Option.bind_some]
 simp only[hx,hy,decide_false,Bool.false_eq_true,if_false,Option.bind_some,aHO]
 obtain⟨b,e,hb⟩:=aHB
 obtain⟨t,ht,ht1,ht2⟩:=aHC (l:=l) (by omega) hl
 simp only[e,ht,Option.bind_some]
 have hw:IntKind.i64.wrap (Int.tmod n 5000)=n % 5000:=by rw[Int.tmod_eq_emod_of_nonneg hn];exact wrap_i64 (by omega) (by omega)
 obtain⟨m,hm⟩:∃m:Nat,n % 5000=(m:Int):=⟨(n % 5000).toNat,by omega⟩
 have hm2:m<5000:=by omega
 rw[hw,hm,Int.toNat_natCast]
 have h5:¬(5000:Int)=0:=by decide
 have hg:0≤(m:Int)∧(t.length+m)*1≤140737488355328∧t.length+m≤9223372036854775807:=by omega
 simp only[bne_self_eq_false,Bool.false_eq_true,if_false,h5,not_false_eq_true,if_true,hg,and_self]
 have hB:Bytes (t++List.replicate m 0):=fun x hx=>by
  rcases List.mem_append.1 hx with hx | hx
  ·exact ht1 x hx
  ·exact aGc m x hx
 have hL:(t++List.replicate m (0:Int)).length=t.length+m:=by rw[List.length_append,List.length_replicate]
 obtain⟨ok,c1,c2⟩:=aER c.1 c.2.1 c.2.2.1 c.2.2.2.1 c.2.2.2.2.1 c.2.2.2.2.2 h3
 rw[c2,Option.bind_some,aJh (by omega)]
 rcases aLY hb (c:=c) hB (by omega)with⟨q1,q2⟩ | ⟨q1,⟨q3,q2⟩ | ⟨q3,p,kn,q2,-⟩⟩
 ·rw[q1]at c1
  cases c1
  rw[q1,q2]
  rfl
 ·rw[q1]at c1
  cases c1
  have hgt:((t++List.replicate m (0:Int)).length:Int) > 4096:=by omega
  rw[q1,q2]
  simp only[hgt,decide_true,if_true]
  rfl
 ·rw[q1]at c1
  cases c1
  have hgt:¬((t++List.replicate m (0:Int)).length:Int) > 4096:=by omega
  rw[q1,q2]
  simp only[hgt,decide_false]
  rfl
theorem aGG{l:List Int}(h:Wf (.slice (.int .u8)) l):∀i,0≤l.getD i 0∧l.getD i 0≤255:=fun i=>by
 by_cases hi:i<l.length
 ·have:=h.2 i hi
  rw[l4 hi]
  exact this
 ·rw[List.getD_eq_getElem?_getD,List.getElem?_eq_none (by omega)]
  simp
abbrev flowNew_Ts:List Ty:=[(.prod (.int .i64) (.prod (.int .i64) (.prod (.int .u8) (.prod (.int .i64) (.prod (.int .i64) .flt))))),(.slice (.int .u8)),(.int .u16),(.prod (.int .i64) (.prod (.int .i64) (.slice (.int .u8))))]
theorem flowNew_all(x:Tup flowNew_Ts)(hx:WfT flowNew_Ts x):eE x.1.1 x.1.2.1 x.1.2.2.1 x.1.2.2.2.1 x.1.2.2.2.2.1 x.1.2.2.2.2.2 x.2.1 x.2.2.1 x.2.2.2.1.1 x.2.2.2.1.2.1 x.2.2.2.1.2.2=some true :=
 aEL x.1 _ _ _ _ _ (aGG hx.2.1) hx.2.2.1.1 hx.1.2.2.1.1
end Go.Proofs.YtbedjpdfkmfplaaGreatDoor.T
