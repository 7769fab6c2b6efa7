/- All parts: the lines of a text. -/
import Derived.Test.YtbedjpdfkmfplaaGreatDoorTv21tm
import Derived.Test.YtbedjpdfkmfplaaGreatDoorTvT21bFlowOwn
import Derived.Test.YtbedjpdfkmfplaaGreatDoorTvSm
import Derived.ProofKit
import Derived.OpenShut
import Derived.SizedLaws
import Derived.Carry
namespace Go.Proofs.YtbedjpdfkmfplaaGreatDoor.T
open Go Go.Tv Go.Proofs
noncomputable section
theorem X6{cl:List cV}(hc:Cel cl){o:List Int}(ho:OM cl.length o)(h0:o.getD 0 0≠3){c:Wy}(w:aGd c):
  lI cl o c.1 c.2.1 c.2.2.1 c.2.2.2.1 c.2.2.2.2.1 c.2.2.2.2.2=some (g6 cl o c 0 (fB o o.length)):=by
 have hl:=hc.1
 have hol:=ho.len
 have key:∀(l pre:List Int) (fr:Nat) (out:List cV) (b:Bool),(pre++l).length≤5000→Pts o cl.length fr l→fr≤cl.length→o.getD fr 0≠3→out.length≤fr →
   iter (iA cl o c.1 c.2.1 c.2.2.1 c.2.2.2.1 c.2.2.2.2.1 c.2.2.2.2.2 (pre++l)) (out,b,(fr:Int),(pre.length:Int))=some (out++(g6 cl o c fr l).1,b || (g6 cl o c fr l).2):=fun l=>by
  induction l with
  | nil =>
   intro pre fr out b hlen _ _ _ _
   have q1:¬((pre.length:Int)<(pre.length:Int)):=Int.lt_irrefl _
   rw[List.append_nil]
   exact dO (by simp only[iA,q1,decide_false,Bool.false_eq_true,if_false,g6,List.append_nil,Bool.or_false])
  | cons t r ih =>
   intro pre fr out b hlen hp hfr h3 hout
   obtain⟨p1,p2,p3,p4,p5⟩:=hp
   have hple:=B6 (aV cl o fr) (t.toNat - fr) c
   have he:=aAS hc hol w p1 p3 h3
   rw[←p2]at he
   have ih':=ih (pre++[t]) t.toNat (out++eE (hU (aV cl o fr) (t.toNat - fr) c).1 (fr:Int)) (b || (hU (aV cl o fr) (t.toNat - fr) c).2) (by simpa using hlen) p5 p3 (by rw[p4];decide) (by rw[List.length_append,lN];omega)
   rw[List.append_assoc,←p2]at ih'
   simp only[List.singleton_append,List.length_append,List.length_singleton]at ih'
   simp only[g6]
   rw[←List.append_assoc,←Bool.or_assoc,←ih']
   refine gV ?_
   have hlen':pre.length+(r.length+1)≤5000:=by simpa using hlen
   have q1:(pre.length:Int)<((pre++t::r).length:Int):=by simp;omega
   have q2:0≤(pre.length:Int):=by omega
   have g:(out.length+(eE (hU (aV cl o fr) (t.toNat - fr) c).1 (fr:Int)).length)*32≤140737488355328∧out.length+(eE (hU (aV cl o fr) (t.toNat - fr) c).1 (fr:Int)).length≤9223372036854775807:=by
    rw[lN];omega
   simp only[iA,q1,q2,and_self,decide_true,if_true,Int.toNat_natCast,B5,he,Option.bind_some,g]
   rw[show IntKind.i64.wrap ((pre.length:Int)+1)=((pre.length+1:Nat):Int)from bM (by omega)]
   cases b <;> simp
 have hp:Pts o cl.length 0 (fB o o.length):=by rw[tP];exact oB o _ _ (by omega)
 have hpl:=rP o o.length
 have:=key (fB o o.length) [] 0 [] false (by simp;omega) hp (by omega) h0 (by simp)
 simp only[List.nil_append,List.length_nil,Bool.false_or]at this
 unfold lI
 rw[aCl cl (by omega),Option.bind_some]
 exact congrArg (fun x=>Option.bind x fun(out3,loose4)=>some (out3,loose4)) this
end
end Go.Proofs.YtbedjpdfkmfplaaGreatDoor.T
namespace Go.Tv
open Go Go.RowKit
def G8(P:Program):Nat→TypeId→Option Ty
 | 0,_=>none
 | n+1,t=>match P.underlying t with
  | some .bool=>some .bool
  | some (.int k)=>some (.int k)
  | some .string=>some .str
  | some (.float .f64)=>some .flt
  | some (.slice e)=>match G8 P n e with
   | some A=>if P.cellsOf e=A.size∧0<A.size then some (.slice A)else none
   | none=>none
  | some (.struct fs)=>match fs.toList.mapM (fun f=>G8 P n f.type)with
   | some Ts=>if j5 P 0 fs.toList Ts=true∧P.cellsOf t=(g7 Ts).size∧Ts≠[]then some (g7 Ts)else none
   | none=>none
  | _=>none
def Wf:(T:Ty)→T.den→Prop
 | .int k,n=>k.min≤(show Int from n)∧(show Int from n)≤k.max
 | .bool,_=>True
 | .str,s=>List.length (α:=UInt8) s≤maxLen
 | .flt,n=>∀m:Nat,(show Option Nat from n)=some m→m<18446744073709551616∧eK m=some m
 | .unit,_=>True
 | .prod a b,x=>Wf a x.1∧Wf b x.2
 | .slice A,xs=>List.length (α:=A.den) xs≤maxLen∧∀i (h:i<List.length (α:=A.den) xs),Wf A xs[i]
 | .ptr _,_=>True
 | .tree _ _,_=>True
 | .arr _ _,_=>True
 | .mapi _ _,_=>True
section
variable{H:Type}{enc':TypeId×Value→H}{P:Program}{w:World}{sp:Nat→Bool}{held:Bool}
theorem build{A:Ty}{p:Nat→A.den→Prop}:∀(n:Nat),(∀i,i<n→∃x,p i x)→∃xs:List A.den,xs.length=n∧∀i (h:i<xs.length),p i xs[i]
 | 0,_=>⟨[],rfl,fun i h=>absurd h (by simp)⟩
 | n+1,h=>by
  obtain⟨xs,h1,h2⟩:=build n fun i hi=>h i (by omega)
  obtain⟨x,hx⟩:=h n (by omega)
  refine⟨xs++[x],by simp[h1],fun i hi=> ?_⟩
  simp only[List.length_append,List.length_cons,List.length_nil]at hi
  rcases Nat.lt_or_ge i xs.length with h3 | h3
  ·rw[List.getElem_append_left h3];exact h2 i h3
  ·obtain rfl:i=n:=by omega
   have e:(xs++[x])[i]'(by simp;omega)=x:=by
    rw[List.getElem_append_right (by omega)]
    simp[h1]
   rw[e];exact hx
def Reads(w:World)(T:Ty)(cs:List Value)(x:T.den):Prop:=Vcells (fun a v=>w.cell? a=some v) T x (fun k v=>cs[k]? = some v)∧Wf T x
theorem aGD{base:Nat}{a:Addr}{n:Nat}{cs:List Value}(h:w.cells? base a n=some cs):cs.length=n∧∀k v,cs[k]? = some v→w.cell? (a.add k)=some v:=by
 unfold World.cells? at h
 split at h
 ·obtain⟨h1,h2⟩:=qB h
  simp only[List.length_range]at h1
  refine⟨h1,fun k v hk=> ?_⟩
  have hlt:k<n:=by rw[←h1];exact(List.getElem?_eq_some_iff.1 hk).1
  obtain⟨y,q1,q2⟩:=h2 k k (by simp[hlt])
  rw[hk]at q1
  cases q1
  exact q2
 ·cases h
theorem Reads.cut{T:Ty}{cs:List Value}{off n:Nat}{x:T.den}(h:Reads w T ((cs.drop off).take n) x):Vcells (fun a v=>w.cell? a=some v) T x (fun k v=>cs[off+k]? = some v)∧Wf T x :=
 ⟨Vcells.mono (fun _ _ h=>h) (fun k v hk=>by
  rw[List.getElem?_take]at hk
  split at hk
  ·simpa using hk
  ·cases hk) h.1,h.2⟩
theorem aAU{cs:List Value}:∀(fs:List Field) (Ts:List Ty) (off:Nat),j5 P off fs Ts=true→fs.length=Ts.length →
  (∀(i:Nat) f T,fs[i]? = some f→Ts[i]? = some T→∃x:T.den,Reads w T ((cs.drop f.offset).take (P.cellsOf f.type)) x) →
  ∀T0,(∃x:T0.den,Vcells (fun a v=>w.cell? a=some v) T0 x (fun k v=>cs[off - T0.size+k]? = some v)∧Wf T0 x)→T0.size≤off →
  ∃x:(jQ T0 Ts).den,Vcells (fun a v=>w.cell? a=some v) (jQ T0 Ts) x (fun k v=>cs[off - T0.size+k]? = some v)∧Wf (jQ T0 Ts) x
 | [],[],off,_,_,_,T0,h0,_=>h0
 | [],_::_,_,_,hl,_,_,_,_=>by simp at hl
 | _::_,[],_,_,hl,_,_,_,_=>by simp at hl
 | f::fs,T::Ts,off,ho,hl,hf,T0,⟨x0,h0,w0⟩,hle=>by
  simp only[j5,Bool.and_eq_true,beq_iff_eq]at ho
  obtain⟨⟨h1,h2⟩,h3⟩:=ho
  obtain⟨y,hy⟩:=hf 0 f T rfl rfl
  have hy':=hy.cut
  rw[h1]at hy'
  obtain⟨z,hz,wz⟩:=aAU fs Ts (off+T.size) h3 (by simpa using hl) (fun i f' T' a b=>hf (i+1) f' T' (by simpa using a) (by simpa using b)) T ⟨y,by
   rw[Nat.add_sub_cancel];exact hy'.1,hy'.2⟩ (Nat.le_add_left _ _)
  refine⟨(x0,z),⟨h0,?_⟩,w0,wz⟩
  refine Vcells.mono (fun _ _ h=>h) (fun k v hk=> ?_) hz
  rw[Nat.add_sub_cancel]at hk
  show cs[off - T0.size+(T0.size+k)]? = some v
  rwa [show off - T0.size+(T0.size+k)=off+k by omega]
theorem aDp{cs:List Value}(fs:List Field)(Ts:List Ty)(ho:j5 P 0 fs Ts=true)(hl:fs.length=Ts.length)(hne:Ts≠[])
  (hf:∀(i:Nat) f T,fs[i]? = some f→Ts[i]? = some T→∃x:T.den,Reads w T ((cs.drop f.offset).take (P.cellsOf f.type)) x):∃x:(g7 Ts).den,Reads w (g7 Ts) cs x:=by
 match fs,Ts with
 | [],[]=>exact absurd rfl hne
 | [],_::_=>simp at hl
 | _::_,[]=>simp at hl
 | f::fs,T::Ts =>
  simp only[j5,Bool.and_eq_true,beq_iff_eq]at ho
  obtain⟨⟨h1,h2⟩,h3⟩:=ho
  obtain⟨y,hy⟩:=hf 0 f T rfl rfl
  have hy':=hy.cut
  rw[h1]at hy'
  obtain⟨z,hz,wz⟩:=aAU fs Ts (0+T.size) h3 (by simpa using hl) (fun i f' T' a b=>hf (i+1) f' T' (by simpa using a) (by simpa using b)) T ⟨y,by
   rw[Nat.add_sub_cancel];exact hy'.1,hy'.2⟩ (Nat.le_add_left _ _)
  have hz':Vcells (fun a v=>w.cell? a=some v) (jQ T Ts) z (fun k v=>cs[k]? = some v):=Vcells.mono (fun _ _ h=>h) (fun k v hk=>by
   rwa [Nat.add_sub_cancel,Nat.zero_add]at hk) hz
  cases Ts with
  | nil=>exact⟨(z,()),⟨hz',trivial⟩,wz,trivial⟩
  | cons b r=>exact⟨z,hz',wz⟩
theorem aDN:∀(n:Nat) (t:TypeId) (T:Ty),G8 P n t=some T→∀(fuel:Nat) (cs:List Value) (r:DataW H×List MemPlace),DataW.trod enc' P w 0 sp held fuel t cs=some r→(∃x:T.den,Reads w T cs x)∧cs.length=T.size
 | 0,_,_,h,_,_,_,_=>by simp[G8]at h
 | n+1,t,T,h,0,cs,r,hr=>by simp[DataW.trod]at hr
 | n+1,t,T,h,fuel+1,cs,r,hr=>by
  have ih:=aDN n
  simp only[G8]at h
  unfold DataW.trod at hr
  split at h
  ·rename_i hu
   cases h
   rw[hu]at hr
   split at hr <;> first | (exfalso;simp_all;done) | skip
   rename_i b _
   exact⟨⟨b,by simp[Vcells],trivial⟩,rfl⟩
  ·rename_i k hu
   cases h
   rw[hu]at hr
   split at hr <;> first | (exfalso;simp_all;done) | skip
   rename_i k1 k2 i e
   cases e
   split at hr
   ·rename_i hk
    obtain⟨rfl,hw⟩:=hk
    refine⟨⟨i,by simp[Vcells],?_⟩,rfl⟩
    simp only[Lit.wf,Bool.and_eq_true,decide_eq_true_eq]at hw
    exact hw
   ·cases hr
  ·rename_i hu
   cases h
   rw[hu]at hr
   split at hr <;> first | (exfalso;simp_all;done) | skip
   rename_i s e
   split at hr
   ·rename_i hs
    refine⟨⟨s.data.toList,by simp[Vcells],?_⟩,rfl⟩
    show s.data.toList.length≤maxLen
    have e:s.data.toList.length=s.size:=Array.length_toList
    rw[e]
    exact hs
   ·cases hr
  ·rename_i hu
   cases h
   rw[hu]at hr
   split at hr <;> first | (exfalso;simp_all;done) | skip
   rename_i k1 k2 i e
   cases e
   split at hr
   ·rename_i hk
    obtain⟨rfl,hw⟩:=hk
    refine⟨⟨eK i,by simp[Vcells],fun m hm=> ?_⟩,rfl⟩
    have hw2:i<18446744073709551616:=by simpa [Lit.wf]using hw
    have e:=lR hm
    subst e
    exact⟨hw2,hm⟩
   ·cases hr
  ·rename_i e hu
   split at h
   ·rename_i A hA
    split at h
    ·rename_i hsz
     cases h
     rw[hu]at hr
     split at hr <;> first | (exfalso;simp_all;done) | skip
     ·exact⟨⟨[],⟨none,0,0,rfl,⟨rfl,Nat.le_refl _⟩,fun i hi=>absurd hi (by simp)⟩,Nat.zero_le _,fun i hi=>absurd hi (by simp)⟩,rfl⟩
     ·rename_i e' a len cap q
      cases q
      simp only at hr
      split at hr
      ·rename_i hb
       simp only[Option.bind_eq_some_iff]at hr
       obtain⟨elems,he,_⟩:=hr
       obtain⟨g1,g2⟩:=qB he
       simp only[List.length_range]at g1
       obtain⟨xs,hx1,hx2⟩:=build (A:=A) (p:=fun i x=>Vcells (fun a v=>w.cell? a=some v) A x (fun k v=>w.cell? (a.add (i*A.size+k))=some v)∧Wf A x) len fun i hi=>by
        obtain⟨y,_,q2⟩:=g2 i i (by simp[hi])
        simp only[Option.bind_eq_some_iff]at q2
        obtain⟨cs,q3,q4⟩:=q2
        obtain⟨s1,s2⟩:=aGD q3
        obtain⟨⟨x,t1,t2⟩,_⟩:=ih e A hA fuel cs y q4
        refine⟨x,Vcells.mono (fun _ _ h=>h) (fun k v hk=> ?_) t1,t2⟩
        have:=s2 k v hk
        rw[mS]at this
        rw[hsz.1]at this
        exact this
       refine⟨⟨xs,⟨some a,len,cap,rfl,⟨hx1.symm,hb.2.1⟩,fun i hi=>⟨a,rfl,(hx2 i hi).1⟩⟩,?_,fun i hi=>(hx2 i hi).2⟩,rfl⟩
       show xs.length≤maxLen
       rw[hx1]
       exact Nat.le_trans hb.2.1 hb.2.2
      ·cases hr
    ·cases h
   ·cases h
  ·rename_i fs hu
   split at h
   ·rename_i Ts hTs
    split at h
    ·rename_i hc
     obtain⟨hc1,hc2,hc3⟩:=hc
     cases h
     rw[hu]at hr
     split at hr <;> first | (exfalso;simp_all;done) | skip
     rename_i fs' _ _ q
     cases q
     split at hr
     ·rename_i hlen
      simp only[Option.map_eq_some_iff]at hr
      obtain⟨xs,hxs,_⟩:=hr
      obtain⟨g1,g2⟩:=qB hxs
      obtain⟨k1,k2⟩:=qB hTs
      refine⟨aDp fs.toList Ts hc1 k1.symm hc3 fun i f T hf hT=> ?_,by rw[hlen,hc2]⟩
      obtain⟨T',q1,q2⟩:=k2 i f hf
      rw[hT]at q1
      cases q1
      obtain⟨y,_,q3⟩:=g2 i f hf
      exact(ih f.type T q2 fuel _ y q3).1
     ·cases hr
    ·cases h
   ·cases h
  ·cases h
end
end Go.Tv
namespace Go.Tv
open Go Go.RowKit
def Tup:List Ty→Type
 | []=>Unit
 | T::Ts=>T.den×Tup Ts
def aIM(T:Ty)(x:T.den):AVal:=if T.scalar then .p false T x else .agg (g5 false T x)
def aJH:(Ts:List Ty)→Tup Ts→List AVal
 | [],_=>[]
 | T::Ts,x=>aIM T x.1::aJH Ts x.2
def WfT:(Ts:List Ty)→Tup Ts→Prop
 | [],_=>True
 | T::Ts,x=>Wf T x.1∧WfT Ts x.2
section
variable{H:Type}{en:TypeId×Value→H}{P:Program}{w:World}{sp:Nat→Bool}{held:Bool}
theorem aCe{t:TypeId}{n:Nat}{T:Ty}(ht:G8 P n t=some T){r:Reach}{base:Nat}{v:Value}(h:Value.okWide P w r base t v):(∃cs,v = .agg cs)∨T.scalar=true∧v.cells = #[v]:=by
 cases n with
 | zero=>simp[G8]at ht
 | succ n =>
  simp only[G8]at ht
  unfold Value.okWide at h
  split at ht
  ·rename_i hu
   cases ht
   rw[hu]at h
   right
   simp only[Cell.okWide,hu]at h
   refine⟨rfl,?_⟩
   cases v <;> simp_all [Cell.ok,Value.cells]
  ·rename_i k hu
   cases ht
   rw[hu]at h
   right
   simp only[Cell.okWide,hu]at h
   refine⟨rfl,?_⟩
   cases v <;> simp_all [Cell.ok,Value.cells]
  ·rename_i hu
   cases ht
   rw[hu]at h
   right
   simp only[Cell.okWide,hu]at h
   refine⟨rfl,?_⟩
   cases v <;> simp_all [Cell.ok,Value.cells]
  ·rename_i hu
   cases ht
   rw[hu]at h
   right
   simp only[Cell.okWide,hu]at h
   refine⟨rfl,?_⟩
   cases v <;> simp_all [Cell.ok,Value.cells]
  ·rename_i e hu
   split at ht
   ·split at ht
    ·cases ht
     rw[hu]at h
     right
     simp only[Cell.okWide,hu]at h
     refine⟨rfl,?_⟩
     cases v <;> simp_all [Cell.ok,Value.cells]
    ·cases ht
   ·cases ht
  ·rename_i fs hu
   rw[hu]at h
   obtain⟨cs,e,_⟩:=h
   exact .inl ⟨cs,e⟩
  ·cases ht
theorem aG2{t:TypeId}{n:Nat}{T:Ty}(ht:G8 P n t=some T){r:Reach}{base:Nat}{cs:Array Value}(h:Value.okWide P w r base t (.agg cs)):T.scalar=false:=by
 cases n with
 | zero=>simp[G8]at ht
 | succ n =>
  simp only[G8]at ht
  unfold Value.okWide at h
  split at ht
  ·rename_i hu
   rw[hu]at h
   simp[Cell.okWide,hu,Cell.ok]at h
  ·rename_i k hu
   rw[hu]at h
   simp[Cell.okWide,hu,Cell.ok]at h
  ·rename_i hu
   rw[hu]at h
   simp[Cell.okWide,hu,Cell.ok]at h
  ·rename_i hu
   rw[hu]at h
   simp[Cell.okWide,hu,Cell.ok]at h
  ·rename_i e hu
   rw[hu]at h
   simp[Cell.okWide,hu,Cell.ok]at h
  ·split at ht
   ·rename_i Ts _
    split at ht
    ·rename_i hc
     cases ht
     match Ts,hc.2.2 with
     | [a],_=>rfl
     | a::b::r,_=>rfl
    ·cases ht
   ·cases ht
  ·cases ht
theorem aHB{t:TypeId}{n:Nat}{T:Ty}(ht:G8 P n t=some T){v:Value}{d:DataW H}{p:List MemPlace}(h:DataW.Trod en P w 0 sp held t v d p){r:Reach}{base:Nat}(hv:Value.okWide P w r base t v):
  ∃x:T.den,V (Fr hX (fun _=>False) w) lD (aIM T x) v∧Wf T x:=by
 obtain⟨fuel,hf⟩:=h
 obtain⟨⟨x,h1,h2⟩,h3⟩:=aDN n t T ht fuel _ _ hf
 refine⟨x,?_,h2⟩
 have h1':Vcells (Fr hX (fun _=>False) w false) T x (fun k u=>v.cells.toList[k]? = some u):=Vcells.mono (fun a u hu=>⟨fun e=>e,fun _ e=>e,World.cell_peek hu⟩) (fun _ _ h=>h) h1
 rcases aCe ht hv with⟨cs,rfl⟩ | ⟨hs,hc⟩
 ·have hs:=aG2 ht hv
  unfold aIM
  rw[hs]
  simp only[Bool.false_eq_true,if_false,V]
  refine⟨cs,rfl,by rw[fJ,←h3];simp[Value.cells],lA false T x _ (Vcells.mono (fun _ _ h=>h) (fun k u hk=>by simpa [Value.cells]using hk) h1')⟩
 ·unfold aIM
  rw[if_pos hs]
  simp only[V]
  refine⟨hs,?_⟩
  rw[hc]at h1'
  have h2':Vcells (Fr hX (fun _=>False) w false) T x (fun k u=>(#[v]:Array Value).toList[k]? = some u):=h1'
  refine Vcells.monoLt (fun k u hk hu=> ?_) h2'
  rw[Ty.size_scalar hs]at hk
  obtain rfl:k=0:=by omega
  simp at hu
  exact hu.symm
theorem aA0{n:Nat}:∀ {ts:List TypeId} {Ts:List Ty} {vs:List Value} {ds:List (DataW H)} {p:List MemPlace},ts.map (G8 P n)=Ts.map some→DataW.TrodAll en P w 0 sp held ts vs ds p→∀ {r:Reach} {base:Nat},
  (∀(j:Nat) t v,ts[j]? = some t→vs[j]? = some v→Value.okWide P w r base t v)→∃x:Tup Ts,VVs (Fr hX (fun _=>False) w) lD (aJH Ts x) vs∧WfT Ts x∧ds.length=ts.length
 | [],[],[],[],_,_,_,_,_,_=>⟨(),trivial,trivial,rfl⟩
 | t::ts,T::Ts,v::vs,d::ds,p,hT,⟨q,q',h1,h2,_⟩,r,base,hv=>by
  simp only[List.map_cons,List.cons.injEq]at hT
  obtain⟨x,hx,wx⟩:=aHB hT.1 h1 (hv 0 t v rfl rfl)
  obtain⟨y,hy,wy,hl⟩:=aA0 hT.2 h2 (fun j t' v' a b=>hv (j+1) t' v' (by simpa using a) (by simpa using b))
  exact⟨(x,y),⟨hx,hy⟩,⟨wx,wy⟩,by simp[hl]⟩
 | [],_::_,_,_,_,hT,_,_,_,_=>by simp at hT
 | _::_,[],_,_,_,hT,_,_,_,_=>by simp at hT
 | [],[],_::_,_,_,_,h,_,_,_=>h.elim
 | [],[],[],_::_,_,_,h,_,_,_=>h.elim
 | _::_,_::_,[],_,_,_,h,_,_,_=>h.elim
 | _::_,_::_,_::_,[],_,_,h,_,_,_=>h.elim
theorem aAR(hl:laidOutB P=true){w':World}(hb:Below w.heap.size w w'):∀ {ts:List TypeId} {vs:List Value} {ds:List (DataW H)} {p:List MemPlace},ts.all (fun t=>P.readableRec t && decide (t<P.types.size))=true →
  DataW.TrodAll en P w 0 (fun _=>true) true ts vs ds p→DataW.TrodAll en P w' 0 (fun b=>decide (b<w.heap.size)) true ts vs ds p
 | [],[],[],_,_,h=>h
 | t::ts,v::vs,d::ds,p,hr,⟨q,q',h1,h2,e⟩ =>
  by
   simp only[List.all_cons,Bool.and_eq_true,decide_eq_true_eq]at hr
   exact⟨q,q',Below.trod hl hr.1.1 hr.1.2 h1 hb (by obtain⟨m,hm⟩:=h1;exact DataW.trod_lt m _ _ _ hm),aAR hl hb hr.2 h2,e⟩
 | [],_::_,_,_,_,h=>h.elim
 | [],[],_::_,_,_,h=>h.elim
 | _::_,[],_,_,_,h=>h.elim
 | _::_,_::_,[],_,_,h=>h.elim
end
end Go.Tv
namespace Go.Proofs.YtbedjpdfkmfplaaGreatDoor.T
open Go Go.Tv Go.Proofs
noncomputable section
def aAJ(w1 w2 w3 w4 w5:Int)(w6:Option Nat):Wy:=(1+w1,1+w2 % 64,w3 % 2,w4,w5,w6)
theorem aGm{w1 w2 w3 w4 w5:Int}(w6:Option Nat)(h1:0≤w1∧w1≤255)(h2:0≤w2∧w2≤255)(h3:0≤w3∧w3≤255)(h4:0≤w4∧w4≤65535)(h5:0≤w5∧w5≤65535):
  mV w1 w2 w3 w4 w5 w6=some (aAJ w1 w2 w3 w4 w5 w6)∧dZ (aAJ w1 w2 w3 w4 w5 w6).1 (aAJ w1 w2 w3 w4 w5 w6).2.1 (aAJ w1 w2 w3 w4 w5 w6).2.2.1 (aAJ w1 w2 w3 w4 w5 w6).2.2.2.1 (aAJ w1 w2 w3 w4 w5 w6).2.2.2.2.1 (aAJ w1 w2 w3 w4 w5 w6).2.2.2.2.2=some true:=by
 constructor
 ·have a1:IntKind.i64.wrap w1=w1:=wrap_i64 (by omega) (by omega)
  have a2:IntKind.i64.wrap (1+w1)=1+w1:=wrap_i64 (by omega) (by omega)
  have a3:Int.tmod w2 64=w2 % 64:=Int.tmod_eq_emod_of_nonneg h2.1
  have a4:IntKind.i64.wrap (w2 % 64)=w2 % 64:=wrap_i64 (by omega) (by omega)
  have a5:IntKind.i64.wrap (1+w2 % 64)=1+w2 % 64:=wrap_i64 (by omega) (by omega)
  have a6:Int.tmod w3 2=w3 % 2:=Int.tmod_eq_emod_of_nonneg h3.1
  have a7:IntKind.i64.wrap w4=w4:=wrap_i64 (by omega) (by omega)
  have a8:IntKind.i64.wrap w5=w5:=wrap_i64 (by omega) (by omega)
  unfold mV aAJ
  rw[if_pos (by decide),if_pos (by decide),a1,a2,a3,a4,a5,a6,a7,a8]
 ·unfold dZ aAJ
  simp only
  rw[if_pos (by rw[decide_eq_true_eq];omega),if_pos (by rw[decide_eq_true_eq];omega),if_pos (by rw[decide_eq_true_eq];omega),if_pos (by rw[decide_eq_true_eq];omega),if_pos (by rw[decide_eq_true_eq];omega),if_pos (by rw[decide_eq_true_eq];omega),if_pos (by rw[decide_eq_true_eq];omega),if_pos (by rw[decide_eq_true_eq];omega)]
  rw[Option.bind_some,decide_eq_true (by omega)]
theorem aEh{r v:List Int}(h:v.length=r.length)(hr:r.length≤100000):∃u,iter (cL r) (v,(0:Int))=some u:=by
 obtain⟨u,e,-⟩:=dQ (body:=cL r) (fun z:List Int×Int=>∃k:Nat,z.2=(k:Int)∧k≤r.length∧z.1.length=r.length) (fun z=>r.length - z.2.toNat) (fun _=>True) (by
  rintro⟨v,i⟩ ⟨k,rfl,hk,hv⟩
  simp only at hv
  by_cases hlt:k<r.length
  ·left
   have q1:(k:Int)<(r.length:Int):=by omega
   have q2:0≤(k:Int):=by omega
   refine⟨(v.set k (aT .xor .u8 (v.getD k 0) 255),((k+1:Nat):Int)),?_,⟨k+1,rfl,by omega,by simp[hv]⟩,by simp only[Int.toNat_natCast];omega⟩
   simp only[cL,q1,q2,hv,hlt,and_self,decide_true,if_true,Int.toNat_natCast,bM (show k≤9000000000000000000 by omega)]
  ·right
   obtain rfl:k=r.length:=by omega
   refine⟨(),?_,trivial⟩
   have q1:¬((r.length:Int)<(r.length:Int)):=Int.lt_irrefl _
   simp only[cL,q1,decide_false,Bool.false_eq_true,if_false]) (s:=(v,0)) ⟨0,rfl,by omega,h⟩
 exact⟨u,e⟩
theorem aJF{r v:List cV}(h:v.length=r.length)(hr:r.length≤100000):∃u,iter (cJ r) (v,(0:Int))=some u:=by
 obtain⟨u,e,-⟩:=dQ (body:=cJ r) (fun z:List cV×Int=>∃k:Nat,z.2=(k:Int)∧k≤r.length∧z.1.length=r.length) (fun z=>r.length - z.2.toNat) (fun _=>True) (by
  rintro⟨v,i⟩ ⟨k,rfl,hk,hv⟩
  simp only at hv
  by_cases hlt:k<r.length
  ·left
   have q1:(k:Int)<(r.length:Int):=by omega
   have q2:0≤(k:Int):=by omega
   refine⟨(v.set k c0,((k+1:Nat):Int)),?_,⟨k+1,rfl,by omega,by simp[hv]⟩,by simp only[Int.toNat_natCast];omega⟩
   simp only[cJ,q1,q2,hv,hlt,and_self,decide_true,if_true,Int.toNat_natCast,bM (show k≤9000000000000000000 by omega)]
  ·right
   obtain rfl:k=r.length:=by omega
   refine⟨(),?_,trivial⟩
   have q1:¬((r.length:Int)<(r.length:Int)):=Int.lt_irrefl _
   simp only[cJ,q1,decide_false,Bool.false_eq_true,if_false]) (s:=(v,0)) ⟨0,rfl,by omega,h⟩
 exact⟨u,e⟩
theorem aBn{b ins:List Int}{i:Nat}(hb:b.length≤4096)(hi:i≤b.length)(hn:ins.length≤4096):dU b (i:Int) 0 ins=some (b.take i++ins++b.drop (i+0)):=by
 have h1:iter (cS b (i:Int)) (([]:List Int),(0:Int))=some (b.take i):=by
  have:iter (cS b (i:Int)) (b.take 0,((0:Nat):Int))=some (b.take i):=by
   refine fD (fun k=>(b.take k,(k:Int))) i (fun k hk=> ?_) ?_
   ·have q1:(k:Int)<(i:Int):=by omega
    have q2:0≤(k:Int)∧(k:Int)<(b.length:Int):=by omega
    have hl:(b.take k).length=k:=by rw[List.length_take];omega
    have g:∀y:Int,(k+([y]:List Int).length)*1≤140737488355328∧k+([y]:List Int).length≤9223372036854775807:=fun y=>by simp;omega
    simp only[cS,q1,q2,and_self,decide_true,if_true,Int.toNat_natCast,hl,g,bM (show k≤9000000000000000000 by omega)]
    rw[kU (d:=0) (show k<b.length by omega)]
   ·have q1:¬((i:Int)<(i:Int)):=Int.lt_irrefl _
    simp only[cS,q1,decide_false,Bool.false_eq_true,if_false]
  exact this
 have h2:∀o:List Int,o.length≤10000→iter (cR b) (o,(i:Int))=some (o++b.drop i):=fun o ho=>by
  have:iter (cR b) (o++(b.drop i).take 0,((i+0:Nat):Int))=some (o++b.drop i):=by
   refine fD (fun k=>(o++(b.drop i).take k,((i+k:Nat):Int))) (b.length - i) (fun k hk=> ?_) ?_
   ·have q1:((i+k:Nat):Int)<(b.length:Int):=by omega
    have q2:0≤((i+k:Nat):Int)∧((i+k:Nat):Int)<(b.length:Int):=by omega
    have hl:(o++(b.drop i).take k).length=o.length+k:=by rw[List.length_append,List.length_take,List.length_drop];omega
    have g:∀y:Int,(o.length+k+([y]:List Int).length)*1≤140737488355328∧o.length+k+([y]:List Int).length≤9223372036854775807:=fun y=>by simp;omega
    have hgd:(b.drop i).getD k 0=b.getD (i+k) 0:=by simp[List.getD_eq_getElem?_getD]
    simp only[cR,q1,q2,and_self,decide_true,if_true,Int.toNat_natCast,hl,g,bM (show i+k≤9000000000000000000 by omega)]
    rw[kU (d:=0) (show k<(b.drop i).length by rw[List.length_drop];omega),hgd,List.append_assoc]
    rfl
   ·have q1:¬(((i+(b.length - i):Nat):Int)<(b.length:Int)):=by omega
    simp only[cR,q1,decide_false,Bool.false_eq_true,if_false]
    rw[List.take_of_length_le (by rw[List.length_drop];omega)]
  rw[List.take_zero,List.append_nil]at this
  exact this
 have hl:(b.take i).length≤4096:=by rw[List.length_take];omega
 have w:IntKind.i64.wrap ((i:Int)+0)=(i:Int):=by rw[wrap_i64 (by omega) (by omega)];omega
 unfold dU gN
 rw[h1,Option.bind_some,if_pos (by omega),w,h2 _ (by rw[List.length_append];omega)]
 rfl
theorem aFT{l:List cV}(h:l.length≤100000)(b:Bool):dD l b l b=some true:=by
 have hL:iter (bU l l) ((0:Nat):Int)=some (.inl ()):=by
  refine fD (fun k=>((k:Nat):Int)) l.length (fun k hk=> ?_) ?_
  ·have q1:(k:Int)<(l.length:Int):=by omega
   have q2:0≤(k:Int):=by omega
   simp only[bU,q1,q2,and_self,decide_true,if_true,BEq.rfl,Bool.and_self,Bool.not_true,Bool.false_eq_true,if_false,bM (show k≤9000000000000000000 by omega)]
  ·have q1:¬((l.length:Int)<(l.length:Int)):=Int.lt_irrefl _
   simp only[bU,q1,decide_false,Bool.false_eq_true,if_false]
 have hL':iter (bU l l) (0:Int)=some (.inl ()):=hL
 unfold dD
 rw[hL']
 simp
theorem aAw{b b':Option Z1}(h:∀x,bA b x=bA b' x)(x c1 c2 c3 c4 c5 c6):eS b x c1 c2 c3 c4 c5 c6=eS b' x c1 c2 c3 c4 c5 c6:=by
 unfold eS
 rw[h]
theorem aIS{cl l:List cV}{o:List Int}{r:List cV}(h:fA cl o l=some r)(hl:l.length≤4096):r.length≤100000:=by
 unfold fA at h
 split at h
 ·cases h
  simp
 ·cases hi:iter (eD cl l) (([]:List cV),(0:Int))with
  | none=>rw[hi]at h;cases h
  | some q =>
   rw[hi]at h
   cases h
   have:=aH5 (body:=eD cl l) (fun z:List cV×Int=>0≤z.2∧z.2≤(l.length:Int)∧(z.1.length:Int)=z.2) (fun r=>r.length≤100000) (fun s y hs hy=> ?_) (fun s y hs hy=> ?_) (s:=([],0)) ⟨by simp,by simp,by simp⟩ hi
   ·exact this
   ·obtain⟨out,i⟩:=s
    obtain⟨h1,h2,h3⟩:=hs
    simp only at h1 h2 h3
    simp only[eD]at hy
    repeat' split at hy
    all_goals first | (cases hy;done) | skip
    rename_i hlt _ _ _ _
    cases hy
    have hlt':=of_decide_eq_true hlt
    have hw:IntKind.i64.wrap (i+1)=i+1:=wrap_i64 (by omega) (by omega)
    simp only[hw,List.length_append,List.length_singleton]
    omega
   ·obtain⟨out,i⟩:=s
    obtain⟨h1,h2,h3⟩:=hs
    simp only at h1 h2 h3
    simp only[eD]at hy
    repeat' split at hy
    all_goals first | (cases hy;omega) | cases hy
theorem aEQ{c:Wy}{x:List Int}{p:List cV×List Int}{kn:Kn}(h:FOk c x p kn)(hck:dZ c.1 c.2.1 c.2.2.1 c.2.2.2.1 c.2.2.2.2.1 c.2.2.2.2.2=some true){r:List cV}(hr:fA p.1 p.2 (LF p.1 p.2 c).1=some r):
  eS exB x c.1 c.2.1 c.2.2.1 c.2.2.2.1 c.2.2.2.2.1 c.2.2.2.2.2=some ((r,(LF p.1 p.2 c).2),0):=by
 have hc:=h.pm.cel (by have:=h.len;omega)
 unfold eS
 rw[hck,Option.bind_some,if_neg (by decide),h.para,Option.bind_some]
 simp only[bne_self_eq_false,Bool.false_eq_true,if_false]
 rw[X6 hc h.pm.opp h.pm.zero h.wy,Option.bind_some]
 have hr':fA p.1 p.2 (g6 p.1 p.2 c 0 (fB p.2 p.2.length)).1=some r:=hr
 simp only[hr',Option.bind_some]
 rfl
theorem aEx{w1 w2 w3 w4 w5:Int}(w6:Option Nat)(h1:0≤w1∧w1≤255)(h2:0≤w2∧w2≤255)(h3:0≤w3∧w3≤255)(h4:0≤w4∧w4≤65535)(h5:0≤w5∧w5≤65535){l m:List Int}(hl:∀i,0≤l.getD i 0∧l.getD i 0≤255)(hm:∀i,0≤m.getD i 0∧m.getD i 0≤255)(n:Int):
  eO w1 w2 w3 w4 w5 w6 l m n=some true:=by
 unfold eO
 simp only[aIy,Option.bind_some,Bool.not_true,Bool.false_eq_true,if_false]
 by_cases hx:(l.length:Int) > 100
 ·simp only[hx,decide_true,if_true,Option.bind_some]
 by_cases hy:(m.length:Int) > 100
 ·simp only[hx,hy,decide_true,decide_false,Bool.false_eq_true,if_true,if_false,Option.bind_some]
 simp only[hx,hy,decide_false,Bool.false_eq_true,if_false,Option.bind_some,aGT]
 obtain⟨b,e,hb⟩:=aH7
 obtain⟨t,ht,ht1,ht2⟩:=aCA (l:=l) (by omega) hl
 obtain⟨u,hu,hu1,hu2⟩:=aCA (l:=m) (by omega) hm
 obtain⟨k1,k2⟩:=aGm w6 h1 h2 h3 h4 h5
 simp only[e,ht,hu,k1,Option.bind_some,bne_self_eq_false,Bool.false_eq_true,if_false,List.nil_append,List.length_nil]
 generalize aAJ w1 w2 w3 w4 w5 w6=c at k2
 rw[if_pos (by omega)]
 have p1:IntKind.i64.wrap ((t.length:Int)+1)=((t.length+1:Nat):Int):=bM (by omega)
 have p2:IntKind.u64.wrap ((t.length+1:Nat):Int)=((t.length+1:Nat):Int):=by rw[aAK];omega
 have p3:0≤IntKind.u64.wrap n:=by rw[aAK];omega
 rw[p1,p2]
 obtain⟨i,hi,hi2⟩:∃i:Nat,IntKind.i64.wrap (Int.tmod (IntKind.u64.wrap n) ((t.length+1:Nat):Int))=(i:Int)∧i≤t.length:=by
  rw[Int.tmod_eq_emod_of_nonneg p3]
  have q1:=Int.emod_nonneg (IntKind.u64.wrap n) (show((t.length+1:Nat):Int)≠0 by omega)
  have q2:=Int.emod_lt_of_pos (IntKind.u64.wrap n) (show 0<((t.length+1:Nat):Int) by omega)
  rw[wrap_i64 (by omega) (by omega)]
  exact⟨(IntKind.u64.wrap n % ((t.length+1:Nat):Int)).toNat,by omega,by omega⟩
 rw[hi]
 have hnz:¬((t.length+1:Nat):Int)=0:=by omega
 obtain⟨v1,hv1⟩:=aEh (r:=t) (v:=t) rfl (by omega)
 obtain⟨v2,hv2⟩:=aEh (r:=u) (v:=u) rfl (by omega)
 have hv1':iter (gK t) (t,(0:Int))=some v1:=hv1
 have hsp:=aBn (b:=t) (ins:=u) (i:=i) (by omega) hi2 (by omega)
 rcases aLP hb (c:=c) ht1 (by omega)with⟨q1,-⟩ | ⟨-,⟨q3,-⟩ | ⟨q3,p,kn,q2,hf⟩⟩
 ·rw[k2]at q1;cases q1
 ·omega
 rw[q2]
 simp only[Option.bind_some,bne_self_eq_false,Bool.false_eq_true,if_false,hv1',hnz,not_false_eq_true,if_true,hsp]
 have x5:jP t (i:Int) 0 u=some (t.take i++u++t.drop (i+0),0):=aFS (x:=t) (e:=u) (i:=i) (d:=0) (by omega) (by omega) (by omega) (by omega)
 have x4:(t.take i++u++t.drop (i+0)).length≤4096:=by
  simp only[List.length_append,List.length_take,List.length_drop]
  omega
 have hB:=aBq ht1 hu1 i 0
 generalize hw:t.take i++u++t.drop (i+0)=sY at x4 x5 hB
 obtain⟨p',kn',y1,y2⟩:=aKN hb hB x4 (c:=c) hf.wy hf.kok (LF p.1 p.2 c).1 (LF p.1 p.2 c).2 t p.1 p.2 (some (C6 p.1 p.2 c))
 obtain⟨r,hr⟩:=aGn y2
 have hlay:=aEQ y2 k2 hr
 have hrl:=aIS hr (by
  have hc:=y2.pm.cel (by have:=y2.len;omega)
  have hl:=hc.1
  have ho:=y2.pm.opp.len
  have hpts:Pts p'.2 p'.1.length 0 (fB p'.2 p'.2.length):=by rw[tP];exact oB _ _ _ (by omega)
  have:=(wA c hpts).2
  unfold LF
  omega)
 have hed:dM (i:Int) 0 u (LF p.1 p.2 c).1 (LF p.1 p.2 c).2 b c.1 c.2.1 c.2.2.1 c.2.2.2.1 c.2.2.2.2.1 c.2.2.2.2.2 t p.1 p.2 (some (C6 p.1 p.2 c)) kn=some (0,(LF p'.1 p'.2 c).1,(LF p'.1 p'.2 c).2,sY,p'.1,p'.2,some (C6 p'.1 p'.2 c),kn'):=by
  unfold dM
  rw[x5,Option.bind_some]
  simp only[bne_self_eq_false,Bool.false_eq_true,if_false,y1,Option.bind_some]
 obtain⟨v3,hv3⟩:=aEh (r:=sY) (v:=sY) rfl (by omega)
 have hv3':iter (gE sY) (sY,(0:Int))=some v3:=hv3
 obtain⟨v4,hv4⟩:=aJF (r:=r) (v:=r) rfl hrl
 simp only[hed,Option.bind_some,bne_self_eq_false,Bool.false_eq_true,if_false,hv2]
 unfold eZ dW
 simp only[aCT (show sY.length≤100000 by omega),hr,Option.bind_some,hv3',hv4,aAw hb,hlay,BEq.rfl,if_true,aFT hrl]
theorem aD8{l:List Int}(h:Wf (.slice (.int .u8)) l):∀i,0≤l.getD i 0∧l.getD i 0≤255:=fun i=>by
 by_cases hi:i<l.length
 ·have:=h.2 i hi
  rw[mM hi]
  exact this
 ·rw[List.getD_eq_getElem?_getD,List.getElem?_eq_none (by omega)]
  simp
abbrev flowOwn_Ts:List Ty:=[(.prod (.int .u8) (.prod (.int .u8) (.prod (.int .u8) (.prod (.int .u16) (.prod (.int .u16) .flt))))),(.slice (.int .u8)),(.slice (.int .u8)),(.int .i64)]
theorem flowOwn_all(x:Tup flowOwn_Ts)(hx:WfT flowOwn_Ts x):eO x.1.1 x.1.2.1 x.1.2.2.1 x.1.2.2.2.1 x.1.2.2.2.2.1 x.1.2.2.2.2.2 x.2.1 x.2.2.1 x.2.2.2.1=some true :=
 aEx _ hx.1.1 hx.1.2.1 hx.1.2.2.1 hx.1.2.2.2.1 hx.1.2.2.2.2.1 (aD8 hx.2.1) (aD8 hx.2.2.1) _
end
end Go.Proofs.YtbedjpdfkmfplaaGreatDoor.T
