/- A law's arguments, as data. -/
import Derived.Test.YtflahpmlcfhpcaaGreatDoorTvS
import Derived.ProofKit
import Derived.OpenShut
import Derived.SizedLaws
namespace Go.Tv
open Go Go.RowKit
def uX(P:Program):Nat→TypeId→Option Ty
 | 0,_=>none
 | n+1,t=>match P.underlying t with
  | some .bool=>some .bool
  | some (.int k)=>some (.int k)
  | some .string=>some .str
  | some (.float .f64)=>some .flt
  | some (.slice e)=>match uX P n e with
   | some A=>if P.cellsOf e=A.size∧0<A.size then some (.slice A)else none
   | none=>none
  | some (.struct fs)=>match fs.toList.mapM (fun f=>uX P n f.type)with
   | some Ts=>if hH P 0 fs.toList Ts=true∧P.cellsOf t=(fA Ts).size∧Ts≠[]then some (fA Ts)else none
   | none=>none
  | _=>none
def Wf:(T:Ty)→T.den→Prop
 | .int k,n=>k.min≤(show Int from n)∧(show Int from n)≤k.max
 | .bool,_=>True
 | .str,s=>List.length (α:=UInt8) s≤maxLen
 | .flt,n=>∀m:Nat,(show Option Nat from n)=some m→m<18446744073709551616∧dS m=some m
 | .unit,_=>True
 | .prod a b,x=>Wf a x.1∧Wf b x.2
 | .slice A,xs=>List.length (α:=A.den) xs≤maxLen∧∀i (h:i<List.length (α:=A.den) xs),Wf A xs[i]
 | .ptr _,_=>True
 | .tree _ _,_=>True
 | .arr _ _,_=>True
 | .mapi _ _,_=>True
section
variable{H:Type}{enc':TypeId×Value→H}{P:Program}{w:World}{sp:Nat→Bool}{held:Bool}
theorem build{A:Ty}{p:Nat→A.den→Prop}:∀(n:Nat),(∀i,i<n→∃x,p i x)→∃xs:List A.den,xs.length=n∧∀i (h:i<xs.length),p i xs[i]
 | 0,_=>⟨[],rfl,fun i h=>absurd h (by simp)⟩
 | n+1,h=>by
  obtain⟨xs,h1,h2⟩:=build n fun i hi=>h i (by omega)
  obtain⟨x,hx⟩:=h n (by omega)
  refine⟨xs++[x],by simp[h1],fun i hi=> ?_⟩
  simp only[List.length_append,List.length_cons,List.length_nil]at hi
  rcases Nat.lt_or_ge i xs.length with h3 | h3
  ·rw[List.getElem_append_left h3];exact h2 i h3
  ·obtain rfl:i=n:=by omega
   have e:(xs++[x])[i]'(by simp;omega)=x:=by
    rw[List.getElem_append_right (by omega)]
    simp[h1]
   rw[e];exact hx
def Reads(w:World)(T:Ty)(cs:List Value)(x:T.den):Prop:=Vcells (fun a v=>w.cell? a=some v) T x (fun k v=>cs[k]? = some v)∧Wf T x
theorem aAI{base:Nat}{a:Addr}{n:Nat}{cs:List Value}(h:w.cells? base a n=some cs):cs.length=n∧∀k v,cs[k]? = some v→w.cell? (a.add k)=some v:=by
 unfold World.cells? at h
 split at h
 ·obtain⟨h1,h2⟩:=mR h
  simp only[List.length_range]at h1
  refine⟨h1,fun k v hk=> ?_⟩
  have hlt:k<n:=by rw[←h1];exact(List.getElem?_eq_some_iff.1 hk).1
  obtain⟨y,q1,q2⟩:=h2 k k (by simp[hlt])
  rw[hk]at q1
  cases q1
  exact q2
 ·cases h
theorem Reads.cut{T:Ty}{cs:List Value}{off n:Nat}{x:T.den}(h:Reads w T ((cs.drop off).take n) x):Vcells (fun a v=>w.cell? a=some v) T x (fun k v=>cs[off+k]? = some v)∧Wf T x :=
 ⟨Vcells.mono (fun _ _ h=>h) (fun k v hk=>by
  rw[List.getElem?_take]at hk
  split at hk
  ·simpa using hk
  ·cases hk) h.1,h.2⟩
theorem D7{cs:List Value}:∀(fs:List Field) (Ts:List Ty) (off:Nat),hH P off fs Ts=true→fs.length=Ts.length →
  (∀(i:Nat) f T,fs[i]? = some f→Ts[i]? = some T→∃x:T.den,Reads w T ((cs.drop f.offset).take (P.cellsOf f.type)) x) →
  ∀T0,(∃x:T0.den,Vcells (fun a v=>w.cell? a=some v) T0 x (fun k v=>cs[off - T0.size+k]? = some v)∧Wf T0 x)→T0.size≤off →
  ∃x:(gL T0 Ts).den,Vcells (fun a v=>w.cell? a=some v) (gL T0 Ts) x (fun k v=>cs[off - T0.size+k]? = some v)∧Wf (gL T0 Ts) x
 | [],[],off,_,_,_,T0,h0,_=>h0
 | [],_::_,_,_,hl,_,_,_,_=>by simp at hl
 | _::_,[],_,_,hl,_,_,_,_=>by simp at hl
 | f::fs,T::Ts,off,ho,hl,hf,T0,⟨x0,h0,w0⟩,hle=>by
  simp only[hH,Bool.and_eq_true,beq_iff_eq]at ho
  obtain⟨⟨h1,h2⟩,h3⟩:=ho
  obtain⟨y,hy⟩:=hf 0 f T rfl rfl
  have hy':=hy.cut
  rw[h1]at hy'
  obtain⟨z,hz,wz⟩:=D7 fs Ts (off+T.size) h3 (by simpa using hl) (fun i f' T' a b=>hf (i+1) f' T' (by simpa using a) (by simpa using b)) T ⟨y,by
   rw[Nat.add_sub_cancel];exact hy'.1,hy'.2⟩ (Nat.le_add_left _ _)
  refine⟨(x0,z),⟨h0,?_⟩,w0,wz⟩
  refine Vcells.mono (fun _ _ h=>h) (fun k v hk=> ?_) hz
  rw[Nat.add_sub_cancel]at hk
  show cs[off - T0.size+(T0.size+k)]? = some v
  rwa [show off - T0.size+(T0.size+k)=off+k by omega]
theorem R7{cs:List Value}(fs:List Field)(Ts:List Ty)(ho:hH P 0 fs Ts=true)(hl:fs.length=Ts.length)(hne:Ts≠[])
  (hf:∀(i:Nat) f T,fs[i]? = some f→Ts[i]? = some T→∃x:T.den,Reads w T ((cs.drop f.offset).take (P.cellsOf f.type)) x):∃x:(fA Ts).den,Reads w (fA Ts) cs x:=by
 match fs,Ts with
 | [],[]=>exact absurd rfl hne
 | [],_::_=>simp at hl
 | _::_,[]=>simp at hl
 | f::fs,T::Ts =>
  simp only[hH,Bool.and_eq_true,beq_iff_eq]at ho
  obtain⟨⟨h1,h2⟩,h3⟩:=ho
  obtain⟨y,hy⟩:=hf 0 f T rfl rfl
  have hy':=hy.cut
  rw[h1]at hy'
  obtain⟨z,hz,wz⟩:=D7 fs Ts (0+T.size) h3 (by simpa using hl) (fun i f' T' a b=>hf (i+1) f' T' (by simpa using a) (by simpa using b)) T ⟨y,by
   rw[Nat.add_sub_cancel];exact hy'.1,hy'.2⟩ (Nat.le_add_left _ _)
  have hz':Vcells (fun a v=>w.cell? a=some v) (gL T Ts) z (fun k v=>cs[k]? = some v):=Vcells.mono (fun _ _ h=>h) (fun k v hk=>by
   rwa [Nat.add_sub_cancel,Nat.zero_add]at hk) hz
  cases Ts with
  | nil=>exact⟨(z,()),⟨hz',trivial⟩,wz,trivial⟩
  | cons b r=>exact⟨z,hz',wz⟩
theorem Q5:∀(n:Nat) (t:TypeId) (T:Ty),uX P n t=some T→∀(fuel:Nat) (cs:List Value) (r:DataW H×List MemPlace),DataW.trod enc' P w 0 sp held fuel t cs=some r→(∃x:T.den,Reads w T cs x)∧cs.length=T.size
 | 0,_,_,h,_,_,_,_=>by simp[uX]at h
 | n+1,t,T,h,0,cs,r,hr=>by simp[DataW.trod]at hr
 | n+1,t,T,h,fuel+1,cs,r,hr=>by
  have ih:=Q5 n
  simp only[uX]at h
  unfold DataW.trod at hr
  split at h
  ·rename_i hu
   cases h
   rw[hu]at hr
   split at hr <;> first | (exfalso;simp_all;done) | skip
   rename_i b _
   exact⟨⟨b,by simp[Vcells],trivial⟩,rfl⟩
  ·rename_i k hu
   cases h
   rw[hu]at hr
   split at hr <;> first | (exfalso;simp_all;done) | skip
   rename_i k1 k2 i e
   cases e
   split at hr
   ·rename_i hk
    obtain⟨rfl,hw⟩:=hk
    refine⟨⟨i,by simp[Vcells],?_⟩,rfl⟩
    simp only[Lit.wf,Bool.and_eq_true,decide_eq_true_eq]at hw
    exact hw
   ·cases hr
  ·rename_i hu
   cases h
   rw[hu]at hr
   split at hr <;> first | (exfalso;simp_all;done) | skip
   rename_i s e
   split at hr
   ·rename_i hs
    refine⟨⟨s.data.toList,by simp[Vcells],?_⟩,rfl⟩
    show s.data.toList.length≤maxLen
    have e:s.data.toList.length=s.size:=Array.length_toList
    rw[e]
    exact hs
   ·cases hr
  ·rename_i hu
   cases h
   rw[hu]at hr
   split at hr <;> first | (exfalso;simp_all;done) | skip
   rename_i k1 k2 i e
   cases e
   split at hr
   ·rename_i hk
    obtain⟨rfl,hw⟩:=hk
    refine⟨⟨dS i,by simp[Vcells],fun m hm=> ?_⟩,rfl⟩
    have hw2:i<18446744073709551616:=by simpa [Lit.wf]using hw
    have e:=mK hm
    subst e
    exact⟨hw2,hm⟩
   ·cases hr
  ·rename_i e hu
   split at h
   ·rename_i A hA
    split at h
    ·rename_i hsz
     cases h
     rw[hu]at hr
     split at hr <;> first | (exfalso;simp_all;done) | skip
     ·exact⟨⟨[],⟨none,0,0,rfl,⟨rfl,Nat.le_refl _⟩,fun i hi=>absurd hi (by simp)⟩,Nat.zero_le _,fun i hi=>absurd hi (by simp)⟩,rfl⟩
     ·rename_i e' a len cap q
      cases q
      simp only at hr
      split at hr
      ·rename_i hb
       simp only[Option.bind_eq_some_iff]at hr
       obtain⟨elems,he,_⟩:=hr
       obtain⟨g1,g2⟩:=mR he
       simp only[List.length_range]at g1
       obtain⟨xs,hx1,hx2⟩:=build (A:=A) (p:=fun i x=>Vcells (fun a v=>w.cell? a=some v) A x (fun k v=>w.cell? (a.add (i*A.size+k))=some v)∧Wf A x) len fun i hi=>by
        obtain⟨y,_,q2⟩:=g2 i i (by simp[hi])
        simp only[Option.bind_eq_some_iff]at q2
        obtain⟨cs,q3,q4⟩:=q2
        obtain⟨s1,s2⟩:=aAI q3
        obtain⟨⟨x,t1,t2⟩,_⟩:=ih e A hA fuel cs y q4
        refine⟨x,Vcells.mono (fun _ _ h=>h) (fun k v hk=> ?_) t1,t2⟩
        have:=s2 k v hk
        rw[j1]at this
        rw[hsz.1]at this
        exact this
       refine⟨⟨xs,⟨some a,len,cap,rfl,⟨hx1.symm,hb.2.1⟩,fun i hi=>⟨a,rfl,(hx2 i hi).1⟩⟩,?_,fun i hi=>(hx2 i hi).2⟩,rfl⟩
       show xs.length≤maxLen
       rw[hx1]
       exact Nat.le_trans hb.2.1 hb.2.2
      ·cases hr
    ·cases h
   ·cases h
  ·rename_i fs hu
   split at h
   ·rename_i Ts hTs
    split at h
    ·rename_i hc
     obtain⟨hc1,hc2,hc3⟩:=hc
     cases h
     rw[hu]at hr
     split at hr <;> first | (exfalso;simp_all;done) | skip
     rename_i fs' _ _ q
     cases q
     split at hr
     ·rename_i hlen
      simp only[Option.map_eq_some_iff]at hr
      obtain⟨xs,hxs,_⟩:=hr
      obtain⟨g1,g2⟩:=mR hxs
      obtain⟨k1,k2⟩:=mR hTs
      refine⟨R7 fs.toList Ts hc1 k1.symm hc3 fun i f T hf hT=> ?_,by rw[hlen,hc2]⟩
      obtain⟨T',q1,q2⟩:=k2 i f hf
      rw[hT]at q1
      cases q1
      obtain⟨y,_,q3⟩:=g2 i f hf
      exact(ih f.type T q2 fuel _ y q3).1
     ·cases hr
    ·cases h
   ·cases h
  ·cases h
end
end Go.Tv
