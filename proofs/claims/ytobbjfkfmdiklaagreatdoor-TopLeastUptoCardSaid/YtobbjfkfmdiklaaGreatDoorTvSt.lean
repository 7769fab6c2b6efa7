import Derived.Test.YtobbjfkfmdiklaaGreatDoorTvSj
namespace Go.Tv
open Go
def MW(P:Program)(d:TypeDesc):TK→Bool
 | .int k=>match d with | .int j=>j == k | _=>false
 | .bool=>match d with | .bool=>true | _=>false
 | .str=>match d with | .string=>true | _=>false
 | .flt=>match d with | .float .f64=>true | _=>false
 | .sl e=>match d with | .slice j=>j == e | _=>false
 | .mp k e=>match d with | .map i j=>i == k && j == e | _=>false
 | .ar n e=>match d with | .array i j=>i == n && j == e | _=>false
 | .st p=>match d with
  | .struct q=>q.toList.map (fun f=>(f.offset,f.type)) == p && q.toList.all (fun f=>match P.info? f.type with | some i=>i.size != 0 | none=>false)
  | _=>false
 | .other=>match d with | .struct _ | .array _ _=>false | _=>true
theorem KX{P:Program}{d:TypeDesc}{k:TK}(h:MW P d k=true):UK P d k:=by
 cases k <;> simp only[MW]at h
 all_goals split at h <;> simp only[Bool.false_eq_true,Bool.and_eq_true,beq_iff_eq,List.all_eq_true]at h
 all_goals first | (obtain⟨rfl,rfl⟩:=h;rfl) | (subst h;rfl) | rfl | skip
 ·rename_i j;refine⟨j,rfl,h.1,fun f p=>?_⟩;have:=h.2 f p;split at this
  ·rename_i i hi;exact⟨i,hi,by simpa using this⟩
  ·cases this
 ·simp only[UK]
def Nt(P:Program)(t:TypeId)(ti:TI):Bool :=
 MB P t ti.size ti.bytes && (match P.underlying t with | some d=>MW P d ti.k | none=>false) &&
 (((P.info? t).bind (·.zero)).map (fun z=>match z with | .agg _=>true | _=>false) == some ti.k.agg) && (ti.k.agg || ti.size == 1) &&
 (match ti.T with | some T=>T.size == ti.size && T.scalar == !ti.k.agg | none=>true)
theorem KE{P:Program}{tb:bQ}(h1:tb.all (fun p=>Nt P p.1 p.2)=true)(h2:tb.map (fun p=>MN P p.1)=tb.map (fun p=>some p.2.z))
  (A:tb.map (fun p=>p.2.T.map fun T=>(⟨T,iB T p.2.z⟩:Σ T:Ty,Option (T.den×List af)))=tb.map (fun p=>p.2.T.map fun T=>⟨T,some (T.zero,[])⟩)):cb P tb:=by
 intro p hp;have v:=List.all_eq_true.mp h1 p hp;have x:=List.map_inj_left.mp h2 p hp;have j:=List.map_inj_left.mp A p hp;obtain⟨t,ti⟩:=p;simp only[Nt,Bool.and_eq_true,beq_iff_eq,Bool.or_eq_true]at v x j;obtain⟨⟨⟨⟨B,u⟩,C⟩,f⟩,q⟩:=v;refine⟨L0 x B,?_,C,fun h=>?_,fun T hT=>?_⟩
 ·split at u
  ·rename_i d hd;exact⟨d,hd,KX u⟩
  ·cases u
 ·rcases f with f | f
  ·rw[f]at h;cases h
  ·exact f
 ·rw[hT]at q j;simp only[Bool.and_eq_true,beq_iff_eq]at q;simp only[Option.map_some,Option.some.injEq,Sigma.mk.injEq,heq_eq_eq,true_and]at j;exact⟨q.1,q.2,j⟩
end Go.Tv
