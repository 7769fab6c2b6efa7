import Derived.Test.YtbedjpdfkmfplaaGreatDoorTvSj
namespace Go.Tv
open Go
def Oo(P:Program)(d:TypeDesc):TK→Bool
 | .int k=>match d with | .int j=>j == k | _=>false
 | .bool=>match d with | .bool=>true | _=>false
 | .str=>match d with | .string=>true | _=>false
 | .flt=>match d with | .float .f64=>true | _=>false
 | .sl e=>match d with | .slice j=>j == e | _=>false
 | .mp k e=>match d with | .map i j=>i == k && j == e | _=>false
 | .ar n e=>match d with | .array i j=>i == n && j == e | _=>false
 | .st q=>match d with
  | .struct u=>u.toList.map (fun f=>(f.offset,f.type)) == q && u.toList.all (fun f=>match P.info? f.type with | some i=>i.size != 0 | none=>false)
  | _=>false
 | .other=>match d with | .struct _ | .array _ _=>false | _=>true
theorem L9{P:Program}{d:TypeDesc}{k:TK}(h:Oo P d k=true):UK P d k:=by
 cases k <;> simp only[Oo]at h
 all_goals split at h <;> simp only[Bool.false_eq_true,Bool.and_eq_true,beq_iff_eq,List.all_eq_true]at h
 all_goals first | (obtain⟨rfl,rfl⟩:=h;rfl) | (subst h;rfl) | rfl | skip
 ·rename_i e;refine⟨e,rfl,h.1,fun f j=>?_⟩;have:=h.2 f j;split at this
  ·rename_i i hi;exact⟨i,hi,by simpa using this⟩
  ·cases this
 ·simp only[UK]
def OX(P:Program)(t:TypeId)(ti:TI):Bool :=
 Oa P t ti.size ti.bytes && (match P.underlying t with | some d=>Oo P d ti.k | none=>false) &&
 (((P.info? t).bind (·.zero)).map (fun z=>match z with | .agg _=>true | _=>false) == some ti.k.agg) && (ti.k.agg || ti.size == 1) &&
 (match ti.T with | some T=>T.size == ti.size && T.scalar == !ti.k.agg | none=>true)
theorem Lr{P:Program}{tb:bQ}(B:tb.all (fun p=>OX P p.1 p.2)=true)(C:tb.map (fun p=>OC P p.1)=tb.map (fun p=>some p.2.z))
  (D:tb.map (fun p=>p.2.T.map fun T=>(⟨T,iO T p.2.z⟩:Σ T:Ty,Option (T.den×List ag)))=tb.map (fun p=>p.2.T.map fun T=>⟨T,some (T.zero,[])⟩)):bY P tb:=by
 intro p q;have v:=List.all_eq_true.mp B p q;have A:=List.map_inj_left.mp C p q;have f:=List.map_inj_left.mp D p q;obtain⟨t,ti⟩:=p;simp only[OX,Bool.and_eq_true,beq_iff_eq,Bool.or_eq_true]at v A f;obtain⟨⟨⟨⟨E,u⟩,I⟩,e⟩,j⟩:=v;refine⟨NI A E,?_,I,fun h=>?_,fun T hT=>?_⟩
 ·split at u
  ·rename_i d hd;exact⟨d,hd,L9 u⟩
  ·cases u
 ·rcases e with e | e
  ·rw[e]at h;cases h
  ·exact e
 ·rw[hT]at j f;simp only[Bool.and_eq_true,beq_iff_eq]at j;simp only[Option.map_some,Option.some.injEq,Sigma.mk.injEq,heq_eq_eq,true_and]at f;exact⟨j.1,j.2,f⟩
end Go.Tv
