import Derived.Test.YtmcemnfjddoejaaGreatDoorTvSj
namespace Go.Tv
open Go
def Oz(P:Program)(d:TypeDesc):TK→Bool
 | .int k=>match d with | .int j=>j == k | _=>false
 | .bool=>match d with | .bool=>true | _=>false
 | .str=>match d with | .string=>true | _=>false
 | .flt=>match d with | .float .f64=>true | _=>false
 | .sl e=>match d with | .slice j=>j == e | _=>false
 | .mp k e=>match d with | .map i j=>i == k && j == e | _=>false
 | .ar n e=>match d with | .array i j=>i == n && j == e | _=>false
 | .st c=>match d with
  | .struct p=>p.toList.map (fun f=>(f.offset,f.type)) == c && p.toList.all (fun f=>match P.info? f.type with | some i=>i.size != 0 | none=>false)
  | _=>false
 | .other=>match d with | .struct _ | .array _ _=>false | _=>true
theorem LL{P:Program}{d:TypeDesc}{k:TK}(h:Oz P d k=true):UK P d k:=by
 cases k <;> simp only[Oz]at h
 all_goals split at h <;> simp only[Bool.false_eq_true,Bool.and_eq_true,beq_iff_eq,List.all_eq_true]at h
 all_goals first | (obtain⟨rfl,rfl⟩:=h;rfl) | (subst h;rfl) | rfl | skip
 ·rename_i c;refine⟨c,rfl,h.1,fun f e=>?_⟩;have:=h.2 f e;split at this
  ·rename_i i hi;exact⟨i,hi,by simpa using this⟩
  ·cases this
 ·simp only[UK]
def ON(P:Program)(t:TypeId)(ti:TI):Bool :=
 Ox P t ti.size ti.bytes && (match P.underlying t with | some d=>Oz P d ti.k | none=>false) &&
 (((P.info? t).bind (·.zero)).map (fun z=>match z with | .agg _=>true | _=>false) == some ti.k.agg) && (ti.k.agg || ti.size == 1) &&
 (match ti.T with | some T=>T.size == ti.size && T.scalar == !ti.k.agg | none=>true)
theorem LC{P:Program}{tb:bP}(x:tb.all (fun p=>ON P p.1 p.2)=true)(A:tb.map (fun p=>N2 P p.1)=tb.map (fun p=>some p.2.z))
  (B:tb.map (fun p=>p.2.T.map fun T=>(⟨T,ix T p.2.z⟩:Σ T:Ty,Option (T.den×List ag)))=tb.map (fun p=>p.2.T.map fun T=>⟨T,some (T.zero,[])⟩)):bV P tb:=by
 intro p j;have u:=List.all_eq_true.mp x p j;have v:=List.map_inj_left.mp A p j;have e:=List.map_inj_left.mp B p j;obtain⟨t,ti⟩:=p;simp only[ON,Bool.and_eq_true,beq_iff_eq,Bool.or_eq_true]at u v e;obtain⟨⟨⟨⟨C,q⟩,D⟩,c⟩,f⟩:=u;refine⟨MO v C,?_,D,fun h=>?_,fun T hT=>?_⟩
 ·split at q
  ·rename_i d hd;exact⟨d,hd,LL q⟩
  ·cases q
 ·rcases c with c | c
  ·rw[c]at h;cases h
  ·exact c
 ·rw[hT]at f e;simp only[Bool.and_eq_true,beq_iff_eq]at f;simp only[Option.map_some,Option.some.injEq,Sigma.mk.injEq,heq_eq_eq,true_and]at e;exact⟨f.1,f.2,e⟩
end Go.Tv
