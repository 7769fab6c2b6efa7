/- The types of a table, by one reckoning. -/
import Derived.Test.YtbedjpdfkmfplaaGreatDoorTvSj
namespace Go.Tv
open Go
def ukB(P:Program)(d:TypeDesc):TK→Bool
 | .int k=>match d with | .int j=>j == k | _=>false
 | .bool=>match d with | .bool=>true | _=>false
 | .str=>match d with | .string=>true | _=>false
 | .flt=>match d with | .float .f64=>true | _=>false
 | .sl e=>match d with | .slice j=>j == e | _=>false
 | .mp k e=>match d with | .map i j=>i == k && j == e | _=>false
 | .ar n e=>match d with | .array i j=>i == n && j == e | _=>false
 | .st offs=>match d with
  | .struct fs=>fs.toList.map (fun f=>(f.offset,f.type)) == offs && fs.toList.all (fun f=>match P.info? f.type with | some i=>i.size != 0 | none=>false)
  | _=>false
 | .other=>match d with | .struct _ | .array _ _=>false | _=>true
theorem aJP{P:Program}{d:TypeDesc}{k:TK}(h:ukB P d k=true):UK P d k:=by
 cases k <;> simp only[ukB]at h
 all_goals split at h <;> simp only[Bool.false_eq_true,Bool.and_eq_true,beq_iff_eq,List.all_eq_true]at h
 all_goals first | (obtain⟨rfl,rfl⟩:=h;rfl) | (subst h;rfl) | rfl | skip
 ·rename_i fs
  refine⟨fs,rfl,h.1,fun f hf=> ?_⟩
  have:=h.2 f hf
  split at this
  ·rename_i i hi
   exact⟨i,hi,by simpa using this⟩
  ·cases this
 ·simp only[UK]
def tiB(P:Program)(t:TypeId)(ti:TI):Bool :=
 hiB P t ti.size ti.bytes && (match P.underlying t with | some d=>ukB P d ti.k | none=>false) &&
 (((P.info? t).bind (·.zero)).map (fun z=>match z with | .agg _=>true | _=>false) == some ti.k.agg) && (ti.k.agg || ti.size == 1) &&
 (match ti.T with | some T=>T.size == ti.size && T.scalar == !ti.k.agg | none=>true)
theorem aJ6{P:Program}{tb:Tab}(h1:tb.all (fun p=>tiB P p.1 p.2)=true)(h2:tb.map (fun p=>zOf P p.1)=tb.map (fun p=>some p.2.z))
  (h3:tb.map (fun p=>p.2.T.map fun T=>(⟨T,jM T p.2.z⟩:Σ T:Ty,Option (T.den×List AVal)))=tb.map (fun p=>p.2.T.map fun T=>⟨T,some (T.zero,[])⟩)):TabOK P tb:=by
 intro p hp
 have a1:=List.all_eq_true.mp h1 p hp
 have a2:=List.map_inj_left.mp h2 p hp
 have a3:=List.map_inj_left.mp h3 p hp
 obtain⟨t,ti⟩:=p
 simp only[tiB,Bool.and_eq_true,beq_iff_eq,Bool.or_eq_true]at a1 a2 a3
 obtain⟨⟨⟨⟨b1,b2⟩,b3⟩,b4⟩,b5⟩:=a1
 refine⟨aKQ a2 b1,?_,b3,fun h=> ?_,fun T hT=> ?_⟩
 ·split at b2
  ·rename_i d hd
   exact⟨d,hd,aJP b2⟩
  ·cases b2
 ·rcases b4 with b4 | b4
  ·rw[b4]at h;cases h
  ·exact b4
 ·rw[hT]at b5 a3
  simp only[Bool.and_eq_true,beq_iff_eq]at b5
  simp only[Option.map_some,Option.some.injEq,Sigma.mk.injEq,heq_eq_eq,true_and]at a3
  exact⟨b5.1,b5.2,a3⟩
end Go.Tv
