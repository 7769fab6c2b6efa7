import Derived.Test.YtobbjfkfmdiklaaGreatDoorTvSj
import Derived.Test.YtobbjfkfmdiklaaGreatDoorTvSdm
namespace Go.Tv
open Go
def Ny(P:Program)(d:TypeDesc):TK→Bool
 | .int k=>match d with | .int j=>j == k | _=>false
 | .bool=>match d with | .bool=>true | _=>false
 | .str=>match d with | .string=>true | _=>false
 | .flt=>match d with | .float .f64=>true | _=>false
 | .sl e=>match d with | .slice j=>j == e | _=>false
 | .mp k e=>match d with | .map i j=>i == k && j == e | _=>false
 | .ar n e=>match d with | .array i j=>i == n && j == e | _=>false
 | .st p=>match d with
  | .struct q=>q.toList.map (fun f=>(f.offset,f.type)) == p && q.toList.all (fun f=>match P.info? f.type with | some i=>i.size != 0 | none=>false)
  | _=>false
 | .other=>match d with | .struct _ | .array _ _=>false | _=>true
theorem Li{P:Program}{d:TypeDesc}{k:TK}(h:Ny P d k=true):UK P d k:=by
 cases k <;> simp only[Ny]at h
 all_goals split at h <;> simp only[Bool.false_eq_true,Bool.and_eq_true,beq_iff_eq,List.all_eq_true]at h
 all_goals first | (obtain⟨rfl,rfl⟩:=h;rfl) | (subst h;rfl) | rfl | skip
 ·rename_i j;refine⟨j,rfl,h.1,fun f hf=>?_⟩;have:=h.2 f hf;split at this
  ·rename_i i hi;exact⟨i,hi,by simpa using this⟩
  ·cases this
 ·simp only[UK]
def NL(P:Program)(t:TypeId)(ti:TI):Bool :=
 M4 P t ti.size ti.bytes && (match P.underlying t with | some d=>Ny P d ti.k | none=>false) &&
 (((P.info? t).bind (·.zero)).map (fun z=>match z with | .agg _=>true | _=>false) == some ti.k.agg) && (ti.k.agg || ti.size == 1) &&
 (match ti.T with | some T=>T.size == ti.size && T.scalar == !ti.k.agg | none=>true)
theorem Lx{P:Program}{tb:bT}(h1:tb.all (fun p=>NL P p.1 p.2)=true)(h2:tb.map (fun p=>Nu P p.1)=tb.map (fun p=>some p.2.z))
  (B:tb.map (fun p=>p.2.T.map fun T=>(⟨T,iD T p.2.z⟩:Σ T:Ty,Option (T.den×List ag)))=tb.map (fun p=>p.2.T.map fun T=>⟨T,some (T.zero,[])⟩)):bX P tb:=by
 intro p hp;have x:=List.all_eq_true.mp h1 p hp;have A:=List.map_inj_left.mp h2 p hp;have q:=List.map_inj_left.mp B p hp;obtain⟨t,ti⟩:=p;simp only[NL,Bool.and_eq_true,beq_iff_eq,Bool.or_eq_true]at x A q;obtain⟨⟨⟨⟨C,v⟩,D⟩,j⟩,u⟩:=x;refine⟨L8 A C,?_,D,fun h=>?_,fun T hT=>?_⟩
 ·split at v
  ·rename_i d hd;exact⟨d,hd,Li v⟩
  ·cases v
 ·rcases j with j | j
  ·rw[j]at h;cases h
  ·exact j
 ·rw[hT]at u q;simp only[Bool.and_eq_true,beq_iff_eq]at u;simp only[Option.map_some,Option.some.injEq,Sigma.mk.injEq,heq_eq_eq,true_and]at q;exact⟨u.1,u.2,q⟩
section
variable{P:Program}{f:FuncId}{fn:Func}(hf:P.funcs[f]? = some fn)(hname:(fn.name == "runtime.NumGoroutine")=false)(hb:fn.body.isNone=false){m:Nat}{r:QJ}(hm:cj m=r)
include hf hname hb hm
theorem Pure.Ng(h:∀w,Calls P f #[] w fun e w'=>e = .returned (.float .f64 m)∧w'=w):Pure P f [] (.p false .flt r):=by
 refine⟨⟨fn,hf,hname,hb⟩,fun Bw w z q B j=>?_⟩;match u:z.toList,j with
 | [],j =>
  have:z = #[]:=Array.ext' u;subst this;refine(h w).mono fun r w' ⟨h1,h2⟩=>⟨_,h1,by subst h2;exact(Kept.refl (jn q)).below,?_⟩
  simp only[V,ai];exact⟨rfl,_,rfl,hm⟩
theorem Pure.M0{β:Bool}{k:IntKind}{x:Int}(h:∀w,Calls P f #[.int k x] w fun e w'=>e = .returned (.float .f64 m)∧w'=w):Pure P f [.p β (.int k) x] (.p false .flt r):=by
 refine⟨⟨fn,hf,hname,hb⟩,fun Bw w z q B j=>?_⟩;match u:z.toList,j with
 | [v0],j =>
  have C:=bQ j.1;subst C;have:z = #[.int k x]:=Array.ext' u;subst this;refine(h w).mono fun r w' ⟨h1,h2⟩=>⟨_,h1,by subst h2;exact(Kept.refl (jn q)).below,?_⟩
  simp only[V,ai];exact⟨rfl,_,rfl,hm⟩
theorem Pure.MW{z B:Bool}{a b:Nat}(h:∀w,Calls P f #[.float .f64 a,.float .f64 b] w fun e w'=>e = .returned (.float .f64 m)∧w'=w):Pure P f [.p z .flt (some a),.p B .flt (some b)] (.p false .flt r):=by
 refine⟨⟨fn,hf,hname,hb⟩,fun Bw w E C I j=>?_⟩;match D:E.toList,j with
 | [v0,v1],j =>
  have q:=j.1;have u:=j.2.1;simp only[V,ai]at q u;obtain⟨-,J,q,L⟩:=q;obtain⟨-,M,u,N⟩:=u;have:=hJ L;have:=hJ N;subst q u;have:E = #[.float .f64 J,.float .f64 M]:=Array.ext' D;subst this;subst a b;refine(h w).mono fun r w' ⟨h1,h2⟩=>⟨_,h1,by subst h2;exact(Kept.refl (jn C)).below,?_⟩
  simp only[V,ai];exact⟨rfl,_,rfl,hm⟩
end
end Go.Tv
