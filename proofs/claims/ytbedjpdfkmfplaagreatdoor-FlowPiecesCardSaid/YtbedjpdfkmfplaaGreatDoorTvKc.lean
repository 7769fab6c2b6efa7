import Derived.Test.YtbedjpdfkmfplaaGreatDoorTvKam
import Derived.MapKept
import Derived.ChangeKeysEq
namespace Go.Tv
open Go Go.RowKit
open Go.MapKept (IsKey findNow_spec run_checkKey run_findKey run_setObj_map heap_set run_keyThatStays modify_keys)
def eD:(K:Ty)→K.den→K.den→Bool
 | .int _,a,b=> @BEq.beq Int _ a b
 | .bool,a,b=> @BEq.beq Bool _ a b
 | .str,a,b=> @BEq.beq QX _ a b
 | .unit,_,_=>true
 | .prod A B,a,b=>eD A a.1 b.1 && eD B a.2 b.2
 | .arr _ _,a,b=>JN a b
 | _,_,_=>false
theorem fQ:∀ {K:Ty} {a b:K.den},K.isKey=true→(eD K a b=true↔a=b)
 | .int _,a,b,_=>by
  show(@BEq.beq Int _ a b)=true↔a=b;exact beq_iff_eq
 | .bool,a,b,_=>by
  show(@BEq.beq Bool _ a b)=true↔a=b;exact beq_iff_eq
 | .str,a,b,_=>by
  show(@BEq.beq QX _ a b)=true↔a=b;exact beq_iff_eq
 | .flt,_,_,h=>by cases h
 | .unit,_,_,_=>⟨fun _=>rfl,fun _=>rfl⟩
 | .prod A B,a,b,h=>by
  simp only[Ty.isKey,Bool.and_eq_true]at h;simp only[eD,Bool.and_eq_true,fQ h.1,fQ h.2];exact⟨fun e=>Prod.ext e.1 e.2,fun e=>by rw[e];exact⟨rfl,rfl⟩⟩
 | .slice _,_,_,h=>by cases h
 | .ptr _,_,_,h=>by cases h
 | .tree _ _,_,_,h=>by cases h
 | .mapi _ _,_,_,h=>by cases h
 | .arr _ _,a,b,_=>by
  show(a.1 == b.1)=true↔a=b;rw[beq_iff_eq];exact⟨Subtype.ext,fun e=>by rw[e]⟩
theorem dT:∀ {K:Ty} {a:K.den},K.isKey=true→(cR K a).length=K.size
 | .int _,_,_=>rfl
 | .bool,_,_=>rfl
 | .str,_,_=>rfl
 | .flt,_,h=>by cases h
 | .unit,_,_=>rfl
 | .prod A B,a,h=>by
  simp_all [Ty.isKey,Bool.and_eq_true,cR,Ty.size,List.length_append,dT]
 | .slice _,_,h=>by cases h
 | .ptr _,_,h=>by cases h
 | .tree _ _,_,h=>by cases h
 | .mapi _ _,_,h=>by cases h
 | .arr _ _,a,_=>by simp[cR,Ty.size,a.2]
theorem ju:∀ {K:Ty} {a b:K.den},K.isKey=true→cR K a=cR K b→a=b
 | .int _,a,b,_,h=>by simpa [cR]using h
 | .bool,a,b,_,h=>by simpa [cR]using h
 | .str,a,b,_,h=>by simpa [cR]using h
 | .flt,_,_,h,_=>by cases h
 | .unit,_,_,_,_=>rfl
 | .prod A B,a,b,h,e=>by
  simp only[Ty.isKey,Bool.and_eq_true]at h;simp only[cR]at e;obtain⟨f,j⟩:=List.append_inj e (by rw[dT h.1,dT h.1]);exact Prod.ext (ju h.1 f) (ju h.2 j)
 | .slice _,_,_,h,_=>by cases h
 | .ptr _,_,_,h,_=>by cases h
 | .tree _ _,_,_,h,_=>by cases h
 | .mapi _ _,_,_,h,_=>by cases h
 | .arr k _,a,b,_,e=>by
  grind (splits:=6) (ematch:=4) [cR,List.map_inj_right]
theorem gm:∀ {K:Ty} {a b:K.den},K.isKey=true→aP K a=aP K b→a=b
 | .int _,a,b,_,h=>by simpa [aP]using h
 | .bool,a,b,_,h=>by simpa [aP]using h
 | .str,a,b,_,h=>by simpa [aP]using h
 | .flt,_,_,h,_=>by cases h
 | .unit,_,_,_,_=>rfl
 | .prod A B,a,b,h,e=>by
  grind (splits:=6) (ematch:=4) [aP,ju,List.toArray_inj]
 | .slice _,_,_,h,_=>by cases h
 | .ptr _,_,_,h,_=>by cases h
 | .tree _ _,_,_,h,_=>by cases h
 | .mapi _ _,_,_,h,_=>by cases h
 | .arr _ _,a,b,h,e=>by
  grind (splits:=6) (ematch:=4) [aP,ju,List.toArray_inj]
def JU:TK→Option Ty
 | .int k=>some (.int k)
 | .bool=>some .bool
 | .str=>some .str
 | _=>none
theorem JJ{k:TK}{K:Ty}(h:JU k=some K):K.isKey=true:=by cases k <;> cases h <;> rfl
theorem Ba{P:Program}{d:TypeDesc}{k:TK}{K:Ty}(h:JU k=some K)(hd:UK P d k)(x:K.den):IsKey d (aP K x):=by
 cases k <;> cases h <;> simp only[UK]at hd <;> subst hd <;> simp[IsKey,aP]
theorem nS{F:Bool→Addr→Value→Prop}{ρ:Nat→QW}{β:Bool}:∀ {K:Ty} {x:K.den} {v:Value},K.isKey=true→K.scalar=true→V F ρ (.p β K x) v→v=aP K x
 | .int _,_,_,_,_,h=>bR h
 | .bool,_,_,_,_,h=>kL h
 | .str,_,_,_,_,h=>pQ h
 | .flt,_,_,h,_,_=>by cases h
 | .unit,_,_,_,h,_=>by cases h
 | .prod _ _,_,_,_,h,_=>by cases h
 | .slice _,_,_,h,_,_=>by cases h
 | .ptr _,_,_,h,_,_=>by cases h
 | .tree _ _,_,_,h,_,_=>by cases h
 | .mapi _ _,_,_,h,_,_=>by cases h
 | .arr _ _,_,_,_,h,_=>by cases h
theorem kJ{F:Addr→Value→Prop}:∀ {K:Ty} {x:K.den} {l:QY} {o:Nat},K.isKey=true→ai F K x (fun k u=>l[o+k]? = some u)→∀k,k<K.size→l[o+k]? = (cR K x)[k]?
 | .int _,_,_,_,_,h,k,hk=>by
  obtain rfl:k=0:=by simp only[Ty.size]at hk;omega
  simp only[ai]at h;rw[h];rfl
 | .bool,_,_,_,_,h,k,hk=>by
  obtain rfl:k=0:=by simp only[Ty.size]at hk;omega
  simp only[ai]at h;rw[h];rfl
 | .str,_,_,_,_,h,k,hk=>by
  obtain rfl:k=0:=by simp only[Ty.size]at hk;omega
  simp only[ai]at h;rw[h];rfl
 | .flt,_,_,_,h,_,_,_=>by cases h
 | .unit,_,_,_,_,_,k,hk=>by simp only[Ty.size]at hk;omega
 | .prod A B,x,l,o,h,e,k,hk=>by
  simp only[Ty.isKey,Bool.and_eq_true]at h;simp only[ai]at e;simp only[Ty.size]at hk;simp only[cR];rcases Nat.lt_or_ge k A.size with f | f
  ·rw[List.getElem?_append_left (by rw[dT h.1];exact f)];exact kJ h.1 e.1 k f
  ·rw[List.getElem?_append_right (by rw[dT h.1];exact f),dT h.1];have:=kJ (o:=o+A.size) h.2 (ai.mono (fun _ _ h=>h) (fun k u hk=>by rw[Nat.add_assoc];exact hk) e.2) (k - A.size) (by omega);rw[←this];congr 1;omega
 | .slice _,_,_,_,h,_,_,_=>by cases h
 | .ptr _,_,_,_,h,_,_,_=>by cases h
 | .tree _ _,_,_,_,h,_,_,_=>by cases h
 | .mapi _ _,_,_,_,h,_,_,_=>by cases h
 | .arr j _,x,l,o,_,e,k,hk=>by
  have hl:k<x.1.length:=by rw[x.2];exact hk
  simp only[ai]at e;rw[e k hl];simp[cR,hl]
theorem jO:∀ {K:Ty} {x:K.den},K.isKey=true→K.scalar=false→aP K x = .agg (cR K x).toArray
 | .int _,_,_,h=>by cases h
 | .bool,_,_,h=>by cases h
 | .str,_,_,h=>by cases h
 | .flt,_,h,_=>by cases h
 | .unit,_,_,_=>rfl
 | .prod _ _,_,_,_=>rfl
 | .slice _,_,h,_=>by cases h
 | .ptr _,_,h,_=>by cases h
 | .tree _ _,_,h,_=>by cases h
 | .mapi _ _,_,h,_=>by cases h
 | .arr _ _,_,_,_=>rfl
structure fU(P:Program)(kt:TypeId)(K:Ty):Prop where
 isKey:K.isKey=true
 check:∀(e:Bool) (k:K.den) (w:World),(Instr.checkKey e 10000 kt (aP K k)).run P w = .ok () w
 find:∀(k:K.den) (l:List MapEntry) (ks:List K.den) (w:World),l.map (·.key)=ks.map (aP K) →
  ((Instr.findKey kt (aP K k) l).run P w = .ok none w∧∀x∈l,x.key≠aP K k) ∨
  ∃j e,(Instr.findKey kt (aP K k) l).run P w = .ok (some (j,e.val)) w∧l[j]? = some e∧e.key=aP K k
 stays:∀(k:K.den) (w:World),(Instr.keyThatStays (aP K k) (aP K k)).run P w = .ok (aP K k) w
theorem fU.zL{P:Program}{E:TypeId}{I:TI}(B:aO P E I){K:Ty}(f:JU I.k=some K):fU P E K:=by
 obtain⟨d,hd,q⟩:=B.hu;refine⟨JJ f,fun e k w=>run_checkKey hd (Ba f q k) e 9999,fun k l N w hl=>?_,fun k w=>run_keyThatStays (Ba f q k)⟩;have u:=Ba (P:=P) f q k;have z:∀x∈l,IsKey d x.key:=fun x J=>by have:x.key∈l.map (·.key):=List.mem_map.2 ⟨x,J,rfl⟩;rw[hl]at this;obtain⟨p,_,L⟩:=List.mem_map.1 this;rw[←L];exact Ba f q p
 rcases findNow_spec u l 0 z with⟨C,D⟩ | ⟨j,e,C,D,M⟩
 ·exact .inl ⟨run_findKey hd C,D⟩
 ·exact .inr ⟨j,e,by rw[run_findKey hd C,Nat.zero_add],D,M⟩
def oX(k:IntKind):Ty→Bool
 | .int e=>e == k
 | .unit=>true
 | .prod a b=>oX k a && oX k b
 | .arr e _=>e == k
 | _=>false
theorem oo{k:IntKind}:∀ {K:Ty},oX k K=true→K.isKey=true
 | .int _,_=>rfl
 | .bool,h=>by cases h
 | .str,h=>by cases h
 | .flt,h=>by cases h
 | .unit,_=>rfl
 | .prod _ _,h=>by
  simp only[oX,Bool.and_eq_true]at h;simp only[Ty.isKey,oo h.1,oo h.2,Bool.and_self]
 | .slice _,h=>by cases h
 | .ptr _,h=>by cases h
 | .tree _ _,h=>by cases h
 | .mapi _ _,h=>by cases h
 | .arr _ _,_=>rfl
theorem ia{k:IntKind}:∀ {K:Ty} (x:K.den),oX k K=true→∃l:QK,l.length=K.size∧cR K x=l.map (Value.int k)
 | .int e,x,h=>by
  simp only[oX,beq_iff_eq]at h;subst h;exact⟨[x],rfl,rfl⟩
 | .bool,_,h=>by cases h
 | .str,_,h=>by cases h
 | .flt,_,h=>by cases h
 | .unit,_,_=>⟨[],rfl,rfl⟩
 | .prod a b,x,h=>by
  simp only[oX,Bool.and_eq_true]at h;obtain⟨l1,f,j⟩:=ia x.1 h.1;obtain⟨l2,q,u⟩:=ia x.2 h.2;exact⟨l1++l2,by simp[f,q,Ty.size],by simp[cR,j,u]⟩
 | .slice _,_,h=>by cases h
 | .ptr _,_,h=>by cases h
 | .tree _ _,_,h=>by cases h
 | .mapi _ _,_,h=>by cases h
 | .arr e _,x,h=>by
  simp only[oX,beq_iff_eq]at h;subst h;exact⟨x.1,x.2,rfl⟩
section
variable{P:Program}
theorem oq{e:TypeId}{k:IntKind}(q:P.underlying e=some (.int k))(d:Nat)(w:World){l1 l2:QK}:∀(f:QV),(∀i∈f,i<l1.length∧i<l2.length) →
  ∃r:Bool,(Op.eqItems (d+1) e 1 (l1.map (Value.int k)).toArray (l2.map (Value.int k)).toArray f).run P w = .ok r w∧(r=true↔∀i∈f,l1[i]? = l2[i]?)
 | [],_=>⟨true,by simp[Op.eqItems],by simp⟩
 | i::f,h=>by
  obtain⟨z,A⟩:=h i (by simp);obtain⟨r,E,I⟩:=oq q d w f (fun j B=>h j (by simp[B]));have u:P.plainKey e=true:=by simp[Program.plainKey,q]
  have C:=run_part_plain (P:=P) w u (xs:=(l1.map (Value.int k)).toArray) (off:=i*1) (v:= .int k l1[i]) (by simp[z]);have D:=run_part_plain (P:=P) w u (xs:=(l2.map (Value.int k)).toArray) (off:=i*1) (v:= .int k l2[i]) (by simp[A]);simp only[Op.eqItems,Sem.run_bind,C,D,Result.andThen_ok,run_equalIn_int w d e k k _ _ q];by_cases J:l1[i]=l2[i]
  ·simp_all
  ·simp_all
theorem yC{e:TypeId}{k:IntKind}(f:P.underlying e=some (.int k))(n:Nat)(em:Bool)(x:Int)(w:World):(Instr.checkKey em (n+1) e (.int k x)).run P w = .ok () w:=by
 unfold Instr.checkKey;simp only[Sem.run_bind,run_underlying f,Result.andThen];rfl
theorem fU.Gf{t e:TypeId}{n:Nat}{k:IntKind}{i:TypeInfo}{K:Ty}(hu:P.underlying t=some (.array n e))(V:P.underlying e=some (.int k))(hi:P.info? e=some i)(hc:P.cellsOf e=1)
  (C:oX k K=true) (N:K.scalar=false) (hn:K.size=n):fU P t K:=by
 have hk:=oo C;have heq:∀(a b:K.den) (w:World),∃r:Bool,(Op.equal t (aP K a) (aP K b)).run P w = .ok r w∧(r=true↔a=b):=fun a b w=>by
  obtain⟨l1,e1,u⟩:=ia a C;obtain⟨l2,e2,X⟩:=ia b C;rw[jO hk N,jO hk N,u,X];obtain⟨r,Y,O⟩:=oq (P:=P) V 9998 w (l1:=l1) (l2:=l2) (List.range n) (fun i hi=>by simp at hi;omega);refine⟨r,?_,?_⟩
  ·unfold Op.equal Op.maxDepth;rw[show(10000:Nat)=9999+1 from rfl,run_equalIn_array w 9999 _ _ hu hi,hc];exact Y
  ·rw[O];constructor
   ·intro h;have:l1=l2:=List.ext_getElem? fun i=>by
     grind
    exact ju hk (by rw[u,X,this])
   ·rintro rfl j _;have:l1.map (Value.int k)=l2.map (Value.int k):=by rw[←u,←X]
    have B:=congrArg (fun l=>l[j]?) this;simp only[List.getElem?_map]at B;cases D:l1[j]? <;> cases E:l2[j]? <;> simp[D,E]at B ⊢
    exact B
 refine⟨hk,fun em a w=>?_,fun a l f w hl=>?_,fun a w=>?_⟩
 ·obtain⟨l1,e1,u⟩:=ia a C;rw[jO hk N,u,show(10000:Nat)=9999+1 from rfl,Instr.checkKey];simp only[Sem.run_bind,run_underlying hu,Result.andThen_ok];simp only[Std.Legacy.Range.forIn_eq_forIn_range',Std.Legacy.Range.size,Nat.sub_zero,Nat.add_one_sub_one,Nat.div_one];have hin:∀j∈List.range' 0 n,j<l1.length:=fun j B=>by simp at B;omega
  generalize List.range' 0 n=is at hin;induction is with
  | nil=>simp
  | cons j is I =>
   have B:=hin j (by simp);have Z:P.plainKey e=true:=by simp[Program.plainKey,V]
   have p1:=run_part_plain (P:=P) w Z (xs:=(l1.map (Value.int k)).toArray) (off:=j*1) (v:= .int k l1[j]) (by simp[B]);simp only[List.forIn_cons,Sem.run_bind,(Go.run_sizeOf w hi:(sizeOf e).run P w=_),hc,Result.andThen_ok,p1,yC V 9998 em,Sem.run_pure];exact I (fun y hy=>hin y (by simp[hy]))
 ·have J:∀(l:List MapEntry) (f:List K.den) (q:Nat),l.map (·.key)=f.map (aP K) →
    ((Instr.findAsking t (aP K a) l q).run P w = .ok none w∧∀x∈l,x.key≠aP K a) ∨
    ∃j e,(Instr.findAsking t (aP K a) l q).run P w = .ok (some (q+j,e.val)) w∧l[j]? = some e∧e.key=aP K a:=by
   intro l;induction l with
   | nil=>intro f q _;exact .inl ⟨by simp[Instr.findAsking],by simp⟩
   | cons x l I =>
    intro f q h;cases f with
    | nil=>simp at h
    | cons b f =>
     simp only[List.map_cons,List.cons.injEq]at h;obtain⟨r,Y,O⟩:=heq a b w;unfold Instr.findAsking;rw[Sem.run_bind,h.1,Y];simp only[Result.andThen_ok];cases r with
     | true =>
      have:=O.1 rfl;subst this;exact .inr ⟨0,x,by simp,rfl,h.1⟩
     | false =>
      have a2:b≠a:=fun e=>by have:=O.2 e.symm;cases this
      rcases I f (q+1) h.2 with⟨D,E⟩ | ⟨j,y,D,E,h3⟩
      ·grind (splits:=6) (ematch:=4) [gm]
      ·exact .inr ⟨j+1,y,by simp only[Bool.false_eq_true,if_false];rw[D,show q+1+j=q+(j+1) by omega],E,h3⟩
  cases l with
  | nil=>exact .inl ⟨by simp[Instr.findKey,run_underlying hu,Result.andThen,Instr.findNow],by simp⟩
  | cons x l =>
   have L:Instr.findNow (.array n e) (aP K a) (x::l) 0=none:=by simp[Instr.findNow,Instr.sameNow]
   have M:(Instr.findKey t (aP K a) (x::l)).run P w=(Instr.findAsking t (aP K a) (x::l) 0).run P w:=by simp only[Instr.findKey,Sem.run_bind,run_underlying hu,Result.andThen_ok,L]
   rw[M];rcases J (x::l) f 0 hl with h | ⟨j,y,D,E,h3⟩
   ·exact .inl h
   ·grind
 ·obtain⟨l1,e1,u⟩:=ia a C;rw[jO hk N,u];have hb:Instr.sameBits 10000 (.agg (l1.map (Value.int k)).toArray) (.agg (l1.map (Value.int k)).toArray)=true:=by
   rw[show(10000:Nat)=9999+1 from rfl,Instr.sameBits];simp only[beq_self_eq_true,Bool.true_and,List.all_eq_true];intro p Z;obtain⟨x,y⟩:=p;have a1:∀(l:QY),(x,y)∈l.zip l→x=y∧x∈l:=by
    intro l;induction l with
    | nil=>simp
    | cons z l I =>
     intro h;simp only[List.zip_cons_cons,List.mem_cons,Prod.mk.injEq]at h;rcases h with⟨rfl,rfl⟩ | h
     ·simp
     ·obtain⟨e,m⟩:=I h;exact⟨e,by simp[m]⟩
   obtain⟨rfl,hx⟩:=a1 _ Z;obtain⟨z,_,rfl⟩:=List.mem_map.1 (by simpa using hx);simp[Instr.sameBits]
  simp[Instr.keyThatStays,hb]
end
def aT{α:Type}(K:Ty):List (K.den×α)→K.den→Option α
 | [],_=>none
 | p::r,k=>if eD K p.1 k then some p.2 else aT K r k
def cq{α:Type}(K:Ty):List (K.den×α)→K.den→α→List (K.den×α)
 | [],k,x=>[(k,x)]
 | p::r,k,x=>if eD K p.1 k then(k,x)::r else p::cq K r k x
section
variable{α:Type}{K:Ty}
theorem jU(f:K.isKey=true){k:K.den}:∀ {j:List (K.den×α)},(∀p∈j,p.1≠k)→aT K j k=none
 | [],_=>rfl
 | p::r,h=>by
  simp only[aT];rw[if_neg (fun e=>h p (by simp) ((fQ f).1 e))];exact jU f fun q u=>h q (by simp[u])
theorem mg(u:K.isKey=true){k:K.den}:∀ {f:List (K.den×α)} {j:Nat} {p:K.den×α},(f.map (·.1)).Nodup→f[j]? = some p→p.1=k→aT K f k=some p.2
 | [],j,p,_,h,_=>by simp at h
 | q::r,0,p,_,h,e=>by
  simp_all [aT,fQ]
 | q::r,j+1,p,hn,h,e=>by
  simp only[List.map_cons,List.nodup_cons]at hn;simp only[aT];have z:p∈r:=List.mem_of_getElem? (by simpa using h);rw[if_neg (fun A=>hn.1 (List.mem_map.2 ⟨p,z,by rw[e];exact((fQ u).1 A).symm⟩))];exact mg u hn.2 (by simpa using h) e
theorem zR(j:K.isKey=true){k:K.den}{x:α}:∀ {f:List (K.den×α)},(∀p∈f,p.1≠k)→cq K f k x=f++[(k,x)]
 | [],_=>rfl
 | p::r,h=>by
  simp only[cq];rw[if_neg (fun e=>h p (by simp) ((fQ j).1 e)),zR j fun q u=>h q (by simp[u])];rfl
theorem zU(u:K.isKey=true){k:K.den}{x:α}:∀ {f:List (K.den×α)} {j:Nat} {p:K.den×α},(f.map (·.1)).Nodup→f[j]? = some p→p.1=k→cq K f k x=f.set j (k,x)
 | [],j,p,_,h,_=>by simp at h
 | q::r,0,p,_,h,e=>by
  simp_all [cq,fQ]
 | q::r,j+1,p,hn,h,e=>by
  simp only[List.map_cons,List.nodup_cons]at hn;simp only[cq];have v:p∈r:=List.mem_of_getElem? (by simpa using h);rw[if_neg (fun z=>hn.1 (List.mem_map.2 ⟨p,v,by rw[e];exact((fQ u).1 z).symm⟩)),zU u hn.2 (by simpa using h) e];rfl
end
def enc(β:Bool)(T:Ty)(x:T.den):ag:=if T.scalar then .p β T x else .agg (flat β T x)
theorem Gy{F:Bool→Addr→Value→Prop}{ρ:Nat→QW}{A:Ty}{x:A.den}{v:Value}(h:MV (F false) A x v):V F ρ (enc false A x) v:=by
 obtain⟨e,f,B,j⟩:=h;unfold enc;split
 ·grind (splits:=6) (ematch:=4) [fW,V,ai.gV,Ty.fT]
 ·rename_i q;obtain⟨z,rfl⟩:=j (by simpa using q);simp only[V];refine⟨z,rfl,by rw[eW,←f];rfl,jX false A x _ (ai.mono (fun _ _ h=>h) (fun k u hk=>by simpa [Value.cells]using hk) e)⟩
def kY(T:Ty)(x:ag):Bool :=
 match x with
 | .agg _=> !T.scalar
 | .lag _ _ _ _=>false
 | _=>T.scalar
section
variable{P:Program}{Bw:Nat→Prop}{w0:cE P}{ρ:Nat→QW}{φ:Nat→Nat→Prop}{h:Nat→Qz}{w:World}{new:Nat}
theorem AS(m:Mem Bw w0 ρ φ h w)(hn:ρ new=none){o:Oper}{a:Act}{t:TypeId}{K A:Ty}(z:K.isKey=true)(B:o.op = .makeMap t none):
  Good P o a w (aG Bw w0 ρ φ h w new (.mp new) [(new,some (.mpo K A []))]):=by
 have f:(Instr.makeMap t none).run P w = .ok (.map (some w.heap.size)) (w.alloc (.map #[] 0)):=rfl;refine Good.aH (v:= .map (some w.heap.size)) (w':=w.alloc (.map #[] 0)) (by simp only[execOp,B,Option.map_none,Sem.run_bind,f,Result.andThen_ok];rfl) ?_;refine cV m none new (.mpo K A []) (.map (some w.heap.size)) none (World.grownBy_alloc w _ none) (fun k e=>by cases e) (.inl hn) (fun _ k hk=>?_) (fun F' q C u=>?_)
  (by rw[bp];rfl) (fun _=>rfl) (fun F' q C u j=>?_)
 ·simp_all [dH]
 ·exact⟨_,#[],0,rfl,rfl,heap_alloc_new w _,⟨z,List.nodup_nil,fun e D=>by cases D⟩,rfl,List.nodup_nil,fun i hi=>absurd hi (by simp)⟩
 ·simp only[V];exact⟨j,_,rfl⟩
theorem vZ{F:Addr→Value→Prop}{t:TypeId}{ti:TI}(ht:aO P t ti){A:Ty}(hT:ti.T=some A){z:Value}(hz:(zeroValue t).run P w = .ok z w)(q:z.cells.toList.map kE=ti.z)(u:z.cells.size=ti.size)
  (B:∀c∈z.cells.toList,c.oneCell'=true):MV F A A.zero z:=by
 obtain⟨C,f,D⟩:=ht.hT A hT;have I:=gU (F:=fun _=>F) (ρ:=jF) z.cells.toList;rw[q]at I;obtain⟨i,j,J,L,_⟩:=ht.hi;have E:j=z:=by simp[zeroValue,typeInfo,J,L]at hz;exact hz
 subst E;have e:=ht.hz;rw[J]at e;simp only[Option.bind_some,L,Option.map_some,Option.some.injEq]at e;refine⟨(cZ D I).1,by rw[u,C],fun M=>?_,fun M=>?_⟩
 ·rw[M]at f;have hk:ti.k.agg=false:=by simpa using f.symm
  rw[hk]at e;have N:j.cells = #[j]:=by cases j <;> first | rfl | (simp at e)
  exact B j (by rw[N];simp)
 ·grind
theorem uw(m:Mem Bw w0 ρ φ h w){id:Nat}{K A:Ty}{j:List (K.den×A.den)}(hi:h id=some (.mpo K A j)){v:Value}(q:V (Fr (own φ h) Bw w) ρ (.mp id) v):
  ∃r f clock,v = .map (some r)∧ρ id=some (.map (some r))∧φ id r∧w.heap[r]? = some (.map f clock)∧(K.isKey=true∧xB f clock)∧f.toList.map (·.key)=j.map (fun p=>aP K p.1)∧(j.map (·.1)).Nodup ∧
   ∀i (h':i<j.length),∃e:MapEntry,f[i]? = some e∧MV (Fr (own φ h) Bw w false) A j[i].2 e.val:=by
 obtain⟨u,z,r,f,clock,rfl,B⟩:=m.ob id _ hi;simp only[V]at q;rw[q.1]at z;cases z;exact⟨r,f,clock,rfl,q.1,B⟩
theorem kr{q:Array MapEntry}{K:Ty}{α:Type}{u:List (K.den×α)}(hk:q.toList.map (·.key)=u.map (fun p=>aP K p.1)){j:Nat}{e:MapEntry}(A:q.toList[j]? = some e):
  ∃p,u[j]? = some p∧e.key=aP K p.1:=by
 have f:(q.toList.map (·.key))[j]? = some e.key:=by rw[List.getElem?_map,A];rfl
 rw[hk,List.getElem?_map]at f;cases z:u[j]? with
 | none=>rw[z]at f;cases f
 | some p=>rw[z]at f;simp at f;exact⟨p,rfl,f.symm⟩
theorem BT(m:Mem Bw w0 ρ φ h w){o:Oper}{a:Act}{t kt et:TypeId}{ti te:TI}(ht:aO P t ti)(hk:ti.k = .mp kt et){K:Ty}(B:fU P kt K)(C:aO P et te){A:Ty}(hT:te.T=some A)
  {xo ko:Operand} {f:Bool} (ho:o.op = .lookup t xo ko f) {id:Nat} {u:List (K.den×A.den)} (hi:h id=some (.mpo K A u)) (hx:V (Fr (own φ h) Bw w) ρ (.mp id) (a.eval xo)) {k:K.den} (e2:a.eval ko=aP K k) :
  Good P o a w (aG Bw w0 ρ φ h w new (if f then .tup [enc false A ((aT K u k).getD A.zero),.p false .bool (aT K u k).isSome]else enc false A ((aT K u k).getD A.zero)) []):=by
 obtain⟨r,X,clock,e1,_,_,hb,⟨Y,_⟩,q,Z,D⟩:=uw m hi hx;obtain⟨dm,hm,E⟩:=ht.hu;rw[hk]at E;simp only[UK]at E;subst E;have a1:X.toList.map (·.key)=(u.map (·.1)).map (aP K):=by rw[q,List.map_map];rfl
 obtain⟨z,hz,a2,a3,a4⟩:=dF C w;obtain⟨aa,ac,ad⟩:=C.hT A hT;have M:∀(v:Value) (x:A.den) (b:Bool),MV (Fr (own φ h) Bw w false) A x v→V (Fr (own φ h) Bw w) ρ (if f then .tup [enc false A x,.p false .bool b]else enc false A x) (if f then .tuple #[v,.bool b]else v):=fun v x b hv=>by
  cases f
  ·exact Gy hv
  ·simp only[if_true,V,VL];refine⟨_,rfl,rfl,⟨v,by simp,Gy hv⟩,⟨.bool b,by simp,?_⟩,trivial⟩;simp only[V,ai];exact⟨rfl,trivial⟩
 rcases B.find k X.toList (u.map (·.1)) w a1 with⟨h1,h2⟩ | ⟨j,e,h1,h2,h3⟩
 ·have I:aT K u k=none:=jU Y fun p N e=>by
   obtain⟨j,hj⟩:=List.mem_iff_getElem?.1 N;have L:(u.map (fun p=>aP K p.1))[j]? = some (aP K p.1):=by rw[List.getElem?_map,hj];rfl
   rw[←q,List.getElem?_map]at L;cases hq:X.toList[j]? with
   | none=>rw[hq]at L;cases L
   | some x =>rw[hq]at L;simp at L;exact h2 x (List.mem_of_getElem? hq) (by rw[L,e])
  rw[I];have a5:MV (Fr (own φ h) Bw w false) A A.zero z:=vZ C hT hz a2 a3 a4;refine Good.aH (v:=if f then .tuple #[z,.bool false]else z) (w':=w) ?_ (aG.pure m (M z _ false a5));simp only[execOp,ho];rw[e1,e2];cases f <;> simp[Instr.lookup,run_underlying hm,Go.MapKept.run_getObj_map hb,B.check,h1,hz,Result.andThen]
 ·obtain⟨p,N,a6⟩:=kr q h2;have a7:p.1=k:=gm Y (by rw[←a6,h3]);have J:=mg (α:=A.den) Y Z N a7;rw[J];have hj:j<u.length:=(List.getElem?_eq_some_iff.1 N).1;obtain⟨O,q1,q2⟩:=D j hj;have a8:O=e:=by simp_all
  subst a8;have a9:u[j]=p:=by simp_all
  rw[a9]at q2;refine Good.aH (v:=if f then .tuple #[O.val,.bool true]else O.val) (w':=w) ?_ (aG.pure m (M O.val _ true q2));simp only[execOp,ho];rw[e1,e2];cases f <;> simp[Instr.lookup,run_underlying hm,Go.MapKept.run_getObj_map hb,B.check,h1,Result.andThen]
theorem gY(w:World)(r:Nat)(o:Go.Obj):w.grownBy { w with heap:=w.heap.setIfInBounds r o } (some r):=by
 refine⟨rfl,rfl,rfl,by simp,fun k hk f=>?_⟩;have:r≠k:=fun e=>f (by rw[e])
 simp[Array.getElem?_setIfInBounds_ne this]
theorem xB.push{j:Array MapEntry}{c:Nat}(h:xB j c)(k v:Value):xB (j.push { key:=k,val:=v,born:=c }) (c+1):=by
 refine⟨?_,fun e f=>?_⟩
 ·simp only[Array.toList_push,List.map_append,List.map_cons,List.map_nil];refine List.nodup_append.2 ⟨h.1,by simp,fun a ha b hb e=>?_⟩;simp only[List.mem_singleton]at hb;obtain⟨p,q,rfl⟩:=List.mem_map.1 ha;have:=h.2 p q;omega
 ·simp only[Array.toList_push,List.mem_append,List.mem_singleton]at f;rcases f with f | rfl
  ·exact Nat.lt_succ_of_lt (h.2 e f)
  ·exact Nat.lt_succ_self _
theorem xB.modify{q:Array MapEntry}{c:Nat}(h:xB q c)(j:Nat)(f:MapEntry→MapEntry)(z:∀e,(f e).born=e.born):xB (q.modify j f) c:=by
 have u:(q.modify j f).toList.map (·.born)=q.toList.map (·.born):=by
  refine List.ext_getElem? fun i=>?_
  simp only[List.getElem?_map,Array.getElem?_toList,Array.getElem?_modify];split
  ·cases q[i]? <;> simp[z]
  ·rfl
 refine⟨by rw[u];exact h.1,fun e A=>?_⟩;have:e.born∈(q.modify j f).toList.map (·.born):=List.mem_map_of_mem A;rw[u]at this;obtain⟨B,C,D⟩:=List.mem_map.1 this;rw[←D];exact h.2 B C
theorem lW(m:Mem Bw w0 ρ φ h w){o:Oper}{a:Act}{t kt et:TypeId}{ti:TI}(ht:aO P t ti)(hk:ti.k = .mp kt et){K:Ty}(C:fU P kt K){A:Ty}
  {xo ko J:Operand} (D:o.op = .mapUpdate t xo ko J∨o.op = .insert t xo ko J) {id:Nat} {u:List (K.den×A.den)} {us:iu} (_:h id=some (.mpo K A u)) (hi:apply us h id=some (.mpo K A u)) (hx:V (Fr (own φ h) Bw w) ρ (.mp id) (a.eval xo)) {k:K.den} (e2:a.eval ko=aP K k)
  {y:ag} (hy:V (Fr (own φ h) Bw w) ρ y (a.eval J)) (hc:(cellsOf y).all ag.cell=true) (hs:kY A y=true) {x:A.den} (hz:HE A h y=some (x,us)) :
  Good P o a w (aG Bw w0 ρ φ h w new .unk (us++[(id,some (.mpo K A (cq K u k x)))])):=by
 obtain⟨m',Y,a7⟩:=nq m hz;obtain⟨r,E,clock,e1,L,Z,hb,⟨hK,hB⟩,q,a1,a8⟩:=uw m' hi (V.mono Y (fun _ _ h=>h) hx);obtain⟨dm,hm,M⟩:=ht.hu;rw[hk]at M;simp only[UK]at M;subst M;have a9:E.toList.map (·.key)=(u.map (·.1)).map (aP K):=by rw[q,List.map_map];rfl
 obtain⟨r1,r2,r3⟩:=gv hc hy;obtain⟨s1,s2⟩:=a7 _ r1;have aa:MV (Fr (own φ (apply us h)) Bw w false) A x (a.eval J):=by
  refine⟨s1,by rw[s2,←r2];simp,fun N=>?_,fun N=>?_⟩
  ·have O:cellsOf y=[y]:=by cases y <;> first | rfl | (simp[kY,N]at hs)
   rw[O]at hc;simp only[List.all_cons,List.all_nil,Bool.and_true]at hc;exact sT hc hy
  ·cases y with
   | agg cs =>
    simp only[V]at hy;obtain⟨vs,e,_⟩:=hy;exact⟨vs,e⟩
   | _=>simp[kY,N]at hs
 have a2:E.size=u.length:=by have:=congrArg List.length q;simpa using this
 have a3:∀(B:Array MapEntry) (f:Nat),(execOp a.eval o).run P w = .ok .skip { w with heap:=w.heap.setIfInBounds r (.map B f) }→xB B f→B.toList.map (·.key)=(cq K u k x).map (fun p=>aP K p.1) →
   ((cq K u k x).map (·.1)).Nodup→(∀i (h':i<(cq K u k x).length),∃e:MapEntry,B[i]? = some e∧MV (Fr (own φ (apply us h)) Bw w false) A (cq K u k x)[i].2 e.val) →
   Good P o a w (aG Bw w0 ρ φ h w new .unk (us++[(id,some (.mpo K A (cq K u k x)))])):=fun B f a4 q0 q1 q2 q3=>by
  refine Good.j5 a4 ?_;refine aG.after (u1:=us) rfl Y ?_;refine eG m' (some id) id (.mpo K A (cq K u k x)) (.map (some r)) (φ id) (some r) (gY w r _) (fun k e=>⟨id,_,rfl,hi,rfl,by cases e;exact Z⟩) (.inr ⟨rfl,L⟩)
   (fun _ k hk=>Nat.lt_of_lt_of_le (m'.lt id _ k hi rfl hk) (gY w r (.map B f)).size) (fun _ k hk=> .inr ⟨id,_,rfl,hi,rfl,hk⟩) (fun F' ac hF b3=>?_) (by rw[bf];rfl) (fun e=>by rw[L]at e;cases e) (fun F' ac hF L b4=>by simp only[V])
  exact⟨r,B,f,rfl,Z,(heap_set hb).1,⟨hK,q0⟩,q1,q2,fun i hi=>let ⟨e,t1,t2,t3⟩:=q3 i hi;⟨e,t1,ai.mono (hF _) (fun _ _ h=>h) t2,t3⟩⟩
 rcases C.find k E.toList (u.map (·.1)) w a9 with⟨h1,h2⟩ | ⟨j,e,h1,h2,h3⟩
 ·have ad:∀p∈u,p.1≠k:=fun p hp e=>by
   obtain⟨j,hj⟩:=List.mem_iff_getElem?.1 hp;have I:(u.map (fun p=>aP K p.1))[j]? = some (aP K p.1):=by rw[List.getElem?_map,hj];rfl
   rw[←q,List.getElem?_map]at I;cases hq:E.toList[j]? with
   | none=>rw[hq]at I;cases I
   | some x =>rw[hq]at I;simp at I;exact h2 x (List.mem_of_getElem? hq) (by rw[I,e])
  have z:=zR (x:=x) hK ad;refine a3 (E.push { key:=aP K k,val:=a.eval J,born:=clock }) (clock+1) ?_ (hB.push _ _) ?_ ?_ ?_
  ·rcases D with D | D <;>
   ·simp only[execOp,D];rw[e1,e2];simp[Instr.mapUpdate,run_underlying hm,Go.MapKept.run_getObj_map hb,C.check,h1,run_setObj_map _ hb,Result.andThen]
  ·rw[z];simp[q]
  ·grind
  ·rw[z];intro i ax;simp only[List.length_append,List.length_cons,List.length_nil]at ax;rcases Nat.lt_or_ge i u.length with I | I
   ·grind
   ·obtain rfl:i=u.length:=by omega
    exact⟨_,by rw[Array.getElem?_push,if_pos a2.symm],by simpa using aa⟩
 ·obtain⟨p,hp,b1⟩:=kr q h2;have b2:p.1=k:=gm hK (by rw[←b1,h3]);have z:=zU (x:=x) hK a1 hp b2;have hj:E[j]? = some e:=by simpa using h2
  have b5:j<u.length:=(List.getElem?_eq_some_iff.1 hp).1;have X:∀e',E[j]? = some e'→({ e' with key:=aP K k,val:=a.eval J }:MapEntry).key=e'.key:=fun e' a5=>by rw[hj]at a5;cases a5;exact h3.symm
  have a6:(u.set j (k,x)).map (·.1)=u.map (·.1):=by
   rw[List.map_set];simp only;refine List.ext_getElem? fun i=>?_
   rw[List.getElem?_set];split
   ·simp_all
   ·rfl
  refine a3 (E.modify j fun e=> { e with key:=aP K k,val:=a.eval J }) clock ?_ (hB.modify j _ fun _=>rfl) ?_ ?_ ?_
  ·rcases D with D | D <;>
   ·simp only[execOp,D];rw[e1,e2];simp[Instr.mapUpdate,run_underlying hm,Go.MapKept.run_getObj_map hb,C.check,h1,hj,h3,C.stays,run_setObj_map _ hb,Result.andThen]
  ·rw[modify_keys j _ X,z,q];have:(u.set j (k,x)).map (fun p=>aP K p.1)=((u.set j (k,x)).map (·.1)).map (aP K):=by rw[List.map_map];rfl
   rw[this,a6,List.map_map];rfl
  ·rw[z,a6];exact a1
  ·grind
theorem yU(m:Mem Bw w0 ρ φ h w)(hn:ρ new=none){o:Oper}{a:Act}{t:TypeId}{K:Ty}(z:K.isKey=true)(B:o.op = .makeMap t none):
  Good P o a w (aG Bw w0 ρ φ h w new (.mp new) [(new,some (.mpl K []))]):=by
 have f:(Instr.makeMap t none).run P w = .ok (.map (some w.heap.size)) (w.alloc (.map #[] 0)):=rfl;refine Good.aH (v:= .map (some w.heap.size)) (w':=w.alloc (.map #[] 0)) (by simp only[execOp,B,Option.map_none,Sem.run_bind,f,Result.andThen_ok];rfl) ?_;refine cV m none new (.mpl K []) (.map (some w.heap.size)) none (World.grownBy_alloc w _ none) (fun k e=>by cases e) (.inl hn) (fun _ k hk=>?_) (fun F' q C u=>?_)
  (by rw[bp];rfl) (fun _=>rfl) (fun F' q C u j=>?_)
 ·simp_all [dH]
 ·exact⟨_,#[],0,rfl,rfl,heap_alloc_new w _,z,rfl,List.nodup_nil,fun i hi=>absurd hi (by simp)⟩
 ·simp only[V];exact⟨j,_,rfl⟩
theorem FT(m:Mem Bw w0 ρ φ h w){id:Nat}{K:Ty}{f:List (K.den×Value)}(hi:h id=some (.mpl K f)){v:Value}(q:V (Fr (own φ h) Bw w) ρ (.mp id) v):
  ∃r j clock,v = .map (some r)∧ρ id=some (.map (some r))∧φ id r∧w.heap[r]? = some (.map j clock)∧K.isKey=true∧j.toList.map (·.key)=f.map (fun p=>aP K p.1)∧(f.map (·.1)).Nodup ∧
   ∀i (h':i<f.length),∃e:MapEntry,j[i]? = some e∧e.val=f[i].2:=by
 obtain⟨u,z,r,j,clock,rfl,A⟩:=m.ob id _ hi;simp only[V]at q;rw[q.1]at z;cases z;exact⟨r,j,clock,rfl,q.1,A⟩
def sd{α:Type}(K:Ty):List (K.den×α)→K.den→Nat→Prop
 | [],_,_=>True
 | p::_,k,0=>eD K p.1 k=true
 | p::r,k,j+1=>eD K p.1 k=false∧sd K r k j
theorem ye{α:Type}{K:Ty}{k:K.den}:∀ {e:List (K.den×α)} {j:Nat},sd K e k j→aT K e k=(e[j]?).map (·.2)
 | [],j,_=>by simp[aT]
 | p::r,0,h=>by
  simp only[sd]at h;simp[aT,h]
 | p::r,j+1,h=>by
  simp only[sd]at h;simp only[aT,h.1,Bool.false_eq_true,if_false,List.getElem?_cons_succ];exact ye h.2
def Lx:Value→ag
 | .agg e=> .agg (e.toList.map .lit)
 | v=> .lit v
theorem Fu{F:Bool→Addr→Value→Prop}{ρ:Nat→QW}:∀ {l:QY} {g:Nat→Value→Prop},(∀k v,l[k]? = some v→g k v)→VL F ρ (l.map .lit) g
 | [],_,_=>trivial
 | v::l,g,h=>by
  simp_all [List.map_cons,VL,V,Fu]
theorem Md{F:Bool→Addr→Value→Prop}{ρ:Nat→QW}(v:Value):V F ρ (Lx v) v:=by
 unfold Lx;split
 ·simp_all [V,Fu]
 ·simp only[V]
def zV(e:TI):ag:=if e.k.agg=true then .agg e.z else .unk
theorem NG{F:Bool→Addr→Value→Prop}{ρ:Nat→QW}{t:TypeId}{ti:TI}(ht:aO P t ti){w:World}{z:Value}(hz:(zeroValue t).run P w = .ok z w)(f:z.cells.toList.map kE=ti.z)(C:z.cells.size=ti.size):V F ρ (zV ti) z:=by
 unfold zV;split
 ·rename_i hk;obtain⟨i,q,u,A,_⟩:=ht.hi;have j:q=z:=by simp[zeroValue,typeInfo,u,A]at hz;exact hz
  subst j;have e:=ht.hz;rw[u]at e;simp only[Option.bind_some,A,Option.map_some,Option.some.injEq]at e;rw[hk]at e;cases q with
  | agg B =>
   simp only[V];have D:=gU (F:=F) (ρ:=ρ) B.toList;refine⟨B,rfl,?_,?_⟩
   ·rw[←f];simp[Value.cells]
   ·rw[←f];simpa [Value.cells]using D
  | _=>cases e
 ·trivial
def FR(z:ag)(o:QW):ag :=
 match o with
 | some v=> .tup [Lx v,.p false .bool true]
 | none=> .tup [z,.p false .bool false]
theorem AO(m:Mem Bw w0 ρ φ h w){o:Oper}{a:Act}{t kt et:TypeId}{ti te:TI}(ht:aO P t ti)(hk:ti.k = .mp kt et){K:Ty}(u:fU P kt K)(J:aO P et te)
  {xo ko:Operand} (ho:o.op = .lookup t xo ko true) {id:Nat} {q:List (K.den×Value)} (hi:h id=some (.mpl K q)) (hx:V (Fr (own φ h) Bw w) ρ (.mp id) (a.eval xo)) {k:K.den} (e2:a.eval ko=aP K k) :
  Good P o a w (aG Bw w0 ρ φ h w new (FR (zV te) (aT K q k)) []):=by
 obtain⟨r,M,clock,e1,_,_,hb,N,f,O,B⟩:=FT m hi hx;obtain⟨dm,hm,C⟩:=ht.hu;rw[hk]at C;simp only[UK]at C;subst C;have X:M.toList.map (·.key)=(q.map (·.1)).map (aP K):=by rw[f,List.map_map];rfl
 obtain⟨z,hz,Y,Z,_⟩:=dF J w;have a1:=NG (F:=Fr (own φ h) Bw w) (ρ:=ρ) J hz Y Z;rcases u.find k M.toList (q.map (·.1)) w X with⟨h1,h2⟩ | ⟨j,e,h1,h2,h3⟩
 ·have D:aT K q k=none:=jU N fun p L e=>by
   obtain⟨j,hj⟩:=List.mem_iff_getElem?.1 L;have I:(q.map (fun p=>aP K p.1))[j]? = some (aP K p.1):=by rw[List.getElem?_map,hj];rfl
   rw[←f,List.getElem?_map]at I;cases hq:M.toList[j]? with
   | none=>rw[hq]at I;cases I
   | some x =>rw[hq]at I;simp at I;exact h2 x (List.mem_of_getElem? hq) (by rw[I,e])
  rw[D];refine Good.aH (v:= .tuple #[z,.bool false]) (w':=w) ?_ (aG.pure m ?_)
  ·simp only[execOp,ho];rw[e1,e2];simp[Instr.lookup,run_underlying hm,Go.MapKept.run_getObj_map hb,u.check,h1,hz,Result.andThen]
  ·simp only[FR,V,VL];exact⟨_,rfl,rfl,⟨z,by simp,a1⟩,⟨.bool false,by simp,by simp only[ai];exact⟨rfl,trivial⟩⟩,trivial⟩
 ·obtain⟨p,L,a2⟩:=kr f h2;have a3:p.1=k:=gm N (by rw[←a2,h3]);have E:=mg (α:=Value) N O L a3;rw[E];have hj:j<q.length:=(List.getElem?_eq_some_iff.1 L).1;obtain⟨e',q1,q2⟩:=B j hj;have a4:e'=e:=by simp_all
  subst a4;have a5:q[j]=p:=by simp_all
  rw[a5]at q2;refine Good.aH (v:= .tuple #[e'.val,.bool true]) (w':=w) ?_ (aG.pure m ?_)
  ·simp only[execOp,ho];rw[e1,e2];simp[Instr.lookup,run_underlying hm,Go.MapKept.run_getObj_map hb,u.check,h1,Result.andThen]
  ·simp only[FR,V,VL];exact⟨_,rfl,rfl,⟨e'.val,by simp,by rw[q2];exact Md _⟩,⟨.bool true,by simp,by simp only[ai];exact⟨rfl,trivial⟩⟩,trivial⟩
theorem oY(m:Mem Bw w0 ρ φ h w){o:Oper}{a:Act}{t L et:TypeId}{ti:TI}(ht:aO P t ti)(hk:ti.k = .mp L et){K:Ty}(B:fU P L K)
  {M N I:Operand} (J:o.op = .mapUpdate t M N I∨o.op = .insert t M N I) {id:Nat} {q:List (K.den×Value)} (hi:h id=some (.mpl K q)) (hx:V (Fr (own φ h) Bw w) ρ (.mp id) (a.eval M)) {k:K.den} (e2:a.eval N=aP K k) {x:Value} (e3:a.eval I=x)
  (O:∀p∈q,p.1≠k) :
  Good P o a w (aG Bw w0 ρ φ h w new .unk [(id,some (.mpl K (q++[(k,x)])))]):=by
 obtain⟨r,C,clock,e1,u,D,hb,hK,f,a6,X⟩:=FT m hi hx;obtain⟨dm,hm,z⟩:=ht.hu;rw[hk]at z;simp only[UK]at z;subst z;have Y:C.toList.map (·.key)=(q.map (·.1)).map (aP K):=by rw[f,List.map_map];rfl
 have E:C.size=q.length:=by have:=congrArg List.length f;simpa using this
 have Z:(Instr.findKey L (aP K k) C.toList).run P w = .ok none w:=by
  rcases B.find k C.toList (q.map (·.1)) w Y with⟨Z,_⟩ | ⟨j,e,_,h2,h3⟩
  ·exact Z
  ·obtain⟨p,hp,a1⟩:=kr f h2;exact absurd (gm hK (by rw[←a1,h3])) (O p (List.mem_of_getElem? hp))
 refine Good.j5 (w':= { w with heap:=w.heap.setIfInBounds r (.map (C.push { key:=aP K k,val:=a.eval I,born:=clock }) (clock+1)) }) ?_ ?_
 ·rcases J with J | J <;>
  ·simp only[execOp,J];rw[e1,e2];simp[Instr.mapUpdate,run_underlying hm,Go.MapKept.run_getObj_map hb,B.check,Z,run_setObj_map _ hb,Result.andThen]
 ·refine eG m (some id) id (.mpl K (q++[(k,x)])) (.map (some r)) (φ id) (some r) (gY w r _) (fun k e=>⟨id,_,rfl,hi,rfl,by cases e;exact D⟩) (.inr ⟨rfl,u⟩)
   (fun _ k hk=>Nat.lt_of_lt_of_le (m.lt id _ k hi rfl hk) (gY w r _).size) (fun _ k hk=> .inr ⟨id,_,rfl,hi,rfl,hk⟩) (fun F' a2 hF a4=>?_) (by rw[bf];rfl) (fun e=>by rw[u]at e;cases e) (fun F' a2 hF u a5=>by simp only[V])
  refine⟨r,_,_,rfl,D,(heap_set hb).1,hK,?_,?_,fun i a3=>?_⟩
  ·simp[f]
  ·grind
  ·simp only[List.length_append,List.length_cons,List.length_nil]at a3;rcases Nat.lt_or_ge i q.length with h4 | h4
   ·grind
   ·obtain rfl:i=q.length:=by omega
    exact⟨_,by rw[Array.getElem?_push,if_pos E.symm],by simpa using e3⟩
theorem AW(m:Mem Bw w0 ρ φ h w){o:Oper}{a:Act}{t B C:TypeId}{ti:TI}(ht:aO P t ti)(hk:ti.k = .mp B C){z:Operand}{id:Nat}{K A:Ty}{q:List (K.den×A.den)}(hi:h id=some (.mpo K A q))(D:V (Fr (own φ h) Bw w) ρ (.mp id) (a.eval z))
  (E:o.op = .call { callee:= .builtin .len,args:= #[z],argTypes:= #[t] }):Good P o a w (aG Bw w0 ρ φ h w new (.p false (.int .i64) (q.length:Int)) []):=by
 obtain⟨r,I,clock,J,L,M,hb,X,e,N,u⟩:=uw m hi D;obtain⟨Y,O,f⟩:=ht.hu;rw[hk]at f;simp only[UK]at f;subst f;have j:I.size=q.length:=by have:=congrArg List.length e;simpa using this
 refine Good.aH (v:= .int .i64 (q.length:Int)) (w':=w) ?_ (aG.pure m (dM _ _ _));simp only[execOp,E,resolve,invoke,builtin,Sem.run_bind,Sem.run_pure,Result.andThen_ok,List.map_toArray,List.map_cons,List.map_nil,J];simp[Builtin.len_,run_underlying O,Go.MapKept.run_getObj_map hb,goInt,j,Result.andThen]
theorem II(m:Mem Bw w0 ρ φ h w){o:Oper}{a:Act}{u z:Operand}{f:Array TypeId}{β q:Bool}{k:IntKind}{i j:Int}(B:V (Fr (own φ h) Bw w) ρ (.p β (.int k) i) (a.eval u))(C:V (Fr (own φ h) Bw w) ρ (.p q (.int k) j) (a.eval z))
  (D:o.op = .call { callee:= .builtin .min,args:= #[u,z],argTypes:=f }):Good P o a w (aG Bw w0 ρ φ h w new (.p false (.int k) (min i j)) []):=by
 refine Good.aH (v:= .int k (min i j)) (w':=w) ?_ (aG.pure m (dM _ _ _));have e:(if j<i then j else i)=min i j:=by omega
 simp only[execOp,D,resolve,invoke,builtin,Sem.run_bind,Sem.run_pure,Result.andThen_ok,List.map_toArray,List.map_cons,List.map_nil,bR B,bR C];simp[Builtin.min_,Builtin.min2,e]
theorem IY(m:Mem Bw w0 ρ φ h w){o:Oper}{a:Act}{u z:Operand}{f:Array TypeId}{β q:Bool}{k:IntKind}{i j:Int}(B:V (Fr (own φ h) Bw w) ρ (.p β (.int k) i) (a.eval u))(C:V (Fr (own φ h) Bw w) ρ (.p q (.int k) j) (a.eval z))
  (D:o.op = .call { callee:= .builtin .max,args:= #[u,z],argTypes:=f }):Good P o a w (aG Bw w0 ρ φ h w new (.p false (.int k) (max i j)) []):=by
 refine Good.aH (v:= .int k (max i j)) (w':=w) ?_ (aG.pure m (dM _ _ _));have e:(if j > i then j else i)=max i j:=by omega
 simp only[execOp,D,resolve,invoke,builtin,Sem.run_bind,Sem.run_pure,Result.andThen_ok,List.map_toArray,List.map_cons,List.map_nil,bR B,bR C];simp[Builtin.max_,Builtin.max2,e]
end
end Go.Tv
