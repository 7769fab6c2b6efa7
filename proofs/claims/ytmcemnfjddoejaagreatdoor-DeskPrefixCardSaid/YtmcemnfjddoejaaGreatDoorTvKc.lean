/- Maps. -/
import Derived.Test.YtmcemnfjddoejaaGreatDoorTvKb
import Derived.MapKept
import Derived.ChangeKeysEq
namespace Go.Tv
open Go Go.RowKit
open Go.MapKept (IsKey findNow_spec run_checkKey run_findKey run_setObj_map heap_set run_keyThatStays modify_keys)
def cq:(K:Ty)→K.den→K.den→Bool
 | .int _,a,b=> @BEq.beq Int _ a b
 | .bool,a,b=> @BEq.beq Bool _ a b
 | .str,a,b=> @BEq.beq (List UInt8) _ a b
 | .unit,_,_=>true
 | .prod A B,a,b=>cq A a.1 b.1 && cq B a.2 b.2
 | .arr _ _,a,b=>H3 a b
 | _,_,_=>false
theorem eK:∀ {K:Ty} {a b:K.den},K.isKey=true→(cq K a b=true↔a=b)
 | .int _,a,b,_=>by
  show(@BEq.beq Int _ a b)=true↔a=b;exact beq_iff_eq
 | .bool,a,b,_=>by
  show(@BEq.beq Bool _ a b)=true↔a=b;exact beq_iff_eq
 | .str,a,b,_=>by
  show(@BEq.beq (List UInt8) _ a b)=true↔a=b;exact beq_iff_eq
 | .flt,_,_,h=>by cases h
 | .unit,_,_,_=>⟨fun _=>rfl,fun _=>rfl⟩
 | .prod A B,a,b,h=>by
  simp only[Ty.isKey,Bool.and_eq_true]at h;simp only[cq,Bool.and_eq_true,eK h.1,eK h.2];exact⟨fun e=>Prod.ext e.1 e.2,fun e=>by rw[e];exact⟨rfl,rfl⟩⟩
 | .slice _,_,_,h=>by cases h
 | .ptr _,_,_,h=>by cases h
 | .tree _ _,_,_,h=>by cases h
 | .mapi _ _,_,_,h=>by cases h
 | .arr _ _,a,b,_=>by
  show(a.1 == b.1)=true↔a=b;rw[beq_iff_eq];exact⟨Subtype.ext,fun e=>by rw[e]⟩
theorem cM:∀ {K:Ty} {a:K.den},K.isKey=true→(ck K a).length=K.size
 | .int _,_,_=>rfl
 | .bool,_,_=>rfl
 | .str,_,_=>rfl
 | .flt,_,h=>by cases h
 | .unit,_,_=>rfl
 | .prod A B,a,h=>by
  simp only[Ty.isKey,Bool.and_eq_true]at h;simp only[ck,Ty.size,List.length_append,cM h.1,cM h.2]
 | .slice _,_,h=>by cases h
 | .ptr _,_,h=>by cases h
 | .tree _ _,_,h=>by cases h
 | .mapi _ _,_,h=>by cases h
 | .arr _ _,a,_=>by simp[ck,Ty.size,a.2]
theorem iU:∀ {K:Ty} {a b:K.den},K.isKey=true→ck K a=ck K b→a=b
 | .int _,a,b,_,h=>by simpa [ck]using h
 | .bool,a,b,_,h=>by simpa [ck]using h
 | .str,a,b,_,h=>by simpa [ck]using h
 | .flt,_,_,h,_=>by cases h
 | .unit,_,_,_,_=>rfl
 | .prod A B,a,b,h,e=>by
  simp only[Ty.isKey,Bool.and_eq_true]at h;simp only[ck]at e;obtain⟨c,f⟩:=List.append_inj e (by rw[cM h.1,cM h.1]);exact Prod.ext (iU h.1 c) (iU h.2 f)
 | .slice _,_,_,h,_=>by cases h
 | .ptr _,_,_,h,_=>by cases h
 | .tree _ _,_,_,h,_=>by cases h
 | .mapi _ _,_,_,h,_=>by cases h
 | .arr k _,a,b,_,e=>by
  simp only[ck]at e;exact Subtype.ext (List.map_inj_right (fun x y h=>by simpa using h) |>.1 e)
theorem eY:∀ {K:Ty} {a b:K.den},K.isKey=true→aO K a=aO K b→a=b
 | .int _,a,b,_,h=>by simpa [aO]using h
 | .bool,a,b,_,h=>by simpa [aO]using h
 | .str,a,b,_,h=>by simpa [aO]using h
 | .flt,_,_,h,_=>by cases h
 | .unit,_,_,_,_=>rfl
 | .prod A B,a,b,h,e=>by
  simp only[aO,Value.agg.injEq]at e;exact iU h (List.toArray_inj e)
 | .slice _,_,_,h,_=>by cases h
 | .ptr _,_,_,h,_=>by cases h
 | .tree _ _,_,_,h,_=>by cases h
 | .mapi _ _,_,_,h,_=>by cases h
 | .arr _ _,a,b,h,e=>by
  simp only[aO,Value.agg.injEq]at e;exact iU h (List.toArray_inj e)
def IA:TK→Option Ty
 | .int k=>some (.int k)
 | .bool=>some .bool
 | .str=>some .str
 | _=>none
theorem G2{k:TK}{K:Ty}(h:IA k=some K):K.isKey=true:=by cases k <;> cases h <;> rfl
theorem zY{P:Program}{d:TypeDesc}{k:TK}{K:Ty}(h:IA k=some K)(c:UK P d k)(x:K.den):IsKey d (aO K x):=by
 cases k <;> cases h <;> simp only[UK]at c <;> subst c <;> simp[IsKey,aO]
theorem so{F:Bool→Addr→Value→Prop}{ρ:Nat→Option Value}{β:Bool}:∀ {K:Ty} {x:K.den} {v:Value},K.isKey=true→K.scalar=true→V F ρ (.p β K x) v→v=aO K x
 | .int _,_,_,_,_,h=>bV h
 | .bool,_,_,_,_,h=>jY h
 | .str,_,_,_,_,h=>pG h
 | .flt,_,_,h,_,_=>by cases h
 | .unit,_,_,_,h,_=>by cases h
 | .prod _ _,_,_,_,h,_=>by cases h
 | .slice _,_,_,h,_,_=>by cases h
 | .ptr _,_,_,h,_,_=>by cases h
 | .tree _ _,_,_,h,_,_=>by cases h
 | .mapi _ _,_,_,h,_,_=>by cases h
 | .arr _ _,_,_,_,h,_=>by cases h
theorem j5{F:Addr→Value→Prop}:∀ {K:Ty} {x:K.den} {l:List Value} {o:Nat},K.isKey=true→ai F K x (fun k u=>l[o+k]? = some u)→∀k,k<K.size→l[o+k]? = (ck K x)[k]?
 | .int _,_,_,_,_,h,k,c=>by
  obtain rfl:k=0:=by simp only[Ty.size]at c;omega
  simp only[ai]at h;rw[h];rfl
 | .bool,_,_,_,_,h,k,c=>by
  obtain rfl:k=0:=by simp only[Ty.size]at c;omega
  simp only[ai]at h;rw[h];rfl
 | .str,_,_,_,_,h,k,c=>by
  obtain rfl:k=0:=by simp only[Ty.size]at c;omega
  simp only[ai]at h;rw[h];rfl
 | .flt,_,_,_,h,_,_,_=>by cases h
 | .unit,_,_,_,_,_,k,c=>by simp only[Ty.size]at c;omega
 | .prod A B,x,l,o,h,e,k,c=>by
  simp only[Ty.isKey,Bool.and_eq_true]at h;simp only[ai]at e;simp only[Ty.size]at c;simp only[ck];rcases Nat.lt_or_ge k A.size with f | f
  ·rw[List.getElem?_append_left (by rw[cM h.1];exact f)];exact j5 h.1 e.1 k f
  ·rw[List.getElem?_append_right (by rw[cM h.1];exact f),cM h.1];have:=j5 (o:=o+A.size) h.2 (ai.mono (fun _ _ h=>h) (fun k u c=>by rw[Nat.add_assoc];exact c) e.2) (k - A.size) (by omega);rw[←this];congr 1;omega
 | .slice _,_,_,_,h,_,_,_=>by cases h
 | .ptr _,_,_,_,h,_,_,_=>by cases h
 | .tree _ _,_,_,_,h,_,_,_=>by cases h
 | .mapi _ _,_,_,_,h,_,_,_=>by cases h
 | .arr j _,x,l,o,_,e,k,c=>by
  have hl:k<x.1.length:=by rw[x.2];exact c
  simp only[ai]at e;rw[e k hl];simp[ck,hl]
theorem jx:∀ {K:Ty} {x:K.den},K.isKey=true→K.scalar=false→aO K x = .agg (ck K x).toArray
 | .int _,_,_,h=>by cases h
 | .bool,_,_,h=>by cases h
 | .str,_,_,h=>by cases h
 | .flt,_,h,_=>by cases h
 | .unit,_,_,_=>rfl
 | .prod _ _,_,_,_=>rfl
 | .slice _,_,h,_=>by cases h
 | .ptr _,_,h,_=>by cases h
 | .tree _ _,_,h,_=>by cases h
 | .mapi _ _,_,h,_=>by cases h
 | .arr _ _,_,_,_=>rfl
structure fP(P:Program)(kt:TypeId)(K:Ty):Prop where
 isKey:K.isKey=true
 check:∀(e:Bool) (k:K.den) (w:World),(Instr.checkKey e 10000 kt (aO K k)).run P w = .ok () w
 find:∀(k:K.den) (l:List MapEntry) (ks:List K.den) (w:World),l.map (·.key)=ks.map (aO K) →
  ((Instr.findKey kt (aO K k) l).run P w = .ok none w∧∀x∈l,x.key≠aO K k) ∨
  ∃j e,(Instr.findKey kt (aO K k) l).run P w = .ok (some (j,e.val)) w∧l[j]? = some e∧e.key=aO K k
 stays:∀(k:K.den) (w:World),(Instr.keyThatStays (aO K k) (aO K k)).run P w = .ok (aO K k) w
theorem fP.BE{P:Program}{C:TypeId}{D:TI}(u:aQ P C D){K:Ty}(c:IA D.k=some K):fP P C K:=by
 obtain⟨d,z,f⟩:=u.hu;refine⟨G2 c,fun e k w=>run_checkKey z (zY c f k) e 9999,fun k l L w hl=> ?_,fun k w=>run_keyThatStays (zY c f k)⟩;have m:=zY (P:=P) c f k;have q:∀x∈l,IsKey d x.key:=fun x E=>by have:x.key∈l.map (·.key):=List.mem_map.2 ⟨x,E,rfl⟩;rw[hl]at this;obtain⟨p,_,I⟩:=List.mem_map.1 this;rw[←I];exact zY c f p
 rcases findNow_spec m l 0 q with⟨A,B⟩ | ⟨j,e,A,B,J⟩
 ·exact .inl ⟨run_findKey z A,B⟩
 ·exact .inr ⟨j,e,by rw[run_findKey z A,Nat.zero_add],B,J⟩
def nk(k:IntKind):Ty→Bool
 | .int c=>c == k
 | .unit=>true
 | .prod a b=>nk k a && nk k b
 | .arr c _=>c == k
 | _=>false
theorem ni{k:IntKind}:∀ {K:Ty},nk k K=true→K.isKey=true
 | .int _,_=>rfl
 | .bool,h=>by cases h
 | .str,h=>by cases h
 | .flt,h=>by cases h
 | .unit,_=>rfl
 | .prod _ _,h=>by
  simp only[nk,Bool.and_eq_true]at h;simp only[Ty.isKey,ni h.1,ni h.2,Bool.and_self]
 | .slice _,h=>by cases h
 | .ptr _,h=>by cases h
 | .tree _ _,h=>by cases h
 | .mapi _ _,h=>by cases h
 | .arr _ _,_=>rfl
theorem gC{k:IntKind}:∀ {K:Ty} (x:K.den),nk k K=true→∃l:List Int,l.length=K.size∧ck K x=l.map (Value.int k)
 | .int c,x,h=>by
  simp only[nk,beq_iff_eq]at h;subst h;exact⟨[x],rfl,rfl⟩
 | .bool,_,h=>by cases h
 | .str,_,h=>by cases h
 | .flt,_,h=>by cases h
 | .unit,_,_=>⟨[],rfl,rfl⟩
 | .prod a b,x,h=>by
  simp only[nk,Bool.and_eq_true]at h;obtain⟨l1,e,f⟩:=gC x.1 h.1;obtain⟨l2,j,m⟩:=gC x.2 h.2;exact⟨l1++l2,by simp[e,j,Ty.size],by simp[ck,f,m]⟩
 | .slice _,_,h=>by cases h
 | .ptr _,_,h=>by cases h
 | .tree _ _,_,h=>by cases h
 | .mapi _ _,_,h=>by cases h
 | .arr c _,x,h=>by
  simp only[nk,beq_iff_eq]at h;subst h;exact⟨x.1,x.2,rfl⟩
section
variable{P:Program}
theorem nV{e:TypeId}{k:IntKind}(m:P.underlying e=some (.int k))(d:Nat)(w:World){l1 l2:List Int}:∀(c:List Nat),(∀i∈c,i<l1.length∧i<l2.length) →
  ∃r:Bool,(Op.eqItems (d+1) e 1 (l1.map (Value.int k)).toArray (l2.map (Value.int k)).toArray c).run P w = .ok r w∧(r=true↔∀i∈c,l1[i]? = l2[i]?)
 | [],_=>⟨true,by simp[Op.eqItems],by simp⟩
 | i::c,h=>by
  obtain⟨p,q⟩:=h i (by simp);obtain⟨r,x,z⟩:=nV m d w c (fun j A=>h j (by simp[A]));have u:P.plainKey e=true:=by simp[Program.plainKey,m]
  have B:=run_part_plain (P:=P) w u (xs:=(l1.map (Value.int k)).toArray) (off:=i*1) (v:= .int k l1[i]) (by simp[p]);have C:=run_part_plain (P:=P) w u (xs:=(l2.map (Value.int k)).toArray) (off:=i*1) (v:= .int k l2[i]) (by simp[q]);simp only[Op.eqItems,Sem.run_bind,B,C,Result.andThen_ok,run_equalIn_int w d e k k _ _ m];by_cases f:l1[i]=l2[i]
  ·refine⟨r,by simpa [f]using x,?_⟩;rw[z];simp[p,q,f]
  ·refine⟨false,by simp[f],?_⟩;simp[p,q,f]
theorem yy{e:TypeId}{k:IntKind}(c:P.underlying e=some (.int k))(n:Nat)(em:Bool)(x:Int)(w:World):(Instr.checkKey em (n+1) e (.int k x)).run P w = .ok () w:=by
 unfold Instr.checkKey;simp only[Sem.run_bind,run_underlying c,Result.andThen];rfl
theorem fP.EE{t e:TypeId}{n:Nat}{k:IntKind}{i:TypeInfo}{K:Ty}(hu:P.underlying t=some (.array n e))(R:P.underlying e=some (.int k))(hi:P.info? e=some i)(hc:P.cellsOf e=1)
  (D:nk k K=true) (N:K.scalar=false) (hn:K.size=n):fP P t K:=by
 have u:=ni D;have heq:∀(a b:K.den) (w:World),∃r:Bool,(Op.equal t (aO K a) (aO K b)).run P w = .ok r w∧(r=true↔a=b):=fun a b w=>by
  obtain⟨l1,e1,A⟩:=gC a D;obtain⟨l2,e2,V⟩:=gC b D;rw[jx u N,jx u N,A,V];obtain⟨r,X,O⟩:=nV (P:=P) R 9998 w (l1:=l1) (l2:=l2) (List.range n) (fun i hi=>by simp at hi;omega);refine⟨r,?_,?_⟩
  ·unfold Op.equal Op.maxDepth;rw[show(10000:Nat)=9999+1 from rfl,run_equalIn_array w 9999 _ _ hu hi,hc];exact X
  ·rw[O];constructor
   ·intro h;have:l1=l2:=List.ext_getElem? fun i=>by
     rcases Nat.lt_or_ge i n with c | c
     ·exact h i (by simpa using c)
     ·rw[List.getElem?_eq_none (by omega),List.getElem?_eq_none (by omega)]
    exact iU u (by rw[A,V,this])
   ·rintro rfl j _;have:l1.map (Value.int k)=l2.map (Value.int k):=by rw[←A,←V]
    have B:=congrArg (fun l=>l[j]?) this;simp only[List.getElem?_map]at B;cases c:l1[j]? <;> cases C:l2[j]? <;> simp[c,C]at B ⊢
    exact B
 refine⟨u,fun em a w=> ?_,fun a l f w hl=> ?_,fun a w=> ?_⟩
 ·obtain⟨l1,e1,A⟩:=gC a D;rw[jx u N,A,show(10000:Nat)=9999+1 from rfl,Instr.checkKey];simp only[Sem.run_bind,run_underlying hu,Result.andThen_ok];simp only[Std.Legacy.Range.forIn_eq_forIn_range',Std.Legacy.Range.size,Nat.sub_zero,Nat.add_one_sub_one,Nat.div_one];have hin:∀j∈List.range' 0 n,j<l1.length:=fun j B=>by simp at B;omega
  generalize List.range' 0 n=is at hin;induction is with
  | nil=>simp
  | cons j is E =>
   have B:=hin j (by simp);have Y:P.plainKey e=true:=by simp[Program.plainKey,R]
   have p1:=run_part_plain (P:=P) w Y (xs:=(l1.map (Value.int k)).toArray) (off:=j*1) (v:= .int k l1[j]) (by simp[B]);simp only[List.forIn_cons,Sem.run_bind,(Go.run_sizeOf w hi:(sizeOf e).run P w=_),hc,Result.andThen_ok,p1,yy R 9998 em,Sem.run_pure];exact E (fun y I=>hin y (by simp[I]))
 ·have J:∀(l:List MapEntry) (f:List K.den) (q:Nat),l.map (·.key)=f.map (aO K) →
    ((Instr.findAsking t (aO K a) l q).run P w = .ok none w∧∀x∈l,x.key≠aO K a) ∨
    ∃j e,(Instr.findAsking t (aO K a) l q).run P w = .ok (some (q+j,e.val)) w∧l[j]? = some e∧e.key=aO K a:=by
   intro l;induction l with
   | nil=>intro f q _;exact .inl ⟨by simp[Instr.findAsking],by simp⟩
   | cons x l E =>
    intro f q h;cases f with
    | nil=>simp at h
    | cons b f =>
     simp only[List.map_cons,List.cons.injEq]at h;obtain⟨r,X,O⟩:=heq a b w;unfold Instr.findAsking;rw[Sem.run_bind,h.1,X];simp only[Result.andThen_ok];cases r with
     | true =>
      have:=O.1 rfl;subst this;exact .inr ⟨0,x,by simp,rfl,h.1⟩
     | false =>
      have Z:b≠a:=fun e=>by have:=O.2 e.symm;cases this
      rcases E f (q+1) h.2 with⟨c,C⟩ | ⟨j,y,c,C,h3⟩
      ·refine .inl ⟨by simpa using c,fun y I=> ?_⟩;rcases List.mem_cons.1 I with rfl | I
       ·rw[h.1];exact fun e=>Z (eY u e)
       ·exact C y I
      ·exact .inr ⟨j+1,y,by simp only[Bool.false_eq_true,if_false];rw[c,show q+1+j=q+(j+1) by omega],C,h3⟩
  cases l with
  | nil=>exact .inl ⟨by simp[Instr.findKey,run_underlying hu,Result.andThen,Instr.findNow],by simp⟩
  | cons x l =>
   have L:Instr.findNow (.array n e) (aO K a) (x::l) 0=none:=by simp[Instr.findNow,Instr.sameNow]
   have M:(Instr.findKey t (aO K a) (x::l)).run P w=(Instr.findAsking t (aO K a) (x::l) 0).run P w:=by simp only[Instr.findKey,Sem.run_bind,run_underlying hu,Result.andThen_ok,L]
   rw[M];rcases J (x::l) f 0 hl with h | ⟨j,y,c,C,h3⟩
   ·exact .inl h
   ·exact .inr ⟨j,y,by rw[c,Nat.zero_add],C,h3⟩
 ·obtain⟨l1,e1,A⟩:=gC a D;rw[jx u N,A];have hb:Instr.sameBits 10000 (.agg (l1.map (Value.int k)).toArray) (.agg (l1.map (Value.int k)).toArray)=true:=by
   rw[show(10000:Nat)=9999+1 from rfl,Instr.sameBits];simp only[beq_self_eq_true,Bool.true_and,List.all_eq_true];intro p Y;obtain⟨x,y⟩:=p;have a1:∀(l:List Value),(x,y)∈l.zip l→x=y∧x∈l:=by
    intro l;induction l with
    | nil=>simp
    | cons z l E =>
     intro h;simp only[List.zip_cons_cons,List.mem_cons,Prod.mk.injEq]at h;rcases h with⟨rfl,rfl⟩ | h
     ·simp
     ·obtain⟨e,m⟩:=E h;exact⟨e,by simp[m]⟩
   obtain⟨rfl,hx⟩:=a1 _ Y;obtain⟨z,_,rfl⟩:=List.mem_map.1 (by simpa using hx);simp[Instr.sameBits]
  simp[Instr.keyThatStays,hb]
end
def bc{α:Type}(K:Ty):List (K.den×α)→K.den→Option α
 | [],_=>none
 | p::r,k=>if cq K p.1 k then some p.2 else bc K r k
def dN{α:Type}(K:Ty):List (K.den×α)→K.den→α→List (K.den×α)
 | [],k,x=>[(k,x)]
 | p::r,k,x=>if cq K p.1 k then(k,x)::r else p::dN K r k x
section
variable{α:Type}{K:Ty}
theorem jq(c:K.isKey=true){k:K.den}:∀ {f:List (K.den×α)},(∀p∈f,p.1≠k)→bc K f k=none
 | [],_=>rfl
 | p::r,h=>by
  simp only[bc];rw[if_neg (fun e=>h p (by simp) ((eK c).1 e))];exact jq c fun q j=>h q (by simp[j])
theorem ll(c:K.isKey=true){k:K.den}:∀ {f:List (K.den×α)} {j:Nat} {p:K.den×α},(f.map (·.1)).Nodup→f[j]? = some p→p.1=k→bc K f k=some p.2
 | [],j,p,_,h,_=>by simp at h
 | q::r,0,p,_,h,e=>by
  simp at h;subst h;simp only[bc];rw[if_pos ((eK c).2 e)]
 | q::r,j+1,p,m,h,e=>by
  simp only[List.map_cons,List.nodup_cons]at m;simp only[bc];have u:p∈r:=List.mem_of_getElem? (by simpa using h);rw[if_neg (fun x=>m.1 (List.mem_map.2 ⟨p,u,by rw[e];exact((eK c).1 x).symm⟩))];exact ll c m.2 (by simpa using h) e
theorem yX(f:K.isKey=true){k:K.den}{x:α}:∀ {c:List (K.den×α)},(∀p∈c,p.1≠k)→dN K c k x=c++[(k,x)]
 | [],_=>rfl
 | p::r,h=>by
  simp only[dN];rw[if_neg (fun e=>h p (by simp) ((eK f).1 e)),yX f fun q j=>h q (by simp[j])];rfl
theorem zm(f:K.isKey=true){k:K.den}{x:α}:∀ {c:List (K.den×α)} {j:Nat} {p:K.den×α},(c.map (·.1)).Nodup→c[j]? = some p→p.1=k→dN K c k x=c.set j (k,x)
 | [],j,p,_,h,_=>by simp at h
 | q::r,0,p,_,h,e=>by
  simp at h;subst h;simp only[dN];rw[if_pos ((eK f).2 e)];rfl
 | q::r,j+1,p,m,h,e=>by
  simp only[List.map_cons,List.nodup_cons]at m;simp only[dN];have u:p∈r:=List.mem_of_getElem? (by simpa using h);rw[if_neg (fun v=>m.1 (List.mem_map.2 ⟨p,u,by rw[e];exact((eK f).1 v).symm⟩)),zm f m.2 (by simpa using h) e];rfl
end
def enc(β:Bool)(T:Ty)(x:T.den):ag:=if T.scalar then .p β T x else .agg (flat β T x)
theorem FW{F:Bool→Addr→Value→Prop}{ρ:Nat→Option Value}{A:Ty}{x:A.den}{v:Value}(h:MV (F false) A x v):V F ρ (enc false A x) v:=by
 obtain⟨e,j,m,p⟩:=h;unfold enc;split
 ·rename_i c;have q:=iE (m c);simp only[V];refine⟨c,?_⟩;rw[q]at e;refine ai.fR (fun k u f hu=> ?_) e;rw[Ty.eS c]at f;obtain rfl:k=0:=by omega
  simp at hu;exact hu.symm
 ·rename_i c;obtain⟨z,rfl⟩:=p (by simpa using c);simp only[V];refine⟨z,rfl,by rw[dR,←j];rfl,jE false A x _ (ai.mono (fun _ _ h=>h) (fun k u f=>by simpa [Value.cells]using f) e)⟩
def kB(T:Ty)(x:ag):Bool :=
 match x with
 | .agg _=> !T.scalar
 | .lag _ _ _ _=>false
 | _=>T.scalar
section
variable{P:Program}{Bw:Nat→Prop}{w0:b9 P}{ρ:Nat→Option Value}{φ:Nat→Nat→Prop}{h:Nat→Option Obj}{w:World}{new:Nat}
theorem Ai(m:Mem Bw w0 ρ φ h w)(q:ρ new=none){o:Oper}{a:Act}{t:TypeId}{K A:Ty}(u:K.isKey=true)(x:o.op = .makeMap t none):
  Good P o a w (aE Bw w0 ρ φ h w new (.mp new) [(new,some (.mpo K A []))]):=by
 have c:(Instr.makeMap t none).run P w = .ok (.map (some w.heap.size)) (w.alloc (.map #[] 0)):=rfl;refine Good.aH (v:= .map (some w.heap.size)) (w':=w.alloc (.map #[] 0)) (by simp only[execOp,x,Option.map_none,Sem.run_bind,c,Result.andThen_ok];rfl) ?_;refine cQ m none new (.mpo K A []) (.map (some w.heap.size)) none (World.grownBy_alloc w _ none) (fun k e=>by cases e) (.inl q) (fun _ k z=> ?_) (fun F' j B p=> ?_)
  (by rw[bn];rfl) (fun _=>rfl) (fun F' j B p f=> ?_)
 ·simp only[iB,Option.some.injEq]at z;exact .inl (by omega)
 ·exact⟨_,#[],0,rfl,rfl,heap_alloc_new w _,⟨u,List.nodup_nil,fun e C=>by cases C⟩,rfl,List.nodup_nil,fun i hi=>absurd hi (by simp)⟩
 ·simp only[V];exact⟨f,_,rfl⟩
theorem vD{F:Addr→Value→Prop}{t:TypeId}{ti:TI}(m:aQ P t ti){A:Ty}(hT:ti.T=some A){z:Value}(hz:(zeroValue t).run P w = .ok z w)(p:z.cells.toList.map lh=ti.z)(q:z.cells.size=ti.size)
  (u:∀c∈z.cells.toList,c.oneCell'=true):MV F A A.zero z:=by
 obtain⟨x,f,B⟩:=m.hT A hT;have I:=g9 (F:=fun _=>F) (ρ:=jK) z.cells.toList;rw[p]at I;obtain⟨i,j,J,L,_⟩:=m.hi;have C:j=z:=by simp[zeroValue,typeInfo,J,L]at hz;exact hz
 subst C;have e:=m.hz;rw[J]at e;simp only[Option.bind_some,L,Option.map_some,Option.some.injEq]at e;refine⟨(cy B I).1,by rw[q,x],fun D=> ?_,fun D=> ?_⟩
 ·rw[D]at f;have E:ti.k.agg=false:=by simpa using f.symm
  rw[E]at e;have M:j.cells = #[j]:=by cases j <;> first | rfl | (simp at e)
  exact u j (by rw[M];simp)
 ·rw[D]at f;have E:ti.k.agg=true:=by simpa using f.symm
  rw[E]at e;cases j <;> first | exact⟨_,rfl⟩ | (simp at e)
theorem tD(m:Mem Bw w0 ρ φ h w){id:Nat}{K A:Ty}{f:List (K.den×A.den)}(hi:h id=some (.mpo K A f)){v:Value}(j:V (Fr (own φ h) Bw w) ρ (.mp id) v):
  ∃r c clock,v = .map (some r)∧ρ id=some (.map (some r))∧φ id r∧w.heap[r]? = some (.map c clock)∧(K.isKey=true∧yf c clock)∧c.toList.map (·.key)=f.map (fun p=>aO K p.1)∧(f.map (·.1)).Nodup ∧
   ∀i (h':i<f.length),∃e:MapEntry,c[i]? = some e∧MV (Fr (own φ h) Bw w false) A f[i].2 e.val:=by
 obtain⟨u,q,r,c,clock,rfl,z⟩:=m.ob id _ hi;simp only[V]at j;rw[j.1]at q;cases q;exact⟨r,c,clock,rfl,j.1,z⟩
theorem jH{f:Array MapEntry}{K:Ty}{α:Type}{m:List (K.den×α)}(u:f.toList.map (·.key)=m.map (fun p=>aO K p.1)){j:Nat}{e:MapEntry}(z:f.toList[j]? = some e):
  ∃p,m[j]? = some p∧e.key=aO K p.1:=by
 have c:(f.toList.map (·.key))[j]? = some e.key:=by rw[List.getElem?_map,z];rfl
 rw[u,List.getElem?_map]at c;cases q:m[j]? with
 | none=>rw[q]at c;cases c
 | some p=>rw[q]at c;simp at c;exact⟨p,rfl,c.symm⟩
theorem A5(m:Mem Bw w0 ρ φ h w){o:Oper}{a:Act}{t kt et:TypeId}{ti te:TI}(ht:aQ P t ti)(hk:ti.k = .mp kt et){K:Ty}(u:fP P kt K)(B:aQ P et te){A:Ty}(hT:te.T=some A)
  {xo ko:Operand} {c:Bool} (ho:o.op = .lookup t xo ko c) {id:Nat} {q:List (K.den×A.den)} (hi:h id=some (.mpo K A q)) (hx:V (Fr (own φ h) Bw w) ρ (.mp id) (a.eval xo)) {k:K.den} (e2:a.eval ko=aO K k) :
  Good P o a w (aE Bw w0 ρ φ h w new (if c then .tup [enc false A ((bc K q k).getD A.zero),.p false .bool (bc K q k).isSome]else enc false A ((bc K q k).getD A.zero)) []):=by
 obtain⟨r,O,clock,e1,_,_,hb,⟨Y,_⟩,f,Z,C⟩:=tD m hi hx;obtain⟨dm,hm,D⟩:=ht.hu;rw[hk]at D;simp only[UK]at D;subst D;have a1:O.toList.map (·.key)=(q.map (·.1)).map (aO K):=by rw[f,List.map_map];rfl
 obtain⟨z,hz,a2,a3,a4⟩:=dg B w;obtain⟨aa,ac,ad⟩:=B.hT A hT;have M:∀(v:Value) (x:A.den) (b:Bool),MV (Fr (own φ h) Bw w false) A x v→V (Fr (own φ h) Bw w) ρ (if c then .tup [enc false A x,.p false .bool b]else enc false A x) (if c then .tuple #[v,.bool b]else v):=fun v x b hv=>by
  cases c
  ·exact FW hv
  ·simp only[if_true,V,VL];refine⟨_,rfl,rfl,⟨v,by simp,FW hv⟩,⟨.bool b,by simp,?_⟩,trivial⟩;simp only[V,ai];exact⟨rfl,trivial⟩
 rcases u.find k O.toList (q.map (·.1)) w a1 with⟨h1,R⟩ | ⟨j,e,h1,R,h3⟩
 ·have E:bc K q k=none:=jq Y fun p J e=>by
   obtain⟨j,X⟩:=List.mem_iff_getElem?.1 J;have L:(q.map (fun p=>aO K p.1))[j]? = some (aO K p.1):=by rw[List.getElem?_map,X];rfl
   rw[←f,List.getElem?_map]at L;cases hq:O.toList[j]? with
   | none=>rw[hq]at L;cases L
   | some x =>rw[hq]at L;simp at L;exact R x (List.mem_of_getElem? hq) (by rw[L,e])
  rw[E];have a5:MV (Fr (own φ h) Bw w false) A A.zero z:=vD B hT hz a2 a3 a4;refine Good.aH (v:=if c then .tuple #[z,.bool false]else z) (w':=w) ?_ (aE.pure m (M z _ false a5));simp only[execOp,ho];rw[e1,e2];cases c <;> simp[Instr.lookup,run_underlying hm,Go.MapKept.run_getObj_map hb,u.check,h1,hz,Result.andThen]
 ·obtain⟨p,J,a6⟩:=jH f R;have a7:p.1=k:=eY Y (by rw[←a6,h3]);have I:=ll (α:=A.den) Y Z J a7;rw[I];have X:j<q.length:=(List.getElem?_eq_some_iff.1 J).1;obtain⟨N,q1,q2⟩:=C j X;have a8:N=e:=by
   have:O.toList[j]? = some N:=by simpa using q1
   rw[R]at this;cases this;rfl
  subst a8;have a9:q[j]=p:=by rw[List.getElem?_eq_getElem X]at J;simpa using J
  rw[a9]at q2;refine Good.aH (v:=if c then .tuple #[N.val,.bool true]else N.val) (w':=w) ?_ (aE.pure m (M N.val _ true q2));simp only[execOp,ho];rw[e1,e2];cases c <;> simp[Instr.lookup,run_underlying hm,Go.MapKept.run_getObj_map hb,u.check,h1,Result.andThen]
theorem fY(w:World)(r:Nat)(o:Go.Obj):w.grownBy { w with heap:=w.heap.setIfInBounds r o } (some r):=by
 refine⟨rfl,rfl,rfl,by simp,fun k f c=> ?_⟩;have:r≠k:=fun e=>c (by rw[e])
 simp[Array.getElem?_setIfInBounds_ne this]
theorem yf.push{j:Array MapEntry}{c:Nat}(h:yf j c)(k v:Value):yf (j.push { key:=k,val:=v,born:=c }) (c+1):=by
 refine⟨?_,fun e f=> ?_⟩
 ·simp only[Array.toList_push,List.map_append,List.map_cons,List.map_nil];refine List.nodup_append.2 ⟨h.1,by simp,fun a ha b hb e=> ?_⟩;simp only[List.mem_singleton]at hb;obtain⟨p,m,rfl⟩:=List.mem_map.1 ha;have:=h.2 p m;omega
 ·simp only[Array.toList_push,List.mem_append,List.mem_singleton]at f;rcases f with f | rfl
  ·exact Nat.lt_succ_of_lt (h.2 e f)
  ·exact Nat.lt_succ_self _
theorem yf.modify{m:Array MapEntry}{c:Nat}(h:yf m c)(j:Nat)(f:MapEntry→MapEntry)(q:∀e,(f e).born=e.born):yf (m.modify j f) c:=by
 have p:(m.modify j f).toList.map (·.born)=m.toList.map (·.born):=by
  refine List.ext_getElem? fun i=> ?_
  simp only[List.getElem?_map,Array.getElem?_toList,Array.getElem?_modify];split
  ·cases m[i]? <;> simp[q]
  ·rfl
 refine⟨by rw[p];exact h.1,fun e u=> ?_⟩;have:e.born∈(m.modify j f).toList.map (·.born):=List.mem_map_of_mem u;rw[p]at this;obtain⟨z,A,B⟩:=List.mem_map.1 this;rw[←B];exact h.2 z A
theorem oM(m:Mem Bw w0 ρ φ h w){o:Oper}{a:Act}{t kt et:TypeId}{ti:TI}(ht:aQ P t ti)(hk:ti.k = .mp kt et){K:Ty}(I:fP P kt K){A:Ty}
  {xo ko M:Operand} (N:o.op = .mapUpdate t xo ko M∨o.op = .insert t xo ko M) {id:Nat} {u:List (K.den×A.den)} {R:hZ} (bi:h id=some (.mpo K A u)) (hi:apply R h id=some (.mpo K A u)) (hx:V (Fr (own φ h) Bw w) ρ (.mp id) (a.eval xo)) {k:K.den} (e2:a.eval ko=aO K k)
  {y:ag} (hy:V (Fr (own φ h) Bw w) ρ y (a.eval M)) (hc:(cellsOf y).all ag.cell=true) (hs:kB A y=true) {x:A.den} (hz:F5 A h y=some (x,R)) :
  Good P o a w (aE Bw w0 ρ φ h w new .unk (R++[(id,some (.mpo K A (dN K u k x)))])):=by
 obtain⟨m',a5,b2⟩:=mN m hz;obtain⟨r,O,clock,e1,X,a6,hb,⟨hK,hB⟩,f,Y,B⟩:=tD m' hi (V.mono a5 (fun _ _ h=>h) hx);obtain⟨dm,hm,Z⟩:=ht.hu;rw[hk]at Z;simp only[UK]at Z;subst Z;have b3:O.toList.map (·.key)=(u.map (·.1)).map (aO K):=by rw[f,List.map_map];rfl
 obtain⟨r1,r2,r3⟩:=fA hc hy;obtain⟨s1,s2⟩:=b2 _ r1;have a7:MV (Fr (own φ (apply R h)) Bw w false) A x (a.eval M):=by
  refine⟨s1,by rw[s2,←r2];simp,fun a1=> ?_,fun a1=> ?_⟩
  ·have a2:cellsOf y=[y]:=by cases y <;> first | rfl | (simp[kB,a1]at hs)
   rw[a2]at hc;simp only[List.all_cons,List.all_nil,Bool.and_true]at hc;exact rz hc hy
  ·cases y with
   | agg cs =>
    simp only[V]at hy;obtain⟨vs,e,_⟩:=hy;exact⟨vs,e⟩
   | _=>simp[kB,a1]at hs
 have a8:O.size=u.length:=by have:=congrArg List.length f;simpa using this
 have a9:∀(z:Array MapEntry) (c:Nat),(execOp a.eval o).run P w = .ok .skip { w with heap:=w.heap.setIfInBounds r (.map z c) }→yf z c→z.toList.map (·.key)=(dN K u k x).map (fun p=>aO K p.1) →
   ((dN K u k x).map (·.1)).Nodup→(∀i (h':i<(dN K u k x).length),∃e:MapEntry,z[i]? = some e∧MV (Fr (own φ (apply R h)) Bw w false) A (dN K u k x)[i].2 e.val) →
   Good P o a w (aE Bw w0 ρ φ h w new .unk (R++[(id,some (.mpo K A (dN K u k x)))])):=fun z c aa q0 q1 q2 q3=>by
  refine Good.kx aa ?_;refine aE.after (u1:=R) rfl a5 ?_;refine eH m' (some id) id (.mpo K A (dN K u k x)) (.map (some r)) (φ id) (some r) (fY w r _) (fun k e=>⟨id,_,rfl,hi,rfl,by cases e;exact a6⟩) (.inr ⟨rfl,X⟩)
   (fun _ k hk=>Nat.lt_of_lt_of_le (m'.lt id _ k hi rfl hk) (fY w r (.map z c)).size) (fun _ k hk=> .inr ⟨id,_,rfl,hi,rfl,hk⟩) (fun F' b4 hF b6=> ?_) (by rw[aZ];rfl) (fun e=>by rw[X]at e;cases e) (fun F' b4 hF X be=>by simp only[V])
  exact⟨r,z,c,rfl,a6,(heap_set hb).1,⟨hK,q0⟩,q1,q2,fun i hi=>let ⟨e,t1,t2,t3⟩:=q3 i hi;⟨e,t1,ai.mono (hF _) (fun _ _ h=>h) t2,t3⟩⟩
 rcases I.find k O.toList (u.map (·.1)) w b3 with⟨h1,h2⟩ | ⟨j,e,h1,h2,h3⟩
 ·have ac:∀p∈u,p.1≠k:=fun p D e=>by
   obtain⟨j,hj⟩:=List.mem_iff_getElem?.1 D;have E:(u.map (fun p=>aO K p.1))[j]? = some (aO K p.1):=by rw[List.getElem?_map,hj];rfl
   rw[←f,List.getElem?_map]at E;cases hq:O.toList[j]? with
   | none=>rw[hq]at E;cases E
   | some x =>rw[hq]at E;simp at E;exact h2 x (List.mem_of_getElem? hq) (by rw[E,e])
  have q:=yX (x:=x) hK ac;refine a9 (O.push { key:=aO K k,val:=a.eval M,born:=clock }) (clock+1) ?_ (hB.push _ _) ?_ ?_ ?_
  ·rcases N with N | N <;>
   ·simp only[execOp,N];rw[e1,e2];simp[Instr.mapUpdate,run_underlying hm,Go.MapKept.run_getObj_map hb,I.check,h1,run_setObj_map _ hb,Result.andThen]
  ·rw[q];simp[f]
  ·rw[q];simp only[List.map_append,List.map_cons,List.map_nil];refine List.nodup_append.2 ⟨Y,by simp,fun a ha b hb e=> ?_⟩;simp only[List.mem_singleton]at hb;obtain⟨p,D,rfl⟩:=List.mem_map.1 ha;exact ac p D (by rw[e,hb])
  ·rw[q];intro i J;simp only[List.length_append,List.length_cons,List.length_nil]at J;rcases Nat.lt_or_ge i u.length with E | E
   ·obtain⟨L,t1,t2⟩:=B i E;exact⟨L,by rw[Array.getElem?_push,if_neg (by omega)];exact t1,by rw[List.getElem_append_left E];exact t2⟩
   ·obtain rfl:i=u.length:=by omega
    exact⟨_,by rw[Array.getElem?_push,if_pos a8.symm],by simpa using a7⟩
 ·obtain⟨p,D,b5⟩:=jH f h2;have a3:p.1=k:=eY hK (by rw[←b5,h3]);have q:=zm (x:=x) hK Y D a3;have hj:O[j]? = some e:=by simpa using h2
  have ad:j<u.length:=(List.getElem?_eq_some_iff.1 D).1;have a4:∀L,O[j]? = some L→({ L with key:=aO K k,val:=a.eval M }:MapEntry).key=L.key:=fun L ax=>by rw[hj]at ax;cases ax;exact h3.symm
  have b1:(u.set j (k,x)).map (·.1)=u.map (·.1):=by
   rw[List.map_set];simp only;refine List.ext_getElem? fun i=> ?_
   rw[List.getElem?_set];split
   ·rename_i C;subst C;simp[ad,D,a3];rw[List.getElem?_eq_getElem ad]at D;simp at D;rw[D,a3]
   ·rfl
  refine a9 (O.modify j fun e=> { e with key:=aO K k,val:=a.eval M }) clock ?_ (hB.modify j _ fun _=>rfl) ?_ ?_ ?_
  ·rcases N with N | N <;>
   ·simp only[execOp,N];rw[e1,e2];simp[Instr.mapUpdate,run_underlying hm,Go.MapKept.run_getObj_map hb,I.check,h1,hj,h3,I.stays,run_setObj_map _ hb,Result.andThen]
  ·rw[modify_keys j _ a4,q,f];have:(u.set j (k,x)).map (fun p=>aO K p.1)=((u.set j (k,x)).map (·.1)).map (aO K):=by rw[List.map_map];rfl
   rw[this,b1,List.map_map];rfl
  ·rw[q,b1];exact Y
  ·rw[q];intro i J;simp only[List.length_set]at J;obtain⟨L,t1,t2⟩:=B i J;by_cases C:j=i
   ·subst C;refine⟨{ L with key:=aO K k,val:=a.eval M },by rw[Array.getElem?_modify,if_pos rfl,t1];rfl,by simpa using a7⟩
   ·refine⟨L,by rw[Array.getElem?_modify,if_neg C];exact t1,?_⟩;rw[List.getElem_set_ne C];exact t2
theorem xT(m:Mem Bw w0 ρ φ h w)(q:ρ new=none){o:Oper}{a:Act}{t:TypeId}{K:Ty}(u:K.isKey=true)(x:o.op = .makeMap t none):
  Good P o a w (aE Bw w0 ρ φ h w new (.mp new) [(new,some (.mpl K []))]):=by
 have c:(Instr.makeMap t none).run P w = .ok (.map (some w.heap.size)) (w.alloc (.map #[] 0)):=rfl;refine Good.aH (v:= .map (some w.heap.size)) (w':=w.alloc (.map #[] 0)) (by simp only[execOp,x,Option.map_none,Sem.run_bind,c,Result.andThen_ok];rfl) ?_;refine cQ m none new (.mpl K []) (.map (some w.heap.size)) none (World.grownBy_alloc w _ none) (fun k e=>by cases e) (.inl q) (fun _ k z=> ?_) (fun F' j B p=> ?_)
  (by rw[bn];rfl) (fun _=>rfl) (fun F' j B p f=> ?_)
 ·simp only[iB,Option.some.injEq]at z;exact .inl (by omega)
 ·exact⟨_,#[],0,rfl,rfl,heap_alloc_new w _,u,rfl,List.nodup_nil,fun i hi=>absurd hi (by simp)⟩
 ·simp only[V];exact⟨f,_,rfl⟩
theorem EC(m:Mem Bw w0 ρ φ h w){id:Nat}{K:Ty}{c:List (K.den×Value)}(hi:h id=some (.mpl K c)){v:Value}(j:V (Fr (own φ h) Bw w) ρ (.mp id) v):
  ∃r f clock,v = .map (some r)∧ρ id=some (.map (some r))∧φ id r∧w.heap[r]? = some (.map f clock)∧K.isKey=true∧f.toList.map (·.key)=c.map (fun p=>aO K p.1)∧(c.map (·.1)).Nodup ∧
   ∀i (h':i<c.length),∃e:MapEntry,f[i]? = some e∧e.val=c[i].2:=by
 obtain⟨u,k,r,f,clock,rfl,q⟩:=m.ob id _ hi;simp only[V]at j;rw[j.1]at k;cases k;exact⟨r,f,clock,rfl,j.1,q⟩
def jQ{α:Type}(K:Ty):List (K.den×α)→K.den→Nat→Prop
 | [],_,_=>True
 | p::_,k,0=>cq K p.1 k=true
 | p::r,k,j+1=>cq K p.1 k=false∧jQ K r k j
theorem vS{α:Type}{K:Ty}{k:K.den}:∀ {c:List (K.den×α)} {j:Nat},jQ K c k j→bc K c k=(c[j]?).map (·.2)
 | [],j,_=>by simp[bc]
 | p::r,0,h=>by
  simp only[jQ]at h;simp[bc,h]
 | p::r,j+1,h=>by
  simp only[jQ]at h;simp only[bc,h.1,Bool.false_eq_true,if_false,List.getElem?_cons_succ];exact vS h.2
def Jy:Value→ag
 | .agg c=> .agg (c.toList.map .lit)
 | v=> .lit v
theorem Es{F:Bool→Addr→Value→Prop}{ρ:Nat→Option Value}:∀ {l:List Value} {g:Nat→Value→Prop},(∀k v,l[k]? = some v→g k v)→VL F ρ (l.map .lit) g
 | [],_,_=>trivial
 | v::l,g,h=>by
  simp only[List.map_cons,VL,V];exact⟨⟨v,h 0 v rfl,rfl⟩,Es fun k u c=>h (k+1) u c⟩
theorem J8{F:Bool→Addr→Value→Prop}{ρ:Nat→Option Value}(v:Value):V F ρ (Jy v) v:=by
 unfold Jy;split
 ·simp only[V];exact⟨_,rfl,by simp,Es fun k u c=>by simpa using c⟩
 ·simp only[V]
def zV(c:TI):ag:=if c.k.agg=true then .agg c.z else .unk
theorem K5{F:Bool→Addr→Value→Prop}{ρ:Nat→Option Value}{t:TypeId}{ti:TI}(j:aQ P t ti){w:World}{z:Value}(hz:(zeroValue t).run P w = .ok z w)(e:z.cells.toList.map lh=ti.z)(u:z.cells.size=ti.size):V F ρ (zV ti) z:=by
 unfold zV;split
 ·rename_i x;obtain⟨i,k,m,p,_⟩:=j.hi;have f:k=z:=by simp[zeroValue,typeInfo,m,p]at hz;exact hz
  subst f;have c:=j.hz;rw[m]at c;simp only[Option.bind_some,p,Option.map_some,Option.some.injEq]at c;rw[x]at c;cases k with
  | agg q =>
   simp only[V];have A:=g9 (F:=F) (ρ:=ρ) q.toList;refine⟨q,rfl,?_,?_⟩
   ·rw[←e];simp[Value.cells]
   ·rw[←e];simpa [Value.cells]using A
  | _=>cases c
 ·trivial
def Eh(z:ag)(o:Option Value):ag :=
 match o with
 | some v=> .tup [Jy v,.p false .bool true]
 | none=> .tup [z,.p false .bool false]
theorem Ap(m:Mem Bw w0 ρ φ h w){o:Oper}{a:Act}{t kt et:TypeId}{ti te:TI}(ht:aQ P t ti)(hk:ti.k = .mp kt et){K:Ty}(q:fP P kt K)(J:aQ P et te)
  {xo ko:Operand} (ho:o.op = .lookup t xo ko true) {id:Nat} {f:List (K.den×Value)} (hi:h id=some (.mpl K f)) (hx:V (Fr (own φ h) Bw w) ρ (.mp id) (a.eval xo)) {k:K.den} (e2:a.eval ko=aO K k) :
  Good P o a w (aE Bw w0 ρ φ h w new (Eh (zV te) (bc K f k)) []):=by
 obtain⟨r,L,clock,e1,_,_,hb,R,c,X,u⟩:=EC m hi hx;obtain⟨dm,hm,B⟩:=ht.hu;rw[hk]at B;simp only[UK]at B;subst B;have Y:L.toList.map (·.key)=(f.map (·.1)).map (aO K):=by rw[c,List.map_map];rfl
 obtain⟨z,hz,Z,a1,_⟩:=dg J w;have a2:=K5 (F:=Fr (own φ h) Bw w) (ρ:=ρ) J hz Z a1;rcases q.find k L.toList (f.map (·.1)) w Y with⟨h1,M⟩ | ⟨j,e,h1,M,h3⟩
 ·have C:bc K f k=none:=jq R fun p E e=>by
   obtain⟨j,N⟩:=List.mem_iff_getElem?.1 E;have I:(f.map (fun p=>aO K p.1))[j]? = some (aO K p.1):=by rw[List.getElem?_map,N];rfl
   rw[←c,List.getElem?_map]at I;cases hq:L.toList[j]? with
   | none=>rw[hq]at I;cases I
   | some x =>rw[hq]at I;simp at I;exact M x (List.mem_of_getElem? hq) (by rw[I,e])
  rw[C];refine Good.aH (v:= .tuple #[z,.bool false]) (w':=w) ?_ (aE.pure m ?_)
  ·simp only[execOp,ho];rw[e1,e2];simp[Instr.lookup,run_underlying hm,Go.MapKept.run_getObj_map hb,q.check,h1,hz,Result.andThen]
  ·simp only[Eh,V,VL];exact⟨_,rfl,rfl,⟨z,by simp,a2⟩,⟨.bool false,by simp,by simp only[ai];exact⟨rfl,trivial⟩⟩,trivial⟩
 ·obtain⟨p,E,a3⟩:=jH c M;have a4:p.1=k:=eY R (by rw[←a3,h3]);have D:=ll (α:=Value) R X E a4;rw[D];have N:j<f.length:=(List.getElem?_eq_some_iff.1 E).1;obtain⟨O,q1,q2⟩:=u j N;have a5:O=e:=by
   have:L.toList[j]? = some O:=by simpa using q1
   rw[M]at this;cases this;rfl
  subst a5;have a6:f[j]=p:=by rw[List.getElem?_eq_getElem N]at E;simpa using E
  rw[a6]at q2;refine Good.aH (v:= .tuple #[O.val,.bool true]) (w':=w) ?_ (aE.pure m ?_)
  ·simp only[execOp,ho];rw[e1,e2];simp[Instr.lookup,run_underlying hm,Go.MapKept.run_getObj_map hb,q.check,h1,Result.andThen]
  ·simp only[Eh,V,VL];exact⟨_,rfl,rfl,⟨O.val,by simp,by rw[q2];exact J8 _⟩,⟨.bool true,by simp,by simp only[ai];exact⟨rfl,trivial⟩⟩,trivial⟩
theorem oo(m:Mem Bw w0 ρ φ h w){o:Oper}{a:Act}{t N et:TypeId}{ti:TI}(ht:aQ P t ti)(B:ti.k = .mp N et){K:Ty}(C:fP P N K)
  {O R L:Operand} (M:o.op = .mapUpdate t O R L∨o.op = .insert t O R L) {id:Nat} {f:List (K.den×Value)} (hi:h id=some (.mpl K f)) (hx:V (Fr (own φ h) Bw w) ρ (.mp id) (a.eval O)) {k:K.den} (e2:a.eval R=aO K k) {x:Value} (e3:a.eval L=x)
  (D:∀p∈f,p.1≠k) :
  Good P o a w (aE Bw w0 ρ φ h w new .unk [(id,some (.mpl K (f++[(k,x)])))]):=by
 obtain⟨r,E,clock,e1,q,I,hb,hK,c,X,u⟩:=EC m hi hx;obtain⟨dm,hm,z⟩:=ht.hu;rw[B]at z;simp only[UK]at z;subst z;have Y:E.toList.map (·.key)=(f.map (·.1)).map (aO K):=by rw[c,List.map_map];rfl
 have J:E.size=f.length:=by have:=congrArg List.length c;simpa using this
 have Z:(Instr.findKey N (aO K k) E.toList).run P w = .ok none w:=by
  rcases C.find k E.toList (f.map (·.1)) w Y with⟨Z,_⟩ | ⟨j,e,_,h2,h3⟩
  ·exact Z
  ·obtain⟨p,hp,a1⟩:=jH c h2;exact absurd (eY hK (by rw[←a1,h3])) (D p (List.mem_of_getElem? hp))
 refine Good.kx (w':= { w with heap:=w.heap.setIfInBounds r (.map (E.push { key:=aO K k,val:=a.eval L,born:=clock }) (clock+1)) }) ?_ ?_
 ·rcases M with M | M <;>
  ·simp only[execOp,M];rw[e1,e2];simp[Instr.mapUpdate,run_underlying hm,Go.MapKept.run_getObj_map hb,C.check,Z,run_setObj_map _ hb,Result.andThen]
 ·refine eH m (some id) id (.mpl K (f++[(k,x)])) (.map (some r)) (φ id) (some r) (fY w r _) (fun k e=>⟨id,_,rfl,hi,rfl,by cases e;exact I⟩) (.inr ⟨rfl,q⟩)
   (fun _ k B=>Nat.lt_of_lt_of_le (m.lt id _ k hi rfl B) (fY w r _).size) (fun _ k B=> .inr ⟨id,_,rfl,hi,rfl,B⟩) (fun F' a2 hF a4=> ?_) (by rw[aZ];rfl) (fun e=>by rw[q]at e;cases e) (fun F' a2 hF q a5=>by simp only[V])
  refine⟨r,_,_,rfl,I,(heap_set hb).1,hK,?_,?_,fun i a3=> ?_⟩
  ·simp[c]
  ·simp only[List.map_append,List.map_cons,List.map_nil];refine List.nodup_append.2 ⟨X,by simp,fun a ha b hb e=> ?_⟩;simp only[List.mem_singleton]at hb;obtain⟨p,hp,rfl⟩:=List.mem_map.1 ha;exact D p hp (by rw[e,hb])
  ·simp only[List.length_append,List.length_cons,List.length_nil]at a3;rcases Nat.lt_or_ge i f.length with h4 | h4
   ·obtain⟨e',t1,t2⟩:=u i h4;exact⟨e',by rw[Array.getElem?_push,if_neg (by omega)];exact t1,by rw[List.getElem_append_left h4];exact t2⟩
   ·obtain rfl:i=f.length:=by omega
    exact⟨_,by rw[Array.getElem?_push,if_pos J.symm],by simpa using e3⟩
theorem zB(m:Mem Bw w0 ρ φ h w){o:Oper}{a:Act}{t x z:TypeId}{ti:TI}(B:aQ P t ti)(C:ti.k = .mp x z){u:Operand}{id:Nat}{K A:Ty}{j:List (K.den×A.den)}(hi:h id=some (.mpo K A j))(D:V (Fr (own φ h) Bw w) ρ (.mp id) (a.eval u))
  (E:o.op = .call { callee:= .builtin .len,args:= #[u],argTypes:= #[t] }):Good P o a w (aE Bw w0 ρ φ h w new (.p false (.int .i64) (j.length:Int)) []):=by
 obtain⟨r,I,clock,J,L,M,hb,R,c,N,q⟩:=tD m hi D;obtain⟨X,O,e⟩:=B.hu;rw[C]at e;simp only[UK]at e;subst e;have f:I.size=j.length:=by have:=congrArg List.length c;simpa using this
 refine Good.aH (v:= .int .i64 (j.length:Int)) (w':=w) ?_ (aE.pure m (dB _ _ _));simp only[execOp,E,resolve,invoke,builtin,Sem.run_bind,Sem.run_pure,Result.andThen_ok,List.map_toArray,List.map_cons,List.map_nil,J];simp[Builtin.len_,run_underlying O,Go.MapKept.run_getObj_map hb,goInt,f,Result.andThen]
theorem HE(m:Mem Bw w0 ρ φ h w){o:Oper}{a:Act}{u x:Operand}{f:Array TypeId}{β q:Bool}{k:IntKind}{i j:Int}(z:V (Fr (own φ h) Bw w) ρ (.p β (.int k) i) (a.eval u))(B:V (Fr (own φ h) Bw w) ρ (.p q (.int k) j) (a.eval x))
  (C:o.op = .call { callee:= .builtin .min,args:= #[u,x],argTypes:=f }):Good P o a w (aE Bw w0 ρ φ h w new (.p false (.int k) (min i j)) []):=by
 refine Good.aH (v:= .int k (min i j)) (w':=w) ?_ (aE.pure m (dB _ _ _));have e:(if j<i then j else i)=min i j:=by
  by_cases c:j<i
  ·rw[if_pos c];omega
  ·rw[if_neg c];omega
 simp only[execOp,C,resolve,invoke,builtin,Sem.run_bind,Sem.run_pure,Result.andThen_ok,List.map_toArray,List.map_cons,List.map_nil,bV z,bV B];simp[Builtin.min_,Builtin.min2,e]
theorem Hy(m:Mem Bw w0 ρ φ h w){o:Oper}{a:Act}{u x:Operand}{f:Array TypeId}{β q:Bool}{k:IntKind}{i j:Int}(z:V (Fr (own φ h) Bw w) ρ (.p β (.int k) i) (a.eval u))(B:V (Fr (own φ h) Bw w) ρ (.p q (.int k) j) (a.eval x))
  (C:o.op = .call { callee:= .builtin .max,args:= #[u,x],argTypes:=f }):Good P o a w (aE Bw w0 ρ φ h w new (.p false (.int k) (max i j)) []):=by
 refine Good.aH (v:= .int k (max i j)) (w':=w) ?_ (aE.pure m (dB _ _ _));have e:(if j > i then j else i)=max i j:=by
  by_cases c:j > i
  ·rw[if_pos c];omega
  ·rw[if_neg c];omega
 simp only[execOp,C,resolve,invoke,builtin,Sem.run_bind,Sem.run_pure,Result.andThen_ok,List.map_toArray,List.map_cons,List.map_nil,bV z,bV B];simp[Builtin.max_,Builtin.max2,e]
end
end Go.Tv
