import Derived.Test.YtmcemnfjddoejaaGreatDoorTvKam
import Derived.MapKept
import Derived.ChangeKeysEq
namespace Go.Tv
open Go Go.RowKit
open Go.MapKept (IsKey findNow_spec run_checkKey run_findKey run_setObj_map heap_set run_keyThatStays modify_keys)
def cJ:(K:Ty)→K.den→K.den→Bool
 | .int _,a,b=> @BEq.beq Int _ a b
 | .bool,a,b=> @BEq.beq Bool _ a b
 | .str,a,b=> @BEq.beq QX _ a b
 | .unit,_,_=>true
 | .prod A B,a,b=>cJ A a.1 b.1 && cJ B a.2 b.2
 | .arr _ _,a,b=>JK a b
 | _,_,_=>false
theorem fm:∀ {K:Ty} {a b:K.den},K.isKey=true→(cJ K a b=true↔a=b)
 | .int _,a,b,_=>by
  show(@BEq.beq Int _ a b)=true↔a=b;exact beq_iff_eq
 | .bool,a,b,_=>by
  show(@BEq.beq Bool _ a b)=true↔a=b;exact beq_iff_eq
 | .str,a,b,_=>by
  show(@BEq.beq QX _ a b)=true↔a=b;exact beq_iff_eq
 | .flt,_,_,h=>by cases h
 | .unit,_,_,_=>⟨fun _=>rfl,fun _=>rfl⟩
 | .prod A B,a,b,h=>by
  simp only[Ty.isKey,Bool.and_eq_true]at h;simp only[cJ,Bool.and_eq_true,fm h.1,fm h.2];exact⟨fun e=>Prod.ext e.1 e.2,fun e=>by rw[e];exact⟨rfl,rfl⟩⟩
 | .slice _,_,_,h=>by cases h
 | .ptr _,_,_,h=>by cases h
 | .tree _ _,_,_,h=>by cases h
 | .mapi _ _,_,_,h=>by cases h
 | .arr _ _,a,b,_=>by
  show(a.1 == b.1)=true↔a=b;rw[beq_iff_eq];exact⟨Subtype.ext,fun e=>by rw[e]⟩
theorem cX:∀ {K:Ty} {a:K.den},K.isKey=true→(cE K a).length=K.size
 | .int _,_,_=>rfl
 | .bool,_,_=>rfl
 | .str,_,_=>rfl
 | .flt,_,h=>by cases h
 | .unit,_,_=>rfl
 | .prod A B,a,h=>by
  simp only[Ty.isKey,Bool.and_eq_true]at h;simp only[cE,Ty.size,List.length_append,cX h.1,cX h.2]
 | .slice _,_,h=>by cases h
 | .ptr _,_,h=>by cases h
 | .tree _ _,_,h=>by cases h
 | .mapi _ _,_,h=>by cases h
 | .arr _ _,a,_=>by simp[cE,Ty.size,a.2]
theorem iZ:∀ {K:Ty} {a b:K.den},K.isKey=true→cE K a=cE K b→a=b
 | .int _,a,b,_,h=>by simpa [cE]using h
 | .bool,a,b,_,h=>by simpa [cE]using h
 | .str,a,b,_,h=>by simpa [cE]using h
 | .flt,_,_,h,_=>by cases h
 | .unit,_,_,_,_=>rfl
 | .prod A B,a,b,h,e=>by
  simp only[Ty.isKey,Bool.and_eq_true]at h;simp only[cE]at e;obtain⟨c,f⟩:=List.append_inj e (by rw[cX h.1,cX h.1]);exact Prod.ext (iZ h.1 c) (iZ h.2 f)
 | .slice _,_,_,h,_=>by cases h
 | .ptr _,_,_,h,_=>by cases h
 | .tree _ _,_,_,h,_=>by cases h
 | .mapi _ _,_,_,h,_=>by cases h
 | .arr k _,a,b,_,e=>by
  simp only[cE]at e;exact Subtype.ext (List.map_inj_right (fun x y h=>by simpa using h) |>.1 e)
theorem fO:∀ {K:Ty} {a b:K.den},K.isKey=true→aO K a=aO K b→a=b
 | .int _,a,b,_,h=>by simpa [aO]using h
 | .bool,a,b,_,h=>by simpa [aO]using h
 | .str,a,b,_,h=>by simpa [aO]using h
 | .flt,_,_,h,_=>by cases h
 | .unit,_,_,_,_=>rfl
 | .prod A B,a,b,h,e=>by
  simp only[aO,Value.agg.injEq]at e;exact iZ h (List.toArray_inj e)
 | .slice _,_,_,h,_=>by cases h
 | .ptr _,_,_,h,_=>by cases h
 | .tree _ _,_,_,h,_=>by cases h
 | .mapi _ _,_,_,h,_=>by cases h
 | .arr _ _,a,b,h,e=>by
  simp only[aO,Value.agg.injEq]at e;exact iZ h (List.toArray_inj e)
def KJ:TK→Option Ty
 | .int k=>some (.int k)
 | .bool=>some .bool
 | .str=>some .str
 | _=>none
theorem I4{k:TK}{K:Ty}(h:KJ k=some K):K.isKey=true:=by cases k <;> cases h <;> rfl
theorem Bn{P:Program}{d:TypeDesc}{k:TK}{K:Ty}(h:KJ k=some K)(hd:UK P d k)(x:K.den):IsKey d (aO K x):=by
 cases k <;> cases h <;> simp only[UK]at hd <;> subst hd <;> simp[IsKey,aO]
theorem nu{F:Bool→Addr→Value→Prop}{ρ:Nat→QW}{β:Bool}:∀ {K:Ty} {x:K.den} {v:Value},K.isKey=true→K.scalar=true→V F ρ (.p β K x) v→v=aO K x
 | .int _,_,_,_,_,h=>bR h
 | .bool,_,_,_,_,h=>kq h
 | .str,_,_,_,_,h=>pT h
 | .flt,_,_,h,_,_=>by cases h
 | .unit,_,_,_,h,_=>by cases h
 | .prod _ _,_,_,_,h,_=>by cases h
 | .slice _,_,_,h,_,_=>by cases h
 | .ptr _,_,_,h,_,_=>by cases h
 | .tree _ _,_,_,h,_,_=>by cases h
 | .mapi _ _,_,_,h,_,_=>by cases h
 | .arr _ _,_,_,_,h,_=>by cases h
theorem ke{F:Addr→Value→Prop}:∀ {K:Ty} {x:K.den} {l:QY} {o:Nat},K.isKey=true→ai F K x (fun k u=>l[o+k]? = some u)→∀k,k<K.size→l[o+k]? = (cE K x)[k]?
 | .int _,_,_,_,_,h,k,hk=>by
  obtain rfl:k=0:=by simp only[Ty.size]at hk;omega
  simp only[ai]at h;rw[h];rfl
 | .bool,_,_,_,_,h,k,hk=>by
  obtain rfl:k=0:=by simp only[Ty.size]at hk;omega
  simp only[ai]at h;rw[h];rfl
 | .str,_,_,_,_,h,k,hk=>by
  obtain rfl:k=0:=by simp only[Ty.size]at hk;omega
  simp only[ai]at h;rw[h];rfl
 | .flt,_,_,_,h,_,_,_=>by cases h
 | .unit,_,_,_,_,_,k,hk=>by simp only[Ty.size]at hk;omega
 | .prod A B,x,l,o,h,c,k,hk=>by
  simp only[Ty.isKey,Bool.and_eq_true]at h;simp only[ai]at c;simp only[Ty.size]at hk;simp only[cE];rcases Nat.lt_or_ge k A.size with e | e
  ·rw[List.getElem?_append_left (by rw[cX h.1];exact e)];exact ke h.1 c.1 k e
  ·rw[List.getElem?_append_right (by rw[cX h.1];exact e),cX h.1];have:=ke (o:=o+A.size) h.2 (ai.mono (fun _ _ h=>h) (fun k u hk=>by rw[Nat.add_assoc];exact hk) c.2) (k - A.size) (by omega);rw[←this];congr 1;omega
 | .slice _,_,_,_,h,_,_,_=>by cases h
 | .ptr _,_,_,_,h,_,_,_=>by cases h
 | .tree _ _,_,_,_,h,_,_,_=>by cases h
 | .mapi _ _,_,_,_,h,_,_,_=>by cases h
 | .arr f _,x,l,o,_,c,k,hk=>by
  have hl:k<x.1.length:=by rw[x.2];exact hk
  simp only[ai]at c;rw[c k hl];simp[cE,hl]
theorem jw:∀ {K:Ty} {x:K.den},K.isKey=true→K.scalar=false→aO K x = .agg (cE K x).toArray
 | .int _,_,_,h=>by cases h
 | .bool,_,_,h=>by cases h
 | .str,_,_,h=>by cases h
 | .flt,_,h,_=>by cases h
 | .unit,_,_,_=>rfl
 | .prod _ _,_,_,_=>rfl
 | .slice _,_,h,_=>by cases h
 | .ptr _,_,h,_=>by cases h
 | .tree _ _,_,h,_=>by cases h
 | .mapi _ _,_,h,_=>by cases h
 | .arr _ _,_,_,_=>rfl
structure fC(P:Program)(kt:TypeId)(K:Ty):Prop where
 isKey:K.isKey=true
 check:∀(e:Bool) (k:K.den) (w:World),(Instr.checkKey e 10000 kt (aO K k)).run P w = .ok () w
 find:∀(k:K.den) (l:List MapEntry) (ks:List K.den) (w:World),l.map (·.key)=ks.map (aO K) →
  ((Instr.findKey kt (aO K k) l).run P w = .ok none w∧∀x∈l,x.key≠aO K k) ∨
  ∃j e,(Instr.findKey kt (aO K k) l).run P w = .ok (some (j,e.val)) w∧l[j]? = some e∧e.key=aO K k
 stays:∀(k:K.den) (w:World),(Instr.keyThatStays (aO K k) (aO K k)).run P w = .ok (aO K k) w
theorem fC.Af{P:Program}{D:TypeId}{E:TI}(z:aP P D E){K:Ty}(c:KJ E.k=some K):fC P D K:=by
 obtain⟨d,hd,f⟩:=z.hu;refine⟨I4 c,fun e k w=>run_checkKey hd (Bn c f k) e 9999,fun k l M w hl=>?_,fun k w=>run_keyThatStays (Bn c f k)⟩;have q:=Bn (P:=P) c f k;have u:∀x∈l,IsKey d x.key:=fun x I=>by have:x.key∈l.map (·.key):=List.mem_map.2 ⟨x,I,rfl⟩;rw[hl]at this;obtain⟨p,_,J⟩:=List.mem_map.1 this;rw[←J];exact Bn c f p
 rcases findNow_spec q l 0 u with⟨B,C⟩ | ⟨j,e,B,C,L⟩
 ·exact .inl ⟨run_findKey hd B,C⟩
 ·exact .inr ⟨j,e,by rw[run_findKey hd B,Nat.zero_add],C,L⟩
def oC(k:IntKind):Ty→Bool
 | .int c=>c == k
 | .unit=>true
 | .prod a b=>oC k a && oC k b
 | .arr c _=>c == k
 | _=>false
theorem oq{k:IntKind}:∀ {K:Ty},oC k K=true→K.isKey=true
 | .int _,_=>rfl
 | .bool,h=>by cases h
 | .str,h=>by cases h
 | .flt,h=>by cases h
 | .unit,_=>rfl
 | .prod _ _,h=>by
  simp only[oC,Bool.and_eq_true]at h;simp only[Ty.isKey,oq h.1,oq h.2,Bool.and_self]
 | .slice _,h=>by cases h
 | .ptr _,h=>by cases h
 | .tree _ _,h=>by cases h
 | .mapi _ _,h=>by cases h
 | .arr _ _,_=>rfl
theorem gL{k:IntKind}:∀ {K:Ty} (x:K.den),oC k K=true→∃l:QK,l.length=K.size∧cE K x=l.map (Value.int k)
 | .int c,x,h=>by
  simp only[oC,beq_iff_eq]at h;subst h;exact⟨[x],rfl,rfl⟩
 | .bool,_,h=>by cases h
 | .str,_,h=>by cases h
 | .flt,_,h=>by cases h
 | .unit,_,_=>⟨[],rfl,rfl⟩
 | .prod a b,x,h=>by
  simp only[oC,Bool.and_eq_true]at h;obtain⟨l1,e,f⟩:=gL x.1 h.1;obtain⟨l2,j,p⟩:=gL x.2 h.2;exact⟨l1++l2,by simp[e,j,Ty.size],by simp[cE,f,p]⟩
 | .slice _,_,h=>by cases h
 | .ptr _,_,h=>by cases h
 | .tree _ _,_,h=>by cases h
 | .mapi _ _,_,h=>by cases h
 | .arr c _,x,h=>by
  simp only[oC,beq_iff_eq]at h;subst h;exact⟨x.1,x.2,rfl⟩
section
variable{P:Program}
theorem og{e:TypeId}{k:IntKind}(p:P.underlying e=some (.int k))(d:Nat)(w:World){l1 l2:QK}:∀(c:QV),(∀i∈c,i<l1.length∧i<l2.length) →
  ∃r:Bool,(Op.eqItems (d+1) e 1 (l1.map (Value.int k)).toArray (l2.map (Value.int k)).toArray c).run P w = .ok r w∧(r=true↔∀i∈c,l1[i]? = l2[i]?)
 | [],_=>⟨true,by simp[Op.eqItems],by simp⟩
 | i::c,h=>by
  obtain⟨q,u⟩:=h i (by simp);obtain⟨r,z,A⟩:=og p d w c (fun j B=>h j (by simp[B]));have x:P.plainKey e=true:=by simp[Program.plainKey,p]
  have C:=run_part_plain (P:=P) w x (xs:=(l1.map (Value.int k)).toArray) (off:=i*1) (v:= .int k l1[i]) (by simp[q]);have D:=run_part_plain (P:=P) w x (xs:=(l2.map (Value.int k)).toArray) (off:=i*1) (v:= .int k l2[i]) (by simp[u]);simp only[Op.eqItems,Sem.run_bind,C,D,Result.andThen_ok,run_equalIn_int w d e k k _ _ p];by_cases f:l1[i]=l2[i]
  ·refine⟨r,by simpa [f]using z,?_⟩;rw[A];simp[q,u,f]
  ·refine⟨false,by simp[f],?_⟩;simp[q,u,f]
theorem yQ{e:TypeId}{k:IntKind}(c:P.underlying e=some (.int k))(n:Nat)(em:Bool)(x:Int)(w:World):(Instr.checkKey em (n+1) e (.int k x)).run P w = .ok () w:=by
 unfold Instr.checkKey;simp only[Sem.run_bind,run_underlying c,Result.andThen];rfl
theorem fC.Gj{t e:TypeId}{n:Nat}{k:IntKind}{i:TypeInfo}{K:Ty}(hu:P.underlying t=some (.array n e))(V:P.underlying e=some (.int k))(hi:P.info? e=some i)(hc:P.cellsOf e=1)
  (D:oC k K=true) (N:K.scalar=false) (hn:K.size=n):fC P t K:=by
 have hk:=oq D;have heq:∀(a b:K.den) (w:World),∃r:Bool,(Op.equal t (aO K a) (aO K b)).run P w = .ok r w∧(r=true↔a=b):=fun a b w=>by
  obtain⟨l1,e1,u⟩:=gL a D;obtain⟨l2,e2,X⟩:=gL b D;rw[jw hk N,jw hk N,u,X];obtain⟨r,Y,O⟩:=og (P:=P) V 9998 w (l1:=l1) (l2:=l2) (List.range n) (fun i hi=>by simp at hi;omega);refine⟨r,?_,?_⟩
  ·unfold Op.equal Op.maxDepth;rw[show(10000:Nat)=9999+1 from rfl,run_equalIn_array w 9999 _ _ hu hi,hc];exact Y
  ·rw[O];constructor
   ·intro h;have:l1=l2:=List.ext_getElem? fun i=>by
     rcases Nat.lt_or_ge i n with c | c
     ·exact h i (by simpa using c)
     ·rw[List.getElem?_eq_none (by omega),List.getElem?_eq_none (by omega)]
    exact iZ hk (by rw[u,X,this])
   ·rintro rfl j _;have:l1.map (Value.int k)=l2.map (Value.int k):=by rw[←u,←X]
    have B:=congrArg (fun l=>l[j]?) this;simp only[List.getElem?_map]at B;cases c:l1[j]? <;> cases C:l2[j]? <;> simp[c,C]at B ⊢
    exact B
 refine⟨hk,fun em a w=>?_,fun a l f w hl=>?_,fun a w=>?_⟩
 ·obtain⟨l1,e1,u⟩:=gL a D;rw[jw hk N,u,show(10000:Nat)=9999+1 from rfl,Instr.checkKey];simp only[Sem.run_bind,run_underlying hu,Result.andThen_ok];simp only[Std.Legacy.Range.forIn_eq_forIn_range',Std.Legacy.Range.size,Nat.sub_zero,Nat.add_one_sub_one,Nat.div_one];have hin:∀j∈List.range' 0 n,j<l1.length:=fun j B=>by simp at B;omega
  generalize List.range' 0 n=is at hin;induction is with
  | nil=>simp
  | cons j is E =>
   have B:=hin j (by simp);have Z:P.plainKey e=true:=by simp[Program.plainKey,V]
   have p1:=run_part_plain (P:=P) w Z (xs:=(l1.map (Value.int k)).toArray) (off:=j*1) (v:= .int k l1[j]) (by simp[B]);simp only[List.forIn_cons,Sem.run_bind,(Go.run_sizeOf w hi:(sizeOf e).run P w=_),hc,Result.andThen_ok,p1,yQ V 9998 em,Sem.run_pure];exact E (fun y I=>hin y (by simp[I]))
 ·have J:∀(l:List MapEntry) (f:List K.den) (q:Nat),l.map (·.key)=f.map (aO K) →
    ((Instr.findAsking t (aO K a) l q).run P w = .ok none w∧∀x∈l,x.key≠aO K a) ∨
    ∃j e,(Instr.findAsking t (aO K a) l q).run P w = .ok (some (q+j,e.val)) w∧l[j]? = some e∧e.key=aO K a:=by
   intro l;induction l with
   | nil=>intro f q _;exact .inl ⟨by simp[Instr.findAsking],by simp⟩
   | cons x l E =>
    intro f q h;cases f with
    | nil=>simp at h
    | cons b f =>
     simp only[List.map_cons,List.cons.injEq]at h;obtain⟨r,Y,O⟩:=heq a b w;unfold Instr.findAsking;rw[Sem.run_bind,h.1,Y];simp only[Result.andThen_ok];cases r with
     | true =>
      have:=O.1 rfl;subst this;exact .inr ⟨0,x,by simp,rfl,h.1⟩
     | false =>
      have a1:b≠a:=fun e=>by have:=O.2 e.symm;cases this
      rcases E f (q+1) h.2 with⟨c,C⟩ | ⟨j,y,c,C,h3⟩
      ·refine .inl ⟨by simpa using c,fun y I=>?_⟩;rcases List.mem_cons.1 I with rfl | I
       ·rw[h.1];exact fun e=>a1 (fO hk e)
       ·exact C y I
      ·exact .inr ⟨j+1,y,by simp only[Bool.false_eq_true,if_false];rw[c,show q+1+j=q+(j+1) by omega],C,h3⟩
  cases l with
  | nil=>exact .inl ⟨by simp[Instr.findKey,run_underlying hu,Result.andThen,Instr.findNow],by simp⟩
  | cons x l =>
   have L:Instr.findNow (.array n e) (aO K a) (x::l) 0=none:=by simp[Instr.findNow,Instr.sameNow]
   have M:(Instr.findKey t (aO K a) (x::l)).run P w=(Instr.findAsking t (aO K a) (x::l) 0).run P w:=by simp only[Instr.findKey,Sem.run_bind,run_underlying hu,Result.andThen_ok,L]
   rw[M];rcases J (x::l) f 0 hl with h | ⟨j,y,c,C,h3⟩
   ·exact .inl h
   ·exact .inr ⟨j,y,by rw[c,Nat.zero_add],C,h3⟩
 ·obtain⟨l1,e1,u⟩:=gL a D;rw[jw hk N,u];have hb:Instr.sameBits 10000 (.agg (l1.map (Value.int k)).toArray) (.agg (l1.map (Value.int k)).toArray)=true:=by
   rw[show(10000:Nat)=9999+1 from rfl,Instr.sameBits];simp only[beq_self_eq_true,Bool.true_and,List.all_eq_true];intro p Z;obtain⟨x,y⟩:=p;have a2:∀(l:QY),(x,y)∈l.zip l→x=y∧x∈l:=by
    intro l;induction l with
    | nil=>simp
    | cons z l E =>
     intro h;simp only[List.zip_cons_cons,List.mem_cons,Prod.mk.injEq]at h;rcases h with⟨rfl,rfl⟩ | h
     ·simp
     ·obtain⟨e,m⟩:=E h;exact⟨e,by simp[m]⟩
   obtain⟨rfl,hx⟩:=a2 _ Z;obtain⟨z,_,rfl⟩:=List.mem_map.1 (by simpa using hx);simp[Instr.sameBits]
  simp[Instr.keyThatStays,hb]
end
def aU{α:Type}(K:Ty):List (K.den×α)→K.den→Option α
 | [],_=>none
 | p::r,k=>if cJ K p.1 k then some p.2 else aU K r k
def cj{α:Type}(K:Ty):List (K.den×α)→K.den→α→List (K.den×α)
 | [],k,x=>[(k,x)]
 | p::r,k,x=>if cJ K p.1 k then(k,x)::r else p::cj K r k x
section
variable{α:Type}{K:Ty}
theorem jB(c:K.isKey=true){k:K.den}:∀ {f:List (K.den×α)},(∀p∈f,p.1≠k)→aU K f k=none
 | [],_=>rfl
 | p::r,h=>by
  simp only[aU];rw[if_neg (fun e=>h p (by simp) ((fm c).1 e))];exact jB c fun q j=>h q (by simp[j])
theorem lB(c:K.isKey=true){k:K.den}:∀ {f:List (K.den×α)} {j:Nat} {p:K.den×α},(f.map (·.1)).Nodup→f[j]? = some p→p.1=k→aU K f k=some p.2
 | [],j,p,_,h,_=>by simp at h
 | q::r,0,p,_,h,e=>by
  simp at h;subst h;simp only[aU];rw[if_pos ((fm c).2 e)]
 | q::r,j+1,p,hn,h,e=>by
  simp only[List.map_cons,List.nodup_cons]at hn;simp only[aU];have u:p∈r:=List.mem_of_getElem? (by simpa using h);rw[if_neg (fun x=>hn.1 (List.mem_map.2 ⟨p,u,by rw[e];exact((fm c).1 x).symm⟩))];exact lB c hn.2 (by simpa using h) e
theorem Aj(f:K.isKey=true){k:K.den}{x:α}:∀ {c:List (K.den×α)},(∀p∈c,p.1≠k)→cj K c k x=c++[(k,x)]
 | [],_=>rfl
 | p::r,h=>by
  simp only[cj];rw[if_neg (fun e=>h p (by simp) ((fm f).1 e)),Aj f fun q j=>h q (by simp[j])];rfl
theorem z7(f:K.isKey=true){k:K.den}{x:α}:∀ {c:List (K.den×α)} {j:Nat} {p:K.den×α},(c.map (·.1)).Nodup→c[j]? = some p→p.1=k→cj K c k x=c.set j (k,x)
 | [],j,p,_,h,_=>by simp at h
 | q::r,0,p,_,h,e=>by
  simp at h;subst h;simp only[cj];rw[if_pos ((fm f).2 e)];rfl
 | q::r,j+1,p,hn,h,e=>by
  simp only[List.map_cons,List.nodup_cons]at hn;simp only[cj];have u:p∈r:=List.mem_of_getElem? (by simpa using h);rw[if_neg (fun v=>hn.1 (List.mem_map.2 ⟨p,u,by rw[e];exact((fm f).1 v).symm⟩)),z7 f hn.2 (by simpa using h) e];rfl
end
def enc(β:Bool)(T:Ty)(x:T.den):ag:=if T.scalar then .p β T x else .agg (flat β T x)
theorem Hy{F:Bool→Addr→Value→Prop}{ρ:Nat→QW}{A:Ty}{x:A.den}{v:Value}(h:MV (F false) A x v):V F ρ (enc false A x) v:=by
 obtain⟨e,f,j,p⟩:=h;unfold enc;split
 ·rename_i c;have q:=fE (j c);simp only[V];refine⟨c,?_⟩;rw[q]at e;refine ai.gB (fun k u hk hu=>?_) e;rw[Ty.fB c]at hk;obtain rfl:k=0:=by omega
  simp at hu;exact hu.symm
 ·rename_i c;obtain⟨z,rfl⟩:=p (by simpa using c);simp only[V];refine⟨z,rfl,by rw[eG,←f];rfl,jJ false A x _ (ai.mono (fun _ _ h=>h) (fun k u hk=>by simpa [Value.cells]using hk) e)⟩
def kP(T:Ty)(x:ag):Bool :=
 match x with
 | .agg _=> !T.scalar
 | .lag _ _ _ _=>false
 | _=>T.scalar
section
variable{P:Program}{Bw:Nat→Prop}{w0:cu P}{ρ:Nat→QW}{φ:Nat→Nat→Prop}{h:Nat→Qz}{w:World}{new:Nat}
theorem Be(m:Mem Bw w0 ρ φ h w)(hn:ρ new=none){o:Oper}{a:Act}{t:TypeId}{K A:Ty}(q:K.isKey=true)(u:o.op = .makeMap t none):
  Good P o a w (aG Bw w0 ρ φ h w new (.mp new) [(new,some (.mpo K A []))]):=by
 have c:(Instr.makeMap t none).run P w = .ok (.map (some w.heap.size)) (w.alloc (.map #[] 0)):=rfl;refine Good.aH (v:= .map (some w.heap.size)) (w':=w.alloc (.map #[] 0)) (by simp only[execOp,u,Option.map_none,Sem.run_bind,c,Result.andThen_ok];rfl) ?_;refine cN m none new (.mpo K A []) (.map (some w.heap.size)) none (World.grownBy_alloc w _ none) (fun k e=>by cases e) (.inl hn) (fun _ k hk=>?_) (fun F' j x p=>?_)
  (by rw[bp];rfl) (fun _=>rfl) (fun F' j x p f=>?_)
 ·simp only[dg,Option.some.injEq]at hk;exact .inl (by omega)
 ·exact⟨_,#[],0,rfl,rfl,heap_alloc_new w _,⟨q,List.nodup_nil,fun e z=>by cases z⟩,rfl,List.nodup_nil,fun i hi=>absurd hi (by simp)⟩
 ·simp only[V];exact⟨f,_,rfl⟩
theorem wA{F:Addr→Value→Prop}{t:TypeId}{ti:TI}(ht:aP P t ti){A:Ty}(hT:ti.T=some A){z:Value}(hz:(zeroValue t).run P w = .ok z w)(p:z.cells.toList.map kd=ti.z)(q:z.cells.size=ti.size)
  (u:∀c∈z.cells.toList,c.oneCell'=true):MV F A A.zero z:=by
 obtain⟨x,f,B⟩:=ht.hT A hT;have E:=gv (F:=fun _=>F) (ρ:=js) z.cells.toList;rw[p]at E;obtain⟨i,j,I,J,_⟩:=ht.hi;have C:j=z:=by simp[zeroValue,typeInfo,I,J]at hz;exact hz
 subst C;have e:=ht.hz;rw[I]at e;simp only[Option.bind_some,J,Option.map_some,Option.some.injEq]at e;refine⟨(cU B E).1,by rw[q,x],fun D=>?_,fun D=>?_⟩
 ·rw[D]at f;have hk:ti.k.agg=false:=by simpa using f.symm
  rw[hk]at e;have L:j.cells = #[j]:=by cases j <;> first | rfl | (simp at e)
  exact u j (by rw[L];simp)
 ·rw[D]at f;have hk:ti.k.agg=true:=by simpa using f.symm
  rw[hk]at e;cases j <;> first | exact⟨_,rfl⟩ | (simp at e)
theorem uA(m:Mem Bw w0 ρ φ h w){id:Nat}{K A:Ty}{f:List (K.den×A.den)}(hi:h id=some (.mpo K A f)){v:Value}(j:V (Fr (own φ h) Bw w) ρ (.mp id) v):
  ∃r c clock,v = .map (some r)∧ρ id=some (.map (some r))∧φ id r∧w.heap[r]? = some (.map c clock)∧(K.isKey=true∧ym c clock)∧c.toList.map (·.key)=f.map (fun p=>aO K p.1)∧(f.map (·.1)).Nodup ∧
   ∀i (h':i<f.length),∃e:MapEntry,c[i]? = some e∧MV (Fr (own φ h) Bw w false) A f[i].2 e.val:=by
 obtain⟨u,q,r,c,clock,rfl,z⟩:=m.ob id _ hi;simp only[V]at j;rw[j.1]at q;cases q;exact⟨r,c,clock,rfl,j.1,z⟩
theorem jT{f:Array MapEntry}{K:Ty}{α:Type}{q:List (K.den×α)}(hk:f.toList.map (·.key)=q.map (fun p=>aO K p.1)){j:Nat}{e:MapEntry}(z:f.toList[j]? = some e):
  ∃p,q[j]? = some p∧e.key=aO K p.1:=by
 have c:(f.toList.map (·.key))[j]? = some e.key:=by rw[List.getElem?_map,z];rfl
 rw[hk,List.getElem?_map]at c;cases u:q[j]? with
 | none=>rw[u]at c;cases c
 | some p=>rw[u]at c;simp at c;exact⟨p,rfl,c.symm⟩
theorem BD(m:Mem Bw w0 ρ φ h w){o:Oper}{a:Act}{t kt et:TypeId}{ti te:TI}(ht:aP P t ti)(hk:ti.k = .mp kt et){K:Ty}(u:fC P kt K)(B:aP P et te){A:Ty}(hT:te.T=some A)
  {xo ko:Operand} {c:Bool} (ho:o.op = .lookup t xo ko c) {id:Nat} {q:List (K.den×A.den)} (hi:h id=some (.mpo K A q)) (hx:V (Fr (own φ h) Bw w) ρ (.mp id) (a.eval xo)) {k:K.den} (e2:a.eval ko=aO K k) :
  Good P o a w (aG Bw w0 ρ φ h w new (if c then .tup [enc false A ((aU K q k).getD A.zero),.p false .bool (aU K q k).isSome]else enc false A ((aU K q k).getD A.zero)) []):=by
 obtain⟨r,O,clock,e1,_,_,hb,⟨Z,_⟩,f,a1,C⟩:=uA m hi hx;obtain⟨dm,hm,D⟩:=ht.hu;rw[hk]at D;simp only[UK]at D;subst D;have a2:O.toList.map (·.key)=(q.map (·.1)).map (aO K):=by rw[f,List.map_map];rfl
 obtain⟨z,hz,a3,a4,a5⟩:=dy B w;obtain⟨ac,ad,ax⟩:=B.hT A hT;have M:∀(v:Value) (x:A.den) (b:Bool),MV (Fr (own φ h) Bw w false) A x v→V (Fr (own φ h) Bw w) ρ (if c then .tup [enc false A x,.p false .bool b]else enc false A x) (if c then .tuple #[v,.bool b]else v):=fun v x b hv=>by
  cases c
  ·exact Hy hv
  ·simp only[if_true,V,VL];refine⟨_,rfl,rfl,⟨v,by simp,Hy hv⟩,⟨.bool b,by simp,?_⟩,trivial⟩;simp only[V,ai];exact⟨rfl,trivial⟩
 rcases u.find k O.toList (q.map (·.1)) w a2 with⟨h1,X⟩ | ⟨j,e,h1,X,h3⟩
 ·have E:aU K q k=none:=jB Z fun p J e=>by
   obtain⟨j,Y⟩:=List.mem_iff_getElem?.1 J;have L:(q.map (fun p=>aO K p.1))[j]? = some (aO K p.1):=by rw[List.getElem?_map,Y];rfl
   rw[←f,List.getElem?_map]at L;cases hq:O.toList[j]? with
   | none=>rw[hq]at L;cases L
   | some x =>rw[hq]at L;simp at L;exact X x (List.mem_of_getElem? hq) (by rw[L,e])
  rw[E];have a6:MV (Fr (own φ h) Bw w false) A A.zero z:=wA B hT hz a3 a4 a5;refine Good.aH (v:=if c then .tuple #[z,.bool false]else z) (w':=w) ?_ (aG.pure m (M z _ false a6));simp only[execOp,ho];rw[e1,e2];cases c <;> simp[Instr.lookup,run_underlying hm,Go.MapKept.run_getObj_map hb,u.check,h1,hz,Result.andThen]
 ·obtain⟨p,J,a7⟩:=jT f X;have a8:p.1=k:=fO Z (by rw[←a7,h3]);have I:=lB (α:=A.den) Z a1 J a8;rw[I];have Y:j<q.length:=(List.getElem?_eq_some_iff.1 J).1;obtain⟨N,q1,q2⟩:=C j Y;have a9:N=e:=by
   have:O.toList[j]? = some N:=by simpa using q1
   rw[X]at this;cases this;rfl
  subst a9;have aa:q[j]=p:=by rw[List.getElem?_eq_getElem Y]at J;simpa using J
  rw[aa]at q2;refine Good.aH (v:=if c then .tuple #[N.val,.bool true]else N.val) (w':=w) ?_ (aG.pure m (M N.val _ true q2));simp only[execOp,ho];rw[e1,e2];cases c <;> simp[Instr.lookup,run_underlying hm,Go.MapKept.run_getObj_map hb,u.check,h1,Result.andThen]
theorem gG(w:World)(r:Nat)(o:Go.Obj):w.grownBy { w with heap:=w.heap.setIfInBounds r o } (some r):=by
 refine⟨rfl,rfl,rfl,by simp,fun k hk c=>?_⟩;have:r≠k:=fun e=>c (by rw[e])
 simp[Array.getElem?_setIfInBounds_ne this]
theorem ym.push{j:Array MapEntry}{c:Nat}(h:ym j c)(k v:Value):ym (j.push { key:=k,val:=v,born:=c }) (c+1):=by
 refine⟨?_,fun e f=>?_⟩
 ·simp only[Array.toList_push,List.map_append,List.map_cons,List.map_nil];refine List.nodup_append.2 ⟨h.1,by simp,fun a ha b hb e=>?_⟩;simp only[List.mem_singleton]at hb;obtain⟨p,q,rfl⟩:=List.mem_map.1 ha;have:=h.2 p q;omega
 ·simp only[Array.toList_push,List.mem_append,List.mem_singleton]at f;rcases f with f | rfl
  ·exact Nat.lt_succ_of_lt (h.2 e f)
  ·exact Nat.lt_succ_self _
theorem ym.modify{p:Array MapEntry}{c:Nat}(h:ym p c)(j:Nat)(f:MapEntry→MapEntry)(u:∀e,(f e).born=e.born):ym (p.modify j f) c:=by
 have q:(p.modify j f).toList.map (·.born)=p.toList.map (·.born):=by
  refine List.ext_getElem? fun i=>?_
  simp only[List.getElem?_map,Array.getElem?_toList,Array.getElem?_modify];split
  ·cases p[i]? <;> simp[u]
  ·rfl
 refine⟨by rw[q];exact h.1,fun e z=>?_⟩;have:e.born∈(p.modify j f).toList.map (·.born):=List.mem_map_of_mem z;rw[q]at this;obtain⟨A,B,C⟩:=List.mem_map.1 this;rw[←C];exact h.2 A B
theorem lY(m:Mem Bw w0 ρ φ h w){o:Oper}{a:Act}{t kt et:TypeId}{ti:TI}(ht:aP P t ti)(hk:ti.k = .mp kt et){K:Ty}(I:fC P kt K){A:Ty}
  {xo ko M:Operand} (N:o.op = .mapUpdate t xo ko M∨o.op = .insert t xo ko M) {id:Nat} {u:List (K.den×A.den)} {us:hD} (_:h id=some (.mpo K A u)) (hi:apply us h id=some (.mpo K A u)) (hx:V (Fr (own φ h) Bw w) ρ (.mp id) (a.eval xo)) {k:K.den} (e2:a.eval ko=aO K k)
  {y:ag} (hy:V (Fr (own φ h) Bw w) ρ y (a.eval M)) (hc:(cellsOf y).all ag.cell=true) (hs:kP A y=true) {x:A.den} (hz:HA A h y=some (x,us)) :
  Good P o a w (aG Bw w0 ρ φ h w new .unk (us++[(id,some (.mpo K A (cj K u k x)))])):=by
 obtain⟨m',a5,b2⟩:=nw m hz;obtain⟨r,O,clock,e1,X,a6,hb,⟨hK,hB⟩,f,Y,B⟩:=uA m' hi (V.mono a5 (fun _ _ h=>h) hx);obtain⟨dm,hm,Z⟩:=ht.hu;rw[hk]at Z;simp only[UK]at Z;subst Z;have b3:O.toList.map (·.key)=(u.map (·.1)).map (aO K):=by rw[f,List.map_map];rfl
 obtain⟨r1,r2,r3⟩:=fV hc hy;obtain⟨s1,s2⟩:=b2 _ r1;have a7:MV (Fr (own φ (apply us h)) Bw w false) A x (a.eval M):=by
  refine⟨s1,by rw[s2,←r2];simp,fun a1=>?_,fun a1=>?_⟩
  ·have a2:cellsOf y=[y]:=by cases y <;> first | rfl | (simp[kP,a1]at hs)
   rw[a2]at hc;simp only[List.all_cons,List.all_nil,Bool.and_true]at hc;exact tM hc hy
  ·cases y with
   | agg cs =>
    simp only[V]at hy;obtain⟨vs,e,_⟩:=hy;exact⟨vs,e⟩
   | _=>simp[kP,a1]at hs
 have a8:O.size=u.length:=by have:=congrArg List.length f;simpa using this
 have a9:∀(z:Array MapEntry) (c:Nat),(execOp a.eval o).run P w = .ok .skip { w with heap:=w.heap.setIfInBounds r (.map z c) }→ym z c→z.toList.map (·.key)=(cj K u k x).map (fun p=>aO K p.1) →
   ((cj K u k x).map (·.1)).Nodup→(∀i (h':i<(cj K u k x).length),∃e:MapEntry,z[i]? = some e∧MV (Fr (own φ (apply us h)) Bw w false) A (cj K u k x)[i].2 e.val) →
   Good P o a w (aG Bw w0 ρ φ h w new .unk (us++[(id,some (.mpo K A (cj K u k x)))])):=fun z c aa q0 q1 q2 q3=>by
  refine Good.jM aa ?_;refine aG.after (u1:=us) rfl a5 ?_;refine dW m' (some id) id (.mpo K A (cj K u k x)) (.map (some r)) (φ id) (some r) (gG w r _) (fun k e=>⟨id,_,rfl,hi,rfl,by cases e;exact a6⟩) (.inr ⟨rfl,X⟩)
   (fun _ k hk=>Nat.lt_of_lt_of_le (m'.lt id _ k hi rfl hk) (gG w r (.map z c)).size) (fun _ k hk=> .inr ⟨id,_,rfl,hi,rfl,hk⟩) (fun F' b4 hF b6=>?_) (by rw[bg];rfl) (fun e=>by rw[X]at e;cases e) (fun F' b4 hF X b7=>by simp only[V])
  exact⟨r,z,c,rfl,a6,(heap_set hb).1,⟨hK,q0⟩,q1,q2,fun i hi=>let ⟨e,t1,t2,t3⟩:=q3 i hi;⟨e,t1,ai.mono (hF _) (fun _ _ h=>h) t2,t3⟩⟩
 rcases I.find k O.toList (u.map (·.1)) w b3 with⟨h1,h2⟩ | ⟨j,e,h1,h2,h3⟩
 ·have ac:∀p∈u,p.1≠k:=fun p D e=>by
   obtain⟨j,hj⟩:=List.mem_iff_getElem?.1 D;have E:(u.map (fun p=>aO K p.1))[j]? = some (aO K p.1):=by rw[List.getElem?_map,hj];rfl
   rw[←f,List.getElem?_map]at E;cases hq:O.toList[j]? with
   | none=>rw[hq]at E;cases E
   | some x =>rw[hq]at E;simp at E;exact h2 x (List.mem_of_getElem? hq) (by rw[E,e])
  have q:=Aj (x:=x) hK ac;refine a9 (O.push { key:=aO K k,val:=a.eval M,born:=clock }) (clock+1) ?_ (hB.push _ _) ?_ ?_ ?_
  ·rcases N with N | N <;>
   ·simp only[execOp,N];rw[e1,e2];simp[Instr.mapUpdate,run_underlying hm,Go.MapKept.run_getObj_map hb,I.check,h1,run_setObj_map _ hb,Result.andThen]
  ·rw[q];simp[f]
  ·rw[q];simp only[List.map_append,List.map_cons,List.map_nil];refine List.nodup_append.2 ⟨Y,by simp,fun a ha b hb e=>?_⟩;simp only[List.mem_singleton]at hb;obtain⟨p,D,rfl⟩:=List.mem_map.1 ha;exact ac p D (by rw[e,hb])
  ·rw[q];intro i J;simp only[List.length_append,List.length_cons,List.length_nil]at J;rcases Nat.lt_or_ge i u.length with E | E
   ·obtain⟨L,t1,t2⟩:=B i E;exact⟨L,by rw[Array.getElem?_push,if_neg (by omega)];exact t1,by rw[List.getElem_append_left E];exact t2⟩
   ·obtain rfl:i=u.length:=by omega
    exact⟨_,by rw[Array.getElem?_push,if_pos a8.symm],by simpa using a7⟩
 ·obtain⟨p,D,b5⟩:=jT f h2;have a3:p.1=k:=fO hK (by rw[←b5,h3]);have q:=z7 (x:=x) hK Y D a3;have hj:O[j]? = some e:=by simpa using h2
  have ad:j<u.length:=(List.getElem?_eq_some_iff.1 D).1;have a4:∀L,O[j]? = some L→({ L with key:=aO K k,val:=a.eval M }:MapEntry).key=L.key:=fun L ax=>by rw[hj]at ax;cases ax;exact h3.symm
  have b1:(u.set j (k,x)).map (·.1)=u.map (·.1):=by
   rw[List.map_set];simp only;refine List.ext_getElem? fun i=>?_
   rw[List.getElem?_set];split
   ·rename_i C;subst C;simp[ad,D,a3];rw[List.getElem?_eq_getElem ad]at D;simp at D;rw[D,a3]
   ·rfl
  refine a9 (O.modify j fun e=> { e with key:=aO K k,val:=a.eval M }) clock ?_ (hB.modify j _ fun _=>rfl) ?_ ?_ ?_
  ·rcases N with N | N <;>
   ·simp only[execOp,N];rw[e1,e2];simp[Instr.mapUpdate,run_underlying hm,Go.MapKept.run_getObj_map hb,I.check,h1,hj,h3,I.stays,run_setObj_map _ hb,Result.andThen]
  ·rw[modify_keys j _ a4,q,f];have:(u.set j (k,x)).map (fun p=>aO K p.1)=((u.set j (k,x)).map (·.1)).map (aO K):=by rw[List.map_map];rfl
   rw[this,b1,List.map_map];rfl
  ·rw[q,b1];exact Y
  ·rw[q];intro i J;simp only[List.length_set]at J;obtain⟨L,t1,t2⟩:=B i J;by_cases C:j=i
   ·subst C;refine⟨{ L with key:=aO K k,val:=a.eval M },by rw[Array.getElem?_modify,if_pos rfl,t1];rfl,by simpa using a7⟩
   ·refine⟨L,by rw[Array.getElem?_modify,if_neg C];exact t1,?_⟩;rw[List.getElem_set_ne C];exact t2
theorem zg(m:Mem Bw w0 ρ φ h w)(hn:ρ new=none){o:Oper}{a:Act}{t:TypeId}{K:Ty}(q:K.isKey=true)(u:o.op = .makeMap t none):
  Good P o a w (aG Bw w0 ρ φ h w new (.mp new) [(new,some (.mpl K []))]):=by
 have c:(Instr.makeMap t none).run P w = .ok (.map (some w.heap.size)) (w.alloc (.map #[] 0)):=rfl;refine Good.aH (v:= .map (some w.heap.size)) (w':=w.alloc (.map #[] 0)) (by simp only[execOp,u,Option.map_none,Sem.run_bind,c,Result.andThen_ok];rfl) ?_;refine cN m none new (.mpl K []) (.map (some w.heap.size)) none (World.grownBy_alloc w _ none) (fun k e=>by cases e) (.inl hn) (fun _ k hk=>?_) (fun F' j x p=>?_)
  (by rw[bp];rfl) (fun _=>rfl) (fun F' j x p f=>?_)
 ·simp only[dg,Option.some.injEq]at hk;exact .inl (by omega)
 ·exact⟨_,#[],0,rfl,rfl,heap_alloc_new w _,q,rfl,List.nodup_nil,fun i hi=>absurd hi (by simp)⟩
 ·simp only[V];exact⟨f,_,rfl⟩
theorem Ft(m:Mem Bw w0 ρ φ h w){id:Nat}{K:Ty}{c:List (K.den×Value)}(hi:h id=some (.mpl K c)){v:Value}(j:V (Fr (own φ h) Bw w) ρ (.mp id) v):
  ∃r f clock,v = .map (some r)∧ρ id=some (.map (some r))∧φ id r∧w.heap[r]? = some (.map f clock)∧K.isKey=true∧f.toList.map (·.key)=c.map (fun p=>aO K p.1)∧(c.map (·.1)).Nodup ∧
   ∀i (h':i<c.length),∃e:MapEntry,f[i]? = some e∧e.val=c[i].2:=by
 obtain⟨u,q,r,f,clock,rfl,x⟩:=m.ob id _ hi;simp only[V]at j;rw[j.1]at q;cases q;exact⟨r,f,clock,rfl,j.1,x⟩
def jV{α:Type}(K:Ty):List (K.den×α)→K.den→Nat→Prop
 | [],_,_=>True
 | p::_,k,0=>cJ K p.1 k=true
 | p::r,k,j+1=>cJ K p.1 k=false∧jV K r k j
theorem wN{α:Type}{K:Ty}{k:K.den}:∀ {c:List (K.den×α)} {j:Nat},jV K c k j→aU K c k=(c[j]?).map (·.2)
 | [],j,_=>by simp[aU]
 | p::r,0,h=>by
  simp only[jV]at h;simp[aU,h]
 | p::r,j+1,h=>by
  simp only[jV]at h;simp only[aU,h.1,Bool.false_eq_true,if_false,List.getElem?_cons_succ];exact wN h.2
def L4:Value→ag
 | .agg c=> .agg (c.toList.map .lit)
 | v=> .lit v
theorem F5{F:Bool→Addr→Value→Prop}{ρ:Nat→QW}:∀ {l:QY} {g:Nat→Value→Prop},(∀k v,l[k]? = some v→g k v)→VL F ρ (l.map .lit) g
 | [],_,_=>trivial
 | v::l,g,h=>by
  simp only[List.map_cons,VL,V];exact⟨⟨v,h 0 v rfl,rfl⟩,F5 fun k u hk=>h (k+1) u hk⟩
theorem LZ{F:Bool→Addr→Value→Prop}{ρ:Nat→QW}(v:Value):V F ρ (L4 v) v:=by
 unfold L4;split
 ·simp only[V];exact⟨_,rfl,by simp,F5 fun k u hk=>by simpa using hk⟩
 ·simp only[V]
def zV(c:TI):ag:=if c.k.agg=true then .agg c.z else .unk
theorem MH{F:Bool→Addr→Value→Prop}{ρ:Nat→QW}{t:TypeId}{ti:TI}(ht:aP P t ti){w:World}{z:Value}(hz:(zeroValue t).run P w = .ok z w)(e:z.cells.toList.map kd=ti.z)(x:z.cells.size=ti.size):V F ρ (zV ti) z:=by
 unfold zV;split
 ·rename_i hk;obtain⟨i,j,p,q,_⟩:=ht.hi;have f:j=z:=by simp[zeroValue,typeInfo,p,q]at hz;exact hz
  subst f;have c:=ht.hz;rw[p]at c;simp only[Option.bind_some,q,Option.map_some,Option.some.injEq]at c;rw[hk]at c;cases j with
  | agg u =>
   simp only[V];have A:=gv (F:=F) (ρ:=ρ) u.toList;refine⟨u,rfl,?_,?_⟩
   ·rw[←e];simp[Value.cells]
   ·rw[←e];simpa [Value.cells]using A
  | _=>cases c
 ·trivial
def FI(z:ag)(o:QW):ag :=
 match o with
 | some v=> .tup [L4 v,.p false .bool true]
 | none=> .tup [z,.p false .bool false]
theorem Al(m:Mem Bw w0 ρ φ h w){o:Oper}{a:Act}{t kt et:TypeId}{ti te:TI}(ht:aP P t ti)(hk:ti.k = .mp kt et){K:Ty}(q:fC P kt K)(J:aP P et te)
  {xo ko:Operand} (ho:o.op = .lookup t xo ko true) {id:Nat} {f:List (K.den×Value)} (hi:h id=some (.mpl K f)) (hx:V (Fr (own φ h) Bw w) ρ (.mp id) (a.eval xo)) {k:K.den} (e2:a.eval ko=aO K k) :
  Good P o a w (aG Bw w0 ρ φ h w new (FI (zV te) (aU K f k)) []):=by
 obtain⟨r,L,clock,e1,_,_,hb,X,c,Y,u⟩:=Ft m hi hx;obtain⟨dm,hm,B⟩:=ht.hu;rw[hk]at B;simp only[UK]at B;subst B;have Z:L.toList.map (·.key)=(f.map (·.1)).map (aO K):=by rw[c,List.map_map];rfl
 obtain⟨z,hz,a1,a2,_⟩:=dy J w;have a3:=MH (F:=Fr (own φ h) Bw w) (ρ:=ρ) J hz a1 a2;rcases q.find k L.toList (f.map (·.1)) w Z with⟨h1,M⟩ | ⟨j,e,h1,M,h3⟩
 ·have C:aU K f k=none:=jB X fun p E e=>by
   obtain⟨j,N⟩:=List.mem_iff_getElem?.1 E;have I:(f.map (fun p=>aO K p.1))[j]? = some (aO K p.1):=by rw[List.getElem?_map,N];rfl
   rw[←c,List.getElem?_map]at I;cases hq:L.toList[j]? with
   | none=>rw[hq]at I;cases I
   | some x =>rw[hq]at I;simp at I;exact M x (List.mem_of_getElem? hq) (by rw[I,e])
  rw[C];refine Good.aH (v:= .tuple #[z,.bool false]) (w':=w) ?_ (aG.pure m ?_)
  ·simp only[execOp,ho];rw[e1,e2];simp[Instr.lookup,run_underlying hm,Go.MapKept.run_getObj_map hb,q.check,h1,hz,Result.andThen]
  ·simp only[FI,V,VL];exact⟨_,rfl,rfl,⟨z,by simp,a3⟩,⟨.bool false,by simp,by simp only[ai];exact⟨rfl,trivial⟩⟩,trivial⟩
 ·obtain⟨p,E,a4⟩:=jT c M;have a5:p.1=k:=fO X (by rw[←a4,h3]);have D:=lB (α:=Value) X Y E a5;rw[D];have N:j<f.length:=(List.getElem?_eq_some_iff.1 E).1;obtain⟨O,q1,q2⟩:=u j N;have a6:O=e:=by
   have:L.toList[j]? = some O:=by simpa using q1
   rw[M]at this;cases this;rfl
  subst a6;have a7:f[j]=p:=by rw[List.getElem?_eq_getElem N]at E;simpa using E
  rw[a7]at q2;refine Good.aH (v:= .tuple #[O.val,.bool true]) (w':=w) ?_ (aG.pure m ?_)
  ·simp only[execOp,ho];rw[e1,e2];simp[Instr.lookup,run_underlying hm,Go.MapKept.run_getObj_map hb,q.check,h1,Result.andThen]
  ·simp only[FI,V,VL];exact⟨_,rfl,rfl,⟨O.val,by simp,by rw[q2];exact LZ _⟩,⟨.bool true,by simp,by simp only[ai];exact⟨rfl,trivial⟩⟩,trivial⟩
theorem oW(m:Mem Bw w0 ρ φ h w){o:Oper}{a:Act}{t M et:TypeId}{ti:TI}(ht:aP P t ti)(hk:ti.k = .mp M et){K:Ty}(B:fC P M K)
  {N O J:Operand} (L:o.op = .mapUpdate t N O J∨o.op = .insert t N O J) {id:Nat} {f:List (K.den×Value)} (hi:h id=some (.mpl K f)) (hx:V (Fr (own φ h) Bw w) ρ (.mp id) (a.eval N)) {k:K.den} (e2:a.eval O=aO K k) {x:Value} (e3:a.eval J=x)
  (C:∀p∈f,p.1≠k) :
  Good P o a w (aG Bw w0 ρ φ h w new .unk [(id,some (.mpl K (f++[(k,x)])))]):=by
 obtain⟨r,D,clock,e1,q,E,hb,hK,c,X,u⟩:=Ft m hi hx;obtain⟨dm,hm,z⟩:=ht.hu;rw[hk]at z;simp only[UK]at z;subst z;have Y:D.toList.map (·.key)=(f.map (·.1)).map (aO K):=by rw[c,List.map_map];rfl
 have I:D.size=f.length:=by have:=congrArg List.length c;simpa using this
 have Z:(Instr.findKey M (aO K k) D.toList).run P w = .ok none w:=by
  rcases B.find k D.toList (f.map (·.1)) w Y with⟨Z,_⟩ | ⟨j,e,_,h2,h3⟩
  ·exact Z
  ·obtain⟨p,hp,a1⟩:=jT c h2;exact absurd (fO hK (by rw[←a1,h3])) (C p (List.mem_of_getElem? hp))
 refine Good.jM (w':= { w with heap:=w.heap.setIfInBounds r (.map (D.push { key:=aO K k,val:=a.eval J,born:=clock }) (clock+1)) }) ?_ ?_
 ·rcases L with L | L <;>
  ·simp only[execOp,L];rw[e1,e2];simp[Instr.mapUpdate,run_underlying hm,Go.MapKept.run_getObj_map hb,B.check,Z,run_setObj_map _ hb,Result.andThen]
 ·refine dW m (some id) id (.mpl K (f++[(k,x)])) (.map (some r)) (φ id) (some r) (gG w r _) (fun k e=>⟨id,_,rfl,hi,rfl,by cases e;exact E⟩) (.inr ⟨rfl,q⟩)
   (fun _ k hk=>Nat.lt_of_lt_of_le (m.lt id _ k hi rfl hk) (gG w r _).size) (fun _ k hk=> .inr ⟨id,_,rfl,hi,rfl,hk⟩) (fun F' a2 hF a4=>?_) (by rw[bg];rfl) (fun e=>by rw[q]at e;cases e) (fun F' a2 hF q a5=>by simp only[V])
  refine⟨r,_,_,rfl,E,(heap_set hb).1,hK,?_,?_,fun i a3=>?_⟩
  ·simp[c]
  ·simp only[List.map_append,List.map_cons,List.map_nil];refine List.nodup_append.2 ⟨X,by simp,fun a ha b hb e=>?_⟩;simp only[List.mem_singleton]at hb;obtain⟨p,hp,rfl⟩:=List.mem_map.1 ha;exact C p hp (by rw[e,hb])
  ·simp only[List.length_append,List.length_cons,List.length_nil]at a3;rcases Nat.lt_or_ge i f.length with h4 | h4
   ·obtain⟨e',t1,t2⟩:=u i h4;exact⟨e',by rw[Array.getElem?_push,if_neg (by omega)];exact t1,by rw[List.getElem_append_left h4];exact t2⟩
   ·obtain rfl:i=f.length:=by omega
    exact⟨_,by rw[Array.getElem?_push,if_pos I.symm],by simpa using e3⟩
theorem Bj(m:Mem Bw w0 ρ φ h w){o:Oper}{a:Act}{t x z:TypeId}{ti:TI}(ht:aP P t ti)(hk:ti.k = .mp x z){u:Operand}{id:Nat}{K A:Ty}{j:List (K.den×A.den)}(hi:h id=some (.mpo K A j))(B:V (Fr (own φ h) Bw w) ρ (.mp id) (a.eval u))
  (C:o.op = .call { callee:= .builtin .len,args:= #[u],argTypes:= #[t] }):Good P o a w (aG Bw w0 ρ φ h w new (.p false (.int .i64) (j.length:Int)) []):=by
 obtain⟨r,D,clock,E,I,J,hb,N,c,L,q⟩:=uA m hi B;obtain⟨O,M,e⟩:=ht.hu;rw[hk]at e;simp only[UK]at e;subst e;have f:D.size=j.length:=by have:=congrArg List.length c;simpa using this
 refine Good.aH (v:= .int .i64 (j.length:Int)) (w':=w) ?_ (aG.pure m (dC _ _ _));simp only[execOp,C,resolve,invoke,builtin,Sem.run_bind,Sem.run_pure,Result.andThen_ok,List.map_toArray,List.map_cons,List.map_nil,E];simp[Builtin.len_,run_underlying M,Go.MapKept.run_getObj_map hb,goInt,f,Result.andThen]
theorem IU(m:Mem Bw w0 ρ φ h w){o:Oper}{a:Act}{u x:Operand}{f:Array TypeId}{β q:Bool}{k:IntKind}{i j:Int}(z:V (Fr (own φ h) Bw w) ρ (.p β (.int k) i) (a.eval u))(B:V (Fr (own φ h) Bw w) ρ (.p q (.int k) j) (a.eval x))
  (C:o.op = .call { callee:= .builtin .min,args:= #[u,x],argTypes:=f }):Good P o a w (aG Bw w0 ρ φ h w new (.p false (.int k) (min i j)) []):=by
 refine Good.aH (v:= .int k (min i j)) (w':=w) ?_ (aG.pure m (dC _ _ _));have e:(if j<i then j else i)=min i j:=by
  by_cases c:j<i
  ·rw[if_pos c];omega
  ·rw[if_neg c];omega
 simp only[execOp,C,resolve,invoke,builtin,Sem.run_bind,Sem.run_pure,Result.andThen_ok,List.map_toArray,List.map_cons,List.map_nil,bR z,bR B];simp[Builtin.min_,Builtin.min2,e]
theorem HP(m:Mem Bw w0 ρ φ h w){o:Oper}{a:Act}{u x:Operand}{f:Array TypeId}{β q:Bool}{k:IntKind}{i j:Int}(z:V (Fr (own φ h) Bw w) ρ (.p β (.int k) i) (a.eval u))(B:V (Fr (own φ h) Bw w) ρ (.p q (.int k) j) (a.eval x))
  (C:o.op = .call { callee:= .builtin .max,args:= #[u,x],argTypes:=f }):Good P o a w (aG Bw w0 ρ φ h w new (.p false (.int k) (max i j)) []):=by
 refine Good.aH (v:= .int k (max i j)) (w':=w) ?_ (aG.pure m (dC _ _ _));have e:(if j > i then j else i)=max i j:=by
  by_cases c:j > i
  ·rw[if_pos c];omega
  ·rw[if_neg c];omega
 simp only[execOp,C,resolve,invoke,builtin,Sem.run_bind,Sem.run_pure,Result.andThen_ok,List.map_toArray,List.map_cons,List.map_nil,bR z,bR B];simp[Builtin.max_,Builtin.max2,e]
end
end Go.Tv
