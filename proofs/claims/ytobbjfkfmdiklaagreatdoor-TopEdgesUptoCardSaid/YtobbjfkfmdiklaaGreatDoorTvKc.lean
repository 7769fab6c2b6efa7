import Derived.Test.YtobbjfkfmdiklaaGreatDoorTvKam
import Derived.MapKept
import Derived.ChangeKeysEq
namespace Go.Tv
open Go Go.RowKit
open Go.MapKept (IsKey findNow_spec run_checkKey run_findKey run_setObj_map heap_set run_keyThatStays modify_keys)
def eI:(K:Ty)→K.den→K.den→Bool
 | .int _,a,b=> @BEq.beq Int _ a b
 | .bool,a,b=> @BEq.beq Bool _ a b
 | .str,a,b=> @BEq.beq QX _ a b
 | .unit,_,_=>true
 | .prod A B,a,b=>eI A a.1 b.1 && eI B a.2 b.2
 | .arr _ _,a,b=>IJ a b
 | _,_,_=>false
theorem fE:∀ {K:Ty} {a b:K.den},K.isKey=true→(eI K a b=true↔a=b)
 | .int _,a,b,_=>by
  show(@BEq.beq Int _ a b)=true↔a=b;exact beq_iff_eq
 | .bool,a,b,_=>by
  show(@BEq.beq Bool _ a b)=true↔a=b;exact beq_iff_eq
 | .str,a,b,_=>by
  show(@BEq.beq QX _ a b)=true↔a=b;exact beq_iff_eq
 | .flt,_,_,h=>by cases h
 | .unit,_,_,_=>⟨fun _=>rfl,fun _=>rfl⟩
 | .prod A B,a,b,h=>by
  simp only[Ty.isKey,Bool.and_eq_true]at h;simp only[eI,Bool.and_eq_true,fE h.1,fE h.2];exact⟨fun e=>Prod.ext e.1 e.2,fun e=>by rw[e];exact⟨rfl,rfl⟩⟩
 | .slice _,_,_,h=>by cases h
 | .ptr _,_,_,h=>by cases h
 | .tree _ _,_,_,h=>by cases h
 | .mapi _ _,_,_,h=>by cases h
 | .arr _ _,a,b,_=>by
  show(a.1 == b.1)=true↔a=b;rw[beq_iff_eq];exact⟨Subtype.ext,fun e=>by rw[e]⟩
theorem cY:∀ {K:Ty} {a:K.den},K.isKey=true→(cJ K a).length=K.size
 | .int _,_,_=>rfl
 | .bool,_,_=>rfl
 | .str,_,_=>rfl
 | .flt,_,h=>by cases h
 | .unit,_,_=>rfl
 | .prod A B,a,h=>by
  simp only[Ty.isKey,Bool.and_eq_true]at h;simp only[cJ,Ty.size,List.length_append,cY h.1,cY h.2]
 | .slice _,_,h=>by cases h
 | .ptr _,_,h=>by cases h
 | .tree _ _,_,h=>by cases h
 | .mapi _ _,_,h=>by cases h
 | .arr _ _,a,_=>by simp[cJ,Ty.size,a.2]
theorem jk:∀ {K:Ty} {a b:K.den},K.isKey=true→cJ K a=cJ K b→a=b
 | .int _,a,b,_,h=>by simpa [cJ]using h
 | .bool,a,b,_,h=>by simpa [cJ]using h
 | .str,a,b,_,h=>by simpa [cJ]using h
 | .flt,_,_,h,_=>by cases h
 | .unit,_,_,_,_=>rfl
 | .prod A B,a,b,h,e=>by
  simp only[Ty.isKey,Bool.and_eq_true]at h;simp only[cJ]at e;obtain⟨j,p⟩:=List.append_inj e (by rw[cY h.1,cY h.1]);exact Prod.ext (jk h.1 j) (jk h.2 p)
 | .slice _,_,_,h,_=>by cases h
 | .ptr _,_,_,h,_=>by cases h
 | .tree _ _,_,_,h,_=>by cases h
 | .mapi _ _,_,_,h,_=>by cases h
 | .arr k _,a,b,_,e=>by
  simp only[cJ]at e;exact Subtype.ext (List.map_inj_right (fun x y h=>by simpa using h) |>.1 e)
theorem lB:∀ {K:Ty} {a b:K.den},K.isKey=true→aS K a=aS K b→a=b
 | .int _,a,b,_,h=>by simpa [aS]using h
 | .bool,a,b,_,h=>by simpa [aS]using h
 | .str,a,b,_,h=>by simpa [aS]using h
 | .flt,_,_,h,_=>by cases h
 | .unit,_,_,_,_=>rfl
 | .prod A B,a,b,h,e=>by
  simp only[aS,Value.agg.injEq]at e;exact jk h (List.toArray_inj e)
 | .slice _,_,_,h,_=>by cases h
 | .ptr _,_,_,h,_=>by cases h
 | .tree _ _,_,_,h,_=>by cases h
 | .mapi _ _,_,_,h,_=>by cases h
 | .arr _ _,a,b,h,e=>by
  simp only[aS,Value.agg.injEq]at e;exact jk h (List.toArray_inj e)
def Jo:TK→Option Ty
 | .int k=>some (.int k)
 | .bool=>some .bool
 | .str=>some .str
 | _=>none
theorem GF{k:TK}{K:Ty}(h:Jo k=some K):K.isKey=true:=by cases k <;> cases h <;> rfl
theorem zC{P:Program}{d:TypeDesc}{k:TK}{K:Ty}(h:Jo k=some K)(hd:UK P d k)(x:K.den):IsKey d (aS K x):=by
 cases k <;> cases h <;> simp only[UK]at hd <;> subst hd <;> simp[IsKey,aS]
theorem rD{F:Bool→Addr→Value→Prop}{ρ:Nat→QW}{β:Bool}:∀ {K:Ty} {x:K.den} {v:Value},K.isKey=true→K.scalar=true→V F ρ (.p β K x) v→v=aS K x
 | .int _,_,_,_,_,h=>bQ h
 | .bool,_,_,_,_,h=>nG h
 | .str,_,_,_,_,h=>pw h
 | .flt,_,_,h,_,_=>by cases h
 | .unit,_,_,_,h,_=>by cases h
 | .prod _ _,_,_,_,h,_=>by cases h
 | .slice _,_,_,h,_,_=>by cases h
 | .ptr _,_,_,h,_,_=>by cases h
 | .tree _ _,_,_,h,_,_=>by cases h
 | .mapi _ _,_,_,h,_,_=>by cases h
 | .arr _ _,_,_,_,h,_=>by cases h
theorem ke{F:Addr→Value→Prop}:∀ {K:Ty} {x:K.den} {l:QY} {o:Nat},K.isKey=true→ai F K x (fun k u=>l[o+k]? = some u)→∀k,k<K.size→l[o+k]? = (cJ K x)[k]?
 | .int _,_,_,_,_,h,k,hk=>by
  obtain rfl:k=0:=by simp only[Ty.size]at hk;omega
  simp only[ai]at h;rw[h];rfl
 | .bool,_,_,_,_,h,k,hk=>by
  obtain rfl:k=0:=by simp only[Ty.size]at hk;omega
  simp only[ai]at h;rw[h];rfl
 | .str,_,_,_,_,h,k,hk=>by
  obtain rfl:k=0:=by simp only[Ty.size]at hk;omega
  simp only[ai]at h;rw[h];rfl
 | .flt,_,_,_,h,_,_,_=>by cases h
 | .unit,_,_,_,_,_,k,hk=>by simp only[Ty.size]at hk;omega
 | .prod A B,x,l,o,h,j,k,hk=>by
  simp only[Ty.isKey,Bool.and_eq_true]at h;simp only[ai]at j;simp only[Ty.size]at hk;simp only[cJ];rcases Nat.lt_or_ge k A.size with h1 | h1
  ·rw[List.getElem?_append_left (by rw[cY h.1];exact h1)];exact ke h.1 j.1 k h1
  ·rw[List.getElem?_append_right (by rw[cY h.1];exact h1),cY h.1];have:=ke (o:=o+A.size) h.2 (ai.mono (fun _ _ h=>h) (fun k u hk=>by rw[Nat.add_assoc];exact hk) j.2) (k - A.size) (by omega);rw[←this];congr 1;omega
 | .slice _,_,_,_,h,_,_,_=>by cases h
 | .ptr _,_,_,_,h,_,_,_=>by cases h
 | .tree _ _,_,_,_,h,_,_,_=>by cases h
 | .mapi _ _,_,_,_,h,_,_,_=>by cases h
 | .arr p _,x,l,o,_,j,k,hk=>by
  have hl:k<x.1.length:=by rw[x.2];exact hk
  simp only[ai]at j;rw[j k hl];simp[cJ,hl]
theorem jE:∀ {K:Ty} {x:K.den},K.isKey=true→K.scalar=false→aS K x = .agg (cJ K x).toArray
 | .int _,_,_,h=>by cases h
 | .bool,_,_,h=>by cases h
 | .str,_,_,h=>by cases h
 | .flt,_,h,_=>by cases h
 | .unit,_,_,_=>rfl
 | .prod _ _,_,_,_=>rfl
 | .slice _,_,h,_=>by cases h
 | .ptr _,_,h,_=>by cases h
 | .tree _ _,_,h,_=>by cases h
 | .mapi _ _,_,h,_=>by cases h
 | .arr _ _,_,_,_=>rfl
structure hY(P:Program)(kt:TypeId)(K:Ty):Prop where
 isKey:K.isKey=true
 check:∀(e:Bool) (k:K.den) (w:World),(Instr.checkKey e 10000 kt (aS K k)).run P w = .ok () w
 find:∀(k:K.den) (l:List MapEntry) (ks:List K.den) (w:World),l.map (·.key)=ks.map (aS K) →
  ((Instr.findKey kt (aS K k) l).run P w = .ok none w∧∀x∈l,x.key≠aS K k) ∨
  ∃j e,(Instr.findKey kt (aS K k) l).run P w = .ok (some (j,e.val)) w∧l[j]? = some e∧e.key=aS K k
 stays:∀(k:K.den) (w:World),(Instr.keyThatStays (aS K k) (aS K k)).run P w = .ok (aS K k) w
theorem hY.Ea{P:Program}{D:TypeId}{E:TI}(C:aN P D E){K:Ty}(q:Jo E.k=some K):hY P D K:=by
 obtain⟨d,hd,u⟩:=C.hu;refine⟨GF q,fun e k w=>run_checkKey hd (zC q u k) e 9999,fun k l L w hl=>?_,fun k w=>run_keyThatStays (zC q u k)⟩;have z:=zC (P:=P) q u k;have B:∀x∈l,IsKey d x.key:=fun x I=>by have:x.key∈l.map (·.key):=List.mem_map.2 ⟨x,I,rfl⟩;rw[hl]at this;obtain⟨p,_,hp⟩:=List.mem_map.1 this;rw[←hp];exact zC q u p
 rcases findNow_spec z l 0 B with⟨h1,h2⟩ | ⟨j,e,h1,h2,J⟩
 ·exact .inl ⟨run_findKey hd h1,h2⟩
 ·exact .inr ⟨j,e,by rw[run_findKey hd h1,Nat.zero_add],h2,J⟩
def n7(k:IntKind):Ty→Bool
 | .int j=>j == k
 | .unit=>true
 | .prod a b=>n7 k a && n7 k b
 | .arr j _=>j == k
 | _=>false
theorem nm{k:IntKind}:∀ {K:Ty},n7 k K=true→K.isKey=true
 | .int _,_=>rfl
 | .bool,h=>by cases h
 | .str,h=>by cases h
 | .flt,h=>by cases h
 | .unit,_=>rfl
 | .prod _ _,h=>by
  simp only[n7,Bool.and_eq_true]at h;simp only[Ty.isKey,nm h.1,nm h.2,Bool.and_self]
 | .slice _,h=>by cases h
 | .ptr _,h=>by cases h
 | .tree _ _,h=>by cases h
 | .mapi _ _,h=>by cases h
 | .arr _ _,_=>rfl
theorem gN{k:IntKind}:∀ {K:Ty} (x:K.den),n7 k K=true→∃l:QK,l.length=K.size∧cJ K x=l.map (Value.int k)
 | .int j,x,h=>by
  simp only[n7,beq_iff_eq]at h;subst h;exact⟨[x],rfl,rfl⟩
 | .bool,_,h=>by cases h
 | .str,_,h=>by cases h
 | .flt,_,h=>by cases h
 | .unit,_,_=>⟨[],rfl,rfl⟩
 | .prod a b,x,h=>by
  simp only[n7,Bool.and_eq_true]at h;obtain⟨l1,p,q⟩:=gN x.1 h.1;obtain⟨l2,u,z⟩:=gN x.2 h.2;exact⟨l1++l2,by simp[p,u,Ty.size],by simp[cJ,q,z]⟩
 | .slice _,_,h=>by cases h
 | .ptr _,_,h=>by cases h
 | .tree _ _,_,h=>by cases h
 | .mapi _ _,_,h=>by cases h
 | .arr j _,x,h=>by
  simp only[n7,beq_iff_eq]at h;subst h;exact⟨x.1,x.2,rfl⟩
section
variable{P:Program}
theorem nR{e:TypeId}{k:IntKind}(u:P.underlying e=some (.int k))(d:Nat)(w:World){l1 l2:QK}:∀(p:QV),(∀i∈p,i<l1.length∧i<l2.length) →
  ∃r:Bool,(Op.eqItems (d+1) e 1 (l1.map (Value.int k)).toArray (l2.map (Value.int k)).toArray p).run P w = .ok r w∧(r=true↔∀i∈p,l1[i]? = l2[i]?)
 | [],_=>⟨true,by simp[Op.eqItems],by simp⟩
 | i::p,h=>by
  obtain⟨h1,h2⟩:=h i (by simp);obtain⟨r,x,z⟩:=nR u d w p (fun j A=>h j (by simp[A]));have hp:P.plainKey e=true:=by simp[Program.plainKey,u]
  have B:=run_part_plain (P:=P) w hp (xs:=(l1.map (Value.int k)).toArray) (off:=i*1) (v:= .int k l1[i]) (by simp[h1]);have C:=run_part_plain (P:=P) w hp (xs:=(l2.map (Value.int k)).toArray) (off:=i*1) (v:= .int k l2[i]) (by simp[h2]);simp only[Op.eqItems,Sem.run_bind,B,C,Result.andThen_ok,run_equalIn_int w d e k k _ _ u];by_cases q:l1[i]=l2[i]
  ·refine⟨r,by simpa [q]using x,?_⟩;rw[z];simp[h1,h2,q]
  ·refine⟨false,by simp[q],?_⟩;simp[h1,h2,q]
theorem xr{e:TypeId}{k:IntKind}(j:P.underlying e=some (.int k))(n:Nat)(em:Bool)(x:Int)(w:World):(Instr.checkKey em (n+1) e (.int k x)).run P w = .ok () w:=by
 unfold Instr.checkKey;simp only[Sem.run_bind,run_underlying j,Result.andThen];rfl
theorem hY.Ef{t e:TypeId}{n:Nat}{k:IntKind}{i:TypeInfo}{K:Ty}(hu:P.underlying t=some (.array n e))(V:P.underlying e=some (.int k))(hi:P.info? e=some i)(hc:P.cellsOf e=1)
  (D:n7 k K=true) (N:K.scalar=false) (hn:K.size=n):hY P t K:=by
 have hk:=nm D;have heq:∀(a b:K.den) (w:World),∃r:Bool,(Op.equal t (aS K a) (aS K b)).run P w = .ok r w∧(r=true↔a=b):=fun a b w=>by
  obtain⟨l1,e1,B⟩:=gN a D;obtain⟨l2,e2,X⟩:=gN b D;rw[jE hk N,jE hk N,B,X];obtain⟨r,Y,O⟩:=nR (P:=P) V 9998 w (l1:=l1) (l2:=l2) (List.range n) (fun i hi=>by simp at hi;omega);refine⟨r,?_,?_⟩
  ·unfold Op.equal Op.maxDepth;rw[show(10000:Nat)=9999+1 from rfl,run_equalIn_array w 9999 _ _ hu hi,hc];exact Y
  ·rw[O];constructor
   ·intro h;have:l1=l2:=List.ext_getElem? fun i=>by
     rcases Nat.lt_or_ge i n with h1 | h1
     ·exact h i (by simpa using h1)
     ·rw[List.getElem?_eq_none (by omega),List.getElem?_eq_none (by omega)]
    exact jk hk (by rw[B,X,this])
   ·rintro rfl j _;have:l1.map (Value.int k)=l2.map (Value.int k):=by rw[←B,←X]
    have C:=congrArg (fun l=>l[j]?) this;simp only[List.getElem?_map]at C;cases h1:l1[j]? <;> cases h2:l2[j]? <;> simp[h1,h2]at C ⊢
    exact C
 refine⟨hk,fun em a w=>?_,fun a l u w hl=>?_,fun a w=>?_⟩
 ·obtain⟨l1,e1,B⟩:=gN a D;rw[jE hk N,B,show(10000:Nat)=9999+1 from rfl,Instr.checkKey];simp only[Sem.run_bind,run_underlying hu,Result.andThen_ok];simp only[Std.Legacy.Range.forIn_eq_forIn_range',Std.Legacy.Range.size,Nat.sub_zero,Nat.add_one_sub_one,Nat.div_one];have hin:∀j∈List.range' 0 n,j<l1.length:=fun j C=>by simp at C;omega
  generalize List.range' 0 n=is at hin;induction is with
  | nil=>simp
  | cons j is E =>
   have C:=hin j (by simp);have hp:P.plainKey e=true:=by simp[Program.plainKey,V]
   have p1:=run_part_plain (P:=P) w hp (xs:=(l1.map (Value.int k)).toArray) (off:=j*1) (v:= .int k l1[j]) (by simp[C]);simp only[List.forIn_cons,Sem.run_bind,(Go.run_sizeOf w hi:(sizeOf e).run P w=_),hc,Result.andThen_ok,p1,xr V 9998 em,Sem.run_pure];exact E (fun y I=>hin y (by simp[I]))
 ·have J:∀(l:List MapEntry) (u:List K.den) (q:Nat),l.map (·.key)=u.map (aS K) →
    ((Instr.findAsking t (aS K a) l q).run P w = .ok none w∧∀x∈l,x.key≠aS K a) ∨
    ∃j e,(Instr.findAsking t (aS K a) l q).run P w = .ok (some (q+j,e.val)) w∧l[j]? = some e∧e.key=aS K a:=by
   intro l;induction l with
   | nil=>intro u q _;exact .inl ⟨by simp[Instr.findAsking],by simp⟩
   | cons x l E =>
    intro u q h;cases u with
    | nil=>simp at h
    | cons b u =>
     simp only[List.map_cons,List.cons.injEq]at h;obtain⟨r,Y,O⟩:=heq a b w;unfold Instr.findAsking;rw[Sem.run_bind,h.1,Y];simp only[Result.andThen_ok];cases r with
     | true =>
      have:=O.1 rfl;subst this;exact .inr ⟨0,x,by simp,rfl,h.1⟩
     | false =>
      have Z:b≠a:=fun e=>by have:=O.2 e.symm;cases this
      rcases E u (q+1) h.2 with⟨h1,h2⟩ | ⟨j,y,h1,h2,h3⟩
      ·refine .inl ⟨by simpa using h1,fun y I=>?_⟩;rcases List.mem_cons.1 I with rfl | I
       ·rw[h.1];exact fun e=>Z (lB hk e)
       ·exact h2 y I
      ·exact .inr ⟨j+1,y,by simp only[Bool.false_eq_true,if_false];rw[h1,show q+1+j=q+(j+1) by omega],h2,h3⟩
  cases l with
  | nil=>exact .inl ⟨by simp[Instr.findKey,run_underlying hu,Result.andThen,Instr.findNow],by simp⟩
  | cons x l =>
   have L:Instr.findNow (.array n e) (aS K a) (x::l) 0=none:=by simp[Instr.findNow,Instr.sameNow]
   have M:(Instr.findKey t (aS K a) (x::l)).run P w=(Instr.findAsking t (aS K a) (x::l) 0).run P w:=by simp only[Instr.findKey,Sem.run_bind,run_underlying hu,Result.andThen_ok,L]
   rw[M];rcases J (x::l) u 0 hl with h | ⟨j,y,h1,h2,h3⟩
   ·exact .inl h
   ·exact .inr ⟨j,y,by rw[h1,Nat.zero_add],h2,h3⟩
 ·obtain⟨l1,e1,B⟩:=gN a D;rw[jE hk N,B];have hb:Instr.sameBits 10000 (.agg (l1.map (Value.int k)).toArray) (.agg (l1.map (Value.int k)).toArray)=true:=by
   rw[show(10000:Nat)=9999+1 from rfl,Instr.sameBits];simp only[beq_self_eq_true,Bool.true_and,List.all_eq_true];intro p hp;obtain⟨x,y⟩:=p;have a1:∀(l:QY),(x,y)∈l.zip l→x=y∧x∈l:=by
    intro l;induction l with
    | nil=>simp
    | cons z l E =>
     intro h;simp only[List.zip_cons_cons,List.mem_cons,Prod.mk.injEq]at h;rcases h with⟨rfl,rfl⟩ | h
     ·simp
     ·obtain⟨e,m⟩:=E h;exact⟨e,by simp[m]⟩
   obtain⟨rfl,hx⟩:=a1 _ hp;obtain⟨z,_,rfl⟩:=List.mem_map.1 (by simpa using hx);simp[Instr.sameBits]
  simp[Instr.keyThatStays,hb]
end
def bh{α:Type}(K:Ty):List (K.den×α)→K.den→Option α
 | [],_=>none
 | p::r,k=>if eI K p.1 k then some p.2 else bh K r k
def cN{α:Type}(K:Ty):List (K.den×α)→K.den→α→List (K.den×α)
 | [],k,x=>[(k,x)]
 | p::r,k,x=>if eI K p.1 k then(k,x)::r else p::cN K r k x
section
variable{α:Type}{K:Ty}
theorem nH(j:K.isKey=true){k:K.den}:∀ {u:List (K.den×α)},(∀p∈u,p.1≠k)→bh K u k=none
 | [],_=>rfl
 | p::r,h=>by
  simp only[bh];rw[if_neg (fun e=>h p (by simp) ((fE j).1 e))];exact nH j fun q x=>h q (by simp[x])
theorem ng(u:K.isKey=true){k:K.den}:∀ {x:List (K.den×α)} {j:Nat} {p:K.den×α},(x.map (·.1)).Nodup→x[j]? = some p→p.1=k→bh K x k=some p.2
 | [],j,p,_,h,_=>by simp at h
 | q::r,0,p,_,h,e=>by
  simp at h;subst h;simp only[bh];rw[if_pos ((fE u).2 e)]
 | q::r,j+1,p,hn,h,e=>by
  simp only[List.map_cons,List.nodup_cons]at hn;simp only[bh];have hm:p∈r:=List.mem_of_getElem? (by simpa using h);rw[if_neg (fun z=>hn.1 (List.mem_map.2 ⟨p,hm,by rw[e];exact((fE u).1 z).symm⟩))];exact ng u hn.2 (by simpa using h) e
theorem yU(u:K.isKey=true){k:K.den}{x:α}:∀ {j:List (K.den×α)},(∀p∈j,p.1≠k)→cN K j k x=j++[(k,x)]
 | [],_=>rfl
 | p::r,h=>by
  simp only[cN];rw[if_neg (fun e=>h p (by simp) ((fE u).1 e)),yU u fun q v=>h q (by simp[v])];rfl
theorem yp(v:K.isKey=true){k:K.den}{x:α}:∀ {u:List (K.den×α)} {j:Nat} {p:K.den×α},(u.map (·.1)).Nodup→u[j]? = some p→p.1=k→cN K u k x=u.set j (k,x)
 | [],j,p,_,h,_=>by simp at h
 | q::r,0,p,_,h,e=>by
  simp at h;subst h;simp only[cN];rw[if_pos ((fE v).2 e)];rfl
 | q::r,j+1,p,hn,h,e=>by
  simp only[List.map_cons,List.nodup_cons]at hn;simp only[cN];have hm:p∈r:=List.mem_of_getElem? (by simpa using h);rw[if_neg (fun z=>hn.1 (List.mem_map.2 ⟨p,hm,by rw[e];exact((fE v).1 z).symm⟩)),yp v hn.2 (by simpa using h) e];rfl
end
def enc(β:Bool)(T:Ty)(x:T.den):ag:=if T.scalar then .p β T x else .agg (flat β T x)
theorem Jz{F:Bool→Addr→Value→Prop}{ρ:Nat→QW}{A:Ty}{x:A.den}{v:Value}(h:MV (F false) A x v):V F ρ (enc false A x) v:=by
 obtain⟨h1,h2,p,q⟩:=h;unfold enc;split
 ·rename_i j;have z:=fO (p j);simp only[V];refine⟨j,?_⟩;rw[z]at h1;refine ai.gA (fun k u hk hu=>?_) h1;rw[Ty.fG j]at hk;obtain rfl:k=0:=by omega
  simp at hu;exact hu.symm
 ·rename_i j;obtain⟨B,rfl⟩:=q (by simpa using j);simp only[V];refine⟨B,rfl,by rw[eP,←h2];rfl,jL false A x _ (ai.mono (fun _ _ h=>h) (fun k u hk=>by simpa [Value.cells]using hk) h1)⟩
def kL(T:Ty)(x:ag):Bool :=
 match x with
 | .agg _=> !T.scalar
 | .lag _ _ _ _=>false
 | _=>T.scalar
section
variable{P:Program}{Bw:Nat→Prop}{w0:cC P}{ρ:Nat→QW}{φ:Nat→Nat→Prop}{h:Nat→Qz}{w:World}{new:Nat}
theorem zg(m:Mem Bw w0 ρ φ h w)(hn:ρ new=none){o:Oper}{a:Act}{t:TypeId}{K A:Ty}(x:K.isKey=true)(z:o.op = .makeMap t none):
  Good P o a w (aF Bw w0 ρ φ h w new (.mp new) [(new,some (.mpo K A []))]):=by
 have j:(Instr.makeMap t none).run P w = .ok (.map (some w.heap.size)) (w.alloc (.map #[] 0)):=rfl;refine Good.aG (v:= .map (some w.heap.size)) (w':=w.alloc (.map #[] 0)) (by simp only[execOp,z,Option.map_none,Sem.run_bind,j,Result.andThen_ok];rfl) ?_;refine cT m none new (.mpo K A []) (.map (some w.heap.size)) none (World.grownBy_alloc w _ none) (fun k e=>by cases e) (.inl hn) (fun _ k hk=>?_) (fun F' q B u=>?_)
  (by rw[bn];rfl) (fun _=>rfl) (fun F' q B u p=>?_)
 ·simp only[dw,Option.some.injEq]at hk;exact .inl (by omega)
 ·exact⟨_,#[],0,rfl,rfl,heap_alloc_new w _,⟨x,List.nodup_nil,fun e C=>by cases C⟩,rfl,List.nodup_nil,fun i hi=>absurd hi (by simp)⟩
 ·simp only[V];exact⟨p,_,rfl⟩
theorem zR{F:Addr→Value→Prop}{t:TypeId}{ti:TI}(ht:aN P t ti){A:Ty}(hT:ti.T=some A){z:Value}(hz:(zeroValue t).run P w = .ok z w)(u:z.cells.toList.map kb=ti.z)(x:z.cells.size=ti.size)
  (B:∀c∈z.cells.toList,c.oneCell'=true):MV F A A.zero z:=by
 obtain⟨C,p,D⟩:=ht.hT A hT;have J:=gw (F:=fun _=>F) (ρ:=jl) z.cells.toList;rw[u]at J;obtain⟨i,q,L,M,_⟩:=ht.hi;have E:q=z:=by simp[zeroValue,typeInfo,L,M]at hz;exact hz
 subst E;have j:=ht.hz;rw[L]at j;simp only[Option.bind_some,M,Option.map_some,Option.some.injEq]at j;refine⟨(cQ D J).1,by rw[x,C],fun I=>?_,fun I=>?_⟩
 ·rw[I]at p;have hk:ti.k.agg=false:=by simpa using p.symm
  rw[hk]at j;have hc:q.cells = #[q]:=by cases q <;> first | rfl | (simp at j)
  exact B q (by rw[hc];simp)
 ·rw[I]at p;have hk:ti.k.agg=true:=by simpa using p.symm
  rw[hk]at j;cases q <;> first | exact⟨_,rfl⟩ | (simp at j)
theorem zB(m:Mem Bw w0 ρ φ h w){id:Nat}{K A:Ty}{q:List (K.den×A.den)}(hi:h id=some (.mpo K A q)){v:Value}(z:V (Fr (own φ h) Bw w) ρ (.mp id) v):
  ∃r j clock,v = .map (some r)∧ρ id=some (.map (some r))∧φ id r∧w.heap[r]? = some (.map j clock)∧(K.isKey=true∧xD j clock)∧j.toList.map (·.key)=q.map (fun p=>aS K p.1)∧(q.map (·.1)).Nodup ∧
   ∀i (h':i<q.length),∃e:MapEntry,j[i]? = some e∧MV (Fr (own φ h) Bw w false) A q[i].2 e.val:=by
 obtain⟨u,B,r,j,clock,rfl,C⟩:=m.ob id _ hi;simp only[V]at z;rw[z.1]at B;cases B;exact⟨r,j,clock,rfl,z.1,C⟩
theorem re{q:Array MapEntry}{K:Ty}{α:Type}{u:List (K.den×α)}(hk:q.toList.map (·.key)=u.map (fun p=>aS K p.1)){j:Nat}{e:MapEntry}(z:q.toList[j]? = some e):
  ∃p,u[j]? = some p∧e.key=aS K p.1:=by
 have h1:(q.toList.map (·.key))[j]? = some e.key:=by rw[List.getElem?_map,z];rfl
 rw[hk,List.getElem?_map]at h1;cases hp:u[j]? with
 | none=>rw[hp]at h1;cases h1
 | some p=>rw[hp]at h1;simp at h1;exact⟨p,rfl,h1.symm⟩
theorem By(m:Mem Bw w0 ρ φ h w){o:Oper}{a:Act}{t kt et:TypeId}{ti te:TI}(ht:aN P t ti)(hk:ti.k = .mp kt et){K:Ty}(C:hY P kt K)(D:aN P et te){A:Ty}(hT:te.T=some A)
  {xo ko:Operand} {q:Bool} (ho:o.op = .lookup t xo ko q) {id:Nat} {B:List (K.den×A.den)} (hi:h id=some (.mpo K A B)) (hx:V (Fr (own φ h) Bw w) ρ (.mp id) (a.eval xo)) {k:K.den} (e2:a.eval ko=aS K k) :
  Good P o a w (aF Bw w0 ρ φ h w new (if q then .tup [enc false A ((bh K B k).getD A.zero),.p false .bool (bh K B k).isSome]else enc false A ((bh K B k).getD A.zero)) []):=by
 obtain⟨r,X,clock,e1,_,_,hb,⟨Z,_⟩,u,a1,E⟩:=zB m hi hx;obtain⟨dm,hm,I⟩:=ht.hu;rw[hk]at I;simp only[UK]at I;subst I;have a2:X.toList.map (·.key)=(B.map (·.1)).map (aS K):=by rw[u,List.map_map];rfl
 obtain⟨z,hz,a3,a4,a5⟩:=dT D w;obtain⟨ac,ad,ax⟩:=D.hT A hT;have N:∀(v:Value) (x:A.den) (b:Bool),MV (Fr (own φ h) Bw w false) A x v→V (Fr (own φ h) Bw w) ρ (if q then .tup [enc false A x,.p false .bool b]else enc false A x) (if q then .tuple #[v,.bool b]else v):=fun v x b hv=>by
  cases q
  ·exact Jz hv
  ·simp only[if_true,V,VL];refine⟨_,rfl,rfl,⟨v,by simp,Jz hv⟩,⟨.bool b,by simp,?_⟩,trivial⟩;simp only[V,ai];exact⟨rfl,trivial⟩
 rcases C.find k X.toList (B.map (·.1)) w a2 with⟨h1,h2⟩ | ⟨j,e,h1,h2,h3⟩
 ·have J:bh K B k=none:=nH Z fun p hp e=>by
   obtain⟨j,Y⟩:=List.mem_iff_getElem?.1 hp;have M:(B.map (fun p=>aS K p.1))[j]? = some (aS K p.1):=by rw[List.getElem?_map,Y];rfl
   rw[←u,List.getElem?_map]at M;cases hq:X.toList[j]? with
   | none=>rw[hq]at M;cases M
   | some x =>rw[hq]at M;simp at M;exact h2 x (List.mem_of_getElem? hq) (by rw[M,e])
  rw[J];have a6:MV (Fr (own φ h) Bw w false) A A.zero z:=zR D hT hz a3 a4 a5;refine Good.aG (v:=if q then .tuple #[z,.bool false]else z) (w':=w) ?_ (aF.pure m (N z _ false a6));simp only[execOp,ho];rw[e1,e2];cases q <;> simp[Instr.lookup,run_underlying hm,Go.MapKept.run_getObj_map hb,C.check,h1,hz,Result.andThen]
 ·obtain⟨p,hp,a7⟩:=re u h2;have a8:p.1=k:=lB Z (by rw[←a7,h3]);have L:=ng (α:=A.den) Z a1 hp a8;rw[L];have Y:j<B.length:=(List.getElem?_eq_some_iff.1 hp).1;obtain⟨O,q1,q2⟩:=E j Y;have a9:O=e:=by
   have:X.toList[j]? = some O:=by simpa using q1
   rw[h2]at this;cases this;rfl
  subst a9;have aa:B[j]=p:=by rw[List.getElem?_eq_getElem Y]at hp;simpa using hp
  rw[aa]at q2;refine Good.aG (v:=if q then .tuple #[O.val,.bool true]else O.val) (w':=w) ?_ (aF.pure m (N O.val _ true q2));simp only[execOp,ho];rw[e1,e2];cases q <;> simp[Instr.lookup,run_underlying hm,Go.MapKept.run_getObj_map hb,C.check,h1,Result.andThen]
theorem iM(w:World)(r:Nat)(o:Go.Obj):w.grownBy { w with heap:=w.heap.setIfInBounds r o } (some r):=by
 refine⟨rfl,rfl,rfl,by simp,fun k hk j=>?_⟩;have:r≠k:=fun e=>j (by rw[e])
 simp[Array.getElem?_setIfInBounds_ne this]
theorem xD.push{q:Array MapEntry}{c:Nat}(h:xD q c)(k v:Value):xD (q.push { key:=k,val:=v,born:=c }) (c+1):=by
 refine⟨?_,fun e j=>?_⟩
 ·simp only[Array.toList_push,List.map_append,List.map_cons,List.map_nil];refine List.nodup_append.2 ⟨h.1,by simp,fun a ha b hb e=>?_⟩;simp only[List.mem_singleton]at hb;obtain⟨p,hp,rfl⟩:=List.mem_map.1 ha;have:=h.2 p hp;omega
 ·simp only[Array.toList_push,List.mem_append,List.mem_singleton]at j;rcases j with j | rfl
  ·exact Nat.lt_succ_of_lt (h.2 e j)
  ·exact Nat.lt_succ_self _
theorem xD.modify{p:Array MapEntry}{c:Nat}(h:xD p c)(j:Nat)(f:MapEntry→MapEntry)(hf:∀e,(f e).born=e.born):xD (p.modify j f) c:=by
 have q:(p.modify j f).toList.map (·.born)=p.toList.map (·.born):=by
  refine List.ext_getElem? fun i=>?_
  simp only[List.getElem?_map,Array.getElem?_toList,Array.getElem?_modify];split
  ·cases p[i]? <;> simp[hf]
  ·rfl
 refine⟨by rw[q];exact h.1,fun e u=>?_⟩;have:e.born∈(p.modify j f).toList.map (·.born):=List.mem_map_of_mem u;rw[q]at this;obtain⟨v,h1,h2⟩:=List.mem_map.1 this;rw[←h2];exact h.2 v h1
theorem lh(m:Mem Bw w0 ρ φ h w){o:Oper}{a:Act}{t kt et:TypeId}{ti:TI}(ht:aN P t ti)(hk:ti.k = .mp kt et){K:Ty}(J:hY P kt K){A:Ty}
  {xo ko N:Operand} (O:o.op = .mapUpdate t xo ko N∨o.op = .insert t xo ko N) {id:Nat} {B:List (K.den×A.den)} {us:gX} (_:h id=some (.mpo K A B)) (hi:apply us h id=some (.mpo K A B)) (hx:V (Fr (own φ h) Bw w) ρ (.mp id) (a.eval xo)) {k:K.den} (e2:a.eval ko=aS K k)
  {y:ag} (hy:V (Fr (own φ h) Bw w) ρ y (a.eval N)) (hc:(cellsOf y).all ag.cell=true) (hs:kL A y=true) {x:A.den} (hz:Gm A h y=some (x,us)) :
  Good P o a w (aF Bw w0 ρ φ h w new .unk (us++[(id,some (.mpo K A (cN K B k x)))])):=by
 obtain⟨m',a6,b3⟩:=m5 m hz;obtain⟨r,X,clock,e1,Y,a7,hb,⟨hK,hB⟩,u,Z,D⟩:=zB m' hi (V.mono a6 (fun _ _ h=>h) hx);obtain⟨dm,hm,a1⟩:=ht.hu;rw[hk]at a1;simp only[UK]at a1;subst a1;have b4:X.toList.map (·.key)=(B.map (·.1)).map (aS K):=by rw[u,List.map_map];rfl
 obtain⟨r1,r2,r3⟩:=fV hc hy;obtain⟨s1,s2⟩:=b3 _ r1;have a8:MV (Fr (own φ (apply us h)) Bw w false) A x (a.eval N):=by
  refine⟨s1,by rw[s2,←r2];simp,fun a2=>?_,fun a2=>?_⟩
  ·have a3:cellsOf y=[y]:=by cases y <;> first | rfl | (simp[kL,a2]at hs)
   rw[a3]at hc;simp only[List.all_cons,List.all_nil,Bool.and_true]at hc;exact ra hc hy
  ·cases y with
   | agg cs =>
    simp only[V]at hy;obtain⟨vs,e,_⟩:=hy;exact⟨vs,e⟩
   | _=>simp[kL,a2]at hs
 have a9:X.size=B.length:=by have:=congrArg List.length u;simpa using this
 have aa:∀(C:Array MapEntry) (q:Nat),(execOp a.eval o).run P w = .ok .skip { w with heap:=w.heap.setIfInBounds r (.map C q) }→xD C q→C.toList.map (·.key)=(cN K B k x).map (fun p=>aS K p.1) →
   ((cN K B k x).map (·.1)).Nodup→(∀i (h':i<(cN K B k x).length),∃e:MapEntry,C[i]? = some e∧MV (Fr (own φ (apply us h)) Bw w false) A (cN K B k x)[i].2 e.val) →
   Good P o a w (aF Bw w0 ρ φ h w new .unk (us++[(id,some (.mpo K A (cN K B k x)))])):=fun C q ac q0 q1 q2 q3=>by
  refine Good.jN ac ?_;refine aF.after (u1:=us) rfl a6 ?_;refine dW m' (some id) id (.mpo K A (cN K B k x)) (.map (some r)) (φ id) (some r) (iM w r _) (fun k e=>⟨id,_,rfl,hi,rfl,by cases e;exact a7⟩) (.inr ⟨rfl,Y⟩)
   (fun _ k hk=>Nat.lt_of_lt_of_le (m'.lt id _ k hi rfl hk) (iM w r (.map C q)).size) (fun _ k hk=> .inr ⟨id,_,rfl,hi,rfl,hk⟩) (fun F' b5 hF b7=>?_) (by rw[bm];rfl) (fun e=>by rw[Y]at e;cases e) (fun F' b5 hF Y b8=>by simp only[V])
  exact⟨r,C,q,rfl,a7,(heap_set hb).1,⟨hK,q0⟩,q1,q2,fun i hi=>let ⟨e,t1,t2,t3⟩:=q3 i hi;⟨e,t1,ai.mono (hF _) (fun _ _ h=>h) t2,t3⟩⟩
 rcases J.find k X.toList (B.map (·.1)) w b4 with⟨h1,h2⟩ | ⟨j,e,h1,h2,h3⟩
 ·have ad:∀p∈B,p.1≠k:=fun p hp e=>by
   obtain⟨j,hj⟩:=List.mem_iff_getElem?.1 hp;have I:(B.map (fun p=>aS K p.1))[j]? = some (aS K p.1):=by rw[List.getElem?_map,hj];rfl
   rw[←u,List.getElem?_map]at I;cases hq:X.toList[j]? with
   | none=>rw[hq]at I;cases I
   | some x =>rw[hq]at I;simp at I;exact h2 x (List.mem_of_getElem? hq) (by rw[I,e])
  have z:=yU (x:=x) hK ad;refine aa (X.push { key:=aS K k,val:=a.eval N,born:=clock }) (clock+1) ?_ (hB.push _ _) ?_ ?_ ?_
  ·rcases O with O | O <;>
   ·simp only[execOp,O];rw[e1,e2];simp[Instr.mapUpdate,run_underlying hm,Go.MapKept.run_getObj_map hb,J.check,h1,run_setObj_map _ hb,Result.andThen]
  ·rw[z];simp[u]
  ·rw[z];simp only[List.map_append,List.map_cons,List.map_nil];refine List.nodup_append.2 ⟨Z,by simp,fun a ha b hb e=>?_⟩;simp only[List.mem_singleton]at hb;obtain⟨p,hp,rfl⟩:=List.mem_map.1 ha;exact ad p hp (by rw[e,hb])
  ·rw[z];intro i L;simp only[List.length_append,List.length_cons,List.length_nil]at L;rcases Nat.lt_or_ge i B.length with I | I
   ·obtain⟨M,t1,t2⟩:=D i I;exact⟨M,by rw[Array.getElem?_push,if_neg (by omega)];exact t1,by rw[List.getElem_append_left I];exact t2⟩
   ·obtain rfl:i=B.length:=by omega
    exact⟨_,by rw[Array.getElem?_push,if_pos a9.symm],by simpa using a8⟩
 ·obtain⟨p,hp,b6⟩:=re u h2;have a4:p.1=k:=lB hK (by rw[←b6,h3]);have z:=yp (x:=x) hK Z hp a4;have hj:X[j]? = some e:=by simpa using h2
  have ax:j<B.length:=(List.getElem?_eq_some_iff.1 hp).1;have a5:∀M,X[j]? = some M→({ M with key:=aS K k,val:=a.eval N }:MapEntry).key=M.key:=fun M b1=>by rw[hj]at b1;cases b1;exact h3.symm
  have b2:(B.set j (k,x)).map (·.1)=B.map (·.1):=by
   rw[List.map_set];simp only;refine List.ext_getElem? fun i=>?_
   rw[List.getElem?_set];split
   ·rename_i E;subst E;simp[ax,hp,a4];rw[List.getElem?_eq_getElem ax]at hp;simp at hp;rw[hp,a4]
   ·rfl
  refine aa (X.modify j fun e=> { e with key:=aS K k,val:=a.eval N }) clock ?_ (hB.modify j _ fun _=>rfl) ?_ ?_ ?_
  ·rcases O with O | O <;>
   ·simp only[execOp,O];rw[e1,e2];simp[Instr.mapUpdate,run_underlying hm,Go.MapKept.run_getObj_map hb,J.check,h1,hj,h3,J.stays,run_setObj_map _ hb,Result.andThen]
  ·rw[modify_keys j _ a5,z,u];have:(B.set j (k,x)).map (fun p=>aS K p.1)=((B.set j (k,x)).map (·.1)).map (aS K):=by rw[List.map_map];rfl
   rw[this,b2,List.map_map];rfl
  ·rw[z,b2];exact Z
  ·rw[z];intro i L;simp only[List.length_set]at L;obtain⟨M,t1,t2⟩:=D i L;by_cases E:j=i
   ·subst E;refine⟨{ M with key:=aS K k,val:=a.eval N },by rw[Array.getElem?_modify,if_pos rfl,t1];rfl,by simpa using a8⟩
   ·refine⟨M,by rw[Array.getElem?_modify,if_neg E];exact t1,?_⟩;rw[List.getElem_set_ne E];exact t2
theorem yb(m:Mem Bw w0 ρ φ h w)(hn:ρ new=none){o:Oper}{a:Act}{t:TypeId}{K:Ty}(x:K.isKey=true)(z:o.op = .makeMap t none):
  Good P o a w (aF Bw w0 ρ φ h w new (.mp new) [(new,some (.mpl K []))]):=by
 have j:(Instr.makeMap t none).run P w = .ok (.map (some w.heap.size)) (w.alloc (.map #[] 0)):=rfl;refine Good.aG (v:= .map (some w.heap.size)) (w':=w.alloc (.map #[] 0)) (by simp only[execOp,z,Option.map_none,Sem.run_bind,j,Result.andThen_ok];rfl) ?_;refine cT m none new (.mpl K []) (.map (some w.heap.size)) none (World.grownBy_alloc w _ none) (fun k e=>by cases e) (.inl hn) (fun _ k hk=>?_) (fun F' q B u=>?_)
  (by rw[bn];rfl) (fun _=>rfl) (fun F' q B u p=>?_)
 ·simp only[dw,Option.some.injEq]at hk;exact .inl (by omega)
 ·exact⟨_,#[],0,rfl,rfl,heap_alloc_new w _,x,rfl,List.nodup_nil,fun i hi=>absurd hi (by simp)⟩
 ·simp only[V];exact⟨p,_,rfl⟩
theorem Eg(m:Mem Bw w0 ρ φ h w){id:Nat}{K:Ty}{j:List (K.den×Value)}(hi:h id=some (.mpl K j)){v:Value}(x:V (Fr (own φ h) Bw w) ρ (.mp id) v):
  ∃r q clock,v = .map (some r)∧ρ id=some (.map (some r))∧φ id r∧w.heap[r]? = some (.map q clock)∧K.isKey=true∧q.toList.map (·.key)=j.map (fun p=>aS K p.1)∧(j.map (·.1)).Nodup ∧
   ∀i (h':i<j.length),∃e:MapEntry,q[i]? = some e∧e.val=j[i].2:=by
 obtain⟨u,z,r,q,clock,rfl,A⟩:=m.ob id _ hi;simp only[V]at x;rw[x.1]at z;cases z;exact⟨r,q,clock,rfl,x.1,A⟩
def rF{α:Type}(K:Ty):List (K.den×α)→K.den→Nat→Prop
 | [],_,_=>True
 | p::_,k,0=>eI K p.1 k=true
 | p::r,k,j+1=>eI K p.1 k=false∧rF K r k j
theorem wm{α:Type}{K:Ty}{k:K.den}:∀ {q:List (K.den×α)} {j:Nat},rF K q k j→bh K q k=(q[j]?).map (·.2)
 | [],j,_=>by simp[bh]
 | p::r,0,h=>by
  simp only[rF]at h;simp[bh,h]
 | p::r,j+1,h=>by
  simp only[rF]at h;simp only[bh,h.1,Bool.false_eq_true,if_false,List.getElem?_cons_succ];exact wm h.2
def KI:Value→ag
 | .agg j=> .agg (j.toList.map .lit)
 | v=> .lit v
theorem EP{F:Bool→Addr→Value→Prop}{ρ:Nat→QW}:∀ {l:QY} {g:Nat→Value→Prop},(∀k v,l[k]? = some v→g k v)→VL F ρ (l.map .lit) g
 | [],_,_=>trivial
 | v::l,g,h=>by
  simp only[List.map_cons,VL,V];exact⟨⟨v,h 0 v rfl,rfl⟩,EP fun k u hk=>h (k+1) u hk⟩
theorem Kz{F:Bool→Addr→Value→Prop}{ρ:Nat→QW}(v:Value):V F ρ (KI v) v:=by
 unfold KI;split
 ·simp only[V];exact⟨_,rfl,by simp,EP fun k u hk=>by simpa using hk⟩
 ·simp only[V]
def zV(j:TI):ag:=if j.k.agg=true then .agg j.z else .unk
theorem MF{F:Bool→Addr→Value→Prop}{ρ:Nat→QW}{t:TypeId}{ti:TI}(ht:aN P t ti){w:World}{z:Value}(hz:(zeroValue t).run P w = .ok z w)(p:z.cells.toList.map kb=ti.z)(C:z.cells.size=ti.size):V F ρ (zV ti) z:=by
 unfold zV;split
 ·rename_i hk;obtain⟨i,u,x,A,_⟩:=ht.hi;have q:u=z:=by simp[zeroValue,typeInfo,x,A]at hz;exact hz
  subst q;have j:=ht.hz;rw[x]at j;simp only[Option.bind_some,A,Option.map_some,Option.some.injEq]at j;rw[hk]at j;cases u with
  | agg B =>
   simp only[V];have D:=gw (F:=F) (ρ:=ρ) B.toList;refine⟨B,rfl,?_,?_⟩
   ·rw[←p];simp[Value.cells]
   ·rw[←p];simpa [Value.cells]using D
  | _=>cases j
 ·trivial
def E9(z:ag)(o:QW):ag :=
 match o with
 | some v=> .tup [KI v,.p false .bool true]
 | none=> .tup [z,.p false .bool false]
theorem Ao(m:Mem Bw w0 ρ φ h w){o:Oper}{a:Act}{t kt et:TypeId}{ti te:TI}(ht:aN P t ti)(hk:ti.k = .mp kt et){K:Ty}(B:hY P kt K)(L:aN P et te)
  {xo ko:Operand} (ho:o.op = .lookup t xo ko true) {id:Nat} {u:List (K.den×Value)} (hi:h id=some (.mpl K u)) (hx:V (Fr (own φ h) Bw w) ρ (.mp id) (a.eval xo)) {k:K.den} (e2:a.eval ko=aS K k) :
  Good P o a w (aF Bw w0 ρ φ h w new (E9 (zV te) (bh K u k)) []):=by
 obtain⟨r,M,clock,e1,_,_,hb,X,q,Y,C⟩:=Eg m hi hx;obtain⟨dm,hm,D⟩:=ht.hu;rw[hk]at D;simp only[UK]at D;subst D;have Z:M.toList.map (·.key)=(u.map (·.1)).map (aS K):=by rw[q,List.map_map];rfl
 obtain⟨z,hz,a1,a2,_⟩:=dT L w;have a3:=MF (F:=Fr (own φ h) Bw w) (ρ:=ρ) L hz a1 a2;rcases B.find k M.toList (u.map (·.1)) w Z with⟨h1,h2⟩ | ⟨j,e,h1,h2,h3⟩
 ·have E:bh K u k=none:=nH X fun p hp e=>by
   obtain⟨j,N⟩:=List.mem_iff_getElem?.1 hp;have J:(u.map (fun p=>aS K p.1))[j]? = some (aS K p.1):=by rw[List.getElem?_map,N];rfl
   rw[←q,List.getElem?_map]at J;cases hq:M.toList[j]? with
   | none=>rw[hq]at J;cases J
   | some x =>rw[hq]at J;simp at J;exact h2 x (List.mem_of_getElem? hq) (by rw[J,e])
  rw[E];refine Good.aG (v:= .tuple #[z,.bool false]) (w':=w) ?_ (aF.pure m ?_)
  ·simp only[execOp,ho];rw[e1,e2];simp[Instr.lookup,run_underlying hm,Go.MapKept.run_getObj_map hb,B.check,h1,hz,Result.andThen]
  ·simp only[E9,V,VL];exact⟨_,rfl,rfl,⟨z,by simp,a3⟩,⟨.bool false,by simp,by simp only[ai];exact⟨rfl,trivial⟩⟩,trivial⟩
 ·obtain⟨p,hp,a4⟩:=re q h2;have a5:p.1=k:=lB X (by rw[←a4,h3]);have I:=ng (α:=Value) X Y hp a5;rw[I];have N:j<u.length:=(List.getElem?_eq_some_iff.1 hp).1;obtain⟨O,q1,q2⟩:=C j N;have a6:O=e:=by
   have:M.toList[j]? = some O:=by simpa using q1
   rw[h2]at this;cases this;rfl
  subst a6;have a7:u[j]=p:=by rw[List.getElem?_eq_getElem N]at hp;simpa using hp
  rw[a7]at q2;refine Good.aG (v:= .tuple #[O.val,.bool true]) (w':=w) ?_ (aF.pure m ?_)
  ·simp only[execOp,ho];rw[e1,e2];simp[Instr.lookup,run_underlying hm,Go.MapKept.run_getObj_map hb,B.check,h1,Result.andThen]
  ·simp only[E9,V,VL];exact⟨_,rfl,rfl,⟨O.val,by simp,by rw[q2];exact Kz _⟩,⟨.bool true,by simp,by simp only[ai];exact⟨rfl,trivial⟩⟩,trivial⟩
theorem oe(m:Mem Bw w0 ρ φ h w){o:Oper}{a:Act}{t O et:TypeId}{ti:TI}(ht:aN P t ti)(hk:ti.k = .mp O et){K:Ty}(D:hY P O K)
  {X Y M:Operand} (N:o.op = .mapUpdate t X Y M∨o.op = .insert t X Y M) {id:Nat} {u:List (K.den×Value)} (hi:h id=some (.mpl K u)) (hx:V (Fr (own φ h) Bw w) ρ (.mp id) (a.eval X)) {k:K.den} (e2:a.eval Y=aS K k) {x:Value} (e3:a.eval M=x)
  (E:∀p∈u,p.1≠k) :
  Good P o a w (aF Bw w0 ρ φ h w new .unk [(id,some (.mpl K (u++[(k,x)])))]):=by
 obtain⟨r,I,clock,e1,z,J,hb,hK,q,Z,B⟩:=Eg m hi hx;obtain⟨dm,hm,C⟩:=ht.hu;rw[hk]at C;simp only[UK]at C;subst C;have a1:I.toList.map (·.key)=(u.map (·.1)).map (aS K):=by rw[q,List.map_map];rfl
 have L:I.size=u.length:=by have:=congrArg List.length q;simpa using this
 have h1:(Instr.findKey O (aS K k) I.toList).run P w = .ok none w:=by
  rcases D.find k I.toList (u.map (·.1)) w a1 with⟨h1,_⟩ | ⟨j,e,_,h2,h3⟩
  ·exact h1
  ·obtain⟨p,hp,a2⟩:=re q h2;exact absurd (lB hK (by rw[←a2,h3])) (E p (List.mem_of_getElem? hp))
 refine Good.jN (w':= { w with heap:=w.heap.setIfInBounds r (.map (I.push { key:=aS K k,val:=a.eval M,born:=clock }) (clock+1)) }) ?_ ?_
 ·rcases N with N | N <;>
  ·simp only[execOp,N];rw[e1,e2];simp[Instr.mapUpdate,run_underlying hm,Go.MapKept.run_getObj_map hb,D.check,h1,run_setObj_map _ hb,Result.andThen]
 ·refine dW m (some id) id (.mpl K (u++[(k,x)])) (.map (some r)) (φ id) (some r) (iM w r _) (fun k e=>⟨id,_,rfl,hi,rfl,by cases e;exact J⟩) (.inr ⟨rfl,z⟩)
   (fun _ k hk=>Nat.lt_of_lt_of_le (m.lt id _ k hi rfl hk) (iM w r _).size) (fun _ k hk=> .inr ⟨id,_,rfl,hi,rfl,hk⟩) (fun F' a3 hF a5=>?_) (by rw[bm];rfl) (fun e=>by rw[z]at e;cases e) (fun F' a3 hF z a6=>by simp only[V])
  refine⟨r,_,_,rfl,J,(heap_set hb).1,hK,?_,?_,fun i a4=>?_⟩
  ·simp[q]
  ·simp only[List.map_append,List.map_cons,List.map_nil];refine List.nodup_append.2 ⟨Z,by simp,fun a ha b hb e=>?_⟩;simp only[List.mem_singleton]at hb;obtain⟨p,hp,rfl⟩:=List.mem_map.1 ha;exact E p hp (by rw[e,hb])
  ·simp only[List.length_append,List.length_cons,List.length_nil]at a4;rcases Nat.lt_or_ge i u.length with h4 | h4
   ·obtain⟨e',t1,t2⟩:=B i h4;exact⟨e',by rw[Array.getElem?_push,if_neg (by omega)];exact t1,by rw[List.getElem_append_left h4];exact t2⟩
   ·obtain rfl:i=u.length:=by omega
    exact⟨_,by rw[Array.getElem?_push,if_pos L.symm],by simpa using e3⟩
theorem z9(m:Mem Bw w0 ρ φ h w){o:Oper}{a:Act}{t C D:TypeId}{ti:TI}(ht:aN P t ti)(hk:ti.k = .mp C D){B:Operand}{id:Nat}{K A:Ty}{x:List (K.den×A.den)}(hi:h id=some (.mpo K A x))(E:V (Fr (own φ h) Bw w) ρ (.mp id) (a.eval B))
  (I:o.op = .call { callee:= .builtin .len,args:= #[B],argTypes:= #[t] }):Good P o a w (aF Bw w0 ρ φ h w new (.p false (.int .i64) (x.length:Int)) []):=by
 obtain⟨r,J,clock,L,M,N,hb,X,j,O,z⟩:=zB m hi E;obtain⟨Y,hm,q⟩:=ht.hu;rw[hk]at q;simp only[UK]at q;subst q;have u:J.size=x.length:=by have:=congrArg List.length j;simpa using this
 refine Good.aG (v:= .int .i64 (x.length:Int)) (w':=w) ?_ (aF.pure m (dF _ _ _));simp only[execOp,I,resolve,invoke,builtin,Sem.run_bind,Sem.run_pure,Result.andThen_ok,List.map_toArray,List.map_cons,List.map_nil,L];simp[Builtin.len_,run_underlying hm,Go.MapKept.run_getObj_map hb,goInt,u,Result.andThen]
theorem HI(m:Mem Bw w0 ρ φ h w){o:Oper}{a:Act}{z B:Operand}{u:Array TypeId}{β x:Bool}{k:IntKind}{i j:Int}(C:V (Fr (own φ h) Bw w) ρ (.p β (.int k) i) (a.eval z))(D:V (Fr (own φ h) Bw w) ρ (.p x (.int k) j) (a.eval B))
  (E:o.op = .call { callee:= .builtin .min,args:= #[z,B],argTypes:=u }):Good P o a w (aF Bw w0 ρ φ h w new (.p false (.int k) (min i j)) []):=by
 refine Good.aG (v:= .int k (min i j)) (w':=w) ?_ (aF.pure m (dF _ _ _));have e:(if j<i then j else i)=min i j:=by
  by_cases q:j<i
  ·rw[if_pos q];omega
  ·rw[if_neg q];omega
 simp only[execOp,E,resolve,invoke,builtin,Sem.run_bind,Sem.run_pure,Result.andThen_ok,List.map_toArray,List.map_cons,List.map_nil,bQ C,bQ D];simp[Builtin.min_,Builtin.min2,e]
theorem Iq(m:Mem Bw w0 ρ φ h w){o:Oper}{a:Act}{z B:Operand}{u:Array TypeId}{β x:Bool}{k:IntKind}{i j:Int}(C:V (Fr (own φ h) Bw w) ρ (.p β (.int k) i) (a.eval z))(D:V (Fr (own φ h) Bw w) ρ (.p x (.int k) j) (a.eval B))
  (E:o.op = .call { callee:= .builtin .max,args:= #[z,B],argTypes:=u }):Good P o a w (aF Bw w0 ρ φ h w new (.p false (.int k) (max i j)) []):=by
 refine Good.aG (v:= .int k (max i j)) (w':=w) ?_ (aF.pure m (dF _ _ _));have e:(if j > i then j else i)=max i j:=by
  by_cases q:j > i
  ·rw[if_pos q];omega
  ·rw[if_neg q];omega
 simp only[execOp,E,resolve,invoke,builtin,Sem.run_bind,Sem.run_pure,Result.andThen_ok,List.map_toArray,List.map_cons,List.map_nil,bQ C,bQ D];simp[Builtin.max_,Builtin.max2,e]
end
end Go.Tv
