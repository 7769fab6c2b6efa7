import Derived.Test.YtobbjfkfmdiklaaGreatDoorTvKam
import Derived.MapKept
import Derived.ChangeKeysEq
namespace Go.Tv
open Go Go.RowKit
open Go.MapKept (IsKey findNow_spec run_checkKey run_findKey run_setObj_map heap_set run_keyThatStays modify_keys)
def eE:(K:Ty)→K.den→K.den→Bool
 | .int _,a,b=> @BEq.beq Int _ a b
 | .bool,a,b=> @BEq.beq Bool _ a b
 | .str,a,b=> @BEq.beq QX _ a b
 | .unit,_,_=>true
 | .prod A B,a,b=>eE A a.1 b.1 && eE B a.2 b.2
 | .arr _ _,a,b=>Im a b
 | _,_,_=>false
theorem fB:∀ {K:Ty} {a b:K.den},K.isKey=true→(eE K a b=true↔a=b)
 | .int _,a,b,_=>by
  show(@BEq.beq Int _ a b)=true↔a=b;exact beq_iff_eq
 | .bool,a,b,_=>by
  show(@BEq.beq Bool _ a b)=true↔a=b;exact beq_iff_eq
 | .str,a,b,_=>by
  show(@BEq.beq QX _ a b)=true↔a=b;exact beq_iff_eq
 | .flt,_,_,h=>by cases h
 | .unit,_,_,_=>⟨fun _=>rfl,fun _=>rfl⟩
 | .prod A B,a,b,h=>by
  simp only[Ty.isKey,Bool.and_eq_true]at h;simp only[eE,Bool.and_eq_true,fB h.1,fB h.2];exact⟨fun e=>Prod.ext e.1 e.2,fun e=>by rw[e];exact⟨rfl,rfl⟩⟩
 | .slice _,_,_,h=>by cases h
 | .ptr _,_,_,h=>by cases h
 | .tree _ _,_,_,h=>by cases h
 | .mapi _ _,_,_,h=>by cases h
 | .arr _ _,a,b,_=>by
  show(a.1 == b.1)=true↔a=b;rw[beq_iff_eq];exact⟨Subtype.ext,fun e=>by rw[e]⟩
theorem cT:∀ {K:Ty} {a:K.den},K.isKey=true→(cE K a).length=K.size
 | .int _,_,_=>rfl
 | .bool,_,_=>rfl
 | .str,_,_=>rfl
 | .flt,_,h=>by cases h
 | .unit,_,_=>rfl
 | .prod A B,a,h=>by
  simp only[Ty.isKey,Bool.and_eq_true]at h;simp only[cE,Ty.size,List.length_append,cT h.1,cT h.2]
 | .slice _,_,h=>by cases h
 | .ptr _,_,h=>by cases h
 | .tree _ _,_,h=>by cases h
 | .mapi _ _,_,h=>by cases h
 | .arr _ _,a,_=>by simp[cE,Ty.size,a.2]
theorem jb:∀ {K:Ty} {a b:K.den},K.isKey=true→cE K a=cE K b→a=b
 | .int _,a,b,_,h=>by simpa [cE]using h
 | .bool,a,b,_,h=>by simpa [cE]using h
 | .str,a,b,_,h=>by simpa [cE]using h
 | .flt,_,_,h,_=>by cases h
 | .unit,_,_,_,_=>rfl
 | .prod A B,a,b,h,e=>by
  simp only[Ty.isKey,Bool.and_eq_true]at h;simp only[cE]at e;obtain⟨f,j⟩:=List.append_inj e (by rw[cT h.1,cT h.1]);exact Prod.ext (jb h.1 f) (jb h.2 j)
 | .slice _,_,_,h,_=>by cases h
 | .ptr _,_,_,h,_=>by cases h
 | .tree _ _,_,_,h,_=>by cases h
 | .mapi _ _,_,_,h,_=>by cases h
 | .arr k _,a,b,_,e=>by
  simp only[cE]at e;exact Subtype.ext (List.map_inj_right (fun x y h=>by simpa using h) |>.1 e)
theorem lV:∀ {K:Ty} {a b:K.den},K.isKey=true→aS K a=aS K b→a=b
 | .int _,a,b,_,h=>by simpa [aS]using h
 | .bool,a,b,_,h=>by simpa [aS]using h
 | .str,a,b,_,h=>by simpa [aS]using h
 | .flt,_,_,h,_=>by cases h
 | .unit,_,_,_,_=>rfl
 | .prod A B,a,b,h,e=>by
  simp only[aS,Value.agg.injEq]at e;exact jb h (List.toArray_inj e)
 | .slice _,_,_,h,_=>by cases h
 | .ptr _,_,_,h,_=>by cases h
 | .tree _ _,_,_,h,_=>by cases h
 | .mapi _ _,_,_,h,_=>by cases h
 | .arr _ _,a,b,h,e=>by
  simp only[aS,Value.agg.injEq]at e;exact jb h (List.toArray_inj e)
def Jj:TK→Option Ty
 | .int k=>some (.int k)
 | .bool=>some .bool
 | .str=>some .str
 | _=>none
theorem GF{k:TK}{K:Ty}(h:Jj k=some K):K.isKey=true:=by cases k <;> cases h <;> rfl
theorem Aa{P:Program}{d:TypeDesc}{k:TK}{K:Ty}(h:Jj k=some K)(hd:UK P d k)(x:K.den):IsKey d (aS K x):=by
 cases k <;> cases h <;> simp only[UK]at hd <;> subst hd <;> simp[IsKey,aS]
theorem sh{F:Bool→Addr→Value→Prop}{ρ:Nat→QW}{β:Bool}:∀ {K:Ty} {x:K.den} {v:Value},K.isKey=true→K.scalar=true→V F ρ (.p β K x) v→v=aS K x
 | .int _,_,_,_,_,h=>bV h
 | .bool,_,_,_,_,h=>n9 h
 | .str,_,_,_,_,h=>pD h
 | .flt,_,_,h,_,_=>by cases h
 | .unit,_,_,_,h,_=>by cases h
 | .prod _ _,_,_,_,h,_=>by cases h
 | .slice _,_,_,h,_,_=>by cases h
 | .ptr _,_,_,h,_,_=>by cases h
 | .tree _ _,_,_,h,_,_=>by cases h
 | .mapi _ _,_,_,h,_,_=>by cases h
 | .arr _ _,_,_,_,h,_=>by cases h
theorem kg{F:Addr→Value→Prop}:∀ {K:Ty} {x:K.den} {l:QY} {o:Nat},K.isKey=true→ah F K x (fun k u=>l[o+k]? = some u)→∀k,k<K.size→l[o+k]? = (cE K x)[k]?
 | .int _,_,_,_,_,h,k,hk=>by
  obtain rfl:k=0:=by simp only[Ty.size]at hk;omega
  simp only[ah]at h;rw[h];rfl
 | .bool,_,_,_,_,h,k,hk=>by
  obtain rfl:k=0:=by simp only[Ty.size]at hk;omega
  simp only[ah]at h;rw[h];rfl
 | .str,_,_,_,_,h,k,hk=>by
  obtain rfl:k=0:=by simp only[Ty.size]at hk;omega
  simp only[ah]at h;rw[h];rfl
 | .flt,_,_,_,h,_,_,_=>by cases h
 | .unit,_,_,_,_,_,k,hk=>by simp only[Ty.size]at hk;omega
 | .prod A B,x,l,o,h,f,k,hk=>by
  simp only[Ty.isKey,Bool.and_eq_true]at h;simp only[ah]at f;simp only[Ty.size]at hk;simp only[cE];rcases Nat.lt_or_ge k A.size with h1 | h1
  ·rw[List.getElem?_append_left (by rw[cT h.1];exact h1)];exact kg h.1 f.1 k h1
  ·rw[List.getElem?_append_right (by rw[cT h.1];exact h1),cT h.1];have:=kg (o:=o+A.size) h.2 (ah.mono (fun _ _ h=>h) (fun k u hk=>by rw[Nat.add_assoc];exact hk) f.2) (k - A.size) (by omega);rw[←this];congr 1;omega
 | .slice _,_,_,_,h,_,_,_=>by cases h
 | .ptr _,_,_,_,h,_,_,_=>by cases h
 | .tree _ _,_,_,_,h,_,_,_=>by cases h
 | .mapi _ _,_,_,_,h,_,_,_=>by cases h
 | .arr j _,x,l,o,_,f,k,hk=>by
  have hl:k<x.1.length:=by rw[x.2];exact hk
  simp only[ah]at f;rw[f k hl];simp[cE,hl]
theorem jH:∀ {K:Ty} {x:K.den},K.isKey=true→K.scalar=false→aS K x = .agg (cE K x).toArray
 | .int _,_,_,h=>by cases h
 | .bool,_,_,h=>by cases h
 | .str,_,_,h=>by cases h
 | .flt,_,h,_=>by cases h
 | .unit,_,_,_=>rfl
 | .prod _ _,_,_,_=>rfl
 | .slice _,_,h,_=>by cases h
 | .ptr _,_,h,_=>by cases h
 | .tree _ _,_,h,_=>by cases h
 | .mapi _ _,_,h,_=>by cases h
 | .arr _ _,_,_,_=>rfl
structure hZ(P:Program)(kt:TypeId)(K:Ty):Prop where
 isKey:K.isKey=true
 check:∀(e:Bool) (k:K.den) (w:World),(Instr.checkKey e 10000 kt (aS K k)).run P w = .ok () w
 find:∀(k:K.den) (l:List MapEntry) (ks:List K.den) (w:World),l.map (·.key)=ks.map (aS K) →
  ((Instr.findKey kt (aS K k) l).run P w = .ok none w∧∀x∈l,x.key≠aS K k) ∨
  ∃j e,(Instr.findKey kt (aS K k) l).run P w = .ok (some (j,e.val)) w∧l[j]? = some e∧e.key=aS K k
 stays:∀(k:K.den) (w:World),(Instr.keyThatStays (aS K k) (aS K k)).run P w = .ok (aS K k) w
theorem hZ.Eo{P:Program}{C:TypeId}{D:TI}(B:aO P C D){K:Ty}(f:Jj D.k=some K):hZ P C K:=by
 obtain⟨d,hd,q⟩:=B.hu;refine⟨GF f,fun e k w=>run_checkKey hd (Aa f q k) e 9999,fun k l J w hl=>?_,fun k w=>run_keyThatStays (Aa f q k)⟩;have u:=Aa (P:=P) f q k;have z:∀x∈l,IsKey d x.key:=fun x E=>by have:x.key∈l.map (·.key):=List.mem_map.2 ⟨x,E,rfl⟩;rw[hl]at this;obtain⟨p,_,hp⟩:=List.mem_map.1 this;rw[←hp];exact Aa f q p
 rcases findNow_spec u l 0 z with⟨h1,h2⟩ | ⟨j,e,h1,h2,I⟩
 ·exact .inl ⟨run_findKey hd h1,h2⟩
 ·exact .inr ⟨j,e,by rw[run_findKey hd h1,Nat.zero_add],h2,I⟩
def nZ(k:IntKind):Ty→Bool
 | .int f=>f == k
 | .unit=>true
 | .prod a b=>nZ k a && nZ k b
 | .arr f _=>f == k
 | _=>false
theorem nm{k:IntKind}:∀ {K:Ty},nZ k K=true→K.isKey=true
 | .int _,_=>rfl
 | .bool,h=>by cases h
 | .str,h=>by cases h
 | .flt,h=>by cases h
 | .unit,_=>rfl
 | .prod _ _,h=>by
  simp only[nZ,Bool.and_eq_true]at h;simp only[Ty.isKey,nm h.1,nm h.2,Bool.and_self]
 | .slice _,h=>by cases h
 | .ptr _,h=>by cases h
 | .tree _ _,h=>by cases h
 | .mapi _ _,h=>by cases h
 | .arr _ _,_=>rfl
theorem gE{k:IntKind}:∀ {K:Ty} (x:K.den),nZ k K=true→∃l:QK,l.length=K.size∧cE K x=l.map (Value.int k)
 | .int f,x,h=>by
  simp only[nZ,beq_iff_eq]at h;subst h;exact⟨[x],rfl,rfl⟩
 | .bool,_,h=>by cases h
 | .str,_,h=>by cases h
 | .flt,_,h=>by cases h
 | .unit,_,_=>⟨[],rfl,rfl⟩
 | .prod a b,x,h=>by
  simp only[nZ,Bool.and_eq_true]at h;obtain⟨l1,j,p⟩:=gE x.1 h.1;obtain⟨l2,q,u⟩:=gE x.2 h.2;exact⟨l1++l2,by simp[j,q,Ty.size],by simp[cE,p,u]⟩
 | .slice _,_,h=>by cases h
 | .ptr _,_,h=>by cases h
 | .tree _ _,_,h=>by cases h
 | .mapi _ _,_,h=>by cases h
 | .arr f _,x,h=>by
  simp only[nZ,beq_iff_eq]at h;subst h;exact⟨x.1,x.2,rfl⟩
section
variable{P:Program}
theorem ny{e:TypeId}{k:IntKind}(q:P.underlying e=some (.int k))(d:Nat)(w:World){l1 l2:QK}:∀(f:QV),(∀i∈f,i<l1.length∧i<l2.length) →
  ∃r:Bool,(Op.eqItems (d+1) e 1 (l1.map (Value.int k)).toArray (l2.map (Value.int k)).toArray f).run P w = .ok r w∧(r=true↔∀i∈f,l1[i]? = l2[i]?)
 | [],_=>⟨true,by simp[Op.eqItems],by simp⟩
 | i::f,h=>by
  obtain⟨h1,h2⟩:=h i (by simp);obtain⟨r,u,x⟩:=ny q d w f (fun j z=>h j (by simp[z]));have hp:P.plainKey e=true:=by simp[Program.plainKey,q]
  have A:=run_part_plain (P:=P) w hp (xs:=(l1.map (Value.int k)).toArray) (off:=i*1) (v:= .int k l1[i]) (by simp[h1]);have B:=run_part_plain (P:=P) w hp (xs:=(l2.map (Value.int k)).toArray) (off:=i*1) (v:= .int k l2[i]) (by simp[h2]);simp only[Op.eqItems,Sem.run_bind,A,B,Result.andThen_ok,run_equalIn_int w d e k k _ _ q];by_cases p:l1[i]=l2[i]
  ·refine⟨r,by simpa [p]using u,?_⟩;rw[x];simp[h1,h2,p]
  ·refine⟨false,by simp[p],?_⟩;simp[h1,h2,p]
theorem xi{e:TypeId}{k:IntKind}(f:P.underlying e=some (.int k))(n:Nat)(em:Bool)(x:Int)(w:World):(Instr.checkKey em (n+1) e (.int k x)).run P w = .ok () w:=by
 unfold Instr.checkKey;simp only[Sem.run_bind,run_underlying f,Result.andThen];rfl
theorem hZ.DY{t e:TypeId}{n:Nat}{k:IntKind}{i:TypeInfo}{K:Ty}(hu:P.underlying t=some (.array n e))(O:P.underlying e=some (.int k))(hi:P.info? e=some i)(hc:P.cellsOf e=1)
  (C:nZ k K=true) (M:K.scalar=false) (hn:K.size=n):hZ P t K:=by
 have hk:=nm C;have heq:∀(a b:K.den) (w:World),∃r:Bool,(Op.equal t (aS K a) (aS K b)).run P w = .ok r w∧(r=true↔a=b):=fun a b w=>by
  obtain⟨l1,e1,u⟩:=gE a C;obtain⟨l2,e2,V⟩:=gE b C;rw[jH hk M,jH hk M,u,V];obtain⟨r,X,N⟩:=ny (P:=P) O 9998 w (l1:=l1) (l2:=l2) (List.range n) (fun i hi=>by simp at hi;omega);refine⟨r,?_,?_⟩
  ·unfold Op.equal Op.maxDepth;rw[show(10000:Nat)=9999+1 from rfl,run_equalIn_array w 9999 _ _ hu hi,hc];exact X
  ·rw[N];constructor
   ·intro h;have:l1=l2:=List.ext_getElem? fun i=>by
     rcases Nat.lt_or_ge i n with h1 | h1
     ·exact h i (by simpa using h1)
     ·rw[List.getElem?_eq_none (by omega),List.getElem?_eq_none (by omega)]
    exact jb hk (by rw[u,V,this])
   ·rintro rfl j _;have:l1.map (Value.int k)=l2.map (Value.int k):=by rw[←u,←V]
    have B:=congrArg (fun l=>l[j]?) this;simp only[List.getElem?_map]at B;cases h1:l1[j]? <;> cases h2:l2[j]? <;> simp[h1,h2]at B ⊢
    exact B
 refine⟨hk,fun em a w=>?_,fun a l f w hl=>?_,fun a w=>?_⟩
 ·obtain⟨l1,e1,u⟩:=gE a C;rw[jH hk M,u,show(10000:Nat)=9999+1 from rfl,Instr.checkKey];simp only[Sem.run_bind,run_underlying hu,Result.andThen_ok];simp only[Std.Legacy.Range.forIn_eq_forIn_range',Std.Legacy.Range.size,Nat.sub_zero,Nat.add_one_sub_one,Nat.div_one];have hin:∀j∈List.range' 0 n,j<l1.length:=fun j B=>by simp at B;omega
  generalize List.range' 0 n=is at hin;induction is with
  | nil=>simp
  | cons j is D =>
   have B:=hin j (by simp);have hp:P.plainKey e=true:=by simp[Program.plainKey,O]
   have p1:=run_part_plain (P:=P) w hp (xs:=(l1.map (Value.int k)).toArray) (off:=j*1) (v:= .int k l1[j]) (by simp[B]);simp only[List.forIn_cons,Sem.run_bind,(Go.run_sizeOf w hi:(sizeOf e).run P w=_),hc,Result.andThen_ok,p1,xi O 9998 em,Sem.run_pure];exact D (fun y E=>hin y (by simp[E]))
 ·have I:∀(l:List MapEntry) (f:List K.den) (q:Nat),l.map (·.key)=f.map (aS K) →
    ((Instr.findAsking t (aS K a) l q).run P w = .ok none w∧∀x∈l,x.key≠aS K a) ∨
    ∃j e,(Instr.findAsking t (aS K a) l q).run P w = .ok (some (q+j,e.val)) w∧l[j]? = some e∧e.key=aS K a:=by
   intro l;induction l with
   | nil=>intro f q _;exact .inl ⟨by simp[Instr.findAsking],by simp⟩
   | cons x l D =>
    intro f q h;cases f with
    | nil=>simp at h
    | cons b f =>
     simp only[List.map_cons,List.cons.injEq]at h;obtain⟨r,X,N⟩:=heq a b w;unfold Instr.findAsking;rw[Sem.run_bind,h.1,X];simp only[Result.andThen_ok];cases r with
     | true =>
      have:=N.1 rfl;subst this;exact .inr ⟨0,x,by simp,rfl,h.1⟩
     | false =>
      have Y:b≠a:=fun e=>by have:=N.2 e.symm;cases this
      rcases D f (q+1) h.2 with⟨h1,h2⟩ | ⟨j,y,h1,h2,Z⟩
      ·refine .inl ⟨by simpa using h1,fun y E=>?_⟩;rcases List.mem_cons.1 E with rfl | E
       ·rw[h.1];exact fun e=>Y (lV hk e)
       ·exact h2 y E
      ·exact .inr ⟨j+1,y,by simp only[Bool.false_eq_true,if_false];rw[h1,show q+1+j=q+(j+1) by omega],h2,Z⟩
  cases l with
  | nil=>exact .inl ⟨by simp[Instr.findKey,run_underlying hu,Result.andThen,Instr.findNow],by simp⟩
  | cons x l =>
   have J:Instr.findNow (.array n e) (aS K a) (x::l) 0=none:=by simp[Instr.findNow,Instr.sameNow]
   have L:(Instr.findKey t (aS K a) (x::l)).run P w=(Instr.findAsking t (aS K a) (x::l) 0).run P w:=by simp only[Instr.findKey,Sem.run_bind,run_underlying hu,Result.andThen_ok,J]
   rw[L];rcases I (x::l) f 0 hl with h | ⟨j,y,h1,h2,Z⟩
   ·exact .inl h
   ·exact .inr ⟨j,y,by rw[h1,Nat.zero_add],h2,Z⟩
 ·obtain⟨l1,e1,u⟩:=gE a C;rw[jH hk M,u];have hb:Instr.sameBits 10000 (.agg (l1.map (Value.int k)).toArray) (.agg (l1.map (Value.int k)).toArray)=true:=by
   rw[show(10000:Nat)=9999+1 from rfl,Instr.sameBits];simp only[beq_self_eq_true,Bool.true_and,List.all_eq_true];intro p hp;obtain⟨x,y⟩:=p;have a1:∀(l:QY),(x,y)∈l.zip l→x=y∧x∈l:=by
    intro l;induction l with
    | nil=>simp
    | cons z l D =>
     intro h;simp only[List.zip_cons_cons,List.mem_cons,Prod.mk.injEq]at h;rcases h with⟨rfl,rfl⟩ | h
     ·simp
     ·obtain⟨e,m⟩:=D h;exact⟨e,by simp[m]⟩
   obtain⟨rfl,hx⟩:=a1 _ hp;obtain⟨z,_,rfl⟩:=List.mem_map.1 (by simpa using hx);simp[Instr.sameBits]
  simp[Instr.keyThatStays,hb]
end
def bg{α:Type}(K:Ty):List (K.den×α)→K.den→Option α
 | [],_=>none
 | p::r,k=>if eE K p.1 k then some p.2 else bg K r k
def cF{α:Type}(K:Ty):List (K.den×α)→K.den→α→List (K.den×α)
 | [],k,x=>[(k,x)]
 | p::r,k,x=>if eE K p.1 k then(k,x)::r else p::cF K r k x
section
variable{α:Type}{K:Ty}
theorem n8(f:K.isKey=true){k:K.den}:∀ {j:List (K.den×α)},(∀p∈j,p.1≠k)→bg K j k=none
 | [],_=>rfl
 | p::r,h=>by
  simp only[bg];rw[if_neg (fun e=>h p (by simp) ((fB f).1 e))];exact n8 f fun q u=>h q (by simp[u])
theorem nE(f:K.isKey=true){k:K.den}:∀ {u:List (K.den×α)} {j:Nat} {p:K.den×α},(u.map (·.1)).Nodup→u[j]? = some p→p.1=k→bg K u k=some p.2
 | [],j,p,_,h,_=>by simp at h
 | q::r,0,p,_,h,e=>by
  simp at h;subst h;simp only[bg];rw[if_pos ((fB f).2 e)]
 | q::r,j+1,p,hn,h,e=>by
  simp only[List.map_cons,List.nodup_cons]at hn;simp only[bg];have hm:p∈r:=List.mem_of_getElem? (by simpa using h);rw[if_neg (fun x=>hn.1 (List.mem_map.2 ⟨p,hm,by rw[e];exact((fB f).1 x).symm⟩))];exact nE f hn.2 (by simpa using h) e
theorem yB(j:K.isKey=true){k:K.den}{x:α}:∀ {f:List (K.den×α)},(∀p∈f,p.1≠k)→cF K f k x=f++[(k,x)]
 | [],_=>rfl
 | p::r,h=>by
  simp only[cF];rw[if_neg (fun e=>h p (by simp) ((fB j).1 e)),yB j fun q u=>h q (by simp[u])];rfl
theorem yJ(u:K.isKey=true){k:K.den}{x:α}:∀ {f:List (K.den×α)} {j:Nat} {p:K.den×α},(f.map (·.1)).Nodup→f[j]? = some p→p.1=k→cF K f k x=f.set j (k,x)
 | [],j,p,_,h,_=>by simp at h
 | q::r,0,p,_,h,e=>by
  simp at h;subst h;simp only[cF];rw[if_pos ((fB u).2 e)];rfl
 | q::r,j+1,p,hn,h,e=>by
  simp only[List.map_cons,List.nodup_cons]at hn;simp only[cF];have hm:p∈r:=List.mem_of_getElem? (by simpa using h);rw[if_neg (fun v=>hn.1 (List.mem_map.2 ⟨p,hm,by rw[e];exact((fB u).1 v).symm⟩)),yJ u hn.2 (by simpa using h) e];rfl
end
def enc(β:Bool)(T:Ty)(x:T.den):af:=if T.scalar then .p β T x else .agg (flat β T x)
theorem Jo{F:Bool→Addr→Value→Prop}{ρ:Nat→QW}{A:Ty}{x:A.den}{v:Value}(h:MV (F false) A x v):V F ρ (enc false A x) v:=by
 obtain⟨h1,h2,j,p⟩:=h;unfold enc;split
 ·rename_i f;have q:=fM (j f);simp only[V];refine⟨f,?_⟩;rw[q]at h1;refine ah.gw (fun k u hk hu=>?_) h1;rw[Ty.fF f]at hk;obtain rfl:k=0:=by omega
  simp at hu;exact hu.symm
 ·rename_i f;obtain⟨z,rfl⟩:=p (by simpa using f);simp only[V];refine⟨z,rfl,by rw[eQ,←h2];rfl,jN false A x _ (ah.mono (fun _ _ h=>h) (fun k u hk=>by simpa [Value.cells]using hk) h1)⟩
def kH(T:Ty)(x:af):Bool :=
 match x with
 | .agg _=> !T.scalar
 | .lag _ _ _ _=>false
 | _=>T.scalar
section
variable{P:Program}{Bw:Nat→Prop}{w0:cr P}{ρ:Nat→QW}{φ:Nat→Nat→Prop}{h:Nat→Qz}{w:World}{new:Nat}
theorem zF(m:Mem Bw w0 ρ φ h w)(hn:ρ new=none){o:Oper}{a:Act}{t:TypeId}{K A:Ty}(u:K.isKey=true)(ho:o.op = .makeMap t none):
  Good P o a w (aF Bw w0 ρ φ h w new (.mp new) [(new,some (.mpo K A []))]):=by
 have f:(Instr.makeMap t none).run P w = .ok (.map (some w.heap.size)) (w.alloc (.map #[] 0)):=rfl;refine Good.aG (v:= .map (some w.heap.size)) (w':=w.alloc (.map #[] 0)) (by simp only[execOp,ho,Option.map_none,Sem.run_bind,f,Result.andThen_ok];rfl) ?_;refine cO m none new (.mpo K A []) (.map (some w.heap.size)) none (World.grownBy_alloc w _ none) (fun k e=>by cases e) (.inl hn) (fun _ k hk=>?_) (fun F' p x q=>?_)
  (by rw[bn];rfl) (fun _=>rfl) (fun F' p x q j=>?_)
 ·simp only[dp,Option.some.injEq]at hk;exact .inl (by omega)
 ·exact⟨_,#[],0,rfl,rfl,heap_alloc_new w _,⟨u,List.nodup_nil,fun e z=>by cases z⟩,rfl,List.nodup_nil,fun i hi=>absurd hi (by simp)⟩
 ·simp only[V];exact⟨j,_,rfl⟩
theorem Af{F:Addr→Value→Prop}{t:TypeId}{ti:TI}(ht:aO P t ti){A:Ty}(hT:ti.T=some A){z:Value}(hz:(zeroValue t).run P w = .ok z w)(q:z.cells.toList.map kf=ti.z)(u:z.cells.size=ti.size)
  (x:∀c∈z.cells.toList,c.oneCell'=true):MV F A A.zero z:=by
 obtain⟨B,j,C⟩:=ht.hT A hT;have I:=gu (F:=fun _=>F) (ρ:=iW) z.cells.toList;rw[q]at I;obtain⟨i,p,J,L,_⟩:=ht.hi;have D:p=z:=by simp[zeroValue,typeInfo,J,L]at hz;exact hz
 subst D;have f:=ht.hz;rw[J]at f;simp only[Option.bind_some,L,Option.map_some,Option.some.injEq]at f;refine⟨(cN C I).1,by rw[u,B],fun E=>?_,fun E=>?_⟩
 ·rw[E]at j;have hk:ti.k.agg=false:=by simpa using j.symm
  rw[hk]at f;have hc:p.cells = #[p]:=by cases p <;> first | rfl | (simp at f)
  exact x p (by rw[hc];simp)
 ·rw[E]at j;have hk:ti.k.agg=true:=by simpa using j.symm
  rw[hk]at f;cases p <;> first | exact⟨_,rfl⟩ | (simp at f)
theorem zj(m:Mem Bw w0 ρ φ h w){id:Nat}{K A:Ty}{j:List (K.den×A.den)}(hi:h id=some (.mpo K A j)){v:Value}(q:V (Fr (own φ h) Bw w) ρ (.mp id) v):
  ∃r f clock,v = .map (some r)∧ρ id=some (.map (some r))∧φ id r∧w.heap[r]? = some (.map f clock)∧(K.isKey=true∧xA f clock)∧f.toList.map (·.key)=j.map (fun p=>aS K p.1)∧(j.map (·.1)).Nodup ∧
   ∀i (h':i<j.length),∃e:MapEntry,f[i]? = some e∧MV (Fr (own φ h) Bw w false) A j[i].2 e.val:=by
 obtain⟨u,z,r,f,clock,rfl,B⟩:=m.ob id _ hi;simp only[V]at q;rw[q.1]at z;cases z;exact⟨r,f,clock,rfl,q.1,B⟩
theorem rP{f:Array MapEntry}{K:Ty}{α:Type}{q:List (K.den×α)}(hk:f.toList.map (·.key)=q.map (fun p=>aS K p.1)){j:Nat}{e:MapEntry}(u:f.toList[j]? = some e):
  ∃p,q[j]? = some p∧e.key=aS K p.1:=by
 have h1:(f.toList.map (·.key))[j]? = some e.key:=by rw[List.getElem?_map,u];rfl
 rw[hk,List.getElem?_map]at h1;cases hp:q[j]? with
 | none=>rw[hp]at h1;cases h1
 | some p=>rw[hp]at h1;simp at h1;exact⟨p,rfl,h1.symm⟩
theorem Bb(m:Mem Bw w0 ρ φ h w){o:Oper}{a:Act}{t kt et:TypeId}{ti te:TI}(ht:aO P t ti)(hk:ti.k = .mp kt et){K:Ty}(B:hZ P kt K)(C:aO P et te){A:Ty}(hT:te.T=some A)
  {xo ko:Operand} {f:Bool} (ho:o.op = .lookup t xo ko f) {id:Nat} {u:List (K.den×A.den)} (hi:h id=some (.mpo K A u)) (hx:V (Fr (own φ h) Bw w) ρ (.mp id) (a.eval xo)) {k:K.den} (e2:a.eval ko=aS K k) :
  Good P o a w (aF Bw w0 ρ φ h w new (if f then .tup [enc false A ((bg K u k).getD A.zero),.p false .bool (bg K u k).isSome]else enc false A ((bg K u k).getD A.zero)) []):=by
 obtain⟨r,O,clock,e1,_,_,hb,⟨Y,_⟩,q,Z,D⟩:=zj m hi hx;obtain⟨dm,hm,E⟩:=ht.hu;rw[hk]at E;simp only[UK]at E;subst E;have a1:O.toList.map (·.key)=(u.map (·.1)).map (aS K):=by rw[q,List.map_map];rfl
 obtain⟨z,hz,a2,a3,a4⟩:=dP C w;obtain⟨aa,ac,ad⟩:=C.hT A hT;have M:∀(v:Value) (x:A.den) (b:Bool),MV (Fr (own φ h) Bw w false) A x v→V (Fr (own φ h) Bw w) ρ (if f then .tup [enc false A x,.p false .bool b]else enc false A x) (if f then .tuple #[v,.bool b]else v):=fun v x b hv=>by
  cases f
  ·exact Jo hv
  ·simp only[if_true,V,VL];refine⟨_,rfl,rfl,⟨v,by simp,Jo hv⟩,⟨.bool b,by simp,?_⟩,trivial⟩;simp only[V,ah];exact⟨rfl,trivial⟩
 rcases B.find k O.toList (u.map (·.1)) w a1 with⟨h1,h2⟩ | ⟨j,e,h1,h2,h3⟩
 ·have I:bg K u k=none:=n8 Y fun p hp e=>by
   obtain⟨j,X⟩:=List.mem_iff_getElem?.1 hp;have L:(u.map (fun p=>aS K p.1))[j]? = some (aS K p.1):=by rw[List.getElem?_map,X];rfl
   rw[←q,List.getElem?_map]at L;cases hq:O.toList[j]? with
   | none=>rw[hq]at L;cases L
   | some x =>rw[hq]at L;simp at L;exact h2 x (List.mem_of_getElem? hq) (by rw[L,e])
  rw[I];have a5:MV (Fr (own φ h) Bw w false) A A.zero z:=Af C hT hz a2 a3 a4;refine Good.aG (v:=if f then .tuple #[z,.bool false]else z) (w':=w) ?_ (aF.pure m (M z _ false a5));simp only[execOp,ho];rw[e1,e2];cases f <;> simp[Instr.lookup,run_underlying hm,Go.MapKept.run_getObj_map hb,B.check,h1,hz,Result.andThen]
 ·obtain⟨p,hp,a6⟩:=rP q h2;have a7:p.1=k:=lV Y (by rw[←a6,h3]);have J:=nE (α:=A.den) Y Z hp a7;rw[J];have X:j<u.length:=(List.getElem?_eq_some_iff.1 hp).1;obtain⟨N,q1,q2⟩:=D j X;have a8:N=e:=by
   have:O.toList[j]? = some N:=by simpa using q1
   rw[h2]at this;cases this;rfl
  subst a8;have a9:u[j]=p:=by rw[List.getElem?_eq_getElem X]at hp;simpa using hp
  rw[a9]at q2;refine Good.aG (v:=if f then .tuple #[N.val,.bool true]else N.val) (w':=w) ?_ (aF.pure m (M N.val _ true q2));simp only[execOp,ho];rw[e1,e2];cases f <;> simp[Instr.lookup,run_underlying hm,Go.MapKept.run_getObj_map hb,B.check,h1,Result.andThen]
theorem iI(w:World)(r:Nat)(o:Go.Obj):w.grownBy { w with heap:=w.heap.setIfInBounds r o } (some r):=by
 refine⟨rfl,rfl,rfl,by simp,fun k hk f=>?_⟩;have:r≠k:=fun e=>f (by rw[e])
 simp[Array.getElem?_setIfInBounds_ne this]
theorem xA.push{j:Array MapEntry}{c:Nat}(h:xA j c)(k v:Value):xA (j.push { key:=k,val:=v,born:=c }) (c+1):=by
 refine⟨?_,fun e f=>?_⟩
 ·simp only[Array.toList_push,List.map_append,List.map_cons,List.map_nil];refine List.nodup_append.2 ⟨h.1,by simp,fun a ha b hb e=>?_⟩;simp only[List.mem_singleton]at hb;obtain⟨p,hp,rfl⟩:=List.mem_map.1 ha;have:=h.2 p hp;omega
 ·simp only[Array.toList_push,List.mem_append,List.mem_singleton]at f;rcases f with f | rfl
  ·exact Nat.lt_succ_of_lt (h.2 e f)
  ·exact Nat.lt_succ_self _
theorem xA.modify{p:Array MapEntry}{c:Nat}(h:xA p c)(j:Nat)(f:MapEntry→MapEntry)(u:∀e,(f e).born=e.born):xA (p.modify j f) c:=by
 have q:(p.modify j f).toList.map (·.born)=p.toList.map (·.born):=by
  refine List.ext_getElem? fun i=>?_
  simp only[List.getElem?_map,Array.getElem?_toList,Array.getElem?_modify];split
  ·cases p[i]? <;> simp[u]
  ·rfl
 refine⟨by rw[q];exact h.1,fun e v=>?_⟩;have:e.born∈(p.modify j f).toList.map (·.born):=List.mem_map_of_mem v;rw[q]at this;obtain⟨z,h1,h2⟩:=List.mem_map.1 this;rw[←h2];exact h.2 z h1
theorem lL(m:Mem Bw w0 ρ φ h w){o:Oper}{a:Act}{t kt et:TypeId}{ti:TI}(ht:aO P t ti)(hk:ti.k = .mp kt et){K:Ty}(I:hZ P kt K){A:Ty}
  {xo ko M:Operand} (ho:o.op = .mapUpdate t xo ko M∨o.op = .insert t xo ko M) {id:Nat} {z:List (K.den×A.den)} {us:gZ} (_:h id=some (.mpo K A z)) (hi:apply us h id=some (.mpo K A z)) (hx:V (Fr (own φ h) Bw w) ρ (.mp id) (a.eval xo)) {k:K.den} (e2:a.eval ko=aS K k)
  {y:af} (hy:V (Fr (own φ h) Bw w) ρ y (a.eval M)) (hc:(cellsOf y).all af.cell=true) (hs:kH A y=true) {x:A.den} (hz:F1 A h y=some (x,us)) :
  Good P o a w (aF Bw w0 ρ φ h w new .unk (us++[(id,some (.mpo K A (cF K z k x)))])):=by
 obtain⟨m',a4,b1⟩:=m6 m hz;obtain⟨r,N,clock,e1,O,a5,hb,⟨hK,hB⟩,q,X,C⟩:=zj m' hi (V.mono a4 (fun _ _ h=>h) hx);obtain⟨dm,hm,Y⟩:=ht.hu;rw[hk]at Y;simp only[UK]at Y;subst Y;have b2:N.toList.map (·.key)=(z.map (·.1)).map (aS K):=by rw[q,List.map_map];rfl
 obtain⟨r1,r2,r3⟩:=fV hc hy;obtain⟨s1,s2⟩:=b1 _ r1;have a6:MV (Fr (own φ (apply us h)) Bw w false) A x (a.eval M):=by
  refine⟨s1,by rw[s2,←r2];simp,fun Z=>?_,fun Z=>?_⟩
  ·have a1:cellsOf y=[y]:=by cases y <;> first | rfl | (simp[kH,Z]at hs)
   rw[a1]at hc;simp only[List.all_cons,List.all_nil,Bool.and_true]at hc;exact sJ hc hy
  ·cases y with
   | agg cs =>
    simp only[V]at hy;obtain⟨vs,e,_⟩:=hy;exact⟨vs,e⟩
   | _=>simp[kH,Z]at hs
 have a7:N.size=z.length:=by have:=congrArg List.length q;simpa using this
 have a8:∀(B:Array MapEntry) (f:Nat),(execOp a.eval o).run P w = .ok .skip { w with heap:=w.heap.setIfInBounds r (.map B f) }→xA B f→B.toList.map (·.key)=(cF K z k x).map (fun p=>aS K p.1) →
   ((cF K z k x).map (·.1)).Nodup→(∀i (h':i<(cF K z k x).length),∃e:MapEntry,B[i]? = some e∧MV (Fr (own φ (apply us h)) Bw w false) A (cF K z k x)[i].2 e.val) →
   Good P o a w (aF Bw w0 ρ φ h w new .unk (us++[(id,some (.mpo K A (cF K z k x)))])):=fun B f a9 q0 q1 q2 q3=>by
  refine Good.jM a9 ?_;refine aF.after (u1:=us) rfl a4 ?_;refine dR m' (some id) id (.mpo K A (cF K z k x)) (.map (some r)) (φ id) (some r) (iI w r _) (fun k e=>⟨id,_,rfl,hi,rfl,by cases e;exact a5⟩) (.inr ⟨rfl,O⟩)
   (fun _ k hk=>Nat.lt_of_lt_of_le (m'.lt id _ k hi rfl hk) (iI w r (.map B f)).size) (fun _ k hk=> .inr ⟨id,_,rfl,hi,rfl,hk⟩) (fun F' b3 hF b5=>?_) (by rw[bm];rfl) (fun e=>by rw[O]at e;cases e) (fun F' b3 hF O b6=>by simp only[V])
  exact⟨r,B,f,rfl,a5,(heap_set hb).1,⟨hK,q0⟩,q1,q2,fun i hi=>let ⟨e,t1,t2,t3⟩:=q3 i hi;⟨e,t1,ah.mono (hF _) (fun _ _ h=>h) t2,t3⟩⟩
 rcases I.find k N.toList (z.map (·.1)) w b2 with⟨h1,h2⟩ | ⟨j,e,h1,h2,h3⟩
 ·have aa:∀p∈z,p.1≠k:=fun p hp e=>by
   obtain⟨j,hj⟩:=List.mem_iff_getElem?.1 hp;have E:(z.map (fun p=>aS K p.1))[j]? = some (aS K p.1):=by rw[List.getElem?_map,hj];rfl
   rw[←q,List.getElem?_map]at E;cases hq:N.toList[j]? with
   | none=>rw[hq]at E;cases E
   | some x =>rw[hq]at E;simp at E;exact h2 x (List.mem_of_getElem? hq) (by rw[E,e])
  have u:=yB (x:=x) hK aa;refine a8 (N.push { key:=aS K k,val:=a.eval M,born:=clock }) (clock+1) ?_ (hB.push _ _) ?_ ?_ ?_
  ·rcases ho with ho | ho <;>
   ·simp only[execOp,ho];rw[e1,e2];simp[Instr.mapUpdate,run_underlying hm,Go.MapKept.run_getObj_map hb,I.check,h1,run_setObj_map _ hb,Result.andThen]
  ·rw[u];simp[q]
  ·rw[u];simp only[List.map_append,List.map_cons,List.map_nil];refine List.nodup_append.2 ⟨X,by simp,fun a ha b hb e=>?_⟩;simp only[List.mem_singleton]at hb;obtain⟨p,hp,rfl⟩:=List.mem_map.1 ha;exact aa p hp (by rw[e,hb])
  ·rw[u];intro i J;simp only[List.length_append,List.length_cons,List.length_nil]at J;rcases Nat.lt_or_ge i z.length with E | E
   ·obtain⟨L,t1,t2⟩:=C i E;exact⟨L,by rw[Array.getElem?_push,if_neg (by omega)];exact t1,by rw[List.getElem_append_left E];exact t2⟩
   ·obtain rfl:i=z.length:=by omega
    exact⟨_,by rw[Array.getElem?_push,if_pos a7.symm],by simpa using a6⟩
 ·obtain⟨p,hp,b4⟩:=rP q h2;have a2:p.1=k:=lV hK (by rw[←b4,h3]);have u:=yJ (x:=x) hK X hp a2;have hj:N[j]? = some e:=by simpa using h2
  have ac:j<z.length:=(List.getElem?_eq_some_iff.1 hp).1;have a3:∀L,N[j]? = some L→({ L with key:=aS K k,val:=a.eval M }:MapEntry).key=L.key:=fun L ad=>by rw[hj]at ad;cases ad;exact h3.symm
  have ax:(z.set j (k,x)).map (·.1)=z.map (·.1):=by
   rw[List.map_set];simp only;refine List.ext_getElem? fun i=>?_
   rw[List.getElem?_set];split
   ·rename_i D;subst D;simp[ac,hp,a2];rw[List.getElem?_eq_getElem ac]at hp;simp at hp;rw[hp,a2]
   ·rfl
  refine a8 (N.modify j fun e=> { e with key:=aS K k,val:=a.eval M }) clock ?_ (hB.modify j _ fun _=>rfl) ?_ ?_ ?_
  ·rcases ho with ho | ho <;>
   ·simp only[execOp,ho];rw[e1,e2];simp[Instr.mapUpdate,run_underlying hm,Go.MapKept.run_getObj_map hb,I.check,h1,hj,h3,I.stays,run_setObj_map _ hb,Result.andThen]
  ·rw[modify_keys j _ a3,u,q];have:(z.set j (k,x)).map (fun p=>aS K p.1)=((z.set j (k,x)).map (·.1)).map (aS K):=by rw[List.map_map];rfl
   rw[this,ax,List.map_map];rfl
  ·rw[u,ax];exact X
  ·rw[u];intro i J;simp only[List.length_set]at J;obtain⟨L,t1,t2⟩:=C i J;by_cases D:j=i
   ·subst D;refine⟨{ L with key:=aS K k,val:=a.eval M },by rw[Array.getElem?_modify,if_pos rfl,t1];rfl,by simpa using a6⟩
   ·refine⟨L,by rw[Array.getElem?_modify,if_neg D];exact t1,?_⟩;rw[List.getElem_set_ne D];exact t2
theorem xT(m:Mem Bw w0 ρ φ h w)(hn:ρ new=none){o:Oper}{a:Act}{t:TypeId}{K:Ty}(u:K.isKey=true)(ho:o.op = .makeMap t none):
  Good P o a w (aF Bw w0 ρ φ h w new (.mp new) [(new,some (.mpl K []))]):=by
 have f:(Instr.makeMap t none).run P w = .ok (.map (some w.heap.size)) (w.alloc (.map #[] 0)):=rfl;refine Good.aG (v:= .map (some w.heap.size)) (w':=w.alloc (.map #[] 0)) (by simp only[execOp,ho,Option.map_none,Sem.run_bind,f,Result.andThen_ok];rfl) ?_;refine cO m none new (.mpl K []) (.map (some w.heap.size)) none (World.grownBy_alloc w _ none) (fun k e=>by cases e) (.inl hn) (fun _ k hk=>?_) (fun F' p x q=>?_)
  (by rw[bn];rfl) (fun _=>rfl) (fun F' p x q j=>?_)
 ·simp only[dp,Option.some.injEq]at hk;exact .inl (by omega)
 ·exact⟨_,#[],0,rfl,rfl,heap_alloc_new w _,u,rfl,List.nodup_nil,fun i hi=>absurd hi (by simp)⟩
 ·simp only[V];exact⟨j,_,rfl⟩
theorem ES(m:Mem Bw w0 ρ φ h w){id:Nat}{K:Ty}{f:List (K.den×Value)}(hi:h id=some (.mpl K f)){v:Value}(q:V (Fr (own φ h) Bw w) ρ (.mp id) v):
  ∃r j clock,v = .map (some r)∧ρ id=some (.map (some r))∧φ id r∧w.heap[r]? = some (.map j clock)∧K.isKey=true∧j.toList.map (·.key)=f.map (fun p=>aS K p.1)∧(f.map (·.1)).Nodup ∧
   ∀i (h':i<f.length),∃e:MapEntry,j[i]? = some e∧e.val=f[i].2:=by
 obtain⟨u,x,r,j,clock,rfl,z⟩:=m.ob id _ hi;simp only[V]at q;rw[q.1]at x;cases x;exact⟨r,j,clock,rfl,q.1,z⟩
def rz{α:Type}(K:Ty):List (K.den×α)→K.den→Nat→Prop
 | [],_,_=>True
 | p::_,k,0=>eE K p.1 k=true
 | p::r,k,j+1=>eE K p.1 k=false∧rz K r k j
theorem vw{α:Type}{K:Ty}{k:K.den}:∀ {f:List (K.den×α)} {j:Nat},rz K f k j→bg K f k=(f[j]?).map (·.2)
 | [],j,_=>by simp[bg]
 | p::r,0,h=>by
  simp only[rz]at h;simp[bg,h]
 | p::r,j+1,h=>by
  simp only[rz]at h;simp only[bg,h.1,Bool.false_eq_true,if_false,List.getElem?_cons_succ];exact vw h.2
def KP:Value→af
 | .agg f=> .agg (f.toList.map .lit)
 | v=> .lit v
theorem EL{F:Bool→Addr→Value→Prop}{ρ:Nat→QW}:∀ {l:QY} {g:Nat→Value→Prop},(∀k v,l[k]? = some v→g k v)→VL F ρ (l.map .lit) g
 | [],_,_=>trivial
 | v::l,g,h=>by
  simp only[List.map_cons,VL,V];exact⟨⟨v,h 0 v rfl,rfl⟩,EL fun k u hk=>h (k+1) u hk⟩
theorem KI{F:Bool→Addr→Value→Prop}{ρ:Nat→QW}(v:Value):V F ρ (KP v) v:=by
 unfold KP;split
 ·simp only[V];exact⟨_,rfl,by simp,EL fun k u hk=>by simpa using hk⟩
 ·simp only[V]
def zV(f:TI):af:=if f.k.agg=true then .agg f.z else .unk
theorem Mb{F:Bool→Addr→Value→Prop}{ρ:Nat→QW}{t:TypeId}{ti:TI}(ht:aO P t ti){w:World}{z:Value}(hz:(zeroValue t).run P w = .ok z w)(j:z.cells.toList.map kf=ti.z)(B:z.cells.size=ti.size):V F ρ (zV ti) z:=by
 unfold zV;split
 ·rename_i hk;obtain⟨i,q,u,x,_⟩:=ht.hi;have p:q=z:=by simp[zeroValue,typeInfo,u,x]at hz;exact hz
  subst p;have f:=ht.hz;rw[u]at f;simp only[Option.bind_some,x,Option.map_some,Option.some.injEq]at f;rw[hk]at f;cases q with
  | agg A =>
   simp only[V];have C:=gu (F:=F) (ρ:=ρ) A.toList;refine⟨A,rfl,?_,?_⟩
   ·rw[←j];simp[Value.cells]
   ·rw[←j];simpa [Value.cells]using C
  | _=>cases f
 ·trivial
def EP(z:af)(o:QW):af :=
 match o with
 | some v=> .tup [KP v,.p false .bool true]
 | none=> .tup [z,.p false .bool false]
theorem zK(m:Mem Bw w0 ρ φ h w){o:Oper}{a:Act}{t kt et:TypeId}{ti te:TI}(ht:aO P t ti)(hk:ti.k = .mp kt et){K:Ty}(u:hZ P kt K)(J:aO P et te)
  {xo ko:Operand} (ho:o.op = .lookup t xo ko true) {id:Nat} {q:List (K.den×Value)} (hi:h id=some (.mpl K q)) (hx:V (Fr (own φ h) Bw w) ρ (.mp id) (a.eval xo)) {k:K.den} (e2:a.eval ko=aS K k) :
  Good P o a w (aF Bw w0 ρ φ h w new (EP (zV te) (bg K q k)) []):=by
 obtain⟨r,L,clock,e1,_,_,hb,O,f,X,B⟩:=ES m hi hx;obtain⟨dm,hm,C⟩:=ht.hu;rw[hk]at C;simp only[UK]at C;subst C;have Y:L.toList.map (·.key)=(q.map (·.1)).map (aS K):=by rw[f,List.map_map];rfl
 obtain⟨z,hz,Z,a1,_⟩:=dP J w;have a2:=Mb (F:=Fr (own φ h) Bw w) (ρ:=ρ) J hz Z a1;rcases u.find k L.toList (q.map (·.1)) w Y with⟨h1,h2⟩ | ⟨j,e,h1,h2,h3⟩
 ·have D:bg K q k=none:=n8 O fun p hp e=>by
   obtain⟨j,M⟩:=List.mem_iff_getElem?.1 hp;have I:(q.map (fun p=>aS K p.1))[j]? = some (aS K p.1):=by rw[List.getElem?_map,M];rfl
   rw[←f,List.getElem?_map]at I;cases hq:L.toList[j]? with
   | none=>rw[hq]at I;cases I
   | some x =>rw[hq]at I;simp at I;exact h2 x (List.mem_of_getElem? hq) (by rw[I,e])
  rw[D];refine Good.aG (v:= .tuple #[z,.bool false]) (w':=w) ?_ (aF.pure m ?_)
  ·simp only[execOp,ho];rw[e1,e2];simp[Instr.lookup,run_underlying hm,Go.MapKept.run_getObj_map hb,u.check,h1,hz,Result.andThen]
  ·simp only[EP,V,VL];exact⟨_,rfl,rfl,⟨z,by simp,a2⟩,⟨.bool false,by simp,by simp only[ah];exact⟨rfl,trivial⟩⟩,trivial⟩
 ·obtain⟨p,hp,a3⟩:=rP f h2;have a4:p.1=k:=lV O (by rw[←a3,h3]);have E:=nE (α:=Value) O X hp a4;rw[E];have M:j<q.length:=(List.getElem?_eq_some_iff.1 hp).1;obtain⟨N,q1,q2⟩:=B j M;have a5:N=e:=by
   have:L.toList[j]? = some N:=by simpa using q1
   rw[h2]at this;cases this;rfl
  subst a5;have a6:q[j]=p:=by rw[List.getElem?_eq_getElem M]at hp;simpa using hp
  rw[a6]at q2;refine Good.aG (v:= .tuple #[N.val,.bool true]) (w':=w) ?_ (aF.pure m ?_)
  ·simp only[execOp,ho];rw[e1,e2];simp[Instr.lookup,run_underlying hm,Go.MapKept.run_getObj_map hb,u.check,h1,Result.andThen]
  ·simp only[EP,V,VL];exact⟨_,rfl,rfl,⟨N.val,by simp,by rw[q2];exact KI _⟩,⟨.bool true,by simp,by simp only[ah];exact⟨rfl,trivial⟩⟩,trivial⟩
theorem oo(m:Mem Bw w0 ρ φ h w){o:Oper}{a:Act}{t M et:TypeId}{ti:TI}(ht:aO P t ti)(hk:ti.k = .mp M et){K:Ty}(C:hZ P M K)
  {N O L:Operand} (ho:o.op = .mapUpdate t N O L∨o.op = .insert t N O L) {id:Nat} {q:List (K.den×Value)} (hi:h id=some (.mpl K q)) (hx:V (Fr (own φ h) Bw w) ρ (.mp id) (a.eval N)) {k:K.den} (e2:a.eval O=aS K k) {x:Value} (e3:a.eval L=x)
  (D:∀p∈q,p.1≠k) :
  Good P o a w (aF Bw w0 ρ φ h w new .unk [(id,some (.mpl K (q++[(k,x)])))]):=by
 obtain⟨r,E,clock,e1,u,I,hb,hK,f,X,z⟩:=ES m hi hx;obtain⟨dm,hm,B⟩:=ht.hu;rw[hk]at B;simp only[UK]at B;subst B;have Y:E.toList.map (·.key)=(q.map (·.1)).map (aS K):=by rw[f,List.map_map];rfl
 have J:E.size=q.length:=by have:=congrArg List.length f;simpa using this
 have h1:(Instr.findKey M (aS K k) E.toList).run P w = .ok none w:=by
  rcases C.find k E.toList (q.map (·.1)) w Y with⟨h1,_⟩ | ⟨j,e,_,h2,h3⟩
  ·exact h1
  ·obtain⟨p,hp,Z⟩:=rP f h2;exact absurd (lV hK (by rw[←Z,h3])) (D p (List.mem_of_getElem? hp))
 refine Good.jM (w':= { w with heap:=w.heap.setIfInBounds r (.map (E.push { key:=aS K k,val:=a.eval L,born:=clock }) (clock+1)) }) ?_ ?_
 ·rcases ho with ho | ho <;>
  ·simp only[execOp,ho];rw[e1,e2];simp[Instr.mapUpdate,run_underlying hm,Go.MapKept.run_getObj_map hb,C.check,h1,run_setObj_map _ hb,Result.andThen]
 ·refine dR m (some id) id (.mpl K (q++[(k,x)])) (.map (some r)) (φ id) (some r) (iI w r _) (fun k e=>⟨id,_,rfl,hi,rfl,by cases e;exact I⟩) (.inr ⟨rfl,u⟩)
   (fun _ k hk=>Nat.lt_of_lt_of_le (m.lt id _ k hi rfl hk) (iI w r _).size) (fun _ k hk=> .inr ⟨id,_,rfl,hi,rfl,hk⟩) (fun F' a1 hF a3=>?_) (by rw[bm];rfl) (fun e=>by rw[u]at e;cases e) (fun F' a1 hF u a4=>by simp only[V])
  refine⟨r,_,_,rfl,I,(heap_set hb).1,hK,?_,?_,fun i a2=>?_⟩
  ·simp[f]
  ·simp only[List.map_append,List.map_cons,List.map_nil];refine List.nodup_append.2 ⟨X,by simp,fun a ha b hb e=>?_⟩;simp only[List.mem_singleton]at hb;obtain⟨p,hp,rfl⟩:=List.mem_map.1 ha;exact D p hp (by rw[e,hb])
  ·simp only[List.length_append,List.length_cons,List.length_nil]at a2;rcases Nat.lt_or_ge i q.length with h4 | h4
   ·obtain⟨e',t1,t2⟩:=z i h4;exact⟨e',by rw[Array.getElem?_push,if_neg (by omega)];exact t1,by rw[List.getElem_append_left h4];exact t2⟩
   ·obtain rfl:i=q.length:=by omega
    exact⟨_,by rw[Array.getElem?_push,if_pos J.symm],by simpa using e3⟩
theorem zk(m:Mem Bw w0 ρ φ h w){o:Oper}{a:Act}{t B C:TypeId}{ti:TI}(ht:aO P t ti)(hk:ti.k = .mp B C){z:Operand}{id:Nat}{K A:Ty}{u:List (K.den×A.den)}(hi:h id=some (.mpo K A u))(D:V (Fr (own φ h) Bw w) ρ (.mp id) (a.eval z))
  (ho:o.op = .call { callee:= .builtin .len,args:= #[z],argTypes:= #[t] }):Good P o a w (aF Bw w0 ρ φ h w new (.p false (.int .i64) (u.length:Int)) []):=by
 obtain⟨r,E,clock,I,J,L,hb,N,f,M,x⟩:=zj m hi D;obtain⟨O,hm,j⟩:=ht.hu;rw[hk]at j;simp only[UK]at j;subst j;have q:E.size=u.length:=by have:=congrArg List.length f;simpa using this
 refine Good.aG (v:= .int .i64 (u.length:Int)) (w':=w) ?_ (aF.pure m (dy _ _ _));simp only[execOp,ho,resolve,invoke,builtin,Sem.run_bind,Sem.run_pure,Result.andThen_ok,List.map_toArray,List.map_cons,List.map_nil,I];simp[Builtin.len_,run_underlying hm,Go.MapKept.run_getObj_map hb,goInt,q,Result.andThen]
theorem HR(m:Mem Bw w0 ρ φ h w){o:Oper}{a:Act}{x z:Operand}{q:Array TypeId}{β u:Bool}{k:IntKind}{i j:Int}(B:V (Fr (own φ h) Bw w) ρ (.p β (.int k) i) (a.eval x))(C:V (Fr (own φ h) Bw w) ρ (.p u (.int k) j) (a.eval z))
  (ho:o.op = .call { callee:= .builtin .min,args:= #[x,z],argTypes:=q }):Good P o a w (aF Bw w0 ρ φ h w new (.p false (.int k) (min i j)) []):=by
 refine Good.aG (v:= .int k (min i j)) (w':=w) ?_ (aF.pure m (dy _ _ _));have e:(if j<i then j else i)=min i j:=by
  by_cases f:j<i
  ·rw[if_pos f];omega
  ·rw[if_neg f];omega
 simp only[execOp,ho,resolve,invoke,builtin,Sem.run_bind,Sem.run_pure,Result.andThen_ok,List.map_toArray,List.map_cons,List.map_nil,bV B,bV C];simp[Builtin.min_,Builtin.min2,e]
theorem Gy(m:Mem Bw w0 ρ φ h w){o:Oper}{a:Act}{x z:Operand}{q:Array TypeId}{β u:Bool}{k:IntKind}{i j:Int}(B:V (Fr (own φ h) Bw w) ρ (.p β (.int k) i) (a.eval x))(C:V (Fr (own φ h) Bw w) ρ (.p u (.int k) j) (a.eval z))
  (ho:o.op = .call { callee:= .builtin .max,args:= #[x,z],argTypes:=q }):Good P o a w (aF Bw w0 ρ φ h w new (.p false (.int k) (max i j)) []):=by
 refine Good.aG (v:= .int k (max i j)) (w':=w) ?_ (aF.pure m (dy _ _ _));have e:(if j > i then j else i)=max i j:=by
  by_cases f:j > i
  ·rw[if_pos f];omega
  ·rw[if_neg f];omega
 simp only[execOp,ho,resolve,invoke,builtin,Sem.run_bind,Sem.run_pure,Result.andThen_ok,List.map_toArray,List.map_cons,List.map_nil,bV B,bV C];simp[Builtin.max_,Builtin.max2,e]
end
end Go.Tv
