import Derived.Test.YtflahpmlcfhpcaaGreatDoorTvKam
import Derived.MapKept
import Derived.ChangeKeysEq
namespace Go.Tv
open Go Go.RowKit
open Go.MapKept (IsKey findNow_spec run_checkKey run_findKey run_setObj_map heap_set run_keyThatStays modify_keys)
def eI:(K:Ty)→K.den→K.den→Bool
 | .int _,a,b=> @BEq.beq Int _ a b
 | .bool,a,b=> @BEq.beq Bool _ a b
 | .str,a,b=> @BEq.beq QX _ a b
 | .unit,_,_=>true
 | .prod A B,a,b=>eI A a.1 b.1 && eI B a.2 b.2
 | .arr _ _,a,b=>Hr a b
 | _,_,_=>false
theorem fu:∀ {K:Ty} {a b:K.den},K.isKey=true→(eI K a b=true↔a=b)
 | .int _,a,b,_=>by
  show(@BEq.beq Int _ a b)=true↔a=b;exact beq_iff_eq
 | .bool,a,b,_=>by
  show(@BEq.beq Bool _ a b)=true↔a=b;exact beq_iff_eq
 | .str,a,b,_=>by
  show(@BEq.beq QX _ a b)=true↔a=b;exact beq_iff_eq
 | .flt,_,_,h=>by cases h
 | .unit,_,_,_=>⟨fun _=>rfl,fun _=>rfl⟩
 | .prod A B,a,b,h=>by
  simp only[Ty.isKey,Bool.and_eq_true]at h;simp only[eI,Bool.and_eq_true,fu h.1,fu h.2];exact⟨fun e=>Prod.ext e.1 e.2,fun e=>by rw[e];exact⟨rfl,rfl⟩⟩
 | .slice _,_,_,h=>by cases h
 | .ptr _,_,_,h=>by cases h
 | .tree _ _,_,_,h=>by cases h
 | .mapi _ _,_,_,h=>by cases h
 | .arr _ _,a,b,_=>by
  show(a.1 == b.1)=true↔a=b;rw[beq_iff_eq];exact⟨Subtype.ext,fun e=>by rw[e]⟩
theorem da:∀ {K:Ty} {a:K.den},K.isKey=true→(cJ K a).length=K.size
 | .int _,_,_=>rfl
 | .bool,_,_=>rfl
 | .str,_,_=>rfl
 | .flt,_,h=>by cases h
 | .unit,_,_=>rfl
 | .prod A B,a,h=>by
  simp only[Ty.isKey,Bool.and_eq_true]at h;simp only[cJ,Ty.size,List.length_append,da h.1,da h.2]
 | .slice _,_,h=>by cases h
 | .ptr _,_,h=>by cases h
 | .tree _ _,_,h=>by cases h
 | .mapi _ _,_,h=>by cases h
 | .arr _ _,a,_=>by simp[cJ,Ty.size,a.2]
theorem iS:∀ {K:Ty} {a b:K.den},K.isKey=true→cJ K a=cJ K b→a=b
 | .int _,a,b,_,h=>by simpa [cJ]using h
 | .bool,a,b,_,h=>by simpa [cJ]using h
 | .str,a,b,_,h=>by simpa [cJ]using h
 | .flt,_,_,h,_=>by cases h
 | .unit,_,_,_,_=>rfl
 | .prod A B,a,b,h,e=>by
  simp only[Ty.isKey,Bool.and_eq_true]at h;simp only[cJ]at e;obtain⟨f,j⟩:=List.append_inj e (by rw[da h.1,da h.1]);exact Prod.ext (iS h.1 f) (iS h.2 j)
 | .slice _,_,_,h,_=>by cases h
 | .ptr _,_,_,h,_=>by cases h
 | .tree _ _,_,_,h,_=>by cases h
 | .mapi _ _,_,_,h,_=>by cases h
 | .arr k _,a,b,_,e=>by
  simp only[cJ]at e;exact Subtype.ext (List.map_inj_right (fun x y h=>by simpa using h) |>.1 e)
theorem kV:∀ {K:Ty} {a b:K.den},K.isKey=true→aS K a=aS K b→a=b
 | .int _,a,b,_,h=>by simpa [aS]using h
 | .bool,a,b,_,h=>by simpa [aS]using h
 | .str,a,b,_,h=>by simpa [aS]using h
 | .flt,_,_,h,_=>by cases h
 | .unit,_,_,_,_=>rfl
 | .prod A B,a,b,h,e=>by
  simp only[aS,Value.agg.injEq]at e;exact iS h (List.toArray_inj e)
 | .slice _,_,_,h,_=>by cases h
 | .ptr _,_,_,h,_=>by cases h
 | .tree _ _,_,_,h,_=>by cases h
 | .mapi _ _,_,_,h,_=>by cases h
 | .arr _ _,a,b,h,e=>by
  simp only[aS,Value.agg.injEq]at e;exact iS h (List.toArray_inj e)
def Ie:TK→Option Ty
 | .int k=>some (.int k)
 | .bool=>some .bool
 | .str=>some .str
 | _=>none
theorem Fu{k:TK}{K:Ty}(h:Ie k=some K):K.isKey=true:=by cases k <;> cases h <;> rfl
theorem yt{P:Program}{d:TypeDesc}{k:TK}{K:Ty}(h:Ie k=some K)(hd:UK P d k)(x:K.den):IsKey d (aS K x):=by
 cases k <;> cases h <;> simp only[UK]at hd <;> subst hd <;> simp[IsKey,aS]
theorem rj{F:Bool→Addr→Value→Prop}{ρ:Nat→QW}{β:Bool}:∀ {K:Ty} {x:K.den} {v:Value},K.isKey=true→K.scalar=true→V F ρ (.p β K x) v→v=aS K x
 | .int _,_,_,_,_,h=>bX h
 | .bool,_,_,_,_,h=>nj h
 | .str,_,_,_,_,h=>oC h
 | .flt,_,_,h,_,_=>by cases h
 | .unit,_,_,_,h,_=>by cases h
 | .prod _ _,_,_,_,h,_=>by cases h
 | .slice _,_,_,h,_,_=>by cases h
 | .ptr _,_,_,h,_,_=>by cases h
 | .tree _ _,_,_,h,_,_=>by cases h
 | .mapi _ _,_,_,h,_,_=>by cases h
 | .arr _ _,_,_,_,h,_=>by cases h
theorem j5{F:Addr→Value→Prop}:∀ {K:Ty} {x:K.den} {l:QY} {o:Nat},K.isKey=true→ah F K x (fun k u=>l[o+k]? = some u)→∀k,k<K.size→l[o+k]? = (cJ K x)[k]?
 | .int _,_,_,_,_,h,k,hk=>by
  obtain rfl:k=0:=by simp only[Ty.size]at hk;omega
  simp only[ah]at h;rw[h];rfl
 | .bool,_,_,_,_,h,k,hk=>by
  obtain rfl:k=0:=by simp only[Ty.size]at hk;omega
  simp only[ah]at h;rw[h];rfl
 | .str,_,_,_,_,h,k,hk=>by
  obtain rfl:k=0:=by simp only[Ty.size]at hk;omega
  simp only[ah]at h;rw[h];rfl
 | .flt,_,_,_,h,_,_,_=>by cases h
 | .unit,_,_,_,_,_,k,hk=>by simp only[Ty.size]at hk;omega
 | .prod A B,x,l,o,h,e,k,hk=>by
  simp only[Ty.isKey,Bool.and_eq_true]at h;simp only[ah]at e;simp only[Ty.size]at hk;simp only[cJ];rcases Nat.lt_or_ge k A.size with f | f
  ·rw[List.getElem?_append_left (by rw[da h.1];exact f)];exact j5 h.1 e.1 k f
  ·rw[List.getElem?_append_right (by rw[da h.1];exact f),da h.1];have:=j5 (o:=o+A.size) h.2 (ah.mono (fun _ _ h=>h) (fun k u hk=>by rw[Nat.add_assoc];exact hk) e.2) (k - A.size) (by omega);rw[←this];congr 1;omega
 | .slice _,_,_,_,h,_,_,_=>by cases h
 | .ptr _,_,_,_,h,_,_,_=>by cases h
 | .tree _ _,_,_,_,h,_,_,_=>by cases h
 | .mapi _ _,_,_,_,h,_,_,_=>by cases h
 | .arr j _,x,l,o,_,e,k,hk=>by
  have hl:k<x.1.length:=by rw[x.2];exact hk
  simp only[ah]at e;rw[e k hl];simp[cJ,hl]
theorem jy:∀ {K:Ty} {x:K.den},K.isKey=true→K.scalar=false→aS K x = .agg (cJ K x).toArray
 | .int _,_,_,h=>by cases h
 | .bool,_,_,h=>by cases h
 | .str,_,_,h=>by cases h
 | .flt,_,h,_=>by cases h
 | .unit,_,_,_=>rfl
 | .prod _ _,_,_,_=>rfl
 | .slice _,_,h,_=>by cases h
 | .ptr _,_,h,_=>by cases h
 | .tree _ _,_,h,_=>by cases h
 | .mapi _ _,_,h,_=>by cases h
 | .arr _ _,_,_,_=>rfl
structure hH(P:Program)(kt:TypeId)(K:Ty):Prop where
 isKey:K.isKey=true
 check:∀(e:Bool) (k:K.den) (w:World),(Instr.checkKey e 10000 kt (aS K k)).run P w = .ok () w
 find:∀(k:K.den) (l:List MapEntry) (ks:List K.den) (w:World),l.map (·.key)=ks.map (aS K) →
  ((Instr.findKey kt (aS K k) l).run P w = .ok none w∧∀x∈l,x.key≠aS K k) ∨
  ∃j e,(Instr.findKey kt (aS K k) l).run P w = .ok (some (j,e.val)) w∧l[j]? = some e∧e.key=aS K k
 stays:∀(k:K.den) (w:World),(Instr.keyThatStays (aS K k) (aS K k)).run P w = .ok (aS K k) w
theorem hH.D6{P:Program}{E:TypeId}{I:TI}(B:aN P E I){K:Ty}(f:Ie I.k=some K):hH P E K:=by
 obtain⟨d,hd,q⟩:=B.hu;refine⟨Fu f,fun e k w=>run_checkKey hd (yt f q k) e 9999,fun k l N w hl=>?_,fun k w=>run_keyThatStays (yt f q k)⟩;have u:=yt (P:=P) f q k;have z:∀x∈l,IsKey d x.key:=fun x J=>by have:x.key∈l.map (·.key):=List.mem_map.2 ⟨x,J,rfl⟩;rw[hl]at this;obtain⟨p,_,L⟩:=List.mem_map.1 this;rw[←L];exact yt f q p
 rcases findNow_spec u l 0 z with⟨C,D⟩ | ⟨j,e,C,D,M⟩
 ·exact .inl ⟨run_findKey hd C,D⟩
 ·exact .inr ⟨j,e,by rw[run_findKey hd C,Nat.zero_add],D,M⟩
def nv(k:IntKind):Ty→Bool
 | .int e=>e == k
 | .unit=>true
 | .prod a b=>nv k a && nv k b
 | .arr e _=>e == k
 | _=>false
theorem nI{k:IntKind}:∀ {K:Ty},nv k K=true→K.isKey=true
 | .int _,_=>rfl
 | .bool,h=>by cases h
 | .str,h=>by cases h
 | .flt,h=>by cases h
 | .unit,_=>rfl
 | .prod _ _,h=>by
  simp only[nv,Bool.and_eq_true]at h;simp only[Ty.isKey,nI h.1,nI h.2,Bool.and_self]
 | .slice _,h=>by cases h
 | .ptr _,h=>by cases h
 | .tree _ _,h=>by cases h
 | .mapi _ _,h=>by cases h
 | .arr _ _,_=>rfl
theorem gJ{k:IntKind}:∀ {K:Ty} (x:K.den),nv k K=true→∃l:QK,l.length=K.size∧cJ K x=l.map (Value.int k)
 | .int e,x,h=>by
  simp only[nv,beq_iff_eq]at h;subst h;exact⟨[x],rfl,rfl⟩
 | .bool,_,h=>by cases h
 | .str,_,h=>by cases h
 | .flt,_,h=>by cases h
 | .unit,_,_=>⟨[],rfl,rfl⟩
 | .prod a b,x,h=>by
  simp only[nv,Bool.and_eq_true]at h;obtain⟨l1,f,j⟩:=gJ x.1 h.1;obtain⟨l2,p,q⟩:=gJ x.2 h.2;exact⟨l1++l2,by simp[f,p,Ty.size],by simp[cJ,j,q]⟩
 | .slice _,_,h=>by cases h
 | .ptr _,_,h=>by cases h
 | .tree _ _,_,h=>by cases h
 | .mapi _ _,_,h=>by cases h
 | .arr e _,x,h=>by
  simp only[nv,beq_iff_eq]at h;subst h;exact⟨x.1,x.2,rfl⟩
section
variable{P:Program}
theorem ny{e:TypeId}{k:IntKind}(q:P.underlying e=some (.int k))(d:Nat)(w:World){l1 l2:QK}:∀(f:QV),(∀i∈f,i<l1.length∧i<l2.length) →
  ∃r:Bool,(Op.eqItems (d+1) e 1 (l1.map (Value.int k)).toArray (l2.map (Value.int k)).toArray f).run P w = .ok r w∧(r=true↔∀i∈f,l1[i]? = l2[i]?)
 | [],_=>⟨true,by simp[Op.eqItems],by simp⟩
 | i::f,h=>by
  obtain⟨u,x⟩:=h i (by simp);obtain⟨r,A,B⟩:=ny q d w f (fun j C=>h j (by simp[C]));have z:P.plainKey e=true:=by simp[Program.plainKey,q]
  have D:=run_part_plain (P:=P) w z (xs:=(l1.map (Value.int k)).toArray) (off:=i*1) (v:= .int k l1[i]) (by simp[u]);have E:=run_part_plain (P:=P) w z (xs:=(l2.map (Value.int k)).toArray) (off:=i*1) (v:= .int k l2[i]) (by simp[x]);simp only[Op.eqItems,Sem.run_bind,D,E,Result.andThen_ok,run_equalIn_int w d e k k _ _ q];by_cases p:l1[i]=l2[i]
  ·refine⟨r,by simpa [p]using A,?_⟩;rw[B];simp[u,x,p]
  ·refine⟨false,by simp[p],?_⟩;simp[u,x,p]
theorem xr{e:TypeId}{k:IntKind}(f:P.underlying e=some (.int k))(n:Nat)(em:Bool)(x:Int)(w:World):(Instr.checkKey em (n+1) e (.int k x)).run P w = .ok () w:=by
 unfold Instr.checkKey;simp only[Sem.run_bind,run_underlying f,Result.andThen];rfl
theorem hH.D4{t e:TypeId}{n:Nat}{k:IntKind}{i:TypeInfo}{K:Ty}(hu:P.underlying t=some (.array n e))(X:P.underlying e=some (.int k))(hi:P.info? e=some i)(hc:P.cellsOf e=1)
  (E:nv k K=true) (O:K.scalar=false) (hn:K.size=n):hH P t K:=by
 have hk:=nI E;have heq:∀(a b:K.den) (w:World),∃r:Bool,(Op.equal t (aS K a) (aS K b)).run P w = .ok r w∧(r=true↔a=b):=fun a b w=>by
  obtain⟨l1,e1,B⟩:=gJ a E;obtain⟨l2,e2,Y⟩:=gJ b E;rw[jy hk O,jy hk O,B,Y];obtain⟨r,Z,V⟩:=ny (P:=P) X 9998 w (l1:=l1) (l2:=l2) (List.range n) (fun i hi=>by simp at hi;omega);refine⟨r,?_,?_⟩
  ·unfold Op.equal Op.maxDepth;rw[show(10000:Nat)=9999+1 from rfl,run_equalIn_array w 9999 _ _ hu hi,hc];exact Z
  ·rw[V];constructor
   ·intro h;have:l1=l2:=List.ext_getElem? fun i=>by
     rcases Nat.lt_or_ge i n with f | f
     ·exact h i (by simpa using f)
     ·rw[List.getElem?_eq_none (by omega),List.getElem?_eq_none (by omega)]
    exact iS hk (by rw[B,Y,this])
   ·rintro rfl j _;have:l1.map (Value.int k)=l2.map (Value.int k):=by rw[←B,←Y]
    have C:=congrArg (fun l=>l[j]?) this;simp only[List.getElem?_map]at C;cases f:l1[j]? <;> cases D:l2[j]? <;> simp[f,D]at C ⊢
    exact C
 refine⟨hk,fun em a w=>?_,fun a l u w hl=>?_,fun a w=>?_⟩
 ·obtain⟨l1,e1,B⟩:=gJ a E;rw[jy hk O,B,show(10000:Nat)=9999+1 from rfl,Instr.checkKey];simp only[Sem.run_bind,run_underlying hu,Result.andThen_ok];simp only[Std.Legacy.Range.forIn_eq_forIn_range',Std.Legacy.Range.size,Nat.sub_zero,Nat.add_one_sub_one,Nat.div_one];have hin:∀j∈List.range' 0 n,j<l1.length:=fun j C=>by simp at C;omega
  generalize List.range' 0 n=is at hin;induction is with
  | nil=>simp
  | cons j is I =>
   have C:=hin j (by simp);have hp:P.plainKey e=true:=by simp[Program.plainKey,X]
   have p1:=run_part_plain (P:=P) w hp (xs:=(l1.map (Value.int k)).toArray) (off:=j*1) (v:= .int k l1[j]) (by simp[C]);simp only[List.forIn_cons,Sem.run_bind,(Go.run_sizeOf w hi:(sizeOf e).run P w=_),hc,Result.andThen_ok,p1,xr X 9998 em,Sem.run_pure];exact I (fun y J=>hin y (by simp[J]))
 ·have L:∀(l:List MapEntry) (u:List K.den) (q:Nat),l.map (·.key)=u.map (aS K) →
    ((Instr.findAsking t (aS K a) l q).run P w = .ok none w∧∀x∈l,x.key≠aS K a) ∨
    ∃j e,(Instr.findAsking t (aS K a) l q).run P w = .ok (some (q+j,e.val)) w∧l[j]? = some e∧e.key=aS K a:=by
   intro l;induction l with
   | nil=>intro u q _;exact .inl ⟨by simp[Instr.findAsking],by simp⟩
   | cons x l I =>
    intro u q h;cases u with
    | nil=>simp at h
    | cons b u =>
     simp only[List.map_cons,List.cons.injEq]at h;obtain⟨r,Z,V⟩:=heq a b w;unfold Instr.findAsking;rw[Sem.run_bind,h.1,Z];simp only[Result.andThen_ok];cases r with
     | true =>
      have:=V.1 rfl;subst this;exact .inr ⟨0,x,by simp,rfl,h.1⟩
     | false =>
      have a1:b≠a:=fun e=>by have:=V.2 e.symm;cases this
      rcases I u (q+1) h.2 with⟨f,D⟩ | ⟨j,y,f,D,h3⟩
      ·refine .inl ⟨by simpa using f,fun y J=>?_⟩;rcases List.mem_cons.1 J with rfl | J
       ·rw[h.1];exact fun e=>a1 (kV hk e)
       ·exact D y J
      ·exact .inr ⟨j+1,y,by simp only[Bool.false_eq_true,if_false];rw[f,show q+1+j=q+(j+1) by omega],D,h3⟩
  cases l with
  | nil=>exact .inl ⟨by simp[Instr.findKey,run_underlying hu,Result.andThen,Instr.findNow],by simp⟩
  | cons x l =>
   have M:Instr.findNow (.array n e) (aS K a) (x::l) 0=none:=by simp[Instr.findNow,Instr.sameNow]
   have N:(Instr.findKey t (aS K a) (x::l)).run P w=(Instr.findAsking t (aS K a) (x::l) 0).run P w:=by simp only[Instr.findKey,Sem.run_bind,run_underlying hu,Result.andThen_ok,M]
   rw[N];rcases L (x::l) u 0 hl with h | ⟨j,y,f,D,h3⟩
   ·exact .inl h
   ·exact .inr ⟨j,y,by rw[f,Nat.zero_add],D,h3⟩
 ·obtain⟨l1,e1,B⟩:=gJ a E;rw[jy hk O,B];have hb:Instr.sameBits 10000 (.agg (l1.map (Value.int k)).toArray) (.agg (l1.map (Value.int k)).toArray)=true:=by
   rw[show(10000:Nat)=9999+1 from rfl,Instr.sameBits];simp only[beq_self_eq_true,Bool.true_and,List.all_eq_true];intro p hp;obtain⟨x,y⟩:=p;have a2:∀(l:QY),(x,y)∈l.zip l→x=y∧x∈l:=by
    intro l;induction l with
    | nil=>simp
    | cons z l I =>
     intro h;simp only[List.zip_cons_cons,List.mem_cons,Prod.mk.injEq]at h;rcases h with⟨rfl,rfl⟩ | h
     ·simp
     ·obtain⟨e,m⟩:=I h;exact⟨e,by simp[m]⟩
   obtain⟨rfl,hx⟩:=a2 _ hp;obtain⟨z,_,rfl⟩:=List.mem_map.1 (by simpa using hx);simp[Instr.sameBits]
  simp[Instr.keyThatStays,hb]
end
def bg{α:Type}(K:Ty):List (K.den×α)→K.den→Option α
 | [],_=>none
 | p::r,k=>if eI K p.1 k then some p.2 else bg K r k
def cO{α:Type}(K:Ty):List (K.den×α)→K.den→α→List (K.den×α)
 | [],k,x=>[(k,x)]
 | p::r,k,x=>if eI K p.1 k then(k,x)::r else p::cO K r k x
section
variable{α:Type}{K:Ty}
theorem nq(f:K.isKey=true){k:K.den}:∀ {j:List (K.den×α)},(∀p∈j,p.1≠k)→bg K j k=none
 | [],_=>rfl
 | p::r,h=>by
  simp only[bg];rw[if_neg (fun e=>h p (by simp) ((fu f).1 e))];exact nq f fun q u=>h q (by simp[u])
theorem nG(f:K.isKey=true){k:K.den}:∀ {u:List (K.den×α)} {j:Nat} {p:K.den×α},(u.map (·.1)).Nodup→u[j]? = some p→p.1=k→bg K u k=some p.2
 | [],j,p,_,h,_=>by simp at h
 | q::r,0,p,_,h,e=>by
  simp at h;subst h;simp only[bg];rw[if_pos ((fu f).2 e)]
 | q::r,j+1,p,hn,h,e=>by
  simp only[List.map_cons,List.nodup_cons]at hn;simp only[bg];have x:p∈r:=List.mem_of_getElem? (by simpa using h);rw[if_neg (fun z=>hn.1 (List.mem_map.2 ⟨p,x,by rw[e];exact((fu f).1 z).symm⟩))];exact nG f hn.2 (by simpa using h) e
theorem xN(j:K.isKey=true){k:K.den}{x:α}:∀ {f:List (K.den×α)},(∀p∈f,p.1≠k)→cO K f k x=f++[(k,x)]
 | [],_=>rfl
 | p::r,h=>by
  simp only[cO];rw[if_neg (fun e=>h p (by simp) ((fu j).1 e)),xN j fun q u=>h q (by simp[u])];rfl
theorem xD(u:K.isKey=true){k:K.den}{x:α}:∀ {f:List (K.den×α)} {j:Nat} {p:K.den×α},(f.map (·.1)).Nodup→f[j]? = some p→p.1=k→cO K f k x=f.set j (k,x)
 | [],j,p,_,h,_=>by simp at h
 | q::r,0,p,_,h,e=>by
  simp at h;subst h;simp only[cO];rw[if_pos ((fu u).2 e)];rfl
 | q::r,j+1,p,hn,h,e=>by
  simp only[List.map_cons,List.nodup_cons]at hn;simp only[cO];have v:p∈r:=List.mem_of_getElem? (by simpa using h);rw[if_neg (fun z=>hn.1 (List.mem_map.2 ⟨p,v,by rw[e];exact((fu u).1 z).symm⟩)),xD u hn.2 (by simpa using h) e];rfl
end
def enc(β:Bool)(T:Ty)(x:T.den):ag:=if T.scalar then .p β T x else .agg (flat β T x)
theorem HY{F:Bool→Addr→Value→Prop}{ρ:Nat→QW}{A:Ty}{x:A.den}{v:Value}(h:MV (F false) A x v):V F ρ (enc false A x) v:=by
 obtain⟨f,j,p,q⟩:=h;unfold enc;split
 ·rename_i e;have z:=fF (p e);simp only[V];refine⟨e,?_⟩;rw[z]at f;refine ah.gD (fun k u hk hu=>?_) f;rw[Ty.fD e]at hk;obtain rfl:k=0:=by omega
  simp at hu;exact hu.symm
 ·rename_i e;obtain⟨B,rfl⟩:=q (by simpa using e);simp only[V];refine⟨B,rfl,by rw[eW,←j];rfl,jB false A x _ (ah.mono (fun _ _ h=>h) (fun k u hk=>by simpa [Value.cells]using hk) f)⟩
def kz(T:Ty)(x:ag):Bool :=
 match x with
 | .agg _=> !T.scalar
 | .lag _ _ _ _=>false
 | _=>T.scalar
section
variable{P:Program}{Bw:Nat→Prop}{w0:cw P}{ρ:Nat→QW}{φ:Nat→Nat→Prop}{h:Nat→Qz}{w:World}{new:Nat}
theorem zw(m:Mem Bw w0 ρ φ h w)(hn:ρ new=none){o:Oper}{a:Act}{t:TypeId}{K A:Ty}(u:K.isKey=true)(x:o.op = .makeMap t none):
  Good P o a w (aF Bw w0 ρ φ h w new (.mp new) [(new,some (.mpo K A []))]):=by
 have f:(Instr.makeMap t none).run P w = .ok (.map (some w.heap.size)) (w.alloc (.map #[] 0)):=rfl;refine Good.aG (v:= .map (some w.heap.size)) (w':=w.alloc (.map #[] 0)) (by simp only[execOp,x,Option.map_none,Sem.run_bind,f,Result.andThen_ok];rfl) ?_;refine cV m none new (.mpo K A []) (.map (some w.heap.size)) none (World.grownBy_alloc w _ none) (fun k e=>by cases e) (.inl hn) (fun _ k hk=>?_) (fun F' p z q=>?_)
  (by rw[bp];rfl) (fun _=>rfl) (fun F' p z q j=>?_)
 ·simp only[dx,Option.some.injEq]at hk;exact .inl (by omega)
 ·exact⟨_,#[],0,rfl,rfl,heap_alloc_new w _,⟨u,List.nodup_nil,fun e B=>by cases B⟩,rfl,List.nodup_nil,fun i hi=>absurd hi (by simp)⟩
 ·simp only[V];exact⟨j,_,rfl⟩
theorem yF{F:Addr→Value→Prop}{t:TypeId}{ti:TI}(ht:aN P t ti){A:Ty}(hT:ti.T=some A){z:Value}(hz:(zeroValue t).run P w = .ok z w)(p:z.cells.toList.map j7=ti.z)(q:z.cells.size=ti.size)
  (u:∀c∈z.cells.toList,c.oneCell'=true):MV F A A.zero z:=by
 obtain⟨x,f,B⟩:=ht.hT A hT;have E:=gE (F:=fun _=>F) (ρ:=jh) z.cells.toList;rw[p]at E;obtain⟨i,j,I,J,_⟩:=ht.hi;have C:j=z:=by simp[zeroValue,typeInfo,I,J]at hz;exact hz
 subst C;have e:=ht.hz;rw[I]at e;simp only[Option.bind_some,J,Option.map_some,Option.some.injEq]at e;refine⟨(cQ B E).1,by rw[q,x],fun D=>?_,fun D=>?_⟩
 ·rw[D]at f;have hk:ti.k.agg=false:=by simpa using f.symm
  rw[hk]at e;have hc:j.cells = #[j]:=by cases j <;> first | rfl | (simp at e)
  exact u j (by rw[hc];simp)
 ·rw[D]at f;have hk:ti.k.agg=true:=by simpa using f.symm
  rw[hk]at e;cases j <;> first | exact⟨_,rfl⟩ | (simp at e)
theorem yC(m:Mem Bw w0 ρ φ h w){id:Nat}{K A:Ty}{j:List (K.den×A.den)}(hi:h id=some (.mpo K A j)){v:Value}(q:V (Fr (own φ h) Bw w) ρ (.mp id) v):
  ∃r f clock,v = .map (some r)∧ρ id=some (.map (some r))∧φ id r∧w.heap[r]? = some (.map f clock)∧(K.isKey=true∧w8 f clock)∧f.toList.map (·.key)=j.map (fun p=>aS K p.1)∧(j.map (·.1)).Nodup ∧
   ∀i (h':i<j.length),∃e:MapEntry,f[i]? = some e∧MV (Fr (own φ h) Bw w false) A j[i].2 e.val:=by
 obtain⟨u,z,r,f,clock,rfl,B⟩:=m.ob id _ hi;simp only[V]at q;rw[q.1]at z;cases z;exact⟨r,f,clock,rfl,q.1,B⟩
theorem sd{q:Array MapEntry}{K:Ty}{α:Type}{u:List (K.den×α)}(hk:q.toList.map (·.key)=u.map (fun p=>aS K p.1)){j:Nat}{e:MapEntry}(A:q.toList[j]? = some e):
  ∃p,u[j]? = some p∧e.key=aS K p.1:=by
 have f:(q.toList.map (·.key))[j]? = some e.key:=by rw[List.getElem?_map,A];rfl
 rw[hk,List.getElem?_map]at f;cases z:u[j]? with
 | none=>rw[z]at f;cases f
 | some p=>rw[z]at f;simp at f;exact⟨p,rfl,f.symm⟩
theorem AD(m:Mem Bw w0 ρ φ h w){o:Oper}{a:Act}{t kt et:TypeId}{ti te:TI}(ht:aN P t ti)(hk:ti.k = .mp kt et){K:Ty}(B:hH P kt K)(C:aN P et te){A:Ty}(hT:te.T=some A)
  {xo ko:Operand} {f:Bool} (ho:o.op = .lookup t xo ko f) {id:Nat} {u:List (K.den×A.den)} (hi:h id=some (.mpo K A u)) (hx:V (Fr (own φ h) Bw w) ρ (.mp id) (a.eval xo)) {k:K.den} (e2:a.eval ko=aS K k) :
  Good P o a w (aF Bw w0 ρ φ h w new (if f then .tup [enc false A ((bg K u k).getD A.zero),.p false .bool (bg K u k).isSome]else enc false A ((bg K u k).getD A.zero)) []):=by
 obtain⟨r,X,clock,e1,_,_,hb,⟨hK,_⟩,q,a1,D⟩:=yC m hi hx;obtain⟨dm,hm,E⟩:=ht.hu;rw[hk]at E;simp only[UK]at E;subst E;have a2:X.toList.map (·.key)=(u.map (·.1)).map (aS K):=by rw[q,List.map_map];rfl
 obtain⟨z,hz,a3,a4,a5⟩:=dX C w;obtain⟨ac,ad,ax⟩:=C.hT A hT;have N:∀(v:Value) (x:A.den) (b:Bool),MV (Fr (own φ h) Bw w false) A x v→V (Fr (own φ h) Bw w) ρ (if f then .tup [enc false A x,.p false .bool b]else enc false A x) (if f then .tuple #[v,.bool b]else v):=fun v x b hv=>by
  cases f
  ·exact HY hv
  ·simp only[if_true,V,VL];refine⟨_,rfl,rfl,⟨v,by simp,HY hv⟩,⟨.bool b,by simp,?_⟩,trivial⟩;simp only[V,ah];exact⟨rfl,trivial⟩
 rcases B.find k X.toList (u.map (·.1)) w a2 with⟨h1,Y⟩ | ⟨j,e,h1,Y,h3⟩
 ·have I:bg K u k=none:=nq hK fun p L e=>by
   obtain⟨j,Z⟩:=List.mem_iff_getElem?.1 L;have M:(u.map (fun p=>aS K p.1))[j]? = some (aS K p.1):=by rw[List.getElem?_map,Z];rfl
   rw[←q,List.getElem?_map]at M;cases hq:X.toList[j]? with
   | none=>rw[hq]at M;cases M
   | some x =>rw[hq]at M;simp at M;exact Y x (List.mem_of_getElem? hq) (by rw[M,e])
  rw[I];have a6:MV (Fr (own φ h) Bw w false) A A.zero z:=yF C hT hz a3 a4 a5;refine Good.aG (v:=if f then .tuple #[z,.bool false]else z) (w':=w) ?_ (aF.pure m (N z _ false a6));simp only[execOp,ho];rw[e1,e2];cases f <;> simp[Instr.lookup,run_underlying hm,Go.MapKept.run_getObj_map hb,B.check,h1,hz,Result.andThen]
 ·obtain⟨p,L,a7⟩:=sd q Y;have a8:p.1=k:=kV hK (by rw[←a7,h3]);have J:=nG (α:=A.den) hK a1 L a8;rw[J];have Z:j<u.length:=(List.getElem?_eq_some_iff.1 L).1;obtain⟨O,q1,q2⟩:=D j Z;have a9:O=e:=by
   have:X.toList[j]? = some O:=by simpa using q1
   rw[Y]at this;cases this;rfl
  subst a9;have aa:u[j]=p:=by rw[List.getElem?_eq_getElem Z]at L;simpa using L
  rw[aa]at q2;refine Good.aG (v:=if f then .tuple #[O.val,.bool true]else O.val) (w':=w) ?_ (aF.pure m (N O.val _ true q2));simp only[execOp,ho];rw[e1,e2];cases f <;> simp[Instr.lookup,run_underlying hm,Go.MapKept.run_getObj_map hb,B.check,h1,Result.andThen]
theorem iH(w:World)(r:Nat)(o:Go.Obj):w.grownBy { w with heap:=w.heap.setIfInBounds r o } (some r):=by
 refine⟨rfl,rfl,rfl,by simp,fun k hk f=>?_⟩;have:r≠k:=fun e=>f (by rw[e])
 simp[Array.getElem?_setIfInBounds_ne this]
theorem w8.push{j:Array MapEntry}{c:Nat}(h:w8 j c)(k v:Value):w8 (j.push { key:=k,val:=v,born:=c }) (c+1):=by
 refine⟨?_,fun e f=>?_⟩
 ·simp only[Array.toList_push,List.map_append,List.map_cons,List.map_nil];refine List.nodup_append.2 ⟨h.1,by simp,fun a ha b hb e=>?_⟩;simp only[List.mem_singleton]at hb;obtain⟨p,q,rfl⟩:=List.mem_map.1 ha;have:=h.2 p q;omega
 ·simp only[Array.toList_push,List.mem_append,List.mem_singleton]at f;rcases f with f | rfl
  ·exact Nat.lt_succ_of_lt (h.2 e f)
  ·exact Nat.lt_succ_self _
theorem w8.modify{p:Array MapEntry}{c:Nat}(h:w8 p c)(j:Nat)(f:MapEntry→MapEntry)(u:∀e,(f e).born=e.born):w8 (p.modify j f) c:=by
 have q:(p.modify j f).toList.map (·.born)=p.toList.map (·.born):=by
  refine List.ext_getElem? fun i=>?_
  simp only[List.getElem?_map,Array.getElem?_toList,Array.getElem?_modify];split
  ·cases p[i]? <;> simp[u]
  ·rfl
 refine⟨by rw[q];exact h.1,fun e v=>?_⟩;have:e.born∈(p.modify j f).toList.map (·.born):=List.mem_map_of_mem v;rw[q]at this;obtain⟨z,A,B⟩:=List.mem_map.1 this;rw[←B];exact h.2 z A
theorem lI(m:Mem Bw w0 ρ φ h w){o:Oper}{a:Act}{t kt et:TypeId}{ti:TI}(ht:aN P t ti)(hk:ti.k = .mp kt et){K:Ty}(J:hH P kt K){A:Ty}
  {xo ko N:Operand} (O:o.op = .mapUpdate t xo ko N∨o.op = .insert t xo ko N) {id:Nat} {z:List (K.den×A.den)} {us:gZ} (_:h id=some (.mpo K A z)) (hi:apply us h id=some (.mpo K A z)) (hx:V (Fr (own φ h) Bw w) ρ (.mp id) (a.eval xo)) {k:K.den} (e2:a.eval ko=aS K k)
  {y:ag} (hy:V (Fr (own φ h) Bw w) ρ y (a.eval N)) (hc:(cellsOf y).all ag.cell=true) (hs:kz A y=true) {x:A.den} (hz:Fa A h y=some (x,us)) :
  Good P o a w (aF Bw w0 ρ φ h w new .unk (us++[(id,some (.mpo K A (cO K z k x)))])):=by
 obtain⟨m',a6,b3⟩:=mI m hz;obtain⟨r,X,clock,e1,Y,a7,hb,⟨hK,hB⟩,q,Z,C⟩:=yC m' hi (V.mono a6 (fun _ _ h=>h) hx);obtain⟨dm,hm,a1⟩:=ht.hu;rw[hk]at a1;simp only[UK]at a1;subst a1;have b4:X.toList.map (·.key)=(z.map (·.1)).map (aS K):=by rw[q,List.map_map];rfl
 obtain⟨r1,r2,r3⟩:=fW hc hy;obtain⟨s1,s2⟩:=b3 _ r1;have a8:MV (Fr (own φ (apply us h)) Bw w false) A x (a.eval N):=by
  refine⟨s1,by rw[s2,←r2];simp,fun a2=>?_,fun a2=>?_⟩
  ·have a3:cellsOf y=[y]:=by cases y <;> first | rfl | (simp[kz,a2]at hs)
   rw[a3]at hc;simp only[List.all_cons,List.all_nil,Bool.and_true]at hc;exact qV hc hy
  ·cases y with
   | agg cs =>
    simp only[V]at hy;obtain⟨vs,e,_⟩:=hy;exact⟨vs,e⟩
   | _=>simp[kz,a2]at hs
 have a9:X.size=z.length:=by have:=congrArg List.length q;simpa using this
 have aa:∀(B:Array MapEntry) (f:Nat),(execOp a.eval o).run P w = .ok .skip { w with heap:=w.heap.setIfInBounds r (.map B f) }→w8 B f→B.toList.map (·.key)=(cO K z k x).map (fun p=>aS K p.1) →
   ((cO K z k x).map (·.1)).Nodup→(∀i (h':i<(cO K z k x).length),∃e:MapEntry,B[i]? = some e∧MV (Fr (own φ (apply us h)) Bw w false) A (cO K z k x)[i].2 e.val) →
   Good P o a w (aF Bw w0 ρ φ h w new .unk (us++[(id,some (.mpo K A (cO K z k x)))])):=fun B f ac q0 q1 q2 q3=>by
  refine Good.jD ac ?_;refine aF.after (u1:=us) rfl a6 ?_;refine dY m' (some id) id (.mpo K A (cO K z k x)) (.map (some r)) (φ id) (some r) (iH w r _) (fun k e=>⟨id,_,rfl,hi,rfl,by cases e;exact a7⟩) (.inr ⟨rfl,Y⟩)
   (fun _ k hk=>Nat.lt_of_lt_of_le (m'.lt id _ k hi rfl hk) (iH w r (.map B f)).size) (fun _ k hk=> .inr ⟨id,_,rfl,hi,rfl,hk⟩) (fun F' b5 hF b7=>?_) (by rw[bm];rfl) (fun e=>by rw[Y]at e;cases e) (fun F' b5 hF Y b8=>by simp only[V])
  exact⟨r,B,f,rfl,a7,(heap_set hb).1,⟨hK,q0⟩,q1,q2,fun i hi=>let ⟨e,t1,t2,t3⟩:=q3 i hi;⟨e,t1,ah.mono (hF _) (fun _ _ h=>h) t2,t3⟩⟩
 rcases J.find k X.toList (z.map (·.1)) w b4 with⟨h1,h2⟩ | ⟨j,e,h1,h2,h3⟩
 ·have ad:∀p∈z,p.1≠k:=fun p E e=>by
   obtain⟨j,hj⟩:=List.mem_iff_getElem?.1 E;have I:(z.map (fun p=>aS K p.1))[j]? = some (aS K p.1):=by rw[List.getElem?_map,hj];rfl
   rw[←q,List.getElem?_map]at I;cases hq:X.toList[j]? with
   | none=>rw[hq]at I;cases I
   | some x =>rw[hq]at I;simp at I;exact h2 x (List.mem_of_getElem? hq) (by rw[I,e])
  have u:=xN (x:=x) hK ad;refine aa (X.push { key:=aS K k,val:=a.eval N,born:=clock }) (clock+1) ?_ (hB.push _ _) ?_ ?_ ?_
  ·rcases O with O | O <;>
   ·simp only[execOp,O];rw[e1,e2];simp[Instr.mapUpdate,run_underlying hm,Go.MapKept.run_getObj_map hb,J.check,h1,run_setObj_map _ hb,Result.andThen]
  ·rw[u];simp[q]
  ·rw[u];simp only[List.map_append,List.map_cons,List.map_nil];refine List.nodup_append.2 ⟨Z,by simp,fun a ha b hb e=>?_⟩;simp only[List.mem_singleton]at hb;obtain⟨p,E,rfl⟩:=List.mem_map.1 ha;exact ad p E (by rw[e,hb])
  ·rw[u];intro i L;simp only[List.length_append,List.length_cons,List.length_nil]at L;rcases Nat.lt_or_ge i z.length with I | I
   ·obtain⟨M,t1,t2⟩:=C i I;exact⟨M,by rw[Array.getElem?_push,if_neg (by omega)];exact t1,by rw[List.getElem_append_left I];exact t2⟩
   ·obtain rfl:i=z.length:=by omega
    exact⟨_,by rw[Array.getElem?_push,if_pos a9.symm],by simpa using a8⟩
 ·obtain⟨p,E,b6⟩:=sd q h2;have a4:p.1=k:=kV hK (by rw[←b6,h3]);have u:=xD (x:=x) hK Z E a4;have hj:X[j]? = some e:=by simpa using h2
  have ax:j<z.length:=(List.getElem?_eq_some_iff.1 E).1;have a5:∀M,X[j]? = some M→({ M with key:=aS K k,val:=a.eval N }:MapEntry).key=M.key:=fun M b1=>by rw[hj]at b1;cases b1;exact h3.symm
  have b2:(z.set j (k,x)).map (·.1)=z.map (·.1):=by
   rw[List.map_set];simp only;refine List.ext_getElem? fun i=>?_
   rw[List.getElem?_set];split
   ·rename_i D;subst D;simp[ax,E,a4];rw[List.getElem?_eq_getElem ax]at E;simp at E;rw[E,a4]
   ·rfl
  refine aa (X.modify j fun e=> { e with key:=aS K k,val:=a.eval N }) clock ?_ (hB.modify j _ fun _=>rfl) ?_ ?_ ?_
  ·rcases O with O | O <;>
   ·simp only[execOp,O];rw[e1,e2];simp[Instr.mapUpdate,run_underlying hm,Go.MapKept.run_getObj_map hb,J.check,h1,hj,h3,J.stays,run_setObj_map _ hb,Result.andThen]
  ·rw[modify_keys j _ a5,u,q];have:(z.set j (k,x)).map (fun p=>aS K p.1)=((z.set j (k,x)).map (·.1)).map (aS K):=by rw[List.map_map];rfl
   rw[this,b2,List.map_map];rfl
  ·rw[u,b2];exact Z
  ·rw[u];intro i L;simp only[List.length_set]at L;obtain⟨M,t1,t2⟩:=C i L;by_cases D:j=i
   ·subst D;refine⟨{ M with key:=aS K k,val:=a.eval N },by rw[Array.getElem?_modify,if_pos rfl,t1];rfl,by simpa using a8⟩
   ·refine⟨M,by rw[Array.getElem?_modify,if_neg D];exact t1,?_⟩;rw[List.getElem_set_ne D];exact t2
theorem wM(m:Mem Bw w0 ρ φ h w)(hn:ρ new=none){o:Oper}{a:Act}{t:TypeId}{K:Ty}(u:K.isKey=true)(x:o.op = .makeMap t none):
  Good P o a w (aF Bw w0 ρ φ h w new (.mp new) [(new,some (.mpl K []))]):=by
 have f:(Instr.makeMap t none).run P w = .ok (.map (some w.heap.size)) (w.alloc (.map #[] 0)):=rfl;refine Good.aG (v:= .map (some w.heap.size)) (w':=w.alloc (.map #[] 0)) (by simp only[execOp,x,Option.map_none,Sem.run_bind,f,Result.andThen_ok];rfl) ?_;refine cV m none new (.mpl K []) (.map (some w.heap.size)) none (World.grownBy_alloc w _ none) (fun k e=>by cases e) (.inl hn) (fun _ k hk=>?_) (fun F' p z q=>?_)
  (by rw[bp];rfl) (fun _=>rfl) (fun F' p z q j=>?_)
 ·simp only[dx,Option.some.injEq]at hk;exact .inl (by omega)
 ·exact⟨_,#[],0,rfl,rfl,heap_alloc_new w _,u,rfl,List.nodup_nil,fun i hi=>absurd hi (by simp)⟩
 ·simp only[V];exact⟨j,_,rfl⟩
theorem Dd(m:Mem Bw w0 ρ φ h w){id:Nat}{K:Ty}{f:List (K.den×Value)}(hi:h id=some (.mpl K f)){v:Value}(q:V (Fr (own φ h) Bw w) ρ (.mp id) v):
  ∃r j clock,v = .map (some r)∧ρ id=some (.map (some r))∧φ id r∧w.heap[r]? = some (.map j clock)∧K.isKey=true∧j.toList.map (·.key)=f.map (fun p=>aS K p.1)∧(f.map (·.1)).Nodup ∧
   ∀i (h':i<f.length),∃e:MapEntry,j[i]? = some e∧e.val=f[i].2:=by
 obtain⟨u,x,r,j,clock,rfl,z⟩:=m.ob id _ hi;simp only[V]at q;rw[q.1]at x;cases x;exact⟨r,j,clock,rfl,q.1,z⟩
def rO{α:Type}(K:Ty):List (K.den×α)→K.den→Nat→Prop
 | [],_,_=>True
 | p::_,k,0=>eI K p.1 k=true
 | p::r,k,j+1=>eI K p.1 k=false∧rO K r k j
theorem we{α:Type}{K:Ty}{k:K.den}:∀ {e:List (K.den×α)} {j:Nat},rO K e k j→bg K e k=(e[j]?).map (·.2)
 | [],j,_=>by simp[bg]
 | p::r,0,h=>by
  simp only[rO]at h;simp[bg,h]
 | p::r,j+1,h=>by
  simp only[rO]at h;simp only[bg,h.1,Bool.false_eq_true,if_false,List.getElem?_cons_succ];exact we h.2
def J5:Value→ag
 | .agg e=> .agg (e.toList.map .lit)
 | v=> .lit v
theorem Da{F:Bool→Addr→Value→Prop}{ρ:Nat→QW}:∀ {l:QY} {g:Nat→Value→Prop},(∀k v,l[k]? = some v→g k v)→VL F ρ (l.map .lit) g
 | [],_,_=>trivial
 | v::l,g,h=>by
  simp only[List.map_cons,VL,V];exact⟨⟨v,h 0 v rfl,rfl⟩,Da fun k u hk=>h (k+1) u hk⟩
theorem J0{F:Bool→Addr→Value→Prop}{ρ:Nat→QW}(v:Value):V F ρ (J5 v) v:=by
 unfold J5;split
 ·simp only[V];exact⟨_,rfl,by simp,Da fun k u hk=>by simpa using hk⟩
 ·simp only[V]
def zV(e:TI):ag:=if e.k.agg=true then .agg e.z else .unk
theorem K6{F:Bool→Addr→Value→Prop}{ρ:Nat→QW}{t:TypeId}{ti:TI}(ht:aN P t ti){w:World}{z:Value}(hz:(zeroValue t).run P w = .ok z w)(f:z.cells.toList.map j7=ti.z)(A:z.cells.size=ti.size):V F ρ (zV ti) z:=by
 unfold zV;split
 ·rename_i hk;obtain⟨i,p,q,u,_⟩:=ht.hi;have j:p=z:=by simp[zeroValue,typeInfo,q,u]at hz;exact hz
  subst j;have e:=ht.hz;rw[q]at e;simp only[Option.bind_some,u,Option.map_some,Option.some.injEq]at e;rw[hk]at e;cases p with
  | agg x =>
   simp only[V];have B:=gE (F:=F) (ρ:=ρ) x.toList;refine⟨x,rfl,?_,?_⟩
   ·rw[←f];simp[Value.cells]
   ·rw[←f];simpa [Value.cells]using B
  | _=>cases e
 ·trivial
def DX(z:ag)(o:QW):ag :=
 match o with
 | some v=> .tup [J5 v,.p false .bool true]
 | none=> .tup [z,.p false .bool false]
theorem yP(m:Mem Bw w0 ρ φ h w){o:Oper}{a:Act}{t kt et:TypeId}{ti te:TI}(ht:aN P t ti)(hk:ti.k = .mp kt et){K:Ty}(u:hH P kt K)(L:aN P et te)
  {xo ko:Operand} (ho:o.op = .lookup t xo ko true) {id:Nat} {q:List (K.den×Value)} (hi:h id=some (.mpl K q)) (hx:V (Fr (own φ h) Bw w) ρ (.mp id) (a.eval xo)) {k:K.den} (e2:a.eval ko=aS K k) :
  Good P o a w (aF Bw w0 ρ φ h w new (DX (zV te) (bg K q k)) []):=by
 obtain⟨r,M,clock,e1,_,_,hb,Y,f,Z,B⟩:=Dd m hi hx;obtain⟨dm,hm,C⟩:=ht.hu;rw[hk]at C;simp only[UK]at C;subst C;have a1:M.toList.map (·.key)=(q.map (·.1)).map (aS K):=by rw[f,List.map_map];rfl
 obtain⟨z,hz,a2,a3,_⟩:=dX L w;have a4:=K6 (F:=Fr (own φ h) Bw w) (ρ:=ρ) L hz a2 a3;rcases u.find k M.toList (q.map (·.1)) w a1 with⟨h1,N⟩ | ⟨j,e,h1,N,h3⟩
 ·have D:bg K q k=none:=nq Y fun p I e=>by
   obtain⟨j,O⟩:=List.mem_iff_getElem?.1 I;have J:(q.map (fun p=>aS K p.1))[j]? = some (aS K p.1):=by rw[List.getElem?_map,O];rfl
   rw[←f,List.getElem?_map]at J;cases hq:M.toList[j]? with
   | none=>rw[hq]at J;cases J
   | some x =>rw[hq]at J;simp at J;exact N x (List.mem_of_getElem? hq) (by rw[J,e])
  rw[D];refine Good.aG (v:= .tuple #[z,.bool false]) (w':=w) ?_ (aF.pure m ?_)
  ·simp only[execOp,ho];rw[e1,e2];simp[Instr.lookup,run_underlying hm,Go.MapKept.run_getObj_map hb,u.check,h1,hz,Result.andThen]
  ·simp only[DX,V,VL];exact⟨_,rfl,rfl,⟨z,by simp,a4⟩,⟨.bool false,by simp,by simp only[ah];exact⟨rfl,trivial⟩⟩,trivial⟩
 ·obtain⟨p,I,a5⟩:=sd f N;have a6:p.1=k:=kV Y (by rw[←a5,h3]);have E:=nG (α:=Value) Y Z I a6;rw[E];have O:j<q.length:=(List.getElem?_eq_some_iff.1 I).1;obtain⟨X,q1,q2⟩:=B j O;have a7:X=e:=by
   have:M.toList[j]? = some X:=by simpa using q1
   rw[N]at this;cases this;rfl
  subst a7;have a8:q[j]=p:=by rw[List.getElem?_eq_getElem O]at I;simpa using I
  rw[a8]at q2;refine Good.aG (v:= .tuple #[X.val,.bool true]) (w':=w) ?_ (aF.pure m ?_)
  ·simp only[execOp,ho];rw[e1,e2];simp[Instr.lookup,run_underlying hm,Go.MapKept.run_getObj_map hb,u.check,h1,Result.andThen]
  ·simp only[DX,V,VL];exact⟨_,rfl,rfl,⟨X.val,by simp,by rw[q2];exact J0 _⟩,⟨.bool true,by simp,by simp only[ah];exact⟨rfl,trivial⟩⟩,trivial⟩
theorem nW(m:Mem Bw w0 ρ φ h w){o:Oper}{a:Act}{t N et:TypeId}{ti:TI}(ht:aN P t ti)(hk:ti.k = .mp N et){K:Ty}(C:hH P N K)
  {O X L:Operand} (M:o.op = .mapUpdate t O X L∨o.op = .insert t O X L) {id:Nat} {q:List (K.den×Value)} (hi:h id=some (.mpl K q)) (hx:V (Fr (own φ h) Bw w) ρ (.mp id) (a.eval O)) {k:K.den} (e2:a.eval X=aS K k) {x:Value} (e3:a.eval L=x)
  (D:∀p∈q,p.1≠k) :
  Good P o a w (aF Bw w0 ρ φ h w new .unk [(id,some (.mpl K (q++[(k,x)])))]):=by
 obtain⟨r,E,clock,e1,u,I,hb,hK,f,Y,z⟩:=Dd m hi hx;obtain⟨dm,hm,B⟩:=ht.hu;rw[hk]at B;simp only[UK]at B;subst B;have Z:E.toList.map (·.key)=(q.map (·.1)).map (aS K):=by rw[f,List.map_map];rfl
 have J:E.size=q.length:=by have:=congrArg List.length f;simpa using this
 have h1:(Instr.findKey N (aS K k) E.toList).run P w = .ok none w:=by
  rcases C.find k E.toList (q.map (·.1)) w Z with⟨h1,_⟩ | ⟨j,e,_,h2,h3⟩
  ·exact h1
  ·obtain⟨p,hp,a1⟩:=sd f h2;exact absurd (kV hK (by rw[←a1,h3])) (D p (List.mem_of_getElem? hp))
 refine Good.jD (w':= { w with heap:=w.heap.setIfInBounds r (.map (E.push { key:=aS K k,val:=a.eval L,born:=clock }) (clock+1)) }) ?_ ?_
 ·rcases M with M | M <;>
  ·simp only[execOp,M];rw[e1,e2];simp[Instr.mapUpdate,run_underlying hm,Go.MapKept.run_getObj_map hb,C.check,h1,run_setObj_map _ hb,Result.andThen]
 ·refine dY m (some id) id (.mpl K (q++[(k,x)])) (.map (some r)) (φ id) (some r) (iH w r _) (fun k e=>⟨id,_,rfl,hi,rfl,by cases e;exact I⟩) (.inr ⟨rfl,u⟩)
   (fun _ k hk=>Nat.lt_of_lt_of_le (m.lt id _ k hi rfl hk) (iH w r _).size) (fun _ k hk=> .inr ⟨id,_,rfl,hi,rfl,hk⟩) (fun F' a2 hF a4=>?_) (by rw[bm];rfl) (fun e=>by rw[u]at e;cases e) (fun F' a2 hF u a5=>by simp only[V])
  refine⟨r,_,_,rfl,I,(heap_set hb).1,hK,?_,?_,fun i a3=>?_⟩
  ·simp[f]
  ·simp only[List.map_append,List.map_cons,List.map_nil];refine List.nodup_append.2 ⟨Y,by simp,fun a ha b hb e=>?_⟩;simp only[List.mem_singleton]at hb;obtain⟨p,hp,rfl⟩:=List.mem_map.1 ha;exact D p hp (by rw[e,hb])
  ·simp only[List.length_append,List.length_cons,List.length_nil]at a3;rcases Nat.lt_or_ge i q.length with h4 | h4
   ·obtain⟨e',t1,t2⟩:=z i h4;exact⟨e',by rw[Array.getElem?_push,if_neg (by omega)];exact t1,by rw[List.getElem_append_left h4];exact t2⟩
   ·obtain rfl:i=q.length:=by omega
    exact⟨_,by rw[Array.getElem?_push,if_pos J.symm],by simpa using e3⟩
theorem yQ(m:Mem Bw w0 ρ φ h w){o:Oper}{a:Act}{t z B:TypeId}{ti:TI}(ht:aN P t ti)(hk:ti.k = .mp z B){x:Operand}{id:Nat}{K A:Ty}{q:List (K.den×A.den)}(hi:h id=some (.mpo K A q))(C:V (Fr (own φ h) Bw w) ρ (.mp id) (a.eval x))
  (D:o.op = .call { callee:= .builtin .len,args:= #[x],argTypes:= #[t] }):Good P o a w (aF Bw w0 ρ φ h w new (.p false (.int .i64) (q.length:Int)) []):=by
 obtain⟨r,E,clock,I,J,L,hb,O,e,M,u⟩:=yC m hi C;obtain⟨X,N,f⟩:=ht.hu;rw[hk]at f;simp only[UK]at f;subst f;have j:E.size=q.length:=by have:=congrArg List.length e;simpa using this
 refine Good.aG (v:= .int .i64 (q.length:Int)) (w':=w) ?_ (aF.pure m (dH _ _ _));simp only[execOp,D,resolve,invoke,builtin,Sem.run_bind,Sem.run_pure,Result.andThen_ok,List.map_toArray,List.map_cons,List.map_nil,I];simp[Builtin.len_,run_underlying N,Go.MapKept.run_getObj_map hb,goInt,j,Result.andThen]
theorem Ga(m:Mem Bw w0 ρ φ h w){o:Oper}{a:Act}{x z:Operand}{q:Array TypeId}{β u:Bool}{k:IntKind}{i j:Int}(B:V (Fr (own φ h) Bw w) ρ (.p β (.int k) i) (a.eval x))(C:V (Fr (own φ h) Bw w) ρ (.p u (.int k) j) (a.eval z))
  (D:o.op = .call { callee:= .builtin .min,args:= #[x,z],argTypes:=q }):Good P o a w (aF Bw w0 ρ φ h w new (.p false (.int k) (min i j)) []):=by
 refine Good.aG (v:= .int k (min i j)) (w':=w) ?_ (aF.pure m (dH _ _ _));have e:(if j<i then j else i)=min i j:=by
  by_cases f:j<i
  ·rw[if_pos f];omega
  ·rw[if_neg f];omega
 simp only[execOp,D,resolve,invoke,builtin,Sem.run_bind,Sem.run_pure,Result.andThen_ok,List.map_toArray,List.map_cons,List.map_nil,bX B,bX C];simp[Builtin.min_,Builtin.min2,e]
theorem Fl(m:Mem Bw w0 ρ φ h w){o:Oper}{a:Act}{x z:Operand}{q:Array TypeId}{β u:Bool}{k:IntKind}{i j:Int}(B:V (Fr (own φ h) Bw w) ρ (.p β (.int k) i) (a.eval x))(C:V (Fr (own φ h) Bw w) ρ (.p u (.int k) j) (a.eval z))
  (D:o.op = .call { callee:= .builtin .max,args:= #[x,z],argTypes:=q }):Good P o a w (aF Bw w0 ρ φ h w new (.p false (.int k) (max i j)) []):=by
 refine Good.aG (v:= .int k (max i j)) (w':=w) ?_ (aF.pure m (dH _ _ _));have e:(if j > i then j else i)=max i j:=by
  by_cases f:j > i
  ·rw[if_pos f];omega
  ·rw[if_neg f];omega
 simp only[execOp,D,resolve,invoke,builtin,Sem.run_bind,Sem.run_pure,Result.andThen_ok,List.map_toArray,List.map_cons,List.map_nil,bX B,bX C];simp[Builtin.max_,Builtin.max2,e]
end
end Go.Tv
