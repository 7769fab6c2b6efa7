/- Maps. -/
import Derived.Test.YtbedjpdfkmfplaaGreatDoorTvKb
import Derived.MapKept
import Derived.ChangeKeysEq
namespace Go.Tv
open Go Go.RowKit
open Go.MapKept (IsKey findNow_spec run_checkKey run_findKey run_setObj_map heap_set run_keyThatStays modify_keys)
def eY:(K:Ty)→K.den→K.den→Bool
 | .int _,a,b=> @BEq.beq Int _ a b
 | .bool,a,b=> @BEq.beq Bool _ a b
 | .str,a,b=> @BEq.beq (List UInt8) _ a b
 | .unit,_,_=>true
 | .prod A B,a,b=>eY A a.1 b.1 && eY B a.2 b.2
 | .arr _ _,a,b=>aeq a b
 | _,_,_=>false
theorem gA:∀ {K:Ty} {a b:K.den},K.isKey=true→(eY K a b=true↔a=b)
 | .int _,a,b,_=>by
  show(@BEq.beq Int _ a b)=true↔a=b
  exact beq_iff_eq
 | .bool,a,b,_=>by
  show(@BEq.beq Bool _ a b)=true↔a=b
  exact beq_iff_eq
 | .str,a,b,_=>by
  show(@BEq.beq (List UInt8) _ a b)=true↔a=b
  exact beq_iff_eq
 | .flt,_,_,h=>by cases h
 | .unit,_,_,_=>⟨fun _=>rfl,fun _=>rfl⟩
 | .prod A B,a,b,h=>by
  simp only[Ty.isKey,Bool.and_eq_true]at h
  simp only[eY,Bool.and_eq_true,gA h.1,gA h.2]
  exact⟨fun e=>Prod.ext e.1 e.2,fun e=>by rw[e];exact⟨rfl,rfl⟩⟩
 | .slice _,_,_,h=>by cases h
 | .ptr _,_,_,h=>by cases h
 | .tree _ _,_,_,h=>by cases h
 | .mapi _ _,_,_,h=>by cases h
 | .arr _ _,a,b,_=>by
  show(a.1 == b.1)=true↔a=b
  rw[beq_iff_eq]
  exact⟨Subtype.ext,fun e=>by rw[e]⟩
theorem dS:∀ {K:Ty} {a:K.den},K.isKey=true→(dF K a).length=K.size
 | .int _,_,_=>rfl
 | .bool,_,_=>rfl
 | .str,_,_=>rfl
 | .flt,_,h=>by cases h
 | .unit,_,_=>rfl
 | .prod A B,a,h=>by
  simp only[Ty.isKey,Bool.and_eq_true]at h
  simp only[dF,Ty.size,List.length_append,dS h.1,dS h.2]
 | .slice _,_,h=>by cases h
 | .ptr _,_,h=>by cases h
 | .tree _ _,_,h=>by cases h
 | .mapi _ _,_,h=>by cases h
 | .arr _ _,a,_=>by simp[dF,Ty.size,a.2]
theorem jV:∀ {K:Ty} {a b:K.den},K.isKey=true→dF K a=dF K b→a=b
 | .int _,a,b,_,h=>by simpa [dF]using h
 | .bool,a,b,_,h=>by simpa [dF]using h
 | .str,a,b,_,h=>by simpa [dF]using h
 | .flt,_,_,h,_=>by cases h
 | .unit,_,_,_,_=>rfl
 | .prod A B,a,b,h,e=>by
  simp only[Ty.isKey,Bool.and_eq_true]at h
  simp only[dF]at e
  obtain⟨e1,e2⟩:=List.append_inj e (by rw[dS h.1,dS h.1])
  exact Prod.ext (jV h.1 e1) (jV h.2 e2)
 | .slice _,_,_,h,_=>by cases h
 | .ptr _,_,_,h,_=>by cases h
 | .tree _ _,_,_,h,_=>by cases h
 | .mapi _ _,_,_,h,_=>by cases h
 | .arr k _,a,b,_,e=>by
  simp only[dF]at e
  exact Subtype.ext (List.map_inj_right (fun x y h=>by simpa using h) |>.1 e)
theorem gI:∀ {K:Ty} {a b:K.den},K.isKey=true→aZ K a=aZ K b→a=b
 | .int _,a,b,_,h=>by simpa [aZ]using h
 | .bool,a,b,_,h=>by simpa [aZ]using h
 | .str,a,b,_,h=>by simpa [aZ]using h
 | .flt,_,_,h,_=>by cases h
 | .unit,_,_,_,_=>rfl
 | .prod A B,a,b,h,e=>by
  simp only[aZ,Value.agg.injEq]at e
  exact jV h (List.toArray_inj e)
 | .slice _,_,_,h,_=>by cases h
 | .ptr _,_,_,h,_=>by cases h
 | .tree _ _,_,_,h,_=>by cases h
 | .mapi _ _,_,_,h,_=>by cases h
 | .arr _ _,a,b,h,e=>by
  simp only[aZ,Value.agg.injEq]at e
  exact jV h (List.toArray_inj e)
def aIO:TK→Option Ty
 | .int k=>some (.int k)
 | .bool=>some .bool
 | .str=>some .str
 | _=>none
theorem aHr{k:TK}{K:Ty}(h:aIO k=some K):K.isKey=true:=by cases k <;> cases h <;> rfl
theorem aBG{P:Program}{d:TypeDesc}{k:TK}{K:Ty}(h:aIO k=some K)(hd:UK P d k)(x:K.den):IsKey d (aZ K x):=by
 cases k <;> cases h <;> simp only[UK]at hd <;> subst hd <;> simp[IsKey,aZ]
theorem A6{F:Bool→Addr→Value→Prop}{ρ:Nat→Option Value}{β:Bool}:∀ {K:Ty} {x:K.den} {v:Value},K.isKey=true→K.scalar=true→V F ρ (.p β K x) v→v=aZ K x
 | .int _,_,_,_,_,h=>cN h
 | .bool,_,_,_,_,h=>l4 h
 | .str,_,_,_,_,h=>vT h
 | .flt,_,_,h,_,_=>by cases h
 | .unit,_,_,_,h,_=>by cases h
 | .prod _ _,_,_,_,h,_=>by cases h
 | .slice _,_,_,h,_,_=>by cases h
 | .ptr _,_,_,h,_,_=>by cases h
 | .tree _ _,_,_,h,_,_=>by cases h
 | .mapi _ _,_,_,h,_,_=>by cases h
 | .arr _ _,_,_,_,h,_=>by cases h
theorem lZ{F:Addr→Value→Prop}:∀ {K:Ty} {x:K.den} {l:List Value} {o:Nat},K.isKey=true→Vcells F K x (fun k u=>l[o+k]? = some u)→∀k,k<K.size→l[o+k]? = (dF K x)[k]?
 | .int _,_,_,_,_,h,k,hk=>by
  obtain rfl:k=0:=by simp only[Ty.size]at hk;omega
  simp only[Vcells]at h
  rw[h]
  rfl
 | .bool,_,_,_,_,h,k,hk=>by
  obtain rfl:k=0:=by simp only[Ty.size]at hk;omega
  simp only[Vcells]at h
  rw[h]
  rfl
 | .str,_,_,_,_,h,k,hk=>by
  obtain rfl:k=0:=by simp only[Ty.size]at hk;omega
  simp only[Vcells]at h
  rw[h]
  rfl
 | .flt,_,_,_,h,_,_,_=>by cases h
 | .unit,_,_,_,_,_,k,hk=>by simp only[Ty.size]at hk;omega
 | .prod A B,x,l,o,h,hv,k,hk=>by
  simp only[Ty.isKey,Bool.and_eq_true]at h
  simp only[Vcells]at hv
  simp only[Ty.size]at hk
  simp only[dF]
  rcases Nat.lt_or_ge k A.size with h1 | h1
  ·rw[List.getElem?_append_left (by rw[dS h.1];exact h1)]
   exact lZ h.1 hv.1 k h1
  ·rw[List.getElem?_append_right (by rw[dS h.1];exact h1),dS h.1]
   have:=lZ (o:=o+A.size) h.2 (Vcells.mono (fun _ _ h=>h) (fun k u hk=>by rw[Nat.add_assoc];exact hk) hv.2) (k - A.size) (by omega)
   rw[←this]
   congr 1
   omega
 | .slice _,_,_,_,h,_,_,_=>by cases h
 | .ptr _,_,_,_,h,_,_,_=>by cases h
 | .tree _ _,_,_,_,h,_,_,_=>by cases h
 | .mapi _ _,_,_,_,h,_,_,_=>by cases h
 | .arr kk _,x,l,o,_,hv,k,hk=>by
  have hl:k<x.1.length:=by rw[x.2];exact hk
  simp only[Vcells]at hv
  rw[hv k hl]
  simp[dF,hl]
theorem kT:∀ {K:Ty} {x:K.den},K.isKey=true→K.scalar=false→aZ K x = .agg (dF K x).toArray
 | .int _,_,_,h=>by cases h
 | .bool,_,_,h=>by cases h
 | .str,_,_,h=>by cases h
 | .flt,_,h,_=>by cases h
 | .unit,_,_,_=>rfl
 | .prod _ _,_,_,_=>rfl
 | .slice _,_,h,_=>by cases h
 | .ptr _,_,h,_=>by cases h
 | .tree _ _,_,h,_=>by cases h
 | .mapi _ _,_,h,_=>by cases h
 | .arr _ _,_,_,_=>rfl
structure KeyOk(P:Program)(kt:TypeId)(K:Ty):Prop where
 isKey:K.isKey=true
 check:∀(e:Bool) (k:K.den) (w:World),(Instr.checkKey e 10000 kt (aZ K k)).run P w = .ok () w
 find:∀(k:K.den) (l:List MapEntry) (ks:List K.den) (w:World),l.map (·.key)=ks.map (aZ K) →
  ((Instr.findKey kt (aZ K k) l).run P w = .ok none w∧∀x∈l,x.key≠aZ K k) ∨
  ∃j e,(Instr.findKey kt (aZ K k) l).run P w = .ok (some (j,e.val)) w∧l[j]? = some e∧e.key=aZ K k
 stays:∀(k:K.den) (w:World),(Instr.keyThatStays (aZ K k) (aZ K k)).run P w = .ok (aZ K k) w
theorem KeyOk.of_kk{P:Program}{kt:TypeId}{ki:TI}(hki:TIok P kt ki){K:Ty}(hkk:aIO ki.k=some K):KeyOk P kt K:=by
 obtain⟨d,hd,hdk⟩:=hki.hu
 refine⟨aHr hkk,fun e k w=>run_checkKey hd (aBG hkk hdk k) e 9999,fun k l ks w hl=> ?_,fun k w=>run_keyThatStays (aBG hkk hdk k)⟩
 have hkey:=aBG (P:=P) hkk hdk k
 have hall:∀x∈l,IsKey d x.key:=fun x hx=>by
  have:x.key∈l.map (·.key):=List.mem_map.2 ⟨x,hx,rfl⟩
  rw[hl]at this
  obtain⟨p,_,hp⟩:=List.mem_map.1 this
  rw[←hp]
  exact aBG hkk hdk p
 rcases findNow_spec hkey l 0 hall with⟨h1,h2⟩ | ⟨j,e,h1,h2,h3⟩
 ·exact .inl ⟨run_findKey hd h1,h2⟩
 ·exact .inr ⟨j,e,by rw[run_findKey hd h1,Nat.zero_add],h2,h3⟩
def rH(k:IntKind):Ty→Bool
 | .int k'=>k' == k
 | .unit=>true
 | .prod a b=>rH k a && rH k b
 | .arr k' _=>k' == k
 | _=>false
theorem rR{k:IntKind}:∀ {K:Ty},rH k K=true→K.isKey=true
 | .int _,_=>rfl
 | .bool,h=>by cases h
 | .str,h=>by cases h
 | .flt,h=>by cases h
 | .unit,_=>rfl
 | .prod _ _,h=>by
  simp only[rH,Bool.and_eq_true]at h
  simp only[Ty.isKey,rR h.1,rR h.2,Bool.and_self]
 | .slice _,h=>by cases h
 | .ptr _,h=>by cases h
 | .tree _ _,h=>by cases h
 | .mapi _ _,h=>by cases h
 | .arr _ _,_=>rfl
theorem iK{k:IntKind}:∀ {K:Ty} (x:K.den),rH k K=true→∃l:List Int,l.length=K.size∧dF K x=l.map (Value.int k)
 | .int k',x,h=>by
  simp only[rH,beq_iff_eq]at h
  subst h
  exact⟨[x],rfl,rfl⟩
 | .bool,_,h=>by cases h
 | .str,_,h=>by cases h
 | .flt,_,h=>by cases h
 | .unit,_,_=>⟨[],rfl,rfl⟩
 | .prod a b,x,h=>by
  simp only[rH,Bool.and_eq_true]at h
  obtain⟨l1,e1,c1⟩:=iK x.1 h.1
  obtain⟨l2,e2,c2⟩:=iK x.2 h.2
  exact⟨l1++l2,by simp[e1,e2,Ty.size],by simp[dF,c1,c2]⟩
 | .slice _,_,h=>by cases h
 | .ptr _,_,h=>by cases h
 | .tree _ _,_,h=>by cases h
 | .mapi _ _,_,h=>by cases h
 | .arr k' _,x,h=>by
  simp only[rH,beq_iff_eq]at h
  subst h
  exact⟨x.1,x.2,rfl⟩
section
variable{P:Program}
theorem sB{e:TypeId}{k:IntKind}(he:P.underlying e=some (.int k))(d:Nat)(w:World){l1 l2:List Int}:∀(is:List Nat),(∀i∈is,i<l1.length∧i<l2.length) →
  ∃r:Bool,(Op.eqItems (d+1) e 1 (l1.map (Value.int k)).toArray (l2.map (Value.int k)).toArray is).run P w = .ok r w∧(r=true↔∀i∈is,l1[i]? = l2[i]?)
 | [],_=>⟨true,by simp[Op.eqItems],by simp⟩
 | i::is,h=>by
  obtain⟨h1,h2⟩:=h i (by simp)
  obtain⟨r,r1,r2⟩:=sB he d w is (fun j hj=>h j (by simp[hj]))
  have hp:P.plainKey e=true:=by simp[Program.plainKey,he]
  have p1:=run_part_plain (P:=P) w hp (xs:=(l1.map (Value.int k)).toArray) (off:=i*1) (v:= .int k l1[i]) (by simp[h1])
  have p2:=run_part_plain (P:=P) w hp (xs:=(l2.map (Value.int k)).toArray) (off:=i*1) (v:= .int k l2[i]) (by simp[h2])
  simp only[Op.eqItems,Sem.run_bind,p1,p2,Result.andThen_ok,run_equalIn_int w d e k k _ _ he]
  by_cases hq:l1[i]=l2[i]
  ·refine⟨r,by simpa [hq]using r1,?_⟩
   rw[r2]
   simp[h1,h2,hq]
  ·refine⟨false,by simp[hq],?_⟩
   simp[h1,h2,hq]
theorem aAm{e:TypeId}{k:IntKind}(he:P.underlying e=some (.int k))(n:Nat)(em:Bool)(x:Int)(w:World):(Instr.checkKey em (n+1) e (.int k x)).run P w = .ok () w:=by
 unfold Instr.checkKey
 simp only[Sem.run_bind,run_underlying he,Result.andThen]
 rfl
theorem KeyOk.of_ints{t e:TypeId}{n:Nat}{k:IntKind}{i:TypeInfo}{K:Ty}(hu:P.underlying t=some (.array n e))(he:P.underlying e=some (.int k))(hi:P.info? e=some i)(hc:P.cellsOf e=1)
  (hK:rH k K=true) (hs:K.scalar=false) (hn:K.size=n):KeyOk P t K:=by
 have hk:=rR hK
 have heq:∀(a b:K.den) (w:World),∃r:Bool,(Op.equal t (aZ K a) (aZ K b)).run P w = .ok r w∧(r=true↔a=b):=fun a b w=>by
  obtain⟨l1,e1,c1⟩:=iK a hK
  obtain⟨l2,e2,c2⟩:=iK b hK
  rw[kT hk hs,kT hk hs,c1,c2]
  obtain⟨r,r1,r2⟩:=sB (P:=P) he 9998 w (l1:=l1) (l2:=l2) (List.range n) (fun i hi=>by simp at hi;omega)
  refine⟨r,?_,?_⟩
  ·unfold Op.equal Op.maxDepth
   rw[show(10000:Nat)=9999+1 from rfl,run_equalIn_array w 9999 _ _ hu hi,hc]
   exact r1
  ·rw[r2]
   constructor
   ·intro h
    have:l1=l2:=List.ext_getElem? fun i=>by
     rcases Nat.lt_or_ge i n with h1 | h1
     ·exact h i (by simpa using h1)
     ·rw[List.getElem?_eq_none (by omega),List.getElem?_eq_none (by omega)]
    exact jV hk (by rw[c1,c2,this])
   ·rintro rfl j _
    have:l1.map (Value.int k)=l2.map (Value.int k):=by rw[←c1,←c2]
    have hj:=congrArg (fun l=>l[j]?) this
    simp only[List.getElem?_map]at hj
    cases h1:l1[j]? <;> cases h2:l2[j]? <;> simp[h1,h2]at hj ⊢
    exact hj
 refine⟨hk,fun em a w=> ?_,fun a l ks w hl=> ?_,fun a w=> ?_⟩
 ·obtain⟨l1,e1,c1⟩:=iK a hK
  rw[kT hk hs,c1,show(10000:Nat)=9999+1 from rfl,Instr.checkKey]
  simp only[Sem.run_bind,run_underlying hu,Result.andThen_ok]
  simp only[Std.Legacy.Range.forIn_eq_forIn_range',Std.Legacy.Range.size,Nat.sub_zero,Nat.add_one_sub_one,Nat.div_one]
  have hin:∀j∈List.range' 0 n,j<l1.length:=fun j hj=>by simp at hj;omega
  generalize List.range' 0 n=is at hin
  induction is with
  | nil=>simp
  | cons j is ih =>
   have hj:=hin j (by simp)
   have hp:P.plainKey e=true:=by simp[Program.plainKey,he]
   have p1:=run_part_plain (P:=P) w hp (xs:=(l1.map (Value.int k)).toArray) (off:=j*1) (v:= .int k l1[j]) (by simp[hj])
   simp only[List.forIn_cons,Sem.run_bind,(Go.run_sizeOf w hi:(sizeOf e).run P w=_),hc,Result.andThen_ok,p1,aAm he 9998 em,Sem.run_pure]
   exact ih (fun y hy=>hin y (by simp[hy]))
 ·have main:∀(l:List MapEntry) (ks:List K.den) (q:Nat),l.map (·.key)=ks.map (aZ K) →
    ((Instr.findAsking t (aZ K a) l q).run P w = .ok none w∧∀x∈l,x.key≠aZ K a) ∨
    ∃j e,(Instr.findAsking t (aZ K a) l q).run P w = .ok (some (q+j,e.val)) w∧l[j]? = some e∧e.key=aZ K a:=by
   intro l
   induction l with
   | nil=>intro ks q _;exact .inl ⟨by simp[Instr.findAsking],by simp⟩
   | cons x l ih =>
    intro ks q h
    cases ks with
    | nil=>simp at h
    | cons b ks =>
     simp only[List.map_cons,List.cons.injEq]at h
     obtain⟨r,r1,r2⟩:=heq a b w
     unfold Instr.findAsking
     rw[Sem.run_bind,h.1,r1]
     simp only[Result.andThen_ok]
     cases r with
     | true =>
      have:=r2.1 rfl
      subst this
      exact .inr ⟨0,x,by simp,rfl,h.1⟩
     | false =>
      have hne:b≠a:=fun e=>by have:=r2.2 e.symm;cases this
      rcases ih ks (q+1) h.2 with⟨h1,h2⟩ | ⟨j,y,h1,h2,h3⟩
      ·refine .inl ⟨by simpa using h1,fun y hy=> ?_⟩
       rcases List.mem_cons.1 hy with rfl | hy
       ·rw[h.1]
        exact fun e=>hne (gI hk e)
       ·exact h2 y hy
      ·exact .inr ⟨j+1,y,by simp only[Bool.false_eq_true,if_false];rw[h1,show q+1+j=q+(j+1) by omega],h2,h3⟩
  cases l with
  | nil=>exact .inl ⟨by simp[Instr.findKey,run_underlying hu,Result.andThen,Instr.findNow],by simp⟩
  | cons x l =>
   have hnow:Instr.findNow (.array n e) (aZ K a) (x::l) 0=none:=by simp[Instr.findNow,Instr.sameNow]
   have hrun:(Instr.findKey t (aZ K a) (x::l)).run P w=(Instr.findAsking t (aZ K a) (x::l) 0).run P w:=by
    simp only[Instr.findKey,Sem.run_bind,run_underlying hu,Result.andThen_ok,hnow]
   rw[hrun]
   rcases main (x::l) ks 0 hl with h | ⟨j,y,h1,h2,h3⟩
   ·exact .inl h
   ·exact .inr ⟨j,y,by rw[h1,Nat.zero_add],h2,h3⟩
 ·obtain⟨l1,e1,c1⟩:=iK a hK
  rw[kT hk hs,c1]
  have hb:Instr.sameBits 10000 (.agg (l1.map (Value.int k)).toArray) (.agg (l1.map (Value.int k)).toArray)=true:=by
   rw[show(10000:Nat)=9999+1 from rfl,Instr.sameBits]
   simp only[beq_self_eq_true,Bool.true_and,List.all_eq_true]
   intro p hp
   obtain⟨x,y⟩:=p
   have hxy:∀(l:List Value),(x,y)∈l.zip l→x=y∧x∈l:=by
    intro l
    induction l with
    | nil=>simp
    | cons z l ih =>
     intro h
     simp only[List.zip_cons_cons,List.mem_cons,Prod.mk.injEq]at h
     rcases h with⟨rfl,rfl⟩ | h
     ·simp
     ·obtain⟨e,m⟩:=ih h
      exact⟨e,by simp[m]⟩
   obtain⟨rfl,hx⟩:=hxy _ hp
   obtain⟨z,_,rfl⟩:=List.mem_map.1 (by simpa using hx)
   simp[Instr.sameBits]
  simp[Instr.keyThatStays,hb]
end
def bG{α:Type}(K:Ty):List (K.den×α)→K.den→Option α
 | [],_=>none
 | p::r,k=>if eY K p.1 k then some p.2 else bG K r k
def fF{α:Type}(K:Ty):List (K.den×α)→K.den→α→List (K.den×α)
 | [],k,x=>[(k,x)]
 | p::r,k,x=>if eY K p.1 k then(k,x)::r else p::fF K r k x
section
variable{α:Type}{K:Ty}
theorem kM(hK:K.isKey=true){k:K.den}:∀ {kv:List (K.den×α)},(∀p∈kv,p.1≠k)→bG K kv k=none
 | [],_=>rfl
 | p::r,h=>by
  simp only[bG]
  rw[if_neg (fun e=>h p (by simp) ((gA hK).1 e))]
  exact kM hK fun q hq=>h q (by simp[hq])
theorem m8(hK:K.isKey=true){k:K.den}:∀ {kv:List (K.den×α)} {j:Nat} {p:K.den×α},(kv.map (·.1)).Nodup→kv[j]? = some p→p.1=k→bG K kv k=some p.2
 | [],j,p,_,h,_=>by simp at h
 | q::r,0,p,_,h,e=>by
  simp at h
  subst h
  simp only[bG]
  rw[if_pos ((gA hK).2 e)]
 | q::r,j+1,p,hn,h,e=>by
  simp only[List.map_cons,List.nodup_cons]at hn
  simp only[bG]
  have hm:p∈r:=List.mem_of_getElem? (by simpa using h)
  rw[if_neg (fun e'=>hn.1 (List.mem_map.2 ⟨p,hm,by rw[e];exact((gA hK).1 e').symm⟩))]
  exact m8 hK hn.2 (by simpa using h) e
theorem aBk(hK:K.isKey=true){k:K.den}{x:α}:∀ {kv:List (K.den×α)},(∀p∈kv,p.1≠k)→fF K kv k x=kv++[(k,x)]
 | [],_=>rfl
 | p::r,h=>by
  simp only[fF]
  rw[if_neg (fun e=>h p (by simp) ((gA hK).1 e)),aBk hK fun q hq=>h q (by simp[hq])]
  rfl
theorem aBe(hK:K.isKey=true){k:K.den}{x:α}:∀ {kv:List (K.den×α)} {j:Nat} {p:K.den×α},(kv.map (·.1)).Nodup→kv[j]? = some p→p.1=k→fF K kv k x=kv.set j (k,x)
 | [],j,p,_,h,_=>by simp at h
 | q::r,0,p,_,h,e=>by
  simp at h
  subst h
  simp only[fF]
  rw[if_pos ((gA hK).2 e)]
  rfl
 | q::r,j+1,p,hn,h,e=>by
  simp only[List.map_cons,List.nodup_cons]at hn
  simp only[fF]
  have hm:p∈r:=List.mem_of_getElem? (by simpa using h)
  rw[if_neg (fun e'=>hn.1 (List.mem_map.2 ⟨p,hm,by rw[e];exact((gA hK).1 e').symm⟩)),aBe hK hn.2 (by simpa using h) e]
  rfl
end
def enc(β:Bool)(T:Ty)(x:T.den):AVal:=if T.scalar then .p β T x else .agg (g5 β T x)
theorem aFX{F:Bool→Addr→Value→Prop}{ρ:Nat→Option Value}{A:Ty}{x:A.den}{v:Value}(h:MV (F false) A x v):V F ρ (enc false A x) v:=by
 obtain⟨h1,h2,h3,h4⟩:=h
 unfold enc
 split
 ·rename_i hs
  have hv:=jY (h3 hs)
  simp only[V]
  refine⟨hs,?_⟩
  rw[hv]at h1
  refine Vcells.monoLt (fun k u hk hu=> ?_) h1
  rw[Ty.size_scalar hs]at hk
  obtain rfl:k=0:=by omega
  simp at hu
  exact hu.symm
 ·rename_i hs
  obtain⟨cs,rfl⟩:=h4 (by simpa using hs)
  simp only[V]
  refine⟨cs,rfl,by rw[fJ,←h2];rfl,lA false A x _ (Vcells.mono (fun _ _ h=>h) (fun k u hk=>by simpa [Value.cells]using hk) h1)⟩
def mJ(T:Ty)(x:AVal):Bool :=
 match x with
 | .agg _=> !T.scalar
 | .lag _ _ _ _=>false
 | _=>T.scalar
section
variable{P:Program}{Bw:Nat→Prop}{w0:Base P}{ρ:Nat→Option Value}{φ:Nat→Nat→Prop}{h:Nat→Option Obj}{w:World}{new:Nat}
theorem aBv(m:Mem Bw w0 ρ φ h w)(hn:ρ new=none){o:Oper}{a:Act}{t:TypeId}{K A:Ty}(hK:K.isKey=true)(ho:o.op = .makeMap t none):
  Good P o a w (Post Bw w0 ρ φ h w new (.mp new) [(new,some (.mpo K A []))]):=by
 have hrun:(Instr.makeMap t none).run P w = .ok (.map (some w.heap.size)) (w.alloc (.map #[] 0)):=rfl
 refine Good.of_run (v:= .map (some w.heap.size)) (w':=w.alloc (.map #[] 0)) (by simp only[execOp,ho,Option.map_none,Sem.run_bind,hrun,Result.andThen_ok];rfl) ?_
 refine dT m none new (.mpo K A []) (.map (some w.heap.size)) none (World.grownBy_alloc w _ none) (fun k e=>by cases e) (.inl hn) (fun _ k hk=> ?_) (fun F' ρ' hF hρ=> ?_)
  (by rw[bQ];rfl) (fun _=>rfl) (fun F' ρ' hF hρ hnew=> ?_)
 ·simp only[jT,Option.some.injEq]at hk
  exact .inl (by omega)
 ·exact⟨_,#[],0,rfl,rfl,heap_alloc_new w _,⟨hK,List.nodup_nil,fun e he=>by cases he⟩,rfl,List.nodup_nil,fun i hi=>absurd hi (by simp)⟩
 ·simp only[V]
  exact⟨hnew,_,rfl⟩
theorem N7{F:Addr→Value→Prop}{t:TypeId}{ti:TI}(ht:TIok P t ti){A:Ty}(hT:ti.T=some A){z:Value}(hz:(zeroValue t).run P w = .ok z w)(hz1:z.cells.toList.map pI=ti.z)(hz2:z.cells.size=ti.size)
  (hz3:∀c∈z.cells.toList,c.oneCell'=true):MV F A A.zero z:=by
 obtain⟨hT1,hT2,hT3⟩:=ht.hT A hT
 have hV:=jU (F:=fun _=>F) (ρ:=lD) z.cells.toList
 rw[hz1]at hV
 obtain⟨i,z',p1,p2,_⟩:=ht.hi
 have hzz:z'=z:=by
  simp[zeroValue,typeInfo,p1,p2]at hz
  exact hz
 subst hzz
 have hagg:=ht.hz
 rw[p1]at hagg
 simp only[Option.bind_some,p2,Option.map_some,Option.some.injEq]at hagg
 refine⟨(dK hT3 hV).1,by rw[hz2,hT1],fun hs=> ?_,fun hs=> ?_⟩
 ·rw[hs]at hT2
  have hk:ti.k.agg=false:=by simpa using hT2.symm
  rw[hk]at hagg
  have hc:z'.cells = #[z']:=by
   cases z' <;> first | rfl | (simp at hagg)
  exact hz3 z' (by rw[hc];simp)
 ·rw[hs]at hT2
  have hk:ti.k.agg=true:=by simpa using hT2.symm
  rw[hk]at hagg
  cases z' <;> first | exact⟨_,rfl⟩ | (simp at hagg)
theorem F5(m:Mem Bw w0 ρ φ h w){id:Nat}{K A:Ty}{kv:List (K.den×A.den)}(hi:h id=some (.mpo K A kv)){v:Value}(hv:V (Fr (own φ h) Bw w) ρ (.mp id) v):
  ∃r es clock,v = .map (some r)∧ρ id=some (.map (some r))∧φ id r∧w.heap[r]? = some (.map es clock)∧(K.isKey=true∧Born es clock)∧es.toList.map (·.key)=kv.map (fun p=>aZ K p.1)∧(kv.map (·.1)).Nodup ∧
   ∀i (h':i<kv.length),∃e:MapEntry,es[i]? = some e∧MV (Fr (own φ h) Bw w false) A kv[i].2 e.val:=by
 obtain⟨u,q1,r,es,clock,rfl,q2⟩:=m.ob id _ hi
 simp only[V]at hv
 rw[hv.1]at q1
 cases q1
 exact⟨r,es,clock,rfl,hv.1,q2⟩
theorem lJ{es:Array MapEntry}{K:Ty}{α:Type}{kv:List (K.den×α)}(hk:es.toList.map (·.key)=kv.map (fun p=>aZ K p.1)){j:Nat}{e:MapEntry}(he:es.toList[j]? = some e):
  ∃p,kv[j]? = some p∧e.key=aZ K p.1:=by
 have h1:(es.toList.map (·.key))[j]? = some e.key:=by rw[List.getElem?_map,he];rfl
 rw[hk,List.getElem?_map]at h1
 cases hp:kv[j]? with
 | none=>rw[hp]at h1;cases h1
 | some p=>rw[hp]at h1;simp at h1;exact⟨p,rfl,h1.symm⟩
theorem aDV(m:Mem Bw w0 ρ φ h w){o:Oper}{a:Act}{t kt et:TypeId}{ti te:TI}(ht:TIok P t ti)(hk:ti.k = .mp kt et){K:Ty}(hko:KeyOk P kt K)(hte:TIok P et te){A:Ty}(hT:te.T=some A)
  {xo ko:Operand} {cok:Bool} (ho:o.op = .lookup t xo ko cok) {id:Nat} {kv:List (K.den×A.den)} (hi:h id=some (.mpo K A kv)) (hx:V (Fr (own φ h) Bw w) ρ (.mp id) (a.eval xo)) {k:K.den} (e2:a.eval ko=aZ K k) :
  Good P o a w (Post Bw w0 ρ φ h w new (if cok then .tup [enc false A ((bG K kv k).getD A.zero),.p false .bool (bG K kv k).isSome]else enc false A ((bG K kv k).getD A.zero)) []):=by
 obtain⟨r,es,clock,e1,_,_,hb,⟨hK,_⟩,hkeys,hnd,hvals⟩:=F5 m hi hx
 obtain⟨dm,hm,hmk⟩:=ht.hu
 rw[hk]at hmk
 simp only[UK]at hmk
 subst hmk
 have hks:es.toList.map (·.key)=(kv.map (·.1)).map (aZ K):=by rw[hkeys,List.map_map];rfl
 obtain⟨z,hz,hz1,hz2,hz3⟩:=eC hte w
 obtain⟨hT1,hT2,hT3⟩:=hte.hT A hT
 have hes:∀(v:Value) (x:A.den) (b:Bool),MV (Fr (own φ h) Bw w false) A x v→V (Fr (own φ h) Bw w) ρ (if cok then .tup [enc false A x,.p false .bool b]else enc false A x) (if cok then .tuple #[v,.bool b]else v):=fun v x b hv=>by
  cases cok
  ·exact aFX hv
  ·simp only[if_true,V,VL]
   refine⟨_,rfl,rfl,⟨v,by simp,aFX hv⟩,⟨.bool b,by simp,?_⟩,trivial⟩
   simp only[V,Vcells]
   exact⟨rfl,trivial⟩
 rcases hko.find k es.toList (kv.map (·.1)) w hks with⟨h1,h2⟩ | ⟨j,e,h1,h2,h3⟩
 ·have hnone:bG K kv k=none:=kM hK fun p hp e=>by
   obtain⟨j,hj⟩:=List.mem_iff_getElem?.1 hp
   have h4:(kv.map (fun p=>aZ K p.1))[j]? = some (aZ K p.1):=by rw[List.getElem?_map,hj];rfl
   rw[←hkeys,List.getElem?_map]at h4
   cases hq:es.toList[j]? with
   | none=>rw[hq]at h4;cases h4
   | some x =>
    rw[hq]at h4
    simp at h4
    exact h2 x (List.mem_of_getElem? hq) (by rw[h4,e])
  rw[hnone]
  have hmv:MV (Fr (own φ h) Bw w false) A A.zero z:=N7 hte hT hz hz1 hz2 hz3
  refine Good.of_run (v:=if cok then .tuple #[z,.bool false]else z) (w':=w) ?_ (Post.pure m (hes z _ false hmv))
  simp only[execOp,ho]
  rw[e1,e2]
  cases cok <;> simp[Instr.lookup,run_underlying hm,Go.MapKept.run_getObj_map hb,hko.check,h1,hz,Result.andThen]
 ·obtain⟨p,hp,hpe⟩:=lJ hkeys h2
  have hpk:p.1=k:=gI hK (by rw[←hpe,h3])
  have hsome:=m8 (α:=A.den) hK hnd hp hpk
  rw[hsome]
  have hj:j<kv.length:=(List.getElem?_eq_some_iff.1 hp).1
  obtain⟨e',q1,q2⟩:=hvals j hj
  have hee:e'=e:=by
   have:es.toList[j]? = some e':=by simpa using q1
   rw[h2]at this
   cases this
   rfl
  subst hee
  have hpj:kv[j]=p:=by
   rw[List.getElem?_eq_getElem hj]at hp
   simpa using hp
  rw[hpj]at q2
  refine Good.of_run (v:=if cok then .tuple #[e'.val,.bool true]else e'.val) (w':=w) ?_ (Post.pure m (hes e'.val _ true q2))
  simp only[execOp,ho]
  rw[e1,e2]
  cases cok <;> simp[Instr.lookup,run_underlying hm,Go.MapKept.run_getObj_map hb,hko.check,h1,Result.andThen]
theorem iF(w:World)(r:Nat)(o:Go.Obj):w.grownBy { w with heap:=w.heap.setIfInBounds r o } (some r):=by
 refine⟨rfl,rfl,rfl,by simp,fun k hk hne=> ?_⟩
 have:r≠k:=fun e=>hne (by rw[e])
 simp[Array.getElem?_setIfInBounds_ne this]
theorem Born.push{es:Array MapEntry}{c:Nat}(h:Born es c)(k v:Value):Born (es.push { key:=k,val:=v,born:=c }) (c+1):=by
 refine⟨?_,fun e he=> ?_⟩
 ·simp only[Array.toList_push,List.map_append,List.map_cons,List.map_nil]
  refine List.nodup_append.2 ⟨h.1,by simp,fun a ha b hb e=> ?_⟩
  simp only[List.mem_singleton]at hb
  obtain⟨p,hp,rfl⟩:=List.mem_map.1 ha
  have:=h.2 p hp
  omega
 ·simp only[Array.toList_push,List.mem_append,List.mem_singleton]at he
  rcases he with he | rfl
  ·exact Nat.lt_succ_of_lt (h.2 e he)
  ·exact Nat.lt_succ_self _
theorem Born.modify{es:Array MapEntry}{c:Nat}(h:Born es c)(j:Nat)(f:MapEntry→MapEntry)(hf:∀e,(f e).born=e.born):Born (es.modify j f) c:=by
 have e1:(es.modify j f).toList.map (·.born)=es.toList.map (·.born):=by
  refine List.ext_getElem? fun i=> ?_
  simp only[List.getElem?_map,Array.getElem?_toList,Array.getElem?_modify]
  split
  ·cases es[i]? <;> simp[hf]
  ·rfl
 refine⟨by rw[e1];exact h.1,fun e he=> ?_⟩
 have:e.born∈(es.modify j f).toList.map (·.born):=List.mem_map_of_mem he
 rw[e1]at this
 obtain⟨e',h1,h2⟩:=List.mem_map.1 this
 rw[←h2]
 exact h.2 e' h1
theorem tM(m:Mem Bw w0 ρ φ h w){o:Oper}{a:Act}{t kt et:TypeId}{ti:TI}(ht:TIok P t ti)(hk:ti.k = .mp kt et){K:Ty}(hko:KeyOk P kt K){A:Ty}
  {xo ko yo:Operand} (ho:o.op = .mapUpdate t xo ko yo∨o.op = .insert t xo ko yo) {id:Nat} {kv:List (K.den×A.den)} {us:jJ} (hi0:h id=some (.mpo K A kv)) (hi:apply us h id=some (.mpo K A kv)) (hx:V (Fr (own φ h) Bw w) ρ (.mp id) (a.eval xo)) {k:K.den} (e2:a.eval ko=aZ K k)
  {y:AVal} (hy:V (Fr (own φ h) Bw w) ρ y (a.eval yo)) (hc:(cellsOf y).all AVal.cell=true) (hs:mJ A y=true) {x:A.den} (hz:toT A h y=some (x,us)) :
  Good P o a w (Post Bw w0 ρ φ h w new .unk (us++[(id,some (.mpo K A (fF K kv k x)))])):=by
 obtain⟨m',hF1,htt⟩:=qC m hz
 obtain⟨r,es,clock,e1,hρ,hφ,hb,⟨hK,hB⟩,hkeys,hnd,hvals⟩:=F5 m' hi (V.mono hF1 (fun _ _ h=>h) hx)
 obtain⟨dm,hm,hmk⟩:=ht.hu
 rw[hk]at hmk
 simp only[UK]at hmk
 subst hmk
 have hks:es.toList.map (·.key)=(kv.map (·.1)).map (aZ K):=by rw[hkeys,List.map_map];rfl
 obtain⟨r1,r2,r3⟩:=gW hc hy
 obtain⟨s1,s2⟩:=htt _ r1
 have hmv:MV (Fr (own φ (apply us h)) Bw w false) A x (a.eval yo):=by
  refine⟨s1,by rw[s2,←r2];simp,fun hsc=> ?_,fun hsc=> ?_⟩
  ·have hcell:cellsOf y=[y]:=by
    cases y <;> first | rfl | (simp[mJ,hsc]at hs)
   rw[hcell]at hc
   simp only[List.all_cons,List.all_nil,Bool.and_true]at hc
   exact yX hc hy
  ·cases y with
   | agg cs =>
    simp only[V]at hy
    obtain⟨vs,e,_⟩:=hy
    exact⟨vs,e⟩
   | _=>simp[mJ,hsc]at hs
 have hlen:es.size=kv.length:=by
  have:=congrArg List.length hkeys
  simpa using this
 have fin:∀(es':Array MapEntry) (clock':Nat),(execOp a.eval o).run P w = .ok .skip { w with heap:=w.heap.setIfInBounds r (.map es' clock') }→Born es' clock'→es'.toList.map (·.key)=(fF K kv k x).map (fun p=>aZ K p.1) →
   ((fF K kv k x).map (·.1)).Nodup→(∀i (h':i<(fF K kv k x).length),∃e:MapEntry,es'[i]? = some e∧MV (Fr (own φ (apply us h)) Bw w false) A (fF K kv k x)[i].2 e.val) →
   Good P o a w (Post Bw w0 ρ φ h w new .unk (us++[(id,some (.mpo K A (fF K kv k x)))])):=fun es' clock' hrun q0 q1 q2 q3=>by
  refine Good.of_skip hrun ?_
  refine Post.after (u1:=us) rfl hF1 ?_
  refine fT m' (some id) id (.mpo K A (fF K kv k x)) (.map (some r)) (φ id) (some r) (iF w r _) (fun k e=>⟨id,_,rfl,hi,rfl,by cases e;exact hφ⟩) (.inr ⟨rfl,hρ⟩)
   (fun _ k hk=>Nat.lt_of_lt_of_le (m'.lt id _ k hi rfl hk) (iF w r (.map es' clock')).size) (fun _ k hk=> .inr ⟨id,_,rfl,hi,rfl,hk⟩) (fun F' ρ' hF hρ'=> ?_) (by rw[bE];rfl) (fun e=>by rw[hρ]at e;cases e) (fun F' ρ' hF hρ hnew=>by simp only[V])
  exact⟨r,es',clock',rfl,hφ,(heap_set hb).1,⟨hK,q0⟩,q1,q2,fun i hi=>let ⟨e,t1,t2,t3⟩:=q3 i hi;⟨e,t1,Vcells.mono (hF _) (fun _ _ h=>h) t2,t3⟩⟩
 rcases hko.find k es.toList (kv.map (·.1)) w hks with⟨h1,h2⟩ | ⟨j,e,h1,h2,h3⟩
 ·have hno:∀p∈kv,p.1≠k:=fun p hp e=>by
   obtain⟨j,hj⟩:=List.mem_iff_getElem?.1 hp
   have h4:(kv.map (fun p=>aZ K p.1))[j]? = some (aZ K p.1):=by rw[List.getElem?_map,hj];rfl
   rw[←hkeys,List.getElem?_map]at h4
   cases hq:es.toList[j]? with
   | none=>rw[hq]at h4;cases h4
   | some x =>
    rw[hq]at h4
    simp at h4
    exact h2 x (List.mem_of_getElem? hq) (by rw[h4,e])
  have hset:=aBk (x:=x) hK hno
  refine fin (es.push { key:=aZ K k,val:=a.eval yo,born:=clock }) (clock+1) ?_ (hB.push _ _) ?_ ?_ ?_
  ·rcases ho with ho | ho <;>
   ·simp only[execOp,ho]
    rw[e1,e2]
    simp[Instr.mapUpdate,run_underlying hm,Go.MapKept.run_getObj_map hb,hko.check,h1,run_setObj_map _ hb,Result.andThen]
  ·rw[hset]
   simp[hkeys]
  ·rw[hset]
   simp only[List.map_append,List.map_cons,List.map_nil]
   refine List.nodup_append.2 ⟨hnd,by simp,fun a ha b hb e=> ?_⟩
   simp only[List.mem_singleton]at hb
   obtain⟨p,hp,rfl⟩:=List.mem_map.1 ha
   exact hno p hp (by rw[e,hb])
  ·rw[hset]
   intro i hi'
   simp only[List.length_append,List.length_cons,List.length_nil]at hi'
   rcases Nat.lt_or_ge i kv.length with h4 | h4
   ·obtain⟨e',t1,t2⟩:=hvals i h4
    exact⟨e',by rw[Array.getElem?_push,if_neg (by omega)];exact t1,by rw[List.getElem_append_left h4];exact t2⟩
   ·obtain rfl:i=kv.length:=by omega
    exact⟨_,by rw[Array.getElem?_push,if_pos hlen.symm],by simpa using hmv⟩
 ·obtain⟨p,hp,hpe⟩:=lJ hkeys h2
  have hpk:p.1=k:=gI hK (by rw[←hpe,h3])
  have hset:=aBe (x:=x) hK hnd hp hpk
  have hj:es[j]? = some e:=by simpa using h2
  have hjl:j<kv.length:=(List.getElem?_eq_some_iff.1 hp).1
  have hkey':∀e',es[j]? = some e'→({ e' with key:=aZ K k,val:=a.eval yo }:MapEntry).key=e'.key:=fun e' he'=>by rw[hj]at he';cases he';exact h3.symm
  have hkm:(kv.set j (k,x)).map (·.1)=kv.map (·.1):=by
   rw[List.map_set]
   simp only
   refine List.ext_getElem? fun i=> ?_
   rw[List.getElem?_set]
   split
   ·rename_i hij
    subst hij
    simp[hjl,hp,hpk]
    rw[List.getElem?_eq_getElem hjl]at hp
    simp at hp
    rw[hp,hpk]
   ·rfl
  refine fin (es.modify j fun e=> { e with key:=aZ K k,val:=a.eval yo }) clock ?_ (hB.modify j _ fun _=>rfl) ?_ ?_ ?_
  ·rcases ho with ho | ho <;>
   ·simp only[execOp,ho]
    rw[e1,e2]
    simp[Instr.mapUpdate,run_underlying hm,Go.MapKept.run_getObj_map hb,hko.check,h1,hj,h3,hko.stays,run_setObj_map _ hb,Result.andThen]
  ·rw[modify_keys j _ hkey',hset,hkeys]
   have:(kv.set j (k,x)).map (fun p=>aZ K p.1)=((kv.set j (k,x)).map (·.1)).map (aZ K):=by rw[List.map_map];rfl
   rw[this,hkm,List.map_map]
   rfl
  ·rw[hset,hkm]
   exact hnd
  ·rw[hset]
   intro i hi'
   simp only[List.length_set]at hi'
   obtain⟨e',t1,t2⟩:=hvals i hi'
   by_cases hij:j=i
   ·subst hij
    refine⟨{ e' with key:=aZ K k,val:=a.eval yo },by rw[Array.getElem?_modify,if_pos rfl,t1];rfl,by simpa using hmv⟩
   ·refine⟨e',by rw[Array.getElem?_modify,if_neg hij];exact t1,?_⟩
    rw[List.getElem_set_ne hij]
    exact t2
theorem aAH(m:Mem Bw w0 ρ φ h w)(hn:ρ new=none){o:Oper}{a:Act}{t:TypeId}{K:Ty}(hK:K.isKey=true)(ho:o.op = .makeMap t none):
  Good P o a w (Post Bw w0 ρ φ h w new (.mp new) [(new,some (.mpl K []))]):=by
 have hrun:(Instr.makeMap t none).run P w = .ok (.map (some w.heap.size)) (w.alloc (.map #[] 0)):=rfl
 refine Good.of_run (v:= .map (some w.heap.size)) (w':=w.alloc (.map #[] 0)) (by simp only[execOp,ho,Option.map_none,Sem.run_bind,hrun,Result.andThen_ok];rfl) ?_
 refine dT m none new (.mpl K []) (.map (some w.heap.size)) none (World.grownBy_alloc w _ none) (fun k e=>by cases e) (.inl hn) (fun _ k hk=> ?_) (fun F' ρ' hF hρ=> ?_)
  (by rw[bQ];rfl) (fun _=>rfl) (fun F' ρ' hF hρ hnew=> ?_)
 ·simp only[jT,Option.some.injEq]at hk
  exact .inl (by omega)
 ·exact⟨_,#[],0,rfl,rfl,heap_alloc_new w _,hK,rfl,List.nodup_nil,fun i hi=>absurd hi (by simp)⟩
 ·simp only[V]
  exact⟨hnew,_,rfl⟩
theorem aFf(m:Mem Bw w0 ρ φ h w){id:Nat}{K:Ty}{kv:List (K.den×Value)}(hi:h id=some (.mpl K kv)){v:Value}(hv:V (Fr (own φ h) Bw w) ρ (.mp id) v):
  ∃r es clock,v = .map (some r)∧ρ id=some (.map (some r))∧φ id r∧w.heap[r]? = some (.map es clock)∧K.isKey=true∧es.toList.map (·.key)=kv.map (fun p=>aZ K p.1)∧(kv.map (·.1)).Nodup ∧
   ∀i (h':i<kv.length),∃e:MapEntry,es[i]? = some e∧e.val=kv[i].2:=by
 obtain⟨u,q1,r,es,clock,rfl,q2⟩:=m.ob id _ hi
 simp only[V]at hv
 rw[hv.1]at q1
 cases q1
 exact⟨r,es,clock,rfl,hv.1,q2⟩
def yW{α:Type}(K:Ty):List (K.den×α)→K.den→Nat→Prop
 | [],_,_=>True
 | p::_,k,0=>eY K p.1 k=true
 | p::r,k,j+1=>eY K p.1 k=false∧yW K r k j
theorem V3{α:Type}{K:Ty}{k:K.den}:∀ {kv:List (K.den×α)} {j:Nat},yW K kv k j→bG K kv k=(kv[j]?).map (·.2)
 | [],j,_=>by simp[bG]
 | p::r,0,h=>by
  simp only[yW]at h
  simp[bG,h]
 | p::r,j+1,h=>by
  simp only[yW]at h
  simp only[bG,h.1,Bool.false_eq_true,if_false,List.getElem?_cons_succ]
  exact V3 h.2
def aFp(o:Option Value):AVal :=
 match o with
 | some v=> .tup [.lit v,.p false .bool true]
 | none=> .tup [.unk,.p false .bool false]
theorem aBz(m:Mem Bw w0 ρ φ h w){o:Oper}{a:Act}{t kt et:TypeId}{ti te:TI}(ht:TIok P t ti)(hk:ti.k = .mp kt et){K:Ty}(hko:KeyOk P kt K)(hte:TIok P et te)
  {xo ko:Operand} (ho:o.op = .lookup t xo ko true) {id:Nat} {kv:List (K.den×Value)} (hi:h id=some (.mpl K kv)) (hx:V (Fr (own φ h) Bw w) ρ (.mp id) (a.eval xo)) {k:K.den} (e2:a.eval ko=aZ K k) :
  Good P o a w (Post Bw w0 ρ φ h w new (aFp (bG K kv k)) []):=by
 obtain⟨r,es,clock,e1,_,_,hb,hK,hkeys,hnd,hvals⟩:=aFf m hi hx
 obtain⟨dm,hm,hmk⟩:=ht.hu
 rw[hk]at hmk
 simp only[UK]at hmk
 subst hmk
 have hks:es.toList.map (·.key)=(kv.map (·.1)).map (aZ K):=by rw[hkeys,List.map_map];rfl
 obtain⟨z,hz,_⟩:=eC hte w
 rcases hko.find k es.toList (kv.map (·.1)) w hks with⟨h1,h2⟩ | ⟨j,e,h1,h2,h3⟩
 ·have hnone:bG K kv k=none:=kM hK fun p hp e=>by
   obtain⟨j,hj⟩:=List.mem_iff_getElem?.1 hp
   have h4:(kv.map (fun p=>aZ K p.1))[j]? = some (aZ K p.1):=by rw[List.getElem?_map,hj];rfl
   rw[←hkeys,List.getElem?_map]at h4
   cases hq:es.toList[j]? with
   | none=>rw[hq]at h4;cases h4
   | some x =>
    rw[hq]at h4
    simp at h4
    exact h2 x (List.mem_of_getElem? hq) (by rw[h4,e])
  rw[hnone]
  refine Good.of_run (v:= .tuple #[z,.bool false]) (w':=w) ?_ (Post.pure m ?_)
  ·simp only[execOp,ho]
   rw[e1,e2]
   simp[Instr.lookup,run_underlying hm,Go.MapKept.run_getObj_map hb,hko.check,h1,hz,Result.andThen]
  ·simp only[aFp,V,VL]
   exact⟨_,rfl,rfl,⟨z,by simp,trivial⟩,⟨.bool false,by simp,by simp only[Vcells];exact⟨rfl,trivial⟩⟩,trivial⟩
 ·obtain⟨p,hp,hpe⟩:=lJ hkeys h2
  have hpk:p.1=k:=gI hK (by rw[←hpe,h3])
  have hsome:=m8 (α:=Value) hK hnd hp hpk
  rw[hsome]
  have hj:j<kv.length:=(List.getElem?_eq_some_iff.1 hp).1
  obtain⟨e',q1,q2⟩:=hvals j hj
  have hee:e'=e:=by
   have:es.toList[j]? = some e':=by simpa using q1
   rw[h2]at this
   cases this
   rfl
  subst hee
  have hpj:kv[j]=p:=by
   rw[List.getElem?_eq_getElem hj]at hp
   simpa using hp
  rw[hpj]at q2
  refine Good.of_run (v:= .tuple #[e'.val,.bool true]) (w':=w) ?_ (Post.pure m ?_)
  ·simp only[execOp,ho]
   rw[e1,e2]
   simp[Instr.lookup,run_underlying hm,Go.MapKept.run_getObj_map hb,hko.check,h1,Result.andThen]
  ·simp only[aFp,V,VL]
   exact⟨_,rfl,rfl,⟨e'.val,by simp,q2⟩,⟨.bool true,by simp,by simp only[Vcells];exact⟨rfl,trivial⟩⟩,trivial⟩
theorem sM(m:Mem Bw w0 ρ φ h w){o:Oper}{a:Act}{t kt et:TypeId}{ti:TI}(ht:TIok P t ti)(hk:ti.k = .mp kt et){K:Ty}(hko:KeyOk P kt K)
  {xo ko yo:Operand} (ho:o.op = .mapUpdate t xo ko yo∨o.op = .insert t xo ko yo) {id:Nat} {kv:List (K.den×Value)} (hi:h id=some (.mpl K kv)) (hx:V (Fr (own φ h) Bw w) ρ (.mp id) (a.eval xo)) {k:K.den} (e2:a.eval ko=aZ K k) {x:Value} (e3:a.eval yo=x)
  (hno:∀p∈kv,p.1≠k) :
  Good P o a w (Post Bw w0 ρ φ h w new .unk [(id,some (.mpl K (kv++[(k,x)])))]):=by
 obtain⟨r,es,clock,e1,hρ,hφ,hb,hK,hkeys,hnd,hvals⟩:=aFf m hi hx
 obtain⟨dm,hm,hmk⟩:=ht.hu
 rw[hk]at hmk
 simp only[UK]at hmk
 subst hmk
 have hks:es.toList.map (·.key)=(kv.map (·.1)).map (aZ K):=by rw[hkeys,List.map_map];rfl
 have hlen:es.size=kv.length:=by
  have:=congrArg List.length hkeys
  simpa using this
 have h1:(Instr.findKey kt (aZ K k) es.toList).run P w = .ok none w:=by
  rcases hko.find k es.toList (kv.map (·.1)) w hks with⟨h1,_⟩ | ⟨j,e,_,h2,h3⟩
  ·exact h1
  ·obtain⟨p,hp,hpe⟩:=lJ hkeys h2
   exact absurd (gI hK (by rw[←hpe,h3])) (hno p (List.mem_of_getElem? hp))
 refine Good.of_skip (w':= { w with heap:=w.heap.setIfInBounds r (.map (es.push { key:=aZ K k,val:=a.eval yo,born:=clock }) (clock+1)) }) ?_ ?_
 ·rcases ho with ho | ho <;>
  ·simp only[execOp,ho]
   rw[e1,e2]
   simp[Instr.mapUpdate,run_underlying hm,Go.MapKept.run_getObj_map hb,hko.check,h1,run_setObj_map _ hb,Result.andThen]
 ·refine fT m (some id) id (.mpl K (kv++[(k,x)])) (.map (some r)) (φ id) (some r) (iF w r _) (fun k e=>⟨id,_,rfl,hi,rfl,by cases e;exact hφ⟩) (.inr ⟨rfl,hρ⟩)
   (fun _ k hk=>Nat.lt_of_lt_of_le (m.lt id _ k hi rfl hk) (iF w r _).size) (fun _ k hk=> .inr ⟨id,_,rfl,hi,rfl,hk⟩) (fun F' ρ' hF hρ'=> ?_) (by rw[bE];rfl) (fun e=>by rw[hρ]at e;cases e) (fun F' ρ' hF hρ hnew=>by simp only[V])
  refine⟨r,_,_,rfl,hφ,(heap_set hb).1,hK,?_,?_,fun i hi'=> ?_⟩
  ·simp[hkeys]
  ·simp only[List.map_append,List.map_cons,List.map_nil]
   refine List.nodup_append.2 ⟨hnd,by simp,fun a ha b hb e=> ?_⟩
   simp only[List.mem_singleton]at hb
   obtain⟨p,hp,rfl⟩:=List.mem_map.1 ha
   exact hno p hp (by rw[e,hb])
  ·simp only[List.length_append,List.length_cons,List.length_nil]at hi'
   rcases Nat.lt_or_ge i kv.length with h4 | h4
   ·obtain⟨e',t1,t2⟩:=hvals i h4
    exact⟨e',by rw[Array.getElem?_push,if_neg (by omega)];exact t1,by rw[List.getElem_append_left h4];exact t2⟩
   ·obtain rfl:i=kv.length:=by omega
    exact⟨_,by rw[Array.getElem?_push,if_pos hlen.symm],by simpa using e3⟩
theorem aBy(m:Mem Bw w0 ρ φ h w){o:Oper}{a:Act}{t kt et:TypeId}{ti:TI}(ht:TIok P t ti)(hk:ti.k = .mp kt et){xo:Operand}{id:Nat}{K A:Ty}{kv:List (K.den×A.den)}(hi:h id=some (.mpo K A kv))(hx:V (Fr (own φ h) Bw w) ρ (.mp id) (a.eval xo))
  (ho:o.op = .call { callee:= .builtin .len,args:= #[xo],argTypes:= #[t] }):Good P o a w (Post Bw w0 ρ φ h w new (.p false (.int .i64) (kv.length:Int)) []):=by
 obtain⟨r,es,clock,e1,hρ,hφ,hb,hK,hkeys,hnd,hvals⟩:=F5 m hi hx
 obtain⟨dm,hm,hmk⟩:=ht.hu
 rw[hk]at hmk
 simp only[UK]at hmk
 subst hmk
 have hlen:es.size=kv.length:=by
  have:=congrArg List.length hkeys
  simpa using this
 refine Good.of_run (v:= .int .i64 (kv.length:Int)) (w':=w) ?_ (Post.pure m (eQ _ _ _))
 simp only[execOp,ho,resolve,invoke,builtin,Sem.run_bind,Sem.run_pure,Result.andThen_ok,List.map_toArray,List.map_cons,List.map_nil,e1]
 simp[Builtin.len_,run_underlying hm,Go.MapKept.run_getObj_map hb,goInt,hlen,Result.andThen]
theorem aGL(m:Mem Bw w0 ρ φ h w){o:Oper}{a:Act}{xo yo:Operand}{tys:Array TypeId}{β β':Bool}{k:IntKind}{i j:Int}(hx:V (Fr (own φ h) Bw w) ρ (.p β (.int k) i) (a.eval xo))(hy:V (Fr (own φ h) Bw w) ρ (.p β' (.int k) j) (a.eval yo))
  (ho:o.op = .call { callee:= .builtin .min,args:= #[xo,yo],argTypes:=tys }):Good P o a w (Post Bw w0 ρ φ h w new (.p false (.int k) (min i j)) []):=by
 refine Good.of_run (v:= .int k (min i j)) (w':=w) ?_ (Post.pure m (eQ _ _ _))
 have e:(if j<i then j else i)=min i j:=by
  by_cases hlt:j<i
  ·rw[if_pos hlt];omega
  ·rw[if_neg hlt];omega
 simp only[execOp,ho,resolve,invoke,builtin,Sem.run_bind,Sem.run_pure,Result.andThen_ok,List.map_toArray,List.map_cons,List.map_nil,cN hx,cN hy]
 simp[Builtin.min_,Builtin.min2,e]
theorem aHg(m:Mem Bw w0 ρ φ h w){o:Oper}{a:Act}{xo yo:Operand}{tys:Array TypeId}{β β':Bool}{k:IntKind}{i j:Int}(hx:V (Fr (own φ h) Bw w) ρ (.p β (.int k) i) (a.eval xo))(hy:V (Fr (own φ h) Bw w) ρ (.p β' (.int k) j) (a.eval yo))
  (ho:o.op = .call { callee:= .builtin .max,args:= #[xo,yo],argTypes:=tys }):Good P o a w (Post Bw w0 ρ φ h w new (.p false (.int k) (max i j)) []):=by
 refine Good.of_run (v:= .int k (max i j)) (w':=w) ?_ (Post.pure m (eQ _ _ _))
 have e:(if j > i then j else i)=max i j:=by
  by_cases hlt:j > i
  ·rw[if_pos hlt];omega
  ·rw[if_neg hlt];omega
 simp only[execOp,ho,resolve,invoke,builtin,Sem.run_bind,Sem.run_pure,Result.andThen_ok,List.map_toArray,List.map_cons,List.map_nil,cN hx,cN hy]
 simp[Builtin.max_,Builtin.max2,e]
end
end Go.Tv
