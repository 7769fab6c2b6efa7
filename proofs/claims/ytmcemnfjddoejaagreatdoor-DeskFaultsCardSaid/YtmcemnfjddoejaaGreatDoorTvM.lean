import Derived.Test.YtmcemnfjddoejaaGreatDoorTvKz
import Derived.Orders
namespace Go.Tv
open Go Go.RowKit
structure An where
 asm:List (Nat×Bool)
 iO:List (Nat×xQ)
def guardOf(an:An)(n:NS)(ops:Array Oper)(g:Nat×Bool)(s:Nat→ag):Option (Bool×Option Prop) :=
 match(ops[g.1]?).bind (·.dst)with
 | some d=>match s d,look an.asm g.1 with
  | .p _ .bool c,some b=>if d<n.sz then some (b == g.2,some (c=b))else none
  | .p _ .bool c,none=>if d<n.sz then some (c == g.2,none)else none
  | .tup _,_=>some (false,none)
  | _,_=>none
 | none=>none
def N3:Option Prop→Prop
 | none=>True
 | some q=>q
def Ks:Option Prop→Prop→Prop
 | none,c=>c
 | some q,c=>q∧c
theorem BC:∀ {q:Option Prop} {c:Prop},Ks q c→N3 q
 | none,_,_=>trivial
 | some _,_,h=>h.1
theorem II:∀ {q:Option Prop} {c:Prop},Ks q c→c
 | none,_,h=>h
 | some _,_,h=>h.2
def dE(s:Nat→ag)(d:QJ)(x:ag):Nat→ag :=
 match d with
 | some d=>bq s d x
 | none=>s
def wG(n:NS)(d:QJ):Bool :=
 match d with
 | some d=>decide (d<n.sz)
 | none=>true
def pw(P:Program)(tb:bP)(an:An)(n:NS)(base:Nat)(ops:Array Oper)(i:Nat)(o:Oper)(s:Nat→ag)(h:Nat→Qz):Qk :=
 if wG n o.dst∧dieOf (look an.iO i)=none then
  match o.guard with
  | none=>Gy P tb (base+8*i) (look an.asm i) (look an.iO i) o.op s h
  | some g=>match guardOf an n ops g s with
   | some (true,q)=>match Gy P tb (base+8*i) (look an.asm i) (look an.iO i) o.op s h with
    | some (x,u,c)=>some (x,u,Ks q c)
    | none=>none
   | some (false,q)=>some (.tup [],[],N3 q)
   | none=>none
 else none
section
variable{P:Program}{tb:bP}{an:An}{n:NS}{base:Nat}{ops:Array Oper}{Bw:Nat→Prop}{w0:cu P}
structure G0{P:Program}(n:NS)(base:Nat)(Bw:Nat→Prop)(w0:cu P)(done:Nat→Prop)(s:Nat→ag)(h:Nat→Qz)(a:Act)(w:World):Prop where
 ex:∃ρ φ,Mem Bw w0 ρ φ h w∧bT n (Fr (own φ h) Bw w) ρ s a∧∀id u,ρ id=some u→id<base∨∃i j,done i∧j<8∧id=base+8*i+j
theorem bT.BS{F:Bool→Addr→Value→Prop}{ρ:Nat→QW}{s:Nat→ag}{a:Act}(h:bT n F ρ s a){x:ag}{v:Value}(e:V F ρ x v){d:QJ}(hd:wG n d=true):
  bT n F ρ (dE s d x) (a.put d v):=by
 cases d with
 | none=>exact h
 | some d=>exact h.put e (by simpa [wG]using hd)
theorem mU{F:Bool→Addr→Value→Prop}{ρ:Nat→QW}{s:Nat→ag}{a:Act}(x:bT n F ρ s a){o:Oper}{g:Nat×Bool}(A:o.guard=some g){b:Bool}{q:Option Prop}(h:guardOf an n ops g s=some (b,q))(z:N3 q):
  Region.wanted o (yielded ops a.tmps)=b:=by
 obtain⟨j,want⟩:=g;unfold guardOf at h;unfold Region.wanted;rw[A];simp only at h ⊢;split at h
 ·rename_i d hd;split at h
  ·rename_i β v b hb ha;split at h
   ·rename_i c;cases h
    replace z:v=b:=z
    subst z;have u:=x.sl d;rw[hb]at u;have p:=kq u;have f:d<a.tmps.size:=by rw[x.tm];exact c
    have:a.tmps[d]? = some (.bool v):=by rw[Array.getElem?_eq_getElem f];simp only[Array.getD,f,dif_pos]at p;simpa using p
    simp only[yielded,hd,Option.bind_some,this];cases v <;> cases want <;> rfl
   ·cases h
  ·rename_i β v hb ha;split at h
   ·rename_i c;cases h;have u:=x.sl d;rw[hb]at u;have p:=kq u;have f:d<a.tmps.size:=by rw[x.tm];exact c
    have:a.tmps[d]? = some (.bool v):=by rw[Array.getElem?_eq_getElem f];simp only[Array.getD,f,dif_pos]at p;simpa using p
    simp only[yielded,hd,Option.bind_some,this];cases v <;> cases want <;> rfl
   ·cases h
  ·rename_i _ C hb;cases h;have u:=x.sl d;rw[hb]at u;simp only[V]at u;obtain⟨B,e,_⟩:=u;simp only[yielded,hd,Option.bind_some];rcases Nat.lt_or_ge d a.tmps.size with c | c
   ·have:a.tmps[d]? = some (.tuple B):=by rw[Array.getElem?_eq_getElem c];simp only[Array.getD,c,dif_pos]at e;simpa using e
    rw[this];rfl
   ·rw[Array.getElem?_eq_none c];rfl
  ·cases h
 ·cases h
theorem jY(O:bV P tb){done:Nat→Prop}{s:Nat→ag}{h:Nat→Qz}{a:Act}{w:World}(hm:G0 n base Bw w0 done s h a w){i:Nat}{o:Oper}(hi:ops[i]? = some o)(hd:¬done i)
  {x:ag} {u:hD} {c:Prop} (e:pw P tb an n base ops i o s h=some (x,u,c)) (M:c) {K:Act→World→Prop} {Q:Exit→Act→World→Prop}
  (hk:∀a' w',G0 n base Bw w0 (fun j=>done j∨j=i) (dE s o.dst x) (apply u h) a' w'→K a' w'):wpOp P ops Q i K a w:=by
 obtain⟨ρ,φ,m,D,A⟩:=hm.ex;unfold pw at e;split at e
 ·rename_i B;obtain⟨z,E⟩:=B;have run:∀ {X:Prop},Gy P tb (base+8*i) (look an.asm i) (look an.iO i) o.op s h=some (x,u,X)→X→o.wp P a w K Q:=fun f Y=>by
   have hn:∀j,j<8→ρ (base+8*i+j)=none:=fun j hj=>by
    cases hq:ρ (base+8*i+j)with
    | none=>rfl
    | some v =>
     rcases A _ _ hq with C | ⟨I,j',C,p,N⟩
     ·omega
     ·exact absurd (by rwa [show i=I by omega]) hd
   refine HT O m D hn E f Y K Q fun v w' ⟨Z,a1,q1,q2,q3,q4,q5⟩=>hk _ _ ⟨Z,a1,q1,(D.mono q2 q3).BS q5 z,fun id v hv=>?_⟩
   rcases q4 id v hv with C | C
   ·rcases A id v C with p | ⟨I,j,p,N⟩
    ·exact .inl p
    ·exact .inr ⟨I,j,.inl p,N⟩
   ·obtain⟨j,C,p⟩:=C;exact .inr ⟨i,j,.inr rfl,C,p⟩
  unfold wpOp;rw[hi];simp only;split at e
  ·rename_i J;have L:Region.wanted o (yielded ops a.tmps)=true:=by unfold Region.wanted;rw[J]
   rw[if_pos L];exact .inl (run e M)
  ·rename_i g ho;split at e
   ·rename_i q J;split at e
    ·rename_i x' u' X f;cases e;have L:=mU D ho J (BC M);rw[if_pos L];exact .inl (run f (II M))
    ·cases e
   ·rename_i q J;cases e;have L:=mU D ho J M;rw[if_neg (by rw[L];simp)];refine hk _ _ ⟨ρ,φ,m,D.BS (by simp only[V];exact⟨#[],rfl,rfl,by simp only[VL]⟩) z,fun id v hv=>?_⟩;rcases A id v hv with p | ⟨I,j,p,N⟩
    ·exact .inl p
    ·exact .inr ⟨I,j,.inl p,N⟩
   ·cases e
 ·cases e
def DL(P:Program)(tb:bP)(an:An)(n:NS)(base:Nat)(ops:Array Oper)(i:Nat)(o:Oper)(s:Nat→ag)(h:Nat→Qz):Option (hD×Value×Prop) :=
 match dying o.op (look an.iO i)with
 | some y=>match o.guard with
  | none=>match Gy P tb (base+8*i) (look an.asm i) (look an.iO i) o.op s h with
   | some (_,u,c)=>some (u,y,c)
   | none=>none
  | some g=>match guardOf an n ops g s with
   | some (true,q)=>match Gy P tb (base+8*i) (look an.asm i) (look an.iO i) o.op s h with
    | some (_,u,c)=>some (u,y,Ks q c)
    | none=>none
   | _=>none
 | none=>none
theorem xR{done:Nat→Prop}{s:Nat→ag}{h:Nat→Qz}{a:Act}{w:World}(Y:G0 n base Bw w0 done s h a w){i:Nat}{o:Oper}(hi:ops[i]? = some o)(hd:¬done i)
  {u:hD} {y:Value} {c:Prop} (f:DL P tb an n base ops i o s h=some (u,y,c)) (C:c) {K:Act→World→Prop} {Q:Exit→Act→World→Prop}
  (hk:∀B,G0 n base Bw w0 (fun j=>done j∨j=i) s (apply u h) a B→Q (.panic [{ v:=y,recovered:=false }]) a B):wpOp P ops Q i K a w:=by
 obtain⟨ρ,φ,m,D,A⟩:=Y.ex;unfold DL at f;split at f
 ·rename_i Z E;have run:∀ {x:ag} {V:Prop},Gy P tb (base+8*i) (look an.asm i) (look an.iO i) o.op s h=some (x,u,V)→V→Z=y→o.wp P a w K Q:=fun e I ey=>by
   subst ey;have hn:∀j,j<8→ρ (base+8*i+j)=none:=fun j hj=>by
    cases hq:ρ (base+8*i+j)with
    | none=>rfl
    | some v =>
     rcases A _ _ hq with p | ⟨J,j',p,z,X⟩
     ·omega
     ·exact absurd (by rwa [show i=J by omega]) hd
   refine Ko m D hn E e I K Q fun B ⟨v,L,M,q1,q2,q3,q4,_⟩=>hk B ⟨L,M,q1,D.mono q2 q3,fun id v hv=>?_⟩
   rcases q4 id v hv with p | p
   ·rcases A id v p with z | ⟨J,j,z,X⟩
    ·exact .inl z
    ·exact .inr ⟨J,j,.inl z,X⟩
   ·obtain⟨j,p,z⟩:=p;exact .inr ⟨i,j,.inr rfl,p,z⟩
  unfold wpOp;rw[hi];simp only;split at f
  ·rename_i N;have O:Region.wanted o (yielded ops a.tmps)=true:=by unfold Region.wanted;rw[N]
   rw[if_pos O];split at f
   ·rename_i e;cases f;exact .inl (run e C rfl)
   ·cases f
  ·rename_i g ho;split at f
   ·rename_i q N;split at f
    ·rename_i e;cases f;have O:=mU D ho N (BC C);rw[if_pos O];exact .inl (run e (II C) rfl)
    ·cases f
   ·cases f
 ·cases f
def GZ(P:Program)(tb:bP)(an:An)(n:NS)(base:Nat)(ops:Array Oper):List Oper→Nat→(Nat→ag)→(Nat→Qz)→Option ((Nat→ag)×(Nat→Qz)×List Prop)
 | [],_,s,h=>some (s,h,[])
 | o::r,k,s,h=>match pw P tb an n base ops k o s h with
  | some (x,u,c)=>match GZ P tb an n base ops r (k+1) (dE s o.dst x) (apply u h)with
   | some (e,h',f)=>some (e,h',c::f)
   | none=>none
  | none=>none
def pz:List Prop→Prop
 | []=>True
 | c::e=>c∧pz e
theorem xH(f:bV P tb){Q:Exit→Act→World→Prop}:∀(l:List Oper) (k:Nat) {s:Nat→ag} {h:Nat→Qz} {a:Act} {w:World},G0 n base Bw w0 (fun j=>j<k) s h a w→(∀j,l[j]? = ops[k+j]?) →
  ∀ {A:Nat→ag} {h':Nat→Qz} {B:List Prop},GZ P tb an n base ops l k s h=some (A,h',B)→pz B→(∀p q,G0 n base Bw w0 (fun j=>j<k+l.length) A h' p q→Q .normal p q) →
  wpOps P ops Q (List.range' k l.length) a w
 | [],k,s,h,a,w,z,_,A,h',B,e,C,D=>by
  cases e;exact D a w (by simpa using z)
 | o::l,k,s,h,a,w,z,hl,A,h',B,e,C,D=>by
  have L:ops[k]? = some o:=by simpa using(hl 0).symm
  simp only[GZ]at e;split at e
  ·rename_i x u c M;split at e
   ·rename_i s2 h2 N E;cases e;simp only[List.length_cons,List.range'_succ,wpOps_cons];refine jY f z L (Nat.lt_irrefl k) M C.1 fun p q I=>?_
    refine xH f l (k+1) ?_ (fun j=>by have:=hl (j+1);simpa [Nat.add_assoc,Nat.add_comm 1 j]using this) E C.2 (fun p q z=>D p q (by simpa [Nat.add_assoc,Nat.add_comm 1]using z));obtain⟨ρ,φ,O,V,X⟩:=I.ex;refine⟨ρ,φ,O,V,fun id v Y=>?_⟩;rcases X id v Y with J | ⟨j,Z,J,h4⟩
    ·exact .inl J
    ·exact .inr ⟨j,Z,by omega,h4⟩
   ·cases e
  ·cases e
def pE(P:Program)(tb:bP)(an:An)(n:NS)(base:Nat)(ops:Array Oper):Nat→List Oper→Nat→(Nat→ag)→(Nat→Qz)→Option ((Nat→ag)×(Nat→Qz)×List Prop×Value)
 | _,[],_,_,_=>none
 | 0,o::_,k,s,h=>match DL P tb an n base ops k o s h with
  | some (u,y,c)=>some (s,apply u h,[c],y)
  | none=>none
 | r+1,o::l,k,s,h=>match pw P tb an n base ops k o s h with
  | some (x,u,c)=>match pE P tb an n base ops r l (k+1) (dE s o.dst x) (apply u h)with
   | some (e,h',f,y)=>some (e,h',c::f,y)
   | none=>none
  | none=>none
theorem rZ(z:bV P tb){Q:Exit→Act→World→Prop}:∀(r:Nat) (l:List Oper) (k:Nat) {s:Nat→ag} {h:Nat→Qz} {a:Act} {w:World},G0 n base Bw w0 (fun j=>j<k) s h a w→(∀j,l[j]? = ops[k+j]?) →
  ∀ {A:Nat→ag} {h':Nat→Qz} {B:List Prop} {y:Value},pE P tb an n base ops r l k s h=some (A,h',B,y)→pz B→(∀C f,G0 n base Bw w0 (fun j=>j<k+l.length) A h' C f→Q (.panic [{ v:=y,recovered:=false }]) C f) →
  wpOps P ops Q (List.range' k l.length) a w
 | _,[],k,s,h,a,w,q,_,A,h',B,y,e,D,I=>by simp[pE]at e
 | 0,o::l,k,s,h,a,w,q,hl,A,h',B,y,e,D,I=>by
  have J:ops[k]? = some o:=by simpa using(hl 0).symm
  simp only[pE]at e;split at e
  ·rename_i u y' c L;cases e;simp only[List.length_cons,List.range'_succ,wpOps_cons];refine xR q J (Nat.lt_irrefl k) L D.1 fun f p=>I a f ?_
   obtain⟨ρ,φ,M,N,O⟩:=p.ex;refine⟨ρ,φ,M,N,fun id v V=>?_⟩;rcases O id v V with E | ⟨j,X,E,Y⟩
   ·exact .inl E
   ·refine .inr ⟨j,X,?_,Y⟩;simp only[List.length_cons];omega
  ·cases e
 | r+1,o::l,k,s,h,a,w,q,hl,A,h',B,y,e,D,I=>by
  have J:ops[k]? = some o:=by simpa using(hl 0).symm
  simp only[pE]at e;split at e
  ·rename_i x u c L;split at e
   ·rename_i s2 h2 a1 y2 Z;cases e;simp only[List.length_cons,List.range'_succ,wpOps_cons];refine jY z q J (Nat.lt_irrefl k) L D.1 fun C f p=>?_
    refine rZ z r l (k+1) ?_ (fun j=>by have:=hl (j+1);simpa [Nat.add_assoc,Nat.add_comm 1 j]using this) Z D.2 (fun C f q=>I C f (by simpa [Nat.add_assoc,Nat.add_comm 1]using q));obtain⟨ρ,φ,M,N,O⟩:=p.ex;refine⟨ρ,φ,M,N,fun id v V=>?_⟩;rcases O id v V with E | ⟨j,X,E,Y⟩
    ·exact .inl E
    ·exact .inr ⟨j,X,by omega,Y⟩
   ·cases e
  ·cases e
end
end Go.Tv
