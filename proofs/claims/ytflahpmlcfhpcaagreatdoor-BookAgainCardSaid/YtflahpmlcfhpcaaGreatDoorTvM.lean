import Derived.Test.YtflahpmlcfhpcaaGreatDoorTvKz
import Derived.Orders
namespace Go.Tv
open Go Go.RowKit
structure An where
 asm:List (Nat×Bool)
 iM:List (Nat×wF)
def guardOf(an:An)(n:NS)(ops:Array Oper)(g:Nat×Bool)(s:Nat→ag):Option (Bool×Option Prop) :=
 match(ops[g.1]?).bind (·.dst)with
 | some d=>match s d,look an.asm g.1 with
  | .p _ .bool e,some b=>if d<n.sz then some (b == g.2,some (e=b))else none
  | .p _ .bool e,none=>if d<n.sz then some (e == g.2,none)else none
  | .tup _,_=>some (false,none)
  | _,_=>none
 | none=>none
def LA:Option Prop→Prop
 | none=>True
 | some q=>q
def Hz:Option Prop→Prop→Prop
 | none,c=>c
 | some q,c=>q∧c
theorem Ag:∀ {q:Option Prop} {c:Prop},Hz q c→LA q
 | none,_,_=>trivial
 | some _,_,h=>h.1
theorem GG:∀ {q:Option Prop} {c:Prop},Hz q c→c
 | none,_,h=>h
 | some _,_,h=>h.2
def ke(s:Nat→ag)(d:QJ)(x:ag):Nat→ag :=
 match d with
 | some d=>bF s d x
 | none=>s
def DY(n:NS)(d:QJ):Bool :=
 match d with
 | some d=>decide (d<n.sz)
 | none=>true
def oo(P:Program)(tb:bU)(an:An)(n:NS)(base:Nat)(ops:Array Oper)(i:Nat)(o:Oper)(s:Nat→ag)(h:Nat→Qz):Qk :=
 if DY n o.dst∧dieOf (look an.iM i)=none then
  match o.guard with
  | none=>Ej P tb (base+8*i) (look an.asm i) (look an.iM i) o.op s h
  | some g=>match guardOf an n ops g s with
   | some (true,q)=>match Ej P tb (base+8*i) (look an.asm i) (look an.iM i) o.op s h with
    | some (x,u,c)=>some (x,u,Hz q c)
    | none=>none
   | some (false,q)=>some (.tup [],[],LA q)
   | none=>none
 else none
section
variable{P:Program}{tb:bU}{an:An}{n:NS}{base:Nat}{ops:Array Oper}{Bw:Nat→Prop}{w0:cw P}
structure E3{P:Program}(n:NS)(base:Nat)(Bw:Nat→Prop)(w0:cw P)(done:Nat→Prop)(s:Nat→ag)(h:Nat→Qz)(a:Act)(w:World):Prop where
 ex:∃ρ φ,Mem Bw w0 ρ φ h w∧eT n (Fr (own φ h) Bw w) ρ s a∧∀id u,ρ id=some u→id<base∨∃i j,done i∧j<8∧id=base+8*i+j
theorem eT.JB{F:Bool→Addr→Value→Prop}{ρ:Nat→QW}{s:Nat→ag}{a:Act}(h:eT n F ρ s a){x:ag}{v:Value}(e:V F ρ x v){d:QJ}(hd:DY n d=true):
  eT n F ρ (ke s d x) (a.put d v):=by
 cases d with
 | none=>exact h
 | some d=>exact h.put e (by simpa [DY]using hd)
theorem mv{F:Bool→Addr→Value→Prop}{ρ:Nat→QW}{s:Nat→ag}{a:Act}(z:eT n F ρ s a){o:Oper}{g:Nat×Bool}(B:o.guard=some g){b:Bool}{q:Option Prop}(h:guardOf an n ops g s=some (b,q))(A:LA q):
  Region.wanted o (yielded ops a.tmps)=b:=by
 obtain⟨j,want⟩:=g;unfold guardOf at h;unfold Region.wanted;rw[B];simp only at h ⊢;split at h
 ·rename_i d hd;split at h
  ·rename_i β x b hb ha;split at h
   ·rename_i f;cases h
    replace A:x=b:=A
    subst A;have v:=z.sl d;rw[hb]at v;have u:=nj v;have p:d<a.tmps.size:=by rw[z.tm];exact f
    have:a.tmps[d]? = some (.bool x):=by rw[Array.getElem?_eq_getElem p];simp only[Array.getD,p,dif_pos]at u;simpa using u
    simp only[yielded,hd,Option.bind_some,this];cases x <;> cases want <;> rfl
   ·cases h
  ·rename_i β x hb ha;split at h
   ·rename_i f;cases h;have v:=z.sl d;rw[hb]at v;have u:=nj v;have p:d<a.tmps.size:=by rw[z.tm];exact f
    have:a.tmps[d]? = some (.bool x):=by rw[Array.getElem?_eq_getElem p];simp only[Array.getD,p,dif_pos]at u;simpa using u
    simp only[yielded,hd,Option.bind_some,this];cases x <;> cases want <;> rfl
   ·cases h
  ·rename_i _ D hb;cases h;have v:=z.sl d;rw[hb]at v;simp only[V]at v;obtain⟨C,e,_⟩:=v;simp only[yielded,hd,Option.bind_some];rcases Nat.lt_or_ge d a.tmps.size with f | f
   ·have:a.tmps[d]? = some (.tuple C):=by rw[Array.getElem?_eq_getElem f];simp only[Array.getD,f,dif_pos]at e;simpa using e
    rw[this];rfl
   ·rw[Array.getElem?_eq_none f];rfl
  ·cases h
 ·cases h
theorem jR(N:cg P tb){done:Nat→Prop}{s:Nat→ag}{h:Nat→Qz}{a:Act}{w:World}(hm:E3 n base Bw w0 done s h a w){i:Nat}{o:Oper}(hi:ops[i]? = some o)(hd:¬done i)
  {x:ag} {u:gZ} {c:Prop} (e:oo P tb an n base ops i o s h=some (x,u,c)) (hc:c) {K:Act→World→Prop} {Q:Exit→Act→World→Prop}
  (hk:∀a' w',E3 n base Bw w0 (fun j=>done j∨j=i) (ke s o.dst x) (apply u h) a' w'→K a' w'):wpOp P ops Q i K a w:=by
 obtain⟨ρ,φ,m,D,A⟩:=hm.ex;unfold oo at e;split at e
 ·rename_i B;obtain⟨z,E⟩:=B;have run:∀ {O:Prop},Ej P tb (base+8*i) (look an.asm i) (look an.iM i) o.op s h=some (x,u,O)→O→o.wp P a w K Q:=fun f X=>by
   have hn:∀j,j<8→ρ (base+8*i+j)=none:=fun j hj=>by
    cases hq:ρ (base+8*i+j)with
    | none=>rfl
    | some v =>
     rcases A _ _ hq with C | ⟨I,j',C,p,M⟩
     ·omega
     ·exact absurd (by rwa [show i=I by omega]) hd
   refine Fe N m D hn E f X K Q fun v w' ⟨Y,Z,q1,q2,q3,q4,q5⟩=>hk _ _ ⟨Y,Z,q1,(D.mono q2 q3).JB q5 z,fun id v hv=>?_⟩
   rcases q4 id v hv with C | C
   ·rcases A id v C with p | ⟨I,j,p,M⟩
    ·exact .inl p
    ·exact .inr ⟨I,j,.inl p,M⟩
   ·obtain⟨j,C,p⟩:=C;exact .inr ⟨i,j,.inr rfl,C,p⟩
  unfold wpOp;rw[hi];simp only;split at e
  ·rename_i J;have L:Region.wanted o (yielded ops a.tmps)=true:=by unfold Region.wanted;rw[J]
   rw[if_pos L];exact .inl (run e hc)
  ·rename_i g ho;split at e
   ·rename_i q J;split at e
    ·rename_i x' u' O f;cases e;have L:=mv D ho J (Ag hc);rw[if_pos L];exact .inl (run f (GG hc))
    ·cases e
   ·rename_i q J;cases e;have L:=mv D ho J hc;rw[if_neg (by rw[L];simp)];refine hk _ _ ⟨ρ,φ,m,D.JB (by simp only[V];exact⟨#[],rfl,rfl,by simp only[VL]⟩) z,fun id v hv=>?_⟩;rcases A id v hv with p | ⟨I,j,p,M⟩
    ·exact .inl p
    ·exact .inr ⟨I,j,.inl p,M⟩
   ·cases e
 ·cases e
def Ae(P:Program)(tb:bU)(an:An)(n:NS)(base:Nat)(ops:Array Oper)(i:Nat)(o:Oper)(s:Nat→ag)(h:Nat→Qz):Option (gZ×Value×Prop) :=
 match dying o.op (look an.iM i)with
 | some y=>match o.guard with
  | none=>match Ej P tb (base+8*i) (look an.asm i) (look an.iM i) o.op s h with
   | some (_,u,c)=>some (u,y,c)
   | none=>none
  | some g=>match guardOf an n ops g s with
   | some (true,q)=>match Ej P tb (base+8*i) (look an.asm i) (look an.iM i) o.op s h with
    | some (_,u,c)=>some (u,y,Hz q c)
    | none=>none
   | _=>none
 | none=>none
theorem vP{done:Nat→Prop}{s:Nat→ag}{h:Nat→Qz}{a:Act}{w:World}(X:E3 n base Bw w0 done s h a w){i:Nat}{o:Oper}(hi:ops[i]? = some o)(hd:¬done i)
  {u:gZ} {y:Value} {c:Prop} (f:Ae P tb an n base ops i o s h=some (u,y,c)) (hc:c) {K:Act→World→Prop} {Q:Exit→Act→World→Prop}
  (hk:∀B,E3 n base Bw w0 (fun j=>done j∨j=i) s (apply u h) a B→Q (.panic [{ v:=y,recovered:=false }]) a B):wpOp P ops Q i K a w:=by
 obtain⟨ρ,φ,m,C,A⟩:=X.ex;unfold Ae at f;split at f
 ·rename_i Y D;have run:∀ {x:ag} {O:Prop},Ej P tb (base+8*i) (look an.asm i) (look an.iM i) o.op s h=some (x,u,O)→O→Y=y→o.wp P a w K Q:=fun e E Z=>by
   subst Z;have hn:∀j,j<8→ρ (base+8*i+j)=none:=fun j hj=>by
    cases hq:ρ (base+8*i+j)with
    | none=>rfl
    | some v =>
     rcases A _ _ hq with p | ⟨I,j',p,z,V⟩
     ·omega
     ·exact absurd (by rwa [show i=I by omega]) hd
   refine Ih m C hn D e E K Q fun B ⟨v,J,L,q1,q2,q3,q4,_⟩=>hk B ⟨J,L,q1,C.mono q2 q3,fun id v hv=>?_⟩
   rcases q4 id v hv with p | p
   ·rcases A id v p with z | ⟨I,j,z,V⟩
    ·exact .inl z
    ·exact .inr ⟨I,j,.inl z,V⟩
   ·obtain⟨j,p,z⟩:=p;exact .inr ⟨i,j,.inr rfl,p,z⟩
  unfold wpOp;rw[hi];simp only;split at f
  ·rename_i M;have N:Region.wanted o (yielded ops a.tmps)=true:=by unfold Region.wanted;rw[M]
   rw[if_pos N];split at f
   ·rename_i e;cases f;exact .inl (run e hc rfl)
   ·cases f
  ·rename_i g ho;split at f
   ·rename_i q M;split at f
    ·rename_i e;cases f;have N:=mv C ho M (Ag hc);rw[if_pos N];exact .inl (run e (GG hc) rfl)
    ·cases f
   ·cases f
 ·cases f
def D7(P:Program)(tb:bU)(an:An)(n:NS)(base:Nat)(ops:Array Oper):List Oper→Nat→(Nat→ag)→(Nat→Qz)→Option ((Nat→ag)×(Nat→Qz)×List Prop)
 | [],_,s,h=>some (s,h,[])
 | o::r,k,s,h=>match oo P tb an n base ops k o s h with
  | some (x,u,c)=>match D7 P tb an n base ops r (k+1) (ke s o.dst x) (apply u h)with
   | some (e,h',f)=>some (e,h',c::f)
   | none=>none
  | none=>none
def oU:List Prop→Prop
 | []=>True
 | c::e=>c∧oU e
theorem vN(f:cg P tb){Q:Exit→Act→World→Prop}:∀(l:List Oper) (k:Nat) {s:Nat→ag} {h:Nat→Qz} {a:Act} {w:World},E3 n base Bw w0 (fun j=>j<k) s h a w→(∀j,l[j]? = ops[k+j]?) →
  ∀ {A:Nat→ag} {h':Nat→Qz} {B:List Prop},D7 P tb an n base ops l k s h=some (A,h',B)→oU B→(∀p q,E3 n base Bw w0 (fun j=>j<k+l.length) A h' p q→Q .normal p q) →
  wpOps P ops Q (List.range' k l.length) a w
 | [],k,s,h,a,w,z,_,A,h',B,e,hc,C=>by
  cases e;exact C a w (by simpa using z)
 | o::l,k,s,h,a,w,z,hl,A,h',B,e,hc,C=>by
  have J:ops[k]? = some o:=by simpa using(hl 0).symm
  simp only[D7]at e;split at e
  ·rename_i x u c L;split at e
   ·rename_i s2 h2 M D;cases e;simp only[List.length_cons,List.range'_succ,wpOps_cons];refine jR f z J (Nat.lt_irrefl k) L hc.1 fun p q E=>?_
    refine vN f l (k+1) ?_ (fun j=>by have:=hl (j+1);simpa [Nat.add_assoc,Nat.add_comm 1 j]using this) D hc.2 (fun p q z=>C p q (by simpa [Nat.add_assoc,Nat.add_comm 1]using z));obtain⟨ρ,φ,N,O,V⟩:=E.ex;refine⟨ρ,φ,N,O,fun id v X=>?_⟩;rcases V id v X with I | ⟨j,Y,I,Z⟩
    ·exact .inl I
    ·exact .inr ⟨j,Y,by omega,Z⟩
   ·cases e
  ·cases e
def oS(P:Program)(tb:bU)(an:An)(n:NS)(base:Nat)(ops:Array Oper):Nat→List Oper→Nat→(Nat→ag)→(Nat→Qz)→Option ((Nat→ag)×(Nat→Qz)×List Prop×Value)
 | _,[],_,_,_=>none
 | 0,o::_,k,s,h=>match Ae P tb an n base ops k o s h with
  | some (u,y,c)=>some (s,apply u h,[c],y)
  | none=>none
 | r+1,o::l,k,s,h=>match oo P tb an n base ops k o s h with
  | some (x,u,c)=>match oS P tb an n base ops r l (k+1) (ke s o.dst x) (apply u h)with
   | some (e,h',f,y)=>some (e,h',c::f,y)
   | none=>none
  | none=>none
theorem qJ(z:cg P tb){Q:Exit→Act→World→Prop}:∀(r:Nat) (l:List Oper) (k:Nat) {s:Nat→ag} {h:Nat→Qz} {a:Act} {w:World},E3 n base Bw w0 (fun j=>j<k) s h a w→(∀j,l[j]? = ops[k+j]?) →
  ∀ {A:Nat→ag} {h':Nat→Qz} {B:List Prop} {y:Value},oS P tb an n base ops r l k s h=some (A,h',B,y)→oU B→(∀C f,E3 n base Bw w0 (fun j=>j<k+l.length) A h' C f→Q (.panic [{ v:=y,recovered:=false }]) C f) →
  wpOps P ops Q (List.range' k l.length) a w
 | _,[],k,s,h,a,w,q,_,A,h',B,y,e,hc,E=>by simp[oS]at e
 | 0,o::l,k,s,h,a,w,q,hl,A,h',B,y,e,hc,E=>by
  have I:ops[k]? = some o:=by simpa using(hl 0).symm
  simp only[oS]at e;split at e
  ·rename_i u y' c J;cases e;simp only[List.length_cons,List.range'_succ,wpOps_cons];refine vP q I (Nat.lt_irrefl k) J hc.1 fun f p=>E a f ?_
   obtain⟨ρ,φ,L,M,N⟩:=p.ex;refine⟨ρ,φ,L,M,fun id v O=>?_⟩;rcases N id v O with D | ⟨j,V,D,X⟩
   ·exact .inl D
   ·refine .inr ⟨j,V,?_,X⟩;simp only[List.length_cons];omega
  ·cases e
 | r+1,o::l,k,s,h,a,w,q,hl,A,h',B,y,e,hc,E=>by
  have I:ops[k]? = some o:=by simpa using(hl 0).symm
  simp only[oS]at e;split at e
  ·rename_i x u c J;split at e
   ·rename_i s2 h2 Z y2 Y;cases e;simp only[List.length_cons,List.range'_succ,wpOps_cons];refine jR z q I (Nat.lt_irrefl k) J hc.1 fun C f p=>?_
    refine qJ z r l (k+1) ?_ (fun j=>by have:=hl (j+1);simpa [Nat.add_assoc,Nat.add_comm 1 j]using this) Y hc.2 (fun C f q=>E C f (by simpa [Nat.add_assoc,Nat.add_comm 1]using q));obtain⟨ρ,φ,L,M,N⟩:=p.ex;refine⟨ρ,φ,L,M,fun id v O=>?_⟩;rcases N id v O with D | ⟨j,V,D,X⟩
    ·exact .inl D
    ·exact .inr ⟨j,V,by omega,X⟩
   ·cases e
  ·cases e
end
end Go.Tv
