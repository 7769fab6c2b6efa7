import Derived.Test.YtbedjpdfkmfplaaGreatDoorTvKz
import Derived.Orders
namespace Go.Tv
open Go Go.RowKit
structure An where
 asm:List (Nat×Bool)
 jg:List (Nat×yt)
def guardOf(an:An)(n:NS)(ops:Array Oper)(g:Nat×Bool)(s:Nat→ag):Option (Bool×Option Prop) :=
 match(ops[g.1]?).bind (·.dst)with
 | some d=>match s d,look an.asm g.1 with
  | .p _ .bool e,some b=>if d<n.sz then some (b == g.2,some (e=b))else none
  | .p _ .bool e,none=>if d<n.sz then some (e == g.2,none)else none
  | .tup _,_=>some (false,none)
  | _,_=>none
 | none=>none
def NZ:Option Prop→Prop
 | none=>True
 | some q=>q
def Kp:Option Prop→Prop→Prop
 | none,c=>c
 | some q,c=>q∧c
theorem BB:∀ {q:Option Prop} {c:Prop},Kp q c→NZ q
 | none,_,_=>trivial
 | some _,_,h=>h.1
theorem JI:∀ {q:Option Prop} {c:Prop},Kp q c→c
 | none,_,h=>h
 | some _,_,h=>h.2
def dN(s:Nat→ag)(d:QJ)(x:ag):Nat→ag :=
 match d with
 | some d=>bu s d x
 | none=>s
def xU(n:NS)(d:QJ):Bool :=
 match d with
 | some d=>decide (d<n.sz)
 | none=>true
def qc(P:Program)(tb:bQ)(an:An)(n:NS)(base:Nat)(ops:Array Oper)(i:Nat)(o:Oper)(s:Nat→ag)(h:Nat→Qz):XQ :=
 if xU n o.dst∧dieOf (look an.jg i)=none then
  match o.guard with
  | none=>GK P tb (base+8*i) (look an.asm i) (look an.jg i) o.op s h
  | some g=>match guardOf an n ops g s with
   | some (true,q)=>match GK P tb (base+8*i) (look an.asm i) (look an.jg i) o.op s h with
    | some (x,u,c)=>some (x,u,Kp q c)
    | none=>none
   | some (false,q)=>some (.tup [],[],NZ q)
   | none=>none
 else none
section
variable{P:Program}{tb:bQ}{an:An}{n:NS}{base:Nat}{ops:Array Oper}{Bw:Nat→Prop}{w0:cE P}
structure Hh{P:Program}(n:NS)(base:Nat)(Bw:Nat→Prop)(w0:cE P)(done:Nat→Prop)(s:Nat→ag)(h:Nat→Qz)(a:Act)(w:World):Prop where
 ex:∃ρ φ,Mem Bw w0 ρ φ h w∧bV n (Fr (own φ h) Bw w) ρ s a∧∀id u,ρ id=some u→id<base∨∃i j,done i∧j<8∧id=base+8*i+j
theorem bV.BP{F:Bool→Addr→Value→Prop}{ρ:Nat→QW}{s:Nat→ag}{a:Act}(h:bV n F ρ s a){x:ag}{v:Value}(e:V F ρ x v){d:QJ}(hd:xU n d=true):
  bV n F ρ (dN s d x) (a.put d v):=by
 cases d with
 | none=>exact h
 | some d=>exact h.put e (by simpa [xU]using hd)
theorem na{F:Bool→Addr→Value→Prop}{ρ:Nat→QW}{s:Nat→ag}{a:Act}(B:bV n F ρ s a){o:Oper}{g:Nat×Bool}(D:o.guard=some g){b:Bool}{q:Option Prop}(h:guardOf an n ops g s=some (b,q))(C:NZ q):
  Region.wanted o (yielded ops a.tmps)=b:=by
 obtain⟨j,want⟩:=g;unfold guardOf at h;unfold Region.wanted;rw[D];simp only at h ⊢;split at h
 ·rename_i d hd;split at h
  ·rename_i β A b hb ha;split at h
   ·rename_i f;cases h
    replace C:A=b:=C
    subst C;have z:=B.sl d;rw[hb]at z;have v:=kL z;have u:d<a.tmps.size:=by rw[B.tm];exact f
    have:a.tmps[d]? = some (.bool A):=by rw[Array.getElem?_eq_getElem u];simp only[Array.getD,u,dif_pos]at v;simpa using v
    simp only[yielded,hd,Option.bind_some,this];cases A <;> cases want <;> rfl
   ·cases h
  ·rename_i β A hb ha;split at h
   ·rename_i f;cases h;have z:=B.sl d;rw[hb]at z;have v:=kL z;have u:d<a.tmps.size:=by rw[B.tm];exact f
    have:a.tmps[d]? = some (.bool A):=by rw[Array.getElem?_eq_getElem u];simp only[Array.getD,u,dif_pos]at v;simpa using v
    simp only[yielded,hd,Option.bind_some,this];cases A <;> cases want <;> rfl
   ·cases h
  ·rename_i _ I hb;cases h;have z:=B.sl d;rw[hb]at z;simp only[V]at z;obtain⟨E,e,_⟩:=z;simp only[yielded,hd,Option.bind_some];rcases Nat.lt_or_ge d a.tmps.size with f | f
   ·have:a.tmps[d]? = some (.tuple E):=by rw[Array.getElem?_eq_getElem f];simp only[Array.getD,f,dif_pos]at e;simpa using e
    rw[this];rfl
   ·rw[Array.getElem?_eq_none f];rfl
  ·cases h
 ·cases h
theorem ka(X:bY P tb){done:Nat→Prop}{s:Nat→ag}{h:Nat→Qz}{a:Act}{w:World}(hm:Hh n base Bw w0 done s h a w){i:Nat}{o:Oper}(hi:ops[i]? = some o)(hd:¬done i)
  {x:ag} {u:iu} {c:Prop} (e:qc P tb an n base ops i o s h=some (x,u,c)) (N:c) {K:Act→World→Prop} {Q:Exit→Act→World→Prop}
  (hk:∀a' w',Hh n base Bw w0 (fun j=>done j∨j=i) (dN s o.dst x) (apply u h) a' w'→K a' w'):wpOp P ops Q i K a w:=by
 obtain⟨ρ,φ,m,E,B⟩:=hm.ex;unfold qc at e;split at e
 ·rename_i C;obtain⟨A,I⟩:=C;have run:∀ {Y:Prop},GK P tb (base+8*i) (look an.asm i) (look an.jg i) o.op s h=some (x,u,Y)→Y→o.wp P a w K Q:=fun f Z=>by
   have hn:∀j,j<8→ρ (base+8*i+j)=none:=fun j hj=>by
    cases hq:ρ (base+8*i+j)with
    | none=>rfl
    | some v =>
     rcases B _ _ hq with D | ⟨J,j',D,z,O⟩
     ·omega
     ·exact absurd (by rwa [show i=J by omega]) hd
   refine HZ X m E hn I f Z K Q fun v w' ⟨a1,a2,q1,q2,q3,q4,q5⟩=>hk _ _ ⟨a1,a2,q1,(E.mono q2 q3).BP q5 A,fun id v hv=>?_⟩
   rcases q4 id v hv with D | D
   ·rcases B id v D with z | ⟨J,j,z,O⟩
    ·exact .inl z
    ·exact .inr ⟨J,j,.inl z,O⟩
   ·obtain⟨j,D,z⟩:=D;exact .inr ⟨i,j,.inr rfl,D,z⟩
  unfold wpOp;rw[hi];simp only;split at e
  ·rename_i L;have M:Region.wanted o (yielded ops a.tmps)=true:=by unfold Region.wanted;rw[L]
   rw[if_pos M];exact .inl (run e N)
  ·rename_i g ho;split at e
   ·rename_i q L;split at e
    ·rename_i x' u' Y f;cases e;have M:=na E ho L (BB N);rw[if_pos M];exact .inl (run f (JI N))
    ·cases e
   ·rename_i q L;cases e;have M:=na E ho L N;rw[if_neg (by rw[M];simp)];refine hk _ _ ⟨ρ,φ,m,E.BP (by simp only[V];exact⟨#[],rfl,rfl,by simp only[VL]⟩) A,fun id v hv=>?_⟩;rcases B id v hv with z | ⟨J,j,z,O⟩
    ·exact .inl z
    ·exact .inr ⟨J,j,.inl z,O⟩
   ·cases e
 ·cases e
def BA(P:Program)(tb:bQ)(an:An)(n:NS)(base:Nat)(ops:Array Oper)(i:Nat)(o:Oper)(s:Nat→ag)(h:Nat→Qz):Option (iu×Value×Prop) :=
 match dying o.op (look an.jg i)with
 | some y=>match o.guard with
  | none=>match GK P tb (base+8*i) (look an.asm i) (look an.jg i) o.op s h with
   | some (_,u,c)=>some (u,y,c)
   | none=>none
  | some g=>match guardOf an n ops g s with
   | some (true,q)=>match GK P tb (base+8*i) (look an.asm i) (look an.jg i) o.op s h with
    | some (_,u,c)=>some (u,y,Kp q c)
    | none=>none
   | _=>none
 | none=>none
theorem xK{done:Nat→Prop}{s:Nat→ag}{h:Nat→Qz}{a:Act}{w:World}(Z:Hh n base Bw w0 done s h a w){i:Nat}{o:Oper}(hi:ops[i]? = some o)(hd:¬done i)
  {u:iu} {y:Value} {c:Prop} (f:BA P tb an n base ops i o s h=some (u,y,c)) (D:c) {K:Act→World→Prop} {Q:Exit→Act→World→Prop}
  (hk:∀C,Hh n base Bw w0 (fun j=>done j∨j=i) s (apply u h) a C→Q (.panic [{ v:=y,recovered:=false }]) a C):wpOp P ops Q i K a w:=by
 obtain⟨ρ,φ,m,E,B⟩:=Z.ex;unfold BA at f;split at f
 ·rename_i y' I;have run:∀ {x:ag} {X:Prop},GK P tb (base+8*i) (look an.asm i) (look an.jg i) o.op s h=some (x,u,X)→X→y'=y→o.wp P a w K Q:=fun e J ey=>by
   subst ey;have hn:∀j,j<8→ρ (base+8*i+j)=none:=fun j hj=>by
    cases hq:ρ (base+8*i+j)with
    | none=>rfl
    | some v =>
     rcases B _ _ hq with z | ⟨L,j',z,A,Y⟩
     ·omega
     ·exact absurd (by rwa [show i=L by omega]) hd
   refine Kr m E hn I e J K Q fun C ⟨v,M,N,q1,q2,q3,q4,_⟩=>hk C ⟨M,N,q1,E.mono q2 q3,fun id v hv=>?_⟩
   rcases q4 id v hv with z | z
   ·rcases B id v z with A | ⟨L,j,A,Y⟩
    ·exact .inl A
    ·exact .inr ⟨L,j,.inl A,Y⟩
   ·obtain⟨j,z,A⟩:=z;exact .inr ⟨i,j,.inr rfl,z,A⟩
  unfold wpOp;rw[hi];simp only;split at f
  ·rename_i O;have V:Region.wanted o (yielded ops a.tmps)=true:=by unfold Region.wanted;rw[O]
   rw[if_pos V];split at f
   ·rename_i e;cases f;exact .inl (run e D rfl)
   ·cases f
  ·rename_i g ho;split at f
   ·rename_i q O;split at f
    ·rename_i e;cases f;have V:=na E ho O (BB D);rw[if_pos V];exact .inl (run e (JI D) rfl)
    ·cases f
   ·cases f
 ·cases f
def Hn(P:Program)(tb:bQ)(an:An)(n:NS)(base:Nat)(ops:Array Oper):List Oper→Nat→(Nat→ag)→(Nat→Qz)→Option ((Nat→ag)×(Nat→Qz)×List Prop)
 | [],_,s,h=>some (s,h,[])
 | o::r,k,s,h=>match qc P tb an n base ops k o s h with
  | some (x,u,c)=>match Hn P tb an n base ops r (k+1) (dN s o.dst x) (apply u h)with
   | some (e,h',f)=>some (e,h',c::f)
   | none=>none
  | none=>none
def qj:List Prop→Prop
 | []=>True
 | c::e=>c∧qj e
theorem yn(f:bY P tb){Q:Exit→Act→World→Prop}:∀(l:List Oper) (k:Nat) {s:Nat→ag} {h:Nat→Qz} {a:Act} {w:World},Hh n base Bw w0 (fun j=>j<k) s h a w→(∀j,l[j]? = ops[k+j]?) →
  ∀ {B:Nat→ag} {h':Nat→Qz} {C:List Prop},Hn P tb an n base ops l k s h=some (B,h',C)→qj C→(∀q z,Hh n base Bw w0 (fun j=>j<k+l.length) B h' q z→Q .normal q z) →
  wpOps P ops Q (List.range' k l.length) a w
 | [],k,s,h,a,w,A,_,B,h',C,e,D,E=>by
  cases e;exact E a w (by simpa using A)
 | o::l,k,s,h,a,w,A,hl,B,h',C,e,D,E=>by
  have M:ops[k]? = some o:=by simpa using(hl 0).symm
  simp only[Hn]at e;split at e
  ·rename_i x u c N;split at e
   ·rename_i s2 h2 O I;cases e;simp only[List.length_cons,List.range'_succ,wpOps_cons];refine ka f A M (Nat.lt_irrefl k) N D.1 fun q z J=>?_
    refine yn f l (k+1) ?_ (fun j=>by have:=hl (j+1);simpa [Nat.add_assoc,Nat.add_comm 1 j]using this) I D.2 (fun q z A=>E q z (by simpa [Nat.add_assoc,Nat.add_comm 1]using A));obtain⟨ρ,φ,V,X,Y⟩:=J.ex;refine⟨ρ,φ,V,X,fun id v Z=>?_⟩;rcases Y id v Z with L | ⟨j,j2,L,h4⟩
    ·exact .inl L
    ·exact .inr ⟨j,j2,by omega,h4⟩
   ·cases e
  ·cases e
def pK(P:Program)(tb:bQ)(an:An)(n:NS)(base:Nat)(ops:Array Oper):Nat→List Oper→Nat→(Nat→ag)→(Nat→Qz)→Option ((Nat→ag)×(Nat→Qz)×List Prop×Value)
 | _,[],_,_,_=>none
 | 0,o::_,k,s,h=>match BA P tb an n base ops k o s h with
  | some (u,y,c)=>some (s,apply u h,[c],y)
  | none=>none
 | r+1,o::l,k,s,h=>match qc P tb an n base ops k o s h with
  | some (x,u,c)=>match pK P tb an n base ops r l (k+1) (dN s o.dst x) (apply u h)with
   | some (e,h',f,y)=>some (e,h',c::f,y)
   | none=>none
  | none=>none
theorem sH(A:bY P tb){Q:Exit→Act→World→Prop}:∀(r:Nat) (l:List Oper) (k:Nat) {s:Nat→ag} {h:Nat→Qz} {a:Act} {w:World},Hh n base Bw w0 (fun j=>j<k) s h a w→(∀j,l[j]? = ops[k+j]?) →
  ∀ {B:Nat→ag} {h':Nat→Qz} {C:List Prop} {y:Value},pK P tb an n base ops r l k s h=some (B,h',C,y)→qj C→(∀D f,Hh n base Bw w0 (fun j=>j<k+l.length) B h' D f→Q (.panic [{ v:=y,recovered:=false }]) D f) →
  wpOps P ops Q (List.range' k l.length) a w
 | _,[],k,s,h,a,w,z,_,B,h',C,y,e,E,J=>by simp[pK]at e
 | 0,o::l,k,s,h,a,w,z,hl,B,h',C,y,e,E,J=>by
  have L:ops[k]? = some o:=by simpa using(hl 0).symm
  simp only[pK]at e;split at e
  ·rename_i u y' c M;cases e;simp only[List.length_cons,List.range'_succ,wpOps_cons];refine xK z L (Nat.lt_irrefl k) M E.1 fun f q=>J a f ?_
   obtain⟨ρ,φ,N,O,V⟩:=q.ex;refine⟨ρ,φ,N,O,fun id v X=>?_⟩;rcases V id v X with I | ⟨j,Y,I,Z⟩
   ·exact .inl I
   ·refine .inr ⟨j,Y,?_,Z⟩;simp only[List.length_cons];omega
  ·cases e
 | r+1,o::l,k,s,h,a,w,z,hl,B,h',C,y,e,E,J=>by
  have L:ops[k]? = some o:=by simpa using(hl 0).symm
  simp only[pK]at e;split at e
  ·rename_i x u c M;split at e
   ·rename_i s2 h2 a2 y2 a1;cases e;simp only[List.length_cons,List.range'_succ,wpOps_cons];refine ka A z L (Nat.lt_irrefl k) M E.1 fun D f q=>?_
    refine sH A r l (k+1) ?_ (fun j=>by have:=hl (j+1);simpa [Nat.add_assoc,Nat.add_comm 1 j]using this) a1 E.2 (fun D f z=>J D f (by simpa [Nat.add_assoc,Nat.add_comm 1]using z));obtain⟨ρ,φ,N,O,V⟩:=q.ex;refine⟨ρ,φ,N,O,fun id v X=>?_⟩;rcases V id v X with I | ⟨j,Y,I,Z⟩
    ·exact .inl I
    ·exact .inr ⟨j,Y,by omega,Z⟩
   ·cases e
  ·cases e
end
end Go.Tv
