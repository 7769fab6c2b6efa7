import Derived.Test.YtflahpmlcfhpcaaGreatDoorTvKz
import Derived.Orders
namespace Go.Tv
open Go Go.RowKit
structure An where
 asm:List (Nat×Bool)
 iG:List (Nat×uY)
def guardOf(an:An)(n:NS)(ops:Array Oper)(g:Nat×Bool)(s:Nat→af):Option (Bool×Option Prop) :=
 match(ops[g.1]?).bind (·.dst)with
 | some d=>match s d,look an.asm g.1 with
  | .p _ .bool e,some b=>if d<n.sz then some (b == g.2,some (e=b))else none
  | .p _ .bool e,none=>if d<n.sz then some (e == g.2,none)else none
  | .tup _,_=>some (false,none)
  | _,_=>none
 | none=>none
def LJ:Option Prop→Prop
 | none=>True
 | some q=>q
def HU:Option Prop→Prop→Prop
 | none,c=>c
 | some q,c=>q∧c
theorem zN:∀ {q:Option Prop} {c:Prop},HU q c→LJ q
 | none,_,_=>trivial
 | some _,_,h=>h.1
theorem Fw:∀ {q:Option Prop} {c:Prop},HU q c→c
 | none,_,h=>h
 | some _,_,h=>h.2
def j5(s:Nat→af)(d:QJ)(x:af):Nat→af :=
 match d with
 | some d=>bF s d x
 | none=>s
def DK(n:NS)(d:QJ):Bool :=
 match d with
 | some d=>decide (d<n.sz)
 | none=>true
def o7(P:Program)(tb:bQ)(an:An)(n:NS)(base:Nat)(ops:Array Oper)(i:Nat)(o:Oper)(s:Nat→af)(h:Nat→Qz):XQ :=
 if DK n o.dst∧dieOf (look an.iG i)=none then
  match o.guard with
  | none=>EM P tb (base+8*i) (look an.asm i) (look an.iG i) o.op s h
  | some g=>match guardOf an n ops g s with
   | some (true,q)=>match EM P tb (base+8*i) (look an.asm i) (look an.iG i) o.op s h with
    | some (x,u,c)=>some (x,u,HU q c)
    | none=>none
   | some (false,q)=>some (.tup [],[],LJ q)
   | none=>none
 else none
section
variable{P:Program}{tb:bQ}{an:An}{n:NS}{base:Nat}{ops:Array Oper}{Bw:Nat→Prop}{w0:cz P}
structure EY{P:Program}(n:NS)(base:Nat)(Bw:Nat→Prop)(w0:cz P)(done:Nat→Prop)(s:Nat→af)(h:Nat→Qz)(a:Act)(w:World):Prop where
 ex:∃ρ φ,Mem Bw w0 ρ φ h w∧eL n (Fr (own φ h) Bw w) ρ s a∧∀id u,ρ id=some u→id<base∨∃i j,done i∧j<8∧id=base+8*i+j
theorem eL.Kc{F:Bool→Addr→Value→Prop}{ρ:Nat→QW}{s:Nat→af}{a:Act}(h:eL n F ρ s a){x:af}{v:Value}(e:V F ρ x v){d:QJ}(hd:DK n d=true):
  eL n F ρ (j5 s d x) (a.put d v):=by
 cases d with
 | none=>exact h
 | some d=>exact h.put e (by simpa [DK]using hd)
theorem mh{F:Bool→Addr→Value→Prop}{ρ:Nat→QW}{s:Nat→af}{a:Act}(z:eL n F ρ s a){o:Oper}{g:Nat×Bool}(B:o.guard=some g){b:Bool}{q:Option Prop}(h:guardOf an n ops g s=some (b,q))(A:LJ q):
  Region.wanted o (yielded ops a.tmps)=b:=by
 obtain⟨j,want⟩:=g;unfold guardOf at h;unfold Region.wanted;rw[B];simp only at h ⊢;split at h
 ·rename_i d hd;split at h
  ·rename_i β x b hb ha;split at h
   ·rename_i f;cases h
    replace A:x=b:=A
    subst A;have v:=z.sl d;rw[hb]at v;have u:=nh v;have p:d<a.tmps.size:=by rw[z.tm];exact f
    have:a.tmps[d]? = some (.bool x):=by rw[Array.getElem?_eq_getElem p];simp only[Array.getD,p,dif_pos]at u;simpa using u
    simp only[yielded,hd,Option.bind_some,this];cases x <;> cases want <;> rfl
   ·cases h
  ·rename_i β x hb ha;split at h
   ·rename_i f;cases h;have v:=z.sl d;rw[hb]at v;have u:=nh v;have p:d<a.tmps.size:=by rw[z.tm];exact f
    have:a.tmps[d]? = some (.bool x):=by rw[Array.getElem?_eq_getElem p];simp only[Array.getD,p,dif_pos]at u;simpa using u
    simp only[yielded,hd,Option.bind_some,this];cases x <;> cases want <;> rfl
   ·cases h
  ·rename_i _ D hb;cases h;have v:=z.sl d;rw[hb]at v;simp only[V]at v;obtain⟨C,e,_⟩:=v;simp only[yielded,hd,Option.bind_some];rcases Nat.lt_or_ge d a.tmps.size with f | f
   ·have:a.tmps[d]? = some (.tuple C):=by rw[Array.getElem?_eq_getElem f];simp only[Array.getD,f,dif_pos]at e;simpa using e
    rw[this];rfl
   ·rw[Array.getElem?_eq_none f];rfl
  ·cases h
 ·cases h
theorem jN(N:cb P tb){done:Nat→Prop}{s:Nat→af}{h:Nat→Qz}{a:Act}{w:World}(hm:EY n base Bw w0 done s h a w){i:Nat}{o:Oper}(hi:ops[i]? = some o)(hd:¬done i)
  {x:af} {u:gT} {c:Prop} (e:o7 P tb an n base ops i o s h=some (x,u,c)) (hc:c) {K:Act→World→Prop} {Q:Exit→Act→World→Prop}
  (hk:∀a' w',EY n base Bw w0 (fun j=>done j∨j=i) (j5 s o.dst x) (apply u h) a' w'→K a' w'):wpOp P ops Q i K a w:=by
 obtain⟨ρ,φ,m,D,A⟩:=hm.ex;unfold o7 at e;split at e
 ·rename_i B;obtain⟨z,E⟩:=B;have run:∀ {O:Prop},EM P tb (base+8*i) (look an.asm i) (look an.iG i) o.op s h=some (x,u,O)→O→o.wp P a w K Q:=fun f X=>by
   have hn:∀j,j<8→ρ (base+8*i+j)=none:=fun j hj=>by
    cases hq:ρ (base+8*i+j)with
    | none=>rfl
    | some v =>
     rcases A _ _ hq with C | ⟨I,j',C,p,M⟩
     ·omega
     ·exact absurd (by rwa [show i=I by omega]) hd
   refine Gr N m D hn E f X K Q fun v w' ⟨Y,Z,q1,q2,q3,q4,q5⟩=>hk _ _ ⟨Y,Z,q1,(D.mono q2 q3).Kc q5 z,fun id v hv=>?_⟩
   rcases q4 id v hv with C | C
   ·rcases A id v C with p | ⟨I,j,p,M⟩
    ·exact .inl p
    ·exact .inr ⟨I,j,.inl p,M⟩
   ·obtain⟨j,C,p⟩:=C;exact .inr ⟨i,j,.inr rfl,C,p⟩
  unfold wpOp;rw[hi];simp only;split at e
  ·rename_i J;have L:Region.wanted o (yielded ops a.tmps)=true:=by unfold Region.wanted;rw[J]
   rw[if_pos L];exact .inl (run e hc)
  ·rename_i g ho;split at e
   ·rename_i q J;split at e
    ·rename_i x' u' O f;cases e;have L:=mh D ho J (zN hc);rw[if_pos L];exact .inl (run f (Fw hc))
    ·cases e
   ·rename_i q J;cases e;have L:=mh D ho J hc;rw[if_neg (by rw[L];simp)];refine hk _ _ ⟨ρ,φ,m,D.Kc (by simp only[V];exact⟨#[],rfl,rfl,by simp only[VL]⟩) z,fun id v hv=>?_⟩;rcases A id v hv with p | ⟨I,j,p,M⟩
    ·exact .inl p
    ·exact .inr ⟨I,j,.inl p,M⟩
   ·cases e
 ·cases e
def Ak(P:Program)(tb:bQ)(an:An)(n:NS)(base:Nat)(ops:Array Oper)(i:Nat)(o:Oper)(s:Nat→af)(h:Nat→Qz):Option (gT×Value×Prop) :=
 match dying o.op (look an.iG i)with
 | some y=>match o.guard with
  | none=>match EM P tb (base+8*i) (look an.asm i) (look an.iG i) o.op s h with
   | some (_,u,c)=>some (u,y,c)
   | none=>none
  | some g=>match guardOf an n ops g s with
   | some (true,q)=>match EM P tb (base+8*i) (look an.asm i) (look an.iG i) o.op s h with
    | some (_,u,c)=>some (u,y,HU q c)
    | none=>none
   | _=>none
 | none=>none
theorem vm{done:Nat→Prop}{s:Nat→af}{h:Nat→Qz}{a:Act}{w:World}(X:EY n base Bw w0 done s h a w){i:Nat}{o:Oper}(hi:ops[i]? = some o)(hd:¬done i)
  {u:gT} {y:Value} {c:Prop} (f:Ak P tb an n base ops i o s h=some (u,y,c)) (hc:c) {K:Act→World→Prop} {Q:Exit→Act→World→Prop}
  (hk:∀B,EY n base Bw w0 (fun j=>done j∨j=i) s (apply u h) a B→Q (.panic [{ v:=y,recovered:=false }]) a B):wpOp P ops Q i K a w:=by
 obtain⟨ρ,φ,m,C,A⟩:=X.ex;unfold Ak at f;split at f
 ·rename_i Y D;have run:∀ {x:af} {O:Prop},EM P tb (base+8*i) (look an.asm i) (look an.iG i) o.op s h=some (x,u,O)→O→Y=y→o.wp P a w K Q:=fun e E Z=>by
   subst Z;have hn:∀j,j<8→ρ (base+8*i+j)=none:=fun j hj=>by
    cases hq:ρ (base+8*i+j)with
    | none=>rfl
    | some v =>
     rcases A _ _ hq with p | ⟨I,j',p,z,V⟩
     ·omega
     ·exact absurd (by rwa [show i=I by omega]) hd
   refine H3 m C hn D e E K Q fun B ⟨v,J,L,q1,q2,q3,q4,_⟩=>hk B ⟨J,L,q1,C.mono q2 q3,fun id v hv=>?_⟩
   rcases q4 id v hv with p | p
   ·rcases A id v p with z | ⟨I,j,z,V⟩
    ·exact .inl z
    ·exact .inr ⟨I,j,.inl z,V⟩
   ·obtain⟨j,p,z⟩:=p;exact .inr ⟨i,j,.inr rfl,p,z⟩
  unfold wpOp;rw[hi];simp only;split at f
  ·rename_i M;have N:Region.wanted o (yielded ops a.tmps)=true:=by unfold Region.wanted;rw[M]
   rw[if_pos N];split at f
   ·rename_i e;cases f;exact .inl (run e hc rfl)
   ·cases f
  ·rename_i g ho;split at f
   ·rename_i q M;split at f
    ·rename_i e;cases f;have N:=mh C ho M (zN hc);rw[if_pos N];exact .inl (run e (Fw hc) rfl)
    ·cases f
   ·cases f
 ·cases f
def EC(P:Program)(tb:bQ)(an:An)(n:NS)(base:Nat)(ops:Array Oper):List Oper→Nat→(Nat→af)→(Nat→Qz)→Option ((Nat→af)×(Nat→Qz)×List Prop)
 | [],_,s,h=>some (s,h,[])
 | o::r,k,s,h=>match o7 P tb an n base ops k o s h with
  | some (x,u,c)=>match EC P tb an n base ops r (k+1) (j5 s o.dst x) (apply u h)with
   | some (e,h',f)=>some (e,h',c::f)
   | none=>none
  | none=>none
def oU:List Prop→Prop
 | []=>True
 | c::e=>c∧oU e
theorem u7(f:cb P tb){Q:Exit→Act→World→Prop}:∀(l:List Oper) (k:Nat) {s:Nat→af} {h:Nat→Qz} {a:Act} {w:World},EY n base Bw w0 (fun j=>j<k) s h a w→(∀j,l[j]? = ops[k+j]?) →
  ∀ {A:Nat→af} {h':Nat→Qz} {B:List Prop},EC P tb an n base ops l k s h=some (A,h',B)→oU B→(∀p q,EY n base Bw w0 (fun j=>j<k+l.length) A h' p q→Q .normal p q) →
  wpOps P ops Q (List.range' k l.length) a w
 | [],k,s,h,a,w,z,_,A,h',B,e,hc,C=>by
  cases e;exact C a w (by simpa using z)
 | o::l,k,s,h,a,w,z,hl,A,h',B,e,hc,C=>by
  have J:ops[k]? = some o:=by simpa using(hl 0).symm
  simp only[EC]at e;split at e
  ·rename_i x u c L;split at e
   ·rename_i s2 h2 M D;cases e;simp only[List.length_cons,List.range'_succ,wpOps_cons];refine jN f z J (Nat.lt_irrefl k) L hc.1 fun p q E=>?_
    refine u7 f l (k+1) ?_ (fun j=>by have:=hl (j+1);simpa [Nat.add_assoc,Nat.add_comm 1 j]using this) D hc.2 (fun p q z=>C p q (by simpa [Nat.add_assoc,Nat.add_comm 1]using z));obtain⟨ρ,φ,N,O,V⟩:=E.ex;refine⟨ρ,φ,N,O,fun id v X=>?_⟩;rcases V id v X with I | ⟨j,Y,I,Z⟩
    ·exact .inl I
    ·exact .inr ⟨j,Y,by omega,Z⟩
   ·cases e
  ·cases e
def n9(P:Program)(tb:bQ)(an:An)(n:NS)(base:Nat)(ops:Array Oper):Nat→List Oper→Nat→(Nat→af)→(Nat→Qz)→Option ((Nat→af)×(Nat→Qz)×List Prop×Value)
 | _,[],_,_,_=>none
 | 0,o::_,k,s,h=>match Ak P tb an n base ops k o s h with
  | some (u,y,c)=>some (s,apply u h,[c],y)
  | none=>none
 | r+1,o::l,k,s,h=>match o7 P tb an n base ops k o s h with
  | some (x,u,c)=>match n9 P tb an n base ops r l (k+1) (j5 s o.dst x) (apply u h)with
   | some (e,h',f,y)=>some (e,h',c::f,y)
   | none=>none
  | none=>none
theorem rI(z:cb P tb){Q:Exit→Act→World→Prop}:∀(r:Nat) (l:List Oper) (k:Nat) {s:Nat→af} {h:Nat→Qz} {a:Act} {w:World},EY n base Bw w0 (fun j=>j<k) s h a w→(∀j,l[j]? = ops[k+j]?) →
  ∀ {A:Nat→af} {h':Nat→Qz} {B:List Prop} {y:Value},n9 P tb an n base ops r l k s h=some (A,h',B,y)→oU B→(∀C f,EY n base Bw w0 (fun j=>j<k+l.length) A h' C f→Q (.panic [{ v:=y,recovered:=false }]) C f) →
  wpOps P ops Q (List.range' k l.length) a w
 | _,[],k,s,h,a,w,q,_,A,h',B,y,e,hc,E=>by simp[n9]at e
 | 0,o::l,k,s,h,a,w,q,hl,A,h',B,y,e,hc,E=>by
  have I:ops[k]? = some o:=by simpa using(hl 0).symm
  simp only[n9]at e;split at e
  ·rename_i u y' c J;cases e;simp only[List.length_cons,List.range'_succ,wpOps_cons];refine vm q I (Nat.lt_irrefl k) J hc.1 fun f p=>E a f ?_
   obtain⟨ρ,φ,L,M,N⟩:=p.ex;refine⟨ρ,φ,L,M,fun id v O=>?_⟩;rcases N id v O with D | ⟨j,V,D,X⟩
   ·exact .inl D
   ·refine .inr ⟨j,V,?_,X⟩;simp only[List.length_cons];omega
  ·cases e
 | r+1,o::l,k,s,h,a,w,q,hl,A,h',B,y,e,hc,E=>by
  have I:ops[k]? = some o:=by simpa using(hl 0).symm
  simp only[n9]at e;split at e
  ·rename_i x u c J;split at e
   ·rename_i s2 h2 Z y2 Y;cases e;simp only[List.length_cons,List.range'_succ,wpOps_cons];refine jN z q I (Nat.lt_irrefl k) J hc.1 fun C f p=>?_
    refine rI z r l (k+1) ?_ (fun j=>by have:=hl (j+1);simpa [Nat.add_assoc,Nat.add_comm 1 j]using this) Y hc.2 (fun C f q=>E C f (by simpa [Nat.add_assoc,Nat.add_comm 1]using q));obtain⟨ρ,φ,L,M,N⟩:=p.ex;refine⟨ρ,φ,L,M,fun id v O=>?_⟩;rcases N id v O with D | ⟨j,V,D,X⟩
    ·exact .inl D
    ·exact .inr ⟨j,V,by omega,X⟩
   ·cases e
  ·cases e
end
end Go.Tv
