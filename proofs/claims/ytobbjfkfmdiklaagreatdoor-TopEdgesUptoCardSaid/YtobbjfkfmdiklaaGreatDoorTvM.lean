import Derived.Test.YtobbjfkfmdiklaaGreatDoorTvKz
import Derived.Orders
namespace Go.Tv
open Go Go.RowKit
structure An where
 asm:List (Nat×Bool)
 iR:List (Nat×wh)
def guardOf(an:An)(n:NS)(ops:Array Oper)(g:Nat×Bool)(s:Nat→ag):Option (Bool×Option Prop) :=
 match(ops[g.1]?).bind (·.dst)with
 | some d=>match s d,look an.asm g.1 with
  | .p _ .bool j,some b=>if d<n.sz then some (b == g.2,some (j=b))else none
  | .p _ .bool j,none=>if d<n.sz then some (j == g.2,none)else none
  | .tup _,_=>some (false,none)
  | _,_=>none
 | none=>none
def MX:Option Prop→Prop
 | none=>True
 | some q=>q
def IY:Option Prop→Prop→Prop
 | none,c=>c
 | some q,c=>q∧c
theorem Cf:∀ {q:Option Prop} {c:Prop},IY q c→MX q
 | none,_,_=>trivial
 | some _,_,h=>h.1
theorem Ht:∀ {q:Option Prop} {c:Prop},IY q c→c
 | none,_,h=>h
 | some _,_,h=>h.2
def kh(s:Nat→ag)(d:QJ)(x:ag):Nat→ag :=
 match d with
 | some d=>bF s d x
 | none=>s
def EG(n:NS)(d:QJ):Bool :=
 match d with
 | some d=>decide (d<n.sz)
 | none=>true
def oS(P:Program)(tb:bT)(an:An)(n:NS)(base:Nat)(ops:Array Oper)(i:Nat)(o:Oper)(s:Nat→ag)(h:Nat→Qz):Qk :=
 if EG n o.dst∧dieOf (look an.iR i)=none then
  match o.guard with
  | none=>FV P tb (base+8*i) (look an.asm i) (look an.iR i) o.op s h
  | some g=>match guardOf an n ops g s with
   | some (true,q)=>match FV P tb (base+8*i) (look an.asm i) (look an.iR i) o.op s h with
    | some (x,u,c)=>some (x,u,IY q c)
    | none=>none
   | some (false,q)=>some (.tup [],[],MX q)
   | none=>none
 else none
section
variable{P:Program}{tb:bT}{an:An}{n:NS}{base:Nat}{ops:Array Oper}{Bw:Nat→Prop}{w0:cC P}
structure Fe{P:Program}(n:NS)(base:Nat)(Bw:Nat→Prop)(w0:cC P)(done:Nat→Prop)(s:Nat→ag)(h:Nat→Qz)(a:Act)(w:World):Prop where
 ex:∃ρ φ,Mem Bw w0 ρ φ h w∧fb n (Fr (own φ h) Bw w) ρ s a∧∀id u,ρ id=some u→id<base∨∃i j,done i∧j<8∧id=base+8*i+j
theorem fb.Kx{F:Bool→Addr→Value→Prop}{ρ:Nat→QW}{s:Nat→ag}{a:Act}(h:fb n F ρ s a){x:ag}{v:Value}(j:V F ρ x v){d:QJ}(hd:EG n d=true):
  fb n F ρ (kh s d x) (a.put d v):=by
 cases d with
 | none=>exact h
 | some d=>exact h.put j (by simpa [EG]using hd)
theorem mA{F:Bool→Addr→Value→Prop}{ρ:Nat→QW}{s:Nat→ag}{a:Act}(A:fb n F ρ s a){o:Oper}{g:Nat×Bool}(C:o.guard=some g){b:Bool}{q:Option Prop}(h:guardOf an n ops g s=some (b,q))(B:MX q):
  Region.wanted o (yielded ops a.tmps)=b:=by
 obtain⟨j,want⟩:=g;unfold guardOf at h;unfold Region.wanted;rw[C];simp only at h ⊢;split at h
 ·rename_i d hd;split at h
  ·rename_i β z b hb ha;split at h
   ·rename_i p;cases h
    replace B:z=b:=B
    subst B;have x:=A.sl d;rw[hb]at x;have v:=nG x;have u:d<a.tmps.size:=by rw[A.tm];exact p
    have:a.tmps[d]? = some (.bool z):=by rw[Array.getElem?_eq_getElem u];simp only[Array.getD,u,dif_pos]at v;simpa using v
    simp only[yielded,hd,Option.bind_some,this];cases z <;> cases want <;> rfl
   ·cases h
  ·rename_i β z hb ha;split at h
   ·rename_i p;cases h;have x:=A.sl d;rw[hb]at x;have v:=nG x;have u:d<a.tmps.size:=by rw[A.tm];exact p
    have:a.tmps[d]? = some (.bool z):=by rw[Array.getElem?_eq_getElem u];simp only[Array.getD,u,dif_pos]at v;simpa using v
    simp only[yielded,hd,Option.bind_some,this];cases z <;> cases want <;> rfl
   ·cases h
  ·rename_i _ E hb;cases h;have x:=A.sl d;rw[hb]at x;simp only[V]at x;obtain⟨D,e,_⟩:=x;simp only[yielded,hd,Option.bind_some];rcases Nat.lt_or_ge d a.tmps.size with p | p
   ·have:a.tmps[d]? = some (.tuple D):=by rw[Array.getElem?_eq_getElem p];simp only[Array.getD,p,dif_pos]at e;simpa using e
    rw[this];rfl
   ·rw[Array.getElem?_eq_none p];rfl
  ·cases h
 ·cases h
theorem j3(N:bX P tb){done:Nat→Prop}{s:Nat→ag}{h:Nat→Qz}{a:Act}{w:World}(hm:Fe n base Bw w0 done s h a w){i:Nat}{o:Oper}(hi:ops[i]? = some o)(hd:¬done i)
  {x:ag} {u:gX} {c:Prop} (p:oS P tb an n base ops i o s h=some (x,u,c)) (hc:c) {K:Act→World→Prop} {Q:Exit→Act→World→Prop}
  (hk:∀a' w',Fe n base Bw w0 (fun j=>done j∨j=i) (kh s o.dst x) (apply u h) a' w'→K a' w'):wpOp P ops Q i K a w:=by
 obtain⟨ρ,φ,m,D,B⟩:=hm.ex;unfold oS at p;split at p
 ·rename_i C;obtain⟨A,E⟩:=C;have run:∀ {c':Prop},FV P tb (base+8*i) (look an.asm i) (look an.iR i) o.op s h=some (x,u,c')→c'→o.wp P a w K Q:=fun z O=>by
   have hn:∀j,j<8→ρ (base+8*i+j)=none:=fun j hj=>by
    cases hq:ρ (base+8*i+j)with
    | none=>rfl
    | some v =>
     rcases B _ _ hq with h1 | ⟨I,j',h1,h2,M⟩
     ·omega
     ·exact absurd (by rwa [show i=I by omega]) hd
   refine G9 N m D hn E z O K Q fun v w' ⟨X,Y,q1,q2,q3,q4,q5⟩=>hk _ _ ⟨X,Y,q1,(D.mono q2 q3).Kx q5 A,fun id v Z=>?_⟩
   rcases q4 id v Z with h1 | h1
   ·rcases B id v h1 with h2 | ⟨I,j,h2,M⟩
    ·exact .inl h2
    ·exact .inr ⟨I,j,.inl h2,M⟩
   ·obtain⟨j,h1,h2⟩:=h1;exact .inr ⟨i,j,.inr rfl,h1,h2⟩
  unfold wpOp;rw[hi];simp only;split at p
  ·rename_i J;have L:Region.wanted o (yielded ops a.tmps)=true:=by unfold Region.wanted;rw[J]
   rw[if_pos L];exact .inl (run p hc)
  ·rename_i g ho;split at p
   ·rename_i q J;split at p
    ·rename_i x' u' c' z;cases p;have L:=mA D ho J (Cf hc);rw[if_pos L];exact .inl (run z (Ht hc))
    ·cases p
   ·rename_i q J;cases p;have L:=mA D ho J hc;rw[if_neg (by rw[L];simp)];refine hk _ _ ⟨ρ,φ,m,D.Kx (by simp only[V];exact⟨#[],rfl,rfl,by simp only[VL]⟩) A,fun id v Z=>?_⟩;rcases B id v Z with h2 | ⟨I,j,h2,M⟩
    ·exact .inl h2
    ·exact .inr ⟨I,j,.inl h2,M⟩
   ·cases p
 ·cases p
def Bn(P:Program)(tb:bT)(an:An)(n:NS)(base:Nat)(ops:Array Oper)(i:Nat)(o:Oper)(s:Nat→ag)(h:Nat→Qz):Option (gX×Value×Prop) :=
 match dying o.op (look an.iR i)with
 | some y=>match o.guard with
  | none=>match FV P tb (base+8*i) (look an.asm i) (look an.iR i) o.op s h with
   | some (_,u,c)=>some (u,y,c)
   | none=>none
  | some g=>match guardOf an n ops g s with
   | some (true,q)=>match FV P tb (base+8*i) (look an.asm i) (look an.iR i) o.op s h with
    | some (_,u,c)=>some (u,y,IY q c)
    | none=>none
   | _=>none
 | none=>none
theorem vO{done:Nat→Prop}{s:Nat→ag}{h:Nat→Qz}{a:Act}{w:World}(hm:Fe n base Bw w0 done s h a w){i:Nat}{o:Oper}(hi:ops[i]? = some o)(hd:¬done i)
  {u:gX} {y:Value} {c:Prop} (z:Bn P tb an n base ops i o s h=some (u,y,c)) (hc:c) {K:Act→World→Prop} {Q:Exit→Act→World→Prop}
  (hk:∀B,Fe n base Bw w0 (fun j=>done j∨j=i) s (apply u h) a B→Q (.panic [{ v:=y,recovered:=false }]) a B):wpOp P ops Q i K a w:=by
 obtain⟨ρ,φ,m,C,A⟩:=hm.ex;unfold Bn at z;split at z
 ·rename_i V D;have run:∀ {x:ag} {c':Prop},FV P tb (base+8*i) (look an.asm i) (look an.iR i) o.op s h=some (x,u,c')→c'→V=y→o.wp P a w K Q:=fun p E X=>by
   subst X;have hn:∀j,j<8→ρ (base+8*i+j)=none:=fun j hj=>by
    cases Y:ρ (base+8*i+j)with
    | none=>rfl
    | some v =>
     rcases A _ _ Y with h1 | ⟨I,j',h1,h2,O⟩
     ·omega
     ·exact absurd (by rwa [show i=I by omega]) hd
   refine IT m C hn D p E K Q fun B ⟨v,J,L,Z,q2,q3,q4,_⟩=>hk B ⟨J,L,Z,C.mono q2 q3,fun id v hv=>?_⟩
   rcases q4 id v hv with h1 | h1
   ·rcases A id v h1 with h2 | ⟨I,j,h2,O⟩
    ·exact .inl h2
    ·exact .inr ⟨I,j,.inl h2,O⟩
   ·obtain⟨j,h1,h2⟩:=h1;exact .inr ⟨i,j,.inr rfl,h1,h2⟩
  unfold wpOp;rw[hi];simp only;split at z
  ·rename_i M;have N:Region.wanted o (yielded ops a.tmps)=true:=by unfold Region.wanted;rw[M]
   rw[if_pos N];split at z
   ·rename_i p;cases z;exact .inl (run p hc rfl)
   ·cases z
  ·rename_i g ho;split at z
   ·rename_i q M;split at z
    ·rename_i p;cases z;have N:=mA C ho M (Cf hc);rw[if_pos N];exact .inl (run p (Ht hc) rfl)
    ·cases z
   ·cases z
 ·cases z
def AX(P:Program)(tb:bT)(an:An)(n:NS)(base:Nat)(ops:Array Oper):List Oper→Nat→(Nat→ag)→(Nat→Qz)→Option ((Nat→ag)×(Nat→Qz)×List Prop)
 | [],_,s,h=>some (s,h,[])
 | o::r,k,s,h=>match oS P tb an n base ops k o s h with
  | some (x,u,c)=>match AX P tb an n base ops r (k+1) (kh s o.dst x) (apply u h)with
   | some (j,h',p)=>some (j,h',c::p)
   | none=>none
  | none=>none
def nV:List Prop→Prop
 | []=>True
 | c::j=>c∧nV j
theorem vF(q:bX P tb){Q:Exit→Act→World→Prop}:∀(l:List Oper) (k:Nat) {s:Nat→ag} {h:Nat→Qz} {a:Act} {w:World},Fe n base Bw w0 (fun j=>j<k) s h a w→(∀j,l[j]? = ops[k+j]?) →
  ∀ {B:Nat→ag} {h':Nat→Qz} {C:List Prop},AX P tb an n base ops l k s h=some (B,h',C)→nV C→(∀z A,Fe n base Bw w0 (fun j=>j<k+l.length) B h' z A→Q .normal z A) →
  wpOps P ops Q (List.range' k l.length) a w
 | [],k,s,h,a,w,hm,_,B,h',C,p,hc,D=>by
  cases p;exact D a w (by simpa using hm)
 | o::l,k,s,h,a,w,hm,hl,B,h',C,p,hc,D=>by
  have L:ops[k]? = some o:=by simpa using(hl 0).symm
  simp only[AX]at p;split at p
  ·rename_i x u c M;split at p
   ·rename_i s2 h2 N E;cases p;simp only[List.length_cons,List.range'_succ,wpOps_cons];refine j3 q hm L (Nat.lt_irrefl k) M hc.1 fun z A I=>?_
    refine vF q l (k+1) ?_ (fun j=>by have:=hl (j+1);simpa [Nat.add_assoc,Nat.add_comm 1 j]using this) E hc.2 (fun z A hm=>D z A (by simpa [Nat.add_assoc,Nat.add_comm 1]using hm));obtain⟨ρ,φ,O,V,X⟩:=I.ex;refine⟨ρ,φ,O,V,fun id v Y=>?_⟩;rcases X id v Y with J | ⟨j,Z,J,h4⟩
    ·exact .inl J
    ·exact .inr ⟨j,Z,by omega,h4⟩
   ·cases p
  ·cases p
def py(P:Program)(tb:bT)(an:An)(n:NS)(base:Nat)(ops:Array Oper):Nat→List Oper→Nat→(Nat→ag)→(Nat→Qz)→Option ((Nat→ag)×(Nat→Qz)×List Prop×Value)
 | _,[],_,_,_=>none
 | 0,o::_,k,s,h=>match Bn P tb an n base ops k o s h with
  | some (u,y,c)=>some (s,apply u h,[c],y)
  | none=>none
 | r+1,o::l,k,s,h=>match oS P tb an n base ops k o s h with
  | some (x,u,c)=>match py P tb an n base ops r l (k+1) (kh s o.dst x) (apply u h)with
   | some (j,h',p,y)=>some (j,h',c::p,y)
   | none=>none
  | none=>none
theorem rP(A:bX P tb){Q:Exit→Act→World→Prop}:∀(r:Nat) (l:List Oper) (k:Nat) {s:Nat→ag} {h:Nat→Qz} {a:Act} {w:World},Fe n base Bw w0 (fun j=>j<k) s h a w→(∀j,l[j]? = ops[k+j]?) →
  ∀ {B:Nat→ag} {h':Nat→Qz} {C:List Prop} {y:Value},py P tb an n base ops r l k s h=some (B,h',C,y)→nV C→(∀D q,Fe n base Bw w0 (fun j=>j<k+l.length) B h' D q→Q (.panic [{ v:=y,recovered:=false }]) D q) →
  wpOps P ops Q (List.range' k l.length) a w
 | _,[],k,s,h,a,w,hm,_,B,h',C,y,p,hc,I=>by simp[py]at p
 | 0,o::l,k,s,h,a,w,hm,hl,B,h',C,y,p,hc,I=>by
  have J:ops[k]? = some o:=by simpa using(hl 0).symm
  simp only[py]at p;split at p
  ·rename_i u y' c L;cases p;simp only[List.length_cons,List.range'_succ,wpOps_cons];refine vO hm J (Nat.lt_irrefl k) L hc.1 fun q z=>I a q ?_
   obtain⟨ρ,φ,M,N,O⟩:=z.ex;refine⟨ρ,φ,M,N,fun id v V=>?_⟩;rcases O id v V with E | ⟨j,X,E,Y⟩
   ·exact .inl E
   ·refine .inr ⟨j,X,?_,Y⟩;simp only[List.length_cons];omega
  ·cases p
 | r+1,o::l,k,s,h,a,w,hm,hl,B,h',C,y,p,hc,I=>by
  have J:ops[k]? = some o:=by simpa using(hl 0).symm
  simp only[py]at p;split at p
  ·rename_i x u c L;split at p
   ·rename_i s2 h2 a1 y2 Z;cases p;simp only[List.length_cons,List.range'_succ,wpOps_cons];refine j3 A hm J (Nat.lt_irrefl k) L hc.1 fun D q z=>?_
    refine rP A r l (k+1) ?_ (fun j=>by have:=hl (j+1);simpa [Nat.add_assoc,Nat.add_comm 1 j]using this) Z hc.2 (fun D q hm=>I D q (by simpa [Nat.add_assoc,Nat.add_comm 1]using hm));obtain⟨ρ,φ,M,N,O⟩:=z.ex;refine⟨ρ,φ,M,N,fun id v V=>?_⟩;rcases O id v V with E | ⟨j,X,E,Y⟩
    ·exact .inl E
    ·exact .inr ⟨j,X,by omega,Y⟩
   ·cases p
  ·cases p
end
end Go.Tv
