/- One operation of a region, in a state. -/
import Derived.Test.YtmcemnfjddoejaaGreatDoorTvKz
import Derived.Orders
namespace Go.Tv
open Go Go.RowKit
structure An where
 asm:List (Nat×Bool)
 jb:List (Nat×wo)
def guardOf(an:An)(n:NS)(ops:Array Oper)(g:Nat×Bool)(s:Nat→ag):Option (Bool×Option Prop) :=
 match(ops[g.1]?).bind (·.dst)with
 | some d=>match s d,look an.asm g.1 with
  | .p _ .bool c,some b=>if d<n.sz then some (b == g.2,some (c=b))else none
  | .p _ .bool c,none=>if d<n.sz then some (c == g.2,none)else none
  | .tup _,_=>some (false,none)
  | _,_=>none
 | none=>none
def LX:Option Prop→Prop
 | none=>True
 | some q=>q
def Il:Option Prop→Prop→Prop
 | none,c=>c
 | some q,c=>q∧c
theorem Bk:∀ {q:Option Prop} {c:Prop},Il q c→LX q
 | none,_,_=>trivial
 | some _,_,h=>h.1
theorem Hi:∀ {q:Option Prop} {c:Prop},Il q c→c
 | none,_,h=>h
 | some _,_,h=>h.2
def dr(s:Nat→ag)(d:Option Nat)(x:ag):Nat→ag :=
 match d with
 | some d=>bH s d x
 | none=>s
def xD(n:NS)(d:Option Nat):Bool :=
 match d with
 | some d=>decide (d<n.sz)
 | none=>true
def pf(P:Program)(tb:bR)(an:An)(n:NS)(base:Nat)(ops:Array Oper)(i:Nat)(o:Oper)(s:Nat→ag)(h:Nat→Option Obj):Option Out :=
 if xD n o.dst∧dieOf (look an.jb i)=none then
  match o.guard with
  | none=>Fk P tb (base+8*i) (look an.asm i) (look an.jb i) o.op s h
  | some g=>match guardOf an n ops g s with
   | some (true,q)=>match Fk P tb (base+8*i) (look an.asm i) (look an.jb i) o.op s h with
    | some (x,u,c)=>some (x,u,Il q c)
    | none=>none
   | some (false,q)=>some (.tup [],[],LX q)
   | none=>none
 else none
section
variable{P:Program}{tb:bR}{an:An}{n:NS}{base:Nat}{ops:Array Oper}{Bw:Nat→Prop}{w0:b9 P}
structure FZ{P:Program}(n:NS)(base:Nat)(Bw:Nat→Prop)(w0:b9 P)(done:Nat→Prop)(s:Nat→ag)(h:Nat→Option Obj)(a:Act)(w:World):Prop where
 ex:∃ρ φ,Mem Bw w0 ρ φ h w∧bP n (Fr (own φ h) Bw w) ρ s a∧∀id u,ρ id=some u→id<base∨∃i j,done i∧j<8∧id=base+8*i+j
theorem bP.AF{F:Bool→Addr→Value→Prop}{ρ:Nat→Option Value}{s:Nat→ag}{a:Act}(h:bP n F ρ s a){x:ag}{v:Value}(e:V F ρ x v){d:Option Nat}(f:xD n d=true):
  bP n F ρ (dr s d x) (a.put d v):=by
 cases d with
 | none=>exact h
 | some d=>exact h.put e (by simpa [xD]using f)
theorem me{F:Bool→Addr→Value→Prop}{ρ:Nat→Option Value}{s:Nat→ag}{a:Act}(u:bP n F ρ s a){o:Oper}{g:Nat×Bool}(z:o.guard=some g){b:Bool}{q:Option Prop}(h:guardOf an n ops g s=some (b,q))(v:LX q):
  Region.wanted o (yielded ops a.tmps)=b:=by
 obtain⟨j,want⟩:=g;unfold guardOf at h;unfold Region.wanted;rw[z];simp only at h ⊢;split at h
 ·rename_i d x;split at h
  ·rename_i β p b hb ha;split at h
   ·rename_i c;cases h
    replace v:p=b:=v
    subst v;have m:=u.sl d;rw[hb]at m;have k:=jY m;have f:d<a.tmps.size:=by rw[u.tm];exact c
    have:a.tmps[d]? = some (.bool p):=by rw[Array.getElem?_eq_getElem f];simp only[Array.getD,f,dif_pos]at k;simpa using k
    simp only[yielded,x,Option.bind_some,this];cases p <;> cases want <;> rfl
   ·cases h
  ·rename_i β p hb ha;split at h
   ·rename_i c;cases h;have m:=u.sl d;rw[hb]at m;have k:=jY m;have f:d<a.tmps.size:=by rw[u.tm];exact c
    have:a.tmps[d]? = some (.bool p):=by rw[Array.getElem?_eq_getElem f];simp only[Array.getD,f,dif_pos]at k;simpa using k
    simp only[yielded,x,Option.bind_some,this];cases p <;> cases want <;> rfl
   ·cases h
  ·rename_i _ B hb;cases h;have m:=u.sl d;rw[hb]at m;simp only[V]at m;obtain⟨A,e,_⟩:=m;simp only[yielded,x,Option.bind_some];rcases Nat.lt_or_ge d a.tmps.size with c | c
   ·have:a.tmps[d]? = some (.tuple A):=by rw[Array.getElem?_eq_getElem c];simp only[Array.getD,c,dif_pos]at e;simpa using e
    rw[this];rfl
   ·rw[Array.getElem?_eq_none c];rfl
  ·cases h
 ·cases h
theorem jO(N:bS P tb){done:Nat→Prop}{s:Nat→ag}{h:Nat→Option Obj}{a:Act}{w:World}(hm:FZ n base Bw w0 done s h a w){i:Nat}{o:Oper}(hi:ops[i]? = some o)(hd:¬done i)
  {x:ag} {u:hZ} {c:Prop} (e:pf P tb an n base ops i o s h=some (x,u,c)) (L:c) {K:Act→World→Prop} {Q:Exit→Act→World→Prop}
  (hk:∀a' w',FZ n base Bw w0 (fun j=>done j∨j=i) (dr s o.dst x) (apply u h) a' w'→K a' w'):wpOp P ops Q i K a w:=by
 obtain⟨ρ,φ,m,C,z⟩:=hm.ex;unfold pf at e;split at e
 ·rename_i A;obtain⟨p,D⟩:=A;have run:∀ {O:Prop},Fk P tb (base+8*i) (look an.asm i) (look an.jb i) o.op s h=some (x,u,O)→O→o.wp P a w K Q:=fun f R=>by
   have hn:∀j,j<8→ρ (base+8*i+j)=none:=fun j hj=>by
    cases hq:ρ (base+8*i+j)with
    | none=>rfl
    | some v =>
     rcases z _ _ hq with B | ⟨E,j',B,k,M⟩
     ·omega
     ·exact absurd (by rwa [show i=E by omega]) hd
   refine GL N m C hn D f R K Q fun v w' ⟨X,Y,q1,q2,q3,q4,q5⟩=>hk _ _ ⟨X,Y,q1,(C.mono q2 q3).AF q5 p,fun id v Z=> ?_⟩
   rcases q4 id v Z with B | B
   ·rcases z id v B with k | ⟨E,j,k,M⟩
    ·exact .inl k
    ·exact .inr ⟨E,j,.inl k,M⟩
   ·obtain⟨j,B,k⟩:=B;exact .inr ⟨i,j,.inr rfl,B,k⟩
  unfold wpOp;rw[hi];simp only;split at e
  ·rename_i I;have J:Region.wanted o (yielded ops a.tmps)=true:=by unfold Region.wanted;rw[I]
   rw[if_pos J];exact .inl (run e L)
  ·rename_i g ho;split at e
   ·rename_i q I;split at e
    ·rename_i x' u' O f;cases e;have J:=me C ho I (Bk L);rw[if_pos J];exact .inl (run f (Hi L))
    ·cases e
   ·rename_i q I;cases e;have J:=me C ho I L;rw[if_neg (by rw[J];simp)];refine hk _ _ ⟨ρ,φ,m,C.AF (by simp only[V];exact⟨#[],rfl,rfl,by simp only[VL]⟩) p,fun id v Z=> ?_⟩;rcases z id v Z with k | ⟨E,j,k,M⟩
    ·exact .inl k
    ·exact .inr ⟨E,j,.inl k,M⟩
   ·cases e
 ·cases e
def Bm(P:Program)(tb:bR)(an:An)(n:NS)(base:Nat)(ops:Array Oper)(i:Nat)(o:Oper)(s:Nat→ag)(h:Nat→Option Obj):Option (hZ×Value×Prop) :=
 match dying o.op (look an.jb i)with
 | some y=>match o.guard with
  | none=>match Fk P tb (base+8*i) (look an.asm i) (look an.jb i) o.op s h with
   | some (_,u,c)=>some (u,y,c)
   | none=>none
  | some g=>match guardOf an n ops g s with
   | some (true,q)=>match Fk P tb (base+8*i) (look an.asm i) (look an.jb i) o.op s h with
    | some (_,u,c)=>some (u,y,Il q c)
    | none=>none
   | _=>none
 | none=>none
theorem wc{done:Nat→Prop}{s:Nat→ag}{h:Nat→Option Obj}{a:Act}{w:World}(V:FZ n base Bw w0 done s h a w){i:Nat}{o:Oper}(hi:ops[i]? = some o)(X:¬done i)
  {u:hZ} {y:Value} {c:Prop} (f:Bm P tb an n base ops i o s h=some (u,y,c)) (B:c) {K:Act→World→Prop} {Q:Exit→Act→World→Prop}
  (Y:∀A,FZ n base Bw w0 (fun j=>done j∨j=i) s (apply u h) a A→Q (.panic [{ v:=y,recovered:=false }]) a A):wpOp P ops Q i K a w:=by
 obtain⟨ρ,φ,m,C,z⟩:=V.ex;unfold Bm at f;split at f
 ·rename_i Z D;have run:∀ {x:ag} {O:Prop},Fk P tb (base+8*i) (look an.asm i) (look an.jb i) o.op s h=some (x,u,O)→O→Z=y→o.wp P a w K Q:=fun e E ey=>by
   subst ey;have hn:∀j,j<8→ρ (base+8*i+j)=none:=fun j hj=>by
    cases hq:ρ (base+8*i+j)with
    | none=>rfl
    | some v =>
     rcases z _ _ hq with k | ⟨I,j',k,p,R⟩
     ·omega
     ·exact absurd (by rwa [show i=I by omega]) X
   refine Iy m C hn D e E K Q fun A ⟨v,J,L,q1,q2,q3,q4,_⟩=>Y A ⟨J,L,q1,C.mono q2 q3,fun id v hv=> ?_⟩
   rcases q4 id v hv with k | k
   ·rcases z id v k with p | ⟨I,j,p,R⟩
    ·exact .inl p
    ·exact .inr ⟨I,j,.inl p,R⟩
   ·obtain⟨j,k,p⟩:=k;exact .inr ⟨i,j,.inr rfl,k,p⟩
  unfold wpOp;rw[hi];simp only;split at f
  ·rename_i M;have N:Region.wanted o (yielded ops a.tmps)=true:=by unfold Region.wanted;rw[M]
   rw[if_pos N];split at f
   ·rename_i e;cases f;exact .inl (run e B rfl)
   ·cases f
  ·rename_i g ho;split at f
   ·rename_i q M;split at f
    ·rename_i e;cases f;have N:=me C ho M (Bk B);rw[if_pos N];exact .inl (run e (Hi B) rfl)
    ·cases f
   ·cases f
 ·cases f
def E6(P:Program)(tb:bR)(an:An)(n:NS)(base:Nat)(ops:Array Oper):List Oper→Nat→(Nat→ag)→(Nat→Option Obj)→Option ((Nat→ag)×(Nat→Option Obj)×List Prop)
 | [],_,s,h=>some (s,h,[])
 | o::r,k,s,h=>match pf P tb an n base ops k o s h with
  | some (x,u,c)=>match E6 P tb an n base ops r (k+1) (dr s o.dst x) (apply u h)with
   | some (e,h',f)=>some (e,h',c::f)
   | none=>none
  | none=>none
def oQ:List Prop→Prop
 | []=>True
 | c::e=>c∧oQ e
theorem xh(f:bS P tb){Q:Exit→Act→World→Prop}:∀(l:List Oper) (k:Nat) {s:Nat→ag} {h:Nat→Option Obj} {a:Act} {w:World},FZ n base Bw w0 (fun j=>j<k) s h a w→(∀j,l[j]? = ops[k+j]?) →
  ∀ {z:Nat→ag} {h':Nat→Option Obj} {A:List Prop},E6 P tb an n base ops l k s h=some (z,h',A)→oQ A→(∀m p,FZ n base Bw w0 (fun j=>j<k+l.length) z h' m p→Q .normal m p) →
  wpOps P ops Q (List.range' k l.length) a w
 | [],k,s,h,a,w,q,_,z,h',A,e,B,C=>by
  cases e;exact C a w (by simpa using q)
 | o::l,k,s,h,a,w,q,hl,z,h',A,e,B,C=>by
  have J:ops[k]? = some o:=by simpa using(hl 0).symm
  simp only[E6]at e;split at e
  ·rename_i x u c L;split at e
   ·rename_i Z h2 M D;cases e;simp only[List.length_cons,List.range'_succ,wpOps_cons];refine jO f q J (Nat.lt_irrefl k) L B.1 fun m p E=> ?_
    refine xh f l (k+1) ?_ (fun j=>by have:=hl (j+1);simpa [Nat.add_assoc,Nat.add_comm 1 j]using this) D B.2 (fun m p q=>C m p (by simpa [Nat.add_assoc,Nat.add_comm 1]using q));obtain⟨ρ,φ,N,O,R⟩:=E.ex;refine⟨ρ,φ,N,O,fun id v V=> ?_⟩;rcases R id v V with I | ⟨j,X,I,Y⟩
    ·exact .inl I
    ·exact .inr ⟨j,X,by omega,Y⟩
   ·cases e
  ·cases e
def oV(P:Program)(tb:bR)(an:An)(n:NS)(base:Nat)(ops:Array Oper):Nat→List Oper→Nat→(Nat→ag)→(Nat→Option Obj)→Option ((Nat→ag)×(Nat→Option Obj)×List Prop×Value)
 | _,[],_,_,_=>none
 | 0,o::_,k,s,h=>match Bm P tb an n base ops k o s h with
  | some (u,y,c)=>some (s,apply u h,[c],y)
  | none=>none
 | r+1,o::l,k,s,h=>match pf P tb an n base ops k o s h with
  | some (x,u,c)=>match oV P tb an n base ops r l (k+1) (dr s o.dst x) (apply u h)with
   | some (e,h',f,y)=>some (e,h',c::f,y)
   | none=>none
  | none=>none
theorem rM(q:bS P tb){Q:Exit→Act→World→Prop}:∀(r:Nat) (l:List Oper) (k:Nat) {s:Nat→ag} {h:Nat→Option Obj} {a:Act} {w:World},FZ n base Bw w0 (fun j=>j<k) s h a w→(∀j,l[j]? = ops[k+j]?) →
  ∀ {z:Nat→ag} {h':Nat→Option Obj} {A:List Prop} {y:Value},oV P tb an n base ops r l k s h=some (z,h',A,y)→oQ A→(∀B f,FZ n base Bw w0 (fun j=>j<k+l.length) z h' B f→Q (.panic [{ v:=y,recovered:=false }]) B f) →
  wpOps P ops Q (List.range' k l.length) a w
 | _,[],k,s,h,a,w,p,_,z,h',A,y,e,C,E=>by simp[oV]at e
 | 0,o::l,k,s,h,a,w,p,hl,z,h',A,y,e,C,E=>by
  have I:ops[k]? = some o:=by simpa using(hl 0).symm
  simp only[oV]at e;split at e
  ·rename_i u Z c J;cases e;simp only[List.length_cons,List.range'_succ,wpOps_cons];refine wc p I (Nat.lt_irrefl k) J C.1 fun f m=>E a f ?_
   obtain⟨ρ,φ,L,M,N⟩:=m.ex;refine⟨ρ,φ,L,M,fun id v O=> ?_⟩;rcases N id v O with D | ⟨j,R,D,V⟩
   ·exact .inl D
   ·refine .inr ⟨j,R,?_,V⟩;simp only[List.length_cons];omega
  ·cases e
 | r+1,o::l,k,s,h,a,w,p,hl,z,h',A,y,e,C,E=>by
  have I:ops[k]? = some o:=by simpa using(hl 0).symm
  simp only[oV]at e;split at e
  ·rename_i x u c J;split at e
   ·rename_i s2 h2 Y y2 X;cases e;simp only[List.length_cons,List.range'_succ,wpOps_cons];refine jO q p I (Nat.lt_irrefl k) J C.1 fun B f m=> ?_
    refine rM q r l (k+1) ?_ (fun j=>by have:=hl (j+1);simpa [Nat.add_assoc,Nat.add_comm 1 j]using this) X C.2 (fun B f p=>E B f (by simpa [Nat.add_assoc,Nat.add_comm 1]using p));obtain⟨ρ,φ,L,M,N⟩:=m.ex;refine⟨ρ,φ,L,M,fun id v O=> ?_⟩;rcases N id v O with D | ⟨j,R,D,V⟩
    ·exact .inl D
    ·exact .inr ⟨j,R,by omega,V⟩
   ·cases e
  ·cases e
end
end Go.Tv
