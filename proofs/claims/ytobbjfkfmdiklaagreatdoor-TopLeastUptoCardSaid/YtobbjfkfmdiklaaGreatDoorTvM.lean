import Derived.Test.YtobbjfkfmdiklaaGreatDoorTvKz
import Derived.Orders
namespace Go.Tv
open Go Go.RowKit
structure An where
 asm:List (Nat×Bool)
 iR:List (Nat×vE)
def guardOf(an:An)(n:NS)(ops:Array Oper)(g:Nat×Bool)(s:Nat→af):Option (Bool×Option Prop) :=
 match(ops[g.1]?).bind (·.dst)with
 | some d=>match s d,look an.asm g.1 with
  | .p _ .bool f,some b=>if d<n.sz then some (b == g.2,some (f=b))else none
  | .p _ .bool f,none=>if d<n.sz then some (f == g.2,none)else none
  | .tup _,_=>some (false,none)
  | _,_=>none
 | none=>none
def M9:Option Prop→Prop
 | none=>True
 | some q=>q
def IJ:Option Prop→Prop→Prop
 | none,c=>c
 | some q,c=>q∧c
theorem BU:∀ {q:Option Prop} {c:Prop},IJ q c→M9 q
 | none,_,_=>trivial
 | some _,_,h=>h.1
theorem Gk:∀ {q:Option Prop} {c:Prop},IJ q c→c
 | none,_,h=>h
 | some _,_,h=>h.2
def kr(s:Nat→af)(d:QJ)(x:af):Nat→af :=
 match d with
 | some d=>bG s d x
 | none=>s
def EC(n:NS)(d:QJ):Bool :=
 match d with
 | some d=>decide (d<n.sz)
 | none=>true
def pB(P:Program)(tb:bQ)(an:An)(n:NS)(base:Nat)(ops:Array Oper)(i:Nat)(o:Oper)(s:Nat→af)(h:Nat→Qz):XQ :=
 if EC n o.dst∧dieOf (look an.iR i)=none then
  match o.guard with
  | none=>FJ P tb (base+8*i) (look an.asm i) (look an.iR i) o.op s h
  | some g=>match guardOf an n ops g s with
   | some (true,q)=>match FJ P tb (base+8*i) (look an.asm i) (look an.iR i) o.op s h with
    | some (x,u,c)=>some (x,u,IJ q c)
    | none=>none
   | some (false,q)=>some (.tup [],[],M9 q)
   | none=>none
 else none
section
variable{P:Program}{tb:bQ}{an:An}{n:NS}{base:Nat}{ops:Array Oper}{Bw:Nat→Prop}{w0:cr P}
structure Fx{P:Program}(n:NS)(base:Nat)(Bw:Nat→Prop)(w0:cr P)(done:Nat→Prop)(s:Nat→af)(h:Nat→Qz)(a:Act)(w:World):Prop where
 ex:∃ρ φ,Mem Bw w0 ρ φ h w∧eP n (Fr (own φ h) Bw w) ρ s a∧∀id u,ρ id=some u→id<base∨∃i j,done i∧j<8∧id=base+8*i+j
theorem eP.Kb{F:Bool→Addr→Value→Prop}{ρ:Nat→QW}{s:Nat→af}{a:Act}(h:eP n F ρ s a){x:af}{v:Value}(f:V F ρ x v){d:QJ}(hd:EC n d=true):
  eP n F ρ (kr s d x) (a.put d v):=by
 cases d with
 | none=>exact h
 | some d=>exact h.put f (by simpa [EC]using hd)
theorem mM{F:Bool→Addr→Value→Prop}{ρ:Nat→QW}{s:Nat→af}{a:Act}(z:eP n F ρ s a){o:Oper}{g:Nat×Bool}(ho:o.guard=some g){b:Bool}{q:Option Prop}(h:guardOf an n ops g s=some (b,q))(A:M9 q):
  Region.wanted o (yielded ops a.tmps)=b:=by
 obtain⟨j,want⟩:=g;unfold guardOf at h;unfold Region.wanted;rw[ho];simp only at h ⊢;split at h
 ·rename_i d hd;split at h
  ·rename_i β x b hb ha;split at h
   ·rename_i f;cases h
    replace A:x=b:=A
    subst A;have v:=z.sl d;rw[hb]at v;have u:=n9 v;have p:d<a.tmps.size:=by rw[z.tm];exact f
    have:a.tmps[d]? = some (.bool x):=by rw[Array.getElem?_eq_getElem p];simp only[Array.getD,p,dif_pos]at u;simpa using u
    simp only[yielded,hd,Option.bind_some,this];cases x <;> cases want <;> rfl
   ·cases h
  ·rename_i β x hb ha;split at h
   ·rename_i f;cases h;have v:=z.sl d;rw[hb]at v;have u:=n9 v;have p:d<a.tmps.size:=by rw[z.tm];exact f
    have:a.tmps[d]? = some (.bool x):=by rw[Array.getElem?_eq_getElem p];simp only[Array.getD,p,dif_pos]at u;simpa using u
    simp only[yielded,hd,Option.bind_some,this];cases x <;> cases want <;> rfl
   ·cases h
  ·rename_i _ C hb;cases h;have v:=z.sl d;rw[hb]at v;simp only[V]at v;obtain⟨B,e,_⟩:=v;simp only[yielded,hd,Option.bind_some];rcases Nat.lt_or_ge d a.tmps.size with f | f
   ·have:a.tmps[d]? = some (.tuple B):=by rw[Array.getElem?_eq_getElem f];simp only[Array.getD,f,dif_pos]at e;simpa using e
    rw[this];rfl
   ·rw[Array.getElem?_eq_none f];rfl
  ·cases h
 ·cases h
theorem ke(M:cb P tb){done:Nat→Prop}{s:Nat→af}{h:Nat→Qz}{a:Act}{w:World}(hm:Fx n base Bw w0 done s h a w){i:Nat}{o:Oper}(hi:ops[i]? = some o)(hd:¬done i)
  {x:af} {u:gZ} {c:Prop} (f:pB P tb an n base ops i o s h=some (x,u,c)) (hc:c) {K:Act→World→Prop} {Q:Exit→Act→World→Prop}
  (hk:∀Z w',Fx n base Bw w0 (fun j=>done j∨j=i) (kr s o.dst x) (apply u h) Z w'→K Z w'):wpOp P ops Q i K a w:=by
 obtain⟨ρ,φ,m,C,A⟩:=hm.ex;unfold pB at f;split at f
 ·rename_i B;obtain⟨z,D⟩:=B;have run:∀ {c':Prop},FJ P tb (base+8*i) (look an.asm i) (look an.iR i) o.op s h=some (x,u,c')→c'→o.wp P a w K Q:=fun p N=>by
   have hn:∀j,j<8→ρ (base+8*i+j)=none:=fun j hj=>by
    cases hq:ρ (base+8*i+j)with
    | none=>rfl
    | some v =>
     rcases A _ _ hq with h1 | ⟨E,j',h1,h2,L⟩
     ·omega
     ·exact absurd (by rwa [show i=E by omega]) hd
   refine Ik M m C hn D p N K Q fun v w' ⟨O,X,q1,q2,q3,q4,q5⟩=>hk _ _ ⟨O,X,q1,(C.mono q2 q3).Kb q5 z,fun id v Y=>?_⟩
   rcases q4 id v Y with h1 | h1
   ·rcases A id v h1 with h2 | ⟨E,j,h2,L⟩
    ·exact .inl h2
    ·exact .inr ⟨E,j,.inl h2,L⟩
   ·obtain⟨j,h1,h2⟩:=h1;exact .inr ⟨i,j,.inr rfl,h1,h2⟩
  unfold wpOp;rw[hi];simp only;split at f
  ·rename_i I;have J:Region.wanted o (yielded ops a.tmps)=true:=by unfold Region.wanted;rw[I]
   rw[if_pos J];exact .inl (run f hc)
  ·rename_i g ho;split at f
   ·rename_i q I;split at f
    ·rename_i x' u' c' p;cases f;have J:=mM C ho I (BU hc);rw[if_pos J];exact .inl (run p (Gk hc))
    ·cases f
   ·rename_i q I;cases f;have J:=mM C ho I hc;rw[if_neg (by rw[J];simp)];refine hk _ _ ⟨ρ,φ,m,C.Kb (by simp only[V];exact⟨#[],rfl,rfl,by simp only[VL]⟩) z,fun id v Y=>?_⟩;rcases A id v Y with h2 | ⟨E,j,h2,L⟩
    ·exact .inl h2
    ·exact .inr ⟨E,j,.inl h2,L⟩
   ·cases f
 ·cases f
def AW(P:Program)(tb:bQ)(an:An)(n:NS)(base:Nat)(ops:Array Oper)(i:Nat)(o:Oper)(s:Nat→af)(h:Nat→Qz):Option (gZ×Value×Prop) :=
 match dying o.op (look an.iR i)with
 | some y=>match o.guard with
  | none=>match FJ P tb (base+8*i) (look an.asm i) (look an.iR i) o.op s h with
   | some (_,u,c)=>some (u,y,c)
   | none=>none
  | some g=>match guardOf an n ops g s with
   | some (true,q)=>match FJ P tb (base+8*i) (look an.asm i) (look an.iR i) o.op s h with
    | some (_,u,c)=>some (u,y,IJ q c)
    | none=>none
   | _=>none
 | none=>none
theorem vA{done:Nat→Prop}{s:Nat→af}{h:Nat→Qz}{a:Act}{w:World}(hm:Fx n base Bw w0 done s h a w){i:Nat}{o:Oper}(hi:ops[i]? = some o)(hd:¬done i)
  {u:gZ} {y:Value} {c:Prop} (p:AW P tb an n base ops i o s h=some (u,y,c)) (hc:c) {K:Act→World→Prop} {Q:Exit→Act→World→Prop}
  (hk:∀A,Fx n base Bw w0 (fun j=>done j∨j=i) s (apply u h) a A→Q (.panic [{ v:=y,recovered:=false }]) a A):wpOp P ops Q i K a w:=by
 obtain⟨ρ,φ,m,B,z⟩:=hm.ex;unfold AW at p;split at p
 ·rename_i O C;have run:∀ {x:af} {c':Prop},FJ P tb (base+8*i) (look an.asm i) (look an.iR i) o.op s h=some (x,u,c')→c'→O=y→o.wp P a w K Q:=fun f D V=>by
   subst V;have hn:∀j,j<8→ρ (base+8*i+j)=none:=fun j hj=>by
    cases X:ρ (base+8*i+j)with
    | none=>rfl
    | some v =>
     rcases z _ _ X with h1 | ⟨E,j',h1,h2,N⟩
     ·omega
     ·exact absurd (by rwa [show i=E by omega]) hd
   refine I7 m B hn C f D K Q fun A ⟨v,I,J,Y,Z,q3,q4,_⟩=>hk A ⟨I,J,Y,B.mono Z q3,fun id v hv=>?_⟩
   rcases q4 id v hv with h1 | h1
   ·rcases z id v h1 with h2 | ⟨E,j,h2,N⟩
    ·exact .inl h2
    ·exact .inr ⟨E,j,.inl h2,N⟩
   ·obtain⟨j,h1,h2⟩:=h1;exact .inr ⟨i,j,.inr rfl,h1,h2⟩
  unfold wpOp;rw[hi];simp only;split at p
  ·rename_i L;have M:Region.wanted o (yielded ops a.tmps)=true:=by unfold Region.wanted;rw[L]
   rw[if_pos M];split at p
   ·rename_i f;cases p;exact .inl (run f hc rfl)
   ·cases p
  ·rename_i g ho;split at p
   ·rename_i q L;split at p
    ·rename_i f;cases p;have M:=mM B ho L (BU hc);rw[if_pos M];exact .inl (run f (Gk hc) rfl)
    ·cases p
   ·cases p
 ·cases p
def EU(P:Program)(tb:bQ)(an:An)(n:NS)(base:Nat)(ops:Array Oper):List Oper→Nat→(Nat→af)→(Nat→Qz)→Option ((Nat→af)×(Nat→Qz)×List Prop)
 | [],_,s,h=>some (s,h,[])
 | o::r,k,s,h=>match pB P tb an n base ops k o s h with
  | some (x,u,c)=>match EU P tb an n base ops r (k+1) (kr s o.dst x) (apply u h)with
   | some (f,h',j)=>some (f,h',c::j)
   | none=>none
  | none=>none
def pj:List Prop→Prop
 | []=>True
 | c::f=>c∧pj f
theorem wq(p:cb P tb){Q:Exit→Act→World→Prop}:∀(l:List Oper) (k:Nat) {s:Nat→af} {h:Nat→Qz} {a:Act} {w:World},Fx n base Bw w0 (fun j=>j<k) s h a w→(∀j,l[j]? = ops[k+j]?) →
  ∀ {A:Nat→af} {h':Nat→Qz} {B:List Prop},EU P tb an n base ops l k s h=some (A,h',B)→pj B→(∀q z,Fx n base Bw w0 (fun j=>j<k+l.length) A h' q z→Q .normal q z) →
  wpOps P ops Q (List.range' k l.length) a w
 | [],k,s,h,a,w,hm,_,A,h',B,f,hc,C=>by
  cases f;exact C a w (by simpa using hm)
 | o::l,k,s,h,a,w,hm,hl,A,h',B,f,hc,C=>by
  have J:ops[k]? = some o:=by simpa using(hl 0).symm
  simp only[EU]at f;split at f
  ·rename_i x u c L;split at f
   ·rename_i s2 h2 M D;cases f;simp only[List.length_cons,List.range'_succ,wpOps_cons];refine ke p hm J (Nat.lt_irrefl k) L hc.1 fun q z E=>?_
    refine wq p l (k+1) ?_ (fun j=>by have:=hl (j+1);simpa [Nat.add_assoc,Nat.add_comm 1 j]using this) D hc.2 (fun q z hm=>C q z (by simpa [Nat.add_assoc,Nat.add_comm 1]using hm));obtain⟨ρ,φ,N,O,V⟩:=E.ex;refine⟨ρ,φ,N,O,fun id v X=>?_⟩;rcases V id v X with I | ⟨j,Y,I,Z⟩
    ·exact .inl I
    ·exact .inr ⟨j,Y,by omega,Z⟩
   ·cases f
  ·cases f
def o9(P:Program)(tb:bQ)(an:An)(n:NS)(base:Nat)(ops:Array Oper):Nat→List Oper→Nat→(Nat→af)→(Nat→Qz)→Option ((Nat→af)×(Nat→Qz)×List Prop×Value)
 | _,[],_,_,_=>none
 | 0,o::_,k,s,h=>match AW P tb an n base ops k o s h with
  | some (u,y,c)=>some (s,apply u h,[c],y)
  | none=>none
 | r+1,o::l,k,s,h=>match pB P tb an n base ops k o s h with
  | some (x,u,c)=>match o9 P tb an n base ops r l (k+1) (kr s o.dst x) (apply u h)with
   | some (f,h',j,y)=>some (f,h',c::j,y)
   | none=>none
  | none=>none
theorem rG(z:cb P tb){Q:Exit→Act→World→Prop}:∀(r:Nat) (l:List Oper) (k:Nat) {s:Nat→af} {h:Nat→Qz} {a:Act} {w:World},Fx n base Bw w0 (fun j=>j<k) s h a w→(∀j,l[j]? = ops[k+j]?) →
  ∀ {A:Nat→af} {h':Nat→Qz} {B:List Prop} {y:Value},o9 P tb an n base ops r l k s h=some (A,h',B,y)→pj B→(∀C p,Fx n base Bw w0 (fun j=>j<k+l.length) A h' C p→Q (.panic [{ v:=y,recovered:=false }]) C p) →
  wpOps P ops Q (List.range' k l.length) a w
 | _,[],k,s,h,a,w,hm,_,A,h',B,y,f,hc,E=>by simp[o9]at f
 | 0,o::l,k,s,h,a,w,hm,hl,A,h',B,y,f,hc,E=>by
  have I:ops[k]? = some o:=by simpa using(hl 0).symm
  simp only[o9]at f;split at f
  ·rename_i u y' c J;cases f;simp only[List.length_cons,List.range'_succ,wpOps_cons];refine vA hm I (Nat.lt_irrefl k) J hc.1 fun p q=>E a p ?_
   obtain⟨ρ,φ,L,M,N⟩:=q.ex;refine⟨ρ,φ,L,M,fun id v O=>?_⟩;rcases N id v O with D | ⟨j,V,D,X⟩
   ·exact .inl D
   ·refine .inr ⟨j,V,?_,X⟩;simp only[List.length_cons];omega
  ·cases f
 | r+1,o::l,k,s,h,a,w,hm,hl,A,h',B,y,f,hc,E=>by
  have I:ops[k]? = some o:=by simpa using(hl 0).symm
  simp only[o9]at f;split at f
  ·rename_i x u c J;split at f
   ·rename_i s2 h2 Z y2 Y;cases f;simp only[List.length_cons,List.range'_succ,wpOps_cons];refine ke z hm I (Nat.lt_irrefl k) J hc.1 fun C p q=>?_
    refine rG z r l (k+1) ?_ (fun j=>by have:=hl (j+1);simpa [Nat.add_assoc,Nat.add_comm 1 j]using this) Y hc.2 (fun C p hm=>E C p (by simpa [Nat.add_assoc,Nat.add_comm 1]using hm));obtain⟨ρ,φ,L,M,N⟩:=q.ex;refine⟨ρ,φ,L,M,fun id v O=>?_⟩;rcases N id v O with D | ⟨j,V,D,X⟩
    ·exact .inl D
    ·exact .inr ⟨j,V,by omega,X⟩
   ·cases f
  ·cases f
end
end Go.Tv
