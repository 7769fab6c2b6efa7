import Derived.Test.YtmcemnfjddoejaaGreatDoorTvKc
import Derived.Laws.StructEq
import Derived.ChangeKeysEq
import Derived.Lib.ConvBytes
namespace Go.Tv
open Go Go.RowKit
def iM(a:Ty):List Ty→Ty
 | []=>a
 | b::r=> .prod a (iM b r)
def gk:List Ty→Ty
 | []=> .unit
 | [a]=> .prod a .unit
 | a::b::r=> .prod a (iM b r)
def jk(P:Program):Nat→List Field→List Ty→Bool
 | _,[],[]=>true
 | off,f::c,T::Ts=>f.offset == off && P.cellsOf f.type == T.size && jk P (off+T.size) c Ts
 | _,_,_=>false
def Ii:(T:Ty)→T.den→T.den→Bool
 | .int _,x,y=>(show Int from x) == y
 | .bool,x,y=>(show Bool from x) == y
 | .str,x,y=>(show QX from x) == y
 | .flt,x,y=>Lq x y
 | .unit,_,_=>true
 | .prod a b,x,y=>Ii a x.1 y.1 && Ii b x.2 y.2
 | .slice _,_,_=>false
 | .ptr _,_,_=>false
 | .tree _ _,_,_=>false
 | .arr _ _,x,y=>JK x y
 | .mapi _ _,_,_=>false
def Nz(P:Program):Nat→TypeId→Option Ty
 | 0,_=>none
 | n+1,t=>if(P.info? t).isSome then match P.underlying t with
  | some .bool=>some .bool
  | some (.int k)=>some (.int k)
  | some .string=>some .str
  | some (.float .f64)=>some .flt
  | some (.struct c)=>match c.toList.mapM (fun f=>Nz P n f.type)with
   | some Ts=>if jk P 0 c.toList Ts && c.toList.all (·.name != "_") && !P.stoodInHeld t && P.cellsOf t == (gk Ts).size && !Ts.isEmpty then some (gk Ts)else none
   | none=>none
  | _=>none
  else none
def oY(G:Addr→Value→Prop)(T:Ty)(x:T.den)(u:Value):Prop :=
 if T.scalar then ai G T x (fun _ z=>z=u)else ∃c,u = .agg c∧c.size=T.size∧ai G T x (fun k z=>c[k]? = some z)
theorem nC{α β:Type}{f:α→Option β}:∀ {l:List α} {c:List β},l.mapM f=some c→c.length=l.length∧∀(i:Nat) (x:α),l[i]? = some x→∃y,c[i]? = some y∧f x=some y
 | [],c,h=>by simp at h;subst h;simp
 | a::l,c,h=>by
  simp only[List.mapM_cons,Option.bind_eq_bind,Option.bind_eq_some_iff]at h;obtain⟨y,q,z,hz,e⟩:=h;simp at e;subst e;obtain⟨u,v⟩:=nC hz;refine⟨by simp[u],fun i x j=>?_⟩;cases i with
  | zero=>simp at j;subst j;exact⟨y,rfl,q⟩
  | succ i=>exact v i x (by simpa using j)
section
variable{P:Program}{w:World}{G:Addr→Value→Prop}
def EqAt(P:Program)(w:World)(d:Nat)(t:TypeId)(T:Ty):Prop :=
 (∃i,P.info? t=some i)∧(isAgg t).run P w = .ok (!T.scalar) w∧∀(G:Addr→Value→Prop) (x y:T.den) (u v:Value),oY G T x u→oY G T y v→(Op.equalIn d t u v).run P w = .ok (Ii T x y) w
theorem wm{d:Nat}{t:TypeId}{T:Ty}(h:EqAt P w d t T)(v:P.cellsOf t=T.size){e:QU}{off:Nat}{x:T.den}(q:ai G T x (fun k z=>e[off+k]? = some z))(A:off+T.size≤e.size):
  ∃u,(part t e off).run P w = .ok u w∧oY G T x u:=by
 obtain⟨⟨i,hi⟩,ha,_⟩:=h;unfold part;by_cases c:T.scalar=true
 ·simp only[oY,if_pos c];have f:=Ty.fB c;have j:off<e.size:=by omega
  refine⟨e[off],?_,?_⟩
  ·rw[Sem.run_bind,ha,Result.andThen_ok,c];simp[j]
  ·refine ai.gB (fun k z hk hz=>?_) q;rw[f]at hk;obtain rfl:k=0:=by omega
   simp[j]at hz;exact hz.symm
 ·have p:T.scalar=false:=by simpa using c
  simp only[oY,if_neg c];refine⟨.agg (e.extract off (off+T.size)),?_,_,rfl,by simp;omega,?_⟩
  ·rw[Sem.run_bind,ha,Result.andThen_ok,p];simp only[Bool.not_false,if_true,Sem.run_bind,(Go.run_sizeOf w hi:(sizeOf t).run P w=_),Result.andThen_ok,v];rfl
  ·refine ai.gB (fun k z hk hz=>?_) q;rw[Array.getElem?_extract];rw[if_pos (by omega)];exact hz
theorem uJ{d:Nat}{xs ys:QU}:∀(q:List Field) (Ts:List Ty) (off:Nat) (f:Field) (T:Ty),jk P off (f::q) (T::Ts)=true →
  (f::q).all (·.name != "_")=true→(∀(i:Nat) g S,(f::q)[i]? = some g→(T::Ts)[i]? = some S→EqAt P w d g.type S)→off+(iM T Ts).size≤xs.size→off+(iM T Ts).size≤ys.size →
  ∀(x y:(iM T Ts).den),ai G (iM T Ts) x (fun k z=>xs[off+k]? = some z)→ai G (iM T Ts) y (fun k z=>ys[off+k]? = some z) →
  (Op.eqFields d xs ys (f::q)).run P w = .ok (Ii (iM T Ts) x y) w
 | [],_::_,_,_,_,c,_,_,_,_,_,_,_,_=>by simp[jk]at c
 | _::_,[],_,_,_,c,_,_,_,_,_,_,_,_=>by simp[jk]at c
 | [],[],off,f,T,c,hn,A,B,C,x,y,e,j=>by
  simp only[jk,Bool.and_eq_true,beq_iff_eq]at c;simp only[List.all_cons,Bool.and_eq_true,bne_iff_ne,ne_eq]at hn;have p:=A 0 f T rfl rfl;simp only[iM]at B C x y e j ⊢;obtain⟨u,D,E⟩:=wm p c.1.2 e B;obtain⟨v,v1,I⟩:=wm p c.1.2 j C;have J:=p.2.2 G x y u v E I;simp only[Op.eqFields,hn.1,ne_eq,not_false_eq_true,if_true,Sem.run_bind,c.1.1,D,v1,J,Result.andThen_ok];cases Ii T x y <;> simp
 | g::q,S::Ts,off,f,T,c,hn,A,B,C,x,y,e,j=>by
  have L:=c;simp only[jk,Bool.and_eq_true,beq_iff_eq]at c;have M:=hn;simp only[List.all_cons,Bool.and_eq_true,bne_iff_ne,ne_eq]at hn;have p:=A 0 f T rfl rfl;simp only[iM]at x y e j ⊢;simp only[iM,Ty.size]at B C;simp only[ai]at e j;obtain⟨u,D,E⟩:=wm p c.1.2 e.1 (by omega);obtain⟨v,v1,I⟩:=wm p c.1.2 j.1 (by omega);have J:=p.2.2 G x.1 y.1 u v E I;have N:=uJ (d:=d) (xs:=xs) (ys:=ys) q Ts (off+T.size) g S (by simp only[jk,Bool.and_eq_true,beq_iff_eq];exact c.2) (by simp only[List.all_cons,Bool.and_eq_true,bne_iff_ne,ne_eq];exact hn.2)
   (fun i O S' a b=>A (i+1) O S' (by simpa using a) (by simpa using b)) (by omega) (by omega) x.2 y.2
   (ai.mono (fun _ _ h=>h) (fun k z hk=>by rwa [Nat.add_assoc]) e.2) (ai.mono (fun _ _ h=>h) (fun k z hk=>by rwa [Nat.add_assoc]) j.2)
  rw[Op.eqFields];simp only[hn.1,ne_eq,not_false_eq_true,if_true,Sem.run_bind,c.1.1,D,v1,J,Result.andThen_ok,Ii];cases hb:Ii T x.1 y.1
  ·simp
  ·simp only[Bool.not_true,Bool.false_eq_true,if_false,Bool.true_and];exact N
theorem Hx{d:Nat}{xs ys:QU}:∀ {fl:List Field} {Ts:List Ty},Ts.length=fl.length→jk P 0 fl Ts=true→(fl.all (·.name != "_"))=true→Ts.isEmpty=false →
  (∀(j:Nat) (g:Field) (S:Ty),fl[j]? = some g→Ts[j]? = some S→EqAt P w d g.type S)→∀ {x y:(gk Ts).den},xs.size=(gk Ts).size→ys.size=(gk Ts).size →
  ai G (gk Ts) x (fun k z=>xs[k]? = some z)→ai G (gk Ts) y (fun k z=>ys[k]? = some z)→(Op.eqFields d xs ys fl).run P w = .ok (Ii (gk Ts) x y) w
 | [],[],_,_,_,h,_,_,_,_,_,_,_=>by cases h
 | [],_::_,h,_,_,_,_,_,_,_,_,_,_=>by simp at h
 | _::_,[],h,_,_,_,_,_,_,_,_,_,_=>by simp at h
 | [_],_::_::_,h,_,_,_,_,_,_,_,_,_,_=>by simp at h
 | _::_::_,[_],h,_,_,_,_,_,_,_,_,_,_=>by simp at h
 | [f],[A],_,c,e,_,p,x,y,q,u,v,C=>by
  have:=uJ (P:=P) (w:=w) (d:=d) (xs:=xs) (ys:=ys) [] [] 0 f A c e p (by simp only[gk,Ty.size]at q;simp only[iM];omega) (by simp only[gk,Ty.size]at u;simp only[iM];omega) x.1 y.1
   (ai.mono (fun _ _ h=>h) (fun k z hk=>by rwa [Nat.zero_add]) v.1) (ai.mono (fun _ _ h=>h) (fun k z hk=>by rwa [Nat.zero_add]) C.1)
  simp only[iM]at this;rw[this];simp only[gk,Ii,Bool.and_true]
 | f::g::fl,A::B::Ts,_,c,e,_,p,x,y,q,u,v,C =>
  uJ (P:=P) (w:=w) (d:=d) (xs:=xs) (ys:=ys) (g::fl) (B::Ts) 0 f A c e p (by simp only[gk,Ty.size]at q;simp only[iM,Ty.size];omega) (by simp only[gk,Ty.size]at u;simp only[iM,Ty.size];omega) x y
   (ai.mono (fun _ _ h=>h) (fun k z hk=>by rwa [Nat.zero_add]) v) (ai.mono (fun _ _ h=>h) (fun k z hk=>by rwa [Nat.zero_add]) C)
theorem sc{t:TypeId}{d:TypeDesc}(hu:P.underlying t=some d)(h:(match d with | .struct _=>false | .array _ _=>false | _=>true)=true):(isAgg t).run P w = .ok false w:=by
 simp only[isAgg,Sem.run_bind,run_underlying hu,Result.andThen_ok];cases d <;> first | rfl | cases h
theorem HX:∀(n:Nat) (t:TypeId) (T:Ty),Nz P n t=some T→∀d,EqAt P w (d+n) t T
 | 0,t,T,h,_=>by simp[Nz]at h
 | n+1,t,T,h,d=>by
  have D:=HX n;simp only[Nz]at h;split at h
  ·rename_i hi;obtain⟨i,hi⟩:=Option.isSome_iff_exists.1 hi;split at h
   ·rename_i hu;cases h;refine⟨⟨i,hi⟩,sc hu rfl,fun G x y u v c e=>?_⟩;simp only[oY,Ty.scalar,if_true,ai]at c e;subst c e;exact run_equalIn_bool w (d+n) t x y hu
   ·rename_i k hu;cases h;refine⟨⟨i,hi⟩,sc hu rfl,fun G x y u v c e=>?_⟩;simp only[oY,Ty.scalar,if_true,ai]at c e;subst c e;exact run_equalIn_int w (d+n) t k k x y hu
   ·rename_i hu;cases h;refine⟨⟨i,hi⟩,sc hu rfl,fun G x y u v c e=>?_⟩;simp only[oY,Ty.scalar,if_true,ai]at c e;subst c e;have:=run_equalIn_string w (d+n) t ⟨List.toArray x⟩ ⟨List.toArray y⟩ hu;rw[ByteArray.toList_eq,ByteArray.toList_eq]at this;exact this
   ·rename_i hu;cases h;refine⟨⟨i,hi⟩,sc hu rfl,fun G x y u v c e=>?_⟩;simp only[oY,Ty.scalar,if_true,ai]at c e;obtain⟨a,rfl,rfl⟩:=c;obtain⟨b,rfl,rfl⟩:=e;rw[show d+(n+1)=(d+n)+1 from rfl];simp[Op.equalIn,run_underlying hu,Ii,Lq,Fx,Op.floatEq]
   ·rename_i q hu;split at h
    ·rename_i Ts p;split at h
     ·rename_i z;simp only[Bool.and_eq_true,beq_iff_eq,Bool.not_eq_true']at z;obtain⟨⟨⟨⟨E,I⟩,J⟩,c4⟩,A⟩:=z;cases h;obtain⟨L,M⟩:=nC p;have f:(gk Ts).scalar=false:=by
       match Ts,A with
       | [a],_=>rfl
       | a::b::r,_=>rfl
      have B:P.fieldsOf t=q:=by simp[Program.fieldsOf,hu]
      refine⟨⟨i,hi⟩,?_,fun G x y u v c e=>?_⟩
      ·simp only[isAgg,Sem.run_bind,run_underlying hu,Result.andThen_ok,f];rfl
      ·unfold oY at c e;rw[f]at c e;simp only[Bool.false_eq_true,if_false]at c e;obtain⟨N,rfl,O,V⟩:=c;obtain⟨X,rfl,Y,Z⟩:=e;rw[show d+(n+1)=(d+n)+1 from rfl,run_equalIn_struct w (d+n) t N X (by rw[B];exact hu) J,B];have hE:∀(j:Nat) (g:Field) (S:Ty),q.toList[j]? = some g→Ts[j]? = some S→EqAt P w (d+n) g.type S:=fun j g S hg hS=>by obtain⟨S',C,q2⟩:=M j g hg;rw[hS]at C;cases C;exact D g.type S q2 d
       exact Hx L E I A hE O Y V Z
     ·cases h
    ·cases h
   ·cases h
  ·cases h
end
def JY(P:Program)(t:TypeId)(T:Ty):Prop:=(P.eqGuardType P.depth t=false∧T.scalar=false)∧∀w,EqAt P w 10000 t T
theorem Fv{P:Program}{t:TypeId}{T:Ty}(n:Nat)(hn:n≤10000)(h:Nz P n t=some T)(c:P.eqGuardType P.depth t=false∧T.scalar=false):JY P t T:=⟨c,fun w=>by
 have:=HX (P:=P) (w:=w) n t T h (10000 - n);rwa [Nat.sub_add_cancel hn]at this⟩
section
variable{P:Program}{Bw:Nat→Prop}{w0:cu P}{ρ:Nat→QW}{φ:Nat→Nat→Prop}{h:Nat→Qz}{w:World}{new:Nat}
theorem Mem.grow(m:Mem Bw w0 ρ φ h w){w':World}(z:w.grownBy w' none):Mem Bw w0 ρ φ h w'∧(∀β a v,Fr (own φ h) Bw w β a v→Fr (own φ h) Bw w' β a v):=by
 have B:∀β a v,Fr (own φ h) Bw w β a v→Fr (own φ h) Bw w' β a v:=fun β a v C =>
  Fr.Ls (fun k hk _=>z.block k hk (by intro e;cases e)) (fun k hk=> .inl hk) β a v C
 refine⟨⟨fun id o j=>?_,fun id o k D E I=>Nat.lt_of_lt_of_le (m.lt id o k D E I) z.size,m.dj,m.bw,m.ow,m.kp.grown z (fun k e=>by cases e),m.pd⟩,B⟩;obtain⟨u,J,L⟩:=m.ob id o j;exact⟨u,J,OR.mono B (fun _ _ h=>h) (fun _ h=>h) (fun hl k hk=>z.block k (m.lt id o k j hl hk) (by intro e;cases e)) L⟩
theorem Ao(w:World):w.grownBy w none:=⟨rfl,rfl,rfl,Nat.le_refl _,fun _ _ _=>rfl⟩
theorem vh(w:World)(e:TypeId)(s:ByteArray):w.grownBy (Lib.bytesWorld w e s) none :=
 ⟨rfl,rfl,rfl,by rw[Lib.bytesWorld_size];omega,fun k hk _=>Lib.bytesWorld_at_old w e s k hk⟩
theorem D6(m:Mem Bw w0 ρ φ h w){o:Oper}{a:Act}{st u e:TypeId}{B:TI}(C:aP P st B)(hd:P.underlying u=some (.slice e))(D:P.underlying e=some (.int .u8)){z:Operand}(E:o.op = .convert st u z)
  {β:Bool} {l:QX} (I:V (Fr (own φ h) Bw w) ρ (.p β .str l) (a.eval z)):Good P o a w (aG Bw w0 ρ φ h w new (.p false (.slice (.int .u8)) (cR l)) []):=by
 obtain⟨X,J,_⟩:=C.hu;have f:=Lib.run_convert_string_bytes (P:=P) w st u e ⟨l.toArray⟩ J hd D;obtain⟨L,M⟩:=m.grow (vh w e ⟨l.toArray⟩);have j:(⟨l.toArray⟩:ByteArray).size=l.length:=by simp[ByteArray.size]
 refine Good.aH (v:=_) (w':=_) (by simp only[execOp,E,pT I,Sem.run_bind,f,Result.andThen_ok];rfl) ⟨ρ,φ,L,M,fun _ _ h=>h,fun _ _ h=> .inl h,?_⟩;simp only[V,ai];refine⟨rfl,_,_,_,rfl,⟨by rw[j];simp[cR],grownCap_ge _ _ _ _⟩,fun i hi=>⟨_,rfl,?_⟩⟩;have q:i<l.length:=by simpa [cR]using hi
 refine⟨fun N=>?_,fun _ hb=>?_,?_⟩
 ·have c:=m.rB N;simp only[Addr.add]at c;split at c <;> simp at c
 ·have x:=w0.lt _ (m.bw _ hb);have Y:=m.kp.size;simp only[Addr.add]at x;split at x <;> simp at x <;> omega
 ·have:=Lib.bytesWorld_cell w e ⟨l.toArray⟩ i (by rw[j];exact q);have O:(⟨w.heap.size,0,none⟩:Addr).add (i*Ty.size (.int .u8)+0)=⟨w.heap.size,i,none⟩:=by rw[cf];simp[Ty.size]
  rw[O,World.fq this];simp[cR,q]
theorem Cu(m:Mem Bw w0 ρ φ h w)(hn:ρ new=none){o:Oper}{a:Act}{st u e:TypeId}{E:TI}(I:aP P st E)(hd:P.underlying u=some (.slice e))(J:P.underlying e=some (.int .u8)){D:Operand}(L:o.op = .convert st u D)
  {β:Bool} {l:QX} (M:V (Fr (own φ h) Bw w) ρ (.p β .str l) (a.eval D)):Good P o a w (aG Bw w0 ρ φ h w new (.sl new) [(new,some (.bytes e (cR l)))]):=by
 obtain⟨X,N,_⟩:=I.hu;have f:=Lib.run_convert_string_bytes (P:=P) w st u e ⟨l.toArray⟩ N hd J;have c:(⟨l.toArray⟩:ByteArray).size=l.length:=by simp[ByteArray.size]
 have x:=grownCap_ge w l.length 0 e;refine Good.aH (v:=_) (w':=_) (by simp only[execOp,L,pT M,Sem.run_bind,f,Result.andThen_ok];rfl) ?_;have z:(Lib.bytesCells w e ⟨l.toArray⟩).size=grownCap w l.length 0 e:=by simp only[Lib.bytesCells,Array.size_append,Array.size_map,Array.size_replicate];show l.toArray.size+(grownCap w (⟨l.toArray⟩:ByteArray).size 0 e - (⟨l.toArray⟩:ByteArray).size)=_;rw[c];simp only[List.size_toArray];omega
 refine cN m none new (.bytes e (cR l)) (.slice (some ⟨w.heap.size,0,none⟩) (⟨l.toArray⟩:ByteArray).size (grownCap w (⟨l.toArray⟩:ByteArray).size 0 e)) none (vh w e ⟨l.toArray⟩) (fun k e=>by cases e) (.inl hn) (fun _ k hk=>?_) (fun F' B O C=>?_)
  (by rw[bp];rfl) (fun _=>rfl) (fun F' B O C j=>?_)
 ·simp only[dg,Option.some.injEq]at hk;exact .inl (by omega)
 ·refine .inr ⟨w.heap.size,grownCap w l.length 0 e,_,_,by rw[c];simp[cR],rfl,Lib.bytesWorld_at_new w e ⟨l.toArray⟩,.inr rfl,by simpa [cR]using x,z,fun i hi=>?_⟩;have q:i<l.length:=by simpa [cR]using hi
  have:=Lib.bytesWorld_cell w e ⟨l.toArray⟩ i (by rw[c];exact q);rw[cell_of_row _ w.heap.size i _ _ _ (Lib.bytesWorld_at_new w e ⟨l.toArray⟩)]at this;rw[this];simp[cR,q]
 ·simp only[V];exact⟨j,_,_,_,rfl⟩
theorem xw{F:Bool→Addr→Value→Prop}{t e:TypeId}{ti j:TI}(ht:aP P t ti)(hk:ti.k = .sl e)(c:aP P e j){a:Act}{ad:Option Addr}{len cap:Nat}{lo:Option Operand}{hi mx:Operand}{l:Option Int}{r q:Int}(hl:uK F ρ a lo l)
  {β:Bool} {k:IntKind} (u:V F ρ (.p β (.int k) r) (a.eval hi)) {f:Bool} {z:IntKind} (A:V F ρ (.p f (.int z) q) (a.eval mx)) (B:0≤l.getD 0) (E:l.getD 0≤r) (N:r≤q) (O:q≤len) (X:len≤cap) :
  (Instr.sliceAt t (.slice ad len cap) (lo.map a.eval) (some (a.eval hi)) (some (a.eval mx))).run P w =
   .ok (.slice (if q.toNat=(l.getD 0).toNat then ad else ad.map (·.add ((l.getD 0).toNat*j.size))) (r.toNat - (l.getD 0).toNat) (q.toNat - (l.getD 0).toNat)) w:=by
 have hu:=aY ht hk;have C:(Instr.sliceBound (.int z q) cap .slice3Acap).run P w = .ok q.toNat w:=run_sliceBound (by omega) (by omega);have D:(Instr.sliceBound (.int k r) q.toNat .slice3B).run P w = .ok r.toNat w:=run_sliceBound (by omega) (by omega);cases lo with
 | none =>
  cases l with
  | some _=>exact hl.elim
  | none=>simp[Instr.sliceAt,Instr.slice,Instr.sliceBounds,run_underlying hu,bR u,bR A,C,D,run_sizeOf c]
 | some x =>
  cases l with
  | none=>exact hl.elim
  | some i =>
   obtain⟨I,J,L⟩:=hl;simp only[Option.getD_some]at B E;have M:(Instr.sliceBound (.int J i) r.toNat .slice3C).run P w = .ok i.toNat w:=run_sliceBound B (by omega);simp[Instr.sliceAt,Instr.slice,Instr.sliceBounds,run_underlying hu,bR u,bR A,bR L,C,D,M,run_sizeOf c]
theorem FV{F:Bool→Addr→Value→Prop}{c:Nat→QW}{A:Ty}{f:List A.den}{β:Bool}{ad:Option Addr}{len cap:Nat}(j:V F c (.p β (.slice A) f) (.slice ad len cap)){l r q size:Nat}(z:size=A.size)(I:l≤r)(J:r≤q)(L:q≤len):
  V F c (.p β (.slice A) ((f.take r).drop l)) (.slice (if q=l then ad else ad.map (·.add (l*size))) (r - l) (q - l)):=by
 subst z;simp only[V,ai]at j ⊢;obtain⟨_,B,u,x,e,⟨hl,M⟩,C⟩:=j;simp only[Value.slice.injEq]at e;obtain⟨rfl,rfl,rfl⟩:=e;refine⟨rfl,_,_,_,rfl,⟨by simp only[List.length_drop,List.length_take];omega,by omega⟩,fun i hi=>?_⟩;simp only[List.length_drop,List.length_take]at hi;obtain⟨b,D,E⟩:=C (l+i) (by omega);subst D;refine⟨b.add (l*A.size),by rw[if_neg (by omega)];rfl,?_⟩;have e:((f.take r).drop l)[i]'(by simp only[List.length_drop,List.length_take];omega)=f[l+i]:=by simp
 rw[e];refine ai.mono (fun _ _ h=>h) (fun k v hk=>?_) E;rw[add_add];rwa [Nat.add_mul,Nat.add_assoc]at hk
theorem vk(m:Mem Bw w0 ρ φ h w){o:Oper}{a:Act}{t e:TypeId}{ti B:TI}(ht:aP P t ti)(hk:ti.k = .sl e)(c:aP P e B){A:Ty}(hT:B.T=some A){C:Operand}{D:Option Operand}{hi mx:Operand}(I:o.op = .slice t C D (some hi) (some mx))
  {β:Bool} {xs:List A.den} (j:V (Fr (own φ h) Bw w) ρ (.p β (.slice A) xs) (a.eval C)) {l:Option Int} {r q:Int} (hl:uK (Fr (own φ h) Bw w) ρ a D l) {u:Bool} {J:IntKind} (L:V (Fr (own φ h) Bw w) ρ (.p u (.int J) r) (a.eval hi))
  {x:Bool} {M:IntKind} (N:V (Fr (own φ h) Bw w) ρ (.p x (.int M) q) (a.eval mx)) (O:0≤l.getD 0) (X:l.getD 0≤r) (Y:r≤q) (Z:q≤xs.length) :
  Good P o a w (aG Bw w0 ρ φ h w new (.p β (.slice A) ((xs.take r.toNat).drop (l.getD 0).toNat)) []):=by
 obtain⟨ad,cap,E,hc⟩:=oy j;obtain⟨z,_,_⟩:=c.hT A hT;have f:=xw (P:=P) (w:=w) ht hk c (ad:=ad) (cap:=cap) hl L N O X Y Z hc;rw[E]at j;refine Good.aH (v:=_) (w':=w) (by simp only[execOp,I,E,Option.map_some,f,Sem.run_bind,Result.andThen_ok];rfl) (aG.pure m (FV j z.symm (by omega) (by omega) (by omega)))
theorem AF(m:Mem Bw w0 ρ φ h w)(hn:ρ new=none){o:Oper}{a:Act}{t e:TypeId}{ti z:TI}(ht:aP P t ti)(hk:ti.k = .sl e)(f:aP P e z){A:Ty}(hT:z.T=some A){J:Operand}{hi mx:Operand}(O:o.op = .slice t J none (some hi) (some mx))
  {xs:List A.den} (B:V (Fr (own φ h) Bw w) ρ (.p false (.slice A) xs) (a.eval J)) {r:Int} {C:Bool} {X:IntKind} (Y:V (Fr (own φ h) Bw w) ρ (.p C (.int X) r) (a.eval hi))
  {D:Bool} {Z:IntKind} (hq:V (Fr (own φ h) Bw w) ρ (.p D (.int Z) r) (a.eval mx)) (h1:0≤r) (h3:r≤xs.length) :
  Good P o a w (aG Bw w0 ρ φ h w new (.sl new) [(new,some (.cutz A (xs.take r.toNat)))]):=by
 obtain⟨ad,cap,L,hc⟩:=oy B;obtain⟨E,_,_⟩:=f.hT A hT;have c:=xw (P:=P) (w:=w) ht hk f (a:=a) (lo:=none) (l:=none) (ad:=ad) (cap:=cap) trivial Y hq (by simp) (by simpa using h1) (by omega) h3 hc;rw[L]at B;refine Good.aH (v:=_) (w':=w) (by simp only[execOp,O,L,Option.map_none,Option.map_some,Sem.run_bind]at c ⊢;rw[c];rfl) ?_;have M:=FV B (l:=0) (r:=r.toNat) (q:=r.toNat) E.symm (by omega) (by omega) (by omega);simp only[Nat.sub_zero,List.drop_zero,Option.getD_none,Int.toNat_zero]at M ⊢;refine cN m none new (.cutz A (xs.take r.toNat)) (.slice (if r.toNat=0 then ad else ad.map (fun x=>x.add (0*z.size))) r.toNat r.toNat) none (Ao w) (fun k e=>by cases e) (.inl hn) (fun hl=>by cases hl) (fun F' I N j=>?_) (by rw[bp];rfl) (fun _=>rfl) (fun F' I N j u=>?_)
 ·exact⟨⟨_,by rw[List.length_take,Nat.min_eq_left (by omega)]⟩,V.mono N j M⟩
 ·simp only[V];exact⟨u,_,_,_,rfl⟩
def IH(n:Int):QX:=(Utf8.encode n).data.toList
theorem Hi(m:Mem Bw w0 ρ φ h w){o:Oper}{a:Act}{st c:TypeId}{f:TI}(j:aP P st f)(hd:P.underlying c=some .string){e:Operand}(q:o.op = .convert st c e)
  {β:Bool} {k:IntKind} {n:Int} (u:V (Fr (own φ h) Bw w) ρ (.p β (.int k) n) (a.eval e)):Good P o a w (aG Bw w0 ρ φ h w new (.p false .str (IH n)) []):=by
 obtain⟨x,z,_⟩:=j.hu;refine Good.aH (v:= .string (Utf8.encode n)) (w':=w) ?_ (aG.pure m ?_)
 ·simp only[execOp,q,bR u,convert,Sem.run_bind,run_underlying z,run_underlying hd,Result.andThen_ok];cases x <;> rfl
 ·simp only[V,ai];exact⟨rfl,rfl⟩
end
section
variable{P:Program}{Bw:Nat→Prop}{w0:cu P}{ρ:Nat→QW}{φ φ1:Nat→Nat→Prop}{h:Nat→Qz}{w:World}{new:Nat}
theorem aG.Jb{u1 u2:hD}{j:Nat→Qz}(e:apply u1 h=j)(I:∀β a v,Fr (own φ h) Bw w β a v→Fr (own φ1 j) Bw w β a v){x:ag}{v:Value}{w':World}
  (J:aG Bw w0 ρ φ1 j w new x u2 v w'):aG Bw w0 ρ φ h w new x (u1++u2) v w':=by
 subst e;obtain⟨z,B,C,D,L,M,E⟩:=J;rw[←eL]at C D E;exact⟨z,B,C,fun β a v N=>D _ _ _ (I _ _ _ N),L,M,E⟩
theorem su(m:Mem Bw w0 ρ φ h w)(hn:ρ new=none){o:Oper}{a:Act}{t:TypeId}{ti:TI}(ht:aP P t ti)(hk:ti.k.agg=false){D:Operand}{id i:Nat}(E:V (Fr (own φ h) Bw w) ρ (.adr id i 1 0) (a.eval D))(L:o.op = .load t D)
  {e z:TypeId} {A:Ty} {f:List (List A.den)} (hi:h id=some (.mat e z A f none)) (x:i<f.length) :
  Good P o a w (aG Bw w0 ρ φ h w new (.sl new) [(id,some (.mat e z A f (some (i,new)))),(new,some (.arr z A (f.getD i [])))]):=by
 rw[show f.getD i []=f[i] by simp[x]];obtain⟨v,cells,u,M,I,N,⟨O,n,c,X⟩,Y,Z,B⟩:=m.J3 hi hn x;simp only[V]at E;obtain⟨g,q,he⟩:=E;have C:u.ownBlock=some g:=by
  rw[M]at q;rcases I.2 with⟨rfl,h0⟩ | ⟨g',cap,a1,rfl,_⟩
  ·omega
  ·rcases q with q | ⟨n,c,q⟩
   ·cases q
   ·simp only[Option.some.injEq,Value.slice.injEq]at q;rw[q.1];rfl
 have p:=I.cells C _ _ N;rw[cf,Nat.zero_add]at p;refine Good.aH (v:=v) (w':=w) ?_ ⟨_,_,Y,Z,B,fun j y J=>?_,?_⟩
 ·simp only[execOp,L,Instr.loadAt,he,Instr.sureAddr,Sem.run_bind,Sem.run_pure,Result.andThen_ok,Nat.mul_one,Nat.add_zero];unfold loadVar;rw[Sem.run_bind,lf ht];simp only[Result.andThen_ok,hk];rw[if_neg (by simp),run_load,p];rfl
 ·by_cases e:j=new
  ·exact .inr ⟨0,by omega,e⟩
  ·rw[aD _ _ e]at J;exact .inl J
 ·simp only[V];exact⟨ao _ _ _,O,n,c,X⟩
theorem pM(m:Mem Bw w0 ρ φ h w){o:Oper}{a:Act}{t:TypeId}{ti:TI}(ht:aP P t ti)(O:ti.size=1){xo yo:Operand}{id i r:Nat}(hx:V (Fr (own φ h) Bw w) ρ (.adr id i 1 0) (a.eval xo))
  (hy:V (Fr (own φ h) Bw w) ρ (.sl r) (a.eval yo)) (ho:o.op = .store t xo yo) {e e2:TypeId} {A:Ty} {f:List (List A.den)} {hole:Option (Nat×Nat)} (hi:h id=some (.mat e e2 A f hole)) (a4:i<f.length)
  (hh:∀k j,hole=some (k,j)→k=i):Good P o a w (aG Bw w0 ρ φ h w new .unk [(id,some (.mat e e2 A f (some (i,r))))]):=by
 obtain⟨u,q1,hs,h0,_,cells,c1,c2,c3⟩:=m.ob id _ hi;simp only[V]at hy;obtain⟨hr,ad,vn,vc,hv⟩:=hy;generalize a5:a.eval yo=J at hr hv;have B:J.cells = #[J]:=fE (by rw[hv];rfl);simp only[V]at hx;obtain⟨g,X,he⟩:=hx;rcases c1.2 with⟨rfl,hn⟩ | ⟨L,cap,z,rfl,_,C,Y,Z,N,a1⟩
 ·omega
 rw[q1]at X;have a6:L=g:=by
  rcases X with X | ⟨n,c,X⟩
  ·cases X
  ·simp only[Option.some.injEq,Value.slice.injEq,Addr.mk.injEq]at X;exact X.1.1
 subst a6;have a7:cells.length=f.length*1:=c1.1;have D:=gN (P:=P) ht C (v:=J) (p:=i*1+0) (by rw[B,O];rfl) (by rw[N,O];omega) (fun c hc=>by
  rw[B]at hc;simp only[List.mem_singleton]at hc;rw[hc,hv];rfl)
 have E:(z.toList.take (i*1+0)++J.cells.toList++z.toList.drop (i*1+0+ti.size))=z.toList.set i J:=by rw[B,O,List.set_eq_take_append_cons_drop,if_pos (by simp only[Array.length_toList];omega)];simp
 rw[E]at D;refine Good.jM (w':=_) (by simp[execOp,ho,Instr.storeAt,he,Instr.sureAddr,a5];simp only[Nat.mul_one,Nat.add_zero]at D;rw[D];rfl) ?_;refine dW m (some id) id (.mat e e2 A f (some (i,r))) (.slice (some ⟨L,0,none⟩) f.length cap) (φ id) (some L) (bd w L _) (fun k e=>⟨id,_,rfl,hi,rfl,by cases e;exact hs L rfl⟩) (.inr ⟨rfl,q1⟩)
  (fun _ k hk=>Nat.lt_of_lt_of_le (m.lt id _ k hi rfl hk) (bd w L _).size) (fun _ k hk=> .inr ⟨id,_,rfl,hi,rfl,hk⟩) (fun F' a8 hF a2=>?_) (by rw[bg];rfl) (fun e=>by rw[q1]at e;cases e) (fun F' a8 hF a2 ax=>by simp only[V])
 have x:∀j,j≠i→BI hole j:=fun j hj k M e=>by rw[hh k M e];exact hj
 have I:∀j,j≠i→(cells.set i J)[j]? = cells[j]? :=fun j hj=>List.getElem?_set_ne (Ne.symm hj)
 refine⟨hs,h0,fun k M e=>(by cases e;exact a4),cells.set i J,⟨by rw[List.length_set];exact a7,.inr ⟨L,cap,(z.toList.set i J).toArray,rfl,Nat.zero_le _,setRow_heap w L z _ e _ C,Y,Z,by simp only[List.size_toArray,List.length_set,Array.length_toList];exact N,?_⟩⟩,fun j hj=>?_,fun j j' vj a9 b aa s1 s2 e1 a3=>?_⟩
 ·show(z.toList.set i J).take (f.length*1)=_;rw[←a1,List.take_set]
 ·by_cases e:j=i
  ·subst e;refine⟨J,by rw[List.getElem?_set_self (by omega)],⟨ad,vn,vc,hv⟩,fun ac=>absurd rfl (ac j r rfl),fun M e=>?_⟩;cases e;exact a2 _ _ hr
  ·obtain⟨v,p1,p2,p3,_⟩:=c2 j hj;refine⟨v,by rw[I j e];exact p1,p2,fun _=>?_,fun M e'=>by cases e';exact absurd rfl e⟩;obtain⟨b1,rc,b2,b3⟩:=p3 (x j e);refine⟨b1,rc,fL (fun k hk=>?_) b2,fun q hq=>ai.mono (hF _) (fun _ _ h=>h) (b3 q hq)⟩;refine(bd w L _).block k ?_ (fun e'=>(b1 k hk).2 (by rw[e'];rfl));exact m.lt id _ k hi rfl (b1 k hk).1
 ·have n1:j≠i:=fun e=>s1 i r rfl e
  have n2:j'≠i:=fun e=>s2 i r rfl e
  rw[I j n1]at e1;rw[I j' n2]at a3;exact c3 j j' vj a9 b aa (x j n1) (x j' n2) e1 a3
end
end Go.Tv
