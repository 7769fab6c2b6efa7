import Derived.Test.YtflahpmlcfhpcaaGreatDoorTvKc
import Derived.Laws.StructEq
import Derived.ChangeKeysEq
import Derived.Lib.ConvBytes
namespace Go.Tv
open Go Go.RowKit
def iB(a:Ty):List Ty→Ty
 | []=>a
 | b::r=> .prod a (iB b r)
def fY:List Ty→Ty
 | []=> .unit
 | [a]=> .prod a .unit
 | a::b::r=> .prod a (iB b r)
def iR(P:Program):Nat→List Field→List Ty→Bool
 | _,[],[]=>true
 | off,f::e,T::Ts=>f.offset == off && P.cellsOf f.type == T.size && iR P (off+T.size) e Ts
 | _,_,_=>false
def FI:(T:Ty)→T.den→T.den→Bool
 | .int _,x,y=>(show Int from x) == y
 | .bool,x,y=>(show Bool from x) == y
 | .str,x,y=>(show QX from x) == y
 | .flt,x,y=>Jw x y
 | .unit,_,_=>true
 | .prod a b,x,y=>FI a x.1 y.1 && FI b x.2 y.2
 | .slice _,_,_=>false
 | .ptr _,_,_=>false
 | .tree _ _,_,_=>false
 | .arr _ _,x,y=>Hr x y
 | .mapi _ _,_,_=>false
def KK(P:Program):Nat→TypeId→Option Ty
 | 0,_=>none
 | n+1,t=>if(P.info? t).isSome then match P.underlying t with
  | some .bool=>some .bool
  | some (.int k)=>some (.int k)
  | some .string=>some .str
  | some (.float .f64)=>some .flt
  | some (.struct e)=>match e.toList.mapM (fun f=>KK P n f.type)with
   | some Ts=>if iR P 0 e.toList Ts && e.toList.all (·.name != "_") && !P.stoodInHeld t && P.cellsOf t == (fY Ts).size && !Ts.isEmpty then some (fY Ts)else none
   | none=>none
  | _=>none
  else none
def nY(G:Addr→Value→Prop)(T:Ty)(x:T.den)(u:Value):Prop :=
 if T.scalar then ah G T x (fun _ z=>z=u)else ∃e,u = .agg e∧e.size=T.size∧ah G T x (fun k z=>e[k]? = some z)
theorem mT{α β:Type}{f:α→Option β}:∀ {l:List α} {j:List β},l.mapM f=some j→j.length=l.length∧∀(i:Nat) (x:α),l[i]? = some x→∃y,j[i]? = some y∧f x=some y
 | [],j,h=>by simp at h;subst h;simp
 | a::l,j,h=>by
  simp only[List.mapM_cons,Option.bind_eq_bind,Option.bind_eq_some_iff]at h;obtain⟨y,u,B,hz,e⟩:=h;simp at e;subst e;obtain⟨v,z⟩:=mT hz;refine⟨by simp[v],fun i x q=>?_⟩;cases i with
  | zero=>simp at q;subst q;exact⟨y,rfl,u⟩
  | succ i=>exact z i x (by simpa using q)
section
variable{P:Program}{w:World}{G:Addr→Value→Prop}
def EqAt(P:Program)(w:World)(d:Nat)(t:TypeId)(T:Ty):Prop :=
 (∃i,P.info? t=some i)∧(isAgg t).run P w = .ok (!T.scalar) w∧∀(G:Addr→Value→Prop) (x y:T.den) (u v:Value),nY G T x u→nY G T y v→(Op.equalIn d t u v).run P w = .ok (FI T x y) w
theorem uw{d:Nat}{t:TypeId}{T:Ty}(h:EqAt P w d t T)(v:P.cellsOf t=T.size){f:QU}{off:Nat}{x:T.den}(hc:ah G T x (fun k z=>f[off+k]? = some z))(A:off+T.size≤f.size):
  ∃u,(part t f off).run P w = .ok u w∧nY G T x u:=by
 obtain⟨⟨i,hi⟩,ha,_⟩:=h;unfold part;by_cases e:T.scalar=true
 ·simp only[nY,if_pos e];have j:=Ty.fD e;have p:off<f.size:=by omega
  refine⟨f[off],?_,?_⟩
  ·rw[Sem.run_bind,ha,Result.andThen_ok,e];simp[p]
  ·refine ah.gD (fun k z hk hz=>?_) hc;rw[j]at hk;obtain rfl:k=0:=by omega
   simp[p]at hz;exact hz.symm
 ·have q:T.scalar=false:=by simpa using e
  simp only[nY,if_neg e];refine⟨.agg (f.extract off (off+T.size)),?_,_,rfl,by simp;omega,?_⟩
  ·rw[Sem.run_bind,ha,Result.andThen_ok,q];simp only[Bool.not_false,if_true,Sem.run_bind,(Go.run_sizeOf w hi:(sizeOf t).run P w=_),Result.andThen_ok,v];rfl
  ·refine ah.gD (fun k z hk hz=>?_) hc;rw[Array.getElem?_extract];rw[if_pos (by omega)];exact hz
theorem sw{d:Nat}{xs ys:QU}:∀(A:List Field) (Ts:List Ty) (off:Nat) (f:Field) (T:Ty),iR P off (f::A) (T::Ts)=true →
  (f::A).all (·.name != "_")=true→(∀(i:Nat) g S,(f::A)[i]? = some g→(T::Ts)[i]? = some S→EqAt P w d g.type S)→off+(iB T Ts).size≤xs.size→off+(iB T Ts).size≤ys.size →
  ∀(x y:(iB T Ts).den),ah G (iB T Ts) x (fun k z=>xs[off+k]? = some z)→ah G (iB T Ts) y (fun k z=>ys[off+k]? = some z) →
  (Op.eqFields d xs ys (f::A)).run P w = .ok (FI (iB T Ts) x y) w
 | [],_::_,_,_,_,e,_,_,_,_,_,_,_,_=>by simp[iR]at e
 | _::_,[],_,_,_,e,_,_,_,_,_,_,_,_=>by simp[iR]at e
 | [],[],off,f,T,e,hn,B,C,D,x,y,j,p=>by
  simp only[iR,Bool.and_eq_true,beq_iff_eq]at e;simp only[List.all_cons,Bool.and_eq_true,bne_iff_ne,ne_eq]at hn;have q:=B 0 f T rfl rfl;simp only[iB]at C D x y j p ⊢;obtain⟨u,E,I⟩:=uw q e.1.2 j C;obtain⟨v,v1,J⟩:=uw q e.1.2 p D;have L:=q.2.2 G x y u v I J;simp only[Op.eqFields,hn.1,ne_eq,not_false_eq_true,if_true,Sem.run_bind,e.1.1,E,v1,L,Result.andThen_ok];cases FI T x y <;> simp
 | g::A,S::Ts,off,f,T,e,hn,B,C,D,x,y,j,p=>by
  have M:=e;simp only[iR,Bool.and_eq_true,beq_iff_eq]at e;have N:=hn;simp only[List.all_cons,Bool.and_eq_true,bne_iff_ne,ne_eq]at hn;have q:=B 0 f T rfl rfl;simp only[iB]at x y j p ⊢;simp only[iB,Ty.size]at C D;simp only[ah]at j p;obtain⟨u,E,I⟩:=uw q e.1.2 j.1 (by omega);obtain⟨v,v1,J⟩:=uw q e.1.2 p.1 (by omega);have L:=q.2.2 G x.1 y.1 u v I J;have O:=sw (d:=d) (xs:=xs) (ys:=ys) A Ts (off+T.size) g S (by simp only[iR,Bool.and_eq_true,beq_iff_eq];exact e.2) (by simp only[List.all_cons,Bool.and_eq_true,bne_iff_ne,ne_eq];exact hn.2)
   (fun i V S' a b=>B (i+1) V S' (by simpa using a) (by simpa using b)) (by omega) (by omega) x.2 y.2
   (ah.mono (fun _ _ h=>h) (fun k z hk=>by rwa [Nat.add_assoc]) j.2) (ah.mono (fun _ _ h=>h) (fun k z hk=>by rwa [Nat.add_assoc]) p.2)
  rw[Op.eqFields];simp only[hn.1,ne_eq,not_false_eq_true,if_true,Sem.run_bind,e.1.1,E,v1,L,Result.andThen_ok,FI];cases hb:FI T x.1 y.1
  ·simp
  ·simp only[Bool.not_true,Bool.false_eq_true,if_false,Bool.true_and];exact O
theorem Er{d:Nat}{xs ys:QU}:∀ {fl:List Field} {Ts:List Ty},Ts.length=fl.length→iR P 0 fl Ts=true→(fl.all (·.name != "_"))=true→Ts.isEmpty=false →
  (∀(j:Nat) (g:Field) (S:Ty),fl[j]? = some g→Ts[j]? = some S→EqAt P w d g.type S)→∀ {x y:(fY Ts).den},xs.size=(fY Ts).size→ys.size=(fY Ts).size →
  ah G (fY Ts) x (fun k z=>xs[k]? = some z)→ah G (fY Ts) y (fun k z=>ys[k]? = some z)→(Op.eqFields d xs ys fl).run P w = .ok (FI (fY Ts) x y) w
 | [],[],_,_,_,h,_,_,_,_,_,_,_=>by cases h
 | [],_::_,h,_,_,_,_,_,_,_,_,_,_=>by simp at h
 | _::_,[],h,_,_,_,_,_,_,_,_,_,_=>by simp at h
 | [_],_::_::_,h,_,_,_,_,_,_,_,_,_,_=>by simp at h
 | _::_::_,[_],h,_,_,_,_,_,_,_,_,_,_=>by simp at h
 | [f],[A],_,e,p,_,q,x,y,u,v,C,D=>by
  have:=sw (P:=P) (w:=w) (d:=d) (xs:=xs) (ys:=ys) [] [] 0 f A e p q (by simp only[fY,Ty.size]at u;simp only[iB];omega) (by simp only[fY,Ty.size]at v;simp only[iB];omega) x.1 y.1
   (ah.mono (fun _ _ h=>h) (fun k z hk=>by rwa [Nat.zero_add]) C.1) (ah.mono (fun _ _ h=>h) (fun k z hk=>by rwa [Nat.zero_add]) D.1)
  simp only[iB]at this;rw[this];simp only[fY,FI,Bool.and_true]
 | f::g::fl,A::B::Ts,_,e,p,_,q,x,y,u,v,C,D =>
  sw (P:=P) (w:=w) (d:=d) (xs:=xs) (ys:=ys) (g::fl) (B::Ts) 0 f A e p q (by simp only[fY,Ty.size]at u;simp only[iB,Ty.size];omega) (by simp only[fY,Ty.size]at v;simp only[iB,Ty.size];omega) x y
   (ah.mono (fun _ _ h=>h) (fun k z hk=>by rwa [Nat.zero_add]) C) (ah.mono (fun _ _ h=>h) (fun k z hk=>by rwa [Nat.zero_add]) D)
theorem ra{t:TypeId}{d:TypeDesc}(hu:P.underlying t=some d)(h:(match d with | .struct _=>false | .array _ _=>false | _=>true)=true):(isAgg t).run P w = .ok false w:=by
 simp only[isAgg,Sem.run_bind,run_underlying hu,Result.andThen_ok];cases d <;> first | rfl | cases h
theorem Gl:∀(n:Nat) (t:TypeId) (T:Ty),KK P n t=some T→∀d,EqAt P w (d+n) t T
 | 0,t,T,h,_=>by simp[KK]at h
 | n+1,t,T,h,d=>by
  have D:=Gl n;simp only[KK]at h;split at h
  ·rename_i hi;obtain⟨i,hi⟩:=Option.isSome_iff_exists.1 hi;split at h
   ·rename_i hu;cases h;refine⟨⟨i,hi⟩,ra hu rfl,fun G x y u v e f=>?_⟩;simp only[nY,Ty.scalar,if_true,ah]at e f;subst e f;exact run_equalIn_bool w (d+n) t x y hu
   ·rename_i k hu;cases h;refine⟨⟨i,hi⟩,ra hu rfl,fun G x y u v e f=>?_⟩;simp only[nY,Ty.scalar,if_true,ah]at e f;subst e f;exact run_equalIn_int w (d+n) t k k x y hu
   ·rename_i hu;cases h;refine⟨⟨i,hi⟩,ra hu rfl,fun G x y u v e f=>?_⟩;simp only[nY,Ty.scalar,if_true,ah]at e f;subst e f;have:=run_equalIn_string w (d+n) t ⟨List.toArray x⟩ ⟨List.toArray y⟩ hu;rw[ByteArray.toList_eq,ByteArray.toList_eq]at this;exact this
   ·rename_i hu;cases h;refine⟨⟨i,hi⟩,ra hu rfl,fun G x y u v e f=>?_⟩;simp only[nY,Ty.scalar,if_true,ah]at e f;obtain⟨a,rfl,rfl⟩:=e;obtain⟨b,rfl,rfl⟩:=f;rw[show d+(n+1)=(d+n)+1 from rfl];simp[Op.equalIn,run_underlying hu,FI,Jw,DF,Op.floatEq]
   ·rename_i z hu;split at h
    ·rename_i Ts q;split at h
     ·rename_i hc;simp only[Bool.and_eq_true,beq_iff_eq,Bool.not_eq_true']at hc;obtain⟨⟨⟨⟨E,I⟩,J⟩,c4⟩,A⟩:=hc;cases h;obtain⟨L,M⟩:=mT q;have p:(fY Ts).scalar=false:=by
       match Ts,A with
       | [a],_=>rfl
       | a::b::r,_=>rfl
      have B:P.fieldsOf t=z:=by simp[Program.fieldsOf,hu]
      refine⟨⟨i,hi⟩,?_,fun G x y u v e f=>?_⟩
      ·simp only[isAgg,Sem.run_bind,run_underlying hu,Result.andThen_ok,p];rfl
      ·unfold nY at e f;rw[p]at e f;simp only[Bool.false_eq_true,if_false]at e f;obtain⟨N,rfl,O,V⟩:=e;obtain⟨X,rfl,Y,Z⟩:=f;rw[show d+(n+1)=(d+n)+1 from rfl,run_equalIn_struct w (d+n) t N X (by rw[B];exact hu) J,B];have hE:∀(j:Nat) (g:Field) (S:Ty),z.toList[j]? = some g→Ts[j]? = some S→EqAt P w (d+n) g.type S:=fun j g S hg hS=>by obtain⟨S',C,q2⟩:=M j g hg;rw[hS]at C;cases C;exact D g.type S q2 d
       exact Er L E I A hE O Y V Z
     ·cases h
    ·cases h
   ·cases h
  ·cases h
end
def H6(P:Program)(t:TypeId)(T:Ty):Prop:=(P.eqGuardType P.depth t=false∧T.scalar=false)∧∀w,EqAt P w 10000 t T
theorem Df{P:Program}{t:TypeId}{T:Ty}(n:Nat)(hn:n≤10000)(h:KK P n t=some T)(e:P.eqGuardType P.depth t=false∧T.scalar=false):H6 P t T:=⟨e,fun w=>by
 have:=Gl (P:=P) (w:=w) n t T h (10000 - n);rwa [Nat.sub_add_cancel hn]at this⟩
section
variable{P:Program}{Bw:Nat→Prop}{w0:cw P}{ρ:Nat→QW}{φ:Nat→Nat→Prop}{h:Nat→Qz}{w:World}{new:Nat}
theorem Mem.grow(m:Mem Bw w0 ρ φ h w){w':World}(z:w.grownBy w' none):Mem Bw w0 ρ φ h w'∧(∀β a v,Fr (own φ h) Bw w β a v→Fr (own φ h) Bw w' β a v):=by
 have B:∀β a v,Fr (own φ h) Bw w β a v→Fr (own φ h) Bw w' β a v:=fun β a v C =>
  Fr.Jo (fun k hk _=>z.block k hk (by intro e;cases e)) (fun k hk=> .inl hk) β a v C
 refine⟨⟨fun id o j=>?_,fun id o k D E I=>Nat.lt_of_lt_of_le (m.lt id o k D E I) z.size,m.dj,m.bw,m.ow,m.kp.grown z (fun k e=>by cases e),m.pc⟩,B⟩;obtain⟨u,J,L⟩:=m.ob id o j;exact⟨u,J,OR.mono B (fun _ _ h=>h) (fun _ h=>h) (fun hl k hk=>z.block k (m.lt id o k j hl hk) (by intro e;cases e)) L⟩
theorem yY(w:World):w.grownBy w none:=⟨rfl,rfl,rfl,Nat.le_refl _,fun _ _ _=>rfl⟩
theorem sS(w:World)(e:TypeId)(s:ByteArray):w.grownBy (Lib.bytesWorld w e s) none :=
 ⟨rfl,rfl,rfl,by rw[Lib.bytesWorld_size];omega,fun k hk _=>Lib.bytesWorld_at_old w e s k hk⟩
theorem CC(m:Mem Bw w0 ρ φ h w){o:Oper}{a:Act}{st x e:TypeId}{C:TI}(D:aN P st C)(hd:P.underlying x=some (.slice e))(E:P.underlying e=some (.int .u8)){B:Operand}(I:o.op = .convert st x B)
  {β:Bool} {l:QX} (J:V (Fr (own φ h) Bw w) ρ (.p β .str l) (a.eval B)):Good P o a w (aF Bw w0 ρ φ h w new (.p false (.slice (.int .u8)) (cd l)) []):=by
 obtain⟨Y,L,_⟩:=D.hu;have j:=Lib.run_convert_string_bytes (P:=P) w st x e ⟨l.toArray⟩ L hd E;obtain⟨M,N⟩:=m.grow (sS w e ⟨l.toArray⟩);have q:(⟨l.toArray⟩:ByteArray).size=l.length:=by simp[ByteArray.size]
 refine Good.aG (v:=_) (w':=_) (by simp only[execOp,I,oC J,Sem.run_bind,j,Result.andThen_ok];rfl) ⟨ρ,φ,M,N,fun _ _ h=>h,fun _ _ h=> .inl h,?_⟩;simp only[V,ah];refine⟨rfl,_,_,_,rfl,⟨by rw[q];simp[cd],grownCap_ge _ _ _ _⟩,fun i hi=>⟨_,rfl,?_⟩⟩;have u:i<l.length:=by simpa [cd]using hi
 refine⟨fun O=>?_,fun _ hb=>?_,?_⟩
 ·have f:=m.uT O;simp only[Addr.add]at f;split at f <;> simp at f
 ·have z:=w0.lt _ (m.bw _ hb);have Z:=m.kp.size;simp only[Addr.add]at z;split at z <;> simp at z <;> omega
 ·have:=Lib.bytesWorld_cell w e ⟨l.toArray⟩ i (by rw[q];exact u);have X:(⟨w.heap.size,0,none⟩:Addr).add (i*Ty.size (.int .u8)+0)=⟨w.heap.size,i,none⟩:=by rw[cr];simp[Ty.size]
  rw[X,World.fx this];simp[cd,u]
theorem Af(m:Mem Bw w0 ρ φ h w)(hn:ρ new=none){o:Oper}{a:Act}{st x e:TypeId}{I:TI}(J:aN P st I)(hd:P.underlying x=some (.slice e))(L:P.underlying e=some (.int .u8)){E:Operand}(M:o.op = .convert st x E)
  {β:Bool} {l:QX} (N:V (Fr (own φ h) Bw w) ρ (.p β .str l) (a.eval E)):Good P o a w (aF Bw w0 ρ φ h w new (.sl new) [(new,some (.bytes e (cd l)))]):=by
 obtain⟨Y,O,_⟩:=J.hu;have j:=Lib.run_convert_string_bytes (P:=P) w st x e ⟨l.toArray⟩ O hd L;have f:(⟨l.toArray⟩:ByteArray).size=l.length:=by simp[ByteArray.size]
 have z:=grownCap_ge w l.length 0 e;refine Good.aG (v:=_) (w':=_) (by simp only[execOp,M,oC N,Sem.run_bind,j,Result.andThen_ok];rfl) ?_;have B:(Lib.bytesCells w e ⟨l.toArray⟩).size=grownCap w l.length 0 e:=by simp only[Lib.bytesCells,Array.size_append,Array.size_map,Array.size_replicate];show l.toArray.size+(grownCap w (⟨l.toArray⟩:ByteArray).size 0 e - (⟨l.toArray⟩:ByteArray).size)=_;rw[f];simp only[List.size_toArray];omega
 refine cV m none new (.bytes e (cd l)) (.slice (some ⟨w.heap.size,0,none⟩) (⟨l.toArray⟩:ByteArray).size (grownCap w (⟨l.toArray⟩:ByteArray).size 0 e)) none (sS w e ⟨l.toArray⟩) (fun k e=>by cases e) (.inl hn) (fun _ k hk=>?_) (fun F' C X D=>?_)
  (by rw[bp];rfl) (fun _=>rfl) (fun F' C X D q=>?_)
 ·simp only[dx,Option.some.injEq]at hk;exact .inl (by omega)
 ·refine .inr ⟨w.heap.size,grownCap w l.length 0 e,_,_,by rw[f];simp[cd],rfl,Lib.bytesWorld_at_new w e ⟨l.toArray⟩,.inr rfl,by simpa [cd]using z,B,fun i hi=>?_⟩;have u:i<l.length:=by simpa [cd]using hi
  have:=Lib.bytesWorld_cell w e ⟨l.toArray⟩ i (by rw[f];exact u);rw[cell_of_row _ w.heap.size i _ _ _ (Lib.bytesWorld_at_new w e ⟨l.toArray⟩)]at this;rw[this];simp[cd,u]
 ·simp only[V];exact⟨q,_,_,_,rfl⟩
theorem vO{F:Bool→Addr→Value→Prop}{t e:TypeId}{ti u:TI}(ht:aN P t ti)(hk:ti.k = .sl e)(f:aN P e u){a:Act}{ad:Option Addr}{len cap:Nat}{lo:Option Operand}{hi mx:Operand}{l:Option Int}{r q:Int}(hl:sG F ρ a lo l)
  {β:Bool} {k:IntKind} (z:V F ρ (.p β (.int k) r) (a.eval hi)) {j:Bool} {A:IntKind} (B:V F ρ (.p j (.int A) q) (a.eval mx)) (C:0≤l.getD 0) (I:l.getD 0≤r) (O:r≤q) (X:q≤len) (Y:len≤cap) :
  (Instr.sliceAt t (.slice ad len cap) (lo.map a.eval) (some (a.eval hi)) (some (a.eval mx))).run P w =
   .ok (.slice (if q.toNat=(l.getD 0).toNat then ad else ad.map (·.add ((l.getD 0).toNat*u.size))) (r.toNat - (l.getD 0).toNat) (q.toNat - (l.getD 0).toNat)) w:=by
 have hu:=aX ht hk;have D:(Instr.sliceBound (.int A q) cap .slice3Acap).run P w = .ok q.toNat w:=run_sliceBound (by omega) (by omega);have E:(Instr.sliceBound (.int k r) q.toNat .slice3B).run P w = .ok r.toNat w:=run_sliceBound (by omega) (by omega);cases lo with
 | none =>
  cases l with
  | some _=>exact hl.elim
  | none=>simp[Instr.sliceAt,Instr.slice,Instr.sliceBounds,run_underlying hu,bX z,bX B,D,E,run_sizeOf f]
 | some x =>
  cases l with
  | none=>exact hl.elim
  | some i =>
   obtain⟨J,L,M⟩:=hl;simp only[Option.getD_some]at C I;have N:(Instr.sliceBound (.int L i) r.toNat .slice3C).run P w = .ok i.toNat w:=run_sliceBound C (by omega);simp[Instr.sliceAt,Instr.slice,Instr.sliceBounds,run_underlying hu,bX z,bX B,bX M,D,E,N,run_sizeOf f]
theorem DP{F:Bool→Addr→Value→Prop}{f:Nat→QW}{A:Ty}{j:List A.den}{β:Bool}{ad:Option Addr}{len cap:Nat}(u:V F f (.p β (.slice A) j) (.slice ad len cap)){l r q size:Nat}(B:size=A.size)(J:l≤r)(L:r≤q)(M:q≤len):
  V F f (.p β (.slice A) ((j.take r).drop l)) (.slice (if q=l then ad else ad.map (·.add (l*size))) (r - l) (q - l)):=by
 subst B;simp only[V,ah]at u ⊢;obtain⟨_,C,x,z,e,⟨hl,hc⟩,D⟩:=u;simp only[Value.slice.injEq]at e;obtain⟨rfl,rfl,rfl⟩:=e;refine⟨rfl,_,_,_,rfl,⟨by simp only[List.length_drop,List.length_take];omega,by omega⟩,fun i hi=>?_⟩;simp only[List.length_drop,List.length_take]at hi;obtain⟨b,E,I⟩:=D (l+i) (by omega);subst E;refine⟨b.add (l*A.size),by rw[if_neg (by omega)];rfl,?_⟩;have e:((j.take r).drop l)[i]'(by simp only[List.length_drop,List.length_take];omega)=j[l+i]:=by simp
 rw[e];refine ah.mono (fun _ _ h=>h) (fun k v hk=>?_) I;rw[add_add];rwa [Nat.add_mul,Nat.add_assoc]at hk
theorem tv(m:Mem Bw w0 ρ φ h w){o:Oper}{a:Act}{t e:TypeId}{ti C:TI}(ht:aN P t ti)(hk:ti.k = .sl e)(f:aN P e C){A:Ty}(hT:C.T=some A){D:Operand}{E:Option Operand}{hi mx:Operand}(J:o.op = .slice t D E (some hi) (some mx))
  {β:Bool} {xs:List A.den} (u:V (Fr (own φ h) Bw w) ρ (.p β (.slice A) xs) (a.eval D)) {l:Option Int} {r q:Int} (hl:sG (Fr (own φ h) Bw w) ρ a E l) {x:Bool} {L:IntKind} (M:V (Fr (own φ h) Bw w) ρ (.p x (.int L) r) (a.eval hi))
  {z:Bool} {N:IntKind} (O:V (Fr (own φ h) Bw w) ρ (.p z (.int N) q) (a.eval mx)) (X:0≤l.getD 0) (Y:l.getD 0≤r) (Z:r≤q) (h3:q≤xs.length) :
  Good P o a w (aF Bw w0 ρ φ h w new (.p β (.slice A) ((xs.take r.toNat).drop (l.getD 0).toNat)) []):=by
 obtain⟨ad,cap,I,hc⟩:=nC u;obtain⟨B,_,_⟩:=f.hT A hT;have j:=vO (P:=P) (w:=w) ht hk f (ad:=ad) (cap:=cap) hl M O X Y Z h3 hc;rw[I]at u;refine Good.aG (v:=_) (w':=w) (by simp only[execOp,J,I,Option.map_some,j,Sem.run_bind,Result.andThen_ok];rfl) (aF.pure m (DP u B.symm (by omega) (by omega) (by omega)))
theorem yV(m:Mem Bw w0 ρ φ h w)(hn:ρ new=none){o:Oper}{a:Act}{t e:TypeId}{ti B:TI}(ht:aN P t ti)(hk:ti.k = .sl e)(j:aN P e B){A:Ty}(hT:B.T=some A){L hi mx:Operand}(X:o.op = .slice t L none (some hi) (some mx))
  {xs:List A.den} (C:V (Fr (own φ h) Bw w) ρ (.p false (.slice A) xs) (a.eval L)) {r:Int} {D:Bool} {Y:IntKind} (Z:V (Fr (own φ h) Bw w) ρ (.p D (.int Y) r) (a.eval hi))
  {E:Bool} {k2:IntKind} (hq:V (Fr (own φ h) Bw w) ρ (.p E (.int k2) r) (a.eval mx)) (h1:0≤r) (h3:r≤xs.length) :
  Good P o a w (aF Bw w0 ρ φ h w new (.sl new) [(new,some (.cutz A (xs.take r.toNat)))]):=by
 obtain⟨ad,cap,M,hc⟩:=nC C;obtain⟨I,_,_⟩:=j.hT A hT;have f:=vO (P:=P) (w:=w) ht hk j (a:=a) (lo:=none) (l:=none) (ad:=ad) (cap:=cap) trivial Z hq (by simp) (by simpa using h1) (by omega) h3 hc;rw[M]at C;refine Good.aG (v:=_) (w':=w) (by simp only[execOp,X,M,Option.map_none,Option.map_some,Sem.run_bind]at f ⊢;rw[f];rfl) ?_;have N:=DP C (l:=0) (r:=r.toNat) (q:=r.toNat) I.symm (by omega) (by omega) (by omega);simp only[Nat.sub_zero,List.drop_zero,Option.getD_none,Int.toNat_zero]at N ⊢;refine cV m none new (.cutz A (xs.take r.toNat)) (.slice (if r.toNat=0 then ad else ad.map (fun x=>x.add (0*B.size))) r.toNat r.toNat) none (yY w) (fun k e=>by cases e) (.inl hn) (fun hl=>by cases hl) (fun F' J O u=>?_) (by rw[bp];rfl) (fun _=>rfl) (fun F' J O u z=>?_)
 ·exact⟨⟨_,by rw[List.length_take,Nat.min_eq_left (by omega)]⟩,V.mono O u N⟩
 ·simp only[V];exact⟨z,_,_,_,rfl⟩
def FG(n:Int):QX:=(Utf8.encode n).data.toList
theorem Ee(m:Mem Bw w0 ρ φ h w){o:Oper}{a:Act}{st e:TypeId}{j:TI}(q:aN P st j)(hd:P.underlying e=some .string){f:Operand}(u:o.op = .convert st e f)
  {β:Bool} {k:IntKind} {n:Int} (x:V (Fr (own φ h) Bw w) ρ (.p β (.int k) n) (a.eval f)):Good P o a w (aF Bw w0 ρ φ h w new (.p false .str (FG n)) []):=by
 obtain⟨z,B,_⟩:=q.hu;refine Good.aG (v:= .string (Utf8.encode n)) (w':=w) ?_ (aF.pure m ?_)
 ·simp only[execOp,u,bX x,convert,Sem.run_bind,run_underlying B,run_underlying hd,Result.andThen_ok];cases z <;> rfl
 ·simp only[V,ah];exact⟨rfl,rfl⟩
end
section
variable{P:Program}{Bw:Nat→Prop}{w0:cw P}{ρ:Nat→QW}{φ φ1:Nat→Nat→Prop}{h:Nat→Qz}{w:World}{new:Nat}
theorem aF.Hb{u1 u2:gZ}{j:Nat→Qz}(e:apply u1 h=j)(I:∀β a v,Fr (own φ h) Bw w β a v→Fr (own φ1 j) Bw w β a v){x:ag}{v:Value}{w':World}
  (J:aF Bw w0 ρ φ1 j w new x u2 v w'):aF Bw w0 ρ φ h w new x (u1++u2) v w':=by
 subst e;obtain⟨z,B,C,D,L,M,E⟩:=J;rw[←eU]at C D E;exact⟨z,B,C,fun β a v N=>D _ _ _ (I _ _ _ N),L,M,E⟩
theorem rq(m:Mem Bw w0 ρ φ h w)(hn:ρ new=none){o:Oper}{a:Act}{t:TypeId}{ti:TI}(ht:aN P t ti)(hk:ti.k.agg=false){D:Operand}{id i:Nat}(E:V (Fr (own φ h) Bw w) ρ (.adr id i 1 0) (a.eval D))(L:o.op = .load t D)
  {e z:TypeId} {A:Ty} {f:List (List A.den)} (hi:h id=some (.mat e z A f none)) (x:i<f.length) :
  Good P o a w (aF Bw w0 ρ φ h w new (.sl new) [(id,some (.mat e z A f (some (i,new)))),(new,some (.arr z A (f.getD i [])))]):=by
 rw[show f.getD i []=f[i] by simp[x]];obtain⟨v,cells,u,M,I,N,⟨O,n,c,X⟩,Y,Z,B⟩:=m.Hx hi hn x;simp only[V]at E;obtain⟨g,q,he⟩:=E;have C:u.ownBlock=some g:=by
  rw[M]at q;rcases I.2 with⟨rfl,h0⟩ | ⟨g',cap,a1,rfl,_⟩
  ·omega
  ·rcases q with q | ⟨n,c,q⟩
   ·cases q
   ·simp only[Option.some.injEq,Value.slice.injEq]at q;rw[q.1];rfl
 have p:=I.cells C _ _ N;rw[cr,Nat.zero_add]at p;refine Good.aG (v:=v) (w':=w) ?_ ⟨_,_,Y,Z,B,fun j y J=>?_,?_⟩
 ·simp only[execOp,L,Instr.loadAt,he,Instr.sureAddr,Sem.run_bind,Sem.run_pure,Result.andThen_ok,Nat.mul_one,Nat.add_zero];unfold loadVar;rw[Sem.run_bind,kP ht];simp only[Result.andThen_ok,hk];rw[if_neg (by simp),run_load,p];rfl
 ·by_cases e:j=new
  ·exact .inr ⟨0,by omega,e⟩
  ·rw[aQ _ _ e]at J;exact .inl J
 ·simp only[V];exact⟨aB _ _ _,O,n,c,X⟩
theorem oq(m:Mem Bw w0 ρ φ h w){o:Oper}{a:Act}{t:TypeId}{ti:TI}(ht:aN P t ti)(O:ti.size=1){xo yo:Operand}{id i r:Nat}(hx:V (Fr (own φ h) Bw w) ρ (.adr id i 1 0) (a.eval xo))
  (hy:V (Fr (own φ h) Bw w) ρ (.sl r) (a.eval yo)) (ho:o.op = .store t xo yo) {e e2:TypeId} {A:Ty} {f:List (List A.den)} {hole:Option (Nat×Nat)} (hi:h id=some (.mat e e2 A f hole)) (a4:i<f.length)
  (hh:∀k j,hole=some (k,j)→k=i):Good P o a w (aF Bw w0 ρ φ h w new .unk [(id,some (.mat e e2 A f (some (i,r))))]):=by
 obtain⟨u,q1,hs,h0,_,cells,c1,c2,c3⟩:=m.ob id _ hi;simp only[V]at hy;obtain⟨hr,ad,vn,vc,hv⟩:=hy;generalize a5:a.eval yo=J at hr hv;have B:J.cells = #[J]:=fF (by rw[hv];rfl);simp only[V]at hx;obtain⟨g,X,he⟩:=hx;rcases c1.2 with⟨rfl,hn⟩ | ⟨L,cap,z,rfl,_,C,Y,Z,N,a1⟩
 ·omega
 rw[q1]at X;have a6:L=g:=by
  rcases X with X | ⟨n,c,X⟩
  ·cases X
  ·simp only[Option.some.injEq,Value.slice.injEq,Addr.mk.injEq]at X;exact X.1.1
 subst a6;have a7:cells.length=f.length*1:=c1.1;have D:=gM (P:=P) ht C (v:=J) (p:=i*1+0) (by rw[B,O];rfl) (by rw[N,O];omega) (fun c hc=>by
  rw[B]at hc;simp only[List.mem_singleton]at hc;rw[hc,hv];rfl)
 have E:(z.toList.take (i*1+0)++J.cells.toList++z.toList.drop (i*1+0+ti.size))=z.toList.set i J:=by rw[B,O,List.set_eq_take_append_cons_drop,if_pos (by simp only[Array.length_toList];omega)];simp
 rw[E]at D;refine Good.jD (w':=_) (by simp[execOp,ho,Instr.storeAt,he,Instr.sureAddr,a5];simp only[Nat.mul_one,Nat.add_zero]at D;rw[D];rfl) ?_;refine dY m (some id) id (.mat e e2 A f (some (i,r))) (.slice (some ⟨L,0,none⟩) f.length cap) (φ id) (some L) (ba w L _) (fun k e=>⟨id,_,rfl,hi,rfl,by cases e;exact hs L rfl⟩) (.inr ⟨rfl,q1⟩)
  (fun _ k hk=>Nat.lt_of_lt_of_le (m.lt id _ k hi rfl hk) (ba w L _).size) (fun _ k hk=> .inr ⟨id,_,rfl,hi,rfl,hk⟩) (fun F' a8 hF a2=>?_) (by rw[bm];rfl) (fun e=>by rw[q1]at e;cases e) (fun F' a8 hF a2 ax=>by simp only[V])
 have x:∀j,j≠i→Ai hole j:=fun j hj k M e=>by rw[hh k M e];exact hj
 have I:∀j,j≠i→(cells.set i J)[j]? = cells[j]? :=fun j hj=>List.getElem?_set_ne (Ne.symm hj)
 refine⟨hs,h0,fun k M e=>(by cases e;exact a4),cells.set i J,⟨by rw[List.length_set];exact a7,.inr ⟨L,cap,(z.toList.set i J).toArray,rfl,Nat.zero_le _,setRow_heap w L z _ e _ C,Y,Z,by simp only[List.size_toArray,List.length_set,Array.length_toList];exact N,?_⟩⟩,fun j hj=>?_,fun j j' vj a9 b aa s1 s2 e1 a3=>?_⟩
 ·show(z.toList.set i J).take (f.length*1)=_;rw[←a1,List.take_set]
 ·by_cases e:j=i
  ·subst e;refine⟨J,by rw[List.getElem?_set_self (by omega)],⟨ad,vn,vc,hv⟩,fun ac=>absurd rfl (ac j r rfl),fun M e=>?_⟩;cases e;exact a2 _ _ hr
  ·obtain⟨v,p1,p2,p3,_⟩:=c2 j hj;refine⟨v,by rw[I j e];exact p1,p2,fun _=>?_,fun M e'=>by cases e';exact absurd rfl e⟩;obtain⟨b1,rc,b2,b3⟩:=p3 (x j e);refine⟨b1,rc,fL (fun k hk=>?_) b2,fun q hq=>ah.mono (hF _) (fun _ _ h=>h) (b3 q hq)⟩;refine(ba w L _).block k ?_ (fun e'=>(b1 k hk).2 (by rw[e'];rfl));exact m.lt id _ k hi rfl (b1 k hk).1
 ·have n1:j≠i:=fun e=>s1 i r rfl e
  have n2:j'≠i:=fun e=>s2 i r rfl e
  rw[I j n1]at e1;rw[I j' n2]at a3;exact c3 j j' vj a9 b aa (x j n1) (x j' n2) e1 a3
end
end Go.Tv
