import Derived.Test.YtbedjpdfkmfplaaGreatDoorTvKc
import Derived.Laws.StructEq
import Derived.ChangeKeysEq
import Derived.Lib.ConvBytes
namespace Go.Tv
open Go Go.RowKit
def iX(a:Ty):List Ty→Ty
 | []=>a
 | b::r=> .prod a (iX b r)
def gH:List Ty→Ty
 | []=> .unit
 | [a]=> .prod a .unit
 | a::b::r=> .prod a (iX b r)
def jC(P:Program):Nat→List Field→List Ty→Bool
 | _,[],[]=>true
 | off,f::e,T::Ts=>f.offset == off && P.cellsOf f.type == T.size && jC P (off+T.size) e Ts
 | _,_,_=>false
def IM:(T:Ty)→T.den→T.den→Bool
 | .int _,x,y=>(show Int from x) == y
 | .bool,x,y=>(show Bool from x) == y
 | .str,x,y=>(show QX from x) == y
 | .flt,x,y=>L1 x y
 | .unit,_,_=>true
 | .prod a b,x,y=>IM a x.1 y.1 && IM b x.2 y.2
 | .slice _,_,_=>false
 | .ptr _,_,_=>false
 | .tree _ _,_,_=>false
 | .arr _ _,x,y=>JN x y
 | .mapi _ _,_,_=>false
def MN(P:Program):Nat→TypeId→Option Ty
 | 0,_=>none
 | n+1,t=>if(P.info? t).isSome then match P.underlying t with
  | some .bool=>some .bool
  | some (.int k)=>some (.int k)
  | some .string=>some .str
  | some (.float .f64)=>some .flt
  | some (.struct e)=>match e.toList.mapM (fun f=>MN P n f.type)with
   | some Ts=>if jC P 0 e.toList Ts && e.toList.all (·.name != "_") && !P.stoodInHeld t && P.cellsOf t == (gH Ts).size && !Ts.isEmpty then some (gH Ts)else none
   | none=>none
  | _=>none
  else none
def o7(G:Addr→Value→Prop)(T:Ty)(x:T.den)(u:Value):Prop :=
 if T.scalar then ai G T x (fun _ z=>z=u)else ∃e,u = .agg e∧e.size=T.size∧ai G T x (fun k z=>e[k]? = some z)
theorem nm{α β:Type}{f:α→Option β}:∀ {l:List α} {j:List β},l.mapM f=some j→j.length=l.length∧∀(i:Nat) (x:α),l[i]? = some x→∃y,j[i]? = some y∧f x=some y
 | [],j,h=>by simp at h;subst h;simp
 | a::l,j,h=>by
  simp only[List.mapM_cons,Option.bind_eq_bind,Option.bind_eq_some_iff]at h;obtain⟨y,u,B,hz,e⟩:=h;simp at e;subst e;obtain⟨v,z⟩:=nm hz;refine⟨by simp[v],fun i x q=>?_⟩;cases i with
  | zero=>simp at q;subst q;exact⟨y,rfl,u⟩
  | succ i=>exact z i x (by simpa using q)
section
variable{P:Program}{w:World}{G:Addr→Value→Prop}
def EqAt(P:Program)(w:World)(d:Nat)(t:TypeId)(T:Ty):Prop :=
 (∃i,P.info? t=some i)∧(isAgg t).run P w = .ok (!T.scalar) w∧∀(G:Addr→Value→Prop) (x y:T.den) (u v:Value),o7 G T x u→o7 G T y v→(Op.equalIn d t u v).run P w = .ok (IM T x y) w
theorem wi{d:Nat}{t:TypeId}{T:Ty}(h:EqAt P w d t T)(v:P.cellsOf t=T.size){f:QU}{off:Nat}{x:T.den}(C:ai G T x (fun k z=>f[off+k]? = some z))(A:off+T.size≤f.size):
  ∃u,(part t f off).run P w = .ok u w∧o7 G T x u:=by
 obtain⟨⟨i,hi⟩,ha,_⟩:=h;unfold part;by_cases e:T.scalar=true
 ·simp only[o7,if_pos e];have q:=Ty.fT e;have B:off<f.size:=by omega
  refine⟨f[off],?_,?_⟩
  ·simp_all
  ·grind (splits:=6) (ematch:=4) [ai.gV]
 ·have j:T.scalar=false:=by simpa using e
  simp only[o7,if_neg e];refine⟨.agg (f.extract off (off+T.size)),?_,_,rfl,by simp;omega,?_⟩
  ·rw[Sem.run_bind,ha,Result.andThen_ok,j];simp only[Bool.not_false,if_true,Sem.run_bind,(Go.run_sizeOf w hi:(sizeOf t).run P w=_),Result.andThen_ok,v];rfl
  ·grind (splits:=6) (ematch:=4) [ai.gV]
theorem uM{d:Nat}{xs ys:QU}:∀(B:List Field) (Ts:List Ty) (off:Nat) (f:Field) (T:Ty),jC P off (f::B) (T::Ts)=true →
  (f::B).all (·.name != "_")=true→(∀(i:Nat) g S,(f::B)[i]? = some g→(T::Ts)[i]? = some S→EqAt P w d g.type S)→off+(iX T Ts).size≤xs.size→off+(iX T Ts).size≤ys.size →
  ∀(x y:(iX T Ts).den),ai G (iX T Ts) x (fun k z=>xs[off+k]? = some z)→ai G (iX T Ts) y (fun k z=>ys[off+k]? = some z) →
  (Op.eqFields d xs ys (f::B)).run P w = .ok (IM (iX T Ts) x y) w
 | [],_::_,_,_,_,e,_,_,_,_,_,_,_,_=>by simp[jC]at e
 | _::_,[],_,_,_,e,_,_,_,_,_,_,_,_=>by simp[jC]at e
 | [],[],off,f,T,e,hn,C,D,E,x,y,j,q=>by
  simp only[jC,Bool.and_eq_true,beq_iff_eq]at e;simp only[List.all_cons,Bool.and_eq_true,bne_iff_ne,ne_eq]at hn;have A:=C 0 f T rfl rfl;simp only[iX]at D E x y j q ⊢;obtain⟨u,I,J⟩:=wi A e.1.2 j D;obtain⟨v,v1,L⟩:=wi A e.1.2 q E;have M:=A.2.2 G x y u v J L;simp only[Op.eqFields,hn.1,ne_eq,not_false_eq_true,if_true,Sem.run_bind,e.1.1,I,v1,M,Result.andThen_ok];cases IM T x y <;> simp
 | g::B,S::Ts,off,f,T,e,hn,C,D,E,x,y,j,q=>by
  have N:=e;simp only[jC,Bool.and_eq_true,beq_iff_eq]at e;have O:=hn;simp only[List.all_cons,Bool.and_eq_true,bne_iff_ne,ne_eq]at hn;have A:=C 0 f T rfl rfl;simp only[iX]at x y j q ⊢;simp only[iX,Ty.size]at D E;simp only[ai]at j q;obtain⟨u,I,J⟩:=wi A e.1.2 j.1 (by omega);obtain⟨v,v1,L⟩:=wi A e.1.2 q.1 (by omega);have M:=A.2.2 G x.1 y.1 u v J L;have X:=uM (d:=d) (xs:=xs) (ys:=ys) B Ts (off+T.size) g S (by simp only[jC,Bool.and_eq_true,beq_iff_eq];exact e.2) (by simp only[List.all_cons,Bool.and_eq_true,bne_iff_ne,ne_eq];exact hn.2)
   (fun i V S' a b=>C (i+1) V S' (by simpa using a) (by simpa using b)) (by omega) (by omega) x.2 y.2
   (ai.mono (fun _ _ h=>h) (fun k z hk=>by rwa [Nat.add_assoc]) j.2) (ai.mono (fun _ _ h=>h) (fun k z hk=>by rwa [Nat.add_assoc]) q.2)
  rw[Op.eqFields];simp only[hn.1,ne_eq,not_false_eq_true,if_true,Sem.run_bind,e.1.1,I,v1,M,Result.andThen_ok,IM];cases hb:IM T x.1 y.1
  ·simp
  ·simp_all
theorem HB{d:Nat}{xs ys:QU}:∀ {fl:List Field} {Ts:List Ty},Ts.length=fl.length→jC P 0 fl Ts=true→(fl.all (·.name != "_"))=true→Ts.isEmpty=false →
  (∀(j:Nat) (g:Field) (S:Ty),fl[j]? = some g→Ts[j]? = some S→EqAt P w d g.type S)→∀ {x y:(gH Ts).den},xs.size=(gH Ts).size→ys.size=(gH Ts).size →
  ai G (gH Ts) x (fun k z=>xs[k]? = some z)→ai G (gH Ts) y (fun k z=>ys[k]? = some z)→(Op.eqFields d xs ys fl).run P w = .ok (IM (gH Ts) x y) w
 | [],[],_,_,_,h,_,_,_,_,_,_,_=>by cases h
 | [],_::_,h,_,_,_,_,_,_,_,_,_,_=>by simp at h
 | _::_,[],h,_,_,_,_,_,_,_,_,_,_=>by simp at h
 | [_],_::_::_,h,_,_,_,_,_,_,_,_,_,_=>by simp at h
 | _::_::_,[_],h,_,_,_,_,_,_,_,_,_,_=>by simp at h
 | [f],[A],_,e,q,_,u,x,y,v,C,D,E=>by
  have:=uM (P:=P) (w:=w) (d:=d) (xs:=xs) (ys:=ys) [] [] 0 f A e q u (by simp only[gH,Ty.size]at v;simp only[iX];omega) (by simp only[gH,Ty.size]at C;simp only[iX];omega) x.1 y.1
   (ai.mono (fun _ _ h=>h) (fun k z hk=>by rwa [Nat.zero_add]) D.1) (ai.mono (fun _ _ h=>h) (fun k z hk=>by rwa [Nat.zero_add]) E.1)
  simp only[iX]at this;rw[this];simp only[gH,IM,Bool.and_true]
 | f::g::fl,A::B::Ts,_,e,q,_,u,x,y,v,C,D,E =>
  uM (P:=P) (w:=w) (d:=d) (xs:=xs) (ys:=ys) (g::fl) (B::Ts) 0 f A e q u (by simp only[gH,Ty.size]at v;simp only[iX,Ty.size];omega) (by simp only[gH,Ty.size]at C;simp only[iX,Ty.size];omega) x y
   (ai.mono (fun _ _ h=>h) (fun k z hk=>by rwa [Nat.zero_add]) D) (ai.mono (fun _ _ h=>h) (fun k z hk=>by rwa [Nat.zero_add]) E)
theorem tZ{t:TypeId}{d:TypeDesc}(hu:P.underlying t=some d)(h:(match d with | .struct _=>false | .array _ _=>false | _=>true)=true):(isAgg t).run P w = .ok false w:=by
 simp only[isAgg,Sem.run_bind,run_underlying hu,Result.andThen_ok];cases d <;> first | rfl | cases h
theorem HF:∀(n:Nat) (t:TypeId) (T:Ty),MN P n t=some T→∀d,EqAt P w (d+n) t T
 | 0,t,T,h,_=>by simp[MN]at h
 | n+1,t,T,h,d=>by
  have ih:=HF n;simp only[MN]at h;split at h
  ·rename_i hi;obtain⟨i,hi⟩:=Option.isSome_iff_exists.1 hi;split at h
   ·rename_i hu;cases h;refine⟨⟨i,hi⟩,tZ hu rfl,fun G x y u v e f=>?_⟩;simp only[o7,Ty.scalar,if_true,ai]at e f;subst e f;exact run_equalIn_bool w (d+n) t x y hu
   ·rename_i k hu;cases h;refine⟨⟨i,hi⟩,tZ hu rfl,fun G x y u v e f=>?_⟩;simp only[o7,Ty.scalar,if_true,ai]at e f;subst e f;exact run_equalIn_int w (d+n) t k k x y hu
   ·rename_i hu;cases h;refine⟨⟨i,hi⟩,tZ hu rfl,fun G x y u v e f=>?_⟩;simp only[o7,Ty.scalar,if_true,ai]at e f;subst e f;have:=run_equalIn_string w (d+n) t ⟨List.toArray x⟩ ⟨List.toArray y⟩ hu;rw[ByteArray.toList_eq,ByteArray.toList_eq]at this;exact this
   ·rename_i hu;cases h;refine⟨⟨i,hi⟩,tZ hu rfl,fun G x y u v e f=>?_⟩;simp only[o7,Ty.scalar,if_true,ai]at e f;obtain⟨a,rfl,rfl⟩:=e;obtain⟨b,rfl,rfl⟩:=f;rw[show d+(n+1)=(d+n)+1 from rfl];simp[Op.equalIn,run_underlying hu,IM,L1,FQ,Op.floatEq]
   ·rename_i A hu;split at h
    ·rename_i Ts z;split at h
     ·rename_i B;simp only[Bool.and_eq_true,beq_iff_eq,Bool.not_eq_true']at B;obtain⟨⟨⟨⟨E,I⟩,J⟩,c4⟩,C⟩:=B;cases h;obtain⟨L,k2⟩:=nm z;have q:(gH Ts).scalar=false:=by
       match Ts,C with
       | [a],_=>rfl
       | a::b::r,_=>rfl
      have D:P.fieldsOf t=A:=by simp[Program.fieldsOf,hu]
      refine⟨⟨i,hi⟩,?_,fun G x y u v e f=>?_⟩
      ·simp only[isAgg,Sem.run_bind,run_underlying hu,Result.andThen_ok,q];rfl
      ·unfold o7 at e f;rw[q]at e f;simp only[Bool.false_eq_true,if_false]at e f;obtain⟨M,rfl,N,O⟩:=e;obtain⟨V,rfl,X,Y⟩:=f;rw[show d+(n+1)=(d+n)+1 from rfl,run_equalIn_struct w (d+n) t M V (by rw[D];exact hu) J,D];have Z:∀(j:Nat) (g:Field) (S:Ty),A.toList[j]? = some g→Ts[j]? = some S→EqAt P w (d+n) g.type S:=fun j g S hg hS=>by
        grind
       exact HB L E I C Z N X O Y
     ·cases h
    ·cases h
   ·cases h
  ·cases h
end
def L7(P:Program)(t:TypeId)(T:Ty):Prop:=(P.eqGuardType P.depth t=false∧T.scalar=false)∧∀w,EqAt P w 10000 t T
theorem KG{P:Program}{t:TypeId}{T:Ty}(n:Nat)(hn:n≤10000)(h:MN P n t=some T)(e:P.eqGuardType P.depth t=false∧T.scalar=false):L7 P t T:=⟨e,fun w=>by
 have:=HF (P:=P) (w:=w) n t T h (10000 - n);rwa [Nat.sub_add_cancel hn]at this⟩
section
variable{P:Program}{Bw:Nat→Prop}{w0:cE P}{ρ:Nat→QW}{φ:Nat→Nat→Prop}{h:Nat→Qz}{w:World}{new:Nat}
theorem Mem.grow(m:Mem Bw w0 ρ φ h w){w':World}(z:w.grownBy w' none):Mem Bw w0 ρ φ h w'∧(∀β a v,Fr (own φ h) Bw w β a v→Fr (own φ h) Bw w' β a v):=by
 have B:∀β a v,Fr (own φ h) Bw w β a v→Fr (own φ h) Bw w' β a v:=fun β a v C =>
  Fr.LP (fun k hk _=>z.block k hk (by intro e;cases e)) (fun k hk=> .inl hk) β a v C
 refine⟨⟨fun id o j=>?_,fun id o k D E I=>Nat.lt_of_lt_of_le (m.lt id o k D E I) z.size,m.dj,m.bw,m.ow,m.kp.grown z (fun k e=>by cases e),m.pk⟩,B⟩;obtain⟨u,J,L⟩:=m.ob id o j;exact⟨u,J,OR.mono B (fun _ _ h=>h) (fun _ h=>h) (fun hl k hk=>z.block k (m.lt id o k j hl hk) (by intro e;cases e)) L⟩
theorem Bc(w:World):w.grownBy w none:=⟨rfl,rfl,rfl,Nat.le_refl _,fun _ _ _=>rfl⟩
theorem vF(w:World)(e:TypeId)(s:ByteArray):w.grownBy (Lib.bytesWorld w e s) none :=
 ⟨rfl,rfl,rfl,by rw[Lib.bytesWorld_size];omega,fun k hk _=>Lib.bytesWorld_at_old w e s k hk⟩
theorem Ej(m:Mem Bw w0 ρ φ h w){o:Oper}{a:Act}{st z e:TypeId}{D:TI}(E:aO P st D)(hd:P.underlying z=some (.slice e))(I:P.underlying e=some (.int .u8)){C:Operand}(J:o.op = .convert st z C)
  {β:Bool} {l:QX} (L:V (Fr (own φ h) Bw w) ρ (.p β .str l) (a.eval C)):Good P o a w (aG Bw w0 ρ φ h w new (.p false (.slice (.int .u8)) (cf l)) []):=by
 obtain⟨Z,M,_⟩:=E.hu;have j:=Lib.run_convert_string_bytes (P:=P) w st z e ⟨l.toArray⟩ M hd I;obtain⟨N,O⟩:=m.grow (vF w e ⟨l.toArray⟩);have q:(⟨l.toArray⟩:ByteArray).size=l.length:=by simp[ByteArray.size]
 refine Good.aH (v:=_) (w':=_) (by simp only[execOp,J,pQ L,Sem.run_bind,j,Result.andThen_ok];rfl) ⟨ρ,φ,N,O,fun _ _ h=>h,fun _ _ h=> .inl h,?_⟩;simp only[V,ai];refine⟨rfl,_,_,_,rfl,⟨by rw[q];simp[cf],grownCap_ge _ _ _ _⟩,fun i hi=>⟨_,rfl,?_⟩⟩;have u:i<l.length:=by simpa [cf]using hi
 refine⟨fun X=>?_,fun _ hb=>?_,?_⟩
 ·have f:=m.rO X;simp only[Addr.add]at f;split at f <;> simp at f
 ·have B:=w0.lt _ (m.bw _ hb);have h3:=m.kp.size;simp only[Addr.add]at B;split at B <;> simp at B <;> omega
 ·have:=Lib.bytesWorld_cell w e ⟨l.toArray⟩ i (by rw[q];exact u);have Y:(⟨w.heap.size,0,none⟩:Addr).add (i*Ty.size (.int .u8)+0)=⟨w.heap.size,i,none⟩:=by rw[cu];simp[Ty.size]
  rw[Y,World.fM this];simp[cf,u]
theorem Dx(m:Mem Bw w0 ρ φ h w)(hn:ρ new=none){o:Oper}{a:Act}{st z e:TypeId}{J:TI}(L:aO P st J)(hd:P.underlying z=some (.slice e))(M:P.underlying e=some (.int .u8)){I:Operand}(N:o.op = .convert st z I)
  {β:Bool} {l:QX} (O:V (Fr (own φ h) Bw w) ρ (.p β .str l) (a.eval I)):Good P o a w (aG Bw w0 ρ φ h w new (.sl new) [(new,some (.bytes e (cf l)))]):=by
 obtain⟨Z,X,_⟩:=L.hu;have j:=Lib.run_convert_string_bytes (P:=P) w st z e ⟨l.toArray⟩ X hd M;have f:(⟨l.toArray⟩:ByteArray).size=l.length:=by simp[ByteArray.size]
 have B:=grownCap_ge w l.length 0 e;refine Good.aH (v:=_) (w':=_) (by simp only[execOp,N,pQ O,Sem.run_bind,j,Result.andThen_ok];rfl) ?_;have C:(Lib.bytesCells w e ⟨l.toArray⟩).size=grownCap w l.length 0 e:=by simp only[Lib.bytesCells,Array.size_append,Array.size_map,Array.size_replicate];show l.toArray.size+(grownCap w (⟨l.toArray⟩:ByteArray).size 0 e - (⟨l.toArray⟩:ByteArray).size)=_;rw[f];simp only[List.size_toArray];omega
 refine cV m none new (.bytes e (cf l)) (.slice (some ⟨w.heap.size,0,none⟩) (⟨l.toArray⟩:ByteArray).size (grownCap w (⟨l.toArray⟩:ByteArray).size 0 e)) none (vF w e ⟨l.toArray⟩) (fun k e=>by cases e) (.inl hn) (fun _ k hk=>?_) (fun F' D Y E=>?_)
  (by rw[bp];rfl) (fun _=>rfl) (fun F' D Y E q=>?_)
 ·simp only[dH,Option.some.injEq]at hk;exact .inl (by omega)
 ·refine .inr ⟨w.heap.size,grownCap w l.length 0 e,_,_,by rw[f];simp[cf],rfl,Lib.bytesWorld_at_new w e ⟨l.toArray⟩,.inr rfl,by simpa [cf]using B,C,fun i hi=>?_⟩;have u:i<l.length:=by simpa [cf]using hi
  have:=Lib.bytesWorld_cell w e ⟨l.toArray⟩ i (by rw[f];exact u);rw[cell_of_row _ w.heap.size i _ _ _ (Lib.bytesWorld_at_new w e ⟨l.toArray⟩)]at this;rw[this];simp[cf,u]
 ·simp only[V];exact⟨q,_,_,_,rfl⟩
theorem ya{F:Bool→Addr→Value→Prop}{t e:TypeId}{ti u:TI}(ht:aO P t ti)(hk:ti.k = .sl e)(f:aO P e u){a:Act}{ad:Option Addr}{len cap:Nat}{lo:Option Operand}{hi mx:Operand}{l:Option Int}{r q:Int}(hl:uc F ρ a lo l)
  {β:Bool} {k:IntKind} (z:V F ρ (.p β (.int k) r) (a.eval hi)) {j:Bool} {A:IntKind} (B:V F ρ (.p j (.int A) q) (a.eval mx)) (C:0≤l.getD 0) (I:l.getD 0≤r) (O:r≤q) (X:q≤len) (Y:len≤cap) :
  (Instr.sliceAt t (.slice ad len cap) (lo.map a.eval) (some (a.eval hi)) (some (a.eval mx))).run P w =
   .ok (.slice (if q.toNat=(l.getD 0).toNat then ad else ad.map (·.add ((l.getD 0).toNat*u.size))) (r.toNat - (l.getD 0).toNat) (q.toNat - (l.getD 0).toNat)) w:=by
 have hu:=aX ht hk;have D:(Instr.sliceBound (.int A q) cap .slice3Acap).run P w = .ok q.toNat w:=run_sliceBound (by omega) (by omega);have E:(Instr.sliceBound (.int k r) q.toNat .slice3B).run P w = .ok r.toNat w:=run_sliceBound (by omega) (by omega);cases lo with
 | none =>
  cases l with
  | some _=>exact hl.elim
  | none=>simp[Instr.sliceAt,Instr.slice,Instr.sliceBounds,run_underlying hu,bR z,bR B,D,E,run_sizeOf f]
 | some x =>
  cases l with
  | none=>exact hl.elim
  | some i =>
   obtain⟨J,L,M⟩:=hl;simp only[Option.getD_some]at C I;have N:(Instr.sliceBound (.int L i) r.toNat .slice3C).run P w = .ok i.toNat w:=run_sliceBound C (by omega);simp[Instr.sliceAt,Instr.slice,Instr.sliceBounds,run_underlying hu,bR z,bR B,bR M,D,E,N,run_sizeOf f]
theorem FG{F:Bool→Addr→Value→Prop}{f:Nat→QW}{A:Ty}{j:List A.den}{β:Bool}{ad:Option Addr}{len cap:Nat}(u:V F f (.p β (.slice A) j) (.slice ad len cap)){l r q size:Nat}(C:size=A.size)(L:l≤r)(M:r≤q)(N:q≤len):
  V F f (.p β (.slice A) ((j.take r).drop l)) (.slice (if q=l then ad else ad.map (·.add (l*size))) (r - l) (q - l)):=by
 subst C;simp only[V,ai]at u ⊢;obtain⟨_,D,z,B,e,⟨hl,O⟩,E⟩:=u;simp only[Value.slice.injEq]at e;obtain⟨rfl,rfl,rfl⟩:=e;refine⟨rfl,_,_,_,rfl,⟨by simp only[List.length_drop,List.length_take];omega,by omega⟩,fun i hi=>?_⟩;simp only[List.length_drop,List.length_take]at hi;obtain⟨b,I,J⟩:=E (l+i) (by omega);subst I;refine⟨b.add (l*A.size),by rw[if_neg (by omega)];rfl,?_⟩;have e:((j.take r).drop l)[i]'(by simp only[List.length_drop,List.length_take];omega)=j[l+i]:=by simp
 rw[e];refine ai.mono (fun _ _ h=>h) (fun k v hk=>?_) J;rw[add_add];rwa [Nat.add_mul,Nat.add_assoc]at hk
theorem uU(m:Mem Bw w0 ρ φ h w){o:Oper}{a:Act}{t e:TypeId}{ti D:TI}(ht:aO P t ti)(hk:ti.k = .sl e)(f:aO P e D){A:Ty}(hT:D.T=some A){E:Operand}{I:Option Operand}{hi mx:Operand}(L:o.op = .slice t E I (some hi) (some mx))
  {β:Bool} {xs:List A.den} (u:V (Fr (own φ h) Bw w) ρ (.p β (.slice A) xs) (a.eval E)) {l:Option Int} {r q:Int} (hl:uc (Fr (own φ h) Bw w) ρ a I l) {z:Bool} {M:IntKind} (N:V (Fr (own φ h) Bw w) ρ (.p z (.int M) r) (a.eval hi))
  {B:Bool} {O:IntKind} (X:V (Fr (own φ h) Bw w) ρ (.p B (.int O) q) (a.eval mx)) (Y:0≤l.getD 0) (Z:l.getD 0≤r) (h2:r≤q) (h3:q≤xs.length) :
  Good P o a w (aG Bw w0 ρ φ h w new (.p β (.slice A) ((xs.take r.toNat).drop (l.getD 0).toNat)) []):=by
 obtain⟨ad,cap,J,hc⟩:=nZ u;obtain⟨C,_,_⟩:=f.hT A hT;have j:=ya (P:=P) (w:=w) ht hk f (ad:=ad) (cap:=cap) hl N X Y Z h2 h3 hc;rw[J]at u;refine Good.aH (v:=_) (w':=w) (by simp only[execOp,L,J,Option.map_some,j,Sem.run_bind,Result.andThen_ok];rfl) (aG.pure m (FG u C.symm (by omega) (by omega) (by omega)))
theorem AU(m:Mem Bw w0 ρ φ h w)(hn:ρ new=none){o:Oper}{a:Act}{t e:TypeId}{ti B:TI}(ht:aO P t ti)(hk:ti.k = .sl e)(j:aO P e B){A:Ty}(hT:B.T=some A){L hi mx:Operand}(X:o.op = .slice t L none (some hi) (some mx))
  {xs:List A.den} (C:V (Fr (own φ h) Bw w) ρ (.p false (.slice A) xs) (a.eval L)) {r:Int} {D:Bool} {Y:IntKind} (Z:V (Fr (own φ h) Bw w) ρ (.p D (.int Y) r) (a.eval hi))
  {E:Bool} {k2:IntKind} (hq:V (Fr (own φ h) Bw w) ρ (.p E (.int k2) r) (a.eval mx)) (h1:0≤r) (h3:r≤xs.length) :
  Good P o a w (aG Bw w0 ρ φ h w new (.sl new) [(new,some (.cutz A (xs.take r.toNat)))]):=by
 obtain⟨ad,cap,M,hc⟩:=nZ C;obtain⟨I,_,_⟩:=j.hT A hT;have f:=ya (P:=P) (w:=w) ht hk j (a:=a) (lo:=none) (l:=none) (ad:=ad) (cap:=cap) trivial Z hq (by simp) (by simpa using h1) (by omega) h3 hc;rw[M]at C;refine Good.aH (v:=_) (w':=w) (by simp only[execOp,X,M,Option.map_none,Option.map_some,Sem.run_bind]at f ⊢;rw[f];rfl) ?_;have N:=FG C (l:=0) (r:=r.toNat) (q:=r.toNat) I.symm (by omega) (by omega) (by omega);simp only[Nat.sub_zero,List.drop_zero,Option.getD_none,Int.toNat_zero]at N ⊢;refine cV m none new (.cutz A (xs.take r.toNat)) (.slice (if r.toNat=0 then ad else ad.map (fun x=>x.add (0*B.size))) r.toNat r.toNat) none (Bc w) (fun k e=>by cases e) (.inl hn) (fun hl=>by cases hl) (fun F' J O u=>?_) (by rw[bp];rfl) (fun _=>rfl) (fun F' J O u z=>?_)
 ·exact⟨⟨_,by rw[List.length_take,Nat.min_eq_left (by omega)]⟩,V.mono O u N⟩
 ·simp only[V];exact⟨z,_,_,_,rfl⟩
def H9(n:Int):QX:=(Utf8.encode n).data.toList
theorem Gx(m:Mem Bw w0 ρ φ h w){o:Oper}{a:Act}{st e:TypeId}{j:TI}(q:aO P st j)(hd:P.underlying e=some .string){f:Operand}(u:o.op = .convert st e f)
  {β:Bool} {k:IntKind} {n:Int} (z:V (Fr (own φ h) Bw w) ρ (.p β (.int k) n) (a.eval f)):Good P o a w (aG Bw w0 ρ φ h w new (.p false .str (H9 n)) []):=by
 obtain⟨B,C,_⟩:=q.hu;refine Good.aH (v:= .string (Utf8.encode n)) (w':=w) ?_ (aG.pure m ?_)
 ·simp only[execOp,u,bR z,convert,Sem.run_bind,run_underlying C,run_underlying hd,Result.andThen_ok];cases B <;> rfl
 ·simp only[V,ai];exact⟨rfl,rfl⟩
end
section
variable{P:Program}{Bw:Nat→Prop}{w0:cE P}{ρ:Nat→QW}{φ φ1:Nat→Nat→Prop}{h:Nat→Qz}{w:World}{new:Nat}
theorem aG.Iz{u1 u2:iu}{j:Nat→Qz}(e:apply u1 h=j)(I:∀β a v,Fr (own φ h) Bw w β a v→Fr (own φ1 j) Bw w β a v){x:ag}{v:Value}{w':World}
  (J:aG Bw w0 ρ φ1 j w new x u2 v w'):aG Bw w0 ρ φ h w new x (u1++u2) v w':=by
 subst e;obtain⟨z,B,C,D,L,M,E⟩:=J;rw[←fm]at C D E;exact⟨z,B,C,fun β a v N=>D _ _ _ (I _ _ _ N),L,M,E⟩
theorem tP(m:Mem Bw w0 ρ φ h w)(hn:ρ new=none){o:Oper}{a:Act}{t:TypeId}{ti:TI}(ht:aO P t ti)(hk:ti.k.agg=false){I:Operand}{id i:Nat}(J:V (Fr (own φ h) Bw w) ρ (.adr id i 1 0) (a.eval I))(N:o.op = .load t I)
  {e C:TypeId} {A:Ty} {f:List (List A.den)} (hi:h id=some (.mat e C A f none)) (B:i<f.length) :
  Good P o a w (aG Bw w0 ρ φ h w new (.sl new) [(id,some (.mat e C A f (some (i,new)))),(new,some (.arr C A (f.getD i [])))]):=by
 rw[show f.getD i []=f[i] by simp[B]];obtain⟨v,cells,u,O,L,X,⟨Y,n,c,Z⟩,m',hF,D⟩:=m.KO hi hn B;simp only[V]at J;obtain⟨g,z,he⟩:=J;have E:u.ownBlock=some g:=by
  rw[O]at z;rcases L.2 with⟨rfl,h0⟩ | ⟨g',cap,a1,rfl,_⟩
  ·omega
  ·rcases z with z | ⟨n,c,z⟩
   ·cases z
   ·simp only[Option.some.injEq,Value.slice.injEq]at z;rw[z.1];rfl
 have q:=L.cells E _ _ X;rw[cu,Nat.zero_add]at q;refine Good.aH (v:=v) (w':=w) ?_ ⟨_,_,m',hF,D,fun j y M=>?_,?_⟩
 ·simp only[execOp,N,Instr.loadAt,he,Instr.sureAddr,Sem.run_bind,Sem.run_pure,Result.andThen_ok,Nat.mul_one,Nat.add_zero];unfold loadVar;rw[Sem.run_bind,lv ht];simp only[Result.andThen_ok,hk];rw[if_neg (by simp),run_load,q];rfl
 ·by_cases e:j=new
  ·exact .inr ⟨0,by omega,e⟩
  ·rw[aD _ _ e]at M;exact .inl M
 ·simp only[V];exact⟨av _ _ _,Y,n,c,Z⟩
theorem pw(m:Mem Bw w0 ρ φ h w){o:Oper}{a:Act}{t:TypeId}{ti:TI}(ht:aO P t ti)(X:ti.size=1){xo yo:Operand}{id i r:Nat}(hx:V (Fr (own φ h) Bw w) ρ (.adr id i 1 0) (a.eval xo))
  (hy:V (Fr (own φ h) Bw w) ρ (.sl r) (a.eval yo)) (ho:o.op = .store t xo yo) {e e2:TypeId} {A:Ty} {f:List (List A.den)} {hole:Option (Nat×Nat)} (hi:h id=some (.mat e e2 A f hole)) (a5:i<f.length)
  (hh:∀k j,hole=some (k,j)→k=i):Good P o a w (aG Bw w0 ρ φ h w new .unk [(id,some (.mat e e2 A f (some (i,r))))]):=by
 obtain⟨u,q1,hs,h0,_,cells,c1,c2,c3⟩:=m.ob id _ hi;simp only[V]at hy;obtain⟨hr,ad,vn,vc,hv⟩:=hy;generalize a6:a.eval yo=L at hr hv;have C:L.cells = #[L]:=fW (by rw[hv];rfl);simp only[V]at hx;obtain⟨g,Y,he⟩:=hx;rcases c1.2 with⟨rfl,hn⟩ | ⟨M,cap,B,rfl,_,D,Z,a1,O,a2⟩
 ·omega
 rw[q1]at Y;have a7:M=g:=by
  rcases Y with Y | ⟨n,c,Y⟩
  ·cases Y
  ·simp only[Option.some.injEq,Value.slice.injEq,Addr.mk.injEq]at Y;exact Y.1.1
 subst a7;have a8:cells.length=f.length*1:=c1.1;have E:=ib (P:=P) ht D (v:=L) (p:=i*1+0) (by rw[C,X];rfl) (by rw[O,X];omega) (fun c hc=>by
  rw[C]at hc;simp only[List.mem_singleton]at hc;rw[hc,hv];rfl)
 have I:(B.toList.take (i*1+0)++L.cells.toList++B.toList.drop (i*1+0+ti.size))=B.toList.set i L:=by rw[C,X,List.set_eq_take_append_cons_drop,if_pos (by simp only[Array.length_toList];omega)];simp
 rw[I]at E;refine Good.j5 (w':=_) (by simp[execOp,ho,Instr.storeAt,he,Instr.sureAddr,a6];simp only[Nat.mul_one,Nat.add_zero]at E;rw[E];rfl) ?_;refine eG m (some id) id (.mat e e2 A f (some (i,r))) (.slice (some ⟨M,0,none⟩) f.length cap) (φ id) (some M) (bc w M _) (fun k e=>⟨id,_,rfl,hi,rfl,by cases e;exact hs M rfl⟩) (.inr ⟨rfl,q1⟩)
  (fun _ k hk=>Nat.lt_of_lt_of_le (m.lt id _ k hi rfl hk) (bc w M _).size) (fun _ k hk=> .inr ⟨id,_,rfl,hi,rfl,hk⟩) (fun F' a9 hF a3=>?_) (by rw[bf];rfl) (fun e=>by rw[q1]at e;cases e) (fun F' a9 hF a3 b4=>by simp only[V])
 have z:∀j,j≠i→Dq hole j:=fun j hj k N e=>by rw[hh k N e];exact hj
 have J:∀j,j≠i→(cells.set i L)[j]? = cells[j]? :=fun j hj=>List.getElem?_set_ne (Ne.symm hj)
 refine⟨hs,h0,fun k N e=>(by cases e;exact a5),cells.set i L,⟨by rw[List.length_set];exact a8,.inr ⟨M,cap,(B.toList.set i L).toArray,rfl,Nat.zero_le _,setRow_heap w M B _ e _ D,Z,a1,by simp only[List.size_toArray,List.length_set,Array.length_toList];exact O,?_⟩⟩,fun j hj=>?_,fun j j' vj aa b ac s1 s2 e1 a4=>?_⟩
 ·show(B.toList.set i L).take (f.length*1)=_;rw[←a2,List.take_set]
 ·by_cases e:j=i
  ·subst e;refine⟨L,by rw[List.getElem?_set_self (by omega)],⟨ad,vn,vc,hv⟩,fun ax=>absurd rfl (ax j r rfl),fun N e=>?_⟩;cases e;exact a3 _ _ hr
  ·obtain⟨v,p1,p2,p3,_⟩:=c2 j hj;refine⟨v,by rw[J j e];exact p1,p2,fun _=>?_,fun N e'=>by cases e';exact absurd rfl e⟩;obtain⟨b1,rc,b2,b3⟩:=p3 (z j e);refine⟨b1,rc,gf (fun k hk=>?_) b2,fun q hq=>ai.mono (hF _) (fun _ _ h=>h) (b3 q hq)⟩;refine(bc w M _).block k ?_ (fun e'=>(b1 k hk).2 (by rw[e'];rfl));exact m.lt id _ k hi rfl (b1 k hk).1
 ·have n1:j≠i:=fun e=>s1 i r rfl e
  have n2:j'≠i:=fun e=>s2 i r rfl e
  rw[J j n1]at e1;rw[J j' n2]at a4;exact c3 j j' vj aa b ac (z j n1) (z j' n2) e1 a4
end
end Go.Tv
