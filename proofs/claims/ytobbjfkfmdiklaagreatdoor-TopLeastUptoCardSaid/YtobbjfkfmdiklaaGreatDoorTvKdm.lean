import Derived.Test.YtobbjfkfmdiklaaGreatDoorTvKc
import Derived.Laws.StructEq
import Derived.ChangeKeysEq
import Derived.Lib.ConvBytes
namespace Go.Tv
open Go Go.RowKit
def iJ(a:Ty):List Ty→Ty
 | []=>a
 | b::r=> .prod a (iJ b r)
def gk:List Ty→Ty
 | []=> .unit
 | [a]=> .prod a .unit
 | a::b::r=> .prod a (iJ b r)
def ji(P:Program):Nat→List Field→List Ty→Bool
 | _,[],[]=>true
 | off,f::j,T::Ts=>f.offset == off && P.cellsOf f.type == T.size && ji P (off+T.size) j Ts
 | _,_,_=>false
def GW:(T:Ty)→T.den→T.den→Bool
 | .int _,x,y=>(show Int from x) == y
 | .bool,x,y=>(show Bool from x) == y
 | .str,x,y=>(show QX from x) == y
 | .flt,x,y=>Lf x y
 | .unit,_,_=>true
 | .prod a b,x,y=>GW a x.1 y.1 && GW b x.2 y.2
 | .slice _,_,_=>false
 | .ptr _,_,_=>false
 | .tree _ _,_,_=>false
 | .arr _ _,x,y=>Im x y
 | .mapi _ _,_,_=>false
def LX(P:Program):Nat→TypeId→Option Ty
 | 0,_=>none
 | n+1,t=>if(P.info? t).isSome then match P.underlying t with
  | some .bool=>some .bool
  | some (.int k)=>some (.int k)
  | some .string=>some .str
  | some (.float .f64)=>some .flt
  | some (.struct j)=>match j.toList.mapM (fun f=>LX P n f.type)with
   | some Ts=>if ji P 0 j.toList Ts && j.toList.all (·.name != "_") && !P.stoodInHeld t && P.cellsOf t == (gk Ts).size && !Ts.isEmpty then some (gk Ts)else none
   | none=>none
  | _=>none
  else none
def og(G:Addr→Value→Prop)(T:Ty)(x:T.den)(u:Value):Prop :=
 if T.scalar then ah G T x (fun _ z=>z=u)else ∃f,u = .agg f∧f.size=T.size∧ah G T x (fun k z=>f[k]? = some z)
theorem lH{α β:Type}{f:α→Option β}:∀ {l:List α} {j:List β},l.mapM f=some j→j.length=l.length∧∀(i:Nat) (x:α),l[i]? = some x→∃y,j[i]? = some y∧f x=some y
 | [],j,h=>by simp at h;subst h;simp
 | a::l,j,h=>by
  simp only[List.mapM_cons,Option.bind_eq_bind,Option.bind_eq_some_iff]at h;obtain⟨y,u,v,hz,e⟩:=h;simp at e;subst e;obtain⟨h1,h2⟩:=lH hz;refine⟨by simp[h1],fun i x q=>?_⟩;cases i with
  | zero=>simp at q;subst q;exact⟨y,rfl,u⟩
  | succ i=>exact h2 i x (by simpa using q)
section
variable{P:Program}{w:World}{G:Addr→Value→Prop}
def EqAt(P:Program)(w:World)(d:Nat)(t:TypeId)(T:Ty):Prop :=
 (∃i,P.info? t=some i)∧(isAgg t).run P w = .ok (!T.scalar) w∧∀(G:Addr→Value→Prop) (x y:T.den) (u v:Value),og G T x u→og G T y v→(Op.equalIn d t u v).run P w = .ok (GW T x y) w
theorem uQ{d:Nat}{t:TypeId}{T:Ty}(h:EqAt P w d t T)(A:P.cellsOf t=T.size){j:QU}{off:Nat}{x:T.den}(hc:ah G T x (fun k z=>j[off+k]? = some z))(B:off+T.size≤j.size):
  ∃u,(part t j off).run P w = .ok u w∧og G T x u:=by
 obtain⟨⟨i,hi⟩,ha,_⟩:=h;unfold part;by_cases f:T.scalar=true
 ·simp only[og,if_pos f];have p:=Ty.fF f;have q:off<j.size:=by omega
  refine⟨j[off],?_,?_⟩
  ·rw[Sem.run_bind,ha,Result.andThen_ok,f];simp[q]
  ·refine ah.gw (fun k z hk hz=>?_) hc;rw[p]at hk;obtain rfl:k=0:=by omega
   simp[q]at hz;exact hz.symm
 ·have v:T.scalar=false:=by simpa using f
  simp only[og,if_neg f];refine⟨.agg (j.extract off (off+T.size)),?_,_,rfl,by simp;omega,?_⟩
  ·rw[Sem.run_bind,ha,Result.andThen_ok,v];simp only[Bool.not_false,if_true,Sem.run_bind,(Go.run_sizeOf w hi:(sizeOf t).run P w=_),Result.andThen_ok,A];rfl
  ·refine ah.gw (fun k z hk hz=>?_) hc;rw[Array.getElem?_extract];rw[if_pos (by omega)];exact hz
theorem tD{d:Nat}{xs ys:QU}:∀(A:List Field) (Ts:List Ty) (off:Nat) (f:Field) (T:Ty),ji P off (f::A) (T::Ts)=true →
  (f::A).all (·.name != "_")=true→(∀(i:Nat) g S,(f::A)[i]? = some g→(T::Ts)[i]? = some S→EqAt P w d g.type S)→off+(iJ T Ts).size≤xs.size→off+(iJ T Ts).size≤ys.size →
  ∀(x y:(iJ T Ts).den),ah G (iJ T Ts) x (fun k z=>xs[off+k]? = some z)→ah G (iJ T Ts) y (fun k z=>ys[off+k]? = some z) →
  (Op.eqFields d xs ys (f::A)).run P w = .ok (GW (iJ T Ts) x y) w
 | [],_::_,_,_,_,ho,_,_,_,_,_,_,_,_=>by simp[ji]at ho
 | _::_,[],_,_,_,ho,_,_,_,_,_,_,_,_=>by simp[ji]at ho
 | [],[],off,f,T,ho,hn,B,C,D,x,y,j,p=>by
  simp only[ji,Bool.and_eq_true,beq_iff_eq]at ho;simp only[List.all_cons,Bool.and_eq_true,bne_iff_ne,ne_eq]at hn;have q:=B 0 f T rfl rfl;simp only[iJ]at C D x y j p ⊢;obtain⟨u,E,I⟩:=uQ q ho.1.2 j C;obtain⟨v,v1,J⟩:=uQ q ho.1.2 p D;have L:=q.2.2 G x y u v I J;simp only[Op.eqFields,hn.1,ne_eq,not_false_eq_true,if_true,Sem.run_bind,ho.1.1,E,v1,L,Result.andThen_ok];cases GW T x y <;> simp
 | g::A,S::Ts,off,f,T,ho,hn,B,C,D,x,y,j,p=>by
  have M:=ho;simp only[ji,Bool.and_eq_true,beq_iff_eq]at ho;have N:=hn;simp only[List.all_cons,Bool.and_eq_true,bne_iff_ne,ne_eq]at hn;have q:=B 0 f T rfl rfl;simp only[iJ]at x y j p ⊢;simp only[iJ,Ty.size]at C D;simp only[ah]at j p;obtain⟨u,E,I⟩:=uQ q ho.1.2 j.1 (by omega);obtain⟨v,v1,J⟩:=uQ q ho.1.2 p.1 (by omega);have L:=q.2.2 G x.1 y.1 u v I J;have O:=tD (d:=d) (xs:=xs) (ys:=ys) A Ts (off+T.size) g S (by simp only[ji,Bool.and_eq_true,beq_iff_eq];exact ho.2) (by simp only[List.all_cons,Bool.and_eq_true,bne_iff_ne,ne_eq];exact hn.2)
   (fun i V S' a b=>B (i+1) V S' (by simpa using a) (by simpa using b)) (by omega) (by omega) x.2 y.2
   (ah.mono (fun _ _ h=>h) (fun k z hk=>by rwa [Nat.add_assoc]) j.2) (ah.mono (fun _ _ h=>h) (fun k z hk=>by rwa [Nat.add_assoc]) p.2)
  rw[Op.eqFields];simp only[hn.1,ne_eq,not_false_eq_true,if_true,Sem.run_bind,ho.1.1,E,v1,L,Result.andThen_ok,GW];cases hb:GW T x.1 y.1
  ·simp
  ·simp only[Bool.not_true,Bool.false_eq_true,if_false,Bool.true_and];exact O
theorem Fb{d:Nat}{xs ys:QU}:∀ {fl:List Field} {Ts:List Ty},Ts.length=fl.length→ji P 0 fl Ts=true→(fl.all (·.name != "_"))=true→Ts.isEmpty=false →
  (∀(j:Nat) (g:Field) (S:Ty),fl[j]? = some g→Ts[j]? = some S→EqAt P w d g.type S)→∀ {x y:(gk Ts).den},xs.size=(gk Ts).size→ys.size=(gk Ts).size →
  ah G (gk Ts) x (fun k z=>xs[k]? = some z)→ah G (gk Ts) y (fun k z=>ys[k]? = some z)→(Op.eqFields d xs ys fl).run P w = .ok (GW (gk Ts) x y) w
 | [],[],_,_,_,h,_,_,_,_,_,_,_=>by cases h
 | [],_::_,h,_,_,_,_,_,_,_,_,_,_=>by simp at h
 | _::_,[],h,_,_,_,_,_,_,_,_,_,_=>by simp at h
 | [_],_::_::_,h,_,_,_,_,_,_,_,_,_,_=>by simp at h
 | _::_::_,[_],h,_,_,_,_,_,_,_,_,_,_=>by simp at h
 | [f],[A],_,p,q,_,u,x,y,v,C,D,E=>by
  have:=tD (P:=P) (w:=w) (d:=d) (xs:=xs) (ys:=ys) [] [] 0 f A p q u (by simp only[gk,Ty.size]at v;simp only[iJ];omega) (by simp only[gk,Ty.size]at C;simp only[iJ];omega) x.1 y.1
   (ah.mono (fun _ _ h=>h) (fun k z hk=>by rwa [Nat.zero_add]) D.1) (ah.mono (fun _ _ h=>h) (fun k z hk=>by rwa [Nat.zero_add]) E.1)
  simp only[iJ]at this;rw[this];simp only[gk,GW,Bool.and_true]
 | f::g::fl,A::B::Ts,_,p,q,_,u,x,y,v,C,D,E =>
  tD (P:=P) (w:=w) (d:=d) (xs:=xs) (ys:=ys) (g::fl) (B::Ts) 0 f A p q u (by simp only[gk,Ty.size]at v;simp only[iJ,Ty.size];omega) (by simp only[gk,Ty.size]at C;simp only[iJ,Ty.size];omega) x y
   (ah.mono (fun _ _ h=>h) (fun k z hk=>by rwa [Nat.zero_add]) D) (ah.mono (fun _ _ h=>h) (fun k z hk=>by rwa [Nat.zero_add]) E)
theorem su{t:TypeId}{d:TypeDesc}(hu:P.underlying t=some d)(h:(match d with | .struct _=>false | .array _ _=>false | _=>true)=true):(isAgg t).run P w = .ok false w:=by
 simp only[isAgg,Sem.run_bind,run_underlying hu,Result.andThen_ok];cases d <;> first | rfl | cases h
theorem H6:∀(n:Nat) (t:TypeId) (T:Ty),LX P n t=some T→∀d,EqAt P w (d+n) t T
 | 0,t,T,h,_=>by simp[LX]at h
 | n+1,t,T,h,d=>by
  have E:=H6 n;simp only[LX]at h;split at h
  ·rename_i hi;obtain⟨i,hi⟩:=Option.isSome_iff_exists.1 hi;split at h
   ·rename_i hu;cases h;refine⟨⟨i,hi⟩,su hu rfl,fun G x y u v f p=>?_⟩;simp only[og,Ty.scalar,if_true,ah]at f p;subst f p;exact run_equalIn_bool w (d+n) t x y hu
   ·rename_i k hu;cases h;refine⟨⟨i,hi⟩,su hu rfl,fun G x y u v f p=>?_⟩;simp only[og,Ty.scalar,if_true,ah]at f p;subst f p;exact run_equalIn_int w (d+n) t k k x y hu
   ·rename_i hu;cases h;refine⟨⟨i,hi⟩,su hu rfl,fun G x y u v f p=>?_⟩;simp only[og,Ty.scalar,if_true,ah]at f p;subst f p;have:=run_equalIn_string w (d+n) t ⟨List.toArray x⟩ ⟨List.toArray y⟩ hu;rw[ByteArray.toList_eq,ByteArray.toList_eq]at this;exact this
   ·rename_i hu;cases h;refine⟨⟨i,hi⟩,su hu rfl,fun G x y u v f p=>?_⟩;simp only[og,Ty.scalar,if_true,ah]at f p;obtain⟨a,rfl,rfl⟩:=f;obtain⟨b,rfl,rfl⟩:=p;rw[show d+(n+1)=(d+n)+1 from rfl];simp[Op.equalIn,run_underlying hu,GW,Lf,DU,Op.floatEq]
   ·rename_i A hu;split at h
    ·rename_i Ts z;split at h
     ·rename_i hc;simp only[Bool.and_eq_true,beq_iff_eq,Bool.not_eq_true']at hc;obtain⟨⟨⟨⟨I,J⟩,L⟩,c4⟩,B⟩:=hc;cases h;obtain⟨M,N⟩:=lH z;have q:(gk Ts).scalar=false:=by
       match Ts,B with
       | [a],_=>rfl
       | a::b::r,_=>rfl
      have C:P.fieldsOf t=A:=by simp[Program.fieldsOf,hu]
      refine⟨⟨i,hi⟩,?_,fun G x y u v f p=>?_⟩
      ·simp only[isAgg,Sem.run_bind,run_underlying hu,Result.andThen_ok,q];rfl
      ·unfold og at f p;rw[q]at f p;simp only[Bool.false_eq_true,if_false]at f p;obtain⟨O,rfl,V,X⟩:=f;obtain⟨Y,rfl,Z,vy⟩:=p;rw[show d+(n+1)=(d+n)+1 from rfl,run_equalIn_struct w (d+n) t O Y (by rw[C];exact hu) L,C];have hE:∀(j:Nat) (g:Field) (S:Ty),A.toList[j]? = some g→Ts[j]? = some S→EqAt P w (d+n) g.type S:=fun j g S hg hS=>by obtain⟨S',D,q2⟩:=N j g hg;rw[hS]at D;cases D;exact E g.type S q2 d
       exact Fb M I J B hE V Z X vy
     ·cases h
    ·cases h
   ·cases h
  ·cases h
end
def K4(P:Program)(t:TypeId)(T:Ty):Prop:=(P.eqGuardType P.depth t=false∧T.scalar=false)∧∀w,EqAt P w 10000 t T
theorem IN{P:Program}{t:TypeId}{T:Ty}(n:Nat)(hn:n≤10000)(h:LX P n t=some T)(f:P.eqGuardType P.depth t=false∧T.scalar=false):K4 P t T:=⟨f,fun w=>by
 have:=H6 (P:=P) (w:=w) n t T h (10000 - n);rwa [Nat.sub_add_cancel hn]at this⟩
section
variable{P:Program}{Bw:Nat→Prop}{w0:cr P}{ρ:Nat→QW}{φ:Nat→Nat→Prop}{h:Nat→Qz}{w:World}{new:Nat}
theorem Mem.grow(m:Mem Bw w0 ρ φ h w){w':World}(z:w.grownBy w' none):Mem Bw w0 ρ φ h w'∧(∀β a v,Fr (own φ h) Bw w β a v→Fr (own φ h) Bw w' β a v):=by
 have B:∀β a v,Fr (own φ h) Bw w β a v→Fr (own φ h) Bw w' β a v:=fun β a v C =>
  Fr.J1 (fun k hk _=>z.block k hk (by intro e;cases e)) (fun k hk=> .inl hk) β a v C
 refine⟨⟨fun id o j=>?_,fun id o k h1 h2 D=>Nat.lt_of_lt_of_le (m.lt id o k h1 h2 D) z.size,m.dj,m.bw,m.ow,m.kp.grown z (fun k e=>by cases e),m.oX⟩,B⟩;obtain⟨u,E,I⟩:=m.ob id o j;exact⟨u,E,OR.mono B (fun _ _ h=>h) (fun _ h=>h) (fun hl k hk=>z.block k (m.lt id o k j hl hk) (by intro e;cases e)) I⟩
theorem zu(w:World):w.grownBy w none:=⟨rfl,rfl,rfl,Nat.le_refl _,fun _ _ _=>rfl⟩
theorem uz(w:World)(e:TypeId)(s:ByteArray):w.grownBy (Lib.bytesWorld w e s) none :=
 ⟨rfl,rfl,rfl,by rw[Lib.bytesWorld_size];omega,fun k hk _=>Lib.bytesWorld_at_old w e s k hk⟩
theorem CN(m:Mem Bw w0 ρ φ h w){o:Oper}{a:Act}{st x e:TypeId}{B:TI}(C:aO P st B)(hd:P.underlying x=some (.slice e))(D:P.underlying e=some (.int .u8)){z:Operand}(ho:o.op = .convert st x z)
  {β:Bool} {l:QX} (E:V (Fr (own φ h) Bw w) ρ (.p β .str l) (a.eval z)):Good P o a w (aF Bw w0 ρ φ h w new (.p false (.slice (.int .u8)) (bZ l)) []):=by
 obtain⟨N,h1,_⟩:=C.hu;have j:=Lib.run_convert_string_bytes (P:=P) w st x e ⟨l.toArray⟩ h1 hd D;obtain⟨I,J⟩:=m.grow (uz w e ⟨l.toArray⟩);have q:(⟨l.toArray⟩:ByteArray).size=l.length:=by simp[ByteArray.size]
 refine Good.aG (v:=_) (w':=_) (by simp only[execOp,ho,pD E,Sem.run_bind,j,Result.andThen_ok];rfl) ⟨ρ,φ,I,J,fun _ _ h=>h,fun _ _ h=> .inl h,?_⟩;simp only[V,ah];refine⟨rfl,_,_,_,rfl,⟨by rw[q];simp[bZ],grownCap_ge _ _ _ _⟩,fun i hi=>⟨_,rfl,?_⟩⟩;have u:i<l.length:=by simpa [bZ]using hi
 refine⟨fun L=>?_,fun _ hb=>?_,?_⟩
 ·have f:=m.w7 L;simp only[Addr.add]at f;split at f <;> simp at f
 ·have h2:=w0.lt _ (m.bw _ hb);have O:=m.kp.size;simp only[Addr.add]at h2;split at h2 <;> simp at h2 <;> omega
 ·have:=Lib.bytesWorld_cell w e ⟨l.toArray⟩ i (by rw[q];exact u);have M:(⟨w.heap.size,0,none⟩:Addr).add (i*Ty.size (.int .u8)+0)=⟨w.heap.size,i,none⟩:=by rw[cj];simp[Ty.size]
  rw[M,World.fk this];simp[bZ,u]
theorem Cl(m:Mem Bw w0 ρ φ h w)(hn:ρ new=none){o:Oper}{a:Act}{st x e:TypeId}{I:TI}(J:aO P st I)(hd:P.underlying x=some (.slice e))(L:P.underlying e=some (.int .u8)){E:Operand}(ho:o.op = .convert st x E)
  {β:Bool} {l:QX} (M:V (Fr (own φ h) Bw w) ρ (.p β .str l) (a.eval E)):Good P o a w (aF Bw w0 ρ φ h w new (.sl new) [(new,some (.bytes e (bZ l)))]):=by
 obtain⟨O,h1,_⟩:=J.hu;have j:=Lib.run_convert_string_bytes (P:=P) w st x e ⟨l.toArray⟩ h1 hd L;have f:(⟨l.toArray⟩:ByteArray).size=l.length:=by simp[ByteArray.size]
 have z:=grownCap_ge w l.length 0 e;refine Good.aG (v:=_) (w':=_) (by simp only[execOp,ho,pD M,Sem.run_bind,j,Result.andThen_ok];rfl) ?_;have B:(Lib.bytesCells w e ⟨l.toArray⟩).size=grownCap w l.length 0 e:=by simp only[Lib.bytesCells,Array.size_append,Array.size_map,Array.size_replicate];show l.toArray.size+(grownCap w (⟨l.toArray⟩:ByteArray).size 0 e - (⟨l.toArray⟩:ByteArray).size)=_;rw[f];simp only[List.size_toArray];omega
 refine cO m none new (.bytes e (bZ l)) (.slice (some ⟨w.heap.size,0,none⟩) (⟨l.toArray⟩:ByteArray).size (grownCap w (⟨l.toArray⟩:ByteArray).size 0 e)) none (uz w e ⟨l.toArray⟩) (fun k e=>by cases e) (.inl hn) (fun _ k hk=>?_) (fun F' C N D=>?_)
  (by rw[bn];rfl) (fun _=>rfl) (fun F' C N D q=>?_)
 ·simp only[dp,Option.some.injEq]at hk;exact .inl (by omega)
 ·refine .inr ⟨w.heap.size,grownCap w l.length 0 e,_,_,by rw[f];simp[bZ],rfl,Lib.bytesWorld_at_new w e ⟨l.toArray⟩,.inr rfl,by simpa [bZ]using z,B,fun i hi=>?_⟩;have u:i<l.length:=by simpa [bZ]using hi
  have:=Lib.bytesWorld_cell w e ⟨l.toArray⟩ i (by rw[f];exact u);rw[cell_of_row _ w.heap.size i _ _ _ (Lib.bytesWorld_at_new w e ⟨l.toArray⟩)]at this;rw[this];simp[bZ,u]
 ·simp only[V];exact⟨q,_,_,_,rfl⟩
theorem vf{F:Bool→Addr→Value→Prop}{t e:TypeId}{ti u:TI}(ht:aO P t ti)(hk:ti.k = .sl e)(f:aO P e u){a:Act}{ad:Option Addr}{len cap:Nat}{lo:Option Operand}{hi mx:Operand}{l:Option Int}{r q:Int}(hl:tC F ρ a lo l)
  {β:Bool} {k:IntKind} (z:V F ρ (.p β (.int k) r) (a.eval hi)) {j:Bool} {A:IntKind} (B:V F ρ (.p j (.int A) q) (a.eval mx)) (C:0≤l.getD 0) (h1:l.getD 0≤r) (h2:r≤q) (N:q≤len) (O:len≤cap) :
  (Instr.sliceAt t (.slice ad len cap) (lo.map a.eval) (some (a.eval hi)) (some (a.eval mx))).run P w =
   .ok (.slice (if q.toNat=(l.getD 0).toNat then ad else ad.map (·.add ((l.getD 0).toNat*u.size))) (r.toNat - (l.getD 0).toNat) (q.toNat - (l.getD 0).toNat)) w:=by
 have hu:=aW ht hk;have D:(Instr.sliceBound (.int A q) cap .slice3Acap).run P w = .ok q.toNat w:=run_sliceBound (by omega) (by omega);have E:(Instr.sliceBound (.int k r) q.toNat .slice3B).run P w = .ok r.toNat w:=run_sliceBound (by omega) (by omega);cases lo with
 | none =>
  cases l with
  | some _=>exact hl.elim
  | none=>simp[Instr.sliceAt,Instr.slice,Instr.sliceBounds,run_underlying hu,bV z,bV B,D,E,run_sizeOf f]
 | some x =>
  cases l with
  | none=>exact hl.elim
  | some i =>
   obtain⟨I,J,L⟩:=hl;simp only[Option.getD_some]at C h1;have M:(Instr.sliceBound (.int J i) r.toNat .slice3C).run P w = .ok i.toNat w:=run_sliceBound C (by omega);simp[Instr.sliceAt,Instr.slice,Instr.sliceBounds,run_underlying hu,bV z,bV B,bV L,D,E,M,run_sizeOf f]
theorem EO{F:Bool→Addr→Value→Prop}{f:Nat→QW}{A:Ty}{j:List A.den}{β:Bool}{ad:Option Addr}{len cap:Nat}(u:V F f (.p β (.slice A) j) (.slice ad len cap)){l r q size:Nat}(B:size=A.size)(h1:l≤r)(h2:r≤q)(J:q≤len):
  V F f (.p β (.slice A) ((j.take r).drop l)) (.slice (if q=l then ad else ad.map (·.add (l*size))) (r - l) (q - l)):=by
 subst B;simp only[V,ah]at u ⊢;obtain⟨_,C,x,z,e,⟨hl,hc⟩,D⟩:=u;simp only[Value.slice.injEq]at e;obtain⟨rfl,rfl,rfl⟩:=e;refine⟨rfl,_,_,_,rfl,⟨by simp only[List.length_drop,List.length_take];omega,by omega⟩,fun i hi=>?_⟩;simp only[List.length_drop,List.length_take]at hi;obtain⟨b,E,I⟩:=D (l+i) (by omega);subst E;refine⟨b.add (l*A.size),by rw[if_neg (by omega)];rfl,?_⟩;have e:((j.take r).drop l)[i]'(by simp only[List.length_drop,List.length_take];omega)=j[l+i]:=by simp
 rw[e];refine ah.mono (fun _ _ h=>h) (fun k v hk=>?_) I;rw[add_add];rwa [Nat.add_mul,Nat.add_assoc]at hk
theorem tQ(m:Mem Bw w0 ρ φ h w){o:Oper}{a:Act}{t e:TypeId}{ti C:TI}(ht:aO P t ti)(hk:ti.k = .sl e)(f:aO P e C){A:Ty}(hT:C.T=some A){D:Operand}{E:Option Operand}{hi mx:Operand}(ho:o.op = .slice t D E (some hi) (some mx))
  {β:Bool} {xs:List A.den} (u:V (Fr (own φ h) Bw w) ρ (.p β (.slice A) xs) (a.eval D)) {l:Option Int} {r q:Int} (hl:tC (Fr (own φ h) Bw w) ρ a E l) {x:Bool} {J:IntKind} (L:V (Fr (own φ h) Bw w) ρ (.p x (.int J) r) (a.eval hi))
  {z:Bool} {M:IntKind} (N:V (Fr (own φ h) Bw w) ρ (.p z (.int M) q) (a.eval mx)) (O:0≤l.getD 0) (h1:l.getD 0≤r) (h2:r≤q) (X:q≤xs.length) :
  Good P o a w (aF Bw w0 ρ φ h w new (.p β (.slice A) ((xs.take r.toNat).drop (l.getD 0).toNat)) []):=by
 obtain⟨ad,cap,I,hc⟩:=nG u;obtain⟨B,_,_⟩:=f.hT A hT;have j:=vf (P:=P) (w:=w) ht hk f (ad:=ad) (cap:=cap) hl L N O h1 h2 X hc;rw[I]at u;refine Good.aG (v:=_) (w':=w) (by simp only[execOp,ho,I,Option.map_some,j,Sem.run_bind,Result.andThen_ok];rfl) (aF.pure m (EO u B.symm (by omega) (by omega) (by omega)))
theorem zU(m:Mem Bw w0 ρ φ h w)(hn:ρ new=none){o:Oper}{a:Act}{t e:TypeId}{ti B:TI}(ht:aO P t ti)(hk:ti.k = .sl e)(j:aO P e B){A:Ty}(hT:B.T=some A){L hi mx:Operand}(ho:o.op = .slice t L none (some hi) (some mx))
  {xs:List A.den} (C:V (Fr (own φ h) Bw w) ρ (.p false (.slice A) xs) (a.eval L)) {r:Int} {D:Bool} {O:IntKind} (X:V (Fr (own φ h) Bw w) ρ (.p D (.int O) r) (a.eval hi))
  {E:Bool} {Y:IntKind} (Z:V (Fr (own φ h) Bw w) ρ (.p E (.int Y) r) (a.eval mx)) (h1:0≤r) (h3:r≤xs.length) :
  Good P o a w (aF Bw w0 ρ φ h w new (.sl new) [(new,some (.cutz A (xs.take r.toNat)))]):=by
 obtain⟨ad,cap,M,hc⟩:=nG C;obtain⟨I,_,_⟩:=j.hT A hT;have f:=vf (P:=P) (w:=w) ht hk j (a:=a) (lo:=none) (l:=none) (ad:=ad) (cap:=cap) trivial X Z (by simp) (by simpa using h1) (by omega) h3 hc;rw[M]at C;refine Good.aG (v:=_) (w':=w) (by simp only[execOp,ho,M,Option.map_none,Option.map_some,Sem.run_bind]at f ⊢;rw[f];rfl) ?_;have hp:=EO C (l:=0) (r:=r.toNat) (q:=r.toNat) I.symm (by omega) (by omega) (by omega);simp only[Nat.sub_zero,List.drop_zero,Option.getD_none,Int.toNat_zero]at hp ⊢;refine cO m none new (.cutz A (xs.take r.toNat)) (.slice (if r.toNat=0 then ad else ad.map (fun x=>x.add (0*B.size))) r.toNat r.toNat) none (zu w) (fun k e=>by cases e) (.inl hn) (fun hl=>by cases hl) (fun F' J N u=>?_) (by rw[bn];rfl) (fun _=>rfl) (fun F' J N u z=>?_)
 ·exact⟨⟨_,by rw[List.length_take,Nat.min_eq_left (by omega)]⟩,V.mono N u hp⟩
 ·simp only[V];exact⟨z,_,_,_,rfl⟩
def GM(n:Int):QX:=(Utf8.encode n).data.toList
theorem FX(m:Mem Bw w0 ρ φ h w){o:Oper}{a:Act}{st f:TypeId}{q:TI}(u:aO P st q)(hd:P.underlying f=some .string){j:Operand}(ho:o.op = .convert st f j)
  {β:Bool} {k:IntKind} {n:Int} (x:V (Fr (own φ h) Bw w) ρ (.p β (.int k) n) (a.eval j)):Good P o a w (aF Bw w0 ρ φ h w new (.p false .str (GM n)) []):=by
 obtain⟨z,h1,_⟩:=u.hu;refine Good.aG (v:= .string (Utf8.encode n)) (w':=w) ?_ (aF.pure m ?_)
 ·simp only[execOp,ho,bV x,convert,Sem.run_bind,run_underlying h1,run_underlying hd,Result.andThen_ok];cases z <;> rfl
 ·simp only[V,ah];exact⟨rfl,rfl⟩
end
section
variable{P:Program}{Bw:Nat→Prop}{w0:cr P}{ρ:Nat→QW}{φ φ1:Nat→Nat→Prop}{h:Nat→Qz}{w:World}{new:Nat}
theorem aF.HX{u1 u2:gZ}{h1:Nat→Qz}(e:apply u1 h=h1)(E:∀β a v,Fr (own φ h) Bw w β a v→Fr (own φ1 h1) Bw w β a v){x:af}{v:Value}{w':World}
  (hp:aF Bw w0 ρ φ1 h1 w new x u2 v w'):aF Bw w0 ρ φ h w new x (u1++u2) v w':=by
 subst e;obtain⟨j,z,B,C,I,J,D⟩:=hp;rw[←eU]at B C D;exact⟨j,z,B,fun β a v L=>C _ _ _ (E _ _ _ L),I,J,D⟩
theorem rA(m:Mem Bw w0 ρ φ h w)(hn:ρ new=none){o:Oper}{a:Act}{t:TypeId}{ti:TI}(ht:aO P t ti)(hk:ti.k.agg=false){D:Operand}{id i:Nat}(E:V (Fr (own φ h) Bw w) ρ (.adr id i 1 0) (a.eval D))(ho:o.op = .load t D)
  {e z:TypeId} {A:Ty} {f:List (List A.den)} (hi:h id=some (.mat e z A f none)) (x:i<f.length) :
  Good P o a w (aF Bw w0 ρ φ h w new (.sl new) [(id,some (.mat e z A f (some (i,new)))),(new,some (.arr z A (f.getD i [])))]):=by
 rw[show f.getD i []=f[i] by simp[x]];obtain⟨v,cells,u,L,I,M,⟨N,n,c,O⟩,X,Y,B⟩:=m.Jr hi hn x;simp only[V]at E;obtain⟨g,q,Z⟩:=E;have C:u.ownBlock=some g:=by
  rw[L]at q;rcases I.2 with⟨rfl,h0⟩ | ⟨g',cap,a1,rfl,_⟩
  ·omega
  ·rcases q with q | ⟨n,c,q⟩
   ·cases q
   ·simp only[Option.some.injEq,Value.slice.injEq]at q;rw[q.1];rfl
 have p:=I.cells C _ _ M;rw[cj,Nat.zero_add]at p;refine Good.aG (v:=v) (w':=w) ?_ ⟨_,_,X,Y,B,fun j y J=>?_,?_⟩
 ·simp only[execOp,ho,Instr.loadAt,Z,Instr.sureAddr,Sem.run_bind,Sem.run_pure,Result.andThen_ok,Nat.mul_one,Nat.add_zero];unfold loadVar;rw[Sem.run_bind,lj ht];simp only[Result.andThen_ok,hk];rw[if_neg (by simp),run_load,p];rfl
 ·by_cases e:j=new
  ·exact .inr ⟨0,by omega,e⟩
  ·rw[aR _ _ e]at J;exact .inl J
 ·simp only[V];exact⟨aB _ _ _,N,n,c,O⟩
theorem oV(m:Mem Bw w0 ρ φ h w){o:Oper}{a:Act}{t:TypeId}{ti:TI}(ht:aO P t ti)(O:ti.size=1){xo yo:Operand}{id i r:Nat}(hx:V (Fr (own φ h) Bw w) ρ (.adr id i 1 0) (a.eval xo))
  (hy:V (Fr (own φ h) Bw w) ρ (.sl r) (a.eval yo)) (ho:o.op = .store t xo yo) {e e2:TypeId} {A:Ty} {f:List (List A.den)} {hole:Option (Nat×Nat)} (hi:h id=some (.mat e e2 A f hole)) (a4:i<f.length)
  (hh:∀k j,hole=some (k,j)→k=i):Good P o a w (aF Bw w0 ρ φ h w new .unk [(id,some (.mat e e2 A f (some (i,r))))]):=by
 obtain⟨u,q1,hs,h0,_,cells,c1,c2,c3⟩:=m.ob id _ hi;simp only[V]at hy;obtain⟨hr,ad,vn,vc,hv⟩:=hy;generalize a5:a.eval yo=J at hr hv;have B:J.cells = #[J]:=fM (by rw[hv];rfl);simp only[V]at hx;obtain⟨g,X,he⟩:=hx;rcases c1.2 with⟨rfl,hn⟩ | ⟨L,cap,z,rfl,_,C,Y,Z,N,a1⟩
 ·omega
 rw[q1]at X;have a6:L=g:=by
  rcases X with X | ⟨n,c,X⟩
  ·cases X
  ·simp only[Option.some.injEq,Value.slice.injEq,Addr.mk.injEq]at X;exact X.1.1
 subst a6;have a7:cells.length=f.length*1:=c1.1;have D:=gK (P:=P) ht C (v:=J) (p:=i*1+0) (by rw[B,O];rfl) (by rw[N,O];omega) (fun c hc=>by
  rw[B]at hc;simp only[List.mem_singleton]at hc;rw[hc,hv];rfl)
 have E:(z.toList.take (i*1+0)++J.cells.toList++z.toList.drop (i*1+0+ti.size))=z.toList.set i J:=by rw[B,O,List.set_eq_take_append_cons_drop,if_pos (by simp only[Array.length_toList];omega)];simp
 rw[E]at D;refine Good.jM (w':=_) (by simp[execOp,ho,Instr.storeAt,he,Instr.sureAddr,a5];simp only[Nat.mul_one,Nat.add_zero]at D;rw[D];rfl) ?_;refine dR m (some id) id (.mat e e2 A f (some (i,r))) (.slice (some ⟨L,0,none⟩) f.length cap) (φ id) (some L) (ba w L _) (fun k e=>⟨id,_,rfl,hi,rfl,by cases e;exact hs L rfl⟩) (.inr ⟨rfl,q1⟩)
  (fun _ k hk=>Nat.lt_of_lt_of_le (m.lt id _ k hi rfl hk) (ba w L _).size) (fun _ k hk=> .inr ⟨id,_,rfl,hi,rfl,hk⟩) (fun F' a8 hF a2=>?_) (by rw[bm];rfl) (fun e=>by rw[q1]at e;cases e) (fun F' a8 hF a2 ax=>by simp only[V])
 have x:∀j,j≠i→Bd hole j:=fun j hj k M e=>by rw[hh k M e];exact hj
 have I:∀j,j≠i→(cells.set i J)[j]? = cells[j]? :=fun j hj=>List.getElem?_set_ne (Ne.symm hj)
 refine⟨hs,h0,fun k M e=>(by cases e;exact a4),cells.set i J,⟨by rw[List.length_set];exact a7,.inr ⟨L,cap,(z.toList.set i J).toArray,rfl,Nat.zero_le _,setRow_heap w L z _ e _ C,Y,Z,by simp only[List.size_toArray,List.length_set,Array.length_toList];exact N,?_⟩⟩,fun j hj=>?_,fun j j' vj a9 b aa s1 s2 e1 a3=>?_⟩
 ·show(z.toList.set i J).take (f.length*1)=_;rw[←a1,List.take_set]
 ·by_cases e:j=i
  ·subst e;refine⟨J,by rw[List.getElem?_set_self (by omega)],⟨ad,vn,vc,hv⟩,fun ac=>absurd rfl (ac j r rfl),fun M e=>?_⟩;cases e;exact a2 _ _ hr
  ·obtain⟨v,p1,p2,p3,_⟩:=c2 j hj;refine⟨v,by rw[I j e];exact p1,p2,fun _=>?_,fun M e'=>by cases e';exact absurd rfl e⟩;obtain⟨b1,rc,b2,b3⟩:=p3 (x j e);refine⟨b1,rc,fN (fun k hk=>?_) b2,fun q hq=>ah.mono (hF _) (fun _ _ h=>h) (b3 q hq)⟩;refine(ba w L _).block k ?_ (fun e'=>(b1 k hk).2 (by rw[e'];rfl));exact m.lt id _ k hi rfl (b1 k hk).1
 ·have n1:j≠i:=fun e=>s1 i r rfl e
  have n2:j'≠i:=fun e=>s2 i r rfl e
  rw[I j n1]at e1;rw[I j' n2]at a3;exact c3 j j' vj a9 b aa (x j n1) (x j' n2) e1 a3
end
end Go.Tv
