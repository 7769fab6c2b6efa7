import Derived.Test.YtobbjfkfmdiklaaGreatDoorTvKc
import Derived.Laws.StructEq
import Derived.ChangeKeysEq
import Derived.Lib.ConvBytes
namespace Go.Tv
open Go Go.RowKit
def iN(a:Ty):List Ty→Ty
 | []=>a
 | b::r=> .prod a (iN b r)
def gh:List Ty→Ty
 | []=> .unit
 | [a]=> .prod a .unit
 | a::b::r=> .prod a (iN b r)
def je(P:Program):Nat→List Field→List Ty→Bool
 | _,[],[]=>true
 | off,f::j,T::Ts=>f.offset == off && P.cellsOf f.type == T.size && je P (off+T.size) j Ts
 | _,_,_=>false
def Hg:(T:Ty)→T.den→T.den→Bool
 | .int _,x,y=>(show Int from x) == y
 | .bool,x,y=>(show Bool from x) == y
 | .str,x,y=>(show QX from x) == y
 | .flt,x,y=>Lv x y
 | .unit,_,_=>true
 | .prod a b,x,y=>Hg a x.1 y.1 && Hg b x.2 y.2
 | .slice _,_,_=>false
 | .ptr _,_,_=>false
 | .tree _ _,_,_=>false
 | .arr _ _,x,y=>IJ x y
 | .mapi _ _,_,_=>false
def My(P:Program):Nat→TypeId→Option Ty
 | 0,_=>none
 | n+1,t=>if(P.info? t).isSome then match P.underlying t with
  | some .bool=>some .bool
  | some (.int k)=>some (.int k)
  | some .string=>some .str
  | some (.float .f64)=>some .flt
  | some (.struct j)=>match j.toList.mapM (fun f=>My P n f.type)with
   | some Ts=>if je P 0 j.toList Ts && j.toList.all (·.name != "_") && !P.stoodInHeld t && P.cellsOf t == (gh Ts).size && !Ts.isEmpty then some (gh Ts)else none
   | none=>none
  | _=>none
  else none
def og(G:Addr→Value→Prop)(T:Ty)(x:T.den)(u:Value):Prop :=
 if T.scalar then ai G T x (fun _ z=>z=u)else ∃j,u = .agg j∧j.size=T.size∧ai G T x (fun k z=>j[k]? = some z)
theorem lC{α β:Type}{f:α→Option β}:∀ {l:List α} {j:List β},l.mapM f=some j→j.length=l.length∧∀(i:Nat) (x:α),l[i]? = some x→∃y,j[i]? = some y∧f x=some y
 | [],j,h=>by simp at h;subst h;simp
 | a::l,j,h=>by
  simp only[List.mapM_cons,Option.bind_eq_bind,Option.bind_eq_some_iff]at h;obtain⟨y,u,v,hz,e⟩:=h;simp at e;subst e;obtain⟨h1,h2⟩:=lC hz;refine⟨by simp[h1],fun i x q=>?_⟩;cases i with
  | zero=>simp at q;subst q;exact⟨y,rfl,u⟩
  | succ i=>exact h2 i x (by simpa using q)
section
variable{P:Program}{w:World}{G:Addr→Value→Prop}
def EqAt(P:Program)(w:World)(d:Nat)(t:TypeId)(T:Ty):Prop :=
 (∃i,P.info? t=some i)∧(isAgg t).run P w = .ok (!T.scalar) w∧∀(G:Addr→Value→Prop) (x y:T.den) (u v:Value),og G T x u→og G T y v→(Op.equalIn d t u v).run P w = .ok (Hg T x y) w
theorem uU{d:Nat}{t:TypeId}{T:Ty}(h:EqAt P w d t T)(B:P.cellsOf t=T.size){p:QU}{off:Nat}{x:T.den}(hc:ai G T x (fun k z=>p[off+k]? = some z))(C:off+T.size≤p.size):
  ∃u,(part t p off).run P w = .ok u w∧og G T x u:=by
 obtain⟨⟨i,hi⟩,ha,_⟩:=h;unfold part;by_cases j:T.scalar=true
 ·simp only[og,if_pos j];have q:=Ty.fG j;have v:off<p.size:=by omega
  refine⟨p[off],?_,?_⟩
  ·rw[Sem.run_bind,ha,Result.andThen_ok,j];simp[v]
  ·refine ai.gA (fun k z hk hz=>?_) hc;rw[q]at hk;obtain rfl:k=0:=by omega
   simp[v]at hz;exact hz.symm
 ·have A:T.scalar=false:=by simpa using j
  simp only[og,if_neg j];refine⟨.agg (p.extract off (off+T.size)),?_,_,rfl,by simp;omega,?_⟩
  ·rw[Sem.run_bind,ha,Result.andThen_ok,A];simp only[Bool.not_false,if_true,Sem.run_bind,(Go.run_sizeOf w hi:(sizeOf t).run P w=_),Result.andThen_ok,B];rfl
  ·refine ai.gA (fun k z hk hz=>?_) hc;rw[Array.getElem?_extract];rw[if_pos (by omega)];exact hz
theorem sR{d:Nat}{xs ys:QU}:∀(B:List Field) (Ts:List Ty) (off:Nat) (f:Field) (T:Ty),je P off (f::B) (T::Ts)=true →
  (f::B).all (·.name != "_")=true→(∀(i:Nat) g S,(f::B)[i]? = some g→(T::Ts)[i]? = some S→EqAt P w d g.type S)→off+(iN T Ts).size≤xs.size→off+(iN T Ts).size≤ys.size →
  ∀(x y:(iN T Ts).den),ai G (iN T Ts) x (fun k z=>xs[off+k]? = some z)→ai G (iN T Ts) y (fun k z=>ys[off+k]? = some z) →
  (Op.eqFields d xs ys (f::B)).run P w = .ok (Hg (iN T Ts) x y) w
 | [],_::_,_,_,_,j,_,_,_,_,_,_,_,_=>by simp[je]at j
 | _::_,[],_,_,_,j,_,_,_,_,_,_,_,_=>by simp[je]at j
 | [],[],off,f,T,j,hn,hf,C,D,x,y,p,q=>by
  simp only[je,Bool.and_eq_true,beq_iff_eq]at j;simp only[List.all_cons,Bool.and_eq_true,bne_iff_ne,ne_eq]at hn;have A:=hf 0 f T rfl rfl;simp only[iN]at C D x y p q ⊢;obtain⟨u,E,I⟩:=uU A j.1.2 p C;obtain⟨v,v1,J⟩:=uU A j.1.2 q D;have L:=A.2.2 G x y u v I J;simp only[Op.eqFields,hn.1,ne_eq,not_false_eq_true,if_true,Sem.run_bind,j.1.1,E,v1,L,Result.andThen_ok];cases Hg T x y <;> simp
 | g::B,S::Ts,off,f,T,j,hn,hf,C,D,x,y,p,q=>by
  have M:=j;simp only[je,Bool.and_eq_true,beq_iff_eq]at j;have N:=hn;simp only[List.all_cons,Bool.and_eq_true,bne_iff_ne,ne_eq]at hn;have A:=hf 0 f T rfl rfl;simp only[iN]at x y p q ⊢;simp only[iN,Ty.size]at C D;simp only[ai]at p q;obtain⟨u,E,I⟩:=uU A j.1.2 p.1 (by omega);obtain⟨v,v1,J⟩:=uU A j.1.2 q.1 (by omega);have L:=A.2.2 G x.1 y.1 u v I J;have O:=sR (d:=d) (xs:=xs) (ys:=ys) B Ts (off+T.size) g S (by simp only[je,Bool.and_eq_true,beq_iff_eq];exact j.2) (by simp only[List.all_cons,Bool.and_eq_true,bne_iff_ne,ne_eq];exact hn.2)
   (fun i V S' a b=>hf (i+1) V S' (by simpa using a) (by simpa using b)) (by omega) (by omega) x.2 y.2
   (ai.mono (fun _ _ h=>h) (fun k z hk=>by rwa [Nat.add_assoc]) p.2) (ai.mono (fun _ _ h=>h) (fun k z hk=>by rwa [Nat.add_assoc]) q.2)
  rw[Op.eqFields];simp only[hn.1,ne_eq,not_false_eq_true,if_true,Sem.run_bind,j.1.1,E,v1,L,Result.andThen_ok,Hg];cases hb:Hg T x.1 y.1
  ·simp
  ·simp only[Bool.not_true,Bool.false_eq_true,if_false,Bool.true_and];exact O
theorem Fs{d:Nat}{xs ys:QU}:∀ {fl:List Field} {Ts:List Ty},Ts.length=fl.length→je P 0 fl Ts=true→(fl.all (·.name != "_"))=true→Ts.isEmpty=false →
  (∀(j:Nat) (g:Field) (S:Ty),fl[j]? = some g→Ts[j]? = some S→EqAt P w d g.type S)→∀ {x y:(gh Ts).den},xs.size=(gh Ts).size→ys.size=(gh Ts).size →
  ai G (gh Ts) x (fun k z=>xs[k]? = some z)→ai G (gh Ts) y (fun k z=>ys[k]? = some z)→(Op.eqFields d xs ys fl).run P w = .ok (Hg (gh Ts) x y) w
 | [],[],_,_,_,h,_,_,_,_,_,_,_=>by cases h
 | [],_::_,h,_,_,_,_,_,_,_,_,_,_=>by simp at h
 | _::_,[],h,_,_,_,_,_,_,_,_,_,_=>by simp at h
 | [_],_::_::_,h,_,_,_,_,_,_,_,_,_,_=>by simp at h
 | _::_::_,[_],h,_,_,_,_,_,_,_,_,_,_=>by simp at h
 | [f],[A],_,p,q,_,u,x,y,v,C,D,E=>by
  have:=sR (P:=P) (w:=w) (d:=d) (xs:=xs) (ys:=ys) [] [] 0 f A p q u (by simp only[gh,Ty.size]at v;simp only[iN];omega) (by simp only[gh,Ty.size]at C;simp only[iN];omega) x.1 y.1
   (ai.mono (fun _ _ h=>h) (fun k z hk=>by rwa [Nat.zero_add]) D.1) (ai.mono (fun _ _ h=>h) (fun k z hk=>by rwa [Nat.zero_add]) E.1)
  simp only[iN]at this;rw[this];simp only[gh,Hg,Bool.and_true]
 | f::g::fl,A::B::Ts,_,p,q,_,u,x,y,v,C,D,E =>
  sR (P:=P) (w:=w) (d:=d) (xs:=xs) (ys:=ys) (g::fl) (B::Ts) 0 f A p q u (by simp only[gh,Ty.size]at v;simp only[iN,Ty.size];omega) (by simp only[gh,Ty.size]at C;simp only[iN,Ty.size];omega) x y
   (ai.mono (fun _ _ h=>h) (fun k z hk=>by rwa [Nat.zero_add]) D) (ai.mono (fun _ _ h=>h) (fun k z hk=>by rwa [Nat.zero_add]) E)
theorem sb{t:TypeId}{d:TypeDesc}(hu:P.underlying t=some d)(h:(match d with | .struct _=>false | .array _ _=>false | _=>true)=true):(isAgg t).run P w = .ok false w:=by
 simp only[isAgg,Sem.run_bind,run_underlying hu,Result.andThen_ok];cases d <;> first | rfl | cases h
theorem He:∀(n:Nat) (t:TypeId) (T:Ty),My P n t=some T→∀d,EqAt P w (d+n) t T
 | 0,t,T,h,_=>by simp[My]at h
 | n+1,t,T,h,d=>by
  have E:=He n;simp only[My]at h;split at h
  ·rename_i hi;obtain⟨i,hi⟩:=Option.isSome_iff_exists.1 hi;split at h
   ·rename_i hu;cases h;refine⟨⟨i,hi⟩,sb hu rfl,fun G x y u v p q=>?_⟩;simp only[og,Ty.scalar,if_true,ai]at p q;subst p q;exact run_equalIn_bool w (d+n) t x y hu
   ·rename_i k hu;cases h;refine⟨⟨i,hi⟩,sb hu rfl,fun G x y u v p q=>?_⟩;simp only[og,Ty.scalar,if_true,ai]at p q;subst p q;exact run_equalIn_int w (d+n) t k k x y hu
   ·rename_i hu;cases h;refine⟨⟨i,hi⟩,sb hu rfl,fun G x y u v p q=>?_⟩;simp only[og,Ty.scalar,if_true,ai]at p q;subst p q;have:=run_equalIn_string w (d+n) t ⟨List.toArray x⟩ ⟨List.toArray y⟩ hu;rw[ByteArray.toList_eq,ByteArray.toList_eq]at this;exact this
   ·rename_i hu;cases h;refine⟨⟨i,hi⟩,sb hu rfl,fun G x y u v p q=>?_⟩;simp only[og,Ty.scalar,if_true,ai]at p q;obtain⟨a,rfl,rfl⟩:=p;obtain⟨b,rfl,rfl⟩:=q;rw[show d+(n+1)=(d+n)+1 from rfl];simp[Op.equalIn,run_underlying hu,Hg,Lv,Eb,Op.floatEq]
   ·rename_i B hu;split at h
    ·rename_i Ts A;split at h
     ·rename_i hc;simp only[Bool.and_eq_true,beq_iff_eq,Bool.not_eq_true']at hc;obtain⟨⟨⟨⟨I,J⟩,L⟩,c4⟩,C⟩:=hc;cases h;obtain⟨M,N⟩:=lC A;have z:(gh Ts).scalar=false:=by
       match Ts,C with
       | [a],_=>rfl
       | a::b::r,_=>rfl
      have hf:P.fieldsOf t=B:=by simp[Program.fieldsOf,hu]
      refine⟨⟨i,hi⟩,?_,fun G x y u v p q=>?_⟩
      ·simp only[isAgg,Sem.run_bind,run_underlying hu,Result.andThen_ok,z];rfl
      ·unfold og at p q;rw[z]at p q;simp only[Bool.false_eq_true,if_false]at p q;obtain⟨O,rfl,V,X⟩:=p;obtain⟨Y,rfl,Z,vy⟩:=q;rw[show d+(n+1)=(d+n)+1 from rfl,run_equalIn_struct w (d+n) t O Y (by rw[hf];exact hu) L,hf];have hE:∀(j:Nat) (g:Field) (S:Ty),B.toList[j]? = some g→Ts[j]? = some S→EqAt P w (d+n) g.type S:=fun j g S hg hS=>by obtain⟨S',D,q2⟩:=N j g hg;rw[hS]at D;cases D;exact E g.type S q2 d
       exact Fs M I J C hE V Z X vy
     ·cases h
    ·cases h
   ·cases h
  ·cases h
end
def LD(P:Program)(t:TypeId)(T:Ty):Prop:=(P.eqGuardType P.depth t=false∧T.scalar=false)∧∀w,EqAt P w 10000 t T
theorem IP{P:Program}{t:TypeId}{T:Ty}(n:Nat)(hn:n≤10000)(h:My P n t=some T)(j:P.eqGuardType P.depth t=false∧T.scalar=false):LD P t T:=⟨j,fun w=>by
 have:=He (P:=P) (w:=w) n t T h (10000 - n);rwa [Nat.sub_add_cancel hn]at this⟩
section
variable{P:Program}{Bw:Nat→Prop}{w0:cC P}{ρ:Nat→QW}{φ:Nat→Nat→Prop}{h:Nat→Qz}{w:World}{new:Nat}
theorem Mem.grow(m:Mem Bw w0 ρ φ h w){w':World}(z:w.grownBy w' none):Mem Bw w0 ρ φ h w'∧(∀β a v,Fr (own φ h) Bw w β a v→Fr (own φ h) Bw w' β a v):=by
 have B:∀β a v,Fr (own φ h) Bw w β a v→Fr (own φ h) Bw w' β a v:=fun β a v C =>
  Fr.KR (fun k hk _=>z.block k hk (by intro e;cases e)) (fun k hk=> .inl hk) β a v C
 refine⟨⟨fun id o j=>?_,fun id o k h1 h2 D=>Nat.lt_of_lt_of_le (m.lt id o k h1 h2 D) z.size,m.dj,m.bw,m.ow,m.kp.grown z (fun k e=>by cases e),m.pc⟩,B⟩;obtain⟨u,E,I⟩:=m.ob id o j;exact⟨u,E,OR.mono B (fun _ _ h=>h) (fun _ h=>h) (fun hl k hk=>z.block k (m.lt id o k j hl hk) (by intro e;cases e)) I⟩
theorem Ag(w:World):w.grownBy w none:=⟨rfl,rfl,rfl,Nat.le_refl _,fun _ _ _=>rfl⟩
theorem tS(w:World)(e:TypeId)(s:ByteArray):w.grownBy (Lib.bytesWorld w e s) none :=
 ⟨rfl,rfl,rfl,by rw[Lib.bytesWorld_size];omega,fun k hk _=>Lib.bytesWorld_at_old w e s k hk⟩
theorem De(m:Mem Bw w0 ρ φ h w){o:Oper}{a:Act}{st z e:TypeId}{C:TI}(D:aN P st C)(hd:P.underlying z=some (.slice e))(E:P.underlying e=some (.int .u8)){B:Operand}(I:o.op = .convert st z B)
  {β:Bool} {l:QX} (J:V (Fr (own φ h) Bw w) ρ (.p β .str l) (a.eval B)):Good P o a w (aF Bw w0 ρ φ h w new (.p false (.slice (.int .u8)) (bZ l)) []):=by
 obtain⟨X,h1,_⟩:=D.hu;have q:=Lib.run_convert_string_bytes (P:=P) w st z e ⟨l.toArray⟩ h1 hd E;obtain⟨L,M⟩:=m.grow (tS w e ⟨l.toArray⟩);have u:(⟨l.toArray⟩:ByteArray).size=l.length:=by simp[ByteArray.size]
 refine Good.aG (v:=_) (w':=_) (by simp only[execOp,I,pw J,Sem.run_bind,q,Result.andThen_ok];rfl) ⟨ρ,φ,L,M,fun _ _ h=>h,fun _ _ h=> .inl h,?_⟩;simp only[V,ai];refine⟨rfl,_,_,_,rfl,⟨by rw[u];simp[bZ],grownCap_ge _ _ _ _⟩,fun i hi=>⟨_,rfl,?_⟩⟩;have x:i<l.length:=by simpa [bZ]using hi
 refine⟨fun N=>?_,fun _ hb=>?_,?_⟩
 ·have j:=m.wS N;simp only[Addr.add]at j;split at j <;> simp at j
 ·have h2:=w0.lt _ (m.bw _ hb);have Y:=m.kp.size;simp only[Addr.add]at h2;split at h2 <;> simp at h2 <;> omega
 ·have:=Lib.bytesWorld_cell w e ⟨l.toArray⟩ i (by rw[u];exact x);have O:(⟨w.heap.size,0,none⟩:Addr).add (i*Ty.size (.int .u8)+0)=⟨w.heap.size,i,none⟩:=by rw[ck];simp[Ty.size]
  rw[O,World.fB this];simp[bZ,x]
theorem BO(m:Mem Bw w0 ρ φ h w)(hn:ρ new=none){o:Oper}{a:Act}{st z e:TypeId}{J:TI}(L:aN P st J)(hd:P.underlying z=some (.slice e))(M:P.underlying e=some (.int .u8)){I:Operand}(N:o.op = .convert st z I)
  {β:Bool} {l:QX} (O:V (Fr (own φ h) Bw w) ρ (.p β .str l) (a.eval I)):Good P o a w (aF Bw w0 ρ φ h w new (.sl new) [(new,some (.bytes e (bZ l)))]):=by
 obtain⟨Y,h1,_⟩:=L.hu;have q:=Lib.run_convert_string_bytes (P:=P) w st z e ⟨l.toArray⟩ h1 hd M;have j:(⟨l.toArray⟩:ByteArray).size=l.length:=by simp[ByteArray.size]
 have B:=grownCap_ge w l.length 0 e;refine Good.aG (v:=_) (w':=_) (by simp only[execOp,N,pw O,Sem.run_bind,q,Result.andThen_ok];rfl) ?_;have C:(Lib.bytesCells w e ⟨l.toArray⟩).size=grownCap w l.length 0 e:=by simp only[Lib.bytesCells,Array.size_append,Array.size_map,Array.size_replicate];show l.toArray.size+(grownCap w (⟨l.toArray⟩:ByteArray).size 0 e - (⟨l.toArray⟩:ByteArray).size)=_;rw[j];simp only[List.size_toArray];omega
 refine cT m none new (.bytes e (bZ l)) (.slice (some ⟨w.heap.size,0,none⟩) (⟨l.toArray⟩:ByteArray).size (grownCap w (⟨l.toArray⟩:ByteArray).size 0 e)) none (tS w e ⟨l.toArray⟩) (fun k e=>by cases e) (.inl hn) (fun _ k hk=>?_) (fun F' D X E=>?_)
  (by rw[bn];rfl) (fun _=>rfl) (fun F' D X E u=>?_)
 ·simp only[dw,Option.some.injEq]at hk;exact .inl (by omega)
 ·refine .inr ⟨w.heap.size,grownCap w l.length 0 e,_,_,by rw[j];simp[bZ],rfl,Lib.bytesWorld_at_new w e ⟨l.toArray⟩,.inr rfl,by simpa [bZ]using B,C,fun i hi=>?_⟩;have x:i<l.length:=by simpa [bZ]using hi
  have:=Lib.bytesWorld_cell w e ⟨l.toArray⟩ i (by rw[j];exact x);rw[cell_of_row _ w.heap.size i _ _ _ (Lib.bytesWorld_at_new w e ⟨l.toArray⟩)]at this;rw[this];simp[bZ,x]
 ·simp only[V];exact⟨u,_,_,_,rfl⟩
theorem vz{F:Bool→Addr→Value→Prop}{t e:TypeId}{ti z:TI}(ht:aN P t ti)(hk:ti.k = .sl e)(j:aN P e z){a:Act}{ad:Option Addr}{len cap:Nat}{lo:Option Operand}{hi mx:Operand}{l:Option Int}{r q:Int}(hl:tp F ρ a lo l)
  {β:Bool} {k:IntKind} (A:V F ρ (.p β (.int k) r) (a.eval hi)) {u:Bool} {B:IntKind} (C:V F ρ (.p u (.int B) q) (a.eval mx)) (D:0≤l.getD 0) (h1:l.getD 0≤r) (h2:r≤q) (O:q≤len) (X:len≤cap) :
  (Instr.sliceAt t (.slice ad len cap) (lo.map a.eval) (some (a.eval hi)) (some (a.eval mx))).run P w =
   .ok (.slice (if q.toNat=(l.getD 0).toNat then ad else ad.map (·.add ((l.getD 0).toNat*z.size))) (r.toNat - (l.getD 0).toNat) (q.toNat - (l.getD 0).toNat)) w:=by
 have hu:=aY ht hk;have E:(Instr.sliceBound (.int B q) cap .slice3Acap).run P w = .ok q.toNat w:=run_sliceBound (by omega) (by omega);have I:(Instr.sliceBound (.int k r) q.toNat .slice3B).run P w = .ok r.toNat w:=run_sliceBound (by omega) (by omega);cases lo with
 | none =>
  cases l with
  | some _=>exact hl.elim
  | none=>simp[Instr.sliceAt,Instr.slice,Instr.sliceBounds,run_underlying hu,bQ A,bQ C,E,I,run_sizeOf j]
 | some x =>
  cases l with
  | none=>exact hl.elim
  | some i =>
   obtain⟨J,L,M⟩:=hl;simp only[Option.getD_some]at D h1;have N:(Instr.sliceBound (.int L i) r.toNat .slice3C).run P w = .ok i.toNat w:=run_sliceBound D (by omega);simp[Instr.sliceAt,Instr.slice,Instr.sliceBounds,run_underlying hu,bQ A,bQ C,bQ M,E,I,N,run_sizeOf j]
theorem EI{F:Bool→Addr→Value→Prop}{j:Nat→QW}{A:Ty}{u:List A.den}{β:Bool}{ad:Option Addr}{len cap:Nat}(x:V F j (.p β (.slice A) u) (.slice ad len cap)){l r q size:Nat}(C:size=A.size)(h1:l≤r)(h2:r≤q)(L:q≤len):
  V F j (.p β (.slice A) ((u.take r).drop l)) (.slice (if q=l then ad else ad.map (·.add (l*size))) (r - l) (q - l)):=by
 subst C;simp only[V,ai]at x ⊢;obtain⟨_,D,z,B,e,⟨hl,hc⟩,E⟩:=x;simp only[Value.slice.injEq]at e;obtain⟨rfl,rfl,rfl⟩:=e;refine⟨rfl,_,_,_,rfl,⟨by simp only[List.length_drop,List.length_take];omega,by omega⟩,fun i hi=>?_⟩;simp only[List.length_drop,List.length_take]at hi;obtain⟨b,I,J⟩:=E (l+i) (by omega);subst I;refine⟨b.add (l*A.size),by rw[if_neg (by omega)];rfl,?_⟩;have e:((u.take r).drop l)[i]'(by simp only[List.length_drop,List.length_take];omega)=u[l+i]:=by simp
 rw[e];refine ai.mono (fun _ _ h=>h) (fun k v hk=>?_) J;rw[add_add];rwa [Nat.add_mul,Nat.add_assoc]at hk
theorem tR(m:Mem Bw w0 ρ φ h w){o:Oper}{a:Act}{t e:TypeId}{ti D:TI}(ht:aN P t ti)(hk:ti.k = .sl e)(j:aN P e D){A:Ty}(hT:D.T=some A){E:Operand}{I:Option Operand}{hi mx:Operand}(L:o.op = .slice t E I (some hi) (some mx))
  {β:Bool} {xs:List A.den} (x:V (Fr (own φ h) Bw w) ρ (.p β (.slice A) xs) (a.eval E)) {l:Option Int} {r q:Int} (hl:tp (Fr (own φ h) Bw w) ρ a I l) {z:Bool} {M:IntKind} (N:V (Fr (own φ h) Bw w) ρ (.p z (.int M) r) (a.eval hi))
  {B:Bool} {O:IntKind} (X:V (Fr (own φ h) Bw w) ρ (.p B (.int O) q) (a.eval mx)) (Y:0≤l.getD 0) (h1:l.getD 0≤r) (h2:r≤q) (Z:q≤xs.length) :
  Good P o a w (aF Bw w0 ρ φ h w new (.p β (.slice A) ((xs.take r.toNat).drop (l.getD 0).toNat)) []):=by
 obtain⟨ad,cap,J,hc⟩:=nM x;obtain⟨C,_,_⟩:=j.hT A hT;have u:=vz (P:=P) (w:=w) ht hk j (ad:=ad) (cap:=cap) hl N X Y h1 h2 Z hc;rw[J]at x;refine Good.aG (v:=_) (w':=w) (by simp only[execOp,L,J,Option.map_some,u,Sem.run_bind,Result.andThen_ok];rfl) (aF.pure m (EI x C.symm (by omega) (by omega) (by omega)))
theorem Am(m:Mem Bw w0 ρ φ h w)(hn:ρ new=none){o:Oper}{a:Act}{t e:TypeId}{ti C:TI}(ht:aN P t ti)(hk:ti.k = .sl e)(u:aN P e C){A:Ty}(hT:C.T=some A){M hi mx:Operand}(X:o.op = .slice t M none (some hi) (some mx))
  {xs:List A.den} (D:V (Fr (own φ h) Bw w) ρ (.p false (.slice A) xs) (a.eval M)) {r:Int} {E:Bool} {Y:IntKind} (Z:V (Fr (own φ h) Bw w) ρ (.p E (.int Y) r) (a.eval hi))
  {I:Bool} {k2:IntKind} (hq:V (Fr (own φ h) Bw w) ρ (.p I (.int k2) r) (a.eval mx)) (h1:0≤r) (h3:r≤xs.length) :
  Good P o a w (aF Bw w0 ρ φ h w new (.sl new) [(new,some (.cutz A (xs.take r.toNat)))]):=by
 obtain⟨ad,cap,N,hc⟩:=nM D;obtain⟨J,_,_⟩:=u.hT A hT;have j:=vz (P:=P) (w:=w) ht hk u (a:=a) (lo:=none) (l:=none) (ad:=ad) (cap:=cap) trivial Z hq (by simp) (by simpa using h1) (by omega) h3 hc;rw[N]at D;refine Good.aG (v:=_) (w':=w) (by simp only[execOp,X,N,Option.map_none,Option.map_some,Sem.run_bind]at j ⊢;rw[j];rfl) ?_;have hp:=EI D (l:=0) (r:=r.toNat) (q:=r.toNat) J.symm (by omega) (by omega) (by omega);simp only[Nat.sub_zero,List.drop_zero,Option.getD_none,Int.toNat_zero]at hp ⊢;refine cT m none new (.cutz A (xs.take r.toNat)) (.slice (if r.toNat=0 then ad else ad.map (fun x=>x.add (0*C.size))) r.toNat r.toNat) none (Ag w) (fun k e=>by cases e) (.inl hn) (fun hl=>by cases hl) (fun F' L O z=>?_) (by rw[bn];rfl) (fun _=>rfl) (fun F' L O z B=>?_)
 ·exact⟨⟨_,by rw[List.length_take,Nat.min_eq_left (by omega)]⟩,V.mono O z hp⟩
 ·simp only[V];exact⟨B,_,_,_,rfl⟩
def GL(n:Int):QX:=(Utf8.encode n).data.toList
theorem Fw(m:Mem Bw w0 ρ φ h w){o:Oper}{a:Act}{st j:TypeId}{u:TI}(x:aN P st u)(hd:P.underlying j=some .string){q:Operand}(z:o.op = .convert st j q)
  {β:Bool} {k:IntKind} {n:Int} (B:V (Fr (own φ h) Bw w) ρ (.p β (.int k) n) (a.eval q)):Good P o a w (aF Bw w0 ρ φ h w new (.p false .str (GL n)) []):=by
 obtain⟨C,h1,_⟩:=x.hu;refine Good.aG (v:= .string (Utf8.encode n)) (w':=w) ?_ (aF.pure m ?_)
 ·simp only[execOp,z,bQ B,convert,Sem.run_bind,run_underlying h1,run_underlying hd,Result.andThen_ok];cases C <;> rfl
 ·simp only[V,ai];exact⟨rfl,rfl⟩
end
section
variable{P:Program}{Bw:Nat→Prop}{w0:cC P}{ρ:Nat→QW}{φ φ1:Nat→Nat→Prop}{h:Nat→Qz}{w:World}{new:Nat}
theorem aF.Hd{u1 u2:gX}{h1:Nat→Qz}(e:apply u1 h=h1)(E:∀β a v,Fr (own φ h) Bw w β a v→Fr (own φ1 h1) Bw w β a v){x:ag}{v:Value}{w':World}
  (hp:aF Bw w0 ρ φ1 h1 w new x u2 v w'):aF Bw w0 ρ φ h w new x (u1++u2) v w':=by
 subst e;obtain⟨j,z,B,C,I,J,D⟩:=hp;rw[←eV]at B C D;exact⟨j,z,B,fun β a v L=>C _ _ _ (E _ _ _ L),I,J,D⟩
theorem sf(m:Mem Bw w0 ρ φ h w)(hn:ρ new=none){o:Oper}{a:Act}{t:TypeId}{ti:TI}(ht:aN P t ti)(hk:ti.k.agg=false){E:Operand}{id i:Nat}(I:V (Fr (own φ h) Bw w) ρ (.adr id i 1 0) (a.eval E))(M:o.op = .load t E)
  {e B:TypeId} {A:Ty} {p:List (List A.den)} (hi:h id=some (.mat e B A p none)) (z:i<p.length) :
  Good P o a w (aF Bw w0 ρ φ h w new (.sl new) [(id,some (.mat e B A p (some (i,new)))),(new,some (.arr B A (p.getD i [])))]):=by
 rw[show p.getD i []=p[i] by simp[z]];obtain⟨v,cells,u,N,J,O,⟨X,n,c,Y⟩,Z,hF,C⟩:=m.JC hi hn z;simp only[V]at I;obtain⟨g,x,he⟩:=I;have D:u.ownBlock=some g:=by
  rw[N]at x;rcases J.2 with⟨rfl,h0⟩ | ⟨g',cap,a1,rfl,_⟩
  ·omega
  ·rcases x with x | ⟨n,c,x⟩
   ·cases x
   ·simp only[Option.some.injEq,Value.slice.injEq]at x;rw[x.1];rfl
 have q:=J.cells D _ _ O;rw[ck,Nat.zero_add]at q;refine Good.aG (v:=v) (w':=w) ?_ ⟨_,_,Z,hF,C,fun j y L=>?_,?_⟩
 ·simp only[execOp,M,Instr.loadAt,he,Instr.sureAddr,Sem.run_bind,Sem.run_pure,Result.andThen_ok,Nat.mul_one,Nat.add_zero];unfold loadVar;rw[Sem.run_bind,kY ht];simp only[Result.andThen_ok,hk];rw[if_neg (by simp),run_load,q];rfl
 ·by_cases e:j=new
  ·exact .inr ⟨0,by omega,e⟩
  ·rw[aR _ _ e]at L;exact .inl L
 ·simp only[V];exact⟨aB _ _ _,X,n,c,Y⟩
theorem oA(m:Mem Bw w0 ρ φ h w){o:Oper}{a:Act}{t:TypeId}{ti:TI}(ht:aN P t ti)(X:ti.size=1){xo yo:Operand}{id i r:Nat}(hx:V (Fr (own φ h) Bw w) ρ (.adr id i 1 0) (a.eval xo))
  (hy:V (Fr (own φ h) Bw w) ρ (.sl r) (a.eval yo)) (ho:o.op = .store t xo yo) {e e2:TypeId} {A:Ty} {x:List (List A.den)} {hole:Option (Nat×Nat)} (hi:h id=some (.mat e e2 A x hole)) (a5:i<x.length)
  (hh:∀k j,hole=some (k,j)→k=i):Good P o a w (aF Bw w0 ρ φ h w new .unk [(id,some (.mat e e2 A x (some (i,r))))]):=by
 obtain⟨u,q1,hs,h0,_,cells,c1,c2,c3⟩:=m.ob id _ hi;simp only[V]at hy;obtain⟨hr,ad,vn,vc,hv⟩:=hy;generalize a6:a.eval yo=L at hr hv;have C:L.cells = #[L]:=fO (by rw[hv];rfl);simp only[V]at hx;obtain⟨g,Y,he⟩:=hx;rcases c1.2 with⟨rfl,hn⟩ | ⟨M,cap,B,rfl,_,D,Z,a1,O,a2⟩
 ·omega
 rw[q1]at Y;have a7:M=g:=by
  rcases Y with Y | ⟨n,c,Y⟩
  ·cases Y
  ·simp only[Option.some.injEq,Value.slice.injEq,Addr.mk.injEq]at Y;exact Y.1.1
 subst a7;have hcl:cells.length=x.length*1:=c1.1;have E:=gG (P:=P) ht D (v:=L) (p:=i*1+0) (by rw[C,X];rfl) (by rw[O,X];omega) (fun c hc=>by
  rw[C]at hc;simp only[List.mem_singleton]at hc;rw[hc,hv];rfl)
 have I:(B.toList.take (i*1+0)++L.cells.toList++B.toList.drop (i*1+0+ti.size))=B.toList.set i L:=by rw[C,X,List.set_eq_take_append_cons_drop,if_pos (by simp only[Array.length_toList];omega)];simp
 rw[I]at E;refine Good.jN (w':=_) (by simp[execOp,ho,Instr.storeAt,he,Instr.sureAddr,a6];simp only[Nat.mul_one,Nat.add_zero]at E;rw[E];rfl) ?_;refine dW m (some id) id (.mat e e2 A x (some (i,r))) (.slice (some ⟨M,0,none⟩) x.length cap) (φ id) (some M) (aZ w M _) (fun k e=>⟨id,_,rfl,hi,rfl,by cases e;exact hs M rfl⟩) (.inr ⟨rfl,q1⟩)
  (fun _ k hk=>Nat.lt_of_lt_of_le (m.lt id _ k hi rfl hk) (aZ w M _).size) (fun _ k hk=> .inr ⟨id,_,rfl,hi,rfl,hk⟩) (fun F' a8 hF a3=>?_) (by rw[bm];rfl) (fun e=>by rw[q1]at e;cases e) (fun F' a8 hF a3 ax=>by simp only[V])
 have z:∀j,j≠i→BQ hole j:=fun j hj k N e=>by rw[hh k N e];exact hj
 have J:∀j,j≠i→(cells.set i L)[j]? = cells[j]? :=fun j hj=>List.getElem?_set_ne (Ne.symm hj)
 refine⟨hs,h0,fun k N e=>(by cases e;exact a5),cells.set i L,⟨by rw[List.length_set];exact hcl,.inr ⟨M,cap,(B.toList.set i L).toArray,rfl,Nat.zero_le _,setRow_heap w M B _ e _ D,Z,a1,by simp only[List.size_toArray,List.length_set,Array.length_toList];exact O,?_⟩⟩,fun j hj=>?_,fun j j' vj a9 b aa s1 s2 e1 a4=>?_⟩
 ·show(B.toList.set i L).take (x.length*1)=_;rw[←a2,List.take_set]
 ·by_cases e:j=i
  ·subst e;refine⟨L,by rw[List.getElem?_set_self (by omega)],⟨ad,vn,vc,hv⟩,fun ac=>absurd rfl (ac j r rfl),fun N e=>?_⟩;cases e;exact a3 _ _ hr
  ·obtain⟨v,p1,p2,p3,_⟩:=c2 j hj;refine⟨v,by rw[J j e];exact p1,p2,fun _=>?_,fun N e'=>by cases e';exact absurd rfl e⟩;obtain⟨b1,rc,b2,b3⟩:=p3 (z j e);refine⟨b1,rc,fL (fun k hk=>?_) b2,fun q hq=>ai.mono (hF _) (fun _ _ h=>h) (b3 q hq)⟩;refine(aZ w M _).block k ?_ (fun e'=>(b1 k hk).2 (by rw[e'];rfl));exact m.lt id _ k hi rfl (b1 k hk).1
 ·have n1:j≠i:=fun e=>s1 i r rfl e
  have n2:j'≠i:=fun e=>s2 i r rfl e
  rw[J j n1]at e1;rw[J j' n2]at a4;exact c3 j j' vj a9 b aa (z j n1) (z j' n2) e1 a4
end
end Go.Tv
