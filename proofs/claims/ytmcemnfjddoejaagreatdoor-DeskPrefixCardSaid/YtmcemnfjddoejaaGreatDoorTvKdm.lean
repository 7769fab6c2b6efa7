/- Equality of structs. -/
import Derived.Test.YtmcemnfjddoejaaGreatDoorTvKc
import Derived.Laws.StructEq
import Derived.ChangeKeysEq
import Derived.Lib.ConvBytes
namespace Go.Tv
open Go Go.RowKit
def im(a:Ty):List Ty→Ty
 | []=>a
 | b::r=> .prod a (im b r)
def fF:List Ty→Ty
 | []=> .unit
 | [a]=> .prod a .unit
 | a::b::r=> .prod a (im b r)
def iN(P:Program):Nat→List Field→List Ty→Bool
 | _,[],[]=>true
 | off,f::c,T::Ts=>f.offset == off && P.cellsOf f.type == T.size && iN P (off+T.size) c Ts
 | _,_,_=>false
def Hd:(T:Ty)→T.den→T.den→Bool
 | .int _,x,y=>(show Int from x) == y
 | .bool,x,y=>(show Bool from x) == y
 | .str,x,y=>(show List UInt8 from x) == y
 | .flt,x,y=>Jn x y
 | .unit,_,_=>true
 | .prod a b,x,y=>Hd a x.1 y.1 && Hd b x.2 y.2
 | .slice _,_,_=>false
 | .ptr _,_,_=>false
 | .tree _ _,_,_=>false
 | .arr _ _,x,y=>H3 x y
 | .mapi _ _,_,_=>false
def KH(P:Program):Nat→TypeId→Option Ty
 | 0,_=>none
 | n+1,t=>if(P.info? t).isSome then match P.underlying t with
  | some .bool=>some .bool
  | some (.int k)=>some (.int k)
  | some .string=>some .str
  | some (.float .f64)=>some .flt
  | some (.struct c)=>match c.toList.mapM (fun f=>KH P n f.type)with
   | some Ts=>if iN P 0 c.toList Ts && c.toList.all (·.name != "_") && !P.stoodInHeld t && P.cellsOf t == (fF Ts).size && !Ts.isEmpty then some (fF Ts)else none
   | none=>none
  | _=>none
  else none
def n6(G:Addr→Value→Prop)(T:Ty)(x:T.den)(u:Value):Prop :=
 if T.scalar then ai G T x (fun _ z=>z=u)else ∃c,u = .agg c∧c.size=T.size∧ai G T x (fun k z=>c[k]? = some z)
theorem mC{α β:Type}{f:α→Option β}:∀ {l:List α} {c:List β},l.mapM f=some c→c.length=l.length∧∀(i:Nat) (x:α),l[i]? = some x→∃y,c[i]? = some y∧f x=some y
 | [],c,h=>by simp at h;subst h;simp
 | a::l,c,h=>by
  simp only[List.mapM_cons,Option.bind_eq_bind,Option.bind_eq_some_iff]at h;obtain⟨y,k,u,hz,e⟩:=h;simp at e;subst e;obtain⟨m,q⟩:=mC hz;refine⟨by simp[m],fun i x j=> ?_⟩;cases i with
  | zero=>simp at j;subst j;exact⟨y,rfl,k⟩
  | succ i=>exact q i x (by simpa using j)
section
variable{P:Program}{w:World}{G:Addr→Value→Prop}
def EqAt(P:Program)(w:World)(d:Nat)(t:TypeId)(T:Ty):Prop :=
 (∃i,P.info? t=some i)∧(isAgg t).run P w = .ok (!T.scalar) w∧∀(G:Addr→Value→Prop) (x y:T.den) (u v:Value),n6 G T x u→n6 G T y v→(Op.equalIn d t u v).run P w = .ok (Hd T x y) w
theorem vF{d:Nat}{t:TypeId}{T:Ty}(h:EqAt P w d t T)(v:P.cellsOf t=T.size){e:Array Value}{off:Nat}{x:T.den}(p:ai G T x (fun k z=>e[off+k]? = some z))(A:off+T.size≤e.size):
  ∃u,(part t e off).run P w = .ok u w∧n6 G T x u:=by
 obtain⟨⟨i,hi⟩,ha,_⟩:=h;unfold part;by_cases c:T.scalar=true
 ·simp only[n6,if_pos c];have f:=Ty.eS c;have j:off<e.size:=by omega
  refine⟨e[off],?_,?_⟩
  ·rw[Sem.run_bind,ha,Result.andThen_ok,c];simp[j]
  ·refine ai.fR (fun k z q hz=> ?_) p;rw[f]at q;obtain rfl:k=0:=by omega
   simp[j]at hz;exact hz.symm
 ·have m:T.scalar=false:=by simpa using c
  simp only[n6,if_neg c];refine⟨.agg (e.extract off (off+T.size)),?_,_,rfl,by simp;omega,?_⟩
  ·rw[Sem.run_bind,ha,Result.andThen_ok,m];simp only[Bool.not_false,if_true,Sem.run_bind,(Go.run_sizeOf w hi:(sizeOf t).run P w=_),Result.andThen_ok,v];rfl
  ·refine ai.fR (fun k z q hz=> ?_) p;rw[Array.getElem?_extract];rw[if_pos (by omega)];exact hz
theorem tA{d:Nat}{xs ys:Array Value}:∀(q:List Field) (Ts:List Ty) (off:Nat) (f:Field) (T:Ty),iN P off (f::q) (T::Ts)=true →
  (f::q).all (·.name != "_")=true→(∀(i:Nat) g S,(f::q)[i]? = some g→(T::Ts)[i]? = some S→EqAt P w d g.type S)→off+(im T Ts).size≤xs.size→off+(im T Ts).size≤ys.size →
  ∀(x y:(im T Ts).den),ai G (im T Ts) x (fun k z=>xs[off+k]? = some z)→ai G (im T Ts) y (fun k z=>ys[off+k]? = some z) →
  (Op.eqFields d xs ys (f::q)).run P w = .ok (Hd (im T Ts) x y) w
 | [],_::_,_,_,_,c,_,_,_,_,_,_,_,_=>by simp[iN]at c
 | _::_,[],_,_,_,c,_,_,_,_,_,_,_,_=>by simp[iN]at c
 | [],[],off,f,T,c,e,A,B,C,x,y,j,m=>by
  simp only[iN,Bool.and_eq_true,beq_iff_eq]at c;simp only[List.all_cons,Bool.and_eq_true,bne_iff_ne,ne_eq]at e;have p:=A 0 f T rfl rfl;simp only[im]at B C x y j m ⊢;obtain⟨u,D,E⟩:=vF p c.1.2 j B;obtain⟨v,v1,I⟩:=vF p c.1.2 m C;have J:=p.2.2 G x y u v E I;simp only[Op.eqFields,e.1,ne_eq,not_false_eq_true,if_true,Sem.run_bind,c.1.1,D,v1,J,Result.andThen_ok];cases Hd T x y <;> simp
 | g::q,S::Ts,off,f,T,c,e,A,B,C,x,y,j,m=>by
  have L:=c;simp only[iN,Bool.and_eq_true,beq_iff_eq]at c;have M:=e;simp only[List.all_cons,Bool.and_eq_true,bne_iff_ne,ne_eq]at e;have p:=A 0 f T rfl rfl;simp only[im]at x y j m ⊢;simp only[im,Ty.size]at B C;simp only[ai]at j m;obtain⟨u,D,E⟩:=vF p c.1.2 j.1 (by omega);obtain⟨v,v1,I⟩:=vF p c.1.2 m.1 (by omega);have J:=p.2.2 G x.1 y.1 u v E I;have N:=tA (d:=d) (xs:=xs) (ys:=ys) q Ts (off+T.size) g S (by simp only[iN,Bool.and_eq_true,beq_iff_eq];exact c.2) (by simp only[List.all_cons,Bool.and_eq_true,bne_iff_ne,ne_eq];exact e.2)
   (fun i O S' a b=>A (i+1) O S' (by simpa using a) (by simpa using b)) (by omega) (by omega) x.2 y.2
   (ai.mono (fun _ _ h=>h) (fun k z R=>by rwa [Nat.add_assoc]) j.2) (ai.mono (fun _ _ h=>h) (fun k z R=>by rwa [Nat.add_assoc]) m.2)
  rw[Op.eqFields];simp only[e.1,ne_eq,not_false_eq_true,if_true,Sem.run_bind,c.1.1,D,v1,J,Result.andThen_ok,Hd];cases hb:Hd T x.1 y.1
  ·simp
  ·simp only[Bool.not_true,Bool.false_eq_true,if_false,Bool.true_and];exact N
theorem EW{d:Nat}{xs ys:Array Value}:∀ {fl:List Field} {Ts:List Ty},Ts.length=fl.length→iN P 0 fl Ts=true→(fl.all (·.name != "_"))=true→Ts.isEmpty=false →
  (∀(j:Nat) (g:Field) (S:Ty),fl[j]? = some g→Ts[j]? = some S→EqAt P w d g.type S)→∀ {x y:(fF Ts).den},xs.size=(fF Ts).size→ys.size=(fF Ts).size →
  ai G (fF Ts) x (fun k z=>xs[k]? = some z)→ai G (fF Ts) y (fun k z=>ys[k]? = some z)→(Op.eqFields d xs ys fl).run P w = .ok (Hd (fF Ts) x y) w
 | [],[],_,_,_,h,_,_,_,_,_,_,_=>by cases h
 | [],_::_,h,_,_,_,_,_,_,_,_,_,_=>by simp at h
 | _::_,[],h,_,_,_,_,_,_,_,_,_,_=>by simp at h
 | [_],_::_::_,h,_,_,_,_,_,_,_,_,_,_=>by simp at h
 | _::_::_,[_],h,_,_,_,_,_,_,_,_,_,_=>by simp at h
 | [f],[A],_,c,e,_,m,x,y,p,q,u,v=>by
  have:=tA (P:=P) (w:=w) (d:=d) (xs:=xs) (ys:=ys) [] [] 0 f A c e m (by simp only[fF,Ty.size]at p;simp only[im];omega) (by simp only[fF,Ty.size]at q;simp only[im];omega) x.1 y.1
   (ai.mono (fun _ _ h=>h) (fun k z C=>by rwa [Nat.zero_add]) u.1) (ai.mono (fun _ _ h=>h) (fun k z C=>by rwa [Nat.zero_add]) v.1)
  simp only[im]at this;rw[this];simp only[fF,Hd,Bool.and_true]
 | f::g::fl,A::B::Ts,_,c,e,_,m,x,y,p,q,u,v =>
  tA (P:=P) (w:=w) (d:=d) (xs:=xs) (ys:=ys) (g::fl) (B::Ts) 0 f A c e m (by simp only[fF,Ty.size]at p;simp only[im,Ty.size];omega) (by simp only[fF,Ty.size]at q;simp only[im,Ty.size];omega) x y
   (ai.mono (fun _ _ h=>h) (fun k z C=>by rwa [Nat.zero_add]) u) (ai.mono (fun _ _ h=>h) (fun k z C=>by rwa [Nat.zero_add]) v)
theorem sR{t:TypeId}{d:TypeDesc}(hu:P.underlying t=some d)(h:(match d with | .struct _=>false | .array _ _=>false | _=>true)=true):(isAgg t).run P w = .ok false w:=by
 simp only[isAgg,Sem.run_bind,run_underlying hu,Result.andThen_ok];cases d <;> first | rfl | cases h
theorem Gn:∀(n:Nat) (t:TypeId) (T:Ty),KH P n t=some T→∀d,EqAt P w (d+n) t T
 | 0,t,T,h,_=>by simp[KH]at h
 | n+1,t,T,h,d=>by
  have C:=Gn n;simp only[KH]at h;split at h
  ·rename_i hi;obtain⟨i,hi⟩:=Option.isSome_iff_exists.1 hi;split at h
   ·rename_i hu;cases h;refine⟨⟨i,hi⟩,sR hu rfl,fun G x y u v c e=> ?_⟩;simp only[n6,Ty.scalar,if_true,ai]at c e;subst c e;exact run_equalIn_bool w (d+n) t x y hu
   ·rename_i k hu;cases h;refine⟨⟨i,hi⟩,sR hu rfl,fun G x y u v c e=> ?_⟩;simp only[n6,Ty.scalar,if_true,ai]at c e;subst c e;exact run_equalIn_int w (d+n) t k k x y hu
   ·rename_i hu;cases h;refine⟨⟨i,hi⟩,sR hu rfl,fun G x y u v c e=> ?_⟩;simp only[n6,Ty.scalar,if_true,ai]at c e;subst c e;have:=run_equalIn_string w (d+n) t ⟨List.toArray x⟩ ⟨List.toArray y⟩ hu;rw[ByteArray.toList_eq,ByteArray.toList_eq]at this;exact this
   ·rename_i hu;cases h;refine⟨⟨i,hi⟩,sR hu rfl,fun G x y u v c e=> ?_⟩;simp only[n6,Ty.scalar,if_true,ai]at c e;obtain⟨a,rfl,rfl⟩:=c;obtain⟨b,rfl,rfl⟩:=e;rw[show d+(n+1)=(d+n)+1 from rfl];simp[Op.equalIn,run_underlying hu,Hd,Jn,Ev,Op.floatEq]
   ·rename_i p hu;split at h
    ·rename_i Ts m;split at h
     ·rename_i q;simp only[Bool.and_eq_true,beq_iff_eq,Bool.not_eq_true']at q;obtain⟨⟨⟨⟨D,E⟩,I⟩,c4⟩,z⟩:=q;cases h;obtain⟨J,L⟩:=mC m;have f:(fF Ts).scalar=false:=by
       match Ts,z with
       | [a],_=>rfl
       | a::b::r,_=>rfl
      have A:P.fieldsOf t=p:=by simp[Program.fieldsOf,hu]
      refine⟨⟨i,hi⟩,?_,fun G x y u v c e=> ?_⟩
      ·simp only[isAgg,Sem.run_bind,run_underlying hu,Result.andThen_ok,f];rfl
      ·unfold n6 at c e;rw[f]at c e;simp only[Bool.false_eq_true,if_false]at c e;obtain⟨M,rfl,N,O⟩:=c;obtain⟨R,rfl,V,X⟩:=e;rw[show d+(n+1)=(d+n)+1 from rfl,run_equalIn_struct w (d+n) t M R (by rw[A];exact hu) I,A];have Y:∀(j:Nat) (g:Field) (S:Ty),p.toList[j]? = some g→Ts[j]? = some S→EqAt P w (d+n) g.type S:=fun j g S Z hS=>by obtain⟨S',B,q2⟩:=L j g Z;rw[hS]at B;cases B;exact C g.type S q2 d
       exact EW J D E z Y N V O X
     ·cases h
    ·cases h
   ·cases h
  ·cases h
end
def HY(P:Program)(t:TypeId)(T:Ty):Prop:=(P.eqGuardType P.depth t=false∧T.scalar=false)∧∀w,EqAt P w 10000 t T
theorem zP{P:Program}{t:TypeId}{T:Ty}(n:Nat)(c:n≤10000)(h:KH P n t=some T)(e:P.eqGuardType P.depth t=false∧T.scalar=false):HY P t T:=⟨e,fun w=>by
 have:=Gn (P:=P) (w:=w) n t T h (10000 - n);rwa [Nat.sub_add_cancel c]at this⟩
end Go.Tv
namespace Go.Tv
open Go Go.RowKit
section
variable{P:Program}{Bw:Nat→Prop}{w0:b9 P}{ρ:Nat→Option Value}{φ:Nat→Nat→Prop}{h:Nat→Option Obj}{w:World}{new:Nat}
theorem Mem.grow(m:Mem Bw w0 ρ φ h w){w':World}(B:w.grownBy w' none):Mem Bw w0 ρ φ h w'∧(∀β a v,Fr (own φ h) Bw w β a v→Fr (own φ h) Bw w' β a v):=by
 have C:∀β a v,Fr (own φ h) Bw w β a v→Fr (own φ h) Bw w' β a v:=fun β a v D =>
  Fr.Js (fun k j _=>B.block k j (by intro e;cases e)) (fun k j=> .inl j) β a v D
 refine⟨⟨fun id o z=> ?_,fun id o k E I J=>Nat.lt_of_lt_of_le (m.lt id o k E I J) B.size,m.dj,m.bw,m.ow,m.kp.grown B (fun k e=>by cases e),m.pM⟩,C⟩;obtain⟨u,L,M⟩:=m.ob id o z;exact⟨u,L,OR.mono C (fun _ _ h=>h) (fun _ h=>h) (fun hl k j=>B.block k (m.lt id o k z hl j) (by intro e;cases e)) M⟩
theorem zJ(w:World):w.grownBy w none:=⟨rfl,rfl,rfl,Nat.le_refl _,fun _ _ _=>rfl⟩
theorem uW(w:World)(e:TypeId)(s:ByteArray):w.grownBy (Lib.bytesWorld w e s) none :=
 ⟨rfl,rfl,rfl,by rw[Lib.bytesWorld_size];omega,fun k c _=>Lib.bytesWorld_at_old w e s k c⟩
theorem DA(m:Mem Bw w0 ρ φ h w){o:Oper}{a:Act}{st q e:TypeId}{z:TI}(B:aQ P st z)(C:P.underlying q=some (.slice e))(D:P.underlying e=some (.int .u8)){x:Operand}(E:o.op = .convert st q x)
  {β:Bool} {l:List UInt8} (I:V (Fr (own φ h) Bw w) ρ (.p β .str l) (a.eval x)):Good P o a w (aE Bw w0 ρ φ h w new (.p false (.slice (.int .u8)) (cb l)) []):=by
 obtain⟨R,J,_⟩:=B.hu;have f:=Lib.run_convert_string_bytes (P:=P) w st q e ⟨l.toArray⟩ J C D;obtain⟨L,M⟩:=m.grow (uW w e ⟨l.toArray⟩);have j:(⟨l.toArray⟩:ByteArray).size=l.length:=by simp[ByteArray.size]
 refine Good.aH (v:=_) (w':=_) (by simp only[execOp,E,pG I,Sem.run_bind,f,Result.andThen_ok];rfl) ⟨ρ,φ,L,M,fun _ _ h=>h,fun _ _ h=> .inl h,?_⟩;simp only[V,ai];refine⟨rfl,_,_,_,rfl,⟨by rw[j];simp[cb],grownCap_ge _ _ _ _⟩,fun i hi=>⟨_,rfl,?_⟩⟩;have k:i<l.length:=by simpa [cb]using hi
 refine⟨fun N=> ?_,fun _ hb=> ?_,?_⟩
 ·have c:=m.qS N;simp only[Addr.add]at c;split at c <;> simp at c
 ·have u:=w0.lt _ (m.bw _ hb);have X:=m.kp.size;simp only[Addr.add]at u;split at u <;> simp at u <;> omega
 ·have:=Lib.bytesWorld_cell w e ⟨l.toArray⟩ i (by rw[j];exact k);have O:(⟨w.heap.size,0,none⟩:Addr).add (i*Ty.size (.int .u8)+0)=⟨w.heap.size,i,none⟩:=by rw[ca];simp[Ty.size]
  rw[O,World.gH this];simp[cb,k]
theorem AW(m:Mem Bw w0 ρ φ h w)(E:ρ new=none){o:Oper}{a:Act}{st u e:TypeId}{I:TI}(J:aQ P st I)(L:P.underlying u=some (.slice e))(M:P.underlying e=some (.int .u8)){D:Operand}(N:o.op = .convert st u D)
  {β:Bool} {l:List UInt8} (O:V (Fr (own φ h) Bw w) ρ (.p β .str l) (a.eval D)):Good P o a w (aE Bw w0 ρ φ h w new (.sl new) [(new,some (.bytes e (cb l)))]):=by
 obtain⟨Z,R,_⟩:=J.hu;have f:=Lib.run_convert_string_bytes (P:=P) w st u e ⟨l.toArray⟩ R L M;have c:(⟨l.toArray⟩:ByteArray).size=l.length:=by simp[ByteArray.size]
 have x:=grownCap_ge w l.length 0 e;refine Good.aH (v:=_) (w':=_) (by simp only[execOp,N,pG O,Sem.run_bind,f,Result.andThen_ok];rfl) ?_;have z:(Lib.bytesCells w e ⟨l.toArray⟩).size=grownCap w l.length 0 e:=by simp only[Lib.bytesCells,Array.size_append,Array.size_map,Array.size_replicate];show l.toArray.size+(grownCap w (⟨l.toArray⟩:ByteArray).size 0 e - (⟨l.toArray⟩:ByteArray).size)=_;rw[c];simp only[List.size_toArray];omega
 refine cQ m none new (.bytes e (cb l)) (.slice (some ⟨w.heap.size,0,none⟩) (⟨l.toArray⟩:ByteArray).size (grownCap w (⟨l.toArray⟩:ByteArray).size 0 e)) none (uW w e ⟨l.toArray⟩) (fun k e=>by cases e) (.inl E) (fun _ k X=> ?_) (fun F' B Y C=> ?_)
  (by rw[bn];rfl) (fun _=>rfl) (fun F' B Y C j=> ?_)
 ·simp only[iB,Option.some.injEq]at X;exact .inl (by omega)
 ·refine .inr ⟨w.heap.size,grownCap w l.length 0 e,_,_,by rw[c];simp[cb],rfl,Lib.bytesWorld_at_new w e ⟨l.toArray⟩,.inr rfl,by simpa [cb]using x,z,fun i hi=> ?_⟩;have q:i<l.length:=by simpa [cb]using hi
  have:=Lib.bytesWorld_cell w e ⟨l.toArray⟩ i (by rw[c];exact q);rw[cell_of_row _ w.heap.size i _ _ _ (Lib.bytesWorld_at_new w e ⟨l.toArray⟩)]at this;rw[this];simp[cb,q]
 ·simp only[V];exact⟨j,_,_,_,rfl⟩
theorem wM{F:Bool→Addr→Value→Prop}{t e:TypeId}{ti j:TI}(E:aQ P t ti)(I:ti.k = .sl e)(c:aQ P e j){a:Act}{ad:Option Addr}{len cap:Nat}{lo:Option Operand}{hi m:Operand}{l:Option Int}{r q:Int}(hl:tY F ρ a lo l)
  {β:Bool} {k:IntKind} (u:V F ρ (.p β (.int k) r) (a.eval hi)) {f:Bool} {z:IntKind} (A:V F ρ (.p f (.int z) q) (a.eval m)) (B:0≤l.getD 0) (J:l.getD 0≤r) (R:r≤q) (X:q≤len) (Y:len≤cap) :
  (Instr.sliceAt t (.slice ad len cap) (lo.map a.eval) (some (a.eval hi)) (some (a.eval m))).run P w =
   .ok (.slice (if q.toNat=(l.getD 0).toNat then ad else ad.map (·.add ((l.getD 0).toNat*j.size))) (r.toNat - (l.getD 0).toNat) (q.toNat - (l.getD 0).toNat)) w:=by
 have hu:=bd E I;have C:(Instr.sliceBound (.int z q) cap .slice3Acap).run P w = .ok q.toNat w:=run_sliceBound (by omega) (by omega);have D:(Instr.sliceBound (.int k r) q.toNat .slice3B).run P w = .ok r.toNat w:=run_sliceBound (by omega) (by omega);cases lo with
 | none =>
  cases l with
  | some _=>exact hl.elim
  | none=>simp[Instr.sliceAt,Instr.slice,Instr.sliceBounds,run_underlying hu,bV u,bV A,C,D,run_sizeOf c]
 | some x =>
  cases l with
  | none=>exact hl.elim
  | some i =>
   obtain⟨L,M,N⟩:=hl;simp only[Option.getD_some]at B J;have O:(Instr.sliceBound (.int M i) r.toNat .slice3C).run P w = .ok i.toNat w:=run_sliceBound B (by omega);simp[Instr.sliceAt,Instr.slice,Instr.sliceBounds,run_underlying hu,bV u,bV A,bV N,C,D,O,run_sizeOf c]
theorem Ed{F:Bool→Addr→Value→Prop}{c:Nat→Option Value}{A:Ty}{f:List A.den}{β:Bool}{ad:Option Addr}{len cap:Nat}(j:V F c (.p β (.slice A) f) (.slice ad len cap)){l r q size:Nat}(x:size=A.size)(I:l≤r)(J:r≤q)(L:q≤len):
  V F c (.p β (.slice A) ((f.take r).drop l)) (.slice (if q=l then ad else ad.map (·.add (l*size))) (r - l) (q - l)):=by
 subst x;simp only[V,ai]at j ⊢;obtain⟨_,z,m,u,e,⟨hl,M⟩,B⟩:=j;simp only[Value.slice.injEq]at e;obtain⟨rfl,rfl,rfl⟩:=e;refine⟨rfl,_,_,_,rfl,⟨by simp only[List.length_drop,List.length_take];omega,by omega⟩,fun i hi=> ?_⟩;simp only[List.length_drop,List.length_take]at hi;obtain⟨b,C,D⟩:=B (l+i) (by omega);subst C;refine⟨b.add (l*A.size),by rw[if_neg (by omega)];rfl,?_⟩;have e:((f.take r).drop l)[i]'(by simp only[List.length_drop,List.length_take];omega)=f[l+i]:=by simp
 rw[e];refine ai.mono (fun _ _ h=>h) (fun k v E=> ?_) D;rw[add_add];rwa [Nat.add_mul,Nat.add_assoc]at E
theorem uA(m:Mem Bw w0 ρ φ h w){o:Oper}{a:Act}{t e:TypeId}{ti B:TI}(J:aQ P t ti)(L:ti.k = .sl e)(c:aQ P e B){A:Ty}(hT:B.T=some A){C:Operand}{D:Option Operand}{hi E:Operand}(M:o.op = .slice t C D (some hi) (some E))
  {β:Bool} {xs:List A.den} (j:V (Fr (own φ h) Bw w) ρ (.p β (.slice A) xs) (a.eval C)) {l:Option Int} {r q:Int} (hl:tY (Fr (own φ h) Bw w) ρ a D l) {u:Bool} {N:IntKind} (O:V (Fr (own φ h) Bw w) ρ (.p u (.int N) r) (a.eval hi))
  {x:Bool} {R:IntKind} (X:V (Fr (own φ h) Bw w) ρ (.p x (.int R) q) (a.eval E)) (Y:0≤l.getD 0) (Z:l.getD 0≤r) (h2:r≤q) (h3:q≤xs.length) :
  Good P o a w (aE Bw w0 ρ φ h w new (.p β (.slice A) ((xs.take r.toNat).drop (l.getD 0).toNat)) []):=by
 obtain⟨ad,cap,I,hc⟩:=nR j;obtain⟨z,_,_⟩:=c.hT A hT;have f:=wM (P:=P) (w:=w) J L c (ad:=ad) (cap:=cap) hl O X Y Z h2 h3 hc;rw[I]at j;refine Good.aH (v:=_) (w':=w) (by simp only[execOp,M,I,Option.map_some,f,Sem.run_bind,Result.andThen_ok];rfl) (aE.pure m (Ed j z.symm (by omega) (by omega) (by omega)))
theorem zW(m:Mem Bw w0 ρ φ h w)(R:ρ new=none){o:Oper}{a:Act}{t e:TypeId}{ti z:TI}(X:aQ P t ti)(Y:ti.k = .sl e)(f:aQ P e z){A:Ty}(hT:z.T=some A){J:Operand}{hi L:Operand}(Z:o.op = .slice t J none (some hi) (some L))
  {xs:List A.den} (B:V (Fr (own φ h) Bw w) ρ (.p false (.slice A) xs) (a.eval J)) {r:Int} {C:Bool} {k1:IntKind} (hr:V (Fr (own φ h) Bw w) ρ (.p C (.int k1) r) (a.eval hi))
  {D:Bool} {k2:IntKind} (hq:V (Fr (own φ h) Bw w) ρ (.p D (.int k2) r) (a.eval L)) (h1:0≤r) (h3:r≤xs.length) :
  Good P o a w (aE Bw w0 ρ φ h w new (.sl new) [(new,some (.cutz A (xs.take r.toNat)))]):=by
 obtain⟨ad,cap,M,hc⟩:=nR B;obtain⟨E,_,_⟩:=f.hT A hT;have c:=wM (P:=P) (w:=w) X Y f (a:=a) (lo:=none) (l:=none) (ad:=ad) (cap:=cap) trivial hr hq (by simp) (by simpa using h1) (by omega) h3 hc;rw[M]at B;refine Good.aH (v:=_) (w':=w) (by simp only[execOp,Z,M,Option.map_none,Option.map_some,Sem.run_bind]at c ⊢;rw[c];rfl) ?_;have N:=Ed B (l:=0) (r:=r.toNat) (q:=r.toNat) E.symm (by omega) (by omega) (by omega);simp only[Nat.sub_zero,List.drop_zero,Option.getD_none,Int.toNat_zero]at N ⊢;refine cQ m none new (.cutz A (xs.take r.toNat)) (.slice (if r.toNat=0 then ad else ad.map (fun x=>x.add (0*z.size))) r.toNat r.toNat) none (zJ w) (fun k e=>by cases e) (.inl R) (fun hl=>by cases hl) (fun F' I O j=> ?_) (by rw[bn];rfl) (fun _=>rfl) (fun F' I O j u=> ?_)
 ·exact⟨⟨_,by rw[List.length_take,Nat.min_eq_left (by omega)]⟩,V.mono O j N⟩
 ·simp only[V];exact⟨u,_,_,_,rfl⟩
def HT(n:Int):List UInt8:=(Utf8.encode n).data.toList
theorem Fo(m:Mem Bw w0 ρ φ h w){o:Oper}{a:Act}{st c:TypeId}{f:TI}(j:aQ P st f)(q:P.underlying c=some .string){e:Operand}(u:o.op = .convert st c e)
  {β:Bool} {k:IntKind} {n:Int} (x:V (Fr (own φ h) Bw w) ρ (.p β (.int k) n) (a.eval e)):Good P o a w (aE Bw w0 ρ φ h w new (.p false .str (HT n)) []):=by
 obtain⟨z,B,_⟩:=j.hu;refine Good.aH (v:= .string (Utf8.encode n)) (w':=w) ?_ (aE.pure m ?_)
 ·simp only[execOp,u,bV x,convert,Sem.run_bind,run_underlying B,run_underlying q,Result.andThen_ok];cases z <;> rfl
 ·simp only[V,ai];exact⟨rfl,rfl⟩
end
end Go.Tv
namespace Go.Tv
open Go Go.RowKit
section
variable{P:Program}{Bw:Nat→Prop}{w0:b9 P}{ρ:Nat→Option Value}{φ φ1:Nat→Nat→Prop}{h:Nat→Option Obj}{w:World}{new:Nat}
theorem aE.Gj{u1 u2:hZ}{j:Nat→Option Obj}(e:apply u1 h=j)(I:∀β a v,Fr (own φ h) Bw w β a v→Fr (own φ1 j) Bw w β a v){x:ag}{v:Value}{w':World}
  (J:aE Bw w0 ρ φ1 j w new x u2 v w'):aE Bw w0 ρ φ h w new x (u1++u2) v w':=by
 subst e;obtain⟨z,B,C,D,L,M,E⟩:=J;rw[←gG]at C D E;exact⟨z,B,C,fun β a v N=>D _ _ _ (I _ _ _ N),L,M,E⟩
theorem sd(m:Mem Bw w0 ρ φ h w)(L:ρ new=none){o:Oper}{a:Act}{t:TypeId}{ti:TI}(M:aQ P t ti)(N:ti.k.agg=false){D:Operand}{id i:Nat}(E:V (Fr (own φ h) Bw w) ρ (.adr id i 1 0) (a.eval D))(O:o.op = .load t D)
  {e z:TypeId} {A:Ty} {f:List (List A.den)} (hi:h id=some (.mat e z A f none)) (x:i<f.length) :
  Good P o a w (aE Bw w0 ρ φ h w new (.sl new) [(id,some (.mat e z A f (some (i,new)))),(new,some (.arr z A (f.getD i [])))]):=by
 rw[show f.getD i []=f[i] by simp[x]];obtain⟨v,cells,u,R,I,X,⟨Y,n,c,Z⟩,m',hF,B⟩:=m.Ic hi L x;simp only[V]at E;obtain⟨g,q,he⟩:=E;have C:u.ownBlock=some g:=by
  rw[R]at q;rcases I.2 with⟨rfl,h0⟩ | ⟨g',cap,a1,rfl,_⟩
  ·omega
  ·rcases q with q | ⟨n,c,q⟩
   ·cases q
   ·simp only[Option.some.injEq,Value.slice.injEq]at q;rw[q.1];rfl
 have p:=I.cells C _ _ X;rw[ca,Nat.zero_add]at p;refine Good.aH (v:=v) (w':=w) ?_ ⟨_,_,m',hF,B,fun j y J=> ?_,?_⟩
 ·simp only[execOp,O,Instr.loadAt,he,Instr.sureAddr,Sem.run_bind,Sem.run_pure,Result.andThen_ok,Nat.mul_one,Nat.add_zero];unfold loadVar;rw[Sem.run_bind,mH M];simp only[Result.andThen_ok,N];rw[if_neg (by simp),run_load,p];rfl
 ·by_cases e:j=new
  ·exact .inr ⟨0,by omega,e⟩
  ·rw[aB _ _ e]at J;exact .inl J
 ·simp only[V];exact⟨aw _ _ _,Y,n,c,Z⟩
theorem o8(m:Mem Bw w0 ρ φ h w){o:Oper}{a:Act}{t:TypeId}{ti:TI}(ht:aQ P t ti)(O:ti.size=1){xo yo:Operand}{id i r:Nat}(hx:V (Fr (own φ h) Bw w) ρ (.adr id i 1 0) (a.eval xo))
  (hy:V (Fr (own φ h) Bw w) ρ (.sl r) (a.eval yo)) (ho:o.op = .store t xo yo) {e e2:TypeId} {A:Ty} {f:List (List A.den)} {hole:Option (Nat×Nat)} (hi:h id=some (.mat e e2 A f hole)) (a3:i<f.length)
  (hh:∀k j,hole=some (k,j)→k=i):Good P o a w (aE Bw w0 ρ φ h w new .unk [(id,some (.mat e e2 A f (some (i,r))))]):=by
 obtain⟨u,q1,hs,h0,_,cells,c1,c2,c3⟩:=m.ob id _ hi;simp only[V]at hy;obtain⟨hr,ad,vn,vc,hv⟩:=hy;generalize a4:a.eval yo=J at hr hv;have B:J.cells = #[J]:=iE (by rw[hv];rfl);simp only[V]at hx;obtain⟨g,R,he⟩:=hx;rcases c1.2 with⟨rfl,hn⟩ | ⟨L,cap,z,rfl,_,C,X,Y,N,Z⟩
 ·omega
 rw[q1]at R;have a5:L=g:=by
  rcases R with R | ⟨n,c,R⟩
  ·cases R
  ·simp only[Option.some.injEq,Value.slice.injEq,Addr.mk.injEq]at R;exact R.1.1
 subst a5;have a6:cells.length=f.length*1:=c1.1;have D:=iJ (P:=P) ht C (v:=J) (p:=i*1+0) (by rw[B,O];rfl) (by rw[N,O];omega) (fun c hc=>by
  rw[B]at hc;simp only[List.mem_singleton]at hc;rw[hc,hv];rfl)
 have E:(z.toList.take (i*1+0)++J.cells.toList++z.toList.drop (i*1+0+ti.size))=z.toList.set i J:=by rw[B,O,List.set_eq_take_append_cons_drop,if_pos (by simp only[Array.length_toList];omega)];simp
 rw[E]at D;refine Good.kx (w':=_) (by simp[execOp,ho,Instr.storeAt,he,Instr.sureAddr,a4];simp only[Nat.mul_one,Nat.add_zero]at D;rw[D];rfl) ?_;refine eH m (some id) id (.mat e e2 A f (some (i,r))) (.slice (some ⟨L,0,none⟩) f.length cap) (φ id) (some L) (bf w L _) (fun k e=>⟨id,_,rfl,hi,rfl,by cases e;exact hs L rfl⟩) (.inr ⟨rfl,q1⟩)
  (fun _ k hk=>Nat.lt_of_lt_of_le (m.lt id _ k hi rfl hk) (bf w L _).size) (fun _ k hk=> .inr ⟨id,_,rfl,hi,rfl,hk⟩) (fun F' a7 hF a1=> ?_) (by rw[aZ];rfl) (fun e=>by rw[q1]at e;cases e) (fun F' a7 hF a1 ac=>by simp only[V])
 have x:∀j,j≠i→Br hole j:=fun j hj k M e=>by rw[hh k M e];exact hj
 have I:∀j,j≠i→(cells.set i J)[j]? = cells[j]? :=fun j hj=>List.getElem?_set_ne (Ne.symm hj)
 refine⟨hs,h0,fun k M e=>(by cases e;exact a3),cells.set i J,⟨by rw[List.length_set];exact a6,.inr ⟨L,cap,(z.toList.set i J).toArray,rfl,Nat.zero_le _,setRow_heap w L z _ e _ C,X,Y,by simp only[List.size_toArray,List.length_set,Array.length_toList];exact N,?_⟩⟩,fun j hj=> ?_,fun j j' vj a8 b a9 s1 s2 e1 a2=> ?_⟩
 ·show(z.toList.set i J).take (f.length*1)=_;rw[←Z,List.take_set]
 ·by_cases e:j=i
  ·subst e;refine⟨J,by rw[List.getElem?_set_self (by omega)],⟨ad,vn,vc,hv⟩,fun aa=>absurd rfl (aa j r rfl),fun M e=> ?_⟩;cases e;exact a1 _ _ hr
  ·obtain⟨v,p1,p2,p3,_⟩:=c2 j hj;refine⟨v,by rw[I j e];exact p1,p2,fun _=> ?_,fun M e'=>by cases e';exact absurd rfl e⟩;obtain⟨b1,rc,b2,b3⟩:=p3 (x j e);refine⟨b1,rc,nf (fun k hk=> ?_) b2,fun q hq=>ai.mono (hF _) (fun _ _ h=>h) (b3 q hq)⟩;refine(bf w L _).block k ?_ (fun e'=>(b1 k hk).2 (by rw[e'];rfl));exact m.lt id _ k hi rfl (b1 k hk).1
 ·have n1:j≠i:=fun e=>s1 i r rfl e
  have n2:j'≠i:=fun e=>s2 i r rfl e
  rw[I j n1]at e1;rw[I j' n2]at a2;exact c3 j j' vj a8 b a9 (x j n1) (x j' n2) e1 a2
end
end Go.Tv
