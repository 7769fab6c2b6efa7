/- Equality of structs. -/
import Derived.Test.YtbedjpdfkmfplaaGreatDoorTvKc
import Derived.Laws.StructEq
import Derived.ChangeKeysEq
import Derived.Lib.ConvBytes
namespace Go.Tv
open Go Go.RowKit
def jQ(a:Ty):List Ty→Ty
 | []=>a
 | b::r=> .prod a (jQ b r)
def g7:List Ty→Ty
 | []=> .unit
 | [a]=> .prod a .unit
 | a::b::r=> .prod a (jQ b r)
def j5(P:Program):Nat→List Field→List Ty→Bool
 | _,[],[]=>true
 | off,f::fs,T::Ts=>f.offset == off && P.cellsOf f.type == T.size && j5 P (off+T.size) fs Ts
 | _,_,_=>false
def eqE:(T:Ty)→T.den→T.den→Bool
 | .int _,x,y=>(show Int from x) == y
 | .bool,x,y=>(show Bool from x) == y
 | .str,x,y=>(show List UInt8 from x) == y
 | .flt,x,y=>fEq x y
 | .unit,_,_=>true
 | .prod a b,x,y=>eqE a x.1 y.1 && eqE b x.2 y.2
 | .slice _,_,_=>false
 | .ptr _,_,_=>false
 | .tree _ _,_,_=>false
 | .arr _ _,x,y=>aeq x y
 | .mapi _ _,_,_=>false
def eqT(P:Program):Nat→TypeId→Option Ty
 | 0,_=>none
 | n+1,t=>if(P.info? t).isSome then match P.underlying t with
  | some .bool=>some .bool
  | some (.int k)=>some (.int k)
  | some .string=>some .str
  | some (.float .f64)=>some .flt
  | some (.struct fs)=>match fs.toList.mapM (fun f=>eqT P n f.type)with
   | some Ts=>if j5 P 0 fs.toList Ts && fs.toList.all (·.name != "_") && !P.stoodInHeld t && P.cellsOf t == (g7 Ts).size && !Ts.isEmpty then some (g7 Ts)else none
   | none=>none
  | _=>none
  else none
def sQ(G:Addr→Value→Prop)(T:Ty)(x:T.den)(u:Value):Prop :=
 if T.scalar then Vcells G T x (fun _ z=>z=u)else ∃cs,u = .agg cs∧cs.size=T.size∧Vcells G T x (fun k z=>cs[k]? = some z)
theorem qB{α β:Type}{f:α→Option β}:∀ {l:List α} {ys:List β},l.mapM f=some ys→ys.length=l.length∧∀(i:Nat) (x:α),l[i]? = some x→∃y,ys[i]? = some y∧f x=some y
 | [],ys,h=>by simp at h;subst h;simp
 | a::l,ys,h=>by
  simp only[List.mapM_cons,Option.bind_eq_bind,Option.bind_eq_some_iff]at h
  obtain⟨y,hy,zs,hz,e⟩:=h
  simp at e
  subst e
  obtain⟨h1,h2⟩:=qB hz
  refine⟨by simp[h1],fun i x hx=> ?_⟩
  cases i with
  | zero=>simp at hx;subst hx;exact⟨y,rfl,hy⟩
  | succ i=>exact h2 i x (by simpa using hx)
section
variable{P:Program}{w:World}{G:Addr→Value→Prop}
def aGr(P:Program)(w:World)(d:Nat)(t:TypeId)(T:Ty):Prop :=
 (∃i,P.info? t=some i)∧(isAgg t).run P w = .ok (!T.scalar) w∧∀(G:Addr→Value→Prop) (x y:T.den) (u v:Value),sQ G T x u→sQ G T y v→(Op.equalIn d t u v).run P w = .ok (eqE T x y) w
theorem M4{d:Nat}{t:TypeId}{T:Ty}(h:aGr P w d t T)(hs:P.cellsOf t=T.size){cs:Array Value}{off:Nat}{x:T.den}(hc:Vcells G T x (fun k z=>cs[off+k]? = some z))(hle:off+T.size≤cs.size):
  ∃u,(part t cs off).run P w = .ok u w∧sQ G T x u:=by
 obtain⟨⟨i,hi⟩,ha,_⟩:=h
 unfold part
 by_cases hsc:T.scalar=true
 ·simp only[sQ,if_pos hsc]
  have hone:=Ty.size_scalar hsc
  have hlt:off<cs.size:=by omega
  refine⟨cs[off],?_,?_⟩
  ·rw[Sem.run_bind,ha,Result.andThen_ok,hsc]
   simp[hlt]
  ·refine Vcells.monoLt (fun k z hk hz=> ?_) hc
   rw[hone]at hk
   obtain rfl:k=0:=by omega
   simp[hlt]at hz
   exact hz.symm
 ·have hsc':T.scalar=false:=by simpa using hsc
  simp only[sQ,if_neg hsc]
  refine⟨.agg (cs.extract off (off+T.size)),?_,_,rfl,by simp;omega,?_⟩
  ·rw[Sem.run_bind,ha,Result.andThen_ok,hsc']
   simp only[Bool.not_false,if_true,Sem.run_bind,(Go.run_sizeOf w hi:(sizeOf t).run P w=_),Result.andThen_ok,hs]
   rfl
  ·refine Vcells.monoLt (fun k z hk hz=> ?_) hc
   rw[Array.getElem?_extract]
   rw[if_pos (by omega)]
   exact hz
theorem G1{d:Nat}{xs ys:Array Value}:∀(fs:List Field) (Ts:List Ty) (off:Nat) (f:Field) (T:Ty),j5 P off (f::fs) (T::Ts)=true →
  (f::fs).all (·.name != "_")=true→(∀(i:Nat) g S,(f::fs)[i]? = some g→(T::Ts)[i]? = some S→aGr P w d g.type S)→off+(jQ T Ts).size≤xs.size→off+(jQ T Ts).size≤ys.size →
  ∀(x y:(jQ T Ts).den),Vcells G (jQ T Ts) x (fun k z=>xs[off+k]? = some z)→Vcells G (jQ T Ts) y (fun k z=>ys[off+k]? = some z) →
  (Op.eqFields d xs ys (f::fs)).run P w = .ok (eqE (jQ T Ts) x y) w
 | [],_::_,_,_,_,ho,_,_,_,_,_,_,_,_=>by simp[j5]at ho
 | _::_,[],_,_,_,ho,_,_,_,_,_,_,_,_=>by simp[j5]at ho
 | [],[],off,f,T,ho,hn,hf,hx,hy,x,y,vx,vy=>by
  simp only[j5,Bool.and_eq_true,beq_iff_eq]at ho
  simp only[List.all_cons,Bool.and_eq_true,bne_iff_ne,ne_eq]at hn
  have h0:=hf 0 f T rfl rfl
  simp only[jQ]at hx hy x y vx vy ⊢
  obtain⟨u,u1,u2⟩:=M4 h0 ho.1.2 vx hx
  obtain⟨v,v1,v2⟩:=M4 h0 ho.1.2 vy hy
  have he:=h0.2.2 G x y u v u2 v2
  simp only[Op.eqFields,hn.1,ne_eq,not_false_eq_true,if_true,Sem.run_bind,ho.1.1,u1,v1,he,Result.andThen_ok]
  cases eqE T x y <;> simp
 | g::fs,S::Ts,off,f,T,ho,hn,hf,hx,hy,x,y,vx,vy=>by
  have ho':=ho
  simp only[j5,Bool.and_eq_true,beq_iff_eq]at ho
  have hn':=hn
  simp only[List.all_cons,Bool.and_eq_true,bne_iff_ne,ne_eq]at hn
  have h0:=hf 0 f T rfl rfl
  simp only[jQ]at x y vx vy ⊢
  simp only[jQ,Ty.size]at hx hy
  simp only[Vcells]at vx vy
  obtain⟨u,u1,u2⟩:=M4 h0 ho.1.2 vx.1 (by omega)
  obtain⟨v,v1,v2⟩:=M4 h0 ho.1.2 vy.1 (by omega)
  have he:=h0.2.2 G x.1 y.1 u v u2 v2
  have ih:=G1 (d:=d) (xs:=xs) (ys:=ys) fs Ts (off+T.size) g S (by simp only[j5,Bool.and_eq_true,beq_iff_eq];exact ho.2) (by simp only[List.all_cons,Bool.and_eq_true,bne_iff_ne,ne_eq];exact hn.2)
   (fun i g' S' a b=>hf (i+1) g' S' (by simpa using a) (by simpa using b)) (by omega) (by omega) x.2 y.2
   (Vcells.mono (fun _ _ h=>h) (fun k z hk=>by rwa [Nat.add_assoc]) vx.2) (Vcells.mono (fun _ _ h=>h) (fun k z hk=>by rwa [Nat.add_assoc]) vy.2)
  rw[Op.eqFields]
  simp only[hn.1,ne_eq,not_false_eq_true,if_true,Sem.run_bind,ho.1.1,u1,v1,he,Result.andThen_ok,eqE]
  cases hb:eqE T x.1 y.1
  ·simp
  ·simp only[Bool.not_true,Bool.false_eq_true,if_false,Bool.true_and]
   exact ih
theorem aGg{d:Nat}{xs ys:Array Value}:∀ {fl:List Field} {Ts:List Ty},Ts.length=fl.length→j5 P 0 fl Ts=true→(fl.all (·.name != "_"))=true→Ts.isEmpty=false →
  (∀(j:Nat) (g:Field) (S:Ty),fl[j]? = some g→Ts[j]? = some S→aGr P w d g.type S)→∀ {x y:(g7 Ts).den},xs.size=(g7 Ts).size→ys.size=(g7 Ts).size →
  Vcells G (g7 Ts) x (fun k z=>xs[k]? = some z)→Vcells G (g7 Ts) y (fun k z=>ys[k]? = some z)→(Op.eqFields d xs ys fl).run P w = .ok (eqE (g7 Ts) x y) w
 | [],[],_,_,_,h,_,_,_,_,_,_,_=>by cases h
 | [],_::_,h,_,_,_,_,_,_,_,_,_,_=>by simp at h
 | _::_,[],h,_,_,_,_,_,_,_,_,_,_=>by simp at h
 | [_],_::_::_,h,_,_,_,_,_,_,_,_,_,_=>by simp at h
 | _::_::_,[_],h,_,_,_,_,_,_,_,_,_,_=>by simp at h
 | [f],[A],_,c1,c2,_,hE,x,y,sx,sy,vx,vy=>by
  have:=G1 (P:=P) (w:=w) (d:=d) (xs:=xs) (ys:=ys) [] [] 0 f A c1 c2 hE (by simp only[g7,Ty.size]at sx;simp only[jQ];omega) (by simp only[g7,Ty.size]at sy;simp only[jQ];omega) x.1 y.1
   (Vcells.mono (fun _ _ h=>h) (fun k z hk=>by rwa [Nat.zero_add]) vx.1) (Vcells.mono (fun _ _ h=>h) (fun k z hk=>by rwa [Nat.zero_add]) vy.1)
  simp only[jQ]at this
  rw[this]
  simp only[g7,eqE,Bool.and_true]
 | f::g::fl,A::B::Ts,_,c1,c2,_,hE,x,y,sx,sy,vx,vy =>
  G1 (P:=P) (w:=w) (d:=d) (xs:=xs) (ys:=ys) (g::fl) (B::Ts) 0 f A c1 c2 hE (by simp only[g7,Ty.size]at sx;simp only[jQ,Ty.size];omega) (by simp only[g7,Ty.size]at sy;simp only[jQ,Ty.size];omega) x y
   (Vcells.mono (fun _ _ h=>h) (fun k z hk=>by rwa [Nat.zero_add]) vx) (Vcells.mono (fun _ _ h=>h) (fun k z hk=>by rwa [Nat.zero_add]) vy)
theorem B9{t:TypeId}{d:TypeDesc}(hu:P.underlying t=some d)(h:(match d with | .struct _=>false | .array _ _=>false | _=>true)=true):(isAgg t).run P w = .ok false w:=by
 simp only[isAgg,Sem.run_bind,run_underlying hu,Result.andThen_ok]
 cases d <;> first | rfl | cases h
theorem aHi:∀(n:Nat) (t:TypeId) (T:Ty),eqT P n t=some T→∀d,aGr P w (d+n) t T
 | 0,t,T,h,_=>by simp[eqT]at h
 | n+1,t,T,h,d=>by
  have ih:=aHi n
  simp only[eqT]at h
  split at h
  ·rename_i hi
   obtain⟨i,hi⟩:=Option.isSome_iff_exists.1 hi
   split at h
   ·rename_i hu
    cases h
    refine⟨⟨i,hi⟩,B9 hu rfl,fun G x y u v hx hy=> ?_⟩
    simp only[sQ,Ty.scalar,if_true,Vcells]at hx hy
    subst hx hy
    exact run_equalIn_bool w (d+n) t x y hu
   ·rename_i k hu
    cases h
    refine⟨⟨i,hi⟩,B9 hu rfl,fun G x y u v hx hy=> ?_⟩
    simp only[sQ,Ty.scalar,if_true,Vcells]at hx hy
    subst hx hy
    exact run_equalIn_int w (d+n) t k k x y hu
   ·rename_i hu
    cases h
    refine⟨⟨i,hi⟩,B9 hu rfl,fun G x y u v hx hy=> ?_⟩
    simp only[sQ,Ty.scalar,if_true,Vcells]at hx hy
    subst hx hy
    have:=run_equalIn_string w (d+n) t ⟨List.toArray x⟩ ⟨List.toArray y⟩ hu
    rw[ByteArray.toList_eq,ByteArray.toList_eq]at this
    exact this
   ·rename_i hu
    cases h
    refine⟨⟨i,hi⟩,B9 hu rfl,fun G x y u v hx hy=> ?_⟩
    simp only[sQ,Ty.scalar,if_true,Vcells]at hx hy
    obtain⟨a,rfl,rfl⟩:=hx
    obtain⟨b,rfl,rfl⟩:=hy
    rw[show d+(n+1)=(d+n)+1 from rfl]
    simp[Op.equalIn,run_underlying hu,eqE,fEq,aFq,Op.floatEq]
   ·rename_i fs hu
    split at h
    ·rename_i Ts hTs
     split at h
     ·rename_i hc
      simp only[Bool.and_eq_true,beq_iff_eq,Bool.not_eq_true']at hc
      obtain⟨⟨⟨⟨c1,c2⟩,c3⟩,c4⟩,c5⟩:=hc
      cases h
      obtain⟨k1,k2⟩:=qB hTs
      have hsc:(g7 Ts).scalar=false:=by
       match Ts,c5 with
       | [a],_=>rfl
       | a::b::r,_=>rfl
      have hf:P.fieldsOf t=fs:=by simp[Program.fieldsOf,hu]
      refine⟨⟨i,hi⟩,?_,fun G x y u v hx hy=> ?_⟩
      ·simp only[isAgg,Sem.run_bind,run_underlying hu,Result.andThen_ok,hsc]
       rfl
      ·unfold sQ at hx hy
       rw[hsc]at hx hy
       simp only[Bool.false_eq_true,if_false]at hx hy
       obtain⟨xs,rfl,sx,vx⟩:=hx
       obtain⟨ys,rfl,sy,vy⟩:=hy
       rw[show d+(n+1)=(d+n)+1 from rfl,run_equalIn_struct w (d+n) t xs ys (by rw[hf];exact hu) c3,hf]
       have hE:∀(j:Nat) (g:Field) (S:Ty),fs.toList[j]? = some g→Ts[j]? = some S→aGr P w (d+n) g.type S:=fun j g S hg hS=>by
        obtain⟨S',q1,q2⟩:=k2 j g hg
        rw[hS]at q1
        cases q1
        exact ih g.type S q2 d
       exact aGg k1 c1 c2 c5 hE sx sy vx vy
     ·cases h
    ·cases h
   ·cases h
  ·cases h
end
def aJZ(P:Program)(t:TypeId)(T:Ty):Prop:=(P.eqGuardType P.depth t=false∧T.scalar=false)∧∀w,aGr P w 10000 t T
theorem aIC{P:Program}{t:TypeId}{T:Ty}(n:Nat)(hn:n≤10000)(h:eqT P n t=some T)(hg:P.eqGuardType P.depth t=false∧T.scalar=false):aJZ P t T:=⟨hg,fun w=>by
 have:=aHi (P:=P) (w:=w) n t T h (10000 - n)
 rwa [Nat.sub_add_cancel hn]at this⟩
end Go.Tv
namespace Go.Tv
open Go Go.RowKit
section
variable{P:Program}{Bw:Nat→Prop}{w0:Base P}{ρ:Nat→Option Value}{φ:Nat→Nat→Prop}{h:Nat→Option Obj}{w:World}{new:Nat}
theorem Mem.grow(m:Mem Bw w0 ρ φ h w){w':World}(hg:w.grownBy w' none):Mem Bw w0 ρ φ h w'∧(∀β a v,Fr (own φ h) Bw w β a v→Fr (own φ h) Bw w' β a v):=by
 have hF:∀β a v,Fr (own φ h) Bw w β a v→Fr (own φ h) Bw w' β a v:=fun β a v hh =>
  Fr.evo (fun k hk _=>hg.block k hk (by intro e;cases e)) (fun k hk=> .inl hk) β a v hh
 refine⟨⟨fun id o hid=> ?_,fun id o k h1 h2 h3=>Nat.lt_of_lt_of_le (m.lt id o k h1 h2 h3) hg.size,m.dj,m.bw,m.ow,m.kp.grown hg (fun k e=>by cases e),m.pin⟩,hF⟩
 obtain⟨u,q1,q2⟩:=m.ob id o hid
 exact⟨u,q1,OR.mono hF (fun _ _ h=>h) (fun _ h=>h) (fun hl k hk=>hg.block k (m.lt id o k hid hl hk) (by intro e;cases e)) q2⟩
theorem aBr(w:World):w.grownBy w none:=⟨rfl,rfl,rfl,Nat.le_refl _,fun _ _ _=>rfl⟩
theorem I3(w:World)(e:TypeId)(s:ByteArray):w.grownBy (Lib.bytesWorld w e s) none :=
 ⟨rfl,rfl,rfl,by rw[Lib.bytesWorld_size];omega,fun k hk _=>Lib.bytesWorld_at_old w e s k hk⟩
theorem aEo(m:Mem Bw w0 ρ φ h w){o:Oper}{a:Act}{st dt e:TypeId}{si:TI}(hs:TIok P st si)(hd:P.underlying dt=some (.slice e))(he:P.underlying e=some (.int .u8)){xo:Operand}(ho:o.op = .convert st dt xo)
  {β:Bool} {l:List UInt8} (hx:V (Fr (own φ h) Bw w) ρ (.p β .str l) (a.eval xo)):Good P o a w (Post Bw w0 ρ φ h w new (.p false (.slice (.int .u8)) (dB l)) []):=by
 obtain⟨ds,h1,_⟩:=hs.hu
 have hrun:=Lib.run_convert_string_bytes (P:=P) w st dt e ⟨l.toArray⟩ h1 hd he
 obtain⟨m',hF⟩:=m.grow (I3 w e ⟨l.toArray⟩)
 have hsz:(⟨l.toArray⟩:ByteArray).size=l.length:=by simp[ByteArray.size]
 refine Good.of_run (v:=_) (w':=_) (by simp only[execOp,ho,vT hx,Sem.run_bind,hrun,Result.andThen_ok];rfl) ⟨ρ,φ,m',hF,fun _ _ h=>h,fun _ _ h=> .inl h,?_⟩
 simp only[V,Vcells]
 refine⟨rfl,_,_,_,rfl,⟨by rw[hsz];simp[dB],grownCap_ge _ _ _ _⟩,fun i hi=>⟨_,rfl,?_⟩⟩
 have hi':i<l.length:=by simpa [dB]using hi
 refine⟨fun hh=> ?_,fun _ hb=> ?_,?_⟩
 ·have hlt:=m.own_lt hh
  simp only[Addr.add]at hlt
  split at hlt <;> simp at hlt
 ·have h2:=w0.lt _ (m.bw _ hb)
  have h3:=m.kp.size
  simp only[Addr.add]at h2
  split at h2 <;> simp at h2 <;> omega
 ·have:=Lib.bytesWorld_cell w e ⟨l.toArray⟩ i (by rw[hsz];exact hi')
  have e1:(⟨w.heap.size,0,none⟩:Addr).add (i*Ty.size (.int .u8)+0)=⟨w.heap.size,i,none⟩:=by
   rw[dA]
   simp[Ty.size]
  rw[e1,World.cell_peek this]
  simp[dB,hi']
theorem aDM(m:Mem Bw w0 ρ φ h w)(hn:ρ new=none){o:Oper}{a:Act}{st dt e:TypeId}{si:TI}(hs:TIok P st si)(hd:P.underlying dt=some (.slice e))(he:P.underlying e=some (.int .u8)){xo:Operand}(ho:o.op = .convert st dt xo)
  {β:Bool} {l:List UInt8} (hx:V (Fr (own φ h) Bw w) ρ (.p β .str l) (a.eval xo)):Good P o a w (Post Bw w0 ρ φ h w new (.sl new) [(new,some (.bytes e (dB l)))]):=by
 obtain⟨ds,h1,_⟩:=hs.hu
 have hrun:=Lib.run_convert_string_bytes (P:=P) w st dt e ⟨l.toArray⟩ h1 hd he
 have hsz:(⟨l.toArray⟩:ByteArray).size=l.length:=by simp[ByteArray.size]
 have hge:=grownCap_ge w l.length 0 e
 refine Good.of_run (v:=_) (w':=_) (by simp only[execOp,ho,vT hx,Sem.run_bind,hrun,Result.andThen_ok];rfl) ?_
 have hcs:(Lib.bytesCells w e ⟨l.toArray⟩).size=grownCap w l.length 0 e:=by
  simp only[Lib.bytesCells,Array.size_append,Array.size_map,Array.size_replicate]
  show l.toArray.size+(grownCap w (⟨l.toArray⟩:ByteArray).size 0 e - (⟨l.toArray⟩:ByteArray).size)=_
  rw[hsz]
  simp only[List.size_toArray]
  omega
 refine dT m none new (.bytes e (dB l)) (.slice (some ⟨w.heap.size,0,none⟩) (⟨l.toArray⟩:ByteArray).size (grownCap w (⟨l.toArray⟩:ByteArray).size 0 e)) none (I3 w e ⟨l.toArray⟩) (fun k e=>by cases e) (.inl hn) (fun _ k hk=> ?_) (fun F' ρ' hF hρ=> ?_)
  (by rw[bQ];rfl) (fun _=>rfl) (fun F' ρ' hF hρ hnew=> ?_)
 ·simp only[jT,Option.some.injEq]at hk
  exact .inl (by omega)
 ·refine .inr ⟨w.heap.size,grownCap w l.length 0 e,_,_,by rw[hsz];simp[dB],rfl,Lib.bytesWorld_at_new w e ⟨l.toArray⟩,.inr rfl,by simpa [dB]using hge,hcs,fun i hi=> ?_⟩
  have hi':i<l.length:=by simpa [dB]using hi
  have:=Lib.bytesWorld_cell w e ⟨l.toArray⟩ i (by rw[hsz];exact hi')
  rw[cell_of_row _ w.heap.size i _ _ _ (Lib.bytesWorld_at_new w e ⟨l.toArray⟩)]at this
  rw[this]
  simp[dB,hi']
 ·simp only[V]
  exact⟨hnew,_,_,_,rfl⟩
theorem P0{F:Bool→Addr→Value→Prop}{t e:TypeId}{ti te:TI}(ht:TIok P t ti)(hk:ti.k = .sl e)(hte:TIok P e te){a:Act}{ad:Option Addr}{len cap:Nat}{lo:Option Operand}{hi mx:Operand}{l:Option Int}{r q:Int}(hl:H0 F ρ a lo l)
  {β:Bool} {k:IntKind} (hr:V F ρ (.p β (.int k) r) (a.eval hi)) {β':Bool} {k':IntKind} (hq:V F ρ (.p β' (.int k') q) (a.eval mx)) (h0:0≤l.getD 0) (h1:l.getD 0≤r) (h2:r≤q) (h3:q≤len) (h4:len≤cap) :
  (Instr.sliceAt t (.slice ad len cap) (lo.map a.eval) (some (a.eval hi)) (some (a.eval mx))).run P w =
   .ok (.slice (if q.toNat=(l.getD 0).toNat then ad else ad.map (·.add ((l.getD 0).toNat*te.size))) (r.toNat - (l.getD 0).toNat) (q.toNat - (l.getD 0).toNat)) w:=by
 have hu:=bK ht hk
 have b1:(Instr.sliceBound (.int k' q) cap .slice3Acap).run P w = .ok q.toNat w:=fY (by omega) (by omega)
 have b2:(Instr.sliceBound (.int k r) q.toNat .slice3B).run P w = .ok r.toNat w:=fY (by omega) (by omega)
 cases lo with
 | none =>
  cases l with
  | some _=>exact hl.elim
  | none=>simp[Instr.sliceAt,Instr.slice,Instr.sliceBounds,run_underlying hu,cN hr,cN hq,b1,b2,run_sizeOf hte]
 | some x =>
  cases l with
  | none=>exact hl.elim
  | some i =>
   obtain⟨β2,k2,hv⟩:=hl
   simp only[Option.getD_some]at h0 h1
   have b3:(Instr.sliceBound (.int k2 i) r.toNat .slice3C).run P w = .ok i.toNat w:=fY h0 (by omega)
   simp[Instr.sliceAt,Instr.slice,Instr.sliceBounds,run_underlying hu,cN hr,cN hq,cN hv,b1,b2,b3,run_sizeOf hte]
theorem aFG{F:Bool→Addr→Value→Prop}{ρ':Nat→Option Value}{A:Ty}{xs:List A.den}{β:Bool}{ad:Option Addr}{len cap:Nat}(hv:V F ρ' (.p β (.slice A) xs) (.slice ad len cap)){l r q size:Nat}(hs:size=A.size)(h1:l≤r)(h2:r≤q)(h3:q≤len):
  V F ρ' (.p β (.slice A) ((xs.take r).drop l)) (.slice (if q=l then ad else ad.map (·.add (l*size))) (r - l) (q - l)):=by
 subst hs
 simp only[V,Vcells]at hv ⊢
 obtain⟨_,ad',len',cap',e,⟨hl,hc⟩,hx⟩:=hv
 simp only[Value.slice.injEq]at e
 obtain⟨rfl,rfl,rfl⟩:=e
 refine⟨rfl,_,_,_,rfl,⟨by simp only[List.length_drop,List.length_take];omega,by omega⟩,fun i hi=> ?_⟩
 simp only[List.length_drop,List.length_take]at hi
 obtain⟨b,q1,q2⟩:=hx (l+i) (by omega)
 subst q1
 refine⟨b.add (l*A.size),by rw[if_neg (by omega)];rfl,?_⟩
 have e:((xs.take r).drop l)[i]'(by simp only[List.length_drop,List.length_take];omega)=xs[l+i]:=by simp
 rw[e]
 refine Vcells.mono (fun _ _ h=>h) (fun k v hk=> ?_) q2
 rw[mS]
 rwa [Nat.add_mul,Nat.add_assoc]at hk
theorem H7(m:Mem Bw w0 ρ φ h w){o:Oper}{a:Act}{t e:TypeId}{ti te:TI}(ht:TIok P t ti)(hk:ti.k = .sl e)(hte:TIok P e te){A:Ty}(hT:te.T=some A){xo:Operand}{lo:Option Operand}{hi mx:Operand}(ho:o.op = .slice t xo lo (some hi) (some mx))
  {β:Bool} {xs:List A.den} (hx:V (Fr (own φ h) Bw w) ρ (.p β (.slice A) xs) (a.eval xo)) {l:Option Int} {r q:Int} (hl:H0 (Fr (own φ h) Bw w) ρ a lo l) {β1:Bool} {k1:IntKind} (hr:V (Fr (own φ h) Bw w) ρ (.p β1 (.int k1) r) (a.eval hi))
  {β2:Bool} {k2:IntKind} (hq:V (Fr (own φ h) Bw w) ρ (.p β2 (.int k2) q) (a.eval mx)) (h0:0≤l.getD 0) (h1:l.getD 0≤r) (h2:r≤q) (h3:q≤xs.length) :
  Good P o a w (Post Bw w0 ρ φ h w new (.p β (.slice A) ((xs.take r.toNat).drop (l.getD 0).toNat)) []):=by
 obtain⟨ad,cap,he,hc⟩:=rG hx
 obtain⟨hT1,_,_⟩:=hte.hT A hT
 have hrun:=P0 (P:=P) (w:=w) ht hk hte (ad:=ad) (cap:=cap) hl hr hq h0 h1 h2 h3 hc
 rw[he]at hx
 refine Good.of_run (v:=_) (w':=w) (by simp only[execOp,ho,he,Option.map_some,hrun,Sem.run_bind,Result.andThen_ok];rfl) (Post.pure m (aFG hx hT1.symm (by omega) (by omega) (by omega)))
theorem aBY(m:Mem Bw w0 ρ φ h w)(hn:ρ new=none){o:Oper}{a:Act}{t e:TypeId}{ti te:TI}(ht:TIok P t ti)(hk:ti.k = .sl e)(hte:TIok P e te){A:Ty}(hT:te.T=some A){xo:Operand}{hi mx:Operand}(ho:o.op = .slice t xo none (some hi) (some mx))
  {xs:List A.den} (hx:V (Fr (own φ h) Bw w) ρ (.p false (.slice A) xs) (a.eval xo)) {r:Int} {β1:Bool} {k1:IntKind} (hr:V (Fr (own φ h) Bw w) ρ (.p β1 (.int k1) r) (a.eval hi))
  {β2:Bool} {k2:IntKind} (hq:V (Fr (own φ h) Bw w) ρ (.p β2 (.int k2) r) (a.eval mx)) (h1:0≤r) (h3:r≤xs.length) :
  Good P o a w (Post Bw w0 ρ φ h w new (.sl new) [(new,some (.cutz A (xs.take r.toNat)))]):=by
 obtain⟨ad,cap,he,hc⟩:=rG hx
 obtain⟨hT1,_,_⟩:=hte.hT A hT
 have hrun:=P0 (P:=P) (w:=w) ht hk hte (a:=a) (lo:=none) (l:=none) (ad:=ad) (cap:=cap) trivial hr hq (by simp) (by simpa using h1) (by omega) h3 hc
 rw[he]at hx
 refine Good.of_run (v:=_) (w':=w) (by simp only[execOp,ho,he,Option.map_none,Option.map_some,Sem.run_bind]at hrun ⊢;rw[hrun];rfl) ?_
 have hp:=aFG hx (l:=0) (r:=r.toNat) (q:=r.toNat) hT1.symm (by omega) (by omega) (by omega)
 simp only[Nat.sub_zero,List.drop_zero,Option.getD_none,Int.toNat_zero]at hp ⊢
 refine dT m none new (.cutz A (xs.take r.toNat)) (.slice (if r.toNat=0 then ad else ad.map (fun x=>x.add (0*te.size))) r.toNat r.toNat) none (aBr w) (fun k e=>by cases e) (.inl hn) (fun hl=>by cases hl) (fun F' ρ' hF hρ=> ?_) (by rw[bQ];rfl) (fun _=>rfl) (fun F' ρ' hF hρ hnew=> ?_)
 ·exact⟨⟨_,by rw[List.length_take,Nat.min_eq_left (by omega)]⟩,V.mono hF hρ hp⟩
 ·simp only[V]
  exact⟨hnew,_,_,_,rfl⟩
def aHU(n:Int):List UInt8:=(Utf8.encode n).data.toList
theorem aGz(m:Mem Bw w0 ρ φ h w){o:Oper}{a:Act}{st dt:TypeId}{si:TI}(hs:TIok P st si)(hd:P.underlying dt=some .string){xo:Operand}(ho:o.op = .convert st dt xo)
  {β:Bool} {k:IntKind} {n:Int} (hx:V (Fr (own φ h) Bw w) ρ (.p β (.int k) n) (a.eval xo)):Good P o a w (Post Bw w0 ρ φ h w new (.p false .str (aHU n)) []):=by
 obtain⟨ds,h1,_⟩:=hs.hu
 refine Good.of_run (v:= .string (Utf8.encode n)) (w':=w) ?_ (Post.pure m ?_)
 ·simp only[execOp,ho,cN hx,convert,Sem.run_bind,run_underlying h1,run_underlying hd,Result.andThen_ok]
  cases ds <;> rfl
 ·simp only[V,Vcells]
  exact⟨rfl,rfl⟩
end
end Go.Tv
namespace Go.Tv
open Go Go.RowKit
section
variable{P:Program}{Bw:Nat→Prop}{w0:Base P}{ρ:Nat→Option Value}{φ φ1:Nat→Nat→Prop}{h:Nat→Option Obj}{w:World}{new:Nat}
theorem Post.after'{u1 u2:jJ}{h1:Nat→Option Obj}(e:apply u1 h=h1)(hF:∀β a v,Fr (own φ h) Bw w β a v→Fr (own φ1 h1) Bw w β a v){x:AVal}{v:Value}{w':World}
  (hp:Post Bw w0 ρ φ1 h1 w new x u2 v w'):Post Bw w0 ρ φ h w new x (u1++u2) v w':=by
 subst e
 obtain⟨ρ',φ',q1,q2,q3,q4,q5⟩:=hp
 rw[←iJ]at q1 q2 q5
 exact⟨ρ',φ',q1,fun β a v hh=>q2 _ _ _ (hF _ _ _ hh),q3,q4,q5⟩
theorem zO(m:Mem Bw w0 ρ φ h w)(hn:ρ new=none){o:Oper}{a:Act}{t:TypeId}{ti:TI}(ht:TIok P t ti)(hk:ti.k.agg=false){xo:Operand}{id i:Nat}(hx:V (Fr (own φ h) Bw w) ρ (.adr id i 1 0) (a.eval xo))(ho:o.op = .load t xo)
  {e e2:TypeId} {A:Ty} {xss:List (List A.den)} (hi:h id=some (.mat e e2 A xss none)) (hlt:i<xss.length) :
  Good P o a w (Post Bw w0 ρ φ h w new (.sl new) [(id,some (.mat e e2 A xss (some (i,new)))),(new,some (.arr e2 A (xss.getD i [])))]):=by
 rw[show xss.getD i []=xss[i] by simp[hlt]]
 obtain⟨v,cells,u,q1,q2,q3,⟨ad,n,c,q4⟩,m',hF,hρ⟩:=m.openRow hi hn hlt
 simp only[V]at hx
 obtain⟨g,hg,he⟩:=hx
 have hob:u.ownBlock=some g:=by
  rw[q1]at hg
  rcases q2.2 with⟨rfl,h0⟩ | ⟨g',cap,cur,rfl,_⟩
  ·omega
  ·rcases hg with hg | ⟨n,c,hg⟩
   ·cases hg
   ·simp only[Option.some.injEq,Value.slice.injEq]at hg
    rw[hg.1];rfl
 have hcell:=q2.cells hob _ _ q3
 rw[dA,Nat.zero_add]at hcell
 refine Good.of_run (v:=v) (w':=w) ?_ ⟨_,_,m',hF,hρ,fun j y hj=> ?_,?_⟩
 ·simp only[execOp,ho,Instr.loadAt,he,Instr.sureAddr,Sem.run_bind,Sem.run_pure,Result.andThen_ok,Nat.mul_one,Nat.add_zero]
  unfold loadVar
  rw[Sem.run_bind,qG ht]
  simp only[Result.andThen_ok,hk]
  rw[if_neg (by simp),run_load,hcell]
  rfl
 ·by_cases e:j=new
  ·exact .inr ⟨0,by omega,e⟩
  ·rw[aP _ _ e]at hj;exact .inl hj
 ·simp only[V]
  exact⟨aI _ _ _,ad,n,c,q4⟩
theorem vR(m:Mem Bw w0 ρ φ h w){o:Oper}{a:Act}{t:TypeId}{ti:TI}(ht:TIok P t ti)(hsz:ti.size=1){xo yo:Operand}{id i r:Nat}(hx:V (Fr (own φ h) Bw w) ρ (.adr id i 1 0) (a.eval xo))
  (hy:V (Fr (own φ h) Bw w) ρ (.sl r) (a.eval yo)) (ho:o.op = .store t xo yo) {e e2:TypeId} {A:Ty} {xss:List (List A.den)} {hole:Option (Nat×Nat)} (hi:h id=some (.mat e e2 A xss hole)) (hlt:i<xss.length)
  (hh:∀k j,hole=some (k,j)→k=i):Good P o a w (Post Bw w0 ρ φ h w new .unk [(id,some (.mat e e2 A xss (some (i,r))))]):=by
 obtain⟨u,q1,hs,h0,_,cells,c1,c2,c3⟩:=m.ob id _ hi
 simp only[V]at hy
 obtain⟨hr,ad,vn,vc,hv⟩:=hy
 generalize hvv:a.eval yo=vr at hr hv
 have hone:vr.cells = #[vr]:=jY (by rw[hv];rfl)
 simp only[V]at hx
 obtain⟨g,hg,he⟩:=hx
 rcases c1.2 with⟨rfl,hn⟩ | ⟨g',cap,cur,rfl,_,hheap,hncap,hcapm,hcsz,htake⟩
 ·omega
 rw[q1]at hg
 have hgg:g'=g:=by
  rcases hg with hg | ⟨n,c,hg⟩
  ·cases hg
  ·simp only[Option.some.injEq,Value.slice.injEq,Addr.mk.injEq]at hg;exact hg.1.1
 subst hgg
 have hcl:cells.length=xss.length*1:=c1.1
 have hrun:=jX (P:=P) ht hheap (v:=vr) (p:=i*1+0) (by rw[hone,hsz];rfl) (by rw[hcsz,hsz];omega) (fun c hc=>by
  rw[hone]at hc
  simp only[List.mem_singleton]at hc
  rw[hc,hv];rfl)
 have hsplice:(cur.toList.take (i*1+0)++vr.cells.toList++cur.toList.drop (i*1+0+ti.size))=cur.toList.set i vr:=by
  rw[hone,hsz,List.set_eq_take_append_cons_drop,if_pos (by simp only[Array.length_toList];omega)]
  simp
 rw[hsplice]at hrun
 refine Good.of_skip (w':=_) (by simp[execOp,ho,Instr.storeAt,he,Instr.sureAddr,hvv];simp only[Nat.mul_one,Nat.add_zero]at hrun;rw[hrun];rfl) ?_
 refine fT m (some id) id (.mat e e2 A xss (some (i,r))) (.slice (some ⟨g',0,none⟩) xss.length cap) (φ id) (some g') (bL w g' _) (fun k e=>⟨id,_,rfl,hi,rfl,by cases e;exact hs g' rfl⟩) (.inr ⟨rfl,q1⟩)
  (fun _ k hk=>Nat.lt_of_lt_of_le (m.lt id _ k hi rfl hk) (bL w g' _).size) (fun _ k hk=> .inr ⟨id,_,rfl,hi,rfl,hk⟩) (fun F' ρ' hF hρ=> ?_) (by rw[bE];rfl) (fun e=>by rw[q1]at e;cases e) (fun F' ρ' hF hρ hnew=>by simp only[V])
 have hshut:∀j,j≠i→aDE hole j:=fun j hj k id' e=>by rw[hh k id' e];exact hj
 have hset:∀j,j≠i→(cells.set i vr)[j]? = cells[j]? :=fun j hj=>List.getElem?_set_ne (Ne.symm hj)
 refine⟨hs,h0,fun k id' e=>(by cases e;exact hlt),cells.set i vr,⟨by rw[List.length_set];exact hcl,.inr ⟨g',cap,(cur.toList.set i vr).toArray,rfl,Nat.zero_le _,setRow_heap w g' cur _ e _ hheap,hncap,hcapm,by simp only[List.size_toArray,List.length_set,Array.length_toList];exact hcsz,?_⟩⟩,fun j hj=> ?_,fun j j' vj vj' b hne s1 s2 e1 e2'=> ?_⟩
 ·show(cur.toList.set i vr).take (xss.length*1)=_
  rw[←htake,List.take_set]
 ·by_cases e:j=i
  ·subst e
   refine⟨vr,by rw[List.getElem?_set_self (by omega)],⟨ad,vn,vc,hv⟩,fun hsh=>absurd rfl (hsh j r rfl),fun id' e=> ?_⟩
   cases e
   exact hρ _ _ hr
  ·obtain⟨v,p1,p2,p3,_⟩:=c2 j hj
   refine⟨v,by rw[hset j e];exact p1,p2,fun _=> ?_,fun id' e'=>by cases e';exact absurd rfl e⟩
   obtain⟨b1,rc,b2,b3⟩:=p3 (hshut j e)
   refine⟨b1,rc,rW (fun k hk=> ?_) b2,fun q hq=>Vcells.mono (hF _) (fun _ _ h=>h) (b3 q hq)⟩
   refine(bL w g' _).block k ?_ (fun e'=>(b1 k hk).2 (by rw[e'];rfl))
   exact m.lt id _ k hi rfl (b1 k hk).1
 ·have n1:j≠i:=fun e=>s1 i r rfl e
  have n2:j'≠i:=fun e=>s2 i r rfl e
  rw[hset j n1]at e1
  rw[hset j' n2]at e2'
  exact c3 j j' vj vj' b hne (hshut j n1) (hshut j' n2) e1 e2'
end
end Go.Tv
