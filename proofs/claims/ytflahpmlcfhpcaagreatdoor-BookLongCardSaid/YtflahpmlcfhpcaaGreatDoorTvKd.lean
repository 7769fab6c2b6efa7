/- Equality of structs. -/
import Derived.Test.YtflahpmlcfhpcaaGreatDoorTvKc
import Derived.Laws.StructEq
import Derived.ChangeKeysEq
namespace Go.Tv
open Go Go.RowKit
def gL(a:Ty):List Ty→Ty
 | []=>a
 | b::r=> .prod a (gL b r)
def fA:List Ty→Ty
 | []=> .unit
 | [a]=> .prod a .unit
 | a::b::r=> .prod a (gL b r)
def hH(P:Program):Nat→List Field→List Ty→Bool
 | _,[],[]=>true
 | off,f::fs,T::Ts=>f.offset == off && P.cellsOf f.type == T.size && hH P (off+T.size) fs Ts
 | _,_,_=>false
def eqE:(T:Ty)→T.den→T.den→Bool
 | .int _,x,y=>(show Int from x) == y
 | .bool,x,y=>(show Bool from x) == y
 | .str,x,y=>(show List UInt8 from x) == y
 | .flt,x,y=>fEq x y
 | .unit,_,_=>true
 | .prod a b,x,y=>eqE a x.1 y.1 && eqE b x.2 y.2
 | .slice _,_,_=>false
 | .ptr _,_,_=>false
 | .tree _ _,_,_=>false
 | .arr _ _,x,y=>aeq x y
 | .mapi _ _,_,_=>false
def eqT(P:Program):Nat→TypeId→Option Ty
 | 0,_=>none
 | n+1,t=>if(P.info? t).isSome then match P.underlying t with
  | some .bool=>some .bool
  | some (.int k)=>some (.int k)
  | some .string=>some .str
  | some (.float .f64)=>some .flt
  | some (.struct fs)=>match fs.toList.mapM (fun f=>eqT P n f.type)with
   | some Ts=>if hH P 0 fs.toList Ts && fs.toList.all (·.name != "_") && !P.stoodInHeld t && P.cellsOf t == (fA Ts).size && !Ts.isEmpty then some (fA Ts)else none
   | none=>none
  | _=>none
  else none
def nZ(G:Addr→Value→Prop)(T:Ty)(x:T.den)(u:Value):Prop :=
 if T.scalar then Vcells G T x (fun _ z=>z=u)else ∃cs,u = .agg cs∧cs.size=T.size∧Vcells G T x (fun k z=>cs[k]? = some z)
theorem mR{α β:Type}{f:α→Option β}:∀ {l:List α} {ys:List β},l.mapM f=some ys→ys.length=l.length∧∀(i:Nat) (x:α),l[i]? = some x→∃y,ys[i]? = some y∧f x=some y
 | [],ys,h=>by simp at h;subst h;simp
 | a::l,ys,h=>by
  simp only[List.mapM_cons,Option.bind_eq_bind,Option.bind_eq_some_iff]at h
  obtain⟨y,hy,zs,hz,e⟩:=h
  simp at e
  subst e
  obtain⟨h1,h2⟩:=mR hz
  refine⟨by simp[h1],fun i x hx=> ?_⟩
  cases i with
  | zero=>simp at hx;subst hx;exact⟨y,rfl,hy⟩
  | succ i=>exact h2 i x (by simpa using hx)
section
variable{P:Program}{w:World}{G:Addr→Value→Prop}
def aA3(P:Program)(w:World)(d:Nat)(t:TypeId)(T:Ty):Prop :=
 (∃i,P.info? t=some i)∧(isAgg t).run P w = .ok (!T.scalar) w∧∀(G:Addr→Value→Prop) (x y:T.den) (u v:Value),nZ G T x u→nZ G T y v→(Op.equalIn d t u v).run P w = .ok (eqE T x y) w
theorem w5{d:Nat}{t:TypeId}{T:Ty}(h:aA3 P w d t T)(hs:P.cellsOf t=T.size){cs:Array Value}{off:Nat}{x:T.den}(hc:Vcells G T x (fun k z=>cs[off+k]? = some z))(hle:off+T.size≤cs.size):
  ∃u,(part t cs off).run P w = .ok u w∧nZ G T x u:=by
 obtain⟨⟨i,hi⟩,ha,_⟩:=h
 unfold part
 by_cases hsc:T.scalar=true
 ·simp only[nZ,if_pos hsc]
  have hone:=Ty.size_scalar hsc
  have hlt:off<cs.size:=by omega
  refine⟨cs[off],?_,?_⟩
  ·rw[Sem.run_bind,ha,Result.andThen_ok,hsc]
   simp[hlt]
  ·refine Vcells.monoLt (fun k z hk hz=> ?_) hc
   rw[hone]at hk
   obtain rfl:k=0:=by omega
   simp[hlt]at hz
   exact hz.symm
 ·have hsc':T.scalar=false:=by simpa using hsc
  simp only[nZ,if_neg hsc]
  refine⟨.agg (cs.extract off (off+T.size)),?_,_,rfl,by simp;omega,?_⟩
  ·rw[Sem.run_bind,ha,Result.andThen_ok,hsc']
   simp only[Bool.not_false,if_true,Sem.run_bind,(Go.run_sizeOf w hi:(sizeOf t).run P w=_),Result.andThen_ok,hs]
   rfl
  ·refine Vcells.monoLt (fun k z hk hz=> ?_) hc
   rw[Array.getElem?_extract]
   rw[if_pos (by omega)]
   exact hz
theorem vF{d:Nat}{xs ys:Array Value}:∀(fs:List Field) (Ts:List Ty) (off:Nat) (f:Field) (T:Ty),hH P off (f::fs) (T::Ts)=true →
  (f::fs).all (·.name != "_")=true→(∀(i:Nat) g S,(f::fs)[i]? = some g→(T::Ts)[i]? = some S→aA3 P w d g.type S)→off+(gL T Ts).size≤xs.size→off+(gL T Ts).size≤ys.size →
  ∀(x y:(gL T Ts).den),Vcells G (gL T Ts) x (fun k z=>xs[off+k]? = some z)→Vcells G (gL T Ts) y (fun k z=>ys[off+k]? = some z) →
  (Op.eqFields d xs ys (f::fs)).run P w = .ok (eqE (gL T Ts) x y) w
 | [],_::_,_,_,_,ho,_,_,_,_,_,_,_,_=>by simp[hH]at ho
 | _::_,[],_,_,_,ho,_,_,_,_,_,_,_,_=>by simp[hH]at ho
 | [],[],off,f,T,ho,hn,hf,hx,hy,x,y,vx,vy=>by
  simp only[hH,Bool.and_eq_true,beq_iff_eq]at ho
  simp only[List.all_cons,Bool.and_eq_true,bne_iff_ne,ne_eq]at hn
  have h0:=hf 0 f T rfl rfl
  simp only[gL]at hx hy x y vx vy ⊢
  obtain⟨u,u1,u2⟩:=w5 h0 ho.1.2 vx hx
  obtain⟨v,v1,v2⟩:=w5 h0 ho.1.2 vy hy
  have he:=h0.2.2 G x y u v u2 v2
  simp only[Op.eqFields,hn.1,ne_eq,not_false_eq_true,if_true,Sem.run_bind,ho.1.1,u1,v1,he,Result.andThen_ok]
  cases eqE T x y <;> simp
 | g::fs,S::Ts,off,f,T,ho,hn,hf,hx,hy,x,y,vx,vy=>by
  have ho':=ho
  simp only[hH,Bool.and_eq_true,beq_iff_eq]at ho
  have hn':=hn
  simp only[List.all_cons,Bool.and_eq_true,bne_iff_ne,ne_eq]at hn
  have h0:=hf 0 f T rfl rfl
  simp only[gL]at x y vx vy ⊢
  simp only[gL,Ty.size]at hx hy
  simp only[Vcells]at vx vy
  obtain⟨u,u1,u2⟩:=w5 h0 ho.1.2 vx.1 (by omega)
  obtain⟨v,v1,v2⟩:=w5 h0 ho.1.2 vy.1 (by omega)
  have he:=h0.2.2 G x.1 y.1 u v u2 v2
  have ih:=vF (d:=d) (xs:=xs) (ys:=ys) fs Ts (off+T.size) g S (by simp only[hH,Bool.and_eq_true,beq_iff_eq];exact ho.2) (by simp only[List.all_cons,Bool.and_eq_true,bne_iff_ne,ne_eq];exact hn.2)
   (fun i g' S' a b=>hf (i+1) g' S' (by simpa using a) (by simpa using b)) (by omega) (by omega) x.2 y.2
   (Vcells.mono (fun _ _ h=>h) (fun k z hk=>by rwa [Nat.add_assoc]) vx.2) (Vcells.mono (fun _ _ h=>h) (fun k z hk=>by rwa [Nat.add_assoc]) vy.2)
  rw[Op.eqFields]
  simp only[hn.1,ne_eq,not_false_eq_true,if_true,Sem.run_bind,ho.1.1,u1,v1,he,Result.andThen_ok,eqE]
  cases hb:eqE T x.1 y.1
  ·simp
  ·simp only[Bool.not_true,Bool.false_eq_true,if_false,Bool.true_and]
   exact ih
theorem aAE{d:Nat}{xs ys:Array Value}:∀ {fl:List Field} {Ts:List Ty},Ts.length=fl.length→hH P 0 fl Ts=true→(fl.all (·.name != "_"))=true→Ts.isEmpty=false →
  (∀(j:Nat) (g:Field) (S:Ty),fl[j]? = some g→Ts[j]? = some S→aA3 P w d g.type S)→∀ {x y:(fA Ts).den},xs.size=(fA Ts).size→ys.size=(fA Ts).size →
  Vcells G (fA Ts) x (fun k z=>xs[k]? = some z)→Vcells G (fA Ts) y (fun k z=>ys[k]? = some z)→(Op.eqFields d xs ys fl).run P w = .ok (eqE (fA Ts) x y) w
 | [],[],_,_,_,h,_,_,_,_,_,_,_=>by cases h
 | [],_::_,h,_,_,_,_,_,_,_,_,_,_=>by simp at h
 | _::_,[],h,_,_,_,_,_,_,_,_,_,_=>by simp at h
 | [_],_::_::_,h,_,_,_,_,_,_,_,_,_,_=>by simp at h
 | _::_::_,[_],h,_,_,_,_,_,_,_,_,_,_=>by simp at h
 | [f],[A],_,c1,c2,_,hE,x,y,sx,sy,vx,vy=>by
  have:=vF (P:=P) (w:=w) (d:=d) (xs:=xs) (ys:=ys) [] [] 0 f A c1 c2 hE (by simp only[fA,Ty.size]at sx;simp only[gL];omega) (by simp only[fA,Ty.size]at sy;simp only[gL];omega) x.1 y.1
   (Vcells.mono (fun _ _ h=>h) (fun k z hk=>by rwa [Nat.zero_add]) vx.1) (Vcells.mono (fun _ _ h=>h) (fun k z hk=>by rwa [Nat.zero_add]) vy.1)
  simp only[gL]at this
  rw[this]
  simp only[fA,eqE,Bool.and_true]
 | f::g::fl,A::B::Ts,_,c1,c2,_,hE,x,y,sx,sy,vx,vy =>
  vF (P:=P) (w:=w) (d:=d) (xs:=xs) (ys:=ys) (g::fl) (B::Ts) 0 f A c1 c2 hE (by simp only[fA,Ty.size]at sx;simp only[gL,Ty.size];omega) (by simp only[fA,Ty.size]at sy;simp only[gL,Ty.size];omega) x y
   (Vcells.mono (fun _ _ h=>h) (fun k z hk=>by rwa [Nat.zero_add]) vx) (Vcells.mono (fun _ _ h=>h) (fun k z hk=>by rwa [Nat.zero_add]) vy)
theorem uE{t:TypeId}{d:TypeDesc}(hu:P.underlying t=some d)(h:(match d with | .struct _=>false | .array _ _=>false | _=>true)=true):(isAgg t).run P w = .ok false w:=by
 simp only[isAgg,Sem.run_bind,run_underlying hu,Result.andThen_ok]
 cases d <;> first | rfl | cases h
theorem aBT:∀(n:Nat) (t:TypeId) (T:Ty),eqT P n t=some T→∀d,aA3 P w (d+n) t T
 | 0,t,T,h,_=>by simp[eqT]at h
 | n+1,t,T,h,d=>by
  have ih:=aBT n
  simp only[eqT]at h
  split at h
  ·rename_i hi
   obtain⟨i,hi⟩:=Option.isSome_iff_exists.1 hi
   split at h
   ·rename_i hu
    cases h
    refine⟨⟨i,hi⟩,uE hu rfl,fun G x y u v hx hy=> ?_⟩
    simp only[nZ,Ty.scalar,if_true,Vcells]at hx hy
    subst hx hy
    exact run_equalIn_bool w (d+n) t x y hu
   ·rename_i k hu
    cases h
    refine⟨⟨i,hi⟩,uE hu rfl,fun G x y u v hx hy=> ?_⟩
    simp only[nZ,Ty.scalar,if_true,Vcells]at hx hy
    subst hx hy
    exact run_equalIn_int w (d+n) t k k x y hu
   ·rename_i hu
    cases h
    refine⟨⟨i,hi⟩,uE hu rfl,fun G x y u v hx hy=> ?_⟩
    simp only[nZ,Ty.scalar,if_true,Vcells]at hx hy
    subst hx hy
    have:=run_equalIn_string w (d+n) t ⟨List.toArray x⟩ ⟨List.toArray y⟩ hu
    rw[ByteArray.toList_eq,ByteArray.toList_eq]at this
    exact this
   ·rename_i hu
    cases h
    refine⟨⟨i,hi⟩,uE hu rfl,fun G x y u v hx hy=> ?_⟩
    simp only[nZ,Ty.scalar,if_true,Vcells]at hx hy
    obtain⟨a,rfl,rfl⟩:=hx
    obtain⟨b,rfl,rfl⟩:=hy
    rw[show d+(n+1)=(d+n)+1 from rfl]
    simp[Op.equalIn,run_underlying hu,eqE,fEq,aAs,Op.floatEq]
   ·rename_i fs hu
    split at h
    ·rename_i Ts hTs
     split at h
     ·rename_i hc
      simp only[Bool.and_eq_true,beq_iff_eq,Bool.not_eq_true']at hc
      obtain⟨⟨⟨⟨c1,c2⟩,c3⟩,c4⟩,c5⟩:=hc
      cases h
      obtain⟨k1,k2⟩:=mR hTs
      have hsc:(fA Ts).scalar=false:=by
       match Ts,c5 with
       | [a],_=>rfl
       | a::b::r,_=>rfl
      have hf:P.fieldsOf t=fs:=by simp[Program.fieldsOf,hu]
      refine⟨⟨i,hi⟩,?_,fun G x y u v hx hy=> ?_⟩
      ·simp only[isAgg,Sem.run_bind,run_underlying hu,Result.andThen_ok,hsc]
       rfl
      ·unfold nZ at hx hy
       rw[hsc]at hx hy
       simp only[Bool.false_eq_true,if_false]at hx hy
       obtain⟨xs,rfl,sx,vx⟩:=hx
       obtain⟨ys,rfl,sy,vy⟩:=hy
       rw[show d+(n+1)=(d+n)+1 from rfl,run_equalIn_struct w (d+n) t xs ys (by rw[hf];exact hu) c3,hf]
       have hE:∀(j:Nat) (g:Field) (S:Ty),fs.toList[j]? = some g→Ts[j]? = some S→aA3 P w (d+n) g.type S:=fun j g S hg hS=>by
        obtain⟨S',q1,q2⟩:=k2 j g hg
        rw[hS]at q1
        cases q1
        exact ih g.type S q2 d
       exact aAE k1 c1 c2 c5 hE sx sy vx vy
     ·cases h
    ·cases h
   ·cases h
  ·cases h
end
def aD0(P:Program)(t:TypeId)(T:Ty):Prop:=(P.eqGuardType P.depth t=false∧T.scalar=false)∧∀w,aA3 P w 10000 t T
theorem aCK{P:Program}{t:TypeId}{T:Ty}(n:Nat)(hn:n≤10000)(h:eqT P n t=some T)(hg:P.eqGuardType P.depth t=false∧T.scalar=false):aD0 P t T:=⟨hg,fun w=>by
 have:=aBT (P:=P) (w:=w) n t T h (10000 - n)
 rwa [Nat.sub_add_cancel hn]at this⟩
end Go.Tv
