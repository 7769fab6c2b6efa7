/- A law's arguments: all together; what they read as stays. -/
import Derived.Test.YtflahpmlcfhpcaaGreatDoorTvU
import Derived.Carry
import Derived.Test.YtflahpmlcfhpcaaGreatDoorTv20dm
namespace Go.Tv
open Go Go.RowKit
def Tup:List Ty→Type
 | []=>Unit
 | T::Ts=>T.den×Tup Ts
def aCI(T:Ty)(x:T.den):AVal:=if T.scalar then .p false T x else .agg (fB false T x)
def aD3:(Ts:List Ty)→Tup Ts→List AVal
 | [],_=>[]
 | T::Ts,x=>aCI T x.1::aD3 Ts x.2
def WfT:(Ts:List Ty)→Tup Ts→Prop
 | [],_=>True
 | T::Ts,x=>Wf T x.1∧WfT Ts x.2
section
variable{H:Type}{en:TypeId×Value→H}{P:Program}{w:World}{sp:Nat→Bool}{held:Bool}
theorem H1{t:TypeId}{n:Nat}{T:Ty}(ht:uX P n t=some T){r:Reach}{base:Nat}{v:Value}(h:Value.okWide P w r base t v):(∃cs,v = .agg cs)∨T.scalar=true∧v.cells = #[v]:=by
 cases n with
 | zero=>simp[uX]at ht
 | succ n =>
  simp only[uX]at ht
  unfold Value.okWide at h
  split at ht
  ·rename_i hu
   cases ht
   rw[hu]at h
   right
   simp only[Cell.okWide,hu]at h
   refine⟨rfl,?_⟩
   cases v <;> simp_all [Cell.ok,Value.cells]
  ·rename_i k hu
   cases ht
   rw[hu]at h
   right
   simp only[Cell.okWide,hu]at h
   refine⟨rfl,?_⟩
   cases v <;> simp_all [Cell.ok,Value.cells]
  ·rename_i hu
   cases ht
   rw[hu]at h
   right
   simp only[Cell.okWide,hu]at h
   refine⟨rfl,?_⟩
   cases v <;> simp_all [Cell.ok,Value.cells]
  ·rename_i hu
   cases ht
   rw[hu]at h
   right
   simp only[Cell.okWide,hu]at h
   refine⟨rfl,?_⟩
   cases v <;> simp_all [Cell.ok,Value.cells]
  ·rename_i e hu
   split at ht
   ·split at ht
    ·cases ht
     rw[hu]at h
     right
     simp only[Cell.okWide,hu]at h
     refine⟨rfl,?_⟩
     cases v <;> simp_all [Cell.ok,Value.cells]
    ·cases ht
   ·cases ht
  ·rename_i fs hu
   rw[hu]at h
   obtain⟨cs,e,_⟩:=h
   exact .inl ⟨cs,e⟩
  ·cases ht
theorem aBu{t:TypeId}{n:Nat}{T:Ty}(ht:uX P n t=some T){r:Reach}{base:Nat}{cs:Array Value}(h:Value.okWide P w r base t (.agg cs)):T.scalar=false:=by
 cases n with
 | zero=>simp[uX]at ht
 | succ n =>
  simp only[uX]at ht
  unfold Value.okWide at h
  split at ht
  ·rename_i hu
   rw[hu]at h
   simp[Cell.okWide,hu,Cell.ok]at h
  ·rename_i k hu
   rw[hu]at h
   simp[Cell.okWide,hu,Cell.ok]at h
  ·rename_i hu
   rw[hu]at h
   simp[Cell.okWide,hu,Cell.ok]at h
  ·rename_i hu
   rw[hu]at h
   simp[Cell.okWide,hu,Cell.ok]at h
  ·rename_i e hu
   rw[hu]at h
   simp[Cell.okWide,hu,Cell.ok]at h
  ·split at ht
   ·rename_i Ts _
    split at ht
    ·rename_i hc
     cases ht
     match Ts,hc.2.2 with
     | [a],_=>rfl
     | a::b::r,_=>rfl
    ·cases ht
   ·cases ht
  ·cases ht
theorem aBi{t:TypeId}{n:Nat}{T:Ty}(ht:uX P n t=some T){v:Value}{d:DataW H}{p:List MemPlace}(h:DataW.Trod en P w 0 sp held t v d p){r:Reach}{base:Nat}(hv:Value.okWide P w r base t v):
  ∃x:T.den,V (Fr fG (fun _=>False) w) iZ (aCI T x) v∧Wf T x:=by
 obtain⟨fuel,hf⟩:=h
 obtain⟨⟨x,h1,h2⟩,h3⟩:=Q5 n t T ht fuel _ _ hf
 refine⟨x,?_,h2⟩
 have h1':Vcells (Fr fG (fun _=>False) w false) T x (fun k u=>v.cells.toList[k]? = some u):=Vcells.mono (fun a u hu=>⟨fun e=>e,fun _ e=>e,World.cell_peek hu⟩) (fun _ _ h=>h) h1
 rcases H1 ht hv with⟨cs,rfl⟩ | ⟨hs,hc⟩
 ·have hs:=aBu ht hv
  unfold aCI
  rw[hs]
  simp only[Bool.false_eq_true,if_false,V]
  refine⟨cs,rfl,by rw[dQ,←h3];simp[Value.cells],iP false T x _ (Vcells.mono (fun _ _ h=>h) (fun k u hk=>by simpa [Value.cells]using hk) h1')⟩
 ·unfold aCI
  rw[if_pos hs]
  simp only[V]
  refine⟨hs,?_⟩
  rw[hc]at h1'
  have h2':Vcells (Fr fG (fun _=>False) w false) T x (fun k u=>(#[v]:Array Value).toList[k]? = some u):=h1'
  refine Vcells.monoLt (fun k u hk hu=> ?_) h2'
  rw[Ty.size_scalar hs]at hk
  obtain rfl:k=0:=by omega
  simp at hu
  exact hu.symm
theorem E5{n:Nat}:∀ {ts:List TypeId} {Ts:List Ty} {vs:List Value} {ds:List (DataW H)} {p:List MemPlace},ts.map (uX P n)=Ts.map some→DataW.TrodAll en P w 0 sp held ts vs ds p→∀ {r:Reach} {base:Nat},
  (∀(j:Nat) t v,ts[j]? = some t→vs[j]? = some v→Value.okWide P w r base t v)→∃x:Tup Ts,VVs (Fr fG (fun _=>False) w) iZ (aD3 Ts x) vs∧WfT Ts x∧ds.length=ts.length
 | [],[],[],[],_,_,_,_,_,_=>⟨(),trivial,trivial,rfl⟩
 | t::ts,T::Ts,v::vs,d::ds,p,hT,⟨q,q',h1,h2,_⟩,r,base,hv=>by
  simp only[List.map_cons,List.cons.injEq]at hT
  obtain⟨x,hx,wx⟩:=aBi hT.1 h1 (hv 0 t v rfl rfl)
  obtain⟨y,hy,wy,hl⟩:=E5 hT.2 h2 (fun j t' v' a b=>hv (j+1) t' v' (by simpa using a) (by simpa using b))
  exact⟨(x,y),⟨hx,hy⟩,⟨wx,wy⟩,by simp[hl]⟩
 | [],_::_,_,_,_,hT,_,_,_,_=>by simp at hT
 | _::_,[],_,_,_,hT,_,_,_,_=>by simp at hT
 | [],[],_::_,_,_,_,h,_,_,_=>h.elim
 | [],[],[],_::_,_,_,h,_,_,_=>h.elim
 | _::_,_::_,[],_,_,_,h,_,_,_=>h.elim
 | _::_,_::_,_::_,[],_,_,h,_,_,_=>h.elim
theorem C9(hl:laidOutB P=true){w':World}(hb:Below w.heap.size w w'):∀ {ts:List TypeId} {vs:List Value} {ds:List (DataW H)} {p:List MemPlace},ts.all (fun t=>P.readableRec t && decide (t<P.types.size))=true →
  DataW.TrodAll en P w 0 (fun _=>true) true ts vs ds p→DataW.TrodAll en P w' 0 (fun b=>decide (b<w.heap.size)) true ts vs ds p
 | [],[],[],_,_,h=>h
 | t::ts,v::vs,d::ds,p,hr,⟨q,q',h1,h2,e⟩ =>
  by
   simp only[List.all_cons,Bool.and_eq_true,decide_eq_true_eq]at hr
   exact⟨q,q',Below.trod hl hr.1.1 hr.1.2 h1 hb (by obtain⟨m,hm⟩:=h1;exact DataW.trod_lt m _ _ _ hm),C9 hl hb hr.2 h2,e⟩
 | [],_::_,_,_,_,h=>h.elim
 | [],[],_::_,_,_,h=>h.elim
 | _::_,[],_,_,_,h=>h.elim
 | _::_,_::_,[],_,_,h=>h.elim
end
end Go.Tv
namespace Go.Proofs.YtflahpmlcfhpcaaGreatDoor.T
open Go Go.Tv Go.Proofs
theorem V9(c1 c2 c3 c4 c5:Int)(c6:Option Nat)(h:0≤c3):∃b,fO c1 c2 c3 c4 c5 c6=some b∧dT c1 c2 c3 c4 c5 c6=some b:=by
 unfold fO dT
 by_cases h1:c1≥1
 case neg=>exact⟨false,by simp[h1],by simp[h1]⟩
 by_cases h2:c1≤1048576
 case neg=>exact⟨false,by simp[h1,h2],by simp[h1,h2]⟩
 by_cases h3:c2≥1
 case neg=>exact⟨false,by simp[h1,h2,h3],by simp[h1,h2,h3]⟩
 by_cases h4:c2≤64
 case neg=>exact⟨false,by simp[h1,h2,h3,h4],by simp[h1,h2,h3,h4]⟩
 by_cases h5:c3≤1
 case neg=>exact⟨false,by simp[h1,h2,h3,h4,h5],by simp[h1,h2,h3,h4,show ¬c3=0 by omega,show ¬c3=1 by omega]⟩
 by_cases h6:c4≥0
 case neg=>exact⟨false,by simp[h1,h2,h3,h4,h5,h6],by rcases(show c3=0∨c3=1 by omega)with rfl | rfl <;> simp[h1,h2,h3,h4,h6]⟩
 by_cases h7:c4≤1048576
 case neg=>exact⟨false,by simp[h1,h2,h3,h4,h5,h6,h7],by rcases(show c3=0∨c3=1 by omega)with rfl | rfl <;> simp[h1,h2,h3,h4,h6,h7]⟩
 by_cases h8:c5≥0
 case neg=>exact⟨false,by simp[h1,h2,h3,h4,h5,h6,h7,h8],by rcases(show c3=0∨c3=1 by omega)with rfl | rfl <;> simp[h1,h2,h3,h4,h6,h7,h8]⟩
 exact⟨decide (c5≤1048576),by simp[h1,h2,h3,h4,h5,h6,h7,h8],by rcases(show c3=0∨c3=1 by omega)with rfl | rfl <;> simp[h1,h2,h3,h4,h6,h7,h8]⟩
theorem aA4(x:List Int):bG none x=some (([],[]),1):=rfl
theorem aBe{c1 c2 c3 c4 c5:Int}{c6:Option Nat}{b:Bool}(h:fO c1 c2 c3 c4 c5 c6=some b)(x:List Int):∃l,bI none x c1 c2 c3 c4 c5 c6=some (l,if b then 1 else 40):=by
 unfold bI
 rw[h]
 cases b with
 | true=>exact⟨([],false),rfl⟩
 | false=>exact⟨([],false),rfl⟩
theorem D8:bG exB (zs 4097)=some (([],[]),3):=by
 have hlen:((zs 4097).length:Int) > 4096:=by rw[List.length_replicate];decide
 unfold bG exB
 simp only[Option.isNone,Bool.false_eq_true,if_false,hlen,decide_true,if_true]
theorem aCl:bI exB (zs 4097) 80 8 0 0 0 (dS 0)=some (([],false),3):=by
 have hS:fO 80 8 0 0 0 (dS 0)=some true:=rfl
 unfold bI
 simp only[hS,D8,Option.bind]
 rfl
theorem T8(d i1 i2 i3 i4 i5:Int)(i6:Option Nat)(x:List Int)(hd:0≤d)(h3:0≤i3):cX d i1 i2 i3 i4 i5 i6 x=some true:=by
 unfold cX
 simp only[aCW,Option.bind,Bool.not_true,Bool.false_eq_true,if_false]
 by_cases hx:(x.length:Int) > 5000
 ·simp only[hx,decide_true,if_true]
 simp only[hx,decide_false,Bool.false_eq_true,if_false,xX]
 obtain⟨t1,t2,t3,e,f1,f2,f3⟩:=aDm
 obtain⟨b,c1,c2⟩:=V9 i1 i2 i3 i4 i5 i6 h3
 obtain⟨l,hl⟩:=aBe c1 x
 have h2:¬(2:Int)=0:=by decide
 simp only[e,h2,not_false_eq_true,if_true,aD8 f1 f2 f3,aDk f1 f2 f3,aA4,hl,c2]
 rcases(show Int.tmod d 2=0∨Int.tmod d 2=1 by rw[Int.tmod_eq_emod_of_nonneg hd];omega)with hm | hm
 ·obtain⟨r,hr⟩:=aFM (n:=4096) (by omega) (by omega)
  have hp:=aDe (n:=4096) (by omega) (by omega)
  have hw:IntKind.i64.wrap ((4096:Int)+IntKind.i64.wrap 0)=4096:=rfl
  have hc:0≤(4096:Int)∧(4096:Int)≤4096∧(1:Int)*4096≤281474976710656∧(4096:Int)≤9223372036854775807:=by decide
  simp only[hm,hw,hc,and_self,if_true,show(4096:Int).toNat=4096 from rfl,hp,hr]
  cases b <;> simp[iQ]
 ·have hw:IntKind.i64.wrap ((4096:Int)+IntKind.i64.wrap 1)=4097:=rfl
  have hc:0≤(4097:Int)∧(4097:Int)≤4097∧(1:Int)*4097≤281474976710656∧(4097:Int)≤9223372036854775807:=by decide
  simp only[hm,hw,hc,and_self,if_true,show(4097:Int).toNat=4097 from rfl,D8,aCl]
  cases b <;> simp
abbrev bookLong_Ts:List Ty:=[(.int .u8),(.prod (.int .i64) (.prod (.int .i64) (.prod (.int .u8) (.prod (.int .i64) (.prod (.int .i64) .flt))))),(.slice (.int .u8))]
theorem bookLong_all(x:Tup bookLong_Ts)(hx:WfT bookLong_Ts x):cX x.1 x.2.1.1 x.2.1.2.1 x.2.1.2.2.1 x.2.1.2.2.2.1 x.2.1.2.2.2.2.1 x.2.1.2.2.2.2.2 x.2.2.1=some true :=
 T8 _ _ _ _ _ _ _ _ hx.1.1 hx.2.1.2.2.1.1
end Go.Proofs.YtflahpmlcfhpcaaGreatDoor.T
