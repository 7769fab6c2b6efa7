/- Operations on memory: what they come to. -/
import Derived.Test.YtflahpmlcfhpcaaGreatDoorTvD
namespace Go.Tv
open Go Go.RowKit
def Good(P:Program)(o:Oper)(a:Act)(w:World)(post:Value→World→Prop):Prop :=
 ∀K Q,(∀v w',post v w'→K (a.put o.dst v) w')→o.wp P a w K Q
theorem Good.of_run{P:Program}{o:Oper}{a:Act}{w w':World}{post:Value→World→Prop}{v:Value}
  (h:(execOp a.eval o).run P w = .ok (.value v) w') (hp:post v w'):Good P o a w post:=fun K Q hk=>by
 unfold Oper.wp;rw[h];exact hk _ _ hp
theorem Good.of_skip{P:Program}{o:Oper}{a:Act}{w w':World}{post:Value→World→Prop}
  (h:(execOp a.eval o).run P w = .ok .skip w') (hp:post undef w'):Good P o a w post:=fun K Q hk=>by
 unfold Oper.wp;rw[h];exact hk _ _ hp
theorem Good.of_call{P:Program}{o:Oper}{a:Act}{w w':World}{post:Value→World→Prop}{f:FuncId}{args:Array Value}
  (h:(execOp a.eval o).run P w = .ok (.enter f args) w') (hp:Calls P f args w' fun e w''=>∃v,e = .returned v∧post v w''):Good P o a w post:=fun K Q hk=>by
 unfold Oper.wp;rw[h]
 show Calls P f args w' _
 exact hp.mono fun e w'' ⟨v,he,hv⟩=>by subst he;exact hk _ _ hv
def Bad(P:Program)(o:Oper)(a:Act)(w:World)(x:Value)(post:World→Prop):Prop :=
 ∀K Q,(∀w',post w'→Q (.panic [{ v:=x,recovered:=false }]) a w')→o.wp P a w K Q
theorem Bad.of_call{P:Program}{o:Oper}{a:Act}{w w':World}{x:Value}{post:World→Prop}{f:FuncId}{args:Array Value}
  (h:(execOp a.eval o).run P w = .ok (.enter f args) w') (hp:Calls P f args w' fun e w''=>e = .panicked [{ v:=x,recovered:=false }]∧post w''):Bad P o a w x post:=fun K Q hk=>by
 unfold Oper.wp;rw[h]
 show Calls P f args w' _
 exact hp.mono fun e w'' ⟨he,hv⟩=>by subst he;exact hk _ hv
def Post{P:Program}(Bw:Nat→Prop)(w0:Base P)(ρ:Nat→Option Value)(φ:Nat→Nat→Prop)(h:Nat→Option Obj)(w:World)(new:Nat)(x:AVal)(u:gR)(v:Value)(w':World):Prop :=
 ∃ρ' φ',Mem Bw w0 ρ' φ' (apply u h) w'∧(∀β a v,Fr (own φ h) Bw w β a v→Fr (own φ' (apply u h)) Bw w' β a v)∧(∀i u,ρ i=some u→ρ' i=some u) ∧
  (∀i u,ρ' i=some u→ρ i=some u∨∃j,j<8∧i=new+j)∧V (Fr (own φ' (apply u h)) Bw w') ρ' x v
theorem Post.pure{P:Program}{Bw:Nat→Prop}{w0:Base P}{ρ:Nat→Option Value}{φ:Nat→Nat→Prop}{h:Nat→Option Obj}{w:World}{new:Nat}{x:AVal}{v:Value}
  (m:Mem Bw w0 ρ φ h w) (hv:V (Fr (own φ h) Bw w) ρ x v):Post Bw w0 ρ φ h w new x [] v w :=
 ⟨ρ,φ,m,fun _ _ _ h=>h,fun _ _ h=>h,fun _ _ h=> .inl h,hv⟩
theorem j1(a:Addr)(i j:Nat):(a.add i).add j=a.add (i+j):=by
 unfold Addr.add
 by_cases hi:i=0 <;> by_cases hj:j=0 <;> simp[hi,hj,Nat.add_assoc]
theorem cH(g i j:Nat):(⟨g,i,none⟩:Addr).add j=⟨g,i+j,none⟩:=by
 unfold Addr.add
 by_cases hj:j=0 <;> simp[hj]
section
variable{F:Bool→Addr→Value→Prop}{ρ:Nat→Option Value}
theorem VL.list:∀ {cs:List AVal} {g:Nat→Value→Prop},VL F ρ cs g→∃us:List Value,us.length=cs.length∧(∀k u,us[k]? = some u→g k u)∧VL F ρ cs (fun k u=>us[k]? = some u)
 | [],g,_=>⟨[],rfl,fun k u h=>by simp at h,by simp only[VL]⟩
 | c::cs,g,h=>by
  simp only[VL]at h
  obtain⟨⟨v,q1,q2⟩,q3⟩:=h
  obtain⟨us,r1,r2,r3⟩:=VL.list q3
  refine⟨v::us,by simp[r1],fun k u hk=> ?_,?_⟩
  ·cases k with
   | zero=>simp at hk;subst hk;exact q1
   | succ k=>exact r2 k u (by simpa using hk)
  ·simp only[VL]
   exact⟨⟨v,by simp,q2⟩,VL.mono (fun _ _ _ h=>h) (fun _ _ h=>h) (fun k u hk=>by simpa using hk) r3⟩
theorem VL.take{n:Nat}{cs:List AVal}{g:Nat→Value→Prop}(h:VL F ρ cs g):VL F ρ (cs.take n) g :=
 VL.mk fun k x hk=>by
  rw[List.getElem?_take]at hk
  split at hk
  ·exact VL.get h hk
  ·cases hk
end
def AVal.cell:AVal→Bool
 | .lit _=>false
 | .agg _=>false
 | .tup _=>false
 | .lag _ _ _ _=>false
 | .unk=>false
 | _=>true
def AVal.cellOk:AVal→Bool
 | .lag _ _ _ cs=>cs.all AVal.cell
 | x=>(cellsOf x).all AVal.cell
theorem W1{x:AVal}(h:x.cellOk=true):(cellsOf x).all AVal.cell=true:=by
 unfold AVal.cellOk at h
 split at h
 ·simp only[cellsOf,List.all_append,Bool.and_eq_true]
  refine⟨?_,h⟩
  rw[List.all_map]
  exact List.all_eq_true.2 fun _ _=>rfl
 ·exact h
theorem tJ{F:Bool→Addr→Value→Prop}{ρ:Nat→Option Value}{x:AVal}(hx:x.cell=true){v:Value}(hv:V F ρ x v):v.oneCell'=true:=by
 cases x with
 | p β T y =>
  simp only[V]at hv
  obtain⟨h1,h2⟩:=hv
  cases T <;> simp only[Ty.scalar,Bool.false_eq_true]at h1
  ·simp only[Vcells]at h2;subst h2;rfl
  ·simp only[Vcells]at h2;subst h2;rfl
  ·simp only[Vcells]at h2;subst h2;rfl
  ·obtain⟨_,e,_⟩:=h2;subst e;rfl
  ·obtain⟨_,_,_,e,_⟩:=h2;subst e;rfl
  ·cases y with
   | none=>simp only[Vcells]at h2;subst h2;rfl
   | some z=>obtain⟨_,e,_⟩:=h2;subst e;rfl
  ·obtain⟨_,e,_⟩:=h2;subst e;rfl
 | nils=>simp only[V]at hv;subst hv;rfl
 | nilp=>simp only[V]at hv;subst hv;rfl
 | lit _=>simp[AVal.cell]at hx
 | sl id=>simp only[V]at hv;obtain⟨_,_,_,_,e⟩:=hv;subst e;rfl
 | adr _ _ _ _=>simp only[V]at hv;obtain⟨_,_,e⟩:=hv;subst e;rfl
 | ada _ _ _ _=>simp only[V]at hv;obtain⟨_,_,e,_⟩:=hv;subst e;rfl
 | fad _ _ _=>simp only[V]at hv;obtain⟨_,e,_⟩:=hv;subst e;rfl
 | fn _ _=>simp only[V]at hv;obtain⟨_,e,_⟩:=hv;subst e;rfl
 | mp _=>simp only[V]at hv;obtain⟨_,_,e⟩:=hv;subst e;rfl
 | loc _ _ _=>simp only[V]at hv;obtain⟨_,e,_⟩:=hv;subst e;rfl
 | suf _ _ _=>simp only[V]at hv;obtain⟨_,_,_,_,_,_,e⟩:=hv;subst e;rfl
 | bfn _ _=>simp only[V]at hv;obtain⟨_,e,_⟩:=hv;subst e;rfl
 | lag _ _ _ _=>simp[AVal.cell]at hx
 | agg _=>simp[AVal.cell]at hx
 | tup _=>simp[AVal.cell]at hx
 | unk=>simp[AVal.cell]at hx
theorem g8{v:Value}(h:v.oneCell'=true):v.cells = #[v]:=by
 cases v <;> first | rfl | simp[Value.oneCell']at h
theorem eW{F:Bool→Addr→Value→Prop}{ρ:Nat→Option Value}{x:AVal}(hx:(cellsOf x).all AVal.cell=true){v:Value}(hv:V F ρ x v):
  VL F ρ (cellsOf x) (fun k u=>v.cells.toList[k]? = some u)∧v.cells.toList.length=(cellsOf x).length∧∀c∈v.cells.toList,c.oneCell'=true:=by
 by_cases hagg:∃cs,x = .agg cs
 ·obtain⟨cs,rfl⟩:=hagg
  simp only[V]at hv
  obtain⟨vs,rfl,hs,hl⟩:=hv
  simp only[cellsOf]at hx ⊢
  refine⟨VL.mono (fun _ _ _ h=>h) (fun _ _ h=>h) (fun k u hk=>by simpa [Value.cells]using hk) hl,by simpa [Value.cells]using hs,fun c hc=> ?_⟩
  obtain⟨k,hk,rfl⟩:=List.getElem_of_mem hc
  have hk':k<cs.length:=by rw[←hs];simpa [Value.cells]using hk
  obtain⟨u,q1,q2⟩:=VL.get hl (List.getElem?_eq_getElem hk')
  have:u=(Value.agg vs).cells.toList[k]:=by
   have hk2:k<vs.size:=by omega
   rw[Array.getElem?_eq_getElem hk2]at q1
   cases q1
   simp[Value.cells]
  rw[←this]
  exact tJ (List.all_eq_true.1 hx _ (List.getElem_mem hk')) q2
 ·by_cases hlag:∃k n xs cs,x = .lag k n xs cs
  ·obtain⟨k,n,xs,cs,rfl⟩:=hlag
   simp only[V]at hv
   obtain⟨vs,rfl,hs,hl⟩:=hv
   simp only[cellsOf,List.all_append,Bool.and_eq_true]at hx ⊢
   have h1:VL F ρ (xs.1.map (fun i=>AVal.p false (.int k) i)) (fun j u=>(xs.1.map (Value.int k)++vs)[j]? = some u):=VL.mk fun j y hy=>by
    rw[List.getElem?_map]at hy
    rcases Nat.lt_or_ge j xs.1.length with hj | hj
    ·rw[List.getElem?_eq_getElem hj]at hy
     cases hy
     exact⟨.int k xs.1[j],by rw[List.getElem?_append_left (by simpa using hj)];simp[hj],by simp only[V,Vcells];exact⟨rfl,trivial⟩⟩
    ·rw[List.getElem?_eq_none hj]at hy
     cases hy
   have h2:VL F ρ (xs.1.map (fun i=>AVal.p false (.int k) i)++cs) (fun j u=>(xs.1.map (Value.int k)++vs)[j]? = some u):=VL.append h1 (VL.mono (fun _ _ _ h=>h) (fun _ _ h=>h) (fun j u hj=>by
    rw[List.length_map,List.getElem?_append_right (by simp)]
    simpa using hj) hl)
   refine⟨VL.mono (fun _ _ _ h=>h) (fun _ _ h=>h) (fun j u hj=>by simpa [Value.cells]using hj) h2,by simp[Value.cells,hs],fun c hc=> ?_⟩
   simp only[Value.cells,List.mem_append,List.mem_map]at hc
   rcases hc with⟨i,_,rfl⟩ | hc
   ·rfl
   ·obtain⟨j,hj,rfl⟩:=List.getElem_of_mem hc
    have hj':j<cs.length:=by omega
    obtain⟨u,q1,q2⟩:=VL.get hl (List.getElem?_eq_getElem hj')
    rw[List.getElem?_eq_getElem hj]at q1
    cases q1
    exact tJ (List.all_eq_true.1 hx.2 _ (List.getElem_mem hj')) q2
  have hcell:cellsOf x=[x]:=by
   cases x <;> first | rfl | exact(hagg ⟨_,rfl⟩).elim | exact(hlag ⟨_,_,_,_,rfl⟩).elim
  rw[hcell]at hx ⊢
  simp only[List.all_cons,List.all_nil,Bool.and_true]at hx
  have h1:=tJ hx hv
  rw[g8 h1]
  simp only[VL]
  exact⟨⟨⟨v,rfl,hv⟩,trivial⟩,rfl,fun c hc=>by simp at hc;subst hc;exact h1⟩
section
variable{P:Program}{t:TypeId}{ti:TI}
theorem qH(ht:TIok P t ti)(w:World):(isAgg t).run P w = .ok ti.k.agg w:=by
 obtain⟨d,h1,h2⟩:=ht.hu
 unfold isAgg
 rw[Sem.run_bind,run_underlying h1]
 simp only[Result.andThen_ok]
 cases hk:ti.k <;> rw[hk]at h2 <;> simp only[UK]at h2
 case other =>
  cases d <;> simp at h2 <;> rfl
 case st=>obtain⟨fs,rfl,_⟩:=h2;rfl
 all_goals (subst h2;rfl)
theorem run_sizeOf(ht:TIok P t ti)(w:World):(sizeOf t).run P w = .ok ti.size w:=by
 obtain⟨i,z,h1,_,h3,_⟩:=ht.hi
 simp[sizeOf,typeInfo,h1,h3]
theorem dE(ht:TIok P t ti)(w:World):∃z,(zeroValue t).run P w = .ok z w∧z.cells.toList.map lQ=ti.z∧z.cells.size=ti.size∧∀c∈z.cells.toList,c.oneCell'=true:=by
 obtain⟨i,z,h1,h2,_,_,h5,h6,h7⟩:=ht.hi
 exact⟨z,by simp[zeroValue,typeInfo,h1,h2],h5,h6,h7⟩
theorem bQ(ht:TIok P t ti){e:TypeId}(he:ti.k = .sl e):P.underlying t=some (.slice e):=by
 obtain⟨d,h1,h2⟩:=ht.hu
 rw[he]at h2
 simp only[UK]at h2
 rw[h1,h2]
end
def hU(ti:TI)(cs:List AVal)(off:Nat):Option AVal :=
 if ti.k.agg then(if off+ti.size≤cs.length then some (.agg ((cs.drop off).take ti.size))else none)else cs[off]?
theorem gJ{P:Program}{t:TypeId}{ti:TI}(ht:TIok P t ti){F:Bool→Addr→Value→Prop}{ρ:Nat→Option Value}{w:World}{ad:Addr}{cs:List AVal}
  (hcs:VL F ρ cs (fun k u=>w.cell? (ad.add k)=some u)) {off:Nat} {x:AVal} (h:hU ti cs off=some x) :
  ∃v,(loadVar t (ad.add off)).run P w = .ok v w∧V F ρ x v:=by
 unfold hU at h
 unfold loadVar
 rw[Sem.run_bind,qH ht]
 simp only[Result.andThen_ok]
 split at h
 ·rename_i hagg
  split at h
  ·rename_i hle
   cases h
   have h1:=VL.take (n:=ti.size) (VL.drop (n:=off) hcs)
   obtain⟨us,r1,r2,r3⟩:=VL.list h1
   have hlen:us.length=ti.size:=by rw[r1,List.length_take,List.length_drop];omega
   have hrow:=run_loadCells_list (P:=P) w (ad.add off) us (fun j u hu=>by rw[j1];exact r2 j u hu)
   rw[hlen]at hrow
   refine⟨.agg us.toArray,?_,?_⟩
   ·rw[if_pos hagg,Sem.run_bind,run_sizeOf ht]
    simp only[Result.andThen_ok,Sem.run_bind,hrow]
    rfl
   ·simp only[V]
    exact⟨_,rfl,by simp[r1],VL.mono (fun _ _ _ h=>h) (fun _ _ h=>h) (fun k u hk=>by simpa using hk) r3⟩
  ·cases h
 ·rename_i hagg
  obtain⟨u,q1,q2⟩:=VL.get hcs h
  refine⟨u,?_,q2⟩
  rw[if_neg (by simpa using hagg),run_load,q1]
theorem hX{P:Program}{t:TypeId}{ti:TI}(ht:TIok P t ti){w:World}{g p:Nat}{cur:Array Value}{te:TypeId}(hg:w.heap[g]? = some (.cells cur te (0,0)))
  {v:Value} (hs:v.cells.toList.length=ti.size) (hfit:p+ti.size≤cur.size) (h1:∀c∈v.cells.toList,c.oneCell'=true) :
  (storeVar t ⟨g,p,none⟩ v).run P w = .ok () (w.setRow g (cur.toList.take p++v.cells.toList++cur.toList.drop (p+ti.size)).toArray):=by
 unfold storeVar
 rw[Sem.run_bind,run_sizeOf ht]
 simp only[Result.andThen_ok]
 have hs':v.cells.size=ti.size:=by simpa using hs
 have:=run_storeCells_at P g p te v.cells.toList 0 cur w hg (by rw[hs];simpa using hfit) h1
 rw[Sem.run_ite,if_neg (by simpa using hs'),this]
 simp only[Nat.add_zero,hs]
theorem bE(w:World)(g:Nat)(cs:Array Value):w.grownBy (w.setRow g cs) (some g) :=
 ⟨rfl,rfl,rfl,by simp[World.setRow],fun k _ hk=>setRow_other w g k cs (fun e=>hk (by rw[e]))⟩
theorem bK{h:Nat→Option Obj}{i:Nat}{x:Option Obj}:upd (fun j=>if some i=some j then none else h j) i x=upd h i x:=by
 funext j
 simp only[upd]
 split
 ·rfl
 ·rename_i e;rw[if_neg (fun e'=>e (Option.some.inj e').symm)]
theorem bP{h:Nat→Option Obj}{i:Nat}{x:Option Obj}:upd (fun j=>if(none:Option Nat)=some j then none else h j) i x=upd h i x:=by
 funext j
 simp only[upd]
 split
 ·rfl
 ·simp
theorem aAl{h:Nat→Option Obj}{i j:Nat}{x:Option Obj}:upd (fun k=>if some i=some k then none else h k) j x=upd (upd h i none) j x:=by
 funext k
 simp only[upd]
 split
 ·rfl
 ·by_cases e:i=k
  ·subst e;simp
  ·rw[if_neg (by simpa using e),if_neg (Ne.symm e)]
end Go.Tv
