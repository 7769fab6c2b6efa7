/- Maps of numbers as data; rows that are not data. -/
import Derived.Test.YtbedjpdfkmfplaaGreatDoorTvKk
import Derived.Lib.AppendStr
namespace Go.Tv
open Go Go.RowKit
section
variable{P:Program}{Bw:Nat→Prop}{w0:Base P}{ρ:Nat→Option Value}{φ:Nat→Nat→Prop}{h:Nat→Option Obj}{w:World}{new:Nat}
theorem aGJ{b:Nat}{v:Value}(hp:w.peek ⟨b,0,some 0⟩=some v):∃es cl,w.heap[b]? = some (.map es cl)∧v = .tuple (es.map fun e=>Value.tuple #[e.key,e.val]):=by
 unfold World.peek at hp
 simp only at hp
 split at hp
 ·rename_i es cl hb
  cases hp
  exact⟨es,cl,hb,rfl⟩
 ·cases hp
def aG0(k2:IntKind)(cok:Bool)(r:Option Int):AVal :=
 if cok then .tup [.p false (.int k2) (r.getD 0),.p false .bool r.isSome]else .p false (.int k2) (r.getD 0)
theorem aEm{F:Bool→Addr→Value→Prop}{k2:IntKind}{cok:Bool}{r:Option Int}{v:Value}{b:Bool}(hv:v = .int k2 (r.getD 0))(hb:b=r.isSome):V F ρ (aG0 k2 cok r) (if cok then .tuple #[v,.bool b]else v):=by
 subst hv hb
 cases cok
 ·simp[aG0,V,Vcells,Ty.scalar]
 ·simp only[aG0,if_true,V,VL]
  exact⟨_,rfl,rfl,⟨_,rfl,by simp[Vcells,Ty.scalar]⟩,⟨_,rfl,by simp[Vcells,Ty.scalar]⟩,trivial⟩
theorem aB3(m:Mem Bw w0 ρ φ h w){o:Oper}{a:Act}{t kt et:TypeId}{ti te tk:TI}(ht:TIok P t ti)(hk:ti.k = .mp kt et){k1 k2:IntKind}(hkt:TIok P kt tk)(hkk:tk.k = .int k1)(hte:TIok P et te)(hT:te.T=some (.int k2))
  {xo ko:Operand} {cok:Bool} (ho:o.op = .lookup t xo ko cok) {β:Bool} {kv:List (Int×Int)} (hx:V (Fr (own φ h) Bw w) ρ (.p β (.mapi k1 k2) kv) (a.eval xo)) {β':Bool} {i:Int} (hi:V (Fr (own φ h) Bw w) ρ (.p β' (.int k1) i) (a.eval ko)) :
  Good P o a w (Post Bw w0 ρ φ h w new (aG0 k2 cok (bG (α:=Int) (.int k1) kv i)) []):=by
 have hko:KeyOk P kt (.int k1):=KeyOk.of_kk hkt (by rw[hkk];rfl)
 have e2:a.eval ko=aZ (.int k1) i:=A6 rfl rfl hi
 obtain⟨dm,hm,hmk⟩:=ht.hu
 rw[hk]at hmk
 simp only[UK]at hmk
 subst hmk
 obtain⟨z,hz,hz1,hz2,hz3⟩:=eC hte w
 have hz0:z = .int k2 0:=by
  have hmv:MV (Fr (own φ h) Bw w false) (.int k2) (Ty.zero (.int k2)) z:=N7 hte hT hz hz1 hz2 hz3
  have:=aFX (ρ:=ρ) hmv
  simp only[enc,Ty.scalar,if_true,V,Vcells]at this
  exact this.2.symm
 simp only[V,Vcells]at hx
 obtain⟨-,r,e1,hr⟩:=hx
 cases r with
 | none =>
  simp only at hr
  subst hr
  have hf:=hko.find i [] [] w rfl
  have hfind:(Instr.findKey kt (aZ (.int k1) i) []).run P w = .ok none w:=by
   rcases hf with⟨h1,_⟩ | ⟨j,e,_,h2,_⟩
   ·exact h1
   ·simp at h2
  refine Good.of_run (v:=if cok then .tuple #[z,.bool false]else z) (w':=w) ?_ (Post.pure m (aEm (by rw[hz0];rfl) rfl))
  simp only[execOp,ho]
  rw[←e1,e2]
  cases cok <;> simp[Instr.lookup,run_underlying hm,hko.check,hfind,hz,Result.andThen]
 | some b =>
  obtain⟨hpk,hnd⟩:=hr
  obtain⟨es,cl,hb,hmv⟩:=aGJ hpk.2.2
  unfold aKP at hmv
  simp only[Value.tuple.injEq]at hmv
  have hl:(kv.map fun p=>Value.tuple #[.int k1 p.1,.int k2 p.2])=es.toList.map fun e=>Value.tuple #[e.key,e.val]:=by
   have:=congrArg Array.toList hmv
   simpa using this
  have hkeys:es.toList.map (·.key)=(kv.map (·.1)).map (aZ (.int k1)):=by
   refine List.ext_getElem? fun j=> ?_
   have:=congrArg (fun l=>l[j]?) hl
   simp only[List.getElem?_map]at this ⊢
   cases q1:kv[j]? <;> cases q2:es.toList[j]? <;> rw[q1,q2]at this <;> simp at this ⊢
   exact this.1.symm
  have hget:∀(j:Nat) (e:MapEntry),es.toList[j]? = some e→∃p:Int×Int,kv[j]? = some p∧e.key=Value.int k1 p.1∧e.val=Value.int k2 p.2:=fun j e he=>by
   have:=congrArg (fun l=>l[j]?) hl
   simp only[List.getElem?_map,he]at this
   cases q1:kv[j]? with
   | none=>rw[q1]at this;simp at this
   | some p=>rw[q1]at this;simp at this;exact⟨p,rfl,this.1.symm,this.2.symm⟩
  rcases hko.find i es.toList (kv.map (·.1)) w hkeys with⟨h1,h2⟩ | ⟨j,e,h1,h2,h3⟩
  ·have hnone:bG (α:=Int) (.int k1) kv i=none:=kM (K:= .int k1) rfl fun p hp e=>by
    obtain⟨j,hj⟩:=List.mem_iff_getElem?.1 hp
    have h4:(es.toList.map (·.key))[j]? = some (aZ (.int k1) i):=by rw[hkeys,List.getElem?_map,List.getElem?_map,hj];exact congrArg some (congrArg (aZ (.int k1)) e)
    rw[List.getElem?_map]at h4
    cases hq:es.toList[j]? with
    | none=>rw[hq]at h4;cases h4
    | some x =>
     rw[hq]at h4
     simp at h4
     exact h2 x (List.mem_of_getElem? hq) h4
   rw[hnone]
   refine Good.of_run (v:=if cok then .tuple #[z,.bool false]else z) (w':=w) ?_ (Post.pure m (aEm (by rw[hz0];rfl) rfl))
   simp only[execOp,ho]
   rw[←e1,e2]
   cases cok <;> simp[Instr.lookup,run_underlying hm,Go.MapKept.run_getObj_map hb,hko.check,h1,hz,Result.andThen]
  ·obtain⟨p,hp,hpe,hpv⟩:=hget j e h2
   have hpk:p.1=i:=by
    rw[hpe]at h3
    simpa [aZ]using h3
   have hsome:=m8 (K:= .int k1) (α:=Int) (k:=i) rfl hnd hp hpk
   rw[hsome]
   refine Good.of_run (v:=if cok then .tuple #[e.val,.bool true]else e.val) (w':=w) ?_ (Post.pure m (aEm (by rw[hpv];rfl) rfl))
   simp only[execOp,ho]
   rw[←e1,e2]
   cases cok <;> simp[Instr.lookup,run_underlying hm,Go.MapKept.run_getObj_map hb,hko.check,h1,Result.andThen]
/-! ### Rows of values -/
theorem U8{F:Bool→Addr→Value→Prop}{sz:Nat}:∀ {xs:List AVal} {vs:List Value},(∀x∈xs,(cellsOf x).all AVal.cell=true∧(cellsOf x).length=sz)→VVs F ρ xs vs →
  vs.length=xs.length∧(∀v∈vs,v.cells.size=sz)∧VL F ρ (xs.flatMap cellsOf) (fun k u=>(vs.flatMap fun v=>v.cells.toList)[k]? = some u)
 | [],[],_,_=>⟨rfl,fun _ h=>by simp at h,by simp only[List.flatMap_nil,VL]⟩
 | x::xs,v::vs,hc,⟨h1,h2⟩=>by
  obtain⟨c1,c2⟩:=hc x (by simp)
  obtain⟨q1,q2,q3⟩:=U8 (fun y hy=>hc y (by simp[hy])) h2
  obtain⟨r1,r2,r3⟩:=gW c1 h1
  refine⟨by simp[q1],fun u hu=> ?_,?_⟩
  ·rcases List.mem_cons.1 hu with rfl | hu
   ·rw[←c2,←r2,Array.length_toList]
   ·exact q2 u hu
  ·rw[List.flatMap_cons,List.flatMap_cons]
   refine VL.mk fun k y hk=> ?_
   rcases Nat.lt_or_ge k (cellsOf x).length with hlt | hge
   ·rw[List.getElem?_append_left hlt]at hk
    obtain⟨u,e1,e2⟩:=VL.get r1 hk
    exact⟨u,by rw[List.getElem?_append_left (by rw[r2];exact hlt)];exact e1,e2⟩
   ·rw[List.getElem?_append_right hge]at hk
    obtain⟨u,e1,e2⟩:=VL.get q3 hk
    exact⟨u,by rw[List.getElem?_append_right (by rw[r2];exact hge),r2];exact e1,e2⟩
 | [],_::_,_,h=>h.elim
 | _::_,[],_,h=>h.elim
theorem aAC(m:Mem Bw w0 ρ φ h w)(hn:ρ new=none){o:Oper}{a:Act}{t e:TypeId}{ti te:TI}(ht:TIok P t ti)(hk:ti.k = .sl e)(hte:TIok P e te)
  {fS:Array (Nat×Operand)} {len:Nat} (ho:o.op = .buildSlice t len fS) (hp:fS.toList.map (·.1)=List.range len) {xs:List AVal}
  (hx:VVs (Fr (own φ h) Bw w) ρ xs (fS.toList.map fun p=>a.eval p.2)) (hc:∀x∈xs,(cellsOf x).all AVal.cell=true∧(cellsOf x).length=te.size) (h24:len*te.size≤16777216) :
  Good P o a w (Post Bw w0 ρ φ h w new (.sl new) [(new,some (.vrow len te.size (xs.flatMap cellsOf)))]):=by
 obtain⟨g1,g2,g3⟩:=U8 hc hx
 have hlen:(fS.toList.map fun p=>a.eval p.2).length=len:=by
  have:=congrArg List.length hp
  simpa using this
 have hparts:(fS.map fun p=>(p.1,a.eval p.2))=(((fS.toList.map fun p=>a.eval p.2).zipIdx 0).map fun p=>(p.2,p.1)).toArray:=by
  apply Array.ext'
  simp only[Array.toList_map]
  apply List.ext_getElem?
  intro j
  simp only[List.getElem?_map,List.getElem?_zipIdx,Option.map_map]
  have hj:=congrArg (fun l=>l[j]?) hp
  simp only[List.getElem?_map]at hj
  cases hq:fS.toList[j]? with
  | none=>simp[hq]
  | some p =>
   simp only[hq,Option.map_some]at hj ⊢
   have hjl:j<len:=by
    have:=(List.getElem?_eq_some_iff.1 hq).1
    have h2:=congrArg List.length hp
    simp only[List.length_map,List.length_range]at h2
    omega
   rw[List.getElem?_range hjl]at hj
   simp only[Option.some.injEq]at hj
   simp[hj]
 have hrun:=uM (P:=P) (w:=w) ht hk hte (vs:=fS.toList.map fun p=>a.eval p.2) g2 (by rw[hlen];exact h24)
 rw[hlen,←hparts]at hrun
 refine Good.of_run (v:=_) (w':=_) (by simp only[execOp,ho,Sem.run_bind,hrun,Result.andThen_ok];rfl) ?_
 have hsum:∀ {vs:List Value},(∀v∈vs,v.cells.size=te.size)→(vs.flatMap fun v=>v.cells.toList).length=vs.length*te.size:=fun {vs} hv=>by
  induction vs with
  | nil=>simp
  | cons v vs ih=>rw[List.flatMap_cons,List.length_append,ih (fun u hu=>hv u (by simp[hu])),Array.length_toList,hv v (by simp),List.length_cons,Nat.succ_mul,Nat.add_comm]
 have hsum2:∀ {xs:List AVal},(∀x∈xs,(cellsOf x).all AVal.cell=true∧(cellsOf x).length=te.size)→(xs.flatMap cellsOf).length=xs.length*te.size:=fun {xs} hv=>by
  induction xs with
  | nil=>simp
  | cons v vs ih=>rw[List.flatMap_cons,List.length_append,ih (fun u hu=>hv u (by simp[hu])),(hv v (by simp)).2,List.length_cons,Nat.succ_mul,Nat.add_comm]
 have hxl:xs.length=len:=by rw[←g1,hlen]
 refine dT m none new (.vrow len te.size (xs.flatMap cellsOf)) (.slice (some ⟨w.heap.size,0,none⟩) len len) none (World.grownBy_alloc w _ none) (fun k e=>by cases e) (.inl hn) (fun _ k hk=> ?_) (fun F' ρ' hF hρ=> ?_) (by rw[bQ];rfl) (fun _=>rfl) (fun F' ρ' hF hρ hnew=> ?_)
 ·simp only[jT,Option.some.injEq]at hk
  exact .inl (by omega)
 ·simp only[OR]
  refine⟨_,e,_,rfl,rfl,heap_alloc_new w _,?_,?_,VL.mono hF hρ (fun k u hk=>by simpa using hk) g3⟩
  ·rw[List.size_toArray,hsum g2,hsum2 hc,hlen,hxl]
  ·rw[hsum2 hc,hxl]
 ·simp only[V]
  exact⟨hnew,_,_,_,rfl⟩
theorem aBx(m:Mem Bw w0 ρ φ h w){id n sz:Nat}{cs:List AVal}(hb:h id=some (.vrow n sz cs)){u:Value}(hr:ρ id=some u):
  ∃g t cells,u = .slice (some ⟨g,0,none⟩) n n∧w.heap[g]? = some (.cells cells t (0,0))∧cells.size=cs.length∧cs.length=n*sz∧VL (Fr (own φ h) Bw w) ρ cs (fun k v=>cells[k]? = some v):=by
 obtain⟨u',q1,g,t,cells,rfl,_,r1,r2,r3,r4⟩:=m.ob id _ hb
 rw[hr]at q1
 cases q1
 exact⟨g,t,cells,rfl,r1,r2,r3,r4⟩
theorem aDo(m:Mem Bw w0 ρ φ h w){o:Oper}{a:Act}{t:TypeId}{ti:TI}(ht:TIok P t ti){e:TypeId}(hk:ti.k = .sl e){xo:Operand}{id n sz:Nat}{cs:List AVal}(hx:V (Fr (own φ h) Bw w) ρ (.sl id) (a.eval xo))
  (hb:h id=some (.vrow n sz cs)) (ho:o.op = .call { callee:= .builtin .len,args:= #[xo],argTypes:= #[t] }):Good P o a w (Post Bw w0 ρ φ h w new (.p false (.int .i64) (n:Int)) []):=by
 obtain⟨d,h1,h2⟩:=ht.hu
 rw[hk]at h2
 simp only[UK]at h2
 subst h2
 simp only[V]at hx
 obtain⟨hρ,-⟩:=hx
 obtain⟨g,t',cells,he,-⟩:=aBx m hb hρ
 refine Good.of_run (v:= .int .i64 n) (w':=w) ?_ (Post.pure m (eQ _ _ _))
 simp only[execOp,ho,resolve,invoke,builtin,Sem.run_bind,Sem.run_pure,Result.andThen_ok,List.map_toArray,List.map_cons,List.map_nil,he]
 simp[Builtin.len_,run_underlying h1,goInt]
theorem aAe(m:Mem Bw w0 ρ φ h w){o:Oper}{a:Act}{t e:TypeId}{ti te:TI}(ht:TIok P t ti)(hk:ti.k = .sl e)(hte:TIok P e te){xo io:Operand}{id n:Nat}{cs:List AVal}(hx:V (Fr (own φ h) Bw w) ρ (.sl id) (a.eval xo))
  (hb:h id=some (.vrow n te.size cs)) {β:Bool} {k:IntKind} {i:Int} (hi:V (Fr (own φ h) Bw w) ρ (.p β (.int k) i) (a.eval io)) (ho:o.op = .indexAddr t xo io) (h0:0≤i) (hn:i<n) :
  Good P o a w (Post Bw w0 ρ φ h w new (.adr id i.toNat te.size 0) []):=by
 have hu:=bK ht hk
 have he:=cN hi
 simp only[V]at hx
 obtain⟨hρ,-⟩:=hx
 obtain⟨g,t',cells,hv,-⟩:=aBx m hb hρ
 refine Good.of_run (v:= .pointer (some ((⟨g,0,none⟩:Addr).add (i.toNat*te.size)))) (w':=w) ?_ (Post.pure m ?_)
 ·simp[execOp,ho,Instr.indexAt,asIntOf,he,hv,run_underlying hu,run_sizeOf hte,h0,hn]
 ·simp only[V]
  exact⟨g,.inr ⟨_,_,by rw[hρ,hv]⟩,by rw[dA];simp⟩
theorem aBN(m:Mem Bw w0 ρ φ h w){o:Oper}{a:Act}{t:TypeId}{ti:TI}(ht:TIok P t ti){xo:Operand}{id i sz off:Nat}(hx:V (Fr (own φ h) Bw w) ρ (.adr id i sz off) (a.eval xo))(ho:o.op = .load t xo)
  {n sz':Nat} {cs:List AVal} (hb:h id=some (.vrow n sz' cs)) {y:AVal} (hy:fN ti cs (i*sz+off)=some y):Good P o a w (Post Bw w0 ρ φ h w new y []):=by
 obtain⟨u,q1,_⟩:=m.ob id _ hb
 obtain⟨g,t',cells,rfl,r1,r2,r3,r4⟩:=aBx m hb q1
 simp only[V]at hx
 obtain⟨g',hg,hv⟩:=hx
 have hgg:g'=g:=by
  rcases hg with hg | ⟨_,_,hg⟩
  ·rw[q1]at hg;cases hg
  ·rw[q1]at hg;cases hg;rfl
 subst hgg
 have hcell:VL (Fr (own φ h) Bw w) ρ cs (fun k u=>w.cell? ((⟨g',0,none⟩:Addr).add k)=some u):=VL.mono (fun _ _ _ h=>h) (fun _ _ h=>h) (fun k u hk=>by
  rw[dA,Nat.zero_add]
  simp only[World.cell?,r1]
  exact hk) r4
 obtain⟨v,h3,h4⟩:=hZ (P:=P) ht hcell hy
 refine Good.of_run (v:=v) (w':=w) ?_ (Post.pure m h4)
 have:a.eval xo = .pointer (some ((⟨g',0,none⟩:Addr).add (i*sz+off))):=by rw[hv,dA,Nat.zero_add]
 simp[execOp,ho,Instr.loadAt,this,Instr.sureAddr,h3]
theorem aDt{w:World}{g:Nat}{cur:Array Value}{te:TypeId}{mk:Nat×Nat}(hg:w.heap[g]? = some (.cells cur te mk))(hmk:mk=(0,0)∨mk=(cur.size,cur.size+1)):
  (w.freeze ⟨g,cur.size,none⟩ 1).heap[g]? = some (.cells cur te (cur.size,cur.size+1)):=by
 unfold World.freeze
 rw[if_neg (by decide)]
 simp only[Array.getElem?_modify,hg,if_true,Option.map_some]
 rcases hmk with rfl | rfl
 ·simp
 ·simp
theorem yR(w:World)(g k:Nat):w.grownBy (w.freeze ⟨g,k,none⟩ 1) (some g):=by
 refine⟨rfl,rfl,rfl,?_,fun j hj hne=> ?_⟩
 ·unfold World.freeze
  rw[if_neg (by decide)]
  simp
 ·unfold World.freeze
  rw[if_neg (by decide)]
  have:g≠j:=fun e=>hne (by rw[e])
  simp[Array.getElem?_modify,this]
theorem aAq(m:Mem Bw w0 ρ φ h w){o:Oper}{a:Act}{t e:TypeId}{ti te:TI}(ht:TIok P t ti)(hk:ti.k = .sl e)(hte:TIok P e te)(hek:te.k = .int .u8){xo:Operand}{id:Nat}(hx:V (Fr (own φ h) Bw w) ρ (.sl id) (a.eval xo))
  (ho:o.op = .convert t t xo) {et:TypeId} {xs:List Int} (hi:h id=some (.arr et (.int .u8) xs)) (h0:0<xs.length):Good P o a w (Post Bw w0 ρ φ h w new (.sl id) [(id,some (.bytes et xs)),(id,some (.bytes et xs))]):=by
 have hu:=bK ht hk
 obtain⟨d2,he1,he2⟩:=hte.hu
 rw[hek]at he2
 simp only[UK]at he2
 subst he2
 obtain⟨m',f1⟩:=m.toBytes hi
 obtain⟨u,q1,q2⟩:=m'.ob id _ (aI h id (some (.bytes et xs)))
 simp only[V]at hx
 obtain⟨hρ,-⟩:=hx
 rw[hρ]at q1
 cases q1
 rcases q2 with⟨_,hn⟩ | ⟨g,cap,cur,mk,hv,hsg,r1,r2,r3,r5,r6⟩
 ·subst hn;simp at h0
 have hsh:w.shape? g=some (et,cur.size):=by unfold World.shape?;rw[r1]
 have hrun:(convert t t (.slice (some ⟨g,0,none⟩) xs.length cap)).run P w = .ok (.slice (some ⟨g,0,none⟩) xs.length cap) (w.freeze ⟨g,cur.size,none⟩ 1):=by
  simp[convert,run_underlying hu,run_underlying he1,markStringish,hsh]
 refine Good.of_run (v:=a.eval xo) (w':=w.freeze ⟨g,cur.size,none⟩ 1) (by simp only[execOp,ho,hv,Sem.run_bind,hrun,Result.andThen_ok];rfl) ?_
 refine Post.after (u1:=[(id,some (.bytes et xs))]) (u2:=[(id,some (.bytes et xs))]) rfl f1 ?_
 refine fT m' (some id) id (.bytes et xs) (a.eval xo) (φ id) (some g) (yR w g _) (fun k e=>⟨id,_,rfl,aI _ _ _,rfl,by cases e;exact hsg⟩) (.inr ⟨rfl,hρ⟩)
  (fun _ k hk=>Nat.lt_of_lt_of_le (m'.lt id _ k (aI _ _ _) rfl hk) (yR w g _).size) (fun _ k hk=> .inr ⟨id,_,rfl,aI _ _ _,rfl,hk⟩) (fun F' ρ' hF hρ'=> ?_) (by rw[bE];rfl) (fun e=>by rw[hρ]at e;cases e) (fun F' ρ' hF hρ' hnew=> ?_)
 ·refine .inr ⟨g,cap,cur,(cur.size,cur.size+1),hv,hsg,aDt r1 r2,.inr rfl,r3,r5,r6⟩
 ·simp only[V]
  exact⟨hnew,_,_,_,hv⟩
/-! ### Bytes of a string behind a row of bytes -/
theorem B3{t u ty e:TypeId}{i:TypeInfo}(ht:P.underlying t=some (.slice e))(hu:P.underlying u=some .string)(hi:P.info? e=some i)(hz:i.zero=some (.int .u8 0))(hsize:i.size=1)(hby:i.bytes=1)
  {v:Value} {n:Nat} {xs:List Value} (hown:w.ownsRow 0 e 1 v n xs) (s:ByteArray) (h63:n+s.size≤maxLen) (hbytes:n+s.size≤140737488355328) :
  ∃v' w',(Builtin.append_ #[t,u] ty #[v,.string s]).run P w = .ok v' w'∧w'.ownsRow 0 e 1 v' (n+s.size) (xs++Lib.strCells s)∧w.grownBy w' v.ownBlock ∧
   ∀k,v'.ownBlock=some k→w.heap.size≤k∨v.ownBlock=some k:=by
 obtain⟨v',w',hr,h2,h3,h4⟩:=Lib.run_append_own_string (P:=P) w 0 t u ty e i ht hu hi hz hsize hby v n xs hown s h63 hbytes (Nat.zero_le _)
 refine⟨v',w',hr,h2,h3,fun k hk=> ?_⟩
 have hsmall:n+s.size≤9223372036854775807:=by simp only[maxLen]at h63;omega
 rcases hown.2 with⟨rfl,rfl⟩ | ⟨g,cap,cur,rfl,_,hg,hnc,hcm,hcs,htake⟩
 ·by_cases hm:s.size=0
  ·rw[h4.2 ⟨rfl,hm⟩]at hk;cases hk
  ·have:=run_append_nil_string (P:=P) w t u ty e i (.int .u8 0) ht hu hi hz s (by omega) (by omega) (by rw[hby];omega)
   rw[this]at hr
   cases hr
   simp only[Value.ownBlock,Option.some.injEq]at hk
   exact .inl (by omega)
 ·have hcs':cur.size=cap:=by simpa using hcs
  by_cases hroom:n+s.size≤cap
  ·have:=Lib.run_append_room_string (P:=P) w t u ty e i ht hu hi hsize g n cap cur hg s hroom (by omega)
   rw[this]at hr
   cases hr
   exact .inr hk
  ·have holds:∀j u,xs[j]? = some u→w.cell? ((⟨g,0,none⟩:Addr).add j)=some u:=hown.cells (g:=g) rfl
   have hxl:xs.length=n:=by simpa using hown.1
   have:=Lib.run_append_grow_string (P:=P) w t u ty e i (.int .u8 0) ht hu hi hz ⟨g,0,none⟩ n cap xs (by rw[hsize];simpa using hxl) holds s (by omega) (by omega) (by rw[hby];exact growslice_fits (by omega) (by omega))
   rw[this]at hr
   cases hr
   simp only[Value.ownBlock,Option.some.injEq]at hk
   exact .inl (by omega)
theorem tZ(m:Mem Bw w0 ρ φ h w)(hn:ρ new=none){o:Oper}{a:Act}{t u e:TypeId}{ti tu te:TI}(ht:TIok P t ti)(hk:ti.k = .sl e)(htu:TIok P u tu)(hku:tu.k = .str)(hte:TIok P e te)(hT:te.T=some (.int .u8))(hb1:te.bytes=1)
  {xo yo:Operand} {x:AVal} (hx:V (Fr (own φ h) Bw w) ρ x (a.eval xo)) {β:Bool} {s:List UInt8} (hy:V (Fr (own φ h) Bw w) ρ (.p β .str s) (a.eval yo)) (ho:o.op = .call { callee:= .builtin .append,args:= #[xo,yo],argTypes:= #[t,u] })
  {xs:List Int} {i0:Option Nat} {uu:jJ}
  (hxs:(x = .nils∧xs=[]∧i0=none∧uu=[(new,some (.arr e (.int .u8) (dB s)))])∨(∃id,x = .sl id∧h id=some (.arr e (.int .u8) xs)∧i0=some id∧uu=[(id,none),(new,some (.arr e (.int .u8) (xs++dB s)))]))
  (hb:xs.length+s.length≤140737488355328):Good P o a w (Post Bw w0 ρ φ h w new (.sl new) uu):=by
 obtain⟨i,z,hi,hz,hsize,hbytes,hz1,hz2,hz3⟩:=hte.hi
 obtain⟨hT1,hT2,hT3⟩:=hte.hT _ hT
 have hu:=bK ht hk
 have hs1:te.size=1:=hT1.symm
 obtain⟨d,hd1,hd2⟩:=htu.hu
 rw[hku]at hd2
 simp only[UK]at hd2
 subst hd2
 have hz0:z = .int .u8 0:=by
  have hzv:(zeroValue e).run P w = .ok z w:=by simp[zeroValue,typeInfo,hi,hz]
  have hmv:MV (Fr (own φ h) Bw w false) (.int .u8) (Ty.zero (.int .u8)) z:=N7 hte hT hzv hz1 hz2 hz3
  have:=aFX (ρ:=ρ) hmv
  simp only[enc,Ty.scalar,if_true,V,Vcells]at this
  exact this.2.symm
 subst hz0
 have hys:a.eval yo = .string ⟨s.toArray⟩:=vT hy
 have hssz:(⟨s.toArray⟩:ByteArray).size=s.length:=rfl
 have hcells:Lib.strCells ⟨s.toArray⟩=(dB s).map (Value.int .u8):=by
  simp[Lib.strCells,dB]
 obtain⟨cells,v,hv,hrow,hrows,hI0⟩:∃cells v,a.eval xo=v∧w.ownsRow 0 e 1 v xs.length cells ∧
   (∀i (h':i<xs.length),cells[i]? = some (.int .u8 xs[i])) ∧
   ∀k,v.ownBlock=some k→∃i o,i0=some i∧h i=some o∧o.live=true∧φ i k:=by
  rcases hxs with⟨rfl,rfl,rfl,_⟩ | ⟨id,rfl,hid,rfl,_⟩
  ·simp only[V]at hx
   exact⟨[],_,hx,World.ownsRow_nil w 0 e _,fun i hi=>absurd hi (by simp),fun k hk=>by cases hk⟩
  ·simp only[V]at hx
   obtain⟨u,q1,hsa,_,cells,r1,r2⟩:=m.ob id _ hid
   rw[hx.1]at q1
   cases q1
   obtain⟨_,aa,nn,cc,he⟩:=hx
   refine⟨cells,_,rfl,r1,fun i hi=> ?_,fun k hk'=>⟨id,_,rfl,hid,rfl,hsa _ (by rw[iS he];exact hk')⟩⟩
   have:=r2 i hi
   simpa [Vcells,Ty.size]using this
 have happ:apply uu h=upd (fun i=>if i0=some i then none else h i) new (some (.arr e (.int .u8) (xs++dB s))):=by
  rcases hxs with⟨_,rfl,rfl,rfl⟩ | ⟨id,_,_,rfl,rfl⟩
  ·rw[bQ];rfl
  ·rw[M8];rfl
 obtain⟨v',w',hr,h2,h3,h4⟩:=B3 (P:=P) (ty:=o.type) hu hd1 hi hz (by rw[hsize,hs1]) (by rw[hbytes,hb1]) hrow ⟨s.toArray⟩ (by rw[hssz];unfold maxLen;omega) (by rw[hssz];exact hb)
 have hvs:∃aa nn cc,v' = .slice aa nn cc:=by
  rcases h2.2 with⟨e,_⟩ | ⟨g,cap,cur,e,_⟩ <;> exact⟨_,_,_,e⟩
 refine Good.of_run (v:=v') (w':=w') ?_ ?_
 ·simp only[execOp,ho,resolve,invoke,builtin,Sem.run_bind,Sem.run_pure,Result.andThen_ok,List.map_toArray,List.map_cons,List.map_nil,hv,hys,hr]
 ·obtain⟨aa,nn,cc,hve'⟩:=hvs
  rw[hssz,hcells]at h2
  have hlen:(xs++dB s).length=xs.length+s.length:=by simp[dB]
  have hcl:cells.length=xs.length:=by simpa using hrow.1
  refine dT m i0 new (.arr e (.int .u8) (xs++dB s)) v' v.ownBlock h3 hI0 (.inl hn) (fun _ k hk'=>h4 k (by rw[←iS hve'];exact hk')) (fun F' ρ' hF hρ=> ?_) happ (fun _=>rfl) (fun F' ρ' hF hρ hnew=> ?_)
  ·refine⟨fun _ h=>h,by decide,cells++(dB s).map (Value.int .u8),by rw[←hlen]at h2;exact h2,fun i hi=> ?_⟩
   simp only[Vcells,Ty.size,Nat.mul_one,Nat.add_zero]
   rcases Nat.lt_or_ge i xs.length with q | q
   ·rw[List.getElem_append_left q,List.getElem?_append_left (by omega)]
    exact hrows i q
   ·rw[List.getElem_append_right q,List.getElem?_append_right (by omega),hcl]
    have:i - xs.length<(dB s).length:=by simp only[List.length_append]at hi;omega
    simp[this]
  ·simp only[V]
   exact⟨hnew,_,_,_,hve'⟩
end
end Go.Tv
