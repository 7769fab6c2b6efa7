/- Struct literals, parts, lengths. -/
import Derived.Test.YtflahpmlcfhpcaaGreatDoorTvI
namespace Go.Tv
open Go Go.RowKit
section
variable{P:Program}{Bw:Nat→Prop}{w0:Base P}{ρ:Nat→Option Value}{φ:Nat→Nat→Prop}{h:Nat→Option Obj}{w:World}{new:Nat}
theorem R1{α β:Type}(f:α→Sem β)(g:α→β)(w:World):∀(l:List α),(∀x∈l,(f x).run P w = .ok (g x) w)→(l.mapM f).run P w = .ok (l.map g) w
 | [],_=>rfl
 | x::l,h=>by
  rw[List.mapM_cons,Sem.run_bind,h x (by simp)]
  simp only[Result.andThen_ok,Sem.run_bind,R1 f g w l (fun y hy=>h y (by simp[hy]))]
  rfl
def eA(tb:Tab)(fs:List (Nat×TypeId)):List (Nat×AVal)→List AVal→Option (List AVal)
 | [],cs=>some cs
 | (i,x)::r,cs=>match fs[i]? with
  | some (off,ft)=>match tb.find ft with
   | some fti=>if(cellsOf x).length=fti.size∧(cellsOf x).all AVal.cell∧off+fti.size≤cs.length then eA tb fs r (wr cs off (cellsOf x))else none
   | none=>none
  | none=>none
theorem pS{tb:Tab}(htb:TabOK P tb){F:Bool→Addr→Value→Prop}{fs:List (Nat×TypeId)}{pl:Nat→Option (Nat×Nat)}
  (hpl:∀i off ft,fs[i]? = some (off,ft)→∃i',P.info? ft=some i'∧pl i=some (off,i'.size)) :
  ∀ {ps:List (Nat×AVal)} {vs:List Value} {cs ds:List AVal} {us:Array Value},eA tb fs ps cs=some ds→VVs F ρ (ps.map (·.2)) vs→us.size=cs.length→VL F ρ cs (fun k u=>us[k]? = some u) →
   ∃us',Instr.fill pl us ((ps.map (·.1)).zip vs)=some us'∧us'.size=ds.length∧VL F ρ ds (fun k u=>us'[k]? = some u)
 | [],vs,cs,ds,us,h,hv,hs,hl=>by
  simp only[eA,Option.some.injEq]at h
  subst h
  cases vs with
  | nil=>exact⟨us,rfl,hs,hl⟩
  | cons _ _=>exact hv.elim
 | (i,x)::r,vs,cs,ds,us,h,hv,hs,hl=>by
  simp only[eA]at h
  split at h
  ·rename_i off ft hf
   split at h
   ·rename_i fti hft
    split at h
    ·rename_i hcond
     obtain⟨c1,c2,c3⟩:=hcond
     cases vs with
     | nil=>exact hv.elim
     | cons v vs =>
      obtain⟨q1,q2⟩:=hv
      obtain⟨r1,r2,r3⟩:=eW c2 q1
      obtain⟨i',hi',hp⟩:=hpl i off ft hf
      obtain⟨i2,z,e1,_,e3,_⟩:=(htb.find hft).hi
      rw[hi']at e1
      cases e1
      have hsz:v.cells.size=fti.size:=by rw[←Array.length_toList,r2,c1]
      have hf:=vS off v us (by rw[hsz,hs];exact c3)
      have hsize:(v.cells.zipIdx.foldl (fun(cs:Array Value) (p:Value×Nat)=>cs.setIfInBounds (off+p.2) p.1) us).size=(wr cs off (cellsOf x)).length:=by
       rw[←Array.length_toList,hf,aAC (by rw[c1];exact c3)]
       simp only[List.length_append,List.length_take,List.length_drop,Array.length_toList,hsz,hs];omega
      have hvl:VL F ρ (wr cs off (cellsOf x)) (fun k u=>(v.cells.zipIdx.foldl (fun(cs:Array Value) (p:Value×Nat)=>cs.setIfInBounds (off+p.2) p.1) us)[k]? = some u):=by
       have:=aAy (p:=off) (us:=us.toList) (by rw[c1];exact c3) (by simpa using hs) r2 (VL.mono (fun _ _ _ h=>h) (fun _ _ h=>h) (fun k u hk=>by simpa using hk) hl) r1
       refine VL.mono (fun _ _ _ h=>h) (fun _ _ h=>h) (fun k u hk=> ?_) this
       rw[←Array.getElem?_toList,hf,hsz,←c1]
       exact hk
      obtain⟨us',t1,t2,t3⟩:=pS htb hpl h q2 hsize hvl
      refine⟨us',?_,t2,t3⟩
      simp only[List.map_cons,List.zip_cons_cons,Instr.fill,hp]
      rw[if_neg (by simp[hsz,e3,hs];omega)]
      exact t1
    ·cases h
   ·cases h
  ·cases h
theorem zK(m:Mem Bw w0 ρ φ h w){tb:Tab}(htb:TabOK P tb){o:Oper}{a:Act}{t:TypeId}{ti:TI}(ht:TIok P t ti){fs:List (Nat×TypeId)}(hk:ti.k = .st fs)
  {ps:Array (Nat×Operand)} (ho:o.op = .build t ps) {xs:List AVal} (hx:VVs (Fr (own φ h) Bw w) ρ xs (ps.toList.map fun p=>a.eval p.2)) {ds:List AVal}
  (hd:eA tb fs ((ps.toList.map (·.1)).zip xs) ti.z=some ds):Good P o a w (Post Bw w0 ρ φ h w new (.agg ds) []):=by
 obtain⟨z,hz,hz1,hz2,hz3⟩:=dE ht w
 obtain⟨d,h1,h2⟩:=ht.hu
 rw[hk]at h2
 obtain⟨fa,rfl,h3,h4⟩:=h2
 have hlen:xs.length=ps.toList.length:=by
  have key:∀(xs:List AVal) (vs:List Value),VVs (Fr (own φ h) Bw w) ρ xs vs→xs.length=vs.length:=fun xs=>by
   induction xs with
   | nil=>intro vs hv;cases vs with | nil=>rfl | cons _ _=>exact hv.elim
   | cons x xs ih=>intro vs hv;cases vs with | nil=>exact hv.elim | cons v vs=>simp[ih vs hv.2]
  rw[key _ _ hx,List.length_map]
 have hsz:∀f∈fa.toList,(do pure (f.offset,←sizeOf f.type):Sem (Nat×Nat)).run P w = .ok (f.offset,((P.info? f.type).map (·.size)).getD 0) w:=fun f hf=>by
  obtain⟨i,hi,_⟩:=h4 f hf
  simp[sizeOf,typeInfo,hi]
 have hmap:=R1 (P:=P) (fun f:Field=>do pure (f.offset,←sizeOf f.type)) (fun f=>(f.offset,((P.info? f.type).map (·.size)).getD 0)) w fa.toList hsz
 have hfill:=pS (ρ:=ρ) htb (F:=Fr (own φ h) Bw w) (fs:=fs) (pl:=fun i=>(fa.toList.map (fun f=>(f.offset,((P.info? f.type).map (·.size)).getD 0))).toArray[i]?) (fun i off ft hf=>by
  rw[←h3,List.getElem?_map]at hf
  cases hq:fa.toList[i]? with
  | none=>rw[hq]at hf;cases hf
  | some fd =>
   rw[hq]at hf
   simp only[Option.map_some,Option.some.injEq,Prod.mk.injEq]at hf
   obtain⟨i',hi',_⟩:=h4 fd (List.mem_of_getElem? hq)
   refine⟨i',by rw[←hf.2];exact hi',?_⟩
   simp only[List.getElem?_toArray,List.getElem?_map,hq,Option.map_some,hi',Option.getD_some,hf.1]) (ps:=(ps.toList.map (·.1)).zip xs) (vs:=ps.toList.map fun p=>a.eval p.2) (us:=z.cells) hd
  (by rw[List.map_snd_zip (by simp[hlen])];exact hx) (by rw[←hz1];simp) (by rw[←hz1];have:=jB (F:=Fr (own φ h) Bw w) (ρ:=ρ) z.cells.toList;simpa using this)
 obtain⟨us',q1,q2,q3⟩:=hfill
 rw[List.map_fst_zip (by simp[hlen])]at q1
 have hzip:(ps.toList.map (·.1)).zip (ps.toList.map fun p=>a.eval p.2)=(ps.map fun p=>(p.1,a.eval p.2)).toList:=by
  simp[List.zip_map']
 rw[hzip]at q1
 refine Good.of_run (v:= .agg us') (w':=w) ?_ (Post.pure m ?_)
 ·simp only[execOp,ho,Instr.build,Sem.run_bind,hz,Result.andThen_ok,run_underlying h1,Array.mapM_eq_mapM_toList,Sem.run_map,hmap,q1]
  rfl
 ·simp only[V]
  exact⟨us',rfl,q2,q3⟩
theorem vK(m:Mem Bw w0 ρ φ h w){tb:Tab}(htb:TabOK P tb){o:Oper}{a:Act}{t e:TypeId}{ti te:TI}{n:Nat}(ht:TIok P t ti)(hk:ti.k = .ar n e)(hte:TIok P e te)
  {ps:Array (Nat×Operand)} (ho:o.op = .build t ps) {xs:List AVal} (hx:VVs (Fr (own φ h) Bw w) ρ xs (ps.toList.map fun p=>a.eval p.2)) {ds:List AVal}
  (hd:eA tb ((List.range n).map fun i=>(i*te.size,e)) ((ps.toList.map (·.1)).zip xs) ti.z=some ds):Good P o a w (Post Bw w0 ρ φ h w new (.agg ds) []):=by
 obtain⟨z,hz,hz1,hz2,hz3⟩:=dE ht w
 obtain⟨d,h1,h2⟩:=ht.hu
 rw[hk]at h2
 simp only[UK]at h2
 subst h2
 obtain⟨i,_,hi,_,hisz,_⟩:=hte.hi
 have hlen:xs.length=ps.toList.length:=by
  have key:∀(xs:List AVal) (vs:List Value),VVs (Fr (own φ h) Bw w) ρ xs vs→xs.length=vs.length:=fun xs=>by
   induction xs with
   | nil=>intro vs hv;cases vs with | nil=>rfl | cons _ _=>exact hv.elim
   | cons x xs ih=>intro vs hv;cases vs with | nil=>exact hv.elim | cons v vs=>simp[ih vs hv.2]
  rw[key _ _ hx,List.length_map]
 have hs:(sizeOf e).run P w = .ok te.size w:=by simp[sizeOf,typeInfo,hi,hisz]
 have hfill:=pS (ρ:=ρ) htb (F:=Fr (own φ h) Bw w) (fs:=(List.range n).map fun i=>(i*te.size,e)) (pl:=fun i=>some (i*te.size,te.size)) (fun j off ft hf=>by
  rw[List.getElem?_map]at hf
  cases hq:(List.range n)[j]? with
  | none=>rw[hq]at hf;cases hf
  | some k =>
   rw[hq]at hf
   simp only[Option.map_some,Option.some.injEq,Prod.mk.injEq]at hf
   obtain⟨hq1,hq2⟩:=List.getElem?_eq_some_iff.1 hq
   simp at hq2
   refine⟨i,by rw[←hf.2];exact hi,?_⟩
   rw[←hf.1,←hq2,hisz]) (ps:=(ps.toList.map (·.1)).zip xs) (vs:=ps.toList.map fun p=>a.eval p.2) (us:=z.cells) hd
  (by rw[List.map_snd_zip (by simp[hlen])];exact hx) (by rw[←hz1];simp) (by rw[←hz1];have:=jB (F:=Fr (own φ h) Bw w) (ρ:=ρ) z.cells.toList;simpa using this)
 obtain⟨us',q1,q2,q3⟩:=hfill
 rw[List.map_fst_zip (by simp[hlen])]at q1
 have hzip:(ps.toList.map (·.1)).zip (ps.toList.map fun p=>a.eval p.2)=(ps.map fun p=>(p.1,a.eval p.2)).toList:=by
  simp[List.zip_map']
 rw[hzip]at q1
 refine Good.of_run (v:= .agg us') (w':=w) ?_ (Post.pure m ?_)
 ·simp only[execOp,ho,Instr.build,Sem.run_bind,hz,Result.andThen_ok,run_underlying h1,hs,q1]
  rfl
 ·simp only[V]
  exact⟨us',rfl,q2,q3⟩
def lenOf(h:Nat→Option Obj):AVal→Option Int
 | .p _ (.slice _) xs=>some xs.length
 | .p _ .str s=>some s.length
 | .nils=>some 0
 | .sl id=>match h id with
  | some (.arr _ _ xs)=>some xs.length
  | some (.fz _ xs)=>some xs.length
  | some (.mat _ _ _ xss _)=>some xss.length
  | some (.bytes _ xs)=>some xs.length
  | _=>none
 | _=>none
theorem S6(m:Mem Bw w0 ρ φ h w){o:Oper}{a:Act}{t:TypeId}{ti:TI}(ht:TIok P t ti)(hk:(∃e,ti.k = .sl e)∨ti.k = .str){xo:Operand}{x:AVal}(hx:V (Fr (own φ h) Bw w) ρ x (a.eval xo))
  (ho:o.op = .call { callee:= .builtin .len,args:= #[xo],argTypes:= #[t] }) {n:Int} (hl:lenOf h x=some n) (hs:ti.k = .str↔∃β s,x = .p β .str s):Good P o a w (Post Bw w0 ρ φ h w new (.p false (.int .i64) n) []):=by
 obtain⟨d,h1,h2⟩:=ht.hu
 have key:∀ad len cap,a.eval xo = .slice ad len cap→(len:Int)=n→ti.k ≠ .str→Good P o a w (Post Bw w0 ρ φ h w new (.p false (.int .i64) n) []):=fun ad len cap he hn hne=>by
  rcases hk with⟨e,hk⟩ | hk
  ·rw[hk]at h2
   simp only[UK]at h2
   subst h2
   refine Good.of_run (v:= .int .i64 n) (w':=w) ?_ (Post.pure m (dO _ _ _))
   simp only[execOp,ho,resolve,invoke,builtin,Sem.run_bind,Sem.run_pure,Result.andThen_ok,List.map_toArray,List.map_cons,List.map_nil,he]
   simp[Builtin.len_,run_underlying h1,goInt,hn]
  ·exact absurd hk hne
 unfold lenOf at hl
 split at hl
 ·cases hl
  simp only[V,Vcells]at hx
  obtain⟨_,ad,len,cap,e,⟨hl,_⟩,_⟩:=hx
  refine key ad len cap e.symm (by rw[hl]) (fun e=> ?_)
  obtain⟨_,_,e⟩:=hs.1 e
  cases e
 ·rename_i s
  cases hl
  have hstr:=hs.2 ⟨_,_,rfl⟩
  rw[hstr]at h2
  simp only[UK]at h2
  subst h2
  refine Good.of_run (v:= .int .i64 s.length) (w':=w) ?_ (Post.pure m (dO _ _ _))
  simp only[execOp,ho,resolve,invoke,builtin,Sem.run_bind,Sem.run_pure,Result.andThen_ok,List.map_toArray,List.map_cons,List.map_nil,rO hx]
  have hsz:(⟨s.toArray⟩:ByteArray).size=s.length:=rfl
  simp[Builtin.len_,run_underlying h1,goInt,hsz]
 ·cases hl
  simp only[V]at hx
  refine key none 0 0 hx rfl (fun e=> ?_)
  obtain⟨_,_,e⟩:=hs.1 e
  cases e
 ·rename_i id
  simp only[V]at hx
  obtain⟨hρ,aa,nn,cc,he⟩:=hx
  have hne:ti.k ≠ .str:=fun e=>by
   obtain⟨_,_,e⟩:=hs.1 e
   cases e
  split at hl
  ·rename_i te A xs hi
   cases hl
   obtain⟨u,q1,hsa,_,cells,r1,_⟩:=m.ob id _ hi
   rw[hρ]at q1
   cases q1
   rcases r1.2 with⟨e,hn⟩ | ⟨g,cap,cur,e,_⟩
   ·exact key none 0 0 e (by rw[hn]) hne
   ·exact key _ _ _ e rfl hne
  ·rename_i A xs hi
   cases hl
   obtain⟨u,q1,q2⟩:=m.ob id _ hi
   rw[hρ]at q1
   cases q1
   simp only[OR,V,Vcells]at q2
   obtain⟨_,ad,len,cap,e,⟨hl,_⟩,_⟩:=q2
   exact key ad len cap e.symm (by rw[hl]) hne
  ·rename_i te e2 A xss ho' hi
   cases hl
   obtain⟨u,q1,hsa,_,_,cells,r1,_⟩:=m.ob id _ hi
   rw[hρ]at q1
   cases q1
   rcases r1.2 with⟨e,hn⟩ | ⟨g,cap,cur,e,_⟩
   ·exact key none 0 0 e (by rw[hn]) hne
   ·exact key _ _ _ e rfl hne
  ·rename_i te xs hi
   cases hl
   obtain⟨u,q1,q2⟩:=m.ob id _ hi
   rw[hρ]at q1
   cases q1
   rcases q2 with⟨e,hn⟩ | ⟨g,cap,cur,mk,e,_⟩
   ·exact key none 0 0 e (by rw[hn];rfl) hne
   ·exact key _ _ _ e rfl hne
  ·cases hl
 ·cases hl
theorem G0(m:Mem Bw w0 ρ φ h w){o:Oper}{a:Act}{xo:Operand}{cs:List AVal}(hx:V (Fr (own φ h) Bw w) ρ (.tup cs) (a.eval xo)){i:Nat}(ho:o.op = .extract xo i){y:AVal}(hy:cs[i]? = some y):
  Good P o a w (Post Bw w0 ρ φ h w new y []):=by
 simp only[V]at hx
 obtain⟨vs,e,_,hl⟩:=hx
 obtain⟨u,q1,q2⟩:=VL.get hl hy
 refine Good.of_run (v:=u) (w':=w) ?_ (Post.pure m q2)
 simp[execOp,ho,e,Instr.extract,q1]
theorem zX(m:Mem Bw w0 ρ φ h w){o:Oper}{a:Act}{f:FuncId}{caps:Array Operand}(ho:o.op = .makeFunc (.func f) #[] caps){xs:List AVal}(hx:VVs (Fr (own φ h) Bw w) ρ xs (caps.toList.map a.eval)):
  Good P o a w (Post Bw w0 ρ φ h w new (.fn f xs) []):=by
 refine Good.of_run (v:= .func (.func f) #[] (caps.map a.eval)) (w':=w) (by simp[execOp,ho,Instr.makeFunc]) (Post.pure m ?_)
 simp only[V]
 have key:∀(xs:List AVal) (vs:List Value),VVs (Fr (own φ h) Bw w) ρ xs vs→vs.length=xs.length∧VL (Fr (own φ h) Bw w) ρ xs (fun k u=>vs[k]? = some u):=fun xs=>by
  induction xs with
  | nil=>intro vs hv;cases vs with | nil=>exact⟨rfl,by simp only[VL]⟩ | cons _ _=>exact hv.elim
  | cons x xs ih =>
   intro vs hv
   cases vs with
   | nil=>exact hv.elim
   | cons v vs =>
    obtain⟨q1,q2⟩:=ih vs hv.2
    simp only[VL]
    exact⟨by simp[q1],⟨v,rfl,hv.1⟩,VL.mono (fun _ _ _ h=>h) (fun _ _ h=>h) (fun k u hk=>by simpa using hk) q2⟩
 obtain⟨q1,q2⟩:=key _ _ hx
 exact⟨_,rfl,by simpa using q1,VL.mono (fun _ _ _ h=>h) (fun _ _ h=>h) (fun k u hk=>by simpa using hk) q2⟩
theorem zL(m:Mem Bw w0 ρ φ h w){o:Oper}{a:Act}{t:TypeId}{ti:TI}(ht:TIok P t ti)(hk:ti.k = .str){xo io:Operand}{β β':Bool}{s:List UInt8}(hx:V (Fr (own φ h) Bw w) ρ (.p β .str s) (a.eval xo))
  {k:IntKind} {i:Int} (hi:V (Fr (own φ h) Bw w) ρ (.p β' (.int k) i) (a.eval io)) (ho:o.op = .index t xo io) (h0:0≤i) (h1:i<s.length):Good P o a w (Post Bw w0 ρ φ h w new (.p false (.int .u8) ((s.getD i.toNat 0).toNat:Int)) []):=by
 obtain⟨d,q1,q2⟩:=ht.hu
 rw[hk]at q2
 simp only[UK]at q2
 subst q2
 have hlt:i.toNat<s.length:=by omega
 refine Good.of_run (v:= .int .u8 (s.getD i.toNat 0).toNat) (w':=w) ?_ (Post.pure m (dO _ _ _))
 have e:(⟨s.toArray⟩:ByteArray)[i.toNat]? = some s[i.toNat]:=by
  rw[getElem?_pos _ _ (by simpa [ByteArray.size]using hlt)]
  simp[ByteArray.getElem_eq_getElem_data]
 simp[execOp,ho,Instr.index,asIntOf,cC hi,rO hx,run_underlying q1,h0,e,hlt]
theorem E8(m:Mem Bw w0 ρ φ h w){o:Oper}{a:Act}{xo:Operand}{x:AVal}(hx:V (Fr (own φ h) Bw w) ρ x (a.eval xo))(ho:o.op = .move xo∨o.op = .assign xo):Good P o a w (Post Bw w0 ρ φ h w new x []):=by
 rcases ho with ho | ho <;> exact Good.of_run (v:=a.eval xo) (w':=w) (by simp[execOp,ho]) (Post.pure m hx)
theorem uR(m:Mem Bw w0 ρ φ h w){o:Oper}{a:Act}{co xo yo:Operand}{β b:Bool}{x:AVal}(hc:V (Fr (own φ h) Bw w) ρ (.p β .bool b) (a.eval co))(hx:V (Fr (own φ h) Bw w) ρ x (a.eval (if b then xo else yo)))
  (ho:o.op = .pick co xo yo):Good P o a w (Post Bw w0 ρ φ h w new x []):=by
 refine Good.of_run (v:=a.eval (if b then xo else yo)) (w':=w) ?_ (Post.pure m hx)
 cases b <;> simp[execOp,ho,mX hc,asBool]
end
end Go.Tv
