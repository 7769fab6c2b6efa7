/- Great arrays of numbers in variables; arithmetic of floats. -/
import Derived.Test.YtbedjpdfkmfplaaGreatDoorTvKhm
namespace Go.Tv
open Go Go.RowKit
def isZ(k:IntKind):AVal→Bool
 | .p _ (.int k') x=>decide (k'=k) && (show Int from x) == 0
 | _=>false
theorem aBg{F:Bool→Addr→Value→Prop}{ρ:Nat→Option Value}{k:IntKind}{n:Nat}{xs:Arr n}{cs:List AVal}{v:Value}(h:V F ρ (.lag k n xs cs) v):
  ∃vs:Array Value,v = .agg vs∧vs.size=n+cs.length∧(∀i (h:i<xs.1.length),vs[i]? = some (.int k xs.1[i]))∧VL F ρ cs (fun j u=>vs[n+j]? = some u):=by
 simp only[V]at h
 obtain⟨vs,rfl,h1,h2⟩:=h
 refine⟨_,rfl,by simp[h1,xs.2],fun i hi=> ?_,VL.mono (fun _ _ _ h=>h) (fun _ _ h=>h) (fun j u hj=> ?_) h2⟩
 ·simp only[List.getElem?_toArray]
  rw[List.getElem?_append_left (by simpa using hi)]
  simp[hi]
 ·simp only[List.getElem?_toArray]
  rw[List.getElem?_append_right (by simp[xs.2])]
  simpa [xs.2]using hj
theorem aHH{F:Bool→Addr→Value→Prop}{ρ:Nat→Option Value}{k:IntKind}{n:Nat}{xs:Arr n}{cs:List AVal}{vs:Array Value}(hs:vs.size=n+cs.length)(h1:∀i (h:i<xs.1.length),vs[i]? = some (.int k xs.1[i]))(h2:VL F ρ cs (fun j u=>vs[n+j]? = some u)):
  V F ρ (.lag k n xs cs) (.agg vs):=by
 simp only[V]
 refine⟨vs.toList.drop n,?_,by simp[hs],VL.mono (fun _ _ _ h=>h) (fun _ _ h=>h) (fun j u hj=>by rw[List.getElem?_drop,Array.getElem?_toList];exact hj) h2⟩
 have:vs.toList=xs.1.map (Value.int k)++vs.toList.drop n:=by
  refine List.ext_getElem? fun i=> ?_
  rcases Nat.lt_or_ge i n with hi | hi
  ·have hi':i<xs.1.length:=by rw[xs.2];exact hi
   rw[List.getElem?_append_left (by simpa using hi'),Array.getElem?_toList,h1 i hi']
   simp[hi']
  ·rw[List.getElem?_append_right (by simp[xs.2];exact hi),List.getElem?_drop]
   congr 1
   simp[xs.2]
   omega
 rw[←this]
theorem aFF{F:Bool→Addr→Value→Prop}{ρ:Nat→Option Value}{k:IntKind}{n:Nat}{ds:List AVal}{v:Value}(hz:(ds.take n).all (isZ k)=true)(hn:n≤ds.length)(h:V F ρ (.agg ds) v):V F ρ (.lag k n (eA n) (ds.drop n)) v:=by
 simp only[V]at h
 obtain⟨vs,rfl,hs,hl⟩:=h
 refine aHH (by simp[hs];omega) (fun i hi=> ?_) (VL.mono (fun _ _ _ h=>h) (fun _ _ h=>h) (fun _ _ h=>h) (VL.drop (n:=n) hl))
 have hi':i<n:=by simpa [eA]using hi
 have hd:i<ds.length:=by omega
 obtain⟨u,q1,q2⟩:=VL.get hl (List.getElem?_eq_getElem hd)
 have hzi:isZ k ds[i]=true:=List.all_eq_true.1 hz _ (by
  refine List.mem_of_getElem? (i:=i) ?_
  rw[List.getElem?_take,if_pos hi',List.getElem?_eq_getElem hd])
 rw[q1]
 unfold isZ at hzi
 split at hzi
 ·rename_i β k' x e
  simp only[Bool.and_eq_true,decide_eq_true_eq,beq_iff_eq]at hzi
  obtain⟨rfl,hx⟩:=hzi
  rw[e]at q2
  rw[cN q2]
  have:(x:Int)=0:=hx
  simp only[eA,List.getElem_replicate]
  rw[this]
 ·cases hzi
section
variable{P:Program}{Bw:Nat→Prop}{w0:Base P}{ρ:Nat→Option Value}{φ:Nat→Nat→Prop}{h:Nat→Option Obj}{w:World}{new:Nat}
theorem aDJ(m:Mem Bw w0 ρ φ h w)(hn:ρ new=none){k:IntKind}{n:Nat}{xs:Arr n}{cs:List AVal}{arr:Array Value}{te:TypeId}(hs:arr.size=n+cs.length)(h1:∀i (h:i<xs.1.length),arr[i]? = some (.int k xs.1[i]))
  (hl:VL (Fr (own φ h) Bw w) ρ cs (fun j u=>arr[n+j]? = some u)) (sz:Nat) :
  Post Bw w0 ρ φ h w new (.adr new 0 sz 0) [(new,some (.lmp k n xs cs))] (.pointer (some ⟨w.heap.size,0,none⟩)) (w.alloc (.cells arr te)):=by
 refine dT m none new (.lmp k n xs cs) (.pointer (some ⟨w.heap.size,0,none⟩)) none (World.grownBy_alloc w _ none) (fun k e=>by cases e) (.inl hn) (fun _ k hk=> ?_) (fun F' ρ' hF hρ=> ?_)
  (by rw[bQ];rfl) (fun _=>rfl) (fun F' ρ' hF hρ hnew=> ?_)
 ·simp only[jT,Option.some.injEq]at hk
  exact .inl (by omega)
 ·exact⟨_,te,arr,rfl,rfl,heap_alloc_new w _,hs,h1,VL.mono hF hρ (fun _ _ h=>h) hl⟩
 ·simp only[V]
  exact⟨_,.inl hnew,by simp⟩
theorem aCL(m:Mem Bw w0 ρ φ h w)(hn:ρ new=none){o:Oper}{a:Act}{t:TypeId}{ti:TI}(ht:TIok P t ti)(ho:o.op = .alloc t){k:IntKind}{n:Nat}(hz:(ti.z.take n).all (isZ k)=true)(hnl:n≤ti.z.length):
  Good P o a w (Post Bw w0 ρ φ h w new (.adr new 0 ti.size 0) [(new,some (.lmp k n (eA n) (ti.z.drop n)))]):=by
 obtain⟨z,h1,h2,h3,h4⟩:=eC ht w
 have hv:V (Fr (own φ h) Bw w) ρ (.agg ti.z) (.agg z.cells):=by
  simp only[V]
  refine⟨z.cells,rfl,by rw[←h2];simp,?_⟩
  rw[←h2]
  have:=jU (F:=Fr (own φ h) Bw w) (ρ:=ρ) z.cells.toList
  simpa using this
 obtain⟨vs,e,q2,q3,q4⟩:=aBg (aFF hz hnl hv)
 cases e
 exact Good.of_run (v:= .pointer (some ⟨w.heap.size,0,none⟩)) (w':=w.alloc (.cells z.cells t)) (by simp[execOp,ho,Instr.alloc,h1,newVar,newRow]) (aDJ m hn q2 q3 q4 _)
theorem aGA(m:Mem Bw w0 ρ φ h w)(hn:ρ new=none){o:Oper}{a:Act}{t:TypeId}{xo:Operand}{k:IntKind}{n:Nat}{xs:Arr n}{cs:List AVal}(hx:V (Fr (own φ h) Bw w) ρ (.lag k n xs cs) (a.eval xo))
  (ho:o.op = .box t xo) (sz:Nat):Good P o a w (Post Bw w0 ρ φ h w new (.adr new 0 sz 0) [(new,some (.lmp k n xs cs))]):=by
 obtain⟨vs,e,q2,q3,q4⟩:=aBg hx
 refine Good.of_run (v:= .pointer (some ⟨w.heap.size,0,none⟩)) (w':=w.alloc (.cells (a.eval xo).cells t)) (by simp[execOp,ho,Instr.box,newVar,newRow]) ?_
 rw[e]
 exact aDJ m hn q2 q3 q4 _
theorem aD0(m:Mem Bw w0 ρ φ h w){o:Oper}{a:Act}{t e:TypeId}{ti te:TI}(ht:TIok P t ti){n:Nat}(hk:ti.k = .ar n e)(hte:TIok P e te)(hsz:te.size=1){xo io:Operand}{id i sz off:Nat}(hx:V (Fr (own φ h) Bw w) ρ (.adr id i sz off) (a.eval xo))
  {kk:IntKind} {nn:Nat} {xs:Arr nn} {cs:List AVal} (hb:h id=some (.lmp kk nn xs cs)) {β:Bool} {k:IntKind} {j:Int} (hj:V (Fr (own φ h) Bw w) ρ (.p β (.int k) j) (a.eval io)) (ho:o.op = .indexAddr t xo io) (hc:0≤j∧j<(n:Int)) :
  Good P o a w (Post Bw w0 ρ φ h w new (.ada id (i*sz+off) n j.toNat) []):=by
 obtain⟨d,h1,h2⟩:=ht.hu
 rw[hk]at h2
 simp only[UK]at h2
 subst h2
 obtain⟨u,q1,g',te',cells,rfl,_⟩:=m.ob id _ hb
 simp only[V]at hx
 obtain⟨g,hg,he⟩:=hx
 rw[q1]at hg
 have hgg:g'=g:=by
  rcases hg with hg | ⟨n,c,hg⟩
  ·simpa using hg
  ·cases hg
 subst hgg
 have hj':=cN hj
 refine Good.of_run (v:= .pointer (some ((⟨g',i*sz+off,none⟩:Addr).add (j.toNat*te.size)))) (w':=w) ?_ (Post.pure m ?_)
 ·simp[execOp,ho,Instr.indexAt,asIntOf,hj',he,run_underlying h1,Instr.sureAddr,run_sizeOf hte,hc.1,hc.2]
 ·simp only[V]
  exact⟨g',q1,by rw[dA,hsz,Nat.mul_one],by omega⟩
theorem aFc(m:Mem Bw w0 ρ φ h w){o:Oper}{a:Act}{t:TypeId}{ti:TI}(ht:TIok P t ti){k:IntKind}(hk:ti.k = .int k){xo:Operand}{id n i:Nat}(hx:V (Fr (own φ h) Bw w) ρ (.ada id 0 n i) (a.eval xo))
  (ho:o.op = .load t xo) {xs:Arr n} {cs:List AVal} (hb:h id=some (.lmp k n xs cs)):Good P o a w (Post Bw w0 ρ φ h w new (.p false (.int k) (gB xs i)) []):=by
 obtain⟨u,q1,g',te',cells,rfl,_,r1,r2,r3,r4⟩:=m.ob id _ hb
 simp only[V]at hx
 obtain⟨g,hg,he,hi⟩:=hx
 rw[q1]at hg
 obtain rfl:g'=g:=by simpa using hg
 have hi':i<xs.1.length:=by rw[xs.2];exact hi
 have hc:w.cell? (⟨g',0+i,none⟩:Addr)=some (.int k (gB xs i)):=by
  rw[cell_of_row w g' (0+i) cells te' (0,0) r1,Nat.zero_add,r3 i hi']
  simp[gB,hi']
 refine Good.of_run (v:= .int k (gB xs i)) (w':=w) ?_ (Post.pure m (eQ _ _ _))
 simp only[execOp,ho,Instr.loadAt,he,Instr.sureAddr,Sem.run_bind,Sem.run_pure,Result.andThen_ok]
 unfold loadVar
 rw[Sem.run_bind,qG ht,hk]
 simp only[Result.andThen_ok,TK.agg]
 rw[if_neg (by simp),run_load,hc]
 rfl
theorem aC2(m:Mem Bw w0 ρ φ h w){o:Oper}{a:Act}{t:TypeId}{ti:TI}(ht:TIok P t ti)(hs1:ti.size=1){k:IntKind}{xo yo:Operand}{id n i:Nat}(hx:V (Fr (own φ h) Bw w) ρ (.ada id 0 n i) (a.eval xo))
  {β:Bool} {v:Int} (hy:V (Fr (own φ h) Bw w) ρ (.p β (.int k) v) (a.eval yo)) (ho:o.op = .store t xo yo) {xs:Arr n} {cs:List AVal} (hb:h id=some (.lmp k n xs cs)) :
  Good P o a w (Post Bw w0 ρ φ h w new .unk [(id,some (.lmp k n (z9 xs i v) cs))]):=by
 obtain⟨u,q1,g,te,cells,rfl,hsg,r1,r2,r3,r4⟩:=m.ob id _ hb
 simp only[V]at hx
 obtain⟨g',hg,he,hi⟩:=hx
 rw[q1]at hg
 obtain rfl:g=g':=by simpa using hg
 have hyv:=cN hy
 have hrun:=xJ (P:=P) ht hs1 r1 (v:=a.eval yo) (p:=i) (by omega) (.inl rfl) (by rw[hyv];rfl) (by rw[hyv];rfl)
 have he':a.eval xo = .pointer (some ⟨g,i,none⟩):=by rw[he];simp
 refine Good.of_skip (w':=_) (by simp[execOp,ho,Instr.storeAt,he',Instr.sureAddr,hrun];rfl) ?_
 refine fT m (some id) id (.lmp k n (z9 xs i v) cs) (.pointer (some ⟨g,0,none⟩)) (φ id) (some g) (bL w g _) (fun k e=>⟨id,_,rfl,hb,rfl,by cases e;assumption⟩) (.inr ⟨rfl,q1⟩)
  (fun _ k hk=>Nat.lt_of_lt_of_le (m.lt id _ k hb rfl hk) (bL w g _).size) (fun _ k hk=> .inr ⟨id,_,rfl,hb,rfl,hk⟩) (fun F' ρ' hF hρ=> ?_) (by rw[bE];rfl) (fun e=>by rw[q1]at e;cases e) (fun F' ρ' hF hρ hnew=>by simp only[V])
 refine⟨g,te,_,rfl,hsg,setRow_heap w g cells _ te _ r1,by simpa using r2,fun j hj=> ?_,VL.mono hF hρ (fun j u hj=> ?_) r4⟩
 ·have hj':j<xs.1.length:=by simpa [z9]using hj
  simp only[z9]
  by_cases e:i=j
  ·subst e
   rw[hyv,Array.getElem?_setIfInBounds_self_of_lt (by rw[r2];omega)]
   simp
  ·rw[Array.getElem?_setIfInBounds_ne e,List.getElem_set_ne e]
   exact r3 j hj'
 ·rw[Array.getElem?_setIfInBounds_ne (by omega)]
  exact hj
theorem aBh(m:Mem Bw w0 ρ φ h w){k:IntKind}{n:Nat}{xs:Arr n}{cs:List AVal}{id i sz off:Nat}(hb:h id=some (.lmp k n xs cs)){v:Value}(hx:V (Fr (own φ h) Bw w) ρ (.adr id i sz off) v):
  ∃g,v = .pointer (some ⟨g,i*sz+off,none⟩)∧VL (Fr (own φ h) Bw w) ρ cs (fun j u=>w.cell? ((⟨g,n,none⟩:Addr).add j)=some u)∧VL (Fr (own φ h) Bw w) ρ (xs.1.map (fun i=>AVal.p false (.int k) i)++cs) (fun j u=>w.cell? ((⟨g,0,none⟩:Addr).add j)=some u):=by
 obtain⟨u,q1,g',te',cells,rfl,_,r1,r2,r3,r4⟩:=m.ob id _ hb
 simp only[V]at hx
 obtain⟨g,hg,he⟩:=hx
 rw[q1]at hg
 have hgg:g'=g:=by
  rcases hg with hg | ⟨n,c,hg⟩
  ·simpa using hg
  ·cases hg
 subst hgg
 refine⟨g',he,VL.mono (fun _ _ _ h=>h) (fun _ _ h=>h) (fun j u hj=> ?_) r4,VL.append (VL.mk fun j y hy=> ?_) (VL.mono (fun _ _ _ h=>h) (fun _ _ h=>h) (fun j u hj=> ?_) r4)⟩
 ·rw[dA,cell_of_row w g' (n+j) cells te' (0,0) r1]
  exact hj
 ·rw[List.getElem?_map]at hy
  rcases Nat.lt_or_ge j xs.1.length with hl | hl
  ·rw[List.getElem?_eq_getElem hl]at hy
   cases hy
   exact⟨_,by rw[dA,cell_of_row w g' (0+j) cells te' (0,0) r1,Nat.zero_add];exact r3 j hl,eQ _ _ _⟩
  ·rw[List.getElem?_eq_none hl]at hy
   cases hy
 ·rw[dA,cell_of_row w g' _ cells te' (0,0) r1,List.length_map,Nat.zero_add,xs.2]
  exact hj
theorem aD4(m:Mem Bw w0 ρ φ h w){o:Oper}{a:Act}{t:TypeId}{ti:TI}(ht:TIok P t ti){xo:Operand}{id i sz off:Nat}(hx:V (Fr (own φ h) Bw w) ρ (.adr id i sz off) (a.eval xo))(ho:o.op = .load t xo)
  {k:IntKind} {n:Nat} {xs:Arr n} {cs:List AVal} (hb:h id=some (.lmp k n xs cs)) {q:Nat} (hq:i*sz+off=n+q) {y:AVal} (hy:fN ti cs q=some y):Good P o a w (Post Bw w0 ρ φ h w new y []):=by
 obtain⟨g,e,h1,_⟩:=aBh m hb hx
 obtain⟨v,h3,h4⟩:=hZ (P:=P) ht h1 hy
 rw[dA]at h3
 refine Good.of_run (v:=v) (w':=w) ?_ (Post.pure m h4)
 simp[execOp,ho,Instr.loadAt,e,Instr.sureAddr,hq,h3]
theorem aDR(m:Mem Bw w0 ρ φ h w){o:Oper}{a:Act}{t:TypeId}{ti:TI}(ht:TIok P t ti)(hagg:ti.k.agg=true){xo:Operand}{id i sz off:Nat}(hx:V (Fr (own φ h) Bw w) ρ (.adr id i sz off) (a.eval xo))(ho:o.op = .load t xo)
  {k:IntKind} {n:Nat} {xs:Arr n} {cs:List AVal} (hb:h id=some (.lmp k n xs cs)) (hq:i*sz+off=0) (hs:ti.size=n+cs.length):Good P o a w (Post Bw w0 ρ φ h w new (.lag k n xs cs) []):=by
 obtain⟨g,e,_,h1⟩:=aBh m hb hx
 have hlen:(xs.1.map (fun i=>AVal.p false (.int k) i)++cs).length=ti.size:=by simp[xs.2,hs]
 obtain⟨v,h3,h4⟩:=hZ (P:=P) ht h1 (off:=0) (x:= .agg (xs.1.map (fun i=>AVal.p false (.int k) i)++cs)) (by
  unfold fN
  rw[hagg,if_pos rfl,if_pos (by rw[hlen];omega),List.drop_zero,List.take_of_length_le (by rw[hlen];exact Nat.le_refl _)])
 have hv:V (Fr (own φ h) Bw w) ρ (.lag k n xs cs) v:=by
  simp only[V]at h4
  obtain⟨vs,rfl,s1,s2⟩:=h4
  refine aHH (by rw[s1,hlen,hs]) (fun j hj=> ?_) (VL.mono (fun _ _ _ h=>h) (fun _ _ h=>h) (fun j u hj=> ?_) (VL.drop (n:=n) s2 |> fun s3=>by rwa [List.drop_append_of_le_length (by simp[xs.2]),List.drop_of_length_le (by simp[xs.2]),List.nil_append]at s3))
  ·obtain⟨u,t1,t2⟩:=VL.get s2 (k:=j) (x:= .p false (.int k) xs.1[j]) (by rw[List.getElem?_append_left (by simpa using hj),List.getElem?_map,List.getElem?_eq_getElem hj];rfl)
   rw[cN t2]at t1
   exact t1
  ·exact hj
 have e0:(⟨g,0,none⟩:Addr).add 0=⟨g,0,none⟩:=by simp[Addr.add]
 rw[e0]at h3
 refine Good.of_run (v:=v) (w':=w) ?_ (Post.pure m hv)
 simp[execOp,ho,Instr.loadAt,e,Instr.sureAddr,hq,h3]
theorem aBI(m:Mem Bw w0 ρ φ h w){o:Oper}{a:Act}{t:TypeId}{ti:TI}(ht:TIok P t ti){xo yo:Operand}{id i sz off:Nat}(hx:V (Fr (own φ h) Bw w) ρ (.adr id i sz off) (a.eval xo))
  {y:AVal} (hy:V (Fr (own φ h) Bw w) ρ y (a.eval yo)) (hc:(cellsOf y).all AVal.cell=true) (ho:o.op = .store t xo yo) {k:IntKind} {n:Nat} {xs:Arr n} {cs:List AVal} (hi:h id=some (.lmp k n xs cs))
  (hlen:(cellsOf y).length=ti.size) {q:Nat} (hq:i*sz+off=n+q) (hfit:q+ti.size≤cs.length) :
  Good P o a w (Post Bw w0 ρ φ h w new .unk [(id,some (.lmp k n xs (wr cs q (cellsOf y))))]):=by
 obtain⟨u,q1,g,te,cells,rfl,hsg,r1,r2,r3,r4⟩:=m.ob id _ hi
 simp only[V]at hx
 obtain⟨g',hg,he⟩:=hx
 rw[q1]at hg
 have hgg:g=g':=by
  rcases hg with hg | ⟨n,c,hg⟩
  ·simpa using hg
  ·cases hg
 subst hgg
 obtain⟨h1,h2,h3⟩:=gW hc hy
 have hrun:=jX (P:=P) ht r1 (v:=a.eval yo) (p:=n+q) (by rw[h2,hlen]) (by rw[r2];omega) h3
 rw[hq]at he
 refine Good.of_skip (w':=_) (by simp[execOp,ho,Instr.storeAt,he,Instr.sureAddr,hrun];rfl) ?_
 refine fT m (some id) id (.lmp k n xs (wr cs q (cellsOf y))) (.pointer (some ⟨g,0,none⟩)) (φ id) (some g) (bL w g _) (fun k e=>⟨id,_,rfl,hi,rfl,by cases e;assumption⟩) (.inr ⟨rfl,q1⟩)
  (fun _ k hk=>Nat.lt_of_lt_of_le (m.lt id _ k hi rfl hk) (bL w g _).size) (fun _ k hk=> .inr ⟨id,_,rfl,hi,rfl,hk⟩) (fun F' ρ' hF hρ=> ?_) (by rw[bE];rfl) (fun e=>by rw[q1]at e;cases e) (fun F' ρ' hF hρ hnew=>by simp only[V])
 refine⟨g,te,_,rfl,hsg,setRow_heap w g cells _ te _ r1,?_,fun j hj=> ?_,?_⟩
 ·simp only[List.size_toArray,List.length_append,List.length_take,List.length_drop,Array.length_toList,h2,hlen,wr]
  omega
 ·have hj':j<n:=by rw[←xs.2];exact hj
  simp only[List.getElem?_toArray]
  rw[List.getElem?_append_left (by simp;omega),List.getElem?_take,if_pos (by omega),Array.getElem?_toList]
  exact r3 j hj
 ·have h4:VL F' ρ' cs (fun k u=>(cells.toList.drop n)[k]? = some u):=VL.mono hF hρ (fun k u hk=>by rw[List.getElem?_drop,Array.getElem?_toList];exact hk) r4
  have:=aFj (p:=q) (by rw[hlen];exact hfit) (by simp[r2]) h2 h4 (VL.mono hF hρ (fun _ _ h=>h) h1)
  rw[hlen]at this
  refine VL.mono (fun _ _ _ h=>h) (fun _ _ h=>h) (fun k u hk=> ?_) this
  rw[←hk]
  simp only[List.getElem?_toArray]
  have e:cells.toList.take (n+q)++((a.eval yo).cells.toList++cells.toList.drop (n+q+ti.size))=cells.toList.take n++((cells.toList.drop n).take q++(a.eval yo).cells.toList++(cells.toList.drop n).drop (q+ti.size)):=by
   rw[List.take_add,List.drop_drop,Nat.add_assoc]
   simp only[List.append_assoc]
  rw[e,List.getElem?_append_right (by simp;omega)]
  congr 1
  simp
  omega
/-! ### Floats -/
theorem yT(m:Mem Bw w0 ρ φ h w){o:Oper}{a:Act}{op:BinOp}(hop:op = .add∨op = .sub∨op = .mul∨op = .quo){t t':TypeId}{xo yo:Operand}(ho:o.op = .binOp op t xo yo t'){β β':Bool}{x y:Option Nat}
  (hx:V (Fr (own φ h) Bw w) ρ (.p β .flt x) (a.eval xo)) (hy:V (Fr (own φ h) Bw w) ρ (.p β' .flt y) (a.eval yo)):Good P o a w (Post Bw w0 ρ φ h w new (.p false .flt (cC op x y)) []):=by
 obtain⟨p,e1,rfl⟩:=aAM hx
 obtain⟨q,e2,rfl⟩:=aAM hy
 obtain⟨n,w',h1,h2,h3⟩:=aFa (P:=P) (w:=w) hop p q
 have hrun:(execOp a.eval o).run P w = .ok (.value (.float .f64 n)) w':=by
  simp only[execOp,ho,e1,e2]
  rw[Sem.run_bind,Sem.run_bind,b7 (by intro cs e;cases e) (by intro e;cases e)]
  have hb:(binOp op t (.float .f64 p) (.float .f64 q)).run P w = .ok (.float .f64 n) w':=by
   rcases hop with rfl | rfl | rfl | rfl <;> (simp only[binOp,ne_eq,not_true_eq_false,if_false];exact h1)
  simp only[Result.andThen_ok,hb]
  rfl
 rw[←h3]
 rcases h2 with rfl | rfl
 ·exact Good.of_run hrun (Post.pure m (aBW _ _))
 ·obtain⟨m',hF⟩:=m.drew
  exact Good.of_run hrun (Post.after (u1:=[]) rfl hF (Post.pure m' (aBW _ _)))
theorem aCQ(m:Mem Bw w0 ρ φ h w){o:Oper}{a:Act}{st dt:TypeId}{si di:TI}(hs:TIok P st si)(hd:TIok P dt di){k:IntKind}(hk:di.k = .int k){xo:Operand}(ho:o.op = .convert st dt xo){β:Bool}{x:Option Nat}
  (hx:V (Fr (own φ h) Bw w) ρ (.p β .flt x) (a.eval xo)) (hc:(sZ x).isSome=true∧k.min≤(sZ x).getD 0∧(sZ x).getD 0≤k.max):Good P o a w (Post Bw w0 ρ φ h w new (.p false (.int k) ((sZ x).getD 0)) []):=by
 obtain⟨p,e1,rfl⟩:=aAM hx
 obtain⟨ds,h1,h2⟩:=hs.hu
 obtain⟨dd,h3,h4⟩:=hd.hu
 rw[hk]at h4
 simp only[UK]at h4
 subst h4
 cases hp:eK p with
 | none=>rw[hp]at hc;exact absurd hc.1 (by simp[sZ])
 | some p' =>
  obtain rfl:=lR hp
  rw[hp]at hc
  cases hi:(FloatKind.f64.decode p').toInt .zero with
  | none=>exact absurd hc.1 (by simp[sZ,hi])
  | some n =>
   have hf:sZ (some p')=some n:=by simp[sZ,hi]
   rw[hf]at hc ⊢
   simp only[Option.getD_some]at hc ⊢
   refine Good.of_run (v:= .int k n) (w':=w) ?_ (Post.pure m (eQ _ _ _))
   simp only[execOp,ho,e1,convert,Sem.run_bind,run_underlying h1,run_underlying h3,Result.andThen_ok]
   cases ds <;> simp[Conv.floatToInt,hi,hc.2]
end
end Go.Tv
