/- Arrays in variables: places known at run time. -/
import Derived.Test.YtbedjpdfkmfplaaGreatDoorTvKdm
namespace Go.Tv
open Go Go.RowKit
def A9(k:IntKind):List AVal→Option (List Int)
 | []=>some []
 | .p _ (.int k') x::r=>if k'=k then(match A9 k r with
  | some l=>some ((show Int from x)::l)
  | none=>none)else none
 | _::_=>none
theorem wB{k:IntKind}{F:Bool→Addr→Value→Prop}{ρ:Nat→Option Value}:∀ {cs:List AVal} {l:List Int} {g:Nat→Value→Prop},A9 k cs=some l→VL F ρ cs g→l.length=cs.length∧∀i,i<cs.length→g i (.int k (l.getD i 0))
 | [],l,g,h,_=>by cases h;exact⟨rfl,fun i hi=>absurd hi (by simp)⟩
 | c::cs,l,g,h,hv=>by
  unfold A9 at h
  split at h
  ·rename_i e;cases e
  ·rename_i β k' x r e
   cases e
   split at h
   ·rename_i hk
    subst hk
    split at h
    ·rename_i l' hl
     cases h
     simp only[VL]at hv
     obtain⟨⟨u,u1,u2⟩,hv2⟩:=hv
     obtain⟨h1,h2⟩:=wB hl hv2
     refine⟨by simp[h1],fun i hi=> ?_⟩
     cases i with
     | zero=>rw[cN u2]at u1;exact u1
     | succ i=>exact h2 i (by simpa using hi)
    ·cases h
   ·cases h
  ·cases h
section
variable{P:Program}{Bw:Nat→Prop}{w0:Base P}{ρ:Nat→Option Value}{φ:Nat→Nat→Prop}{h:Nat→Option Obj}{w:World}{new:Nat}
theorem aAg(m:Mem Bw w0 ρ φ h w){o:Oper}{a:Act}{t e:TypeId}{ti te:TI}(ht:TIok P t ti){n:Nat}(hk:ti.k = .ar n e)(hte:TIok P e te)(hsz:te.size=1){xo io:Operand}{id i sz off:Nat}(hx:V (Fr (own φ h) Bw w) ρ (.adr id i sz off) (a.eval xo))
  {cs:List AVal} (hb:h id=some (.box cs)) {β:Bool} {k:IntKind} {j:Int} (hj:V (Fr (own φ h) Bw w) ρ (.p β (.int k) j) (a.eval io)) (ho:o.op = .indexAddr t xo io) (hc:0≤j∧j<(n:Int)) :
  Good P o a w (Post Bw w0 ρ φ h w new (.ada id (i*sz+off) n j.toNat) []):=by
 obtain⟨d,h1,h2⟩:=ht.hu
 rw[hk]at h2
 simp only[UK]at h2
 subst h2
 obtain⟨u,q1,g',te',cells,rfl,_⟩:=m.ob id _ hb
 simp only[V]at hx
 obtain⟨g,hg,he⟩:=hx
 rw[q1]at hg
 have hgg:g'=g:=by
  rcases hg with hg | ⟨n,c,hg⟩
  ·simpa using hg
  ·cases hg
 subst hgg
 have hj':=cN hj
 refine Good.of_run (v:= .pointer (some ((⟨g',i*sz+off,none⟩:Addr).add (j.toNat*te.size)))) (w':=w) ?_ (Post.pure m ?_)
 ·simp[execOp,ho,Instr.indexAt,asIntOf,hj',he,run_underlying h1,Instr.sureAddr,run_sizeOf hte,hc.1,hc.2]
 ·simp only[V]
  exact⟨g',q1,by rw[dA,hsz,Nat.mul_one],by omega⟩
theorem Q9(m:Mem Bw w0 ρ φ h w){o:Oper}{a:Act}{t e:TypeId}{ti te:TI}(ht:TIok P t ti){n:Nat}(hk:ti.k = .ar n e)(hte:TIok P e te)(hsz:0<te.size){xo io:Operand}{id i sz off:Nat}(hx:V (Fr (own φ h) Bw w) ρ (.adr id i sz off) (a.eval xo))
  {cs:List AVal} (hb:h id=some (.box cs)) {β:Bool} {k:IntKind} {j:Int} (hj:V (Fr (own φ h) Bw w) ρ (.p β (.int k) j) (a.eval io)) (ho:o.op = .indexAddr t xo io) (hc:0≤j∧j<(n:Int)) :
  Good P o a w (Post Bw w0 ρ φ h w new (.ada id (i*sz+off) (n*te.size) (j.toNat*te.size)) []):=by
 obtain⟨d,h1,h2⟩:=ht.hu
 rw[hk]at h2
 simp only[UK]at h2
 subst h2
 obtain⟨u,q1,g',te',cells,rfl,_⟩:=m.ob id _ hb
 simp only[V]at hx
 obtain⟨g,hg,he⟩:=hx
 rw[q1]at hg
 have hgg:g'=g:=by
  rcases hg with hg | ⟨n,c,hg⟩
  ·simpa using hg
  ·cases hg
 subst hgg
 have hj':=cN hj
 refine Good.of_run (v:= .pointer (some ((⟨g',i*sz+off,none⟩:Addr).add (j.toNat*te.size)))) (w':=w) ?_ (Post.pure m ?_)
 ·simp[execOp,ho,Instr.indexAt,asIntOf,hj',he,run_underlying h1,Instr.sureAddr,run_sizeOf hte,hc.1,hc.2]
 ·simp only[V]
  exact⟨g',q1,by rw[dA],Nat.mul_lt_mul_of_pos_right (by omega) hsz⟩
theorem O9(m:Mem Bw w0 ρ φ h w){o:Oper}{a:Act}{t e:TypeId}{ti te:TI}(ht:TIok P t ti){n:Nat}(hk:ti.k = .ar n e)(hte:TIok P e te)(hsz:te.size=1){xo io:Operand}{id b N p:Nat}(hx:V (Fr (own φ h) Bw w) ρ (.ada id b N p) (a.eval xo))
  {β:Bool} {k:IntKind} {j:Int} (hj:V (Fr (own φ h) Bw w) ρ (.p β (.int k) j) (a.eval io)) (ho:o.op = .indexAddr t xo io) (hc:(0≤j∧j<(n:Int))∧p+j.toNat<N) :
  Good P o a w (Post Bw w0 ρ φ h w new (.ada id b N (p+j.toNat)) []):=by
 obtain⟨d,h1,h2⟩:=ht.hu
 rw[hk]at h2
 simp only[UK]at h2
 subst h2
 simp only[V]at hx
 obtain⟨g,q1,he,_⟩:=hx
 have hj':=cN hj
 refine Good.of_run (v:= .pointer (some ((⟨g,b+p,none⟩:Addr).add (j.toNat*te.size)))) (w':=w) ?_ (Post.pure m ?_)
 ·simp[execOp,ho,Instr.indexAt,asIntOf,hj',he,run_underlying h1,Instr.sureAddr,run_sizeOf hte,hc.1.1,hc.1.2]
 ·simp only[V]
  exact⟨g,q1,by rw[dA,hsz,Nat.mul_one,Nat.add_assoc],hc.2⟩
theorem aBF(m:Mem Bw w0 ρ φ h w){o:Oper}{a:Act}{t:TypeId}{ti:TI}(ht:TIok P t ti){k:IntKind}(hk:ti.k = .int k){xo:Operand}{id b n i:Nat}(hx:V (Fr (own φ h) Bw w) ρ (.ada id b n i) (a.eval xo))
  (ho:o.op = .load t xo) {cs:List AVal} (hb:h id=some (.box cs)) {l:List Int} (hl:A9 k ((cs.drop b).take n)=some l) (hn:b+n≤cs.length) :
  Good P o a w (Post Bw w0 ρ φ h w new (.p false (.int k) (l.getD i 0)) []):=by
 obtain⟨u,q1,g',te',cells,rfl,_,r1,r2,r3⟩:=m.ob id _ hb
 simp only[V]at hx
 obtain⟨g,hg,he,hi⟩:=hx
 rw[q1]at hg
 obtain rfl:g'=g:=by simpa using hg
 have hv:=VL.take (n:=n) (VL.drop (n:=b) r3)
 obtain⟨h1,h2⟩:=wB hl hv
 have hlen:((cs.drop b).take n).length=n:=by rw[List.length_take,List.length_drop];omega
 have hcell:=h2 i (by omega)
 refine Good.of_run (v:= .int k (l.getD i 0)) (w':=w) ?_ (Post.pure m (eQ _ _ _))
 have hc:w.cell? (⟨g',b+i,none⟩:Addr)=some (.int k (l.getD i 0)):=by
  have:=cell_of_row w g' (b+i) cells te' (0,0) r1
  rw[this];exact hcell
 simp only[execOp,ho,Instr.loadAt,he,Instr.sureAddr,Sem.run_bind,Sem.run_pure,Result.andThen_ok]
 unfold loadVar
 rw[Sem.run_bind,qG ht,hk]
 simp only[Result.andThen_ok,TK.agg]
 rw[if_neg (by simp),run_load,hc]
 rfl
def T1(k:IntKind)(i:Nat)(v:Int):Nat→List Int→List AVal
 | _,[]=>[]
 | j,x::r=> .p false (.int k) (if i=j then v else x:Int)::T1 k i v (j+1) r
theorem uH{k:IntKind}{i:Nat}{v:Int}:∀ {j:Nat} {l:List Int},(T1 k i v j l).length=l.length
 | _,[]=>rfl
 | j,x::r=>by simp[T1,uH (j:=j+1) (l:=r)]
theorem aC5{k:IntKind}{i:Nat}{v:Int}:∀ {l:List Int} {j q:Nat},q<l.length→(T1 k i v j l)[q]? = some (.p false (.int k) (if i=j+q then v else l.getD q 0:Int))
 | [],_,q,h=>absurd h (by simp)
 | x::r,j,0,_=>by simp[T1]
 | x::r,j,q+1,h=>by
  have:=aC5 (k:=k) (i:=i) (v:=v) (l:=r) (j:=j+1) (q:=q) (by simpa using h)
  simp only[T1,List.getElem?_cons_succ,this,List.getD_cons_succ]
  rw[show j+1+q=j+(q+1) by omega]
theorem aAl(m:Mem Bw w0 ρ φ h w){o:Oper}{a:Act}{t:TypeId}{ti:TI}(ht:TIok P t ti)(hsz:ti.size=1){k:IntKind}{xo yo:Operand}{id b n i:Nat}(hx:V (Fr (own φ h) Bw w) ρ (.ada id b n i) (a.eval xo))
  {β:Bool} {v:Int} (hy:V (Fr (own φ h) Bw w) ρ (.p β (.int k) v) (a.eval yo)) (ho:o.op = .store t xo yo) {cs:List AVal} (hb:h id=some (.box cs)) {l:List Int} (hl:A9 k ((cs.drop b).take n)=some l) (hn:b+n≤cs.length) :
  Good P o a w (Post Bw w0 ρ φ h w new .unk [(id,some (.box (cs.take b++T1 k i v 0 l++cs.drop (b+n))))]):=by
 obtain⟨u,q1,g',te',cells,rfl,sg,r1,r2,r3⟩:=m.ob id _ hb
 simp only[V]at hx
 obtain⟨g,hg,he,hi⟩:=hx
 rw[q1]at hg
 obtain rfl:g'=g:=by simpa using hg
 have hy':=cN hy
 have hlen:((cs.drop b).take n).length=n:=by rw[List.length_take,List.length_drop];omega
 obtain⟨h1,h2⟩:=wB hl (VL.take (n:=n) (VL.drop (n:=b) r3))
 have hone:(Value.int k v).cells = #[Value.int k v]:=rfl
 have hrun:=jX (P:=P) ht r1 (v:= .int k v) (p:=b+i) (by rw[hone,hsz];rfl) (by rw[r2,hsz];omega) (fun c hc=>by
  rw[hone]at hc
  simp only[List.mem_singleton]at hc
  rw[hc];rfl)
 have hsplice:(cells.toList.take (b+i)++(Value.int k v).cells.toList++cells.toList.drop (b+i+ti.size))=cells.toList.set (b+i) (.int k v):=by
  rw[hone,hsz,List.set_eq_take_append_cons_drop,if_pos (by simp only[Array.length_toList];omega)]
  simp
 rw[hsplice]at hrun
 refine Good.of_skip (w':=_) (by simp[execOp,ho,Instr.storeAt,he,Instr.sureAddr,hy',hrun];rfl) ?_
 refine fT m (some id) id (.box (cs.take b++T1 k i v 0 l++cs.drop (b+n))) (.pointer (some ⟨g',0,none⟩)) (φ id) (some g') (bL w g' _) (fun k e=>⟨id,_,rfl,hb,rfl,by cases e;exact sg⟩) (.inr ⟨rfl,q1⟩)
  (fun _ k hk=>Nat.lt_of_lt_of_le (m.lt id _ k hb rfl hk) (bL w g' _).size) (fun _ k hk=> .inr ⟨id,_,rfl,hb,rfl,hk⟩) (fun F' ρ' hF hρ=> ?_) (by rw[bE];rfl) (fun e=>by rw[q1]at e;cases e) (fun F' ρ' hF hρ hnew=>by simp only[V])
 have hcl:(cs.take b++T1 k i v 0 l++cs.drop (b+n)).length=cs.length:=by
  simp only[List.length_append,List.length_take,List.length_drop,uH,h1,hlen];omega
 refine⟨g',te',_,rfl,sg,setRow_heap w g' cells _ te' _ r1,by simp only[List.size_toArray,List.length_set,Array.length_toList];rw[r2,hcl],VL.mk fun q x hq=> ?_⟩
 have hb1:(cs.take b).length=b:=by rw[List.length_take];omega
 have hb2:(cs.take b++T1 k i v 0 l).length=b+n:=by rw[List.length_append,uH,hb1,h1,hlen]
 have hget:∀q,q≠b+i→∀u,cells[q]? = some u→((cells.toList.set (b+i) (.int k v)).toArray)[q]? = some u:=fun q hq u hu=>by
  simp only[List.getElem?_toArray]
  rw[List.getElem?_set_ne (Ne.symm hq)]
  simpa using hu
 rcases Nat.lt_or_ge q (b+n)with c1 | c1
 ·rw[List.getElem?_append_left (by omega)]at hq
  rcases Nat.lt_or_ge q b with c2 | c2
  ·rw[List.getElem?_append_left (by omega),List.getElem?_take,if_pos c2]at hq
   obtain⟨u,u1,u2⟩:=VL.get r3 hq
   exact⟨u,hget q (by omega) u u1,V.mono hF hρ u2⟩
  ·rw[List.getElem?_append_right (by omega),hb1,aC5 (by omega)]at hq
   cases hq
   by_cases e:q=b+i
   ·refine⟨.int k v,?_,?_⟩
    ·simp only[List.getElem?_toArray]
     rw[e,List.getElem?_set_self (by simp only[Array.length_toList];omega)]
    ·rw[if_pos (by omega)];exact eQ _ _ _
   ·refine⟨.int k (l.getD (q - b) 0),hget q e _ ?_,?_⟩
    ·have:=h2 (q - b) (by omega)
     rwa [show b+(q - b)=q by omega]at this
    ·rw[if_neg (by omega)];exact eQ _ _ _
 ·rw[List.getElem?_append_right (by omega),hb2,List.getElem?_drop,show b+n+(q - (b+n))=q by omega]at hq
  obtain⟨u,u1,u2⟩:=VL.get r3 hq
  exact⟨u,hget q (by omega) u u1,V.mono hF hρ u2⟩
theorem aAt(m:Mem Bw w0 ρ φ h w){o:Oper}{a:Act}{t e:TypeId}{ti te:TI}(ht:TIok P t ti){n:Nat}(hk:ti.k = .ar n e)(hte:TIok P e te){k:IntKind}(hek:te.k = .int k){xo io:Operand}{cs:List AVal}(hx:V (Fr (own φ h) Bw w) ρ (.agg cs) (a.eval xo))
  {l:List Int} (hl:A9 k cs=some l) (hn:cs.length=n) {β:Bool} {k':IntKind} {j:Int} (hj:V (Fr (own φ h) Bw w) ρ (.p β (.int k') j) (a.eval io)) (ho:o.op = .index t xo io) (hc:0≤j∧j<(n:Int)) :
  Good P o a w (Post Bw w0 ρ φ h w new (.p false (.int k) (l.getD j.toNat 0)) []):=by
 obtain⟨d,h1,h2⟩:=ht.hu
 rw[hk]at h2
 simp only[UK]at h2
 subst h2
 obtain⟨de,e1,e2⟩:=hte.hu
 rw[hek]at e2
 simp only[UK]at e2
 subst e2
 have hsz:te.size=1:=hte.ha (by rw[hek];rfl)
 simp only[V]at hx
 obtain⟨vs,ex,hvs,hvl⟩:=hx
 obtain⟨q1,q2⟩:=wB hl hvl
 have hq:=q2 j.toNat (by omega)
 have hj':=cN hj
 have hp:P.plainKey e=true:=by simp[Program.plainKey,e1]
 have p1:=run_part_plain (P:=P) w hp (xs:=vs) (off:=j.toNat*te.size) (v:= .int k (l.getD j.toNat 0)) (by rw[hsz,Nat.mul_one];exact hq)
 refine Good.of_run (v:= .int k (l.getD j.toNat 0)) (w':=w) ?_ (Post.pure m (eQ _ _ _))
 simp[execOp,ho,Instr.index,asIntOf,hj',ex,run_underlying h1,run_sizeOf hte,hc.1,hc.2,p1,Result.andThen]
end
end Go.Tv
namespace Go.Tv
open Go Go.RowKit
theorem Q4{P:Program}{w:World}{t t2 ty e:TypeId}{i:TypeInfo}(ht:P.underlying t=some (.slice e))(hi:P.info? e=some i){g n cap:Nat}{cur:Array Value}{te:TypeId}
  (hg:w.heap[g]? = some (.cells cur te (0,0))) {ad:Option Addr} {len c:Nat} {cs:List Value} (hcs:cs.length=min len n*i.size) (hnil:ad=none→cs=[])
  (hsrc:∀b,ad=some b→∀j v,cs[j]? = some v→w.cell? (b.add j)=some v) (hfit:cs.length≤cur.size) (h1:∀v∈cs,v.oneCell'=true) :
  (Builtin.copy_ #[t,t2] ty #[.slice (some ⟨g,0,none⟩) n cap,.slice ad len c]).run P w =
   .ok (goInt (min len n:Nat)) (w.setRow g (cs++cur.toList.drop cs.length).toArray):=by
 have hst:=run_storeCells_at P g 0 te cs 0 cur w hg (by omega) h1
 simp only[Nat.add_zero,Nat.zero_add,List.take_zero,List.nil_append]at hst
 have hm:Nat.min len n=min len n:=rfl
 cases ad with
 | none =>
  have:=hnil rfl
  subst this
  simp[Builtin.copy_,run_underlying ht,Builtin.lenOf,Builtin.firstCells,sizeOf,typeInfo,hi,hst,hm]
 | some b =>
  have hl:=run_loadCells_list (P:=P) w b cs (hsrc b rfl)
  rw[hcs]at hl
  simp[Builtin.copy_,run_underlying ht,Builtin.lenOf,Builtin.firstCells,sizeOf,typeInfo,hi,hl,hst,hm]
section
variable{P:Program}{Bw:Nat→Prop}{w0:Base P}{ρ:Nat→Option Value}{φ:Nat→Nat→Prop}{h:Nat→Option Obj}{w:World}{new:Nat}
theorem aFO(m:Mem Bw w0 ρ φ h w){o:Oper}{a:Act}{t t2 e:TypeId}{ti te:TI}(ht:TIok P t ti)(hk:ti.k = .sl e)(hte:TIok P e te){A:Ty}(hT:te.T=some A)
  {xo yo:Operand} {id:Nat} {y:AVal} (hx:V (Fr (own φ h) Bw w) ρ (.sl id) (a.eval xo)) (hy:V (Fr (own φ h) Bw w) ρ y (a.eval yo)) (ho:o.op = .call { callee:= .builtin .copy,args:= #[xo,yo],argTypes:= #[t,t2] })
  {e':TypeId} {xs ys:List A.den} (hid:h id=some (.arr e' A xs)) (hys:fI h A y=some ys) :
  Good P o a w (Post Bw w0 ρ φ h w new (.p false (.int .i64) ((min ys.length xs.length:Nat):Int)) [(id,some (.arr e' A (ys.take xs.length++xs.drop ys.length)))]):=by
 obtain⟨i,z,hi,hz,hsize,hbytes,hz1,hz2,hz3⟩:=hte.hi
 obtain⟨hT1,hT2,hT3⟩:=hte.hT A hT
 have hu:=bK ht hk
 have hisz:i.size=A.size:=by rw[hsize,hT1]
 obtain⟨ad,len,c,hve,hlen,hyr,hnil⟩:=jB m hys hy
 obtain⟨u,q1,hsa,hA,cells,r1,r2⟩:=m.ob id _ hid
 simp only[V]at hx
 obtain⟨hx1,aa,nn,cc,hx2⟩:=hx
 rw[hx1]at q1
 cases q1
 subst hlen
 rcases r1.2 with⟨hxe,hn⟩ | ⟨g,cap,cur,hxe,_,hheap,hncap,hcapm,hcsz,htake⟩
 ·-- nothing to copy into
  have hxs:xs=[]:=List.eq_nil_of_length_eq_zero hn
  subst hxs
  have hrun:(Builtin.copy_ #[t,t2] o.type #[.slice none 0 0,.slice ad ys.length c]).run P w = .ok (goInt 0) w:=by
   cases ad with
   | none=>simp[Builtin.copy_,run_underlying hu,Builtin.lenOf,Builtin.firstCells,sizeOf,typeInfo,hi]
   | some b =>
    have hl:=run_loadCells_list (P:=P) w b [] (fun j v hj=>by simp at hj)
    simp only[List.length_nil]at hl
    simp[Builtin.copy_,run_underlying hu,Builtin.lenOf,Builtin.firstCells,sizeOf,typeInfo,hi,hl]
  refine Good.of_run (v:=goInt 0) (w':=w) (by simp only[execOp,ho,resolve,invoke,builtin,Sem.run_bind,Sem.run_pure,Result.andThen_ok,List.map_toArray,List.map_cons,List.map_nil,hxe,hve,hrun]) ?_
  have hself:apply [(id,some (.arr e' A (ys.take ([]:List A.den).length++([]:List A.den).drop ys.length)))] h=h:=by
   funext k
   simp only[apply,upd,List.length_nil,List.take_zero,List.drop_nil,List.append_nil]
   split
   ·rename_i e2;rw[e2,hid]
   ·rfl
  have hv:V (Fr (own φ h) Bw w) ρ (.p false (.int .i64) ((min ys.length ([]:List A.den).length:Nat):Int)) (goInt 0):=by
   simp only[V,Vcells,List.length_nil,Nat.min_zero]
   exact⟨rfl,rfl⟩
  refine⟨ρ,φ,by rw[hself];exact m,by rw[hself];exact fun _ _ _ h=>h,fun _ _ h=>h,fun _ _ h=> .inl h,?_⟩
  rw[hself]
  exact hv
 ·-- what is copied
  obtain⟨news,n1,n2,n3⟩:∃news:List Value,news.length=ys.length*A.size∧(∀b,ad=some b→∀j v,news[j]? = some v→w.cell? (b.add j)=some v) ∧
    (∀i (h':i<ys.length),Vcells (Fr (own φ h) Bw w false) A ys[i] (fun k v=>news[i*A.size+k]? = some v)):=by
   cases had:ad with
   | none =>
    have hl0:ys.length=0:=by
     rcases hnil had with e1 | e1
     ·rw[e1]at hve;simp only[Value.slice.injEq]at hve;omega
     ·exact e1
    exact⟨[],by simp[hl0],fun b e1=>(by cases e1),fun i hi'=>absurd hi' (by omega)⟩
   | some b =>
    obtain⟨news,p1,p2,p3⟩:=mY (g:=fun k v=>w.cell? (b.add k)=some v) (fun i hi'=>by
     obtain⟨b',e1,e2⟩:=hyr i hi'
     rw[had]at e1
     cases e1
     exact e2)
    exact⟨news,p1,fun b' e1=>(by cases e1;exact p2),p3⟩
  have hone:=qW n1 n3
  have hcl:cells.length=xs.length*A.size:=r1.1
  have hmin:min ys.length xs.length*A.size≤xs.length*A.size:=Nat.mul_le_mul_right _ (Nat.min_le_right _ _)
  have hmin':min ys.length xs.length*A.size≤ys.length*A.size:=Nat.mul_le_mul_right _ (Nat.min_le_left _ _)
  have hcapb:xs.length*A.size≤cap*A.size:=Nat.mul_le_mul_right _ hncap
  let cs:=news.take (min ys.length xs.length*A.size)
  have hcs:cs.length=min ys.length xs.length*A.size:=by
   simp only[cs,List.length_take,n1];omega
  have hrun:=Q4 (P:=P) (w:=w) (t2:=t2) (ty:=o.type) hu hi hheap (n:=xs.length) (cap:=cap) (ad:=ad) (len:=ys.length) (c:=c) (cs:=cs) (by rw[hcs,hisz])
   (fun e1=>by
    have hl0:ys.length=0:=by
     rcases hnil e1 with e2 | e2
     ·rw[e2]at hve;simp only[Value.slice.injEq]at hve;omega
     ·exact e2
    exact List.eq_nil_of_length_eq_zero (by rw[hcs,hl0];simp))
   (fun b e1 j v hj=>n2 b e1 j v (by
    simp only[cs,List.getElem?_take]at hj
    split at hj
    ·exact hj
    ·cases hj)) (by rw[hcs,hcsz];omega) (fun v hv=>hone v (List.mem_of_mem_take hv))
  refine Good.of_run (v:=_) (w':=_) (by simp only[execOp,ho,resolve,invoke,builtin,Sem.run_bind,Sem.run_pure,Result.andThen_ok,List.map_toArray,List.map_cons,List.map_nil,hxe,hve,hrun];rfl) ?_
  have hlen2:(ys.take xs.length++xs.drop ys.length).length=xs.length:=by simp only[List.length_append,List.length_take,List.length_drop];omega
  refine dT m (some id) id (.arr e' A (ys.take xs.length++xs.drop ys.length)) (a.eval xo) (some g) (bL w g _) (fun k e1=>⟨id,_,rfl,hid,rfl,hsa _ (by rw[hxe];simpa [jT]using e1)⟩) (.inr ⟨rfl,hx1⟩)
   (fun _ k hk'=> .inr (by rw[hxe]at hk';simpa [jT]using hk')) (fun F' ρ' hF hρ=> ?_) (by rw[bE];rfl) (fun e1=>by rw[hx1]at e1;cases e1) (fun F' ρ' hF hρ hnew=>by simp only[V,Vcells];exact⟨rfl,rfl⟩)
  refine⟨fun _ h=>h,hA,cs++cells.drop cs.length,⟨?_,.inr ⟨g,cap,_,?_,Nat.zero_le _,setRow_heap w g cur _ e' _ hheap,?_,hcapm,?_,?_⟩⟩,fun j hj=> ?_⟩
  ·simp only[List.length_append,List.length_drop,hcs,hcl,hlen2];omega
  ·rw[hlen2,hxe]
  ·rw[hlen2];exact hncap
  ·simp only[List.size_toArray,List.length_append,List.length_drop,Array.length_toList,hcs];omega
  ·rw[hlen2,←htake]
   simp only[List.take_append,hcs,List.drop_take]
   rw[List.take_of_length_le (by rw[hcs];omega)]
  ·rw[hlen2]at hj
   by_cases hjy:j<ys.length
   ·have e1:(ys.take xs.length++xs.drop ys.length)[j]'(by rw[hlen2];exact hj)=ys[j]:=by
     rw[List.getElem_append_left (by simp only[List.length_take];omega)]
     simp
    rw[e1]
    refine Vcells.mono (hF _) (fun _ _ h=>h) (Vcells.monoLt (fun k v hk' hv=> ?_) (n3 j hjy))
    have hjb:j*A.size+A.size≤min ys.length xs.length*A.size:=by
     rw[←Nat.succ_mul];exact Nat.mul_le_mul_right _ (by omega)
    rw[List.getElem?_append_left (by rw[hcs];omega)]
    simp only[cs,List.getElem?_take]
    rw[if_pos (by omega)]
    exact hv
   ·have e1:(ys.take xs.length++xs.drop ys.length)[j]'(by rw[hlen2];exact hj)=xs[j]:=by
     rw[List.getElem_append_right (by simp only[List.length_take];omega)]
     simp only[List.length_take,List.getElem_drop]
     congr 1
     omega
    rw[e1]
    refine Vcells.mono (hF _) (fun _ _ h=>h) (Vcells.monoLt (fun k v hk' hv=> ?_) (r2 j hj))
    have hmm:min ys.length xs.length=ys.length:=Nat.min_eq_left (by omega)
    have hjb:ys.length*A.size≤j*A.size:=Nat.mul_le_mul_right _ (by omega)
    rw[List.getElem?_append_right (by rw[hcs,hmm];omega),List.getElem?_drop]
    rw[←hv]
    congr 1
    rw[hcs,hmm]
    omega
end
end Go.Tv
