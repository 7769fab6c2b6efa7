/- Arrays in variables: places known at run time. -/
import Derived.Test.YtflahpmlcfhpcaaGreatDoorTvKem
namespace Go.Tv
open Go Go.RowKit
def uJ(k:IntKind):List AVal→Option (List Int)
 | []=>some []
 | .p _ (.int k') x::r=>if k'=k then(match uJ k r with
  | some l=>some ((show Int from x)::l)
  | none=>none)else none
 | _::_=>none
theorem qE{k:IntKind}{F:Bool→Addr→Value→Prop}{ρ:Nat→Option Value}:∀ {cs:List AVal} {l:List Int} {g:Nat→Value→Prop},uJ k cs=some l→VL F ρ cs g→l.length=cs.length∧∀i,i<cs.length→g i (.int k (l.getD i 0))
 | [],l,g,h,_=>by cases h;exact⟨rfl,fun i hi=>absurd hi (by simp)⟩
 | c::cs,l,g,h,hv=>by
  unfold uJ at h
  split at h
  ·rename_i e;cases e
  ·rename_i β k' x r e
   cases e
   split at h
   ·rename_i hk
    subst hk
    split at h
    ·rename_i l' hl
     cases h
     simp only[VL]at hv
     obtain⟨⟨u,u1,u2⟩,hv2⟩:=hv
     obtain⟨h1,h2⟩:=qE hl hv2
     refine⟨by simp[h1],fun i hi=> ?_⟩
     cases i with
     | zero=>rw[cC u2]at u1;exact u1
     | succ i=>exact h2 i (by simpa using hi)
    ·cases h
   ·cases h
  ·cases h
section
variable{P:Program}{Bw:Nat→Prop}{w0:Base P}{ρ:Nat→Option Value}{φ:Nat→Nat→Prop}{h:Nat→Option Obj}{w:World}{new:Nat}
theorem A7(m:Mem Bw w0 ρ φ h w){o:Oper}{a:Act}{t e:TypeId}{ti te:TI}(ht:TIok P t ti){n:Nat}(hk:ti.k = .ar n e)(hte:TIok P e te)(hsz:te.size=1){xo io:Operand}{id i sz off:Nat}(hx:V (Fr (own φ h) Bw w) ρ (.adr id i sz off) (a.eval xo))
  {cs:List AVal} (hb:h id=some (.box cs)) {β:Bool} {k:IntKind} {j:Int} (hj:V (Fr (own φ h) Bw w) ρ (.p β (.int k) j) (a.eval io)) (ho:o.op = .indexAddr t xo io) (hc:0≤j∧j<(n:Int)) :
  Good P o a w (Post Bw w0 ρ φ h w new (.ada id (i*sz+off) n j.toNat) []):=by
 obtain⟨d,h1,h2⟩:=ht.hu
 rw[hk]at h2
 simp only[UK]at h2
 subst h2
 obtain⟨u,q1,g',te',cells,rfl,_⟩:=m.ob id _ hb
 simp only[V]at hx
 obtain⟨g,hg,he⟩:=hx
 rw[q1]at hg
 have hgg:g'=g:=by
  rcases hg with hg | ⟨n,c,hg⟩
  ·simpa using hg
  ·cases hg
 subst hgg
 have hj':=cC hj
 refine Good.of_run (v:= .pointer (some ((⟨g',i*sz+off,none⟩:Addr).add (j.toNat*te.size)))) (w':=w) ?_ (Post.pure m ?_)
 ·simp[execOp,ho,Instr.indexAt,asIntOf,hj',he,run_underlying h1,Instr.sureAddr,run_sizeOf hte,hc.1,hc.2]
 ·simp only[V]
  exact⟨g',q1,by rw[cH,hsz,Nat.mul_one],by omega⟩
theorem y6(m:Mem Bw w0 ρ φ h w){o:Oper}{a:Act}{t e:TypeId}{ti te:TI}(ht:TIok P t ti){n:Nat}(hk:ti.k = .ar n e)(hte:TIok P e te)(hsz:0<te.size){xo io:Operand}{id i sz off:Nat}(hx:V (Fr (own φ h) Bw w) ρ (.adr id i sz off) (a.eval xo))
  {cs:List AVal} (hb:h id=some (.box cs)) {β:Bool} {k:IntKind} {j:Int} (hj:V (Fr (own φ h) Bw w) ρ (.p β (.int k) j) (a.eval io)) (ho:o.op = .indexAddr t xo io) (hc:0≤j∧j<(n:Int)) :
  Good P o a w (Post Bw w0 ρ φ h w new (.ada id (i*sz+off) (n*te.size) (j.toNat*te.size)) []):=by
 obtain⟨d,h1,h2⟩:=ht.hu
 rw[hk]at h2
 simp only[UK]at h2
 subst h2
 obtain⟨u,q1,g',te',cells,rfl,_⟩:=m.ob id _ hb
 simp only[V]at hx
 obtain⟨g,hg,he⟩:=hx
 rw[q1]at hg
 have hgg:g'=g:=by
  rcases hg with hg | ⟨n,c,hg⟩
  ·simpa using hg
  ·cases hg
 subst hgg
 have hj':=cC hj
 refine Good.of_run (v:= .pointer (some ((⟨g',i*sz+off,none⟩:Addr).add (j.toNat*te.size)))) (w':=w) ?_ (Post.pure m ?_)
 ·simp[execOp,ho,Instr.indexAt,asIntOf,hj',he,run_underlying h1,Instr.sureAddr,run_sizeOf hte,hc.1,hc.2]
 ·simp only[V]
  exact⟨g',q1,by rw[cH],Nat.mul_lt_mul_of_pos_right (by omega) hsz⟩
theorem x9(m:Mem Bw w0 ρ φ h w){o:Oper}{a:Act}{t e:TypeId}{ti te:TI}(ht:TIok P t ti){n:Nat}(hk:ti.k = .ar n e)(hte:TIok P e te)(hsz:te.size=1){xo io:Operand}{id b N p:Nat}(hx:V (Fr (own φ h) Bw w) ρ (.ada id b N p) (a.eval xo))
  {β:Bool} {k:IntKind} {j:Int} (hj:V (Fr (own φ h) Bw w) ρ (.p β (.int k) j) (a.eval io)) (ho:o.op = .indexAddr t xo io) (hc:(0≤j∧j<(n:Int))∧p+j.toNat<N) :
  Good P o a w (Post Bw w0 ρ φ h w new (.ada id b N (p+j.toNat)) []):=by
 obtain⟨d,h1,h2⟩:=ht.hu
 rw[hk]at h2
 simp only[UK]at h2
 subst h2
 simp only[V]at hx
 obtain⟨g,q1,he,_⟩:=hx
 have hj':=cC hj
 refine Good.of_run (v:= .pointer (some ((⟨g,b+p,none⟩:Addr).add (j.toNat*te.size)))) (w':=w) ?_ (Post.pure m ?_)
 ·simp[execOp,ho,Instr.indexAt,asIntOf,hj',he,run_underlying h1,Instr.sureAddr,run_sizeOf hte,hc.1.1,hc.1.2]
 ·simp only[V]
  exact⟨g,q1,by rw[cH,hsz,Nat.mul_one,Nat.add_assoc],hc.2⟩
theorem J1(m:Mem Bw w0 ρ φ h w){o:Oper}{a:Act}{t:TypeId}{ti:TI}(ht:TIok P t ti){k:IntKind}(hk:ti.k = .int k){xo:Operand}{id b n i:Nat}(hx:V (Fr (own φ h) Bw w) ρ (.ada id b n i) (a.eval xo))
  (ho:o.op = .load t xo) {cs:List AVal} (hb:h id=some (.box cs)) {l:List Int} (hl:uJ k ((cs.drop b).take n)=some l) (hn:b+n≤cs.length) :
  Good P o a w (Post Bw w0 ρ φ h w new (.p false (.int k) (l.getD i 0)) []):=by
 obtain⟨u,q1,g',te',cells,rfl,_,r1,r2,r3⟩:=m.ob id _ hb
 simp only[V]at hx
 obtain⟨g,hg,he,hi⟩:=hx
 rw[q1]at hg
 obtain rfl:g'=g:=by simpa using hg
 have hv:=VL.take (n:=n) (VL.drop (n:=b) r3)
 obtain⟨h1,h2⟩:=qE hl hv
 have hlen:((cs.drop b).take n).length=n:=by rw[List.length_take,List.length_drop];omega
 have hcell:=h2 i (by omega)
 refine Good.of_run (v:= .int k (l.getD i 0)) (w':=w) ?_ (Post.pure m (dO _ _ _))
 have hc:w.cell? (⟨g',b+i,none⟩:Addr)=some (.int k (l.getD i 0)):=by
  have:=cell_of_row w g' (b+i) cells te' (0,0) r1
  rw[this];exact hcell
 simp only[execOp,ho,Instr.loadAt,he,Instr.sureAddr,Sem.run_bind,Sem.run_pure,Result.andThen_ok]
 unfold loadVar
 rw[Sem.run_bind,qH ht,hk]
 simp only[Result.andThen_ok,TK.agg]
 rw[if_neg (by simp),run_load,hc]
 rfl
def yK(k:IntKind)(i:Nat)(v:Int):Nat→List Int→List AVal
 | _,[]=>[]
 | j,x::r=> .p false (.int k) (if i=j then v else x:Int)::yK k i v (j+1) r
theorem pL{k:IntKind}{i:Nat}{v:Int}:∀ {j:Nat} {l:List Int},(yK k i v j l).length=l.length
 | _,[]=>rfl
 | j,x::r=>by simp[yK,pL (j:=j+1) (l:=r)]
theorem Q2{k:IntKind}{i:Nat}{v:Int}:∀ {l:List Int} {j q:Nat},q<l.length→(yK k i v j l)[q]? = some (.p false (.int k) (if i=j+q then v else l.getD q 0:Int))
 | [],_,q,h=>absurd h (by simp)
 | x::r,j,0,_=>by simp[yK]
 | x::r,j,q+1,h=>by
  have:=Q2 (k:=k) (i:=i) (v:=v) (l:=r) (j:=j+1) (q:=q) (by simpa using h)
  simp only[yK,List.getElem?_cons_succ,this,List.getD_cons_succ]
  rw[show j+1+q=j+(q+1) by omega]
theorem z0(m:Mem Bw w0 ρ φ h w){o:Oper}{a:Act}{t:TypeId}{ti:TI}(ht:TIok P t ti)(hsz:ti.size=1){k:IntKind}{xo yo:Operand}{id b n i:Nat}(hx:V (Fr (own φ h) Bw w) ρ (.ada id b n i) (a.eval xo))
  {β:Bool} {v:Int} (hy:V (Fr (own φ h) Bw w) ρ (.p β (.int k) v) (a.eval yo)) (ho:o.op = .store t xo yo) {cs:List AVal} (hb:h id=some (.box cs)) {l:List Int} (hl:uJ k ((cs.drop b).take n)=some l) (hn:b+n≤cs.length) :
  Good P o a w (Post Bw w0 ρ φ h w new .unk [(id,some (.box (cs.take b++yK k i v 0 l++cs.drop (b+n))))]):=by
 obtain⟨u,q1,g',te',cells,rfl,sg,r1,r2,r3⟩:=m.ob id _ hb
 simp only[V]at hx
 obtain⟨g,hg,he,hi⟩:=hx
 rw[q1]at hg
 obtain rfl:g'=g:=by simpa using hg
 have hy':=cC hy
 have hlen:((cs.drop b).take n).length=n:=by rw[List.length_take,List.length_drop];omega
 obtain⟨h1,h2⟩:=qE hl (VL.take (n:=n) (VL.drop (n:=b) r3))
 have hone:(Value.int k v).cells = #[Value.int k v]:=rfl
 have hrun:=hX (P:=P) ht r1 (v:= .int k v) (p:=b+i) (by rw[hone,hsz];rfl) (by rw[r2,hsz];omega) (fun c hc=>by
  rw[hone]at hc
  simp only[List.mem_singleton]at hc
  rw[hc];rfl)
 have hsplice:(cells.toList.take (b+i)++(Value.int k v).cells.toList++cells.toList.drop (b+i+ti.size))=cells.toList.set (b+i) (.int k v):=by
  rw[hone,hsz,List.set_eq_take_append_cons_drop,if_pos (by simp only[Array.length_toList];omega)]
  simp
 rw[hsplice]at hrun
 refine Good.of_skip (w':=_) (by simp[execOp,ho,Instr.storeAt,he,Instr.sureAddr,hy',hrun];rfl) ?_
 refine eU m (some id) id (.box (cs.take b++yK k i v 0 l++cs.drop (b+n))) (.pointer (some ⟨g',0,none⟩)) (φ id) (some g') (bE w g' _) (fun k e=>⟨id,_,rfl,hb,rfl,by cases e;exact sg⟩) (.inr ⟨rfl,q1⟩)
  (fun _ k hk=>Nat.lt_of_lt_of_le (m.lt id _ k hb rfl hk) (bE w g' _).size) (fun _ k hk=> .inr ⟨id,_,rfl,hb,rfl,hk⟩) (fun F' ρ' hF hρ=> ?_) (by rw[bK];rfl) (fun e=>by rw[q1]at e;cases e) (fun F' ρ' hF hρ hnew=>by simp only[V])
 have hcl:(cs.take b++yK k i v 0 l++cs.drop (b+n)).length=cs.length:=by
  simp only[List.length_append,List.length_take,List.length_drop,pL,h1,hlen];omega
 refine⟨g',te',_,rfl,sg,setRow_heap w g' cells _ te' _ r1,by simp only[List.size_toArray,List.length_set,Array.length_toList];rw[r2,hcl],VL.mk fun q x hq=> ?_⟩
 have hb1:(cs.take b).length=b:=by rw[List.length_take];omega
 have hb2:(cs.take b++yK k i v 0 l).length=b+n:=by rw[List.length_append,pL,hb1,h1,hlen]
 have hget:∀q,q≠b+i→∀u,cells[q]? = some u→((cells.toList.set (b+i) (.int k v)).toArray)[q]? = some u:=fun q hq u hu=>by
  simp only[List.getElem?_toArray]
  rw[List.getElem?_set_ne (Ne.symm hq)]
  simpa using hu
 rcases Nat.lt_or_ge q (b+n)with c1 | c1
 ·rw[List.getElem?_append_left (by omega)]at hq
  rcases Nat.lt_or_ge q b with c2 | c2
  ·rw[List.getElem?_append_left (by omega),List.getElem?_take,if_pos c2]at hq
   obtain⟨u,u1,u2⟩:=VL.get r3 hq
   exact⟨u,hget q (by omega) u u1,V.mono hF hρ u2⟩
  ·rw[List.getElem?_append_right (by omega),hb1,Q2 (by omega)]at hq
   cases hq
   by_cases e:q=b+i
   ·refine⟨.int k v,?_,?_⟩
    ·simp only[List.getElem?_toArray]
     rw[e,List.getElem?_set_self (by simp only[Array.length_toList];omega)]
    ·rw[if_pos (by omega)];exact dO _ _ _
   ·refine⟨.int k (l.getD (q - b) 0),hget q e _ ?_,?_⟩
    ·have:=h2 (q - b) (by omega)
     rwa [show b+(q - b)=q by omega]at this
    ·rw[if_neg (by omega)];exact dO _ _ _
 ·rw[List.getElem?_append_right (by omega),hb2,List.getElem?_drop,show b+n+(q - (b+n))=q by omega]at hq
  obtain⟨u,u1,u2⟩:=VL.get r3 hq
  exact⟨u,hget q (by omega) u u1,V.mono hF hρ u2⟩
theorem zZ(m:Mem Bw w0 ρ φ h w){o:Oper}{a:Act}{t e:TypeId}{ti te:TI}(ht:TIok P t ti){n:Nat}(hk:ti.k = .ar n e)(hte:TIok P e te){k:IntKind}(hek:te.k = .int k){xo io:Operand}{cs:List AVal}(hx:V (Fr (own φ h) Bw w) ρ (.agg cs) (a.eval xo))
  {l:List Int} (hl:uJ k cs=some l) (hn:cs.length=n) {β:Bool} {k':IntKind} {j:Int} (hj:V (Fr (own φ h) Bw w) ρ (.p β (.int k') j) (a.eval io)) (ho:o.op = .index t xo io) (hc:0≤j∧j<(n:Int)) :
  Good P o a w (Post Bw w0 ρ φ h w new (.p false (.int k) (l.getD j.toNat 0)) []):=by
 obtain⟨d,h1,h2⟩:=ht.hu
 rw[hk]at h2
 simp only[UK]at h2
 subst h2
 obtain⟨de,e1,e2⟩:=hte.hu
 rw[hek]at e2
 simp only[UK]at e2
 subst e2
 have hsz:te.size=1:=hte.ha (by rw[hek];rfl)
 simp only[V]at hx
 obtain⟨vs,ex,hvs,hvl⟩:=hx
 obtain⟨q1,q2⟩:=qE hl hvl
 have hq:=q2 j.toNat (by omega)
 have hj':=cC hj
 have hp:P.plainKey e=true:=by simp[Program.plainKey,e1]
 have p1:=run_part_plain (P:=P) w hp (xs:=vs) (off:=j.toNat*te.size) (v:= .int k (l.getD j.toNat 0)) (by rw[hsz,Nat.mul_one];exact hq)
 refine Good.of_run (v:= .int k (l.getD j.toNat 0)) (w':=w) ?_ (Post.pure m (dO _ _ _))
 simp[execOp,ho,Instr.index,asIntOf,hj',ex,run_underlying h1,run_sizeOf hte,hc.1,hc.2,p1,Result.andThen]
end
end Go.Tv
