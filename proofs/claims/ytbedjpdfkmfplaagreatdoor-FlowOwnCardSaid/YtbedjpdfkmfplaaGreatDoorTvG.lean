/- Operations on memory: stores, appends, new arrays, parts. -/
import Derived.Test.YtbedjpdfkmfplaaGreatDoorTvF
import Derived.Laws.OwnMore
namespace Go.Tv
open Go Go.RowKit
def wr(cs:List AVal)(p:Nat)(new:List AVal):List AVal:=cs.take p++new++cs.drop (p+new.length)
theorem aGu{cs new:List AVal}{p:Nat}(h:p+new.length≤cs.length):(wr cs p new).length=cs.length:=by
 simp only[wr,List.length_append,List.length_take,List.length_drop];omega
theorem aFj{F:Bool→Addr→Value→Prop}{ρ:Nat→Option Value}{cs new:List AVal}{us vs:List Value}{p:Nat}(hp:p+new.length≤cs.length)(hus:us.length=cs.length)(hvs:vs.length=new.length)
  (h1:VL F ρ cs (fun k u=>us[k]? = some u)) (h2:VL F ρ new (fun k u=>vs[k]? = some u)) :
  VL F ρ (wr cs p new) (fun k u=>(us.take p++vs++us.drop (p+new.length))[k]? = some u):=by
 refine VL.mk fun k x hk=> ?_
 unfold wr at hk
 have e1:(cs.take p++new).length=p+new.length:=by simp only[List.length_append,List.length_take];omega
 have e2:(us.take p++vs).length=p+new.length:=by simp only[List.length_append,List.length_take];omega
 have e3:(cs.take p).length=p:=by simp only[List.length_take];omega
 have e4:(us.take p).length=p:=by simp only[List.length_take];omega
 rcases Nat.lt_or_ge k (p+new.length)with hlt | hge
 ·rw[List.getElem?_append_left (by omega)]at hk
  rw[List.getElem?_append_left (by omega)]
  rcases Nat.lt_or_ge k p with hlt' | hge'
  ·rw[List.getElem?_append_left (by omega),List.getElem?_take,if_pos hlt']at hk
   rw[List.getElem?_append_left (by omega),List.getElem?_take,if_pos hlt']
   exact VL.get h1 hk
  ·rw[List.getElem?_append_right (by omega),e3]at hk
   rw[List.getElem?_append_right (by omega),e4]
   exact VL.get h2 hk
 ·rw[List.getElem?_append_right (by omega),e1,List.getElem?_drop]at hk
  rw[List.getElem?_append_right (by omega),e2,List.getElem?_drop]
  exact VL.get h1 hk
theorem aEF{P:Program}{Bw:Nat→Prop}{w0:Base P}{w:World}{ρ:Nat→Option Value}{φ:Nat→Nat→Prop}{h:Nat→Option Obj}(m:Mem Bw w0 ρ φ h w){T:Ty}{x:AVal}{y:T.den}{u:jJ}(hd:aFQ T h x=some (y,u)):
  Mem Bw w0 ρ φ (apply u h) w∧(∀β a v,Fr (own φ h) Bw w β a v→Fr (own φ (apply u h)) Bw w β a v) ∧
  ∀g:Nat→Value→Prop,VL (Fr (own φ h) Bw w) ρ (cellsOf x) g→Vcells (Fr (own φ (apply u h)) Bw w false) T y g∧T.size=(cellsOf x).length:=by
 unfold aFQ at hd
 split at hd
 ·rename_i cs u' h1
  split at hd
  ·rename_i y' h2
   cases hd
   obtain⟨q1,q2,q3,q4⟩:=uQ m h1
   refine⟨q1,q2,fun g hg=> ?_⟩
   obtain⟨r1,r2,r3⟩:=dK h2 (q4 g hg)
   refine⟨r1,?_⟩
   have:(cs.drop T.size).length=0:=by rw[←r2];rfl
   simp only[List.length_drop]at this
   omega
  ·cases hd
 ·cases hd
theorem qC{P:Program}{Bw:Nat→Prop}{w0:Base P}{w:World}{ρ:Nat→Option Value}{φ:Nat→Nat→Prop}{h:Nat→Option Obj}(m:Mem Bw w0 ρ φ h w){T:Ty}{x:AVal}{y:T.den}{u:jJ}(hd:toT T h x=some (y,u)):
  Mem Bw w0 ρ φ (apply u h) w∧(∀β a v,Fr (own φ h) Bw w β a v→Fr (own φ (apply u h)) Bw w β a v) ∧
  ∀g:Nat→Value→Prop,VL (Fr (own φ h) Bw w) ρ (cellsOf x) g→Vcells (Fr (own φ (apply u h)) Bw w false) T y g∧T.size=(cellsOf x).length:=by
 unfold toT at hd
 split at hd
 ·rename_i A id i sz off
  split at hd
  ·rename_i hz
   split at hd
   ·rename_i cs hi
    split at hd
    ·rename_i y' h2
     cases hd
     obtain⟨m',hF⟩:=m.less (h':=upd h id none) (fun j o hj=>by
      by_cases e:j=id
      ·subst e;rw[aI]at hj;cases hj
      ·rwa [aP _ _ e]at hj)
     refine⟨m',hF,fun g hg=>⟨?_,rfl⟩⟩
     simp only[cellsOf,VL,V]at hg
     obtain⟨⟨u,g0,b,hb,rfl⟩,_⟩:=hg
     obtain⟨u0,q1,gb,te,cells,rfl,hsg,r1,r2,r3⟩:=m.ob id _ hi
     have hgb:gb=b:=by
      rw[q1]at hb
      rcases hb with hb | ⟨n,c,hb⟩
      ·simpa using hb
      ·cases hb
     subst hgb
     rw[hz]at g0
     obtain⟨r4,_,_⟩:=dK h2 r3
     refine⟨⟨gb,0,none⟩,g0,Vcells.mono (hF false) (fun k v hk=> ?_) r4⟩
     have hk:cells[k]? = some v:=hk
     rw[dA]
     refine⟨fun⟨id',o',p1,p2,p3⟩=> ?_,fun _ hbw=>m.ow gb ⟨id,_,hi,rfl,hsg⟩ (m.bw _ hbw),?_⟩
     ·have p1:upd h id none id'=some o':=p1
      have hne:id'≠id:=fun e=>by subst e;rw[aI]at p1;cases p1
      rw[aP _ _ hne]at p1
      exact hne (m.dj id' id o' _ gb p1 p2 hi rfl p3 hsg)
     ·rw[Nat.zero_add]
      exact World.cell_peek (by rw[cell_of_row w gb k cells te (0,0) r1];exact hk)
    ·cases hd
   ·rename_i k n xs cs hi
    split at hd
    ·rename_i k' n' B
     split at hd
     ·rename_i en
      subst en
      split at hd
      ·rename_i ek
       subst ek
       split at hd
       ·rename_i y' h2
        cases hd
        obtain⟨m',hF⟩:=m.less (h':=upd h id none) (fun j o hj=>by
         by_cases e:j=id
         ·subst e;rw[aI]at hj;cases hj
         ·rwa [aP _ _ e]at hj)
        refine⟨m',hF,fun g hg=>⟨?_,rfl⟩⟩
        simp only[cellsOf,VL,V]at hg
        obtain⟨⟨u,g0,b,hb,rfl⟩,_⟩:=hg
        obtain⟨u0,q1,gb,te,cells,rfl,hsg,r1,r2,r3,r4⟩:=m.ob id _ hi
        have hgb:gb=b:=by
         rw[q1]at hb
         rcases hb with hb | ⟨n,c,hb⟩
         ·simpa using hb
         ·cases hb
        subst hgb
        rw[hz]at g0
        obtain⟨r5,_,_⟩:=dK h2 r4
        have hfr:∀k v,cells[k]? = some v→Fr (own φ (upd h id none)) Bw w false ⟨gb,k,none⟩ v:=fun k v hk=>by
         refine⟨fun⟨id',o',p1,p2,p3⟩=> ?_,fun _ hbw=>m.ow gb ⟨id,_,hi,rfl,hsg⟩ (m.bw _ hbw),World.cell_peek (by rw[cell_of_row w gb k cells te (0,0) r1];exact hk)⟩
         have p1:upd h id none id'=some o':=p1
         have hne:id'≠id:=fun e=>by subst e;rw[aI]at p1;cases p1
         rw[aP _ _ hne]at p1
         exact hne (m.dj id' id o' _ gb p1 p2 hi rfl p3 hsg)
        refine⟨⟨gb,0,none⟩,g0,fun i hi=> ?_,Vcells.mono (hF false) (fun k v hk=> ?_) r5⟩
        ·have:=hfr i _ (r3 i hi)
         rw[show(⟨gb,i,none⟩:Addr)=(⟨gb,0,none⟩:Addr).add i by rw[dA,Nat.zero_add]]at this
         exact this
        ·have hk:cells[n+k]? = some v:=hk
         have:=hfr (n+k) v hk
         rw[show(⟨gb,n+k,none⟩:Addr)=(⟨gb,0,none⟩:Addr).add (n+k) by rw[dA,Nat.zero_add]]at this
         exact this
       ·cases hd
      ·cases hd
     ·cases hd
    ·cases hd
   ·cases hd
  ·cases hd
 ·rename_i k n k' n' xs cs
  split at hd
  ·split at hd
   ·rename_i en
    subst en
    split at hd
    ·rename_i ek
     subst ek
     cases hd
     refine⟨m,fun _ _ _ h=>h,fun g hg=>⟨fun i hi=> ?_,by simp[cellsOf,Ty.size,xs.2]⟩⟩
     simp only[cellsOf,List.append_nil]at hg
     obtain⟨u,q1,q2⟩:=VL.get hg (k:=i) (x:= .p false (.int k') xs.1[i]) (by rw[List.getElem?_map,List.getElem?_eq_getElem hi];rfl)
     rw[cN q2]at q1
     exact q1
    ·cases hd
   ·cases hd
  ·cases hd
 ·exact aEF m hd
section
variable{P:Program}{Bw:Nat→Prop}{w0:Base P}{ρ:Nat→Option Value}{φ:Nat→Nat→Prop}{h:Nat→Option Obj}{w:World}{new:Nat}
theorem V5(m:Mem Bw w0 ρ φ h w){o:Oper}{a:Act}{t:TypeId}{ti:TI}(ht:TIok P t ti){xo yo:Operand}{id i sz off:Nat}(hx:V (Fr (own φ h) Bw w) ρ (.adr id i sz off) (a.eval xo))
  {y:AVal} (hy:V (Fr (own φ h) Bw w) ρ y (a.eval yo)) (hc:(cellsOf y).all AVal.cell=true) (ho:o.op = .store t xo yo) {cs:List AVal} (hi:h id=some (.box cs))
  (hlen:(cellsOf y).length=ti.size) (hfit:i*sz+off+ti.size≤cs.length) :
  Good P o a w (Post Bw w0 ρ φ h w new .unk [(id,some (.box (wr cs (i*sz+off) (cellsOf y))))]):=by
 obtain⟨u,q1,g,te,cells,rfl,hsg,r1,r2,r3⟩:=m.ob id _ hi
 simp only[V]at hx
 obtain⟨g',hg,he⟩:=hx
 rw[q1]at hg
 have hgg:g=g':=by
  rcases hg with hg | ⟨n,c,hg⟩
  ·simpa using hg
  ·cases hg
 subst hgg
 obtain⟨h1,h2,h3⟩:=gW hc hy
 have hrun:=jX (P:=P) ht r1 (v:=a.eval yo) (p:=i*sz+off) (by rw[h2,hlen]) (by rw[r2];exact hfit) h3
 refine Good.of_skip (w':=_) (by simp[execOp,ho,Instr.storeAt,he,Instr.sureAddr,hrun];rfl) ?_
 refine fT m (some id) id (.box (wr cs (i*sz+off) (cellsOf y))) (.pointer (some ⟨g,0,none⟩)) (φ id) (some g) (bL w g _) (fun k e=>⟨id,_,rfl,hi,rfl,by cases e;assumption⟩) (.inr ⟨rfl,q1⟩)
  (fun _ k hk=>Nat.lt_of_lt_of_le (m.lt id _ k hi rfl hk) (bL w g _).size) (fun _ k hk=> .inr ⟨id,_,rfl,hi,rfl,hk⟩) (fun F' ρ' hF hρ=> ?_) (by rw[bE];rfl) (fun e=>by rw[q1]at e;cases e) (fun F' ρ' hF hρ hnew=>by simp only[V])
 refine⟨g,te,_,rfl,hsg,setRow_heap w g cells _ te _ r1,?_,?_⟩
 ·simp only[List.size_toArray,List.length_append,List.length_take,List.length_drop,Array.length_toList,h2,hlen,wr]
  omega
 ·have h4:VL F' ρ' cs (fun k u=>cells.toList[k]? = some u):=VL.mono hF hρ (fun k u hk=>by simpa using hk) r3
  have:=aFj (p:=i*sz+off) (by rw[hlen];exact hfit) (by simpa using r2) h2 h4 (VL.mono hF hρ (fun _ _ h=>h) h1)
  rw[hlen]at this
  exact VL.mono (fun _ _ _ h=>h) (fun _ _ h=>h) (fun k u hk=>by simpa using hk) this
theorem xJ{t:TypeId}{ti:TI}(ht:TIok P t ti)(hs:ti.size=1){g p:Nat}{cur:Array Value}{te:TypeId}{mk:Nat×Nat}(hg:w.heap[g]? = some (.cells cur te mk))(hp:p<cur.size)(hmk:mk=(0,0)∨mk=(cur.size,cur.size+1))
  {v:Value} (hv:v.cells = #[v]) (h1:v.oneCell'=true):(storeVar t ⟨g,p,none⟩ v).run P w = .ok () (w.setRow g (cur.setIfInBounds p v)):=by
 have hcell:w.cell? ⟨g,p,none⟩=some cur[p]:=by simp[World.cell?,hg,hp]
 have hfro:w.frozen? ⟨g,p,none⟩=false:=by
  rcases hmk with e | e <;> subst e <;> simp[World.frozen?,hg] <;> omega
 unfold storeVar
 rw[Sem.run_bind,run_sizeOf ht]
 simp only[Result.andThen_ok]
 rw[hv,hs]
 have hst:(store ((⟨g,p,none⟩:Addr).add 0) v).run P w = .ok () (w.setRow g (cur.setIfInBounds p v)):=by
  have hadd:(⟨g,p,none⟩:Addr).add 0=⟨g,p,none⟩:=by unfold Addr.add;split <;> simp_all
  rw[hadd,run_store P w _ v _ h1,hcell]
  simp[hfro,setCell_eq_setRow w g p cur te mk v hg]
 simp[storeCells,Sem.run_bind,hst]
theorem E5(m:Mem Bw w0 ρ φ h w){o:Oper}{a:Act}{t:TypeId}{ti:TI}(ht:TIok P t ti)(hs1:ti.size=1){xo yo:Operand}{id i:Nat}(hx:V (Fr (own φ h) Bw w) ρ (.adr id i 1 0) (a.eval xo))
  {β:Bool} {v:Int} (hy:V (Fr (own φ h) Bw w) ρ (.p β (.int .u8) v) (a.eval yo)) (ho:o.op = .store t xo yo) {te:TypeId} {xs:List Int} (hi:h id=some (.bytes te xs)) (hlt:i<xs.length) :
  Good P o a w (Post Bw w0 ρ φ h w new .unk [(id,some (.bytes te (xs.set i v)))]):=by
 obtain⟨u,q1,q2⟩:=m.ob id _ hi
 simp only[V]at hx
 obtain⟨g,hg,he⟩:=hx
 have hyv:=cN hy
 rcases q2 with⟨rfl,hn⟩ | ⟨g',cap,cur,mk,rfl,hsg,r1,r2,r3,r5,r6⟩
 ·subst hn;simp at hlt
 rw[q1]at hg
 have hgg:g'=g:=by
  rcases hg with hg | ⟨n,c,hg⟩
  ·cases hg
  ·simp only[Option.some.injEq,Value.slice.injEq,Addr.mk.injEq]at hg;exact hg.1.1
 subst hgg
 have hrun:=xJ (P:=P) ht hs1 r1 (v:=a.eval yo) (p:=i) (by omega) r2 (by rw[hyv];rfl) (by rw[hyv];rfl)
 have he':a.eval xo = .pointer (some ⟨g',i,none⟩):=by rw[he];simp
 refine Good.of_skip (w':=_) (by simp[execOp,ho,Instr.storeAt,he',Instr.sureAddr,hrun];rfl) ?_
 refine fT m (some id) id (.bytes te (xs.set i v)) (.slice (some ⟨g',0,none⟩) xs.length cap) (φ id) (some g') (bL w g' _) (fun k e=>⟨id,_,rfl,hi,rfl,by cases e;assumption⟩) (.inr ⟨rfl,q1⟩)
  (fun _ k hk=>Nat.lt_of_lt_of_le (m.lt id _ k hi rfl hk) (bL w g' _).size) (fun _ k hk=> .inr ⟨id,_,rfl,hi,rfl,hk⟩) (fun F' ρ' hF hρ=> ?_) (by rw[bE];rfl) (fun e=>by rw[q1]at e;cases e) (fun F' ρ' hF hρ hnew=>by simp only[V])
 refine .inr ⟨g',cap,_,mk,by rw[List.length_set],hsg,setRow_heap w g' cur _ te _ r1,?_,by rw[List.length_set];exact r3,by simpa using r5,fun j hj=> ?_⟩
 ·rcases r2 with e | e
  ·exact .inl e
  ·exact .inr (by rw[e];simp)
 ·rw[List.length_set]at hj
  by_cases e:i=j
  ·subst e
   rw[hyv]
   simp only[List.getElem_set_self]
   rw[Array.getElem?_setIfInBounds_self_of_lt (by omega)]
  ·rw[List.getElem_set_ne e,Array.getElem?_setIfInBounds_ne e]
   exact r6 j hj
theorem aIn{F:Bool→Addr→Value→Prop}{ρ:Nat→Option Value}{cells vs:List Value}{cs new:List AVal}{b off:Nat}(hb:b+cs.length≤cells.length)(hoff:off+new.length≤cs.length)(hvs:vs.length=new.length)
  (h1:VL F ρ cs (fun k u=>cells[b+k]? = some u)) (h2:VL F ρ new (fun k u=>vs[k]? = some u)) :
  VL F ρ (wr cs off new) (fun k u=>(cells.take (b+off)++vs++cells.drop (b+off+new.length))[b+k]? = some u):=by
 have h3:VL F ρ cs (fun k u=>((cells.drop b).take cs.length)[k]? = some u):=VL.mk fun k x hk=>by
  obtain⟨u,q1,q2⟩:=VL.get h1 hk
  have hk':k<cs.length:=(List.getElem?_eq_some_iff.1 hk).1
  exact⟨u,by rw[List.getElem?_take,if_pos hk',List.getElem?_drop];exact q1,q2⟩
 have h4:=aFj (p:=off) (us:=(cells.drop b).take cs.length) hoff (by simp only[List.length_take,List.length_drop];omega) hvs h3 h2
 refine VL.mono (fun _ _ _ h=>h) (fun _ _ h=>h) (fun k u hk=> ?_) h4
 have hl1:(((cells.drop b).take cs.length).take off++vs).length=off+new.length:=by simp only[List.length_append,List.length_take,List.length_drop];omega
 have hl2:(cells.take (b+off)++vs).length=b+off+new.length:=by simp only[List.length_append,List.length_take];omega
 have hl3:(((cells.drop b).take cs.length).take off).length=off:=by simp only[List.length_take,List.length_drop];omega
 have hl4:(cells.take (b+off)).length=b+off:=by simp only[List.length_take];omega
 rcases Nat.lt_or_ge k (off+new.length)with hlt | hge
 ·rw[List.getElem?_append_left (by omega)]at hk
  rw[List.getElem?_append_left (by omega)]
  rcases Nat.lt_or_ge k off with hlt' | hge'
  ·rw[List.getElem?_append_left (by omega),List.getElem?_take,if_pos hlt',List.getElem?_take,if_pos (by omega),List.getElem?_drop]at hk
   rw[List.getElem?_append_left (by omega),List.getElem?_take,if_pos (by omega)]
   exact hk
  ·rw[List.getElem?_append_right (by omega),hl3]at hk
   rw[List.getElem?_append_right (by omega),hl4,show b+k - (b+off)=k - off by omega]
   exact hk
 ·rw[List.getElem?_append_right (by omega),hl1,List.getElem?_drop,List.getElem?_take]at hk
  split at hk
  ·rw[List.getElem?_drop]at hk
   rw[List.getElem?_append_right (by omega),hl2,List.getElem?_drop,←hk]
   congr 1
   omega
  ·cases hk
theorem getElem?_splice_ne {cells vs:List Value} {p n k:Nat} (hp:p+n≤cells.length) (hn:vs.length=n) (hk:k<p∨p+n≤k):(cells.take p++vs++cells.drop (p+n))[k]? = cells[k]? :=by
 have hl1:(cells.take p).length=p:=by simp only[List.length_take];omega
 have hl2:(cells.take p++vs).length=p+n:=by simp only[List.length_append,hl1,hn]
 rcases hk with hk | hk
 ·rw[List.getElem?_append_left (by omega),List.getElem?_append_left (by omega),List.getElem?_take,if_pos hk]
 ·rw[List.getElem?_append_right (by omega),hl2,List.getElem?_drop]
  congr 1
  omega
theorem I7{α:Type}{l vs:List α}{p m n:Nat}(h1:vs.length=m)(h2:p+m≤n)(h3:n≤l.length):
  (l.take p++vs++l.drop (p+m)).take n=(l.take n).take p++vs++(l.take n).drop (p+m):=by
 have e1:(l.take p).length=p:=by simp only[List.length_take];omega
 rw[List.append_assoc,List.append_assoc,List.take_append,List.take_append,e1,h1,List.take_of_length_le (by omega:(l.take p).length≤n),List.take_of_length_le (by omega:vs.length≤n - p),
  List.take_take,Nat.min_eq_left (by omega),List.drop_take,Nat.sub_sub]
theorem Vcells.monoLt{F:Addr→Value→Prop}:∀ {T:Ty} {x:T.den} {g g':Nat→Value→Prop},(∀k v,k<T.size→g k v→g' k v)→Vcells F T x g→Vcells F T x g'
 | .int _,_,_,_,hg,h=>hg _ _ (by simp[Ty.size]) h
 | .bool,_,_,_,hg,h=>hg _ _ (by simp[Ty.size]) h
 | .str,_,_,_,hg,h=>hg _ _ (by simp[Ty.size]) h
 | .flt,_,_,_,hg,⟨m,h,e⟩=>⟨m,hg _ _ (by simp[Ty.size]) h,e⟩
 | .unit,_,_,_,_,_=>trivial
 | .prod a b,x,_,_,hg,h=>⟨Vcells.monoLt (T:=a) (fun k v hk=>hg k v (by simp only[Ty.size];omega)) h.1,Vcells.monoLt (T:=b) (fun k v hk=>hg _ v (by simp only[Ty.size];omega)) h.2⟩
 | .slice a,xs,_,_,hg,⟨ad,len,cap,h0,hl,h⟩=>⟨ad,len,cap,hg _ _ (by simp[Ty.size]) h0,hl,h⟩
 | .ptr a,none,_,_,hg,h=>hg _ _ (by simp[Ty.size]) h
 | .ptr a,some y,_,_,hg,⟨b,h0,hv⟩=>⟨b,hg _ _ (by simp[Ty.size]) h0,hv⟩
 | .tree k1 k2,t,_,_,hg,h=>Vtree.mono (fun _ _ h=>h) (fun k v hk=>hg k v (by simpa [Ty.size]using hk)) h
 | .arr _ _,x,_,_,hg,h=>fun i hi=>hg _ _ (by rw[x.2]at hi;exact hi) (h i hi)
 | .mapi _ _,_,_,_,hg,⟨r,h0,h⟩=>⟨r,hg _ _ (by simp[Ty.size]) h0,h⟩
def aCO(A:Ty)(h:Nat→Option Obj)(xs:List A.den)(i off:Nat)(y:AVal):Option (A.den×jJ) :=
 toT A h (.agg (wr (g5 false A (xs.getD i A.zero)) off (cellsOf y)))
theorem U7(m:Mem Bw w0 ρ φ h w){o:Oper}{a:Act}{t:TypeId}{ti:TI}(ht:TIok P t ti){xo yo:Operand}{id i off:Nat}{te:TypeId}{A:Ty}(hx:V (Fr (own φ h) Bw w) ρ (.adr id i A.size off) (a.eval xo))
  {y:AVal} (hy:V (Fr (own φ h) Bw w) ρ y (a.eval yo)) (hc:(cellsOf y).all AVal.cell=true) (ho:o.op = .store t xo yo) {xs:List A.den} {z:A.den} {us:jJ}
  (hz:aCO A h xs i off y=some (z,us)) (hi0:h id=some (.arr te A xs)) (hi:apply us h id=some (.arr te A xs)) (hlen:(cellsOf y).length=ti.size) (hfit:off+ti.size≤A.size) (hlt:i<xs.length) :
  Good P o a w (Post Bw w0 ρ φ h w new .unk (us++[(id,some (.arr te A (xs.set i z)))])):=by
 obtain⟨m',hF1,htt⟩:=qC m hz
 obtain⟨u,q1,hsa,hA,cells,r1,r2⟩:=m'.ob id _ hi
 have hyy:=gW hc hy
 simp only[V]at hx
 obtain⟨g,hg,he⟩:=hx
 obtain⟨h1,h2,h3⟩:=hyy
 rcases r1.2 with⟨rfl,hn⟩ | ⟨g',cap,cur,rfl,_,hheap,hncap,hcapm,hcsz,htake⟩
 ·omega
 rw[q1]at hg
 have hgg:g'=g:=by
  rcases hg with hg | ⟨n,c,hg⟩
  ·cases hg
  ·simp only[Option.some.injEq,Value.slice.injEq,Addr.mk.injEq]at hg;exact hg.1.1
 subst hgg
 have hcl:cells.length=xs.length*A.size:=r1.1
 have hib:i*A.size+A.size≤xs.length*A.size:=by
  rw[←Nat.succ_mul];exact Nat.mul_le_mul_right _ hlt
 have hcapb:xs.length*A.size≤cap*A.size:=Nat.mul_le_mul_right _ hncap
 have hrun:=jX (P:=P) ht hheap (v:=a.eval yo) (p:=i*A.size+off) (by rw[h2,hlen]) (by rw[hcsz];omega) h3
 refine Good.of_skip (w':=_) (by simp[execOp,ho,Instr.storeAt,he,Instr.sureAddr,hrun];rfl) ?_
 refine Post.after rfl hF1 ?_
 refine dT m' (some id) id (.arr te A (xs.set i z)) (.slice (some ⟨g',0,none⟩) xs.length cap) (some g') (bL w g' _) (fun k e=>⟨id,_,rfl,hi,rfl,hsa _ (by simpa [jT]using e)⟩) (.inr ⟨rfl,q1⟩)
  (fun _ k hk=> .inr (by simpa [jT]using hk)) (fun F' ρ' hF hρ=> ?_) (by rw[bE];rfl) (fun e=>by rw[q1]at e;cases e) (fun F' ρ' hF hρ hnew=>by simp only[V])
 refine⟨fun _ h=>h,hA,cells.take (i*A.size+off)++(a.eval yo).cells.toList++cells.drop (i*A.size+off+ti.size),⟨?_,.inr ⟨g',cap,_,?_,Nat.zero_le _,setRow_heap w g' cur _ te _ hheap,?_,hcapm,?_,?_⟩⟩,fun j hj=> ?_⟩
 ·simp only[List.length_append,List.length_take,List.length_drop,h2,hlen,hcl,List.length_set];omega
 ·rw[List.length_set]
 ·rw[List.length_set];exact hncap
 ·simp only[List.size_toArray,List.length_append,List.length_take,List.length_drop,Array.length_toList,h2,hlen];omega
 ·rw[List.length_set,←htake]
  have hq:xs.length*A.size≤cur.toList.length:=by simp only[Array.length_toList];omega
  have:=I7 (l:=cur.toList) (vs:=(a.eval yo).cells.toList) (p:=i*A.size+off) (m:=ti.size) (n:=xs.length*A.size) (by rw[h2,hlen]) (by omega) hq
  simpa using this
 ·rw[List.length_set]at hj
  by_cases e:i=j
  ·subst e
   simp only[List.getElem_set_self]
   refine Vcells.mono (hF _) (fun _ _ h=>h) (htt _ ?_).1
   simp only[cellsOf]
   obtain⟨u',p1,_,_,cells',p2,p3⟩:=m.ob id _ hi0
   rw[q1]at p1
   cases p1
   have hcc:cells'=cells:=by
    rcases p2.2 with⟨e,_⟩ | ⟨g2,cap2,cur2,e,_,e2,_,_,_,e3⟩
    ·cases e
    ·simp only[Value.slice.injEq,Option.some.injEq,Addr.mk.injEq,and_true,true_and]at e
     obtain⟨rfl,_⟩:=e
     rw[hheap]at e2
     simp only[Option.some.injEq,Obj.cells.injEq,and_true]at e2
     rw[←e3,←htake,e2]
   subst hcc
   have hfl:VL (Fr (own φ h) Bw w) ρ (g5 false A (xs.getD i A.zero)) (fun k u=>cells'[i*A.size+k]? = some u):=V6 hlt (p3 i hlt)
   have:=aIn (b:=i*A.size) (off:=off) (by rw[fJ];omega) (by rw[fJ,hlen];omega) h2 hfl h1
   rw[hlen]at this
   exact this
  ·rw[List.getElem_set_ne e]
   refine Vcells.mono (hF _) (fun _ _ h=>h) (Vcells.monoLt (fun k v hk hv=> ?_) (r2 j hj))
   have hjb:j*A.size+A.size≤xs.length*A.size:=by
    rw[←Nat.succ_mul];exact Nat.mul_le_mul_right _ hj
   rw[getElem?_splice_ne (by omega) (by rw[h2,hlen])]
   ·exact hv
   ·rcases Nat.lt_or_gt_of_ne e with e' | e'
    ·have:i*A.size+A.size≤j*A.size:=by rw[←Nat.succ_mul];exact Nat.mul_le_mul_right _ e'
     omega
    ·have:j*A.size+A.size≤i*A.size:=by rw[←Nat.succ_mul];exact Nat.mul_le_mul_right _ e'
     omega
end
end Go.Tv
