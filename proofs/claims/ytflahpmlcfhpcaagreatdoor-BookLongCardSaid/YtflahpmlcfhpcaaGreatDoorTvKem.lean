/- Strings as bytes, numbers as signs. -/
import Derived.Test.YtflahpmlcfhpcaaGreatDoorTvKd
import Derived.Lib.ConvBytes
namespace Go.Tv
open Go Go.RowKit
section
variable{P:Program}{Bw:Nat→Prop}{w0:Base P}{ρ:Nat→Option Value}{φ:Nat→Nat→Prop}{h:Nat→Option Obj}{w:World}{new:Nat}
theorem Mem.grow(m:Mem Bw w0 ρ φ h w){w':World}(hg:w.grownBy w' none):Mem Bw w0 ρ φ h w'∧(∀β a v,Fr (own φ h) Bw w β a v→Fr (own φ h) Bw w' β a v):=by
 have hF:∀β a v,Fr (own φ h) Bw w β a v→Fr (own φ h) Bw w' β a v:=fun β a v hh =>
  Fr.evo (fun k hk _=>hg.block k hk (by intro e;cases e)) (fun k hk=> .inl hk) β a v hh
 refine⟨⟨fun id o hid=> ?_,fun id o k h1 h2 h3=>Nat.lt_of_lt_of_le (m.lt id o k h1 h2 h3) hg.size,m.dj,m.bw,m.ow,m.kp.grown hg (fun k e=>by cases e),m.pin⟩,hF⟩
 obtain⟨u,q1,q2⟩:=m.ob id o hid
 exact⟨u,q1,OR.mono hF (fun _ _ h=>h) (fun _ h=>h) (fun hl k hk=>hg.block k (m.lt id o k hid hl hk) (by intro e;cases e)) q2⟩
theorem J7(w:World):w.grownBy w none:=⟨rfl,rfl,rfl,Nat.le_refl _,fun _ _ _=>rfl⟩
theorem wM(w:World)(e:TypeId)(s:ByteArray):w.grownBy (Lib.bytesWorld w e s) none :=
 ⟨rfl,rfl,rfl,by rw[Lib.bytesWorld_size];omega,fun k hk _=>Lib.bytesWorld_at_old w e s k hk⟩
theorem V1(m:Mem Bw w0 ρ φ h w){o:Oper}{a:Act}{st dt e:TypeId}{si:TI}(hs:TIok P st si)(hd:P.underlying dt=some (.slice e))(he:P.underlying e=some (.int .u8)){xo:Operand}(ho:o.op = .convert st dt xo)
  {β:Bool} {l:List UInt8} (hx:V (Fr (own φ h) Bw w) ρ (.p β .str l) (a.eval xo)):Good P o a w (Post Bw w0 ρ φ h w new (.p false (.slice (.int .u8)) (iE l)) []):=by
 obtain⟨ds,h1,_⟩:=hs.hu
 have hrun:=Lib.run_convert_string_bytes (P:=P) w st dt e ⟨l.toArray⟩ h1 hd he
 obtain⟨m',hF⟩:=m.grow (wM w e ⟨l.toArray⟩)
 have hsz:(⟨l.toArray⟩:ByteArray).size=l.length:=by simp[ByteArray.size]
 refine Good.of_run (v:=_) (w':=_) (by simp only[execOp,ho,rO hx,Sem.run_bind,hrun,Result.andThen_ok];rfl) ⟨ρ,φ,m',hF,fun _ _ h=>h,fun _ _ h=> .inl h,?_⟩
 simp only[V,Vcells]
 refine⟨rfl,_,_,_,rfl,⟨by rw[hsz];simp[iE],grownCap_ge _ _ _ _⟩,fun i hi=>⟨_,rfl,?_⟩⟩
 have hi':i<l.length:=by simpa [iE]using hi
 refine⟨fun hh=> ?_,fun _ hb=> ?_,?_⟩
 ·have hlt:=m.own_lt hh
  simp only[Addr.add]at hlt
  split at hlt <;> simp at hlt
 ·have h2:=w0.lt _ (m.bw _ hb)
  have h3:=m.kp.size
  simp only[Addr.add]at h2
  split at h2 <;> simp at h2 <;> omega
 ·have:=Lib.bytesWorld_cell w e ⟨l.toArray⟩ i (by rw[hsz];exact hi')
  have e1:(⟨w.heap.size,0,none⟩:Addr).add (i*Ty.size (.int .u8)+0)=⟨w.heap.size,i,none⟩:=by
   rw[cH]
   simp[Ty.size]
  rw[e1,World.cell_peek this]
  simp[iE,hi']
theorem L7(m:Mem Bw w0 ρ φ h w)(hn:ρ new=none){o:Oper}{a:Act}{st dt e:TypeId}{si:TI}(hs:TIok P st si)(hd:P.underlying dt=some (.slice e))(he:P.underlying e=some (.int .u8)){xo:Operand}(ho:o.op = .convert st dt xo)
  {β:Bool} {l:List UInt8} (hx:V (Fr (own φ h) Bw w) ρ (.p β .str l) (a.eval xo)):Good P o a w (Post Bw w0 ρ φ h w new (.sl new) [(new,some (.bytes e (iE l)))]):=by
 obtain⟨ds,h1,_⟩:=hs.hu
 have hrun:=Lib.run_convert_string_bytes (P:=P) w st dt e ⟨l.toArray⟩ h1 hd he
 have hsz:(⟨l.toArray⟩:ByteArray).size=l.length:=by simp[ByteArray.size]
 have hge:=grownCap_ge w l.length 0 e
 refine Good.of_run (v:=_) (w':=_) (by simp only[execOp,ho,rO hx,Sem.run_bind,hrun,Result.andThen_ok];rfl) ?_
 have hcs:(Lib.bytesCells w e ⟨l.toArray⟩).size=grownCap w l.length 0 e:=by
  simp only[Lib.bytesCells,Array.size_append,Array.size_map,Array.size_replicate]
  show l.toArray.size+(grownCap w (⟨l.toArray⟩:ByteArray).size 0 e - (⟨l.toArray⟩:ByteArray).size)=_
  rw[hsz]
  simp only[List.size_toArray]
  omega
 refine cZ m none new (.bytes e (iE l)) (.slice (some ⟨w.heap.size,0,none⟩) (⟨l.toArray⟩:ByteArray).size (grownCap w (⟨l.toArray⟩:ByteArray).size 0 e)) none (wM w e ⟨l.toArray⟩) (fun k e=>by cases e) (.inl hn) (fun _ k hk=> ?_) (fun F' ρ' hF hρ=> ?_)
  (by rw[bP];rfl) (fun _=>rfl) (fun F' ρ' hF hρ hnew=> ?_)
 ·simp only[gS,Option.some.injEq]at hk
  exact .inl (by omega)
 ·refine .inr ⟨w.heap.size,grownCap w l.length 0 e,_,_,by rw[hsz];simp[iE],rfl,Lib.bytesWorld_at_new w e ⟨l.toArray⟩,.inr rfl,by simpa [iE]using hge,hcs,fun i hi=> ?_⟩
  have hi':i<l.length:=by simpa [iE]using hi
  have:=Lib.bytesWorld_cell w e ⟨l.toArray⟩ i (by rw[hsz];exact hi')
  rw[cell_of_row _ w.heap.size i _ _ _ (Lib.bytesWorld_at_new w e ⟨l.toArray⟩)]at this
  rw[this]
  simp[iE,hi']
 ·simp only[V]
  exact⟨hnew,_,_,_,rfl⟩
theorem x8{F:Bool→Addr→Value→Prop}{t e:TypeId}{ti te:TI}(ht:TIok P t ti)(hk:ti.k = .sl e)(hte:TIok P e te){a:Act}{ad:Option Addr}{len cap:Nat}{lo:Option Operand}{hi mx:Operand}{l:Option Int}{r q:Int}(hl:uQ F ρ a lo l)
  {β:Bool} {k:IntKind} (hr:V F ρ (.p β (.int k) r) (a.eval hi)) {β':Bool} {k':IntKind} (hq:V F ρ (.p β' (.int k') q) (a.eval mx)) (h0:0≤l.getD 0) (h1:l.getD 0≤r) (h2:r≤q) (h3:q≤len) (h4:len≤cap) :
  (Instr.sliceAt t (.slice ad len cap) (lo.map a.eval) (some (a.eval hi)) (some (a.eval mx))).run P w =
   .ok (.slice (if q.toNat=(l.getD 0).toNat then ad else ad.map (·.add ((l.getD 0).toNat*te.size))) (r.toNat - (l.getD 0).toNat) (q.toNat - (l.getD 0).toNat)) w:=by
 have hu:=bQ ht hk
 have b1:(Instr.sliceBound (.int k' q) cap .slice3Acap).run P w = .ok q.toNat w:=eF (by omega) (by omega)
 have b2:(Instr.sliceBound (.int k r) q.toNat .slice3B).run P w = .ok r.toNat w:=eF (by omega) (by omega)
 cases lo with
 | none =>
  cases l with
  | some _=>exact hl.elim
  | none=>simp[Instr.sliceAt,Instr.slice,Instr.sliceBounds,run_underlying hu,cC hr,cC hq,b1,b2,run_sizeOf hte]
 | some x =>
  cases l with
  | none=>exact hl.elim
  | some i =>
   obtain⟨β2,k2,hv⟩:=hl
   simp only[Option.getD_some]at h0 h1
   have b3:(Instr.sliceBound (.int k2 i) r.toNat .slice3C).run P w = .ok i.toNat w:=eF h0 (by omega)
   simp[Instr.sliceAt,Instr.slice,Instr.sliceBounds,run_underlying hu,cC hr,cC hq,cC hv,b1,b2,b3,run_sizeOf hte]
theorem aAx{F:Bool→Addr→Value→Prop}{ρ':Nat→Option Value}{A:Ty}{xs:List A.den}{β:Bool}{ad:Option Addr}{len cap:Nat}(hv:V F ρ' (.p β (.slice A) xs) (.slice ad len cap)){l r q size:Nat}(hs:size=A.size)(h1:l≤r)(h2:r≤q)(h3:q≤len):
  V F ρ' (.p β (.slice A) ((xs.take r).drop l)) (.slice (if q=l then ad else ad.map (·.add (l*size))) (r - l) (q - l)):=by
 subst hs
 simp only[V,Vcells]at hv ⊢
 obtain⟨_,ad',len',cap',e,⟨hl,hc⟩,hx⟩:=hv
 simp only[Value.slice.injEq]at e
 obtain⟨rfl,rfl,rfl⟩:=e
 refine⟨rfl,_,_,_,rfl,⟨by simp only[List.length_drop,List.length_take];omega,by omega⟩,fun i hi=> ?_⟩
 simp only[List.length_drop,List.length_take]at hi
 obtain⟨b,q1,q2⟩:=hx (l+i) (by omega)
 subst q1
 refine⟨b.add (l*A.size),by rw[if_neg (by omega)];rfl,?_⟩
 have e:((xs.take r).drop l)[i]'(by simp only[List.length_drop,List.length_take];omega)=xs[l+i]:=by simp
 rw[e]
 refine Vcells.mono (fun _ _ h=>h) (fun k v hk=> ?_) q2
 rw[j1]
 rwa [Nat.add_mul,Nat.add_assoc]at hk
theorem vI(m:Mem Bw w0 ρ φ h w){o:Oper}{a:Act}{t e:TypeId}{ti te:TI}(ht:TIok P t ti)(hk:ti.k = .sl e)(hte:TIok P e te){A:Ty}(hT:te.T=some A){xo:Operand}{lo:Option Operand}{hi mx:Operand}(ho:o.op = .slice t xo lo (some hi) (some mx))
  {β:Bool} {xs:List A.den} (hx:V (Fr (own φ h) Bw w) ρ (.p β (.slice A) xs) (a.eval xo)) {l:Option Int} {r q:Int} (hl:uQ (Fr (own φ h) Bw w) ρ a lo l) {β1:Bool} {k1:IntKind} (hr:V (Fr (own φ h) Bw w) ρ (.p β1 (.int k1) r) (a.eval hi))
  {β2:Bool} {k2:IntKind} (hq:V (Fr (own φ h) Bw w) ρ (.p β2 (.int k2) q) (a.eval mx)) (h0:0≤l.getD 0) (h1:l.getD 0≤r) (h2:r≤q) (h3:q≤xs.length) :
  Good P o a w (Post Bw w0 ρ φ h w new (.p β (.slice A) ((xs.take r.toNat).drop (l.getD 0).toNat)) []):=by
 obtain⟨ad,cap,he,hc⟩:=mZ hx
 obtain⟨hT1,_,_⟩:=hte.hT A hT
 have hrun:=x8 (P:=P) (w:=w) ht hk hte (ad:=ad) (cap:=cap) hl hr hq h0 h1 h2 h3 hc
 rw[he]at hx
 refine Good.of_run (v:=_) (w':=w) (by simp only[execOp,ho,he,Option.map_some,hrun,Sem.run_bind,Result.andThen_ok];rfl) (Post.pure m (aAx hx hT1.symm (by omega) (by omega) (by omega)))
theorem J2(m:Mem Bw w0 ρ φ h w)(hn:ρ new=none){o:Oper}{a:Act}{t e:TypeId}{ti te:TI}(ht:TIok P t ti)(hk:ti.k = .sl e)(hte:TIok P e te){A:Ty}(hT:te.T=some A){xo:Operand}{hi mx:Operand}(ho:o.op = .slice t xo none (some hi) (some mx))
  {xs:List A.den} (hx:V (Fr (own φ h) Bw w) ρ (.p false (.slice A) xs) (a.eval xo)) {r:Int} {β1:Bool} {k1:IntKind} (hr:V (Fr (own φ h) Bw w) ρ (.p β1 (.int k1) r) (a.eval hi))
  {β2:Bool} {k2:IntKind} (hq:V (Fr (own φ h) Bw w) ρ (.p β2 (.int k2) r) (a.eval mx)) (h1:0≤r) (h3:r≤xs.length) :
  Good P o a w (Post Bw w0 ρ φ h w new (.sl new) [(new,some (.cutz A (xs.take r.toNat)))]):=by
 obtain⟨ad,cap,he,hc⟩:=mZ hx
 obtain⟨hT1,_,_⟩:=hte.hT A hT
 have hrun:=x8 (P:=P) (w:=w) ht hk hte (a:=a) (lo:=none) (l:=none) (ad:=ad) (cap:=cap) trivial hr hq (by simp) (by simpa using h1) (by omega) h3 hc
 rw[he]at hx
 refine Good.of_run (v:=_) (w':=w) (by simp only[execOp,ho,he,Option.map_none,Option.map_some,Sem.run_bind]at hrun ⊢;rw[hrun];rfl) ?_
 have hp:=aAx hx (l:=0) (r:=r.toNat) (q:=r.toNat) hT1.symm (by omega) (by omega) (by omega)
 simp only[Nat.sub_zero,List.drop_zero,Option.getD_none,Int.toNat_zero]at hp ⊢
 refine cZ m none new (.cutz A (xs.take r.toNat)) (.slice (if r.toNat=0 then ad else ad.map (fun x=>x.add (0*te.size))) r.toNat r.toNat) none (J7 w) (fun k e=>by cases e) (.inl hn) (fun hl=>by cases hl) (fun F' ρ' hF hρ=> ?_) (by rw[bP];rfl) (fun _=>rfl) (fun F' ρ' hF hρ hnew=> ?_)
 ·exact⟨⟨_,by rw[List.length_take,Nat.min_eq_left (by omega)]⟩,V.mono hF hρ hp⟩
 ·simp only[V]
  exact⟨hnew,_,_,_,rfl⟩
def aBk(n:Int):List UInt8:=(Utf8.encode n).data.toList
theorem aAH(m:Mem Bw w0 ρ φ h w){o:Oper}{a:Act}{st dt:TypeId}{si:TI}(hs:TIok P st si)(hd:P.underlying dt=some .string){xo:Operand}(ho:o.op = .convert st dt xo)
  {β:Bool} {k:IntKind} {n:Int} (hx:V (Fr (own φ h) Bw w) ρ (.p β (.int k) n) (a.eval xo)):Good P o a w (Post Bw w0 ρ φ h w new (.p false .str (aBk n)) []):=by
 obtain⟨ds,h1,_⟩:=hs.hu
 refine Good.of_run (v:= .string (Utf8.encode n)) (w':=w) ?_ (Post.pure m ?_)
 ·simp only[execOp,ho,cC hx,convert,Sem.run_bind,run_underlying h1,run_underlying hd,Result.andThen_ok]
  cases ds <;> rfl
 ·simp only[V,Vcells]
  exact⟨rfl,rfl⟩
end
end Go.Tv
namespace Go.Tv
open Go Go.RowKit
section
variable{P:Program}{Bw:Nat→Prop}{w0:Base P}{ρ:Nat→Option Value}{φ φ1:Nat→Nat→Prop}{h:Nat→Option Obj}{w:World}{new:Nat}
theorem Post.after'{u1 u2:gR}{h1:Nat→Option Obj}(e:apply u1 h=h1)(hF:∀β a v,Fr (own φ h) Bw w β a v→Fr (own φ1 h1) Bw w β a v){x:AVal}{v:Value}{w':World}
  (hp:Post Bw w0 ρ φ1 h1 w new x u2 v w'):Post Bw w0 ρ φ h w new x (u1++u2) v w':=by
 subst e
 obtain⟨ρ',φ',q1,q2,q3,q4,q5⟩:=hp
 rw[←fU]at q1 q2 q5
 exact⟨ρ',φ',q1,fun β a v hh=>q2 _ _ _ (hF _ _ _ hh),q3,q4,q5⟩
theorem tQ(m:Mem Bw w0 ρ φ h w)(hn:ρ new=none){o:Oper}{a:Act}{t:TypeId}{ti:TI}(ht:TIok P t ti)(hk:ti.k.agg=false){xo:Operand}{id i:Nat}(hx:V (Fr (own φ h) Bw w) ρ (.adr id i 1 0) (a.eval xo))(ho:o.op = .load t xo)
  {e e2:TypeId} {A:Ty} {xss:List (List A.den)} (hi:h id=some (.mat e e2 A xss none)) (hlt:i<xss.length) :
  Good P o a w (Post Bw w0 ρ φ h w new (.sl new) [(id,some (.mat e e2 A xss (some (i,new)))),(new,some (.arr e2 A (xss.getD i [])))]):=by
 rw[show xss.getD i []=xss[i] by simp[hlt]]
 obtain⟨v,cells,u,q1,q2,q3,⟨ad,n,c,q4⟩,m',hF,hρ⟩:=m.openRow hi hn hlt
 simp only[V]at hx
 obtain⟨g,hg,he⟩:=hx
 have hob:u.ownBlock=some g:=by
  rw[q1]at hg
  rcases q2.2 with⟨rfl,h0⟩ | ⟨g',cap,cur,rfl,_⟩
  ·omega
  ·rcases hg with hg | ⟨n,c,hg⟩
   ·cases hg
   ·simp only[Option.some.injEq,Value.slice.injEq]at hg
    rw[hg.1];rfl
 have hcell:=q2.cells hob _ _ q3
 rw[cH,Nat.zero_add]at hcell
 refine Good.of_run (v:=v) (w':=w) ?_ ⟨_,_,m',hF,hρ,fun j y hj=> ?_,?_⟩
 ·simp only[execOp,ho,Instr.loadAt,he,Instr.sureAddr,Sem.run_bind,Sem.run_pure,Result.andThen_ok,Nat.mul_one,Nat.add_zero]
  unfold loadVar
  rw[Sem.run_bind,qH ht]
  simp only[Result.andThen_ok,hk]
  rw[if_neg (by simp),run_load,hcell]
  rfl
 ·by_cases e:j=new
  ·exact .inr ⟨0,by omega,e⟩
  ·rw[bB _ _ e]at hj;exact .inl hj
 ·simp only[V]
  exact⟨aP _ _ _,ad,n,c,q4⟩
theorem p9(m:Mem Bw w0 ρ φ h w){o:Oper}{a:Act}{t:TypeId}{ti:TI}(ht:TIok P t ti)(hsz:ti.size=1){xo yo:Operand}{id i r:Nat}(hx:V (Fr (own φ h) Bw w) ρ (.adr id i 1 0) (a.eval xo))
  (hy:V (Fr (own φ h) Bw w) ρ (.sl r) (a.eval yo)) (ho:o.op = .store t xo yo) {e e2:TypeId} {A:Ty} {xss:List (List A.den)} {hole:Option (Nat×Nat)} (hi:h id=some (.mat e e2 A xss hole)) (hlt:i<xss.length)
  (hh:∀k j,hole=some (k,j)→k=i):Good P o a w (Post Bw w0 ρ φ h w new .unk [(id,some (.mat e e2 A xss (some (i,r))))]):=by
 obtain⟨u,q1,hs,h0,_,cells,c1,c2,c3⟩:=m.ob id _ hi
 simp only[V]at hy
 obtain⟨hr,ad,vn,vc,hv⟩:=hy
 generalize hvv:a.eval yo=vr at hr hv
 have hone:vr.cells = #[vr]:=g8 (by rw[hv];rfl)
 simp only[V]at hx
 obtain⟨g,hg,he⟩:=hx
 rcases c1.2 with⟨rfl,hn⟩ | ⟨g',cap,cur,rfl,_,hheap,hncap,hcapm,hcsz,htake⟩
 ·omega
 rw[q1]at hg
 have hgg:g'=g:=by
  rcases hg with hg | ⟨n,c,hg⟩
  ·cases hg
  ·simp only[Option.some.injEq,Value.slice.injEq,Addr.mk.injEq]at hg;exact hg.1.1
 subst hgg
 have hcl:cells.length=xss.length*1:=c1.1
 have hrun:=hX (P:=P) ht hheap (v:=vr) (p:=i*1+0) (by rw[hone,hsz];rfl) (by rw[hcsz,hsz];omega) (fun c hc=>by
  rw[hone]at hc
  simp only[List.mem_singleton]at hc
  rw[hc,hv];rfl)
 have hsplice:(cur.toList.take (i*1+0)++vr.cells.toList++cur.toList.drop (i*1+0+ti.size))=cur.toList.set i vr:=by
  rw[hone,hsz,List.set_eq_take_append_cons_drop,if_pos (by simp only[Array.length_toList];omega)]
  simp
 rw[hsplice]at hrun
 refine Good.of_skip (w':=_) (by simp[execOp,ho,Instr.storeAt,he,Instr.sureAddr,hvv];simp only[Nat.mul_one,Nat.add_zero]at hrun;rw[hrun];rfl) ?_
 refine eU m (some id) id (.mat e e2 A xss (some (i,r))) (.slice (some ⟨g',0,none⟩) xss.length cap) (φ id) (some g') (bE w g' _) (fun k e=>⟨id,_,rfl,hi,rfl,by cases e;exact hs g' rfl⟩) (.inr ⟨rfl,q1⟩)
  (fun _ k hk=>Nat.lt_of_lt_of_le (m.lt id _ k hi rfl hk) (bE w g' _).size) (fun _ k hk=> .inr ⟨id,_,rfl,hi,rfl,hk⟩) (fun F' ρ' hF hρ=> ?_) (by rw[bK];rfl) (fun e=>by rw[q1]at e;cases e) (fun F' ρ' hF hρ hnew=>by simp only[V])
 have hshut:∀j,j≠i→O1 hole j:=fun j hj k id' e=>by rw[hh k id' e];exact hj
 have hset:∀j,j≠i→(cells.set i vr)[j]? = cells[j]? :=fun j hj=>List.getElem?_set_ne (Ne.symm hj)
 refine⟨hs,h0,fun k id' e=>(by cases e;exact hlt),cells.set i vr,⟨by rw[List.length_set];exact hcl,.inr ⟨g',cap,(cur.toList.set i vr).toArray,rfl,Nat.zero_le _,setRow_heap w g' cur _ e _ hheap,hncap,hcapm,by simp only[List.size_toArray,List.length_set,Array.length_toList];exact hcsz,?_⟩⟩,fun j hj=> ?_,fun j j' vj vj' b hne s1 s2 e1 e2'=> ?_⟩
 ·show(cur.toList.set i vr).take (xss.length*1)=_
  rw[←htake,List.take_set]
 ·by_cases e:j=i
  ·subst e
   refine⟨vr,by rw[List.getElem?_set_self (by omega)],⟨ad,vn,vc,hv⟩,fun hsh=>absurd rfl (hsh j r rfl),fun id' e=> ?_⟩
   cases e
   exact hρ _ _ hr
  ·obtain⟨v,p1,p2,p3,_⟩:=c2 j hj
   refine⟨v,by rw[hset j e];exact p1,p2,fun _=> ?_,fun id' e'=>by cases e';exact absurd rfl e⟩
   obtain⟨b1,rc,b2,b3⟩:=p3 (hshut j e)
   refine⟨b1,rc,nR (fun k hk=> ?_) b2,fun q hq=>Vcells.mono (hF _) (fun _ _ h=>h) (b3 q hq)⟩
   refine(bE w g' _).block k ?_ (fun e'=>(b1 k hk).2 (by rw[e'];rfl))
   exact m.lt id _ k hi rfl (b1 k hk).1
 ·have n1:j≠i:=fun e=>s1 i r rfl e
  have n2:j'≠i:=fun e=>s2 i r rfl e
  rw[hset j n1]at e1
  rw[hset j' n2]at e2'
  exact c3 j j' vj vj' b hne (hshut j n1) (hshut j' n2) e1 e2'
end
end Go.Tv
