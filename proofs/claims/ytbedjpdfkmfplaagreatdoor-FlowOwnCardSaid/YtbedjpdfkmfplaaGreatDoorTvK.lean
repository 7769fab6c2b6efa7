/- Parts of slices; calls. -/
import Derived.Test.YtbedjpdfkmfplaaGreatDoorTvIm
namespace Go.Tv
open Go Go.RowKit
def H0(F:Bool→Addr→Value→Prop)(ρ:Nat→Option Value)(a:Act):Option Operand→Option Int→Prop
 | none,none=>True
 | some x,some i=>∃β k,V F ρ (.p β (.int k) i) (a.eval x)
 | _,_=>False
section
variable{P:Program}{Bw:Nat→Prop}{w0:Base P}{ρ:Nat→Option Value}{φ:Nat→Nat→Prop}{h:Nat→Option Obj}{w:World}{new:Nat}
theorem fY{k:IntKind}{i:Int}{y:Nat}{c:BoundsCode}(h0:0≤i)(h1:i≤y):(Instr.sliceBound (.int k i) y c).run P w = .ok i.toNat w:=by
 simp[Instr.sliceBound,asIntOf,h0,h1]
theorem sN{F:Bool→Addr→Value→Prop}{a:Act}{b:Bool}{len cap:Nat}{lo hi:Option Operand}{l r:Option Int}(hl:H0 F ρ a lo l)(hr:H0 F ρ a hi r)
  (h0:0≤l.getD 0) (h1:l.getD 0≤r.getD len) (h2:r.getD len≤len) (h3:len≤cap) :
  (Instr.sliceBounds b len cap (lo.map a.eval) (hi.map a.eval) none).run P w = .ok ((l.getD 0).toNat,(r.getD len).toNat,cap) w:=by
 unfold Instr.sliceBounds
 cases hi with
 | none =>
  cases r with
  | some _=>exact hr.elim
  | none =>
   simp only[Option.getD_none]at h1 h2
   cases lo with
   | none =>
    cases l with
    | some _=>exact hl.elim
    | none=>simp
   | some x =>
    cases l with
    | none=>exact hl.elim
    | some i =>
     obtain⟨β,k,hv⟩:=hl
     simp only[Option.getD_some]at h0 h1
     simp[cN hv,fY h0 h1]
 | some y =>
  cases r with
  | none=>exact hr.elim
  | some j =>
   obtain⟨β',k',hv'⟩:=hr
   simp only[Option.getD_some]at h1 h2
   have hj:(Instr.sliceBound (.int k' j) cap (if b then .sliceAcap else .sliceAlen)).run P w = .ok j.toNat w:=fY (by omega) (by omega)
   cases lo with
   | none =>
    cases l with
    | some _=>exact hl.elim
    | none=>simp[cN hv',hj]
   | some x =>
    cases l with
    | none=>exact hl.elim
    | some i =>
     obtain⟨β,k,hv⟩:=hl
     simp only[Option.getD_some]at h0 h1
     simp[cN hv,cN hv',hj,fY (y:=j.toNat) h0 (by omega)]
theorem oZ{F:Bool→Addr→Value→Prop}{t e:TypeId}{ti te:TI}(ht:TIok P t ti)(hk:ti.k = .sl e)(hte:TIok P e te){a:Act}{ad:Option Addr}{len cap:Nat}{lo hi:Option Operand}{l r:Option Int}(hl:H0 F ρ a lo l)(hr:H0 F ρ a hi r)
  (h0:0≤l.getD 0) (h1:l.getD 0≤r.getD len) (h2:r.getD len≤len) (h3:len≤cap) :
  (Instr.sliceAt t (.slice ad len cap) (lo.map a.eval) (hi.map a.eval) none).run P w =
   .ok (.slice (if cap=(l.getD 0).toNat then ad else ad.map (·.add ((l.getD 0).toNat*te.size))) ((r.getD len).toNat - (l.getD 0).toNat) (cap - (l.getD 0).toNat)) w:=by
 have hu:=bK ht hk
 have hb:=sN (P:=P) (w:=w) (b:=true) hl hr h0 h1 h2 h3
 simp[Instr.sliceAt,Instr.slice,run_underlying hu,hb,run_sizeOf hte]
theorem aJD{F:Bool→Addr→Value→Prop}{ρ':Nat→Option Value}{A:Ty}{xs:List A.den}{β:Bool}{ad:Option Addr}{len cap:Nat}(hv:V F ρ' (.p β (.slice A) xs) (.slice ad len cap)){l r size:Nat}(hs:size=A.size)(h1:l≤r)(h2:r≤len):
  V F ρ' (.p β (.slice A) ((xs.take r).drop l)) (.slice (if cap=l then ad else ad.map (·.add (l*size))) (r - l) (cap - l)):=by
 subst hs
 simp only[V,Vcells]at hv ⊢
 obtain⟨_,ad',len',cap',e,⟨hl,hc⟩,hx⟩:=hv
 simp only[Value.slice.injEq]at e
 obtain⟨rfl,rfl,rfl⟩:=e
 refine⟨rfl,_,_,_,rfl,⟨by simp only[List.length_drop,List.length_take];omega,by omega⟩,fun i hi=> ?_⟩
 simp only[List.length_drop,List.length_take]at hi
 obtain⟨b,q1,q2⟩:=hx (l+i) (by omega)
 subst q1
 refine⟨b.add (l*A.size),by rw[if_neg (by omega)];rfl,?_⟩
 have e:((xs.take r).drop l)[i]'(by simp only[List.length_drop,List.length_take];omega)=xs[l+i]:=by simp
 rw[e]
 refine Vcells.mono (fun _ _ h=>h) (fun k v hk=> ?_) q2
 rw[mS]
 rwa [Nat.add_mul,Nat.add_assoc]at hk
theorem rG{F:Bool→Addr→Value→Prop}{ρ':Nat→Option Value}{A:Ty}{xs:List A.den}{β:Bool}{v:Value}(hv:V F ρ' (.p β (.slice A) xs) v):∃ad cap,v = .slice ad xs.length cap∧xs.length≤cap:=by
 simp only[V,Vcells]at hv
 obtain⟨_,ad,len,cap,e,⟨hl,hc⟩,_⟩:=hv
 exact⟨ad,cap,by rw[←hl];exact e.symm,by omega⟩
theorem sS(m:Mem Bw w0 ρ φ h w){o:Oper}{a:Act}{t e:TypeId}{ti te:TI}(ht:TIok P t ti)(hk:ti.k = .sl e)(hte:TIok P e te){A:Ty}(hT:te.T=some A){xo:Operand}{lo hi:Option Operand}(ho:o.op = .slice t xo lo hi none)
  {β:Bool} {xs:List A.den} (hx:V (Fr (own φ h) Bw w) ρ (.p β (.slice A) xs) (a.eval xo)) {l r:Option Int} (hl:H0 (Fr (own φ h) Bw w) ρ a lo l) (hr:H0 (Fr (own φ h) Bw w) ρ a hi r)
  (h0:0≤l.getD 0) (h1:l.getD 0≤r.getD xs.length) (h2:r.getD xs.length≤xs.length) :
  Good P o a w (Post Bw w0 ρ φ h w new (.p β (.slice A) ((xs.take (r.getD xs.length).toNat).drop (l.getD 0).toNat)) []):=by
 obtain⟨ad,cap,he,hc⟩:=rG hx
 obtain⟨hT1,_,_⟩:=hte.hT A hT
 have hrun:=oZ (P:=P) (w:=w) ht hk hte (ad:=ad) (cap:=cap) hl hr h0 h1 h2 hc
 rw[he]at hx
 refine Good.of_run (v:=_) (w':=w) (by simp only[execOp,ho,he,Option.map_none,hrun,Sem.run_bind,Result.andThen_ok];rfl) (Post.pure m (aJD hx hT1.symm (by omega) (by omega)))
theorem O8(m:Mem Bw w0 ρ φ h w){o:Oper}{a:Act}{t e:TypeId}{ti te:TI}(ht:TIok P t ti)(hk:ti.k = .sl e)(hte:TIok P e te){xo:Operand}{lo hi:Option Operand}(ho:o.op = .slice t xo lo hi none)
  (hx:V (Fr (own φ h) Bw w) ρ .nils (a.eval xo)) {l r:Option Int} (hl:H0 (Fr (own φ h) Bw w) ρ a lo l) (hr:H0 (Fr (own φ h) Bw w) ρ a hi r)
  (h0:0≤l.getD 0) (h1:l.getD 0≤r.getD 0) (h2:r.getD 0≤0):Good P o a w (Post Bw w0 ρ φ h w new .nils []):=by
 simp only[V]at hx
 have hrun:=oZ (P:=P) (w:=w) ht hk hte (ad:=none) (len:=0) (cap:=0) hl hr h0 h1 h2 (Nat.le_refl _)
 have e1:(l.getD 0).toNat=0:=by omega
 have e2:(r.getD ((0:Nat):Int)).toNat=0:=by
  have:r.getD ((0:Nat):Int)=r.getD 0:=rfl
  omega
 rw[e1,e2]at hrun
 refine Good.of_run (v:= .slice none 0 0) (w':=w) (by simp only[execOp,ho,hx,Option.map_none,hrun,Sem.run_bind,Result.andThen_ok];rfl) (Post.pure m (by simp only[V]))
theorem S0(m:Mem Bw w0 ρ φ h w){o:Oper}{a:Act}{t:TypeId}{ti:TI}(ht:TIok P t ti)(hk:ti.k = .str){xo:Operand}{lo hi:Option Operand}(ho:o.op = .slice t xo lo hi none)
  {β:Bool} {s:List UInt8} (hx:V (Fr (own φ h) Bw w) ρ (.p β .str s) (a.eval xo)) {l r:Option Int} (hl:H0 (Fr (own φ h) Bw w) ρ a lo l) (hr:H0 (Fr (own φ h) Bw w) ρ a hi r)
  (h0:0≤l.getD 0) (h1:l.getD 0≤r.getD s.length) (h2:r.getD s.length≤s.length) :
  Good P o a w (Post Bw w0 ρ φ h w new (.p false .str ((s.take (r.getD s.length).toNat).drop (l.getD 0).toNat)) []):=by
 obtain⟨d,q1,q2⟩:=ht.hu
 rw[hk]at q2
 simp only[UK]at q2
 subst q2
 have hsz:(⟨s.toArray⟩:ByteArray).size=s.length:=rfl
 have hb:=sN (P:=P) (w:=w) (b:=false) (len:=s.length) (cap:=s.length) hl hr h0 h1 h2 (Nat.le_refl _)
 refine Good.of_run (v:= .string ((⟨s.toArray⟩:ByteArray).extract (l.getD 0).toNat (r.getD s.length).toNat)) (w':=w) ?_ (Post.pure m ?_)
 ·simp[execOp,ho,Instr.sliceAt,Instr.slice,vT hx,run_underlying q1,hsz,hb]
 ·have e:(⟨s.toArray⟩:ByteArray).extract (l.getD 0).toNat (r.getD s.length).toNat=⟨((s.take (r.getD s.length).toNat).drop (l.getD 0).toNat).toArray⟩:=by
   apply ByteArray.ext
   simp[ByteArray.data_extract,List.drop_take]
  rw[e]
  exact uK _ _
theorem R1(m:Mem Bw w0 ρ φ h w)(hn:ρ new=none){o:Oper}{a:Act}{t e:TypeId}{ti te:TI}(ht:TIok P t ti)(hk:ti.k = .sl e)(hte:TIok P e te){A:Ty}{xo:Operand}{hi:Operand}(ho:o.op = .slice t xo none (some hi) none)
  {id:Nat} {be:TypeId} {xs:List A.den} (hid:h id=some (.arr be A xs)) (hx:V (Fr (own φ h) Bw w) ρ (.sl id) (a.eval xo)) {β:Bool} {k:IntKind} {r:Int} (hr:V (Fr (own φ h) Bw w) ρ (.p β (.int k) r) (a.eval hi))
  (h0:0≤r) (h1:r≤xs.length):Good P o a w (Post Bw w0 ρ φ h w new (.sl new) [(id,none),(new,some (.arr be A (xs.take r.toNat)))]):=by
 obtain⟨u,q1,hsa,hA,cells,r1,r2⟩:=m.ob id _ hid
 simp only[V]at hx
 rw[hx.1]at q1
 cases q1
 have key:∀ad len cap,a.eval xo = .slice ad len cap→len=xs.length→len≤cap→ad=none∨(∃g,ad=some ⟨g,0,none⟩)→(execOp a.eval o).run P w = .ok (.value (.slice ad r.toNat cap)) w:=fun ad len cap he hl hc hg=>by
  have hrun:=oZ (P:=P) (w:=w) (F:=Fr (own φ h) Bw w) (ρ:=ρ) (a:=a) ht hk hte (ad:=ad) (len:=len) (cap:=cap) (lo:=none) (hi:=some hi) (l:=none) (r:=some r) trivial ⟨β,k,hr⟩ (by simp) (by simpa using h0) (by simp;omega) hc
  simp only[Option.map_none,Option.map_some,Option.getD_none,Option.getD_some,Int.toNat_zero,Nat.sub_zero,Nat.zero_mul]at hrun
  simp only[execOp,ho,he,Option.map_none,Option.map_some,hrun,Sem.run_bind,Result.andThen_ok]
  rcases hg with rfl | ⟨g,rfl⟩
  ·split <;> rfl
  ·split <;> simp[Addr.add]
 have fin:∀ad cap,a.eval xo = .slice ad xs.length cap→(execOp a.eval o).run P w = .ok (.value (.slice ad r.toNat cap)) w→w.ownsRow 0 be A.size (.slice ad r.toNat cap) (xs.take r.toNat).length (cells.take (r.toNat*A.size)) →
   Good P o a w (Post Bw w0 ρ φ h w new (.sl new) [(id,none),(new,some (.arr be A (xs.take r.toNat)))]):=fun ad cap he hrun hrow=>by
  refine Good.of_run hrun ?_
  have hbk:jT (.slice ad r.toNat cap)=jT (a.eval xo):=by rw[he];cases ad <;> rfl
  refine dT m (some id) new (.arr be A (xs.take r.toNat)) (.slice ad r.toNat cap) (jT (a.eval xo)) ⟨rfl,rfl,rfl,Nat.le_refl _,fun _ _ _=>rfl⟩ (fun k e=>⟨id,_,rfl,hid,rfl,hsa _ e⟩) (.inl hn)
   (fun _ k hk=> .inr (by rw[←hbk];exact hk)) (fun F' ρ' hF hρ=>⟨fun _ h=>h,hA,_,hrow,fun i hi=> ?_⟩) (by rw[M8];rfl) (fun _=>rfl) (fun F' ρ' hF hρ hnew=>by simp only[V];exact⟨hnew,_,_,_,rfl⟩)
  simp only[List.length_take]at hi
  simp only[List.getElem_take]
  refine Vcells.mono (hF _) (fun _ _ h=>h) (Vcells.monoLt (fun k v hk hv=> ?_) (r2 i (by omega)))
  have:i*A.size+A.size≤r.toNat*A.size:=by rw[←Nat.succ_mul];exact Nat.mul_le_mul_right _ (by omega)
  rw[List.getElem?_take,if_pos (by omega)]
  exact hv
 have hlt:(xs.take r.toNat).length=r.toNat:=by simp only[List.length_take];omega
 rcases r1.2 with⟨e,hn0⟩ | ⟨g,cap,cur,e,hb,hg,hnc,hcm,hcs,htake⟩
 ·have hr0:r.toNat=0:=by omega
  refine fin none 0 (by rw[hn0];exact e) (key none 0 0 e (by omega) (Nat.le_refl _) (.inl rfl)) ⟨by rw[hlt,hr0];simp,.inl ⟨by rw[hr0],by rw[hlt,hr0]⟩⟩
 ·refine fin _ cap e (key _ _ cap e rfl hnc (.inr ⟨g,rfl⟩)) ⟨?_,.inr ⟨g,cap,cur,by rw[hlt],hb,hg,by omega,hcm,hcs,?_⟩⟩
  ·rw[List.length_take,r1.1,hlt]
   have:r.toNat*A.size≤xs.length*A.size:=Nat.mul_le_mul_right _ (by omega)
   omega
  ·rw[hlt,←htake,List.take_take,Nat.min_eq_left (Nat.mul_le_mul_right _ (by omega))]
/-! ### Calls -/
mutual
def B1:AVal→Bool
 | .sl _=>false
 | .mp _=>false
 | .adr _ _ _ _=>false
 | .ada _ _ _ _=>false
 | .fad _ cs _=>uR cs
 | .agg cs=>uR cs
 | .tup cs=>uR cs
 | .fn _ cs=>uR cs
 | .p _ _ _=>true
 | .nils=>true
 | .nilp=>true
 | .lit _=>true
 | .lag _ _ _ cs=>uR cs
 | .loc _ _ _=>true
 | .suf _ _ _=>false
 | .bfn _ cs=>uR cs
 | .unk=>true
def uR:List AVal→Bool
 | []=>true
 | x::xs=>B1 x && uR xs
end
mutual
theorem yQ{F:Bool→Addr→Value→Prop}{ρ ρ':Nat→Option Value}:∀ {x:AVal} {v:Value},B1 x=true→V F ρ x v→V F ρ' x v
 | .p _ _ _,_,_,hv=>by simpa only [V]using hv
 | .nils,_,_,hv=>by simpa only [V]using hv
 | .nilp,_,_,hv=>by simpa only [V]using hv
 | .lit _,_,_,hv=>by simpa only [V]using hv
 | .unk,_,_,_=>by simp only[V]
 | .loc _ _ _,_,_,hv=>by simpa only [V]using hv
 | .suf _ _ _,_,h,_=>by simp[B1]at h
 | .lag _ _ _ cs,_,h,hv=>by
  simp only[V,B1]at h hv ⊢
  obtain⟨vs,e,hs,hl⟩:=hv
  exact⟨vs,e,hs,qT h hl⟩
 | .bfn _ cs,_,h,hv=>by
  simp only[V,B1]at h hv ⊢
  obtain⟨vs,e,hs,hl⟩:=hv
  exact⟨vs,e,hs,qT h hl⟩
 | .sl _,_,h,_=>by simp[B1]at h
 | .mp _,_,h,_=>by simp[B1]at h
 | .adr _ _ _ _,_,h,_=>by simp[B1]at h
 | .ada _ _ _ _,_,h,_=>by simp[B1]at h
 | .fad _ cs _,_,h,hv=>by
  simp only[V,B1]at h hv ⊢
  obtain⟨ad,e,hl⟩:=hv
  exact⟨ad,e,qT h hl⟩
 | .agg cs,_,h,hv=>by
  simp only[V,B1]at h hv ⊢
  obtain⟨vs,e,hs,hl⟩:=hv
  exact⟨vs,e,hs,qT h hl⟩
 | .tup cs,_,h,hv=>by
  simp only[V,B1]at h hv ⊢
  obtain⟨vs,e,hs,hl⟩:=hv
  exact⟨vs,e,hs,qT h hl⟩
 | .fn _ cs,_,h,hv=>by
  simp only[V,B1]at h hv ⊢
  obtain⟨vs,e,hs,hl⟩:=hv
  exact⟨vs,e,hs,qT h hl⟩
theorem qT{F:Bool→Addr→Value→Prop}{ρ ρ':Nat→Option Value}:∀ {xs:List AVal} {g:Nat→Value→Prop},uR xs=true→VL F ρ xs g→VL F ρ' xs g
 | [],_,_,_=>by simp only[VL]
 | x::xs,_,h,hv=>by
  simp only[uR,Bool.and_eq_true]at h
  simp only[VL]at hv ⊢
  obtain⟨⟨u,q1,q2⟩,q3⟩:=hv
  exact⟨⟨u,q1,yQ h.1 q2⟩,qT h.2 q3⟩
end
def S5(h:Nat→Option Obj)(x:AVal):Option AVal :=
 match x with
 | .sl id=>match h id with
  | some (.arr _ A xs)=>some (.p true (.slice A) xs)
  | some (.fz A xs)=>some (.p false (.slice A) xs)
  | _=>none
 | x=>if B1 x then some x else none
def u3(h:Nat→Option Obj):List AVal→Option (List AVal)
 | []=>some []
 | x::xs=>match S5 h x,u3 h xs with
  | some y,some ys=>some (y::ys)
  | _,_=>none
def A4(h:Nat→Option Obj)(x:AVal):Option AVal :=
 match x with
 | .adr id i sz off=>match h id with
  | some (.box cs)=>match u3 h cs with
   | some ds=>some (.fad true ds (i*sz+off))
   | none=>none
  | _=>none
 | .agg cs=>match u3 h cs with
  | some ds=>some (.agg ds)
  | none=>none
 | x=>S5 h x
def yL(h:Nat→Option Obj):List AVal→Option (List AVal)
 | []=>some []
 | x::xs=>match A4 h x,yL h xs with
  | some y,some ys=>some (y::ys)
  | _,_=>none
def aDk(h:Nat→Option Obj)(x:AVal):Option AVal :=
 match x with
 | .fn f cs=>match yL h cs with
  | some ds=>some (.fn f ds)
  | none=>none
 | x=>A4 h x
def sP(h:Nat→Option Obj):List AVal→Option (List AVal)
 | []=>some []
 | x::xs=>match aDk h x,sP h xs with
  | some y,some ys=>some (y::ys)
  | _,_=>none
def hX:Nat→Prop:=fun _=>False
def lD:Nat→Option Value:=fun _=>none
def wK(φ:Nat→Nat→Prop)(h:Nat→Option Obj)(Bw:Nat→Prop):Nat→Prop:=fun k=>own φ h k∨Bw k
theorem aIt{β:Bool}{a:Addr}{v:Value}(hh:Fr (own φ h) Bw w β a v):Fr hX (wK φ h Bw) w β a v :=
 ⟨fun e=>e,fun e hk=>hk.elim hh.1 (hh.2.1 e),hh.2.2⟩
structure Lends(φ:Nat→Nat→Prop)(h:Nat→Option Obj)(Bw:Nat→Prop)(w:World)(h':Nat→Option Obj)(F':Bool→Addr→Value→Prop):Prop where
 sub:∀i o,h' i=some o→h i=some o
 hA:∀β a v,Fr (own φ h) Bw w β a v→F' β a v
 hB:∀id o a v,h' id=some o→o.live=true→φ id a.block→w.cell? a=some v→F' true a v
theorem Lends.all:Lends φ h Bw w h (Fr hX (wK φ h Bw) w) :=
 ⟨fun _ _ h=>h,fun _ _ _=>aIt,fun _ _ _ _ _ _ _ h=>⟨fun e=>e,fun e=>(by cases e),World.cell_peek h⟩⟩
variable{h':Nat→Option Obj}{F':Bool→Addr→Value→Prop}
theorem H9(m:Mem Bw w0 ρ φ h w)(L:Lends φ h Bw w h' F'){x y:AVal}(hd:S5 h' x=some y){v:Value}(hv:V (Fr (own φ h) Bw w) ρ x v):V F' lD y v:=by
 unfold S5 at hd
 split at hd
 ·rename_i id
  simp only[V]at hv
  obtain⟨hρ,_⟩:=hv
  split at hd
  ·rename_i te A xs hi
   cases hd
   obtain⟨u,q1,hsa,_,cells,r1,r2⟩:=m.ob id _ (L.sub _ _ hi)
   rw[hρ]at q1
   cases q1
   have hq:=vP (F:=Fr (own φ h) Bw w) (F':=F') (ρ':=lD) r1 r2 true (fun a v h=>L.hA _ _ _ ⟨h.1,fun e=>(by cases e),h.2.2⟩) (fun a v hb h=>L.hB _ _ _ _ hi rfl (hsa _ hb) h)
   exact hq
  ·rename_i A xs hi
   cases hd
   obtain⟨u,q1,q2⟩:=m.ob id _ (L.sub _ _ hi)
   rw[hρ]at q1
   cases q1
   exact yQ (ρ:=ρ) rfl (V.mono (ρ:=ρ) L.hA (fun _ _ h=>h) q2)
  ·cases hd
 ·split at hd
  ·rename_i hid
   cases hd
   exact yQ hid (V.mono L.hA (fun _ _ h=>h) hv)
  ·cases hd
theorem rE(m:Mem Bw w0 ρ φ h w)(L:Lends φ h Bw w h' F'):∀ {xs ys:List AVal},u3 h' xs=some ys→∀ {g:Nat→Value→Prop},VL (Fr (own φ h) Bw w) ρ xs g→VL F' lD ys g∧ys.length=xs.length
 | [],ys,hd,g,_=>by cases hd;exact⟨by simp only[VL],rfl⟩
 | x::xs,ys,hd,g,hv=>by
  simp only[u3]at hd
  split at hd
  ·rename_i y ys' h1 h2
   cases hd
   simp only[VL]at hv ⊢
   obtain⟨⟨u,q1,q2⟩,q3⟩:=hv
   obtain⟨r1,r2⟩:=rE m L h2 q3
   exact⟨⟨⟨u,q1,H9 m L h1 q2⟩,r1⟩,by simp[r2]⟩
  ·cases hd
theorem L0(m:Mem Bw w0 ρ φ h w)(L:Lends φ h Bw w h' F'){x y:AVal}(hd:A4 h' x=some y){v:Value}(hv:V (Fr (own φ h) Bw w) ρ x v):V F' lD y v:=by
 unfold A4 at hd
 split at hd
 ·rename_i id i sz off
  split at hd
  ·rename_i cs hi
   split at hd
   ·rename_i ds h1
    cases hd
    obtain⟨u,q1,g',te,cells,rfl,hsg,r1,r2,r3⟩:=m.ob id _ (L.sub _ _ hi)
    simp only[V]at hv
    obtain⟨g,hg,rfl⟩:=hv
    rw[q1]at hg
    have hgg:g'=g:=by
     rcases hg with hg | ⟨n,c,hg⟩
     ·simpa using hg
     ·cases hg
    subst hgg
    obtain⟨s1,_⟩:=rE m L h1 r3
    simp only[V]
    refine⟨⟨g',0,none⟩,by rw[dA,Nat.zero_add],VL.mono (fun _ _ _ h=>h) (fun _ _ h=>h) (fun k u hk=> ?_) s1⟩
    rw[dA,Nat.zero_add]
    exact L.hB _ _ _ _ hi rfl hsg (by rw[cell_of_row w g' k cells te (0,0) r1];exact hk)
   ·cases hd
  ·cases hd
 ·rename_i cs
  split at hd
  ·rename_i ds h1
   cases hd
   simp only[V]at hv ⊢
   obtain⟨vs,e,hs,hl⟩:=hv
   obtain⟨r1,r2⟩:=rE m L h1 hl
   exact⟨vs,e,by rw[r2];exact hs,r1⟩
  ·cases hd
 ·exact H9 m L hd hv
theorem yS(m:Mem Bw w0 ρ φ h w)(L:Lends φ h Bw w h' F'):∀ {xs ys:List AVal},yL h' xs=some ys→∀ {g:Nat→Value→Prop},VL (Fr (own φ h) Bw w) ρ xs g→VL F' lD ys g∧ys.length=xs.length
 | [],ys,hd,g,_=>by cases hd;exact⟨by simp only[VL],rfl⟩
 | x::xs,ys,hd,g,hv=>by
  simp only[yL]at hd
  split at hd
  ·rename_i y ys' h1 h2
   cases hd
   simp only[VL]at hv ⊢
   obtain⟨⟨u,q1,q2⟩,q3⟩:=hv
   obtain⟨r1,r2⟩:=yS m L h2 q3
   exact⟨⟨⟨u,q1,L0 m L h1 q2⟩,r1⟩,by simp[r2]⟩
  ·cases hd
theorem V0(m:Mem Bw w0 ρ φ h w)(L:Lends φ h Bw w h' F'){x y:AVal}(hd:aDk h' x=some y){v:Value}(hv:V (Fr (own φ h) Bw w) ρ x v):V F' lD y v:=by
 unfold aDk at hd
 split at hd
 ·split at hd
  ·rename_i ds h1
   cases hd
   simp only[V]at hv ⊢
   obtain⟨vs,e,hs,hl⟩:=hv
   obtain⟨r1,r2⟩:=yS m L h1 hl
   exact⟨vs,e,by rw[r2];exact hs,r1⟩
  ·cases hd
 ·exact L0 m L hd hv
theorem vJ(m:Mem Bw w0 ρ φ h w)(L:Lends φ h Bw w h' F'):∀ {xs ys:List AVal},sP h' xs=some ys→∀ {vs:List Value},VVs (Fr (own φ h) Bw w) ρ xs vs→VVs F' lD ys vs
 | [],ys,hd,vs,hv=>by
  cases hd
  cases vs with
  | nil=>trivial
  | cons _ _=>exact hv.elim
 | x::xs,ys,hd,vs,hv=>by
  simp only[sP]at hd
  split at hd
  ·rename_i y ys' h1 h2
   cases hd
   cases vs with
   | nil=>exact hv.elim
   | cons v vs=>exact⟨V0 m L h1 hv.1,vJ m L h2 hv.2⟩
  ·cases hd
structure Pure(P:Program)(f:FuncId)(args:List AVal)(r:AVal):Prop where
 fn:∃fn,P.funcs[f]? = some fn∧(fn.name == "runtime.NumGoroutine")=false∧fn.body.isNone=false
 calls:∀(Bw:Nat→Prop) (w:World) (vals:Array Value),K4 P w→(∀k,Bw k→k<w.heap.size)→VVs (Fr hX Bw w) lD args vals.toList →
  Calls P f vals w fun e w'=>∃v,e = .returned v∧Below w.heap.size w w'∧V (fun _=>Fr hX Bw w' false) lD r v
theorem aGc(m:Mem Bw w0 ρ φ h w){o:Oper}{a:Act}{fo:Operand}{argo:Array Operand}{tys:Array TypeId}(ho:o.op = .call { callee:= .value fo,args:=argo,argTypes:=tys })
  {f:FuncId} {caps:List AVal} (hf:V (Fr (own φ h) Bw w) ρ (.fn f caps) (a.eval fo)) {xs:List AVal} (hx:VVs (Fr (own φ h) Bw w) ρ xs (argo.toList.map a.eval)) {args:List AVal} (hl:sP h (xs++caps)=some args)
  {r:AVal} (hp:Pure P f args r):Good P o a w (Post Bw w0 ρ φ h w new r []):=by
 simp only[V]at hf
 obtain⟨vs,hfe,hvs,hcaps⟩:=hf
 obtain⟨fn,hfn,hname,hbody⟩:=hp.fn
 have hlist:∀(cs:List AVal) (us:List Value),us.length=cs.length→VL (Fr (own φ h) Bw w) ρ cs (fun k u=>us[k]? = some u)→VVs (Fr (own φ h) Bw w) ρ cs us:=fun cs=>by
  induction cs with
  | nil=>intro us hl _;cases us with | nil=>trivial | cons _ _=>simp at hl
  | cons c cs ih =>
   intro us hl hv
   cases us with
   | nil=>simp at hl
   | cons u us =>
    simp only[VL]at hv
    obtain⟨⟨u',q1,q2⟩,q3⟩:=hv
    simp at q1
    subst q1
    exact⟨q2,ih us (by simpa using hl) (VL.mono (fun _ _ _ h=>h) (fun _ _ h=>h) (fun k u hk=>by simpa using hk) q3)⟩
 have happ:∀(xs:List AVal) (us:List Value),VVs (Fr (own φ h) Bw w) ρ xs us→VVs (Fr (own φ h) Bw w) ρ (xs++caps) (us++vs.toList):=fun xs=>by
  induction xs with
  | nil =>
   intro us hv
   cases us with
   | nil=>exact hlist caps vs.toList (by simpa using hvs) (VL.mono (fun _ _ _ h=>h) (fun _ _ h=>h) (fun k u hk=>by simpa using hk) hcaps)
   | cons _ _=>exact hv.elim
  | cons x xs ih =>
   intro us hv
   cases us with
   | nil=>exact hv.elim
   | cons u us=>exact⟨hv.1,ih us hv.2⟩
 have hargs:=vJ m Lends.all hl (happ xs _ hx)
 have hbw:∀k,wK φ h Bw k→k<w.heap.size:=fun k hk=>by
  rcases hk with hk | hk
  ·exact m.own_lt hk
  ·exact Nat.lt_of_lt_of_le (w0.lt k (m.bw k hk)) m.kp.size
 have hcall:=hp.calls (wK φ h Bw) w (argo.map a.eval++vs) m.kp.laid hbw (by simpa using hargs)
 refine Good.of_call (f:=f) (args:=argo.map a.eval++vs) (w':=w) ?_ (hcall.mono fun e w' ⟨v,he,hb,hv⟩=>⟨v,he,ρ,φ,?_,?_,fun _ _ h=>h,fun _ _ h=> .inl h,?_⟩)
 ·have n1:¬fn.name = "runtime.NumGoroutine" :=by simpa using hname
  have n2:¬fn.body=none:=fun e=>by rw[e]at hbody;cases hbody
  simp[execOp,ho,resolve,hfe,Deferred.ofValue,invoke,callFunc,hfn,n1,n2]
 ·have hF:∀β a v,Fr (own φ h) Bw w β a v→Fr (own φ h) Bw w' β a v:=fun β a v=>Fr.evo (fun k hk _=>hb.block k hk) (fun k hk=> .inl hk) β a v
  refine⟨fun id ob hid=> ?_,fun id o k h1 h2 h3=>Nat.lt_of_lt_of_le (m.lt id o k h1 h2 h3) hb.size,m.dj,m.bw,m.ow,m.kp.ofBelow hb,m.pin⟩
  obtain⟨u,q1,q2⟩:=m.ob id ob hid
  exact⟨u,q1,OR.mono hF (fun _ _ h=>h) (fun _ h=>h) (fun hl k hk=>hb.block k (m.lt id ob k hid hl hk)) q2⟩
 ·exact fun β a v=>Fr.evo (fun k hk _=>hb.block k hk) (fun k hk=> .inl hk) β a v
 ·refine V.mono (fun β a u hu=> ?_) (fun _ _ h=>by cases h) hv
  exact⟨fun e=>hu.2.1 rfl (.inl e),fun _ e=>hu.2.1 rfl (.inr e),hu.2.2⟩
end
end Go.Tv
