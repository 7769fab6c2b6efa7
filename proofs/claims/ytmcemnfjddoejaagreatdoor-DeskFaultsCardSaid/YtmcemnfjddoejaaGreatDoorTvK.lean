import Derived.Test.YtmcemnfjddoejaaGreatDoorTvIm
namespace Go.Tv
open Go Go.RowKit
def uK(F:Bool→Addr→Value→Prop)(ρ:Nat→QW)(a:Act):Option Operand→Option Int→Prop
 | none,none=>True
 | some x,some i=>∃β k,V F ρ (.p β (.int k) i) (a.eval x)
 | _,_=>False
section
variable{P:Program}{Bw:Nat→Prop}{w0:cu P}{ρ:Nat→QW}{φ:Nat→Nat→Prop}{h:Nat→Qz}{w:World}{new:Nat}
theorem run_sliceBound{k:IntKind}{i:Int}{y:Nat}{c:BoundsCode}(e:0≤i)(f:i≤y):(Instr.sliceBound (.int k i) y c).run P w = .ok i.toNat w:=by
 simp[Instr.sliceBound,asIntOf,e,f]
theorem oX{F:Bool→Addr→Value→Prop}{a:Act}{b:Bool}{len cap:Nat}{f hi:Option Operand}{l r:Option Int}(hl:uK F ρ a f l)(q:uK F ρ a hi r)
  (p:0≤l.getD 0) (c:l.getD 0≤r.getD len) (z:r.getD len≤len) (D:len≤cap) :
  (Instr.sliceBounds b len cap (f.map a.eval) (hi.map a.eval) none).run P w = .ok ((l.getD 0).toNat,(r.getD len).toNat,cap) w:=by
 unfold Instr.sliceBounds;cases hi with
 | none =>
  cases r with
  | some _=>exact q.elim
  | none =>
   simp only[Option.getD_none]at c z;cases f with
   | none =>
    cases l with
    | some _=>exact hl.elim
    | none=>simp
   | some x =>
    cases l with
    | none=>exact hl.elim
    | some i =>
     obtain⟨β,k,u⟩:=hl;simp only[Option.getD_some]at p c;simp[bR u,run_sliceBound p c]
 | some y =>
  cases r with
  | none=>exact q.elim
  | some j =>
   obtain⟨B,C,e⟩:=q;simp only[Option.getD_some]at c z;have A:(Instr.sliceBound (.int C j) cap (if b then .sliceAcap else .sliceAlen)).run P w = .ok j.toNat w:=run_sliceBound (by omega) (by omega);cases f with
   | none =>
    cases l with
    | some _=>exact hl.elim
    | none=>simp[bR e,A]
   | some x =>
    cases l with
    | none=>exact hl.elim
    | some i =>
     obtain⟨β,k,u⟩:=hl;simp only[Option.getD_some]at p c;simp[bR u,bR e,A,run_sliceBound (y:=j.toNat) p (by omega)]
theorem mu{F:Bool→Addr→Value→Prop}{t e:TypeId}{ti f:TI}(ht:aP P t ti)(hk:ti.k = .sl e)(c:aP P e f){a:Act}{ad:Option Addr}{len cap:Nat}{lo hi:Option Operand}{l r:Option Int}(hl:uK F ρ a lo l)(j:uK F ρ a hi r)
  (p:0≤l.getD 0) (q:l.getD 0≤r.getD len) (u:r.getD len≤len) (x:len≤cap) :
  (Instr.sliceAt t (.slice ad len cap) (lo.map a.eval) (hi.map a.eval) none).run P w =
   .ok (.slice (if cap=(l.getD 0).toNat then ad else ad.map (·.add ((l.getD 0).toNat*f.size))) ((r.getD len).toNat - (l.getD 0).toNat) (cap - (l.getD 0).toNat)) w:=by
 have hu:=aY ht hk;have hb:=oX (P:=P) (w:=w) (b:=true) hl j p q u x;simp[Instr.sliceAt,Instr.slice,run_underlying hu,hb,run_sizeOf c]
theorem Mj{F:Bool→Addr→Value→Prop}{c:Nat→QW}{A:Ty}{f:List A.den}{β:Bool}{ad:Option Addr}{len cap:Nat}(j:V F c (.p β (.slice A) f) (.slice ad len cap)){l r size:Nat}(x:size=A.size)(E:l≤r)(I:r≤len):
  V F c (.p β (.slice A) ((f.take r).drop l)) (.slice (if cap=l then ad else ad.map (·.add (l*size))) (r - l) (cap - l)):=by
 subst x;simp only[V,ai]at j ⊢;obtain⟨_,z,q,u,e,⟨hl,J⟩,B⟩:=j;simp only[Value.slice.injEq]at e;obtain⟨rfl,rfl,rfl⟩:=e;refine⟨rfl,_,_,_,rfl,⟨by simp only[List.length_drop,List.length_take];omega,by omega⟩,fun i hi=>?_⟩;simp only[List.length_drop,List.length_take]at hi;obtain⟨b,C,D⟩:=B (l+i) (by omega);subst C;refine⟨b.add (l*A.size),by rw[if_neg (by omega)];rfl,?_⟩;have e:((f.take r).drop l)[i]'(by simp only[List.length_drop,List.length_take];omega)=f[l+i]:=by simp
 rw[e];refine ai.mono (fun _ _ h=>h) (fun k v hk=>?_) D;rw[add_add];rwa [Nat.add_mul,Nat.add_assoc]at hk
theorem oy{F:Bool→Addr→Value→Prop}{c:Nat→QW}{A:Ty}{f:List A.den}{β:Bool}{v:Value}(j:V F c (.p β (.slice A) f) v):∃ad cap,v = .slice ad f.length cap∧f.length≤cap:=by
 simp only[V,ai]at j;obtain⟨_,ad,len,cap,e,⟨hl,u⟩,_⟩:=j;exact⟨ad,cap,by rw[←hl];exact e.symm,by omega⟩
theorem oU(m:Mem Bw w0 ρ φ h w){o:Oper}{a:Act}{t e:TypeId}{ti u:TI}(ht:aP P t ti)(hk:ti.k = .sl e)(c:aP P e u){A:Ty}(hT:u.T=some A){x:Operand}{z hi:Option Operand}(C:o.op = .slice t x z hi none)
  {β:Bool} {xs:List A.den} (j:V (Fr (own φ h) Bw w) ρ (.p β (.slice A) xs) (a.eval x)) {l r:Option Int} (hl:uK (Fr (own φ h) Bw w) ρ a z l) (D:uK (Fr (own φ h) Bw w) ρ a hi r)
  (E:0≤l.getD 0) (I:l.getD 0≤r.getD xs.length) (J:r.getD xs.length≤xs.length) :
  Good P o a w (aG Bw w0 ρ φ h w new (.p β (.slice A) ((xs.take (r.getD xs.length).toNat).drop (l.getD 0).toNat)) []):=by
 obtain⟨ad,cap,B,L⟩:=oy j;obtain⟨q,_,_⟩:=c.hT A hT;have f:=mu (P:=P) (w:=w) ht hk c (ad:=ad) (cap:=cap) hl D E I J L;rw[B]at j;refine Good.aH (v:=_) (w':=w) (by simp only[execOp,C,B,Option.map_none,f,Sem.run_bind,Result.andThen_ok];rfl) (aG.pure m (Mj j q.symm (by omega) (by omega)))
theorem xD(m:Mem Bw w0 ρ φ h w){o:Oper}{a:Act}{t e:TypeId}{ti u:TI}(ht:aP P t ti)(hk:ti.k = .sl e)(f:aP P e u){j:Operand}{p hi:Option Operand}(x:o.op = .slice t j p hi none)
  (q:V (Fr (own φ h) Bw w) ρ .nils (a.eval j)) {l r:Option Int} (hl:uK (Fr (own φ h) Bw w) ρ a p l) (z:uK (Fr (own φ h) Bw w) ρ a hi r)
  (B:0≤l.getD 0) (C:l.getD 0≤r.getD 0) (D:r.getD 0≤0):Good P o a w (aG Bw w0 ρ φ h w new .nils []):=by
 simp only[V]at q;have c:=mu (P:=P) (w:=w) ht hk f (ad:=none) (len:=0) (cap:=0) hl z B C D (Nat.le_refl _);have E:(l.getD 0).toNat=0:=by omega
 have I:(r.getD ((0:Nat):Int)).toNat=0:=by have:r.getD ((0:Nat):Int)=r.getD 0:=rfl;omega
 rw[E,I]at c;refine Good.aH (v:= .slice none 0 0) (w':=w) (by simp only[execOp,x,q,Option.map_none,c,Sem.run_bind,Result.andThen_ok];rfl) (aG.pure m (by simp only[V]))
theorem wJ(m:Mem Bw w0 ρ φ h w){o:Oper}{a:Act}{t:TypeId}{ti:TI}(ht:aP P t ti)(hk:ti.k = .str){j:Operand}{q hi:Option Operand}(u:o.op = .slice t j q hi none)
  {β:Bool} {s:QX} (x:V (Fr (own φ h) Bw w) ρ (.p β .str s) (a.eval j)) {l r:Option Int} (hl:uK (Fr (own φ h) Bw w) ρ a q l) (z:uK (Fr (own φ h) Bw w) ρ a hi r)
  (B:0≤l.getD 0) (C:l.getD 0≤r.getD s.length) (D:r.getD s.length≤s.length) :
  Good P o a w (aG Bw w0 ρ φ h w new (.p false .str ((s.take (r.getD s.length).toNat).drop (l.getD 0).toNat)) []):=by
 obtain⟨d,E,c⟩:=ht.hu;rw[hk]at c;simp only[UK]at c;subst c;have f:(⟨s.toArray⟩:ByteArray).size=s.length:=rfl;have hb:=oX (P:=P) (w:=w) (b:=false) (len:=s.length) (cap:=s.length) hl z B C D (Nat.le_refl _);refine Good.aH (v:= .string ((⟨s.toArray⟩:ByteArray).extract (l.getD 0).toNat (r.getD s.length).toNat)) (w':=w) ?_ (aG.pure m ?_)
 ·simp[execOp,u,Instr.sliceAt,Instr.slice,pT x,run_underlying E,f,hb]
 ·have e:(⟨s.toArray⟩:ByteArray).extract (l.getD 0).toNat (r.getD s.length).toNat=⟨((s.take (r.getD s.length).toNat).drop (l.getD 0).toNat).toArray⟩:=by apply ByteArray.ext;simp[ByteArray.data_extract,List.drop_take]
  rw[e];exact qe _ _
theorem yb(m:Mem Bw w0 ρ φ h w)(hn:ρ new=none){o:Oper}{a:Act}{t e:TypeId}{ti te:TI}(ht:aP P t ti)(hk:ti.k = .sl e)(I:aP P e te){A:Ty}{x:Operand}{hi:Operand}(ho:o.op = .slice t x none (some hi) none)
  {id:Nat} {z:TypeId} {xs:List A.den} (B:h id=some (.arr z A xs)) (hx:V (Fr (own φ h) Bw w) ρ (.sl id) (a.eval x)) {β:Bool} {k:IntKind} {r:Int} (hr:V (Fr (own φ h) Bw w) ρ (.p β (.int k) r) (a.eval hi))
  (h0:0≤r) (h1:r≤xs.length):Good P o a w (aG Bw w0 ρ φ h w new (.sl new) [(id,none),(new,some (.arr z A (xs.take r.toNat)))]):=by
 obtain⟨u,q1,J,hA,cells,r1,r2⟩:=m.ob id _ B;simp only[V]at hx;rw[hx.1]at q1;cases q1;have key:∀ad len cap,a.eval x = .slice ad len cap→len=xs.length→len≤cap→ad=none∨(∃g,ad=some ⟨g,0,none⟩)→(execOp a.eval o).run P w = .ok (.value (.slice ad r.toNat cap)) w:=fun ad len cap L hl hc M=>by
  have c:=mu (P:=P) (w:=w) (F:=Fr (own φ h) Bw w) (ρ:=ρ) (a:=a) ht hk I (ad:=ad) (len:=len) (cap:=cap) (lo:=none) (hi:=some hi) (l:=none) (r:=some r) trivial ⟨β,k,hr⟩ (by simp) (by simpa using h0) (by simp;omega) hc;simp only[Option.map_none,Option.map_some,Option.getD_none,Option.getD_some,Int.toNat_zero,Nat.sub_zero,Nat.zero_mul]at c;simp only[execOp,ho,L,Option.map_none,Option.map_some,c,Sem.run_bind,Result.andThen_ok];rcases M with rfl | ⟨g,rfl⟩
  ·split <;> rfl
  ·split <;> simp[Addr.add]
 have C:∀ad cap,a.eval x = .slice ad xs.length cap→(execOp a.eval o).run P w = .ok (.value (.slice ad r.toNat cap)) w→w.ownsRow 0 z A.size (.slice ad r.toNat cap) (xs.take r.toNat).length (cells.take (r.toNat*A.size)) →
   Good P o a w (aG Bw w0 ρ φ h w new (.sl new) [(id,none),(new,some (.arr z A (xs.take r.toNat)))]):=fun ad cap L c D=>by
  refine Good.aH c ?_;have N:dg (.slice ad r.toNat cap)=dg (a.eval x):=by rw[L];cases ad <;> rfl
  refine cN m (some id) new (.arr z A (xs.take r.toNat)) (.slice ad r.toNat cap) (dg (a.eval x)) ⟨rfl,rfl,rfl,Nat.le_refl _,fun _ _ _=>rfl⟩ (fun k e=>⟨id,_,rfl,B,rfl,J _ e⟩) (.inl hn)
   (fun _ k hk=> .inr (by rw[←N];exact hk)) (fun F' O hF X=>⟨fun _ h=>h,hA,_,D,fun i hi=>?_⟩) (by rw[tw];rfl) (fun _=>rfl) (fun F' O hF X E=>by simp only[V];exact⟨E,_,_,_,rfl⟩)
  simp only[List.length_take]at hi;simp only[List.getElem_take];refine ai.mono (hF _) (fun _ _ h=>h) (ai.gB (fun k v hk hv=>?_) (r2 i (by omega)));have:i*A.size+A.size≤r.toNat*A.size:=by rw[←Nat.succ_mul];exact Nat.mul_le_mul_right _ (by omega)
  rw[List.getElem?_take,if_pos (by omega)];exact hv
 have f:(xs.take r.toNat).length=r.toNat:=by simp only[List.length_take];omega
 rcases r1.2 with⟨e,Y⟩ | ⟨g,cap,Z,e,hb,M,a1,a2,a3,j⟩
 ·have q:r.toNat=0:=by omega
  refine C none 0 (by rw[Y];exact e) (key none 0 0 e (by omega) (Nat.le_refl _) (.inl rfl)) ⟨by rw[f,q];simp,.inl ⟨by rw[q],by rw[f,q]⟩⟩
 ·refine C _ cap e (key _ _ cap e rfl a1 (.inr ⟨g,rfl⟩)) ⟨?_,.inr ⟨g,cap,Z,by rw[f],hb,M,by omega,a2,a3,?_⟩⟩
  ·rw[List.length_take,r1.1,f];have:r.toNat*A.size≤xs.length*A.size:=Nat.mul_le_mul_right _ (by omega);omega
  ·rw[f,←j,List.take_take,Nat.min_eq_left (Nat.mul_le_mul_right _ (by omega))]
/-! ### Calls -/
mutual
def tV:ag→Bool
 | .sl _=>false
 | .mp _=>false
 | .adr _ _ _ _=>false
 | .ada _ _ _ _=>false
 | .fad _ c _=>oZ c
 | .agg c=>oZ c
 | .tup c=>oZ c
 | .fn _ c=>oZ c
 | .p _ _ _=>true
 | .nils=>true
 | .nilp=>true
 | .lit _=>true
 | .lag _ _ _ c=>oZ c
 | .loc _ _ _=>true
 | .suf _ _ _=>false
 | .bfn _ c=>oZ c
 | .unk=>true
def oZ:List ag→Bool
 | []=>true
 | x::xs=>tV x && oZ xs
end
mutual
theorem rC{F:Bool→Addr→Value→Prop}{ρ ρ':Nat→QW}:∀ {x:ag} {v:Value},tV x=true→V F ρ x v→V F ρ' x v
 | .p _ _ _,_,_,c=>by simpa only [V]using c
 | .nils,_,_,c=>by simpa only [V]using c
 | .nilp,_,_,c=>by simpa only [V]using c
 | .lit _,_,_,c=>by simpa only [V]using c
 | .unk,_,_,_=>by simp only[V]
 | .loc _ _ _,_,_,c=>by simpa only [V]using c
 | .suf _ _ _,_,h,_=>by simp[tV]at h
 | .lag _ _ _ q,_,h,c=>by
  simp only[V,tV]at h c ⊢;obtain⟨f,e,j,hl⟩:=c;exact⟨f,e,j,ov h hl⟩
 | .bfn _ q,_,h,c=>by
  simp only[V,tV]at h c ⊢;obtain⟨f,e,j,hl⟩:=c;exact⟨f,e,j,ov h hl⟩
 | .sl _,_,h,_=>by simp[tV]at h
 | .mp _,_,h,_=>by simp[tV]at h
 | .adr _ _ _ _,_,h,_=>by simp[tV]at h
 | .ada _ _ _ _,_,h,_=>by simp[tV]at h
 | .fad _ q _,_,h,c=>by
  simp only[V,tV]at h c ⊢;obtain⟨A,e,hl⟩:=c;exact⟨A,e,ov h hl⟩
 | .agg q,_,h,c=>by
  simp only[V,tV]at h c ⊢;obtain⟨f,e,j,hl⟩:=c;exact⟨f,e,j,ov h hl⟩
 | .tup q,_,h,c=>by
  simp only[V,tV]at h c ⊢;obtain⟨f,e,j,hl⟩:=c;exact⟨f,e,j,ov h hl⟩
 | .fn _ q,_,h,c=>by simp only[V,tV]at h c ⊢;obtain⟨f,e,j,hl⟩:=c;exact⟨f,e,j,ov h hl⟩
theorem ov{F:Bool→Addr→Value→Prop}{ρ ρ':Nat→QW}:∀ {z:List ag} {g:Nat→Value→Prop},oZ z=true→VL F ρ z g→VL F ρ' z g
 | [],_,_,_=>by simp only[VL]
 | x::z,_,h,c=>by simp only[oZ,Bool.and_eq_true]at h;simp only[VL]at c ⊢;obtain⟨⟨u,B,C⟩,D⟩:=c;exact⟨⟨u,B,rC h.1 C⟩,ov h.2 D⟩
end
def wT(h:Nat→Qz)(x:ag):Option ag :=
 match x with
 | .sl id=>match h id with
  | some (.arr _ A c)=>some (.p true (.slice A) c)
  | some (.fz A c)=>some (.p false (.slice A) c)
  | _=>none
 | x=>if tV x then some x else none
def qd(h:Nat→Qz):List ag→Option (List ag)
 | []=>some []
 | x::xs=>match wT h x,qd h xs with
  | some y,some c=>some (y::c)
  | _,_=>none
def sG(h:Nat→Qz)(x:ag):Option ag :=
 match x with
 | .adr id i sz off=>match h id with
  | some (.box c)=>match qd h c with
   | some e=>some (.fad true e (i*sz+off))
   | none=>none
  | _=>none
 | .agg c=>match qd h c with
  | some e=>some (.agg e)
  | none=>none
 | x=>wT h x
def ra(h:Nat→Qz):List ag→Option (List ag)
 | []=>some []
 | x::xs=>match sG h x,ra h xs with
  | some y,some c=>some (y::c)
  | _,_=>none
def BO(h:Nat→Qz)(x:ag):Option ag :=
 match x with
 | .fn f c=>match ra h c with
  | some e=>some (.fn f e)
  | none=>none
 | x=>sG h x
def o5(h:Nat→Qz):List ag→Option (List ag)
 | []=>some []
 | x::xs=>match BO h x,o5 h xs with
  | some y,some c=>some (y::c)
  | _,_=>none
def gr:Nat→Prop:=fun _=>False
def js:Nat→QW:=fun _=>none
def qx(φ:Nat→Nat→Prop)(h:Nat→Qz)(Bw:Nat→Prop):Nat→Prop:=fun k=>own φ h k∨Bw k
theorem Kf{β:Bool}{a:Addr}{v:Value}(c:Fr (own φ h) Bw w β a v):Fr gr (qx φ h Bw) w β a v :=
 ⟨fun e=>e,fun e hk=>hk.elim c.1 (c.2.1 e),c.2.2⟩
structure nj(φ:Nat→Nat→Prop)(h:Nat→Qz)(Bw:Nat→Prop)(w:World)(h':Nat→Qz)(F':Bool→Addr→Value→Prop):Prop where
 sub:∀i o,h' i=some o→h i=some o
 hA:∀β a v,Fr (own φ h) Bw w β a v→F' β a v
 hB:∀id o a v,h' id=some o→o.live=true→φ id a.block→w.cell? a=some v→F' true a v
theorem nj.all:nj φ h Bw w h (Fr gr (qx φ h Bw) w) :=
 ⟨fun _ _ h=>h,fun _ _ _=>Kf,fun _ _ _ _ _ _ _ h=>⟨fun e=>e,fun e=>(by cases e),World.fq h⟩⟩
variable{h':Nat→Qz}{F':Bool→Addr→Value→Prop}
theorem vF(m:Mem Bw w0 ρ φ h w)(L:nj φ h Bw w h' F'){x y:ag}(hd:wT h' x=some y){v:Value}(j:V (Fr (own φ h) Bw w) ρ x v):V F' js y v:=by
 unfold wT at hd;split at hd
 ·rename_i id;simp only[V]at j;obtain⟨c,_⟩:=j;split at hd
  ·rename_i I A z hi;cases hd;obtain⟨u,f,p,_,cells,B,C⟩:=m.ob id _ (L.sub _ _ hi);rw[c]at f;cases f;have D:=lU (F:=Fr (own φ h) Bw w) (F':=F') (ρ':=js) B C true (fun a v h=>L.hA _ _ _ ⟨h.1,fun e=>(by cases e),h.2.2⟩) (fun a v hb h=>L.hB _ _ _ _ hi rfl (p _ hb) h);exact D
  ·rename_i A z hi;cases hd;obtain⟨u,f,E⟩:=m.ob id _ (L.sub _ _ hi);rw[c]at f;cases f;exact rC (ρ:=ρ) rfl (V.mono (ρ:=ρ) L.hA (fun _ _ h=>h) E)
  ·cases hd
 ·split at hd
  ·rename_i q;cases hd;exact rC q (V.mono L.hA (fun _ _ h=>h) j)
  ·cases hd
theorem n4(m:Mem Bw w0 ρ φ h w)(L:nj φ h Bw w h' F'):∀ {e c:List ag},qd h' e=some c→∀ {g:Nat→Value→Prop},VL (Fr (own φ h) Bw w) ρ e g→VL F' js c g∧c.length=e.length
 | [],c,hd,g,_=>by cases hd;exact⟨by simp only[VL],rfl⟩
 | x::e,c,hd,g,f=>by
  simp only[qd]at hd;split at hd
  ·rename_i y j p q;cases hd;simp only[VL]at f ⊢;obtain⟨⟨u,v,z⟩,A⟩:=f;obtain⟨B,C⟩:=n4 m L q A;exact⟨⟨⟨u,v,vF m L p z⟩,B⟩,by simp[C]⟩
  ·cases hd
theorem u7(m:Mem Bw w0 ρ φ h w)(L:nj φ h Bw w h' F'){x y:ag}(hd:sG h' x=some y){v:Value}(j:V (Fr (own φ h) Bw w) ρ x v):V F' js y v:=by
 unfold sG at hd;split at hd
 ·rename_i id i sz off;split at hd
  ·rename_i D hi;split at hd
   ·rename_i E p;cases hd;obtain⟨u,I,q,J,cells,rfl,z,A,C,M⟩:=m.ob id _ (L.sub _ _ hi);simp only[V]at j;obtain⟨g,f,rfl⟩:=j;rw[I]at f;have B:q=g:=by
     rcases f with f | ⟨n,c,f⟩
     ·simpa using f
     ·cases f
    subst B;obtain⟨N,_⟩:=n4 m L p M;simp only[V];refine⟨⟨q,0,none⟩,by rw[cf,Nat.zero_add],VL.mono (fun _ _ _ h=>h) (fun _ _ h=>h) (fun k u hk=>?_) N⟩;rw[cf,Nat.zero_add];exact L.hB _ _ _ _ hi rfl z (by rw[cell_of_row w q k cells J (0,0) A];exact hk)
   ·cases hd
  ·cases hd
 ·rename_i D;split at hd
  ·rename_i E p;cases hd;simp only[V]at j ⊢;obtain⟨O,e,X,hl⟩:=j;obtain⟨A,C⟩:=n4 m L p hl;exact⟨O,e,by rw[C];exact X,A⟩
  ·cases hd
 ·exact vF m L hd j
theorem sA(m:Mem Bw w0 ρ φ h w)(L:nj φ h Bw w h' F'):∀ {e c:List ag},ra h' e=some c→∀ {g:Nat→Value→Prop},VL (Fr (own φ h) Bw w) ρ e g→VL F' js c g∧c.length=e.length
 | [],c,hd,g,_=>by cases hd;exact⟨by simp only[VL],rfl⟩
 | x::e,c,hd,g,f=>by
  simp only[ra]at hd;split at hd
  ·rename_i y j p q;cases hd;simp only[VL]at f ⊢;obtain⟨⟨u,v,z⟩,A⟩:=f;obtain⟨B,C⟩:=sA m L q A;exact⟨⟨⟨u,v,u7 m L p z⟩,B⟩,by simp[C]⟩
  ·cases hd
theorem yd(m:Mem Bw w0 ρ φ h w)(L:nj φ h Bw w h' F'){x y:ag}(hd:BO h' x=some y){v:Value}(c:V (Fr (own φ h) Bw w) ρ x v):V F' js y v:=by
 unfold BO at hd;split at hd
 ·split at hd
  ·rename_i z f;cases hd;simp only[V]at c ⊢;obtain⟨j,e,p,hl⟩:=c;obtain⟨q,u⟩:=sA m L f hl;exact⟨j,e,by rw[u];exact p,q⟩
  ·cases hd
 ·exact u7 m L hd c
theorem qg(m:Mem Bw w0 ρ φ h w)(L:nj φ h Bw w h' F'):∀ {p j:List ag},o5 h' p=some j→∀ {c:QY},iP (Fr (own φ h) Bw w) ρ p c→iP F' js j c
 | [],j,hd,c,e=>by
  cases hd;cases c with
  | nil=>trivial
  | cons _ _=>exact e.elim
 | x::p,j,hd,c,e=>by
  simp only[o5]at hd;split at hd
  ·rename_i y q u z;cases hd;cases c with
   | nil=>exact e.elim
   | cons v c=>exact⟨yd m L u e.1,qg m L z e.2⟩
  ·cases hd
structure Pure(P:Program)(f:FuncId)(args:List ag)(r:ag):Prop where
 fn:∃fn,P.funcs[f]? = some fn∧(fn.name == "runtime.NumGoroutine")=false∧fn.body.isNone=false
 calls:∀(Bw:Nat→Prop) (w:World) (vals:QU),vo P w→(∀k,Bw k→k<w.heap.size)→iP (Fr gr Bw w) js args vals.toList →
  Calls P f vals w fun e w'=>∃v,e = .returned v∧Below w.heap.size w w'∧V (fun _=>Fr gr Bw w' false) js r v
theorem G9(m:Mem Bw w0 ρ φ h w){o:Oper}{a:Act}{fo:Operand}{p:Array Operand}{Y:Array TypeId}(ho:o.op = .call { callee:= .value fo,args:=p,argTypes:=Y })
  {f:FuncId} {q:List ag} (hf:V (Fr (own φ h) Bw w) ρ (.fn f q) (a.eval fo)) {xs:List ag} (hx:iP (Fr (own φ h) Bw w) ρ xs (p.toList.map a.eval)) {args:List ag} (hl:o5 h (xs++q)=some args)
  {r:ag} (hp:Pure P f args r):Good P o a w (aG Bw w0 ρ φ h w new r []):=by
 simp only[V]at hf;obtain⟨O,Z,a1,C⟩:=hf;obtain⟨fn,a2,D,z⟩:=hp.fn;have E:∀(L:List ag) (j:QY),j.length=L.length→VL (Fr (own φ h) Bw w) ρ L (fun k u=>j[k]? = some u)→iP (Fr (own φ h) Bw w) ρ L j:=fun L=>by
  induction L with
  | nil=>intro j hl _;cases j with | nil=>trivial | cons _ _=>simp at hl
  | cons c L ih =>
   intro j hl B;cases j with
   | nil=>simp at hl
   | cons u j =>simp only[VL]at B;obtain⟨⟨u',X,q2⟩,q3⟩:=B;simp at X;subst X;exact⟨q2,ih j (by simpa using hl) (VL.mono (fun _ _ _ h=>h) (fun _ _ h=>h) (fun k u hk=>by simpa using hk) q3)⟩
 have M:∀(xs:List ag) (j:QY),iP (Fr (own φ h) Bw w) ρ xs j→iP (Fr (own φ h) Bw w) ρ (xs++q) (j++O.toList):=fun xs=>by
  induction xs with
  | nil =>
   intro j B;cases j with
   | nil=>exact E q O.toList (by simpa using a1) (VL.mono (fun _ _ _ h=>h) (fun _ _ h=>h) (fun k u hk=>by simpa using hk) C)
   | cons _ _=>exact B.elim
  | cons x xs ih =>
   intro j B;cases j with
   | nil=>exact B.elim
   | cons u j=>exact⟨B.1,ih j B.2⟩
 have I:=qg m nj.all hl (M xs _ hx);have a3:∀k,qx φ h Bw k→k<w.heap.size:=fun k hk=>by
  rcases hk with hk | hk
  ·exact m.rB hk
  ·exact Nat.lt_of_lt_of_le (w0.lt k (m.bw k hk)) m.kp.size
 have J:=hp.calls (qx φ h Bw) w (p.map a.eval++O) m.kp.laid a3 (by simpa using I);refine Good.td (f:=f) (args:=p.map a.eval++O) (w':=w) ?_ (J.mono fun e w' ⟨v,he,hb,B⟩=>⟨v,he,ρ,φ,?_,?_,fun _ _ h=>h,fun _ _ h=> .inl h,?_⟩)
 ·have n1:¬fn.name = "runtime.NumGoroutine" :=by simpa using D
  have n2:¬fn.body=none:=fun e=>by rw[e]at z;cases z
  simp[execOp,ho,resolve,Z,Deferred.ofValue,invoke,callFunc,a2,n1,n2]
 ·have hF:∀β a v,Fr (own φ h) Bw w β a v→Fr (own φ h) Bw w' β a v:=fun β a v=>Fr.Ls (fun k hk _=>hb.block k hk) (fun k hk=> .inl hk) β a v
  refine⟨fun id ob N=>?_,fun id o k h1 h2 h3=>Nat.lt_of_lt_of_le (m.lt id o k h1 h2 h3) hb.size,m.dj,m.bw,m.ow,m.kp.F7 hb,m.pd⟩;obtain⟨u,X,q2⟩:=m.ob id ob N;exact⟨u,X,OR.mono hF (fun _ _ h=>h) (fun _ h=>h) (fun hl k hk=>hb.block k (m.lt id ob k N hl hk)) q2⟩
 ·exact fun β a v=>Fr.Ls (fun k hk _=>hb.block k hk) (fun k hk=> .inl hk) β a v
 ·refine V.mono (fun β a u hu=>?_) (fun _ _ h=>by cases h) B;exact⟨fun e=>hu.2.1 rfl (.inl e),fun _ e=>hu.2.1 rfl (.inr e),hu.2.2⟩
end
end Go.Tv
