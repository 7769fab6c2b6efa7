import Derived.Test.YtobbjfkfmdiklaaGreatDoorTvIm
namespace Go.Tv
open Go Go.RowKit
def tp(F:Bool→Addr→Value→Prop)(ρ:Nat→QW)(a:Act):Option Operand→Option Int→Prop
 | none,none=>True
 | some x,some i=>∃β k,V F ρ (.p β (.int k) i) (a.eval x)
 | _,_=>False
section
variable{P:Program}{Bw:Nat→Prop}{w0:cC P}{ρ:Nat→QW}{φ:Nat→Nat→Prop}{h:Nat→Qz}{w:World}{new:Nat}
theorem run_sliceBound{k:IntKind}{i:Int}{y:Nat}{c:BoundsCode}(j:0≤i)(h1:i≤y):(Instr.sliceBound (.int k i) y c).run P w = .ok i.toNat w:=by
 simp[Instr.sliceBound,asIntOf,j,h1]
theorem n8{F:Bool→Addr→Value→Prop}{a:Act}{b:Bool}{len cap:Nat}{q hi:Option Operand}{l r:Option Int}(hl:tp F ρ a q l)(z:tp F ρ a hi r)
  (u:0≤l.getD 0) (h1:l.getD 0≤r.getD len) (h2:r.getD len≤len) (E:len≤cap) :
  (Instr.sliceBounds b len cap (q.map a.eval) (hi.map a.eval) none).run P w = .ok ((l.getD 0).toNat,(r.getD len).toNat,cap) w:=by
 unfold Instr.sliceBounds;cases hi with
 | none =>
  cases r with
  | some _=>exact z.elim
  | none =>
   simp only[Option.getD_none]at h1 h2;cases q with
   | none =>
    cases l with
    | some _=>exact hl.elim
    | none=>simp
   | some x =>
    cases l with
    | none=>exact hl.elim
    | some i =>
     obtain⟨β,k,A⟩:=hl;simp only[Option.getD_some]at u h1;simp[bQ A,run_sliceBound u h1]
 | some y =>
  cases r with
  | none=>exact z.elim
  | some j =>
   obtain⟨C,D,p⟩:=z;simp only[Option.getD_some]at h1 h2;have B:(Instr.sliceBound (.int D j) cap (if b then .sliceAcap else .sliceAlen)).run P w = .ok j.toNat w:=run_sliceBound (by omega) (by omega);cases q with
   | none =>
    cases l with
    | some _=>exact hl.elim
    | none=>simp[bQ p,B]
   | some x =>
    cases l with
    | none=>exact hl.elim
    | some i =>
     obtain⟨β,k,A⟩:=hl;simp only[Option.getD_some]at u h1;simp[bQ A,bQ p,B,run_sliceBound (y:=j.toNat) u (by omega)]
theorem lY{F:Bool→Addr→Value→Prop}{t e:TypeId}{ti p:TI}(ht:aN P t ti)(hk:ti.k = .sl e)(j:aN P e p){a:Act}{ad:Option Addr}{len cap:Nat}{lo hi:Option Operand}{l r:Option Int}(hl:tp F ρ a lo l)(q:tp F ρ a hi r)
  (u:0≤l.getD 0) (h1:l.getD 0≤r.getD len) (h2:r.getD len≤len) (x:len≤cap) :
  (Instr.sliceAt t (.slice ad len cap) (lo.map a.eval) (hi.map a.eval) none).run P w =
   .ok (.slice (if cap=(l.getD 0).toNat then ad else ad.map (·.add ((l.getD 0).toNat*p.size))) ((r.getD len).toNat - (l.getD 0).toNat) (cap - (l.getD 0).toNat)) w:=by
 have hu:=aY ht hk;have hb:=n8 (P:=P) (w:=w) (b:=true) hl q u h1 h2 x;simp[Instr.sliceAt,Instr.slice,run_underlying hu,hb,run_sizeOf j]
theorem Lw{F:Bool→Addr→Value→Prop}{j:Nat→QW}{A:Ty}{q:List A.den}{β:Bool}{ad:Option Addr}{len cap:Nat}(u:V F j (.p β (.slice A) q) (.slice ad len cap)){l r size:Nat}(B:size=A.size)(h1:l≤r)(h2:r≤len):
  V F j (.p β (.slice A) ((q.take r).drop l)) (.slice (if cap=l then ad else ad.map (·.add (l*size))) (r - l) (cap - l)):=by
 subst B;simp only[V,ai]at u ⊢;obtain⟨_,C,x,z,e,⟨hl,hc⟩,D⟩:=u;simp only[Value.slice.injEq]at e;obtain⟨rfl,rfl,rfl⟩:=e;refine⟨rfl,_,_,_,rfl,⟨by simp only[List.length_drop,List.length_take];omega,by omega⟩,fun i hi=>?_⟩;simp only[List.length_drop,List.length_take]at hi;obtain⟨b,E,I⟩:=D (l+i) (by omega);subst E;refine⟨b.add (l*A.size),by rw[if_neg (by omega)];rfl,?_⟩;have e:((q.take r).drop l)[i]'(by simp only[List.length_drop,List.length_take];omega)=q[l+i]:=by simp
 rw[e];refine ai.mono (fun _ _ h=>h) (fun k v hk=>?_) I;rw[add_add];rwa [Nat.add_mul,Nat.add_assoc]at hk
theorem nM{F:Bool→Addr→Value→Prop}{j:Nat→QW}{A:Ty}{u:List A.den}{β:Bool}{v:Value}(x:V F j (.p β (.slice A) u) v):∃ad cap,v = .slice ad u.length cap∧u.length≤cap:=by
 simp only[V,ai]at x;obtain⟨_,ad,len,cap,e,⟨hl,hc⟩,_⟩:=x;exact⟨ad,cap,by rw[←hl];exact e.symm,by omega⟩
theorem oa(m:Mem Bw w0 ρ φ h w){o:Oper}{a:Act}{t e:TypeId}{ti z:TI}(ht:aN P t ti)(hk:ti.k = .sl e)(j:aN P e z){A:Ty}(hT:z.T=some A){B:Operand}{C hi:Option Operand}(E:o.op = .slice t B C hi none)
  {β:Bool} {xs:List A.den} (u:V (Fr (own φ h) Bw w) ρ (.p β (.slice A) xs) (a.eval B)) {l r:Option Int} (hl:tp (Fr (own φ h) Bw w) ρ a C l) (I:tp (Fr (own φ h) Bw w) ρ a hi r)
  (J:0≤l.getD 0) (h1:l.getD 0≤r.getD xs.length) (h2:r.getD xs.length≤xs.length) :
  Good P o a w (aF Bw w0 ρ φ h w new (.p β (.slice A) ((xs.take (r.getD xs.length).toNat).drop (l.getD 0).toNat)) []):=by
 obtain⟨ad,cap,D,hc⟩:=nM u;obtain⟨x,_,_⟩:=j.hT A hT;have q:=lY (P:=P) (w:=w) ht hk j (ad:=ad) (cap:=cap) hl I J h1 h2 hc;rw[D]at u;refine Good.aG (v:=_) (w':=w) (by simp only[execOp,E,D,Option.map_none,q,Sem.run_bind,Result.andThen_ok];rfl) (aF.pure m (Lw u x.symm (by omega) (by omega)))
theorem wU(m:Mem Bw w0 ρ φ h w){o:Oper}{a:Act}{t e:TypeId}{ti z:TI}(ht:aN P t ti)(hk:ti.k = .sl e)(p:aN P e z){q:Operand}{u hi:Option Operand}(B:o.op = .slice t q u hi none)
  (x:V (Fr (own φ h) Bw w) ρ .nils (a.eval q)) {l r:Option Int} (hl:tp (Fr (own φ h) Bw w) ρ a u l) (C:tp (Fr (own φ h) Bw w) ρ a hi r)
  (D:0≤l.getD 0) (h1:l.getD 0≤r.getD 0) (h2:r.getD 0≤0):Good P o a w (aF Bw w0 ρ φ h w new .nils []):=by
 simp only[V]at x;have j:=lY (P:=P) (w:=w) ht hk p (ad:=none) (len:=0) (cap:=0) hl C D h1 h2 (Nat.le_refl _);have E:(l.getD 0).toNat=0:=by omega
 have I:(r.getD ((0:Nat):Int)).toNat=0:=by have:r.getD ((0:Nat):Int)=r.getD 0:=rfl;omega
 rw[E,I]at j;refine Good.aG (v:= .slice none 0 0) (w':=w) (by simp only[execOp,B,x,Option.map_none,j,Sem.run_bind,Result.andThen_ok];rfl) (aF.pure m (by simp only[V]))
theorem w9(m:Mem Bw w0 ρ φ h w){o:Oper}{a:Act}{t:TypeId}{ti:TI}(ht:aN P t ti)(hk:ti.k = .str){u:Operand}{x hi:Option Operand}(z:o.op = .slice t u x hi none)
  {β:Bool} {s:QX} (B:V (Fr (own φ h) Bw w) ρ (.p β .str s) (a.eval u)) {l r:Option Int} (hl:tp (Fr (own φ h) Bw w) ρ a x l) (C:tp (Fr (own φ h) Bw w) ρ a hi r)
  (D:0≤l.getD 0) (h1:l.getD 0≤r.getD s.length) (h2:r.getD s.length≤s.length) :
  Good P o a w (aF Bw w0 ρ φ h w new (.p false .str ((s.take (r.getD s.length).toNat).drop (l.getD 0).toNat)) []):=by
 obtain⟨d,E,j⟩:=ht.hu;rw[hk]at j;simp only[UK]at j;subst j;have q:(⟨s.toArray⟩:ByteArray).size=s.length:=rfl;have hb:=n8 (P:=P) (w:=w) (b:=false) (len:=s.length) (cap:=s.length) hl C D h1 h2 (Nat.le_refl _);refine Good.aG (v:= .string ((⟨s.toArray⟩:ByteArray).extract (l.getD 0).toNat (r.getD s.length).toNat)) (w':=w) ?_ (aF.pure m ?_)
 ·simp[execOp,z,Instr.sliceAt,Instr.slice,pw B,run_underlying E,q,hb]
 ·have e:(⟨s.toArray⟩:ByteArray).extract (l.getD 0).toNat (r.getD s.length).toNat=⟨((s.take (r.getD s.length).toNat).drop (l.getD 0).toNat).toArray⟩:=by apply ByteArray.ext;simp[ByteArray.data_extract,List.drop_take]
  rw[e];exact pq _ _
theorem vE(m:Mem Bw w0 ρ φ h w)(hn:ρ new=none){o:Oper}{a:Act}{t e:TypeId}{ti te:TI}(ht:aN P t ti)(hk:ti.k = .sl e)(L:aN P e te){A:Ty}{B hi:Operand}(ho:o.op = .slice t B none (some hi) none)
  {id:Nat} {C:TypeId} {xs:List A.den} (D:h id=some (.arr C A xs)) (hx:V (Fr (own φ h) Bw w) ρ (.sl id) (a.eval B)) {β:Bool} {k:IntKind} {r:Int} (hr:V (Fr (own φ h) Bw w) ρ (.p β (.int k) r) (a.eval hi))
  (h0:0≤r) (h1:r≤xs.length):Good P o a w (aF Bw w0 ρ φ h w new (.sl new) [(id,none),(new,some (.arr C A (xs.take r.toNat)))]):=by
 obtain⟨u,q1,M,hA,cells,r1,r2⟩:=m.ob id _ D;simp only[V]at hx;rw[hx.1]at q1;cases q1;have key:∀ad len cap,a.eval B = .slice ad len cap→len=xs.length→len≤cap→ad=none∨(∃g,ad=some ⟨g,0,none⟩)→(execOp a.eval o).run P w = .ok (.value (.slice ad r.toNat cap)) w:=fun ad len cap N hl hc O=>by
  have j:=lY (P:=P) (w:=w) (F:=Fr (own φ h) Bw w) (ρ:=ρ) (a:=a) ht hk L (ad:=ad) (len:=len) (cap:=cap) (lo:=none) (hi:=some hi) (l:=none) (r:=some r) trivial ⟨β,k,hr⟩ (by simp) (by simpa using h0) (by simp;omega) hc;simp only[Option.map_none,Option.map_some,Option.getD_none,Option.getD_some,Int.toNat_zero,Nat.sub_zero,Nat.zero_mul]at j;simp only[execOp,ho,N,Option.map_none,Option.map_some,j,Sem.run_bind,Result.andThen_ok];rcases O with rfl | ⟨g,rfl⟩
  ·split <;> rfl
  ·split <;> simp[Addr.add]
 have E:∀ad cap,a.eval B = .slice ad xs.length cap→(execOp a.eval o).run P w = .ok (.value (.slice ad r.toNat cap)) w→w.ownsRow 0 C A.size (.slice ad r.toNat cap) (xs.take r.toNat).length (cells.take (r.toNat*A.size)) →
   Good P o a w (aF Bw w0 ρ φ h w new (.sl new) [(id,none),(new,some (.arr C A (xs.take r.toNat)))]):=fun ad cap N j I=>by
  refine Good.aG j ?_;have X:dw (.slice ad r.toNat cap)=dw (a.eval B):=by rw[N];cases ad <;> rfl
  refine cT m (some id) new (.arr C A (xs.take r.toNat)) (.slice ad r.toNat cap) (dw (a.eval B)) ⟨rfl,rfl,rfl,Nat.le_refl _,fun _ _ _=>rfl⟩ (fun k e=>⟨id,_,rfl,D,rfl,M _ e⟩) (.inl hn)
   (fun _ k hk=> .inr (by rw[←X];exact hk)) (fun F' Y hF Z=>⟨fun _ h=>h,hA,_,I,fun i hi=>?_⟩) (by rw[rY];rfl) (fun _=>rfl) (fun F' Y hF Z J=>by simp only[V];exact⟨J,_,_,_,rfl⟩)
  simp only[List.length_take]at hi;simp only[List.getElem_take];refine ai.mono (hF _) (fun _ _ h=>h) (ai.gA (fun k v hk hv=>?_) (r2 i (by omega)));have:i*A.size+A.size≤r.toNat*A.size:=by rw[←Nat.succ_mul];exact Nat.mul_le_mul_right _ (by omega)
  rw[List.getElem?_take,if_pos (by omega)];exact hv
 have q:(xs.take r.toNat).length=r.toNat:=by simp only[List.length_take];omega
 rcases r1.2 with⟨e,a1⟩ | ⟨g,cap,a2,e,hb,O,a3,a4,a5,x⟩
 ·have z:r.toNat=0:=by omega
  refine E none 0 (by rw[a1];exact e) (key none 0 0 e (by omega) (Nat.le_refl _) (.inl rfl)) ⟨by rw[q,z];simp,.inl ⟨by rw[z],by rw[q,z]⟩⟩
 ·refine E _ cap e (key _ _ cap e rfl a3 (.inr ⟨g,rfl⟩)) ⟨?_,.inr ⟨g,cap,a2,by rw[q],hb,O,by omega,a4,a5,?_⟩⟩
  ·rw[List.length_take,r1.1,q];have:r.toNat*A.size≤xs.length*A.size:=Nat.mul_le_mul_right _ (by omega);omega
  ·rw[q,←x,List.take_take,Nat.min_eq_left (Nat.mul_le_mul_right _ (by omega))]
/-! ### Calls -/
mutual
def sc:ag→Bool
 | .sl _=>false
 | .mp _=>false
 | .adr _ _ _ _=>false
 | .ada _ _ _ _=>false
 | .fad _ j _=>od j
 | .agg j=>od j
 | .tup j=>od j
 | .fn _ j=>od j
 | .p _ _ _=>true
 | .nils=>true
 | .nilp=>true
 | .lit _=>true
 | .lag _ _ _ j=>od j
 | .loc _ _ _=>true
 | .suf _ _ _=>false
 | .bfn _ j=>od j
 | .unk=>true
def od:List ag→Bool
 | []=>true
 | x::xs=>sc x && od xs
end
mutual
theorem qj{F:Bool→Addr→Value→Prop}{ρ ρ':Nat→QW}:∀ {x:ag} {v:Value},sc x=true→V F ρ x v→V F ρ' x v
 | .p _ _ _,_,_,j=>by simpa only [V]using j
 | .nils,_,_,j=>by simpa only [V]using j
 | .nilp,_,_,j=>by simpa only [V]using j
 | .lit _,_,_,j=>by simpa only [V]using j
 | .unk,_,_,_=>by simp only[V]
 | .loc _ _ _,_,_,j=>by simpa only [V]using j
 | .suf _ _ _,_,h,_=>by simp[sc]at h
 | .lag _ _ _ A,_,h,j=>by
  simp only[V,sc]at h j ⊢;obtain⟨q,e,z,hl⟩:=j;exact⟨q,e,z,n5 h hl⟩
 | .bfn _ A,_,h,j=>by
  simp only[V,sc]at h j ⊢;obtain⟨q,e,z,hl⟩:=j;exact⟨q,e,z,n5 h hl⟩
 | .sl _,_,h,_=>by simp[sc]at h
 | .mp _,_,h,_=>by simp[sc]at h
 | .adr _ _ _ _,_,h,_=>by simp[sc]at h
 | .ada _ _ _ _,_,h,_=>by simp[sc]at h
 | .fad _ A _,_,h,j=>by
  simp only[V,sc]at h j ⊢;obtain⟨C,e,hl⟩:=j;exact⟨C,e,n5 h hl⟩
 | .agg A,_,h,j=>by
  simp only[V,sc]at h j ⊢;obtain⟨q,e,z,hl⟩:=j;exact⟨q,e,z,n5 h hl⟩
 | .tup A,_,h,j=>by
  simp only[V,sc]at h j ⊢;obtain⟨q,e,z,hl⟩:=j;exact⟨q,e,z,n5 h hl⟩
 | .fn _ A,_,h,j=>by simp only[V,sc]at h j ⊢;obtain⟨q,e,z,hl⟩:=j;exact⟨q,e,z,n5 h hl⟩
theorem n5{F:Bool→Addr→Value→Prop}{ρ ρ':Nat→QW}:∀ {B:List ag} {g:Nat→Value→Prop},od B=true→VL F ρ B g→VL F ρ' B g
 | [],_,_,_=>by simp only[VL]
 | x::B,_,h,j=>by simp only[od,Bool.and_eq_true]at h;simp only[VL]at j ⊢;obtain⟨⟨u,D,E⟩,I⟩:=j;exact⟨⟨u,D,qj h.1 E⟩,n5 h.2 I⟩
end
def vd(h:Nat→Qz)(x:ag):Option ag :=
 match x with
 | .sl id=>match h id with
  | some (.arr _ A j)=>some (.p true (.slice A) j)
  | some (.fz A j)=>some (.p false (.slice A) j)
  | _=>none
 | x=>if sc x then some x else none
def o5(h:Nat→Qz):List ag→Option (List ag)
 | []=>some []
 | x::xs=>match vd h x,o5 h xs with
  | some y,some j=>some (y::j)
  | _,_=>none
def rA(h:Nat→Qz)(x:ag):Option ag :=
 match x with
 | .adr id i sz off=>match h id with
  | some (.box j)=>match o5 h j with
   | some p=>some (.fad true p (i*sz+off))
   | none=>none
  | _=>none
 | .agg j=>match o5 h j with
  | some p=>some (.agg p)
  | none=>none
 | x=>vd h x
def qG(h:Nat→Qz):List ag→Option (List ag)
 | []=>some []
 | x::xs=>match rA h x,qG h xs with
  | some y,some j=>some (y::j)
  | _,_=>none
def Cj(h:Nat→Qz)(x:ag):Option ag :=
 match x with
 | .fn f j=>match qG h j with
  | some p=>some (.fn f p)
  | none=>none
 | x=>rA h x
def oh(h:Nat→Qz):List ag→Option (List ag)
 | []=>some []
 | x::xs=>match Cj h x,oh h xs with
  | some y,some j=>some (y::j)
  | _,_=>none
def fK:Nat→Prop:=fun _=>False
def jl:Nat→QW:=fun _=>none
def pS(φ:Nat→Nat→Prop)(h:Nat→Qz)(Bw:Nat→Prop):Nat→Prop:=fun k=>own φ h k∨Bw k
theorem Ji{β:Bool}{a:Addr}{v:Value}(j:Fr (own φ h) Bw w β a v):Fr fK (pS φ h Bw) w β a v :=
 ⟨fun e=>e,fun e hk=>hk.elim j.1 (j.2.1 e),j.2.2⟩
structure mO(φ:Nat→Nat→Prop)(h:Nat→Qz)(Bw:Nat→Prop)(w:World)(h':Nat→Qz)(F':Bool→Addr→Value→Prop):Prop where
 sub:∀i o,h' i=some o→h i=some o
 hA:∀β a v,Fr (own φ h) Bw w β a v→F' β a v
 hB:∀id o a v,h' id=some o→o.live=true→φ id a.block→w.cell? a=some v→F' true a v
theorem mO.all:mO φ h Bw w h (Fr fK (pS φ h Bw) w) :=
 ⟨fun _ _ h=>h,fun _ _ _=>Ji,fun _ _ _ _ _ _ _ h=>⟨fun e=>e,fun e=>(by cases e),World.fB h⟩⟩
variable{h':Nat→Qz}{F':Bool→Addr→Value→Prop}
theorem tX(m:Mem Bw w0 ρ φ h w)(L:mO φ h Bw w h' F'){x y:ag}(hd:vd h' x=some y){v:Value}(q:V (Fr (own φ h) Bw w) ρ x v):V F' jl y v:=by
 unfold vd at hd;split at hd
 ·rename_i id;simp only[V]at q;obtain⟨j,_⟩:=q;split at hd
  ·rename_i M A C hi;cases hd;obtain⟨u,p,z,_,cells,D,E⟩:=m.ob id _ (L.sub _ _ hi);rw[j]at p;cases p;have I:=lJ (F:=Fr (own φ h) Bw w) (F':=F') (ρ':=jl) D E true (fun a v h=>L.hA _ _ _ ⟨h.1,fun e=>(by cases e),h.2.2⟩) (fun a v hb h=>L.hB _ _ _ _ hi rfl (z _ hb) h);exact I
  ·rename_i A C hi;cases hd;obtain⟨u,p,J⟩:=m.ob id _ (L.sub _ _ hi);rw[j]at p;cases p;exact qj (ρ:=ρ) rfl (V.mono (ρ:=ρ) L.hA (fun _ _ h=>h) J)
  ·cases hd
 ·split at hd
  ·rename_i B;cases hd;exact qj B (V.mono L.hA (fun _ _ h=>h) q)
  ·cases hd
theorem nw(m:Mem Bw w0 ρ φ h w)(L:mO φ h Bw w h' F'):∀ {p j:List ag},o5 h' p=some j→∀ {g:Nat→Value→Prop},VL (Fr (own φ h) Bw w) ρ p g→VL F' jl j g∧j.length=p.length
 | [],j,hd,g,_=>by cases hd;exact⟨by simp only[VL],rfl⟩
 | x::p,j,hd,g,q=>by
  simp only[o5]at hd;split at hd
  ·rename_i y v h1 h2;cases hd;simp only[VL]at q ⊢;obtain⟨⟨u,z,A⟩,B⟩:=q;obtain⟨C,D⟩:=nw m L h2 B;exact⟨⟨⟨u,z,tX m L h1 A⟩,C⟩,by simp[D]⟩
  ·cases hd
theorem tQ(m:Mem Bw w0 ρ φ h w)(L:mO φ h Bw w h' F'){x y:ag}(hd:rA h' x=some y){v:Value}(p:V (Fr (own φ h) Bw w) ρ x v):V F' jl y v:=by
 unfold rA at hd;split at hd
 ·rename_i id i sz off;split at hd
  ·rename_i D hi;split at hd
   ·rename_i E h1;cases hd;obtain⟨u,I,q,J,cells,rfl,z,A,C,M⟩:=m.ob id _ (L.sub _ _ hi);simp only[V]at p;obtain⟨g,j,rfl⟩:=p;rw[I]at j;have B:q=g:=by
     rcases j with j | ⟨n,c,j⟩
     ·simpa using j
     ·cases j
    subst B;obtain⟨N,_⟩:=nw m L h1 M;simp only[V];refine⟨⟨q,0,none⟩,by rw[ck,Nat.zero_add],VL.mono (fun _ _ _ h=>h) (fun _ _ h=>h) (fun k u hk=>?_) N⟩;rw[ck,Nat.zero_add];exact L.hB _ _ _ _ hi rfl z (by rw[cell_of_row w q k cells J (0,0) A];exact hk)
   ·cases hd
  ·cases hd
 ·rename_i D;split at hd
  ·rename_i E h1;cases hd;simp only[V]at p ⊢;obtain⟨O,e,X,hl⟩:=p;obtain⟨A,C⟩:=nw m L h1 hl;exact⟨O,e,by rw[C];exact X,A⟩
  ·cases hd
 ·exact tX m L hd p
theorem ss(m:Mem Bw w0 ρ φ h w)(L:mO φ h Bw w h' F'):∀ {p j:List ag},qG h' p=some j→∀ {g:Nat→Value→Prop},VL (Fr (own φ h) Bw w) ρ p g→VL F' jl j g∧j.length=p.length
 | [],j,hd,g,_=>by cases hd;exact⟨by simp only[VL],rfl⟩
 | x::p,j,hd,g,q=>by
  simp only[qG]at hd;split at hd
  ·rename_i y v h1 h2;cases hd;simp only[VL]at q ⊢;obtain⟨⟨u,z,A⟩,B⟩:=q;obtain⟨C,D⟩:=ss m L h2 B;exact⟨⟨⟨u,z,tQ m L h1 A⟩,C⟩,by simp[D]⟩
  ·cases hd
theorem wK(m:Mem Bw w0 ρ φ h w)(L:mO φ h Bw w h' F'){x y:ag}(hd:Cj h' x=some y){v:Value}(j:V (Fr (own φ h) Bw w) ρ x v):V F' jl y v:=by
 unfold Cj at hd;split at hd
 ·split at hd
  ·rename_i A h1;cases hd;simp only[V]at j ⊢;obtain⟨p,e,q,hl⟩:=j;obtain⟨u,z⟩:=ss m L h1 hl;exact⟨p,e,by rw[z];exact q,u⟩
  ·cases hd
 ·exact tQ m L hd j
theorem pf(m:Mem Bw w0 ρ φ h w)(L:mO φ h Bw w h' F'):∀ {u q:List ag},oh h' u=some q→∀ {j:QY},iS (Fr (own φ h) Bw w) ρ u j→iS F' jl q j
 | [],q,hd,j,p=>by
  cases hd;cases j with
  | nil=>trivial
  | cons _ _=>exact p.elim
 | x::u,q,hd,j,p=>by
  simp only[oh]at hd;split at hd
  ·rename_i y z h1 h2;cases hd;cases j with
   | nil=>exact p.elim
   | cons v j=>exact⟨wK m L h1 p.1,pf m L h2 p.2⟩
  ·cases hd
structure Pure(P:Program)(f:FuncId)(args:List ag)(r:ag):Prop where
 fn:∃fn,P.funcs[f]? = some fn∧(fn.name == "runtime.NumGoroutine")=false∧fn.body.isNone=false
 calls:∀(Bw:Nat→Prop) (w:World) (vals:QU),tM P w→(∀k,Bw k→k<w.heap.size)→iS (Fr fK Bw w) jl args vals.toList →
  Calls P f vals w fun e w'=>∃v,e = .returned v∧Below w.heap.size w w'∧V (fun _=>Fr fK Bw w' false) jl r v
theorem F0(m:Mem Bw w0 ρ φ h w){o:Oper}{a:Act}{fo:Operand}{p:Array Operand}{X:Array TypeId}(ho:o.op = .call { callee:= .value fo,args:=p,argTypes:=X })
  {f:FuncId} {q:List ag} (hf:V (Fr (own φ h) Bw w) ρ (.fn f q) (a.eval fo)) {xs:List ag} (hx:iS (Fr (own φ h) Bw w) ρ xs (p.toList.map a.eval)) {args:List ag} (hl:oh h (xs++q)=some args)
  {r:ag} (hp:Pure P f args r):Good P o a w (aF Bw w0 ρ φ h w new r []):=by
 simp only[V]at hf;obtain⟨N,Y,Z,C⟩:=hf;obtain⟨fn,a1,hname,z⟩:=hp.fn;have D:∀(J:List ag) (j:QY),j.length=J.length→VL (Fr (own φ h) Bw w) ρ J (fun k u=>j[k]? = some u)→iS (Fr (own φ h) Bw w) ρ J j:=fun J=>by
  induction J with
  | nil=>intro j hl _;cases j with | nil=>trivial | cons _ _=>simp at hl
  | cons c J ih =>
   intro j hl B;cases j with
   | nil=>simp at hl
   | cons u j =>simp only[VL]at B;obtain⟨⟨u',O,q2⟩,q3⟩:=B;simp at O;subst O;exact⟨q2,ih j (by simpa using hl) (VL.mono (fun _ _ _ h=>h) (fun _ _ h=>h) (fun k u hk=>by simpa using hk) q3)⟩
 have L:∀(xs:List ag) (j:QY),iS (Fr (own φ h) Bw w) ρ xs j→iS (Fr (own φ h) Bw w) ρ (xs++q) (j++N.toList):=fun xs=>by
  induction xs with
  | nil =>
   intro j B;cases j with
   | nil=>exact D q N.toList (by simpa using Z) (VL.mono (fun _ _ _ h=>h) (fun _ _ h=>h) (fun k u hk=>by simpa using hk) C)
   | cons _ _=>exact B.elim
  | cons x xs ih =>
   intro j B;cases j with
   | nil=>exact B.elim
   | cons u j=>exact⟨B.1,ih j B.2⟩
 have E:=pf m mO.all hl (L xs _ hx);have a2:∀k,pS φ h Bw k→k<w.heap.size:=fun k hk=>by
  rcases hk with hk | hk
  ·exact m.wS hk
  ·exact Nat.lt_of_lt_of_le (w0.lt k (m.bw k hk)) m.kp.size
 have I:=hp.calls (pS φ h Bw) w (p.map a.eval++N) m.kp.laid a2 (by simpa using E);refine Good.sn (f:=f) (args:=p.map a.eval++N) (w':=w) ?_ (I.mono fun e w' ⟨v,he,hb,B⟩=>⟨v,he,ρ,φ,?_,?_,fun _ _ h=>h,fun _ _ h=> .inl h,?_⟩)
 ·have n1:¬fn.name = "runtime.NumGoroutine" :=by simpa using hname
  have n2:¬fn.body=none:=fun e=>by rw[e]at z;cases z
  simp[execOp,ho,resolve,Y,Deferred.ofValue,invoke,callFunc,a1,n1,n2]
 ·have hF:∀β a v,Fr (own φ h) Bw w β a v→Fr (own φ h) Bw w' β a v:=fun β a v=>Fr.KR (fun k hk _=>hb.block k hk) (fun k hk=> .inl hk) β a v
  refine⟨fun id ob M=>?_,fun id o k h1 h2 h3=>Nat.lt_of_lt_of_le (m.lt id o k h1 h2 h3) hb.size,m.dj,m.bw,m.ow,m.kp.E2 hb,m.pc⟩;obtain⟨u,O,q2⟩:=m.ob id ob M;exact⟨u,O,OR.mono hF (fun _ _ h=>h) (fun _ h=>h) (fun hl k hk=>hb.block k (m.lt id ob k M hl hk)) q2⟩
 ·exact fun β a v=>Fr.KR (fun k hk _=>hb.block k hk) (fun k hk=> .inl hk) β a v
 ·refine V.mono (fun β a u hu=>?_) (fun _ _ h=>by cases h) B;exact⟨fun e=>hu.2.1 rfl (.inl e),fun _ e=>hu.2.1 rfl (.inr e),hu.2.2⟩
end
end Go.Tv
