import Derived.Test.YtbedjpdfkmfplaaGreatDoorTvIm
namespace Go.Tv
open Go Go.RowKit
def uc(F:Bool→Addr→Value→Prop)(ρ:Nat→QW)(a:Act):Option Operand→Option Int→Prop
 | none,none=>True
 | some x,some i=>∃β k,V F ρ (.p β (.int k) i) (a.eval x)
 | _,_=>False
section
variable{P:Program}{Bw:Nat→Prop}{w0:cE P}{ρ:Nat→QW}{φ:Nat→Nat→Prop}{h:Nat→Qz}{w:World}{new:Nat}
theorem run_sliceBound{k:IntKind}{i:Int}{y:Nat}{c:BoundsCode}(e:0≤i)(f:i≤y):(Instr.sliceBound (.int k i) y c).run P w = .ok i.toNat w:=by
 simp[Instr.sliceBound,asIntOf,e,f]
theorem o8{F:Bool→Addr→Value→Prop}{a:Act}{b:Bool}{len cap:Nat}{q hi:Option Operand}{l r:Option Int}(hl:uc F ρ a q l)(z:uc F ρ a hi r)
  (u:0≤l.getD 0) (e:l.getD 0≤r.getD len) (B:r.getD len≤len) (I:len≤cap) :
  (Instr.sliceBounds b len cap (q.map a.eval) (hi.map a.eval) none).run P w = .ok ((l.getD 0).toNat,(r.getD len).toNat,cap) w:=by
 unfold Instr.sliceBounds;cases hi with
 | none =>
  cases r with
  | some _=>exact z.elim
  | none =>
   simp only[Option.getD_none]at e B;cases q with
   | none =>
    cases l with
    | some _=>exact hl.elim
    | none=>simp
   | some x =>
    cases l with
    | none=>exact hl.elim
    | some i =>
     obtain⟨β,k,A⟩:=hl;simp only[Option.getD_some]at u e;simp[bR A,run_sliceBound u e]
 | some y =>
  cases r with
  | none=>exact z.elim
  | some j =>
   obtain⟨D,E,f⟩:=z;simp only[Option.getD_some]at e B;have C:(Instr.sliceBound (.int E j) cap (if b then .sliceAcap else .sliceAlen)).run P w = .ok j.toNat w:=run_sliceBound (by omega) (by omega);cases q with
   | none =>
    cases l with
    | some _=>exact hl.elim
    | none=>simp[bR f,C]
   | some x =>
    cases l with
    | none=>exact hl.elim
    | some i =>
     obtain⟨β,k,A⟩:=hl;simp only[Option.getD_some]at u e;simp[bR A,bR f,C,run_sliceBound (y:=j.toNat) u (by omega)]
theorem mC{F:Bool→Addr→Value→Prop}{t e:TypeId}{ti j:TI}(ht:aO P t ti)(hk:ti.k = .sl e)(f:aO P e j){a:Act}{ad:Option Addr}{len cap:Nat}{lo hi:Option Operand}{l r:Option Int}(hl:uc F ρ a lo l)(q:uc F ρ a hi r)
  (u:0≤l.getD 0) (z:l.getD 0≤r.getD len) (A:r.getD len≤len) (B:len≤cap) :
  (Instr.sliceAt t (.slice ad len cap) (lo.map a.eval) (hi.map a.eval) none).run P w =
   .ok (.slice (if cap=(l.getD 0).toNat then ad else ad.map (·.add ((l.getD 0).toNat*j.size))) ((r.getD len).toNat - (l.getD 0).toNat) (cap - (l.getD 0).toNat)) w:=by
 have hu:=aX ht hk;have hb:=o8 (P:=P) (w:=w) (b:=true) hl q u z A B;simp[Instr.sliceAt,Instr.slice,run_underlying hu,hb,run_sizeOf f]
theorem L0{F:Bool→Addr→Value→Prop}{f:Nat→QW}{A:Ty}{j:List A.den}{β:Bool}{ad:Option Addr}{len cap:Nat}(q:V F f (.p β (.slice A) j) (.slice ad len cap)){l r size:Nat}(B:size=A.size)(J:l≤r)(L:r≤len):
  V F f (.p β (.slice A) ((j.take r).drop l)) (.slice (if cap=l then ad else ad.map (·.add (l*size))) (r - l) (cap - l)):=by
 subst B;simp only[V,ai]at q ⊢;obtain⟨_,C,u,z,e,⟨hl,M⟩,D⟩:=q;simp only[Value.slice.injEq]at e;obtain⟨rfl,rfl,rfl⟩:=e;refine⟨rfl,_,_,_,rfl,⟨by simp only[List.length_drop,List.length_take];omega,by omega⟩,fun i hi=>?_⟩;simp only[List.length_drop,List.length_take]at hi;obtain⟨b,E,I⟩:=D (l+i) (by omega);subst E;refine⟨b.add (l*A.size),by rw[if_neg (by omega)];rfl,?_⟩;have e:((j.take r).drop l)[i]'(by simp only[List.length_drop,List.length_take];omega)=j[l+i]:=by simp
 rw[e];refine ai.mono (fun _ _ h=>h) (fun k v hk=>?_) I;rw[add_add];rwa [Nat.add_mul,Nat.add_assoc]at hk
theorem nZ{F:Bool→Addr→Value→Prop}{e:Nat→QW}{A:Ty}{f:List A.den}{β:Bool}{v:Value}(j:V F e (.p β (.slice A) f) v):∃ad cap,v = .slice ad f.length cap∧f.length≤cap:=by
 grind (splits:=6) (ematch:=4) [V,ai]
theorem pa(m:Mem Bw w0 ρ φ h w){o:Oper}{a:Act}{t e:TypeId}{ti z:TI}(ht:aO P t ti)(hk:ti.k = .sl e)(f:aO P e z){A:Ty}(hT:z.T=some A){B:Operand}{C hi:Option Operand}(E:o.op = .slice t B C hi none)
  {β:Bool} {xs:List A.den} (q:V (Fr (own φ h) Bw w) ρ (.p β (.slice A) xs) (a.eval B)) {l r:Option Int} (hl:uc (Fr (own φ h) Bw w) ρ a C l) (I:uc (Fr (own φ h) Bw w) ρ a hi r)
  (J:0≤l.getD 0) (L:l.getD 0≤r.getD xs.length) (M:r.getD xs.length≤xs.length) :
  Good P o a w (aG Bw w0 ρ φ h w new (.p β (.slice A) ((xs.take (r.getD xs.length).toNat).drop (l.getD 0).toNat)) []):=by
 obtain⟨ad,cap,D,N⟩:=nZ q;obtain⟨u,_,_⟩:=f.hT A hT;have j:=mC (P:=P) (w:=w) ht hk f (ad:=ad) (cap:=cap) hl I J L M N;rw[D]at q;refine Good.aH (v:=_) (w':=w) (by simp only[execOp,E,D,Option.map_none,j,Sem.run_bind,Result.andThen_ok];rfl) (aG.pure m (L0 q u.symm (by omega) (by omega)))
theorem yg(m:Mem Bw w0 ρ φ h w){o:Oper}{a:Act}{t e:TypeId}{ti B:TI}(ht:aO P t ti)(hk:ti.k = .sl e)(j:aO P e B){q:Operand}{u hi:Option Operand}(C:o.op = .slice t q u hi none)
  (z:V (Fr (own φ h) Bw w) ρ .nils (a.eval q)) {l r:Option Int} (hl:uc (Fr (own φ h) Bw w) ρ a u l) (D:uc (Fr (own φ h) Bw w) ρ a hi r)
  (E:0≤l.getD 0) (I:l.getD 0≤r.getD 0) (J:r.getD 0≤0):Good P o a w (aG Bw w0 ρ φ h w new .nils []):=by
 simp only[V]at z;have f:=mC (P:=P) (w:=w) ht hk j (ad:=none) (len:=0) (cap:=0) hl D E I J (Nat.le_refl _);have L:(l.getD 0).toNat=0:=by omega
 have M:(r.getD ((0:Nat):Int)).toNat=0:=by simp_all
 rw[L,M]at f;refine Good.aH (v:= .slice none 0 0) (w':=w) (by simp only[execOp,C,z,Option.map_none,f,Sem.run_bind,Result.andThen_ok];rfl) (aG.pure m (by simp only[V]))
theorem yj(m:Mem Bw w0 ρ φ h w){o:Oper}{a:Act}{t:TypeId}{ti:TI}(ht:aO P t ti)(hk:ti.k = .str){q:Operand}{u hi:Option Operand}(z:o.op = .slice t q u hi none)
  {β:Bool} {s:QX} (B:V (Fr (own φ h) Bw w) ρ (.p β .str s) (a.eval q)) {l r:Option Int} (hl:uc (Fr (own φ h) Bw w) ρ a u l) (C:uc (Fr (own φ h) Bw w) ρ a hi r)
  (D:0≤l.getD 0) (E:l.getD 0≤r.getD s.length) (I:r.getD s.length≤s.length) :
  Good P o a w (aG Bw w0 ρ φ h w new (.p false .str ((s.take (r.getD s.length).toNat).drop (l.getD 0).toNat)) []):=by
 obtain⟨d,J,f⟩:=ht.hu;rw[hk]at f;simp only[UK]at f;subst f;have j:(⟨s.toArray⟩:ByteArray).size=s.length:=rfl;have hb:=o8 (P:=P) (w:=w) (b:=false) (len:=s.length) (cap:=s.length) hl C D E I (Nat.le_refl _);refine Good.aH (v:= .string ((⟨s.toArray⟩:ByteArray).extract (l.getD 0).toNat (r.getD s.length).toNat)) (w':=w) ?_ (aG.pure m ?_)
 ·simp[execOp,z,Instr.sliceAt,Instr.slice,pQ B,run_underlying J,j,hb]
 ·have e:(⟨s.toArray⟩:ByteArray).extract (l.getD 0).toNat (r.getD s.length).toNat=⟨((s.take (r.getD s.length).toNat).drop (l.getD 0).toNat).toArray⟩:=by apply ByteArray.ext;simp[ByteArray.data_extract,List.drop_take]
  rw[e];exact qm _ _
theorem xd(m:Mem Bw w0 ρ φ h w)(hn:ρ new=none){o:Oper}{a:Act}{t e:TypeId}{ti te:TI}(ht:aO P t ti)(hk:ti.k = .sl e)(L:aO P e te){A:Ty}{B hi:Operand}(ho:o.op = .slice t B none (some hi) none)
  {id:Nat} {C:TypeId} {xs:List A.den} (D:h id=some (.arr C A xs)) (hx:V (Fr (own φ h) Bw w) ρ (.sl id) (a.eval B)) {β:Bool} {k:IntKind} {r:Int} (hr:V (Fr (own φ h) Bw w) ρ (.p β (.int k) r) (a.eval hi))
  (h0:0≤r) (h1:r≤xs.length):Good P o a w (aG Bw w0 ρ φ h w new (.sl new) [(id,none),(new,some (.arr C A (xs.take r.toNat)))]):=by
 obtain⟨u,q1,M,hA,cells,r1,r2⟩:=m.ob id _ D;simp only[V]at hx;rw[hx.1]at q1;cases q1;have key:∀ad len cap,a.eval B = .slice ad len cap→len=xs.length→len≤cap→ad=none∨(∃g,ad=some ⟨g,0,none⟩)→(execOp a.eval o).run P w = .ok (.value (.slice ad r.toNat cap)) w:=fun ad len cap N hl hc O=>by
  have f:=mC (P:=P) (w:=w) (F:=Fr (own φ h) Bw w) (ρ:=ρ) (a:=a) ht hk L (ad:=ad) (len:=len) (cap:=cap) (lo:=none) (hi:=some hi) (l:=none) (r:=some r) trivial ⟨β,k,hr⟩ (by simp) (by simpa using h0) (by simp;omega) hc;simp only[Option.map_none,Option.map_some,Option.getD_none,Option.getD_some,Int.toNat_zero,Nat.sub_zero,Nat.zero_mul]at f;simp only[execOp,ho,N,Option.map_none,Option.map_some,f,Sem.run_bind,Result.andThen_ok];rcases O with rfl | ⟨g,rfl⟩
  ·split <;> rfl
  ·split <;> simp[Addr.add]
 have E:∀ad cap,a.eval B = .slice ad xs.length cap→(execOp a.eval o).run P w = .ok (.value (.slice ad r.toNat cap)) w→w.ownsRow 0 C A.size (.slice ad r.toNat cap) (xs.take r.toNat).length (cells.take (r.toNat*A.size)) →
   Good P o a w (aG Bw w0 ρ φ h w new (.sl new) [(id,none),(new,some (.arr C A (xs.take r.toNat)))]):=fun ad cap N f I=>by
  refine Good.aH f ?_;have X:dH (.slice ad r.toNat cap)=dH (a.eval B):=by rw[N];cases ad <;> rfl
  refine cV m (some id) new (.arr C A (xs.take r.toNat)) (.slice ad r.toNat cap) (dH (a.eval B)) ⟨rfl,rfl,rfl,Nat.le_refl _,fun _ _ _=>rfl⟩ (fun k e=>⟨id,_,rfl,D,rfl,M _ e⟩) (.inl hn)
   (fun _ k hk=> .inr (by rw[←X];exact hk)) (fun F' Y hF Z=>⟨fun _ h=>h,hA,_,I,fun i hi=>?_⟩) (by rw[su];rfl) (fun _=>rfl) (fun F' Y hF Z J=>by simp only[V];exact⟨J,_,_,_,rfl⟩)
  simp only[List.length_take]at hi;simp only[List.getElem_take];refine ai.mono (hF _) (fun _ _ h=>h) (ai.gV (fun k v hk hv=>?_) (r2 i (by omega)));have:i*A.size+A.size≤r.toNat*A.size:=by rw[←Nat.succ_mul];exact Nat.mul_le_mul_right _ (by omega)
  rw[List.getElem?_take,if_pos (by omega)];exact hv
 have j:(xs.take r.toNat).length=r.toNat:=by simp only[List.length_take];omega
 rcases r1.2 with⟨e,a1⟩ | ⟨g,cap,a2,e,hb,O,a3,a4,a5,q⟩
 ·have z:r.toNat=0:=by omega
  refine E none 0 (by rw[a1];exact e) (key none 0 0 e (by omega) (Nat.le_refl _) (.inl rfl)) ⟨by rw[j,z];simp,.inl ⟨by rw[z],by rw[j,z]⟩⟩
 ·refine E _ cap e (key _ _ cap e rfl a3 (.inr ⟨g,rfl⟩)) ⟨?_,.inr ⟨g,cap,a2,by rw[j],hb,O,by omega,a4,a5,?_⟩⟩
  ·grind (splits:=6) (ematch:=4) [List.length_take,Nat.mul_le_mul_right]
  ·rw[j,←q,List.take_take,Nat.min_eq_left (Nat.mul_le_mul_right _ (by omega))]
/-! ### Calls -/
mutual
def sr:ag→Bool
 | .sl _=>false
 | .mp _=>false
 | .adr _ _ _ _=>false
 | .ada _ _ _ _=>false
 | .fad _ e _=>oZ e
 | .agg e=>oZ e
 | .tup e=>oZ e
 | .fn _ e=>oZ e
 | .p _ _ _=>true
 | .nils=>true
 | .nilp=>true
 | .lit _=>true
 | .lag _ _ _ e=>oZ e
 | .loc _ _ _=>true
 | .suf _ _ _=>false
 | .bfn _ e=>oZ e
 | .unk=>true
def oZ:List ag→Bool
 | []=>true
 | x::xs=>sr x && oZ xs
end
mutual
theorem rE{F:Bool→Addr→Value→Prop}{ρ ρ':Nat→QW}:∀ {x:ag} {v:Value},sr x=true→V F ρ x v→V F ρ' x v
 | .p _ _ _,_,_,f=>by simpa only [V]using f
 | .nils,_,_,f=>by simpa only [V]using f
 | .nilp,_,_,f=>by simpa only [V]using f
 | .lit _,_,_,f=>by simpa only [V]using f
 | .unk,_,_,_=>by simp only[V]
 | .loc _ _ _,_,_,f=>by simpa only [V]using f
 | .suf _ _ _,_,h,_=>by simp[sr]at h
 | .lag _ _ _ z,_,h,f=>by
  simp only[V,sr]at h f ⊢;obtain⟨j,e,q,hl⟩:=f;exact⟨j,e,q,od h hl⟩
 | .bfn _ z,_,h,f=>by
  simp only[V,sr]at h f ⊢;obtain⟨j,e,q,hl⟩:=f;exact⟨j,e,q,od h hl⟩
 | .sl _,_,h,_=>by simp[sr]at h
 | .mp _,_,h,_=>by simp[sr]at h
 | .adr _ _ _ _,_,h,_=>by simp[sr]at h
 | .ada _ _ _ _,_,h,_=>by simp[sr]at h
 | .fad _ z _,_,h,f=>by
  simp only[V,sr]at h f ⊢;obtain⟨B,e,hl⟩:=f;exact⟨B,e,od h hl⟩
 | .agg z,_,h,f=>by
  simp only[V,sr]at h f ⊢;obtain⟨j,e,q,hl⟩:=f;exact⟨j,e,q,od h hl⟩
 | .tup z,_,h,f=>by
  simp only[V,sr]at h f ⊢;obtain⟨j,e,q,hl⟩:=f;exact⟨j,e,q,od h hl⟩
 | .fn _ z,_,h,f=>by simp only[V,sr]at h f ⊢;obtain⟨j,e,q,hl⟩:=f;exact⟨j,e,q,od h hl⟩
theorem od{F:Bool→Addr→Value→Prop}{ρ ρ':Nat→QW}:∀ {A:List ag} {g:Nat→Value→Prop},oZ A=true→VL F ρ A g→VL F ρ' A g
 | [],_,_,_=>by simp only[VL]
 | x::A,_,h,f=>by simp only[oZ,Bool.and_eq_true]at h;simp only[VL]at f ⊢;obtain⟨⟨u,C,D⟩,E⟩:=f;exact⟨⟨u,C,rE h.1 D⟩,od h.2 E⟩
end
def xa(h:Nat→Qz)(x:ag):Option ag :=
 match x with
 | .sl id=>match h id with
  | some (.arr _ A e)=>some (.p true (.slice A) e)
  | some (.fz A e)=>some (.p false (.slice A) e)
  | _=>none
 | x=>if sr x then some x else none
def pJ(h:Nat→Qz):List ag→Option (List ag)
 | []=>some []
 | x::xs=>match xa h x,pJ h xs with
  | some y,some e=>some (y::e)
  | _,_=>none
def tQ(h:Nat→Qz)(x:ag):Option ag :=
 match x with
 | .adr id i sz off=>match h id with
  | some (.box e)=>match pJ h e with
   | some f=>some (.fad true f (i*sz+off))
   | none=>none
  | _=>none
 | .agg e=>match pJ h e with
  | some f=>some (.agg f)
  | none=>none
 | x=>xa h x
def rS(h:Nat→Qz):List ag→Option (List ag)
 | []=>some []
 | x::xs=>match tQ h x,rS h xs with
  | some y,some e=>some (y::e)
  | _,_=>none
def BV(h:Nat→Qz)(x:ag):Option ag :=
 match x with
 | .fn f e=>match rS h e with
  | some j=>some (.fn f j)
  | none=>none
 | x=>tQ h x
def o5(h:Nat→Qz):List ag→Option (List ag)
 | []=>some []
 | x::xs=>match BV h x,o5 h xs with
  | some y,some e=>some (y::e)
  | _,_=>none
def gJ:Nat→Prop:=fun _=>False
def jF:Nat→QW:=fun _=>none
def qK(φ:Nat→Nat→Prop)(h:Nat→Qz)(Bw:Nat→Prop):Nat→Prop:=fun k=>own φ h k∨Bw k
theorem KQ{β:Bool}{a:Addr}{v:Value}(f:Fr (own φ h) Bw w β a v):Fr gJ (qK φ h Bw) w β a v :=
 ⟨fun e=>e,fun e hk=>hk.elim f.1 (f.2.1 e),f.2.2⟩
structure nD(φ:Nat→Nat→Prop)(h:Nat→Qz)(Bw:Nat→Prop)(w:World)(h':Nat→Qz)(F':Bool→Addr→Value→Prop):Prop where
 sub:∀i o,h' i=some o→h i=some o
 hA:∀β a v,Fr (own φ h) Bw w β a v→F' β a v
 hB:∀id o a v,h' id=some o→o.live=true→φ id a.block→w.cell? a=some v→F' true a v
theorem nD.all:nD φ h Bw w h (Fr gJ (qK φ h Bw) w) :=
 ⟨fun _ _ h=>h,fun _ _ _=>KQ,fun _ _ _ _ _ _ _ h=>⟨fun e=>e,fun e=>(by cases e),World.fM h⟩⟩
variable{h':Nat→Qz}{F':Bool→Addr→Value→Prop}
theorem u7(m:Mem Bw w0 ρ φ h w)(L:nD φ h Bw w h' F'){x y:ag}(hd:xa h' x=some y){v:Value}(q:V (Fr (own φ h) Bw w) ρ x v):V F' jF y v:=by
 unfold xa at hd;split at hd
 ·rename_i id;simp only[V]at q;obtain⟨f,_⟩:=q;split at hd
  ·rename_i M A C hi;cases hd;obtain⟨u,j,z,_,cells,D,E⟩:=m.ob id _ (L.sub _ _ hi);rw[f]at j;cases j;have I:=lT (F:=Fr (own φ h) Bw w) (F':=F') (ρ':=jF) D E true (fun a v h=>L.hA _ _ _ ⟨h.1,fun e=>(by cases e),h.2.2⟩) (fun a v hb h=>L.hB _ _ _ _ hi rfl (z _ hb) h);exact I
  ·rename_i A C hi;cases hd;obtain⟨u,j,J⟩:=m.ob id _ (L.sub _ _ hi);rw[f]at j;cases j;exact rE (ρ:=ρ) rfl (V.mono (ρ:=ρ) L.hA (fun _ _ h=>h) J)
  ·cases hd
 ·split at hd
  ·rename_i B;cases hd;exact rE B (V.mono L.hA (fun _ _ h=>h) q)
  ·cases hd
theorem oT(m:Mem Bw w0 ρ φ h w)(L:nD φ h Bw w h' F'):∀ {f e:List ag},pJ h' f=some e→∀ {g:Nat→Value→Prop},VL (Fr (own φ h) Bw w) ρ f g→VL F' jF e g∧e.length=f.length
 | [],e,hd,g,_=>by cases hd;exact⟨by simp only[VL],rfl⟩
 | x::f,e,hd,g,j=>by
  simp only[pJ]at hd;split at hd
  ·rename_i y q v z;cases hd;simp only[VL]at j ⊢;obtain⟨⟨u,A,B⟩,C⟩:=j;obtain⟨D,E⟩:=oT m L z C;exact⟨⟨⟨u,A,u7 m L v B⟩,D⟩,by simp[E]⟩
  ·cases hd
theorem vk(m:Mem Bw w0 ρ φ h w)(L:nD φ h Bw w h' F'){x y:ag}(hd:tQ h' x=some y){v:Value}(e:V (Fr (own φ h) Bw w) ρ x v):V F' jF y v:=by
 unfold tQ at hd;split at hd
 ·rename_i id i sz off;split at hd
  ·rename_i J hi;split at hd
   ·rename_i M z;cases hd;obtain⟨u,A,f,B,cells,rfl,j,C,N,D⟩:=m.ob id _ (L.sub _ _ hi);simp only[V]at e;obtain⟨g,E,rfl⟩:=e;rw[A]at E;have q:f=g:=by simp_all
    subst q;obtain⟨I,_⟩:=oT m L z D;simp only[V];refine⟨⟨f,0,none⟩,by rw[cu,Nat.zero_add],VL.mono (fun _ _ _ h=>h) (fun _ _ h=>h) (fun k u hk=>?_) I⟩;rw[cu,Nat.zero_add];exact L.hB _ _ _ _ hi rfl j (by rw[cell_of_row w f k cells B (0,0) C];exact hk)
   ·cases hd
  ·cases hd
 ·grind (splits:=6) (ematch:=4) [V,oT]
 ·exact u7 m L hd e
theorem sw(m:Mem Bw w0 ρ φ h w)(L:nD φ h Bw w h' F'):∀ {f e:List ag},rS h' f=some e→∀ {g:Nat→Value→Prop},VL (Fr (own φ h) Bw w) ρ f g→VL F' jF e g∧e.length=f.length
 | [],e,hd,g,_=>by cases hd;exact⟨by simp only[VL],rfl⟩
 | x::f,e,hd,g,j=>by
  simp only[rS]at hd;split at hd
  ·rename_i y q v z;cases hd;simp only[VL]at j ⊢;obtain⟨⟨u,A,B⟩,C⟩:=j;obtain⟨D,E⟩:=sw m L z C;exact⟨⟨⟨u,A,vk m L v B⟩,D⟩,by simp[E]⟩
  ·cases hd
theorem xx(m:Mem Bw w0 ρ φ h w)(L:nD φ h Bw w h' F'){x y:ag}(hd:BV h' x=some y){v:Value}(e:V (Fr (own φ h) Bw w) ρ x v):V F' jF y v:=by
 unfold BV at hd;split at hd
 ·grind (splits:=6) (ematch:=4) [V,sw]
 ·exact vk m L hd e
theorem pt(m:Mem Bw w0 ρ φ h w)(L:nD φ h Bw w h' F'):∀ {u q:List ag},o5 h' u=some q→∀ {e:QY},jf (Fr (own φ h) Bw w) ρ u e→jf F' jF q e
 | [],q,hd,e,j=>by
  cases hd;cases e with
  | nil=>trivial
  | cons _ _=>exact j.elim
 | x::u,q,hd,e,j=>by
  simp only[o5]at hd;split at hd
  ·rename_i y z A B;cases hd;cases e with
   | nil=>exact j.elim
   | cons v e=>exact⟨xx m L A j.1,pt m L B j.2⟩
  ·cases hd
structure Pure(P:Program)(f:FuncId)(args:List ag)(r:ag):Prop where
 fn:∃fn,P.funcs[f]? = some fn∧(fn.name == "runtime.NumGoroutine")=false∧fn.body.isNone=false
 calls:∀(Bw:Nat→Prop) (w:World) (vals:QU),vu P w→(∀k,Bw k→k<w.heap.size)→jf (Fr gJ Bw w) jF args vals.toList →
  Calls P f vals w fun e w'=>∃v,e = .returned v∧Below w.heap.size w w'∧V (fun _=>Fr gJ Bw w' false) jF r v
theorem Hv(m:Mem Bw w0 ρ φ h w){o:Oper}{a:Act}{fo:Operand}{q:Array Operand}{Z:Array TypeId}(ho:o.op = .call { callee:= .value fo,args:=q,argTypes:=Z })
  {f:FuncId} {z:List ag} (hf:V (Fr (own φ h) Bw w) ρ (.fn f z) (a.eval fo)) {xs:List ag} (hx:jf (Fr (own φ h) Bw w) ρ xs (q.toList.map a.eval)) {args:List ag} (hl:o5 h (xs++z)=some args)
  {r:ag} (hp:Pure P f args r):Good P o a w (aG Bw w0 ρ φ h w new r []):=by
 simp only[V]at hf;obtain⟨X,a1,a2,D⟩:=hf;obtain⟨fn,a3,E,B⟩:=hp.fn;have I:∀(M:List ag) (j:QY),j.length=M.length→VL (Fr (own φ h) Bw w) ρ M (fun k u=>j[k]? = some u)→jf (Fr (own φ h) Bw w) ρ M j:=fun M=>by
  induction M with
  | nil=>intro j hl _;cases j with | nil=>trivial | cons _ _=>simp at hl
  | cons c M ih =>
   intro j hl C;cases j with
   | nil=>simp at hl
   | cons u j =>simp only[VL]at C;obtain⟨⟨u',Y,q2⟩,q3⟩:=C;simp at Y;subst Y;exact⟨q2,ih j (by simpa using hl) (VL.mono (fun _ _ _ h=>h) (fun _ _ h=>h) (fun k u hk=>by simpa using hk) q3)⟩
 have N:∀(xs:List ag) (j:QY),jf (Fr (own φ h) Bw w) ρ xs j→jf (Fr (own φ h) Bw w) ρ (xs++z) (j++X.toList):=fun xs=>by
  induction xs with
  | nil =>
   intro j C;cases j with
   | nil=>exact I z X.toList (by simpa using a2) (VL.mono (fun _ _ _ h=>h) (fun _ _ h=>h) (fun k u hk=>by simpa using hk) D)
   | cons _ _=>exact C.elim
  | cons x xs ih =>
   intro j C;cases j with
   | nil=>exact C.elim
   | cons u j=>exact⟨C.1,ih j C.2⟩
 have J:=pt m nD.all hl (N xs _ hx);have a4:∀k,qK φ h Bw k→k<w.heap.size:=fun k hk=>by
  rcases hk with hk | hk
  ·exact m.rO hk
  ·exact Nat.lt_of_lt_of_le (w0.lt k (m.bw k hk)) m.kp.size
 have L:=hp.calls (qK φ h Bw) w (q.map a.eval++X) m.kp.laid a4 (by simpa using J);refine Good.th (f:=f) (args:=q.map a.eval++X) (w':=w) ?_ (L.mono fun e w' ⟨v,he,hb,C⟩=>⟨v,he,ρ,φ,?_,?_,fun _ _ h=>h,fun _ _ h=> .inl h,?_⟩)
 ·have n1:¬fn.name = "runtime.NumGoroutine" :=by simpa using E
  have n2:¬fn.body=none:=fun e=>by rw[e]at B;cases B
  simp[execOp,ho,resolve,a1,Deferred.ofValue,invoke,callFunc,a3,n1,n2]
 ·have hF:∀β a v,Fr (own φ h) Bw w β a v→Fr (own φ h) Bw w' β a v:=fun β a v=>Fr.LP (fun k hk _=>hb.block k hk) (fun k hk=> .inl hk) β a v
  refine⟨fun id ob O=>?_,fun id o k h1 h2 h3=>Nat.lt_of_lt_of_le (m.lt id o k h1 h2 h3) hb.size,m.dj,m.bw,m.ow,m.kp.Gi hb,m.pk⟩;obtain⟨u,Y,q2⟩:=m.ob id ob O;exact⟨u,Y,OR.mono hF (fun _ _ h=>h) (fun _ h=>h) (fun hl k hk=>hb.block k (m.lt id ob k O hl hk)) q2⟩
 ·exact fun β a v=>Fr.LP (fun k hk _=>hb.block k hk) (fun k hk=> .inl hk) β a v
 ·refine V.mono (fun β a u hu=>?_) (fun _ _ h=>by cases h) C;exact⟨fun e=>hu.2.1 rfl (.inl e),fun _ e=>hu.2.1 rfl (.inr e),hu.2.2⟩
end
end Go.Tv
