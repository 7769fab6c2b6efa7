/- Parts of slices; calls. -/
import Derived.Test.YtmcemnfjddoejaaGreatDoorTvIm
namespace Go.Tv
open Go Go.RowKit
def tY(F:Bool→Addr→Value→Prop)(ρ:Nat→Option Value)(a:Act):Option Operand→Option Int→Prop
 | none,none=>True
 | some x,some i=>∃β k,V F ρ (.p β (.int k) i) (a.eval x)
 | _,_=>False
section
variable{P:Program}{Bw:Nat→Prop}{w0:b9 P}{ρ:Nat→Option Value}{φ:Nat→Nat→Prop}{h:Nat→Option Obj}{w:World}{new:Nat}
theorem run_sliceBound{k:IntKind}{i:Int}{y:Nat}{c:BoundsCode}(e:0≤i)(f:i≤y):(Instr.sliceBound (.int k i) y c).run P w = .ok i.toNat w:=by
 simp[Instr.sliceBound,asIntOf,e,f]
theorem n4{F:Bool→Addr→Value→Prop}{a:Act}{b:Bool}{len cap:Nat}{f hi:Option Operand}{l r:Option Int}(hl:tY F ρ a f l)(p:tY F ρ a hi r)
  (m:0≤l.getD 0) (c:l.getD 0≤r.getD len) (u:r.getD len≤len) (C:len≤cap) :
  (Instr.sliceBounds b len cap (f.map a.eval) (hi.map a.eval) none).run P w = .ok ((l.getD 0).toNat,(r.getD len).toNat,cap) w:=by
 unfold Instr.sliceBounds;cases hi with
 | none =>
  cases r with
  | some _=>exact p.elim
  | none =>
   simp only[Option.getD_none]at c u;cases f with
   | none =>
    cases l with
    | some _=>exact hl.elim
    | none=>simp
   | some x =>
    cases l with
    | none=>exact hl.elim
    | some i =>
     obtain⟨β,k,q⟩:=hl;simp only[Option.getD_some]at m c;simp[bV q,run_sliceBound m c]
 | some y =>
  cases r with
  | none=>exact p.elim
  | some j =>
   obtain⟨A,B,e⟩:=p;simp only[Option.getD_some]at c u;have z:(Instr.sliceBound (.int B j) cap (if b then .sliceAcap else .sliceAlen)).run P w = .ok j.toNat w:=run_sliceBound (by omega) (by omega);cases f with
   | none =>
    cases l with
    | some _=>exact hl.elim
    | none=>simp[bV e,z]
   | some x =>
    cases l with
    | none=>exact hl.elim
    | some i =>
     obtain⟨β,k,q⟩:=hl;simp only[Option.getD_some]at m c;simp[bV q,bV e,z,run_sliceBound (y:=j.toNat) m (by omega)]
theorem lK{F:Bool→Addr→Value→Prop}{t e:TypeId}{ti f:TI}(j:aQ P t ti)(m:ti.k = .sl e)(c:aQ P e f){a:Act}{ad:Option Addr}{len cap:Nat}{lo hi:Option Operand}{l r:Option Int}(hl:tY F ρ a lo l)(p:tY F ρ a hi r)
  (q:0≤l.getD 0) (u:l.getD 0≤r.getD len) (x:r.getD len≤len) (z:len≤cap) :
  (Instr.sliceAt t (.slice ad len cap) (lo.map a.eval) (hi.map a.eval) none).run P w =
   .ok (.slice (if cap=(l.getD 0).toNat then ad else ad.map (·.add ((l.getD 0).toNat*f.size))) ((r.getD len).toNat - (l.getD 0).toNat) (cap - (l.getD 0).toNat)) w:=by
 have hu:=bd j m;have hb:=n4 (P:=P) (w:=w) (b:=true) hl p q u x z;simp[Instr.sliceAt,Instr.slice,run_underlying hu,hb,run_sizeOf c]
theorem JH{F:Bool→Addr→Value→Prop}{c:Nat→Option Value}{A:Ty}{f:List A.den}{β:Bool}{ad:Option Addr}{len cap:Nat}(j:V F c (.p β (.slice A) f) (.slice ad len cap)){l r size:Nat}(u:size=A.size)(E:l≤r)(I:r≤len):
  V F c (.p β (.slice A) ((f.take r).drop l)) (.slice (if cap=l then ad else ad.map (·.add (l*size))) (r - l) (cap - l)):=by
 subst u;simp only[V,ai]at j ⊢;obtain⟨_,x,m,q,e,⟨hl,J⟩,z⟩:=j;simp only[Value.slice.injEq]at e;obtain⟨rfl,rfl,rfl⟩:=e;refine⟨rfl,_,_,_,rfl,⟨by simp only[List.length_drop,List.length_take];omega,by omega⟩,fun i hi=> ?_⟩;simp only[List.length_drop,List.length_take]at hi;obtain⟨b,B,C⟩:=z (l+i) (by omega);subst B;refine⟨b.add (l*A.size),by rw[if_neg (by omega)];rfl,?_⟩;have e:((f.take r).drop l)[i]'(by simp only[List.length_drop,List.length_take];omega)=f[l+i]:=by simp
 rw[e];refine ai.mono (fun _ _ h=>h) (fun k v D=> ?_) C;rw[add_add];rwa [Nat.add_mul,Nat.add_assoc]at D
theorem nR{F:Bool→Addr→Value→Prop}{c:Nat→Option Value}{A:Ty}{f:List A.den}{β:Bool}{v:Value}(j:V F c (.p β (.slice A) f) v):∃ad cap,v = .slice ad f.length cap∧f.length≤cap:=by
 simp only[V,ai]at j;obtain⟨_,ad,len,cap,e,⟨hl,k⟩,_⟩:=j;exact⟨ad,cap,by rw[←hl];exact e.symm,by omega⟩
theorem om(m:Mem Bw w0 ρ φ h w){o:Oper}{a:Act}{t e:TypeId}{ti u:TI}(C:aQ P t ti)(D:ti.k = .sl e)(c:aQ P e u){A:Ty}(hT:u.T=some A){x:Operand}{z hi:Option Operand}(E:o.op = .slice t x z hi none)
  {β:Bool} {xs:List A.den} (j:V (Fr (own φ h) Bw w) ρ (.p β (.slice A) xs) (a.eval x)) {l r:Option Int} (hl:tY (Fr (own φ h) Bw w) ρ a z l) (I:tY (Fr (own φ h) Bw w) ρ a hi r)
  (J:0≤l.getD 0) (L:l.getD 0≤r.getD xs.length) (M:r.getD xs.length≤xs.length) :
  Good P o a w (aE Bw w0 ρ φ h w new (.p β (.slice A) ((xs.take (r.getD xs.length).toNat).drop (l.getD 0).toNat)) []):=by
 obtain⟨ad,cap,B,N⟩:=nR j;obtain⟨q,_,_⟩:=c.hT A hT;have f:=lK (P:=P) (w:=w) C D c (ad:=ad) (cap:=cap) hl I J L M N;rw[B]at j;refine Good.aH (v:=_) (w':=w) (by simp only[execOp,E,B,Option.map_none,f,Sem.run_bind,Result.andThen_ok];rfl) (aE.pure m (JH j q.symm (by omega) (by omega)))
theorem xE(m:Mem Bw w0 ρ φ h w){o:Oper}{a:Act}{t e:TypeId}{ti u:TI}(x:aQ P t ti)(z:ti.k = .sl e)(f:aQ P e u){j:Operand}{p hi:Option Operand}(B:o.op = .slice t j p hi none)
  (q:V (Fr (own φ h) Bw w) ρ .nils (a.eval j)) {l r:Option Int} (hl:tY (Fr (own φ h) Bw w) ρ a p l) (C:tY (Fr (own φ h) Bw w) ρ a hi r)
  (D:0≤l.getD 0) (E:l.getD 0≤r.getD 0) (I:r.getD 0≤0):Good P o a w (aE Bw w0 ρ φ h w new .nils []):=by
 simp only[V]at q;have c:=lK (P:=P) (w:=w) x z f (ad:=none) (len:=0) (cap:=0) hl C D E I (Nat.le_refl _);have J:(l.getD 0).toNat=0:=by omega
 have L:(r.getD ((0:Nat):Int)).toNat=0:=by have:r.getD ((0:Nat):Int)=r.getD 0:=rfl;omega
 rw[J,L]at c;refine Good.aH (v:= .slice none 0 0) (w':=w) (by simp only[execOp,B,q,Option.map_none,c,Sem.run_bind,Result.andThen_ok];rfl) (aE.pure m (by simp only[V]))
theorem vL(m:Mem Bw w0 ρ φ h w){o:Oper}{a:Act}{t:TypeId}{ti:TI}(u:aQ P t ti)(x:ti.k = .str){j:Operand}{q hi:Option Operand}(z:o.op = .slice t j q hi none)
  {β:Bool} {s:List UInt8} (B:V (Fr (own φ h) Bw w) ρ (.p β .str s) (a.eval j)) {l r:Option Int} (hl:tY (Fr (own φ h) Bw w) ρ a q l) (C:tY (Fr (own φ h) Bw w) ρ a hi r)
  (D:0≤l.getD 0) (E:l.getD 0≤r.getD s.length) (I:r.getD s.length≤s.length) :
  Good P o a w (aE Bw w0 ρ φ h w new (.p false .str ((s.take (r.getD s.length).toNat).drop (l.getD 0).toNat)) []):=by
 obtain⟨d,J,c⟩:=u.hu;rw[x]at c;simp only[UK]at c;subst c;have f:(⟨s.toArray⟩:ByteArray).size=s.length:=rfl;have hb:=n4 (P:=P) (w:=w) (b:=false) (len:=s.length) (cap:=s.length) hl C D E I (Nat.le_refl _);refine Good.aH (v:= .string ((⟨s.toArray⟩:ByteArray).extract (l.getD 0).toNat (r.getD s.length).toNat)) (w':=w) ?_ (aE.pure m ?_)
 ·simp[execOp,z,Instr.sliceAt,Instr.slice,pG B,run_underlying J,f,hb]
 ·have e:(⟨s.toArray⟩:ByteArray).extract (l.getD 0).toNat (r.getD s.length).toNat=⟨((s.take (r.getD s.length).toNat).drop (l.getD 0).toNat).toArray⟩:=by apply ByteArray.ext;simp[ByteArray.data_extract,List.drop_take]
  rw[e];exact po _ _
theorem vK(m:Mem Bw w0 ρ φ h w)(hn:ρ new=none){o:Oper}{a:Act}{t e:TypeId}{ti te:TI}(ht:aQ P t ti)(I:ti.k = .sl e)(J:aQ P e te){A:Ty}{x:Operand}{hi:Operand}(ho:o.op = .slice t x none (some hi) none)
  {id:Nat} {z:TypeId} {xs:List A.den} (B:h id=some (.arr z A xs)) (hx:V (Fr (own φ h) Bw w) ρ (.sl id) (a.eval x)) {β:Bool} {k:IntKind} {r:Int} (hr:V (Fr (own φ h) Bw w) ρ (.p β (.int k) r) (a.eval hi))
  (h0:0≤r) (h1:r≤xs.length):Good P o a w (aE Bw w0 ρ φ h w new (.sl new) [(id,none),(new,some (.arr z A (xs.take r.toNat)))]):=by
 obtain⟨u,q1,L,hA,cells,r1,r2⟩:=m.ob id _ B;simp only[V]at hx;rw[hx.1]at q1;cases q1;have key:∀ad len cap,a.eval x = .slice ad len cap→len=xs.length→len≤cap→ad=none∨(∃g,ad=some ⟨g,0,none⟩)→(execOp a.eval o).run P w = .ok (.value (.slice ad r.toNat cap)) w:=fun ad len cap M hl hc N=>by
  have c:=lK (P:=P) (w:=w) (F:=Fr (own φ h) Bw w) (ρ:=ρ) (a:=a) ht I J (ad:=ad) (len:=len) (cap:=cap) (lo:=none) (hi:=some hi) (l:=none) (r:=some r) trivial ⟨β,k,hr⟩ (by simp) (by simpa using h0) (by simp;omega) hc;simp only[Option.map_none,Option.map_some,Option.getD_none,Option.getD_some,Int.toNat_zero,Nat.sub_zero,Nat.zero_mul]at c;simp only[execOp,ho,M,Option.map_none,Option.map_some,c,Sem.run_bind,Result.andThen_ok];rcases N with rfl | ⟨g,rfl⟩
  ·split <;> rfl
  ·split <;> simp[Addr.add]
 have C:∀ad cap,a.eval x = .slice ad xs.length cap→(execOp a.eval o).run P w = .ok (.value (.slice ad r.toNat cap)) w→w.ownsRow 0 z A.size (.slice ad r.toNat cap) (xs.take r.toNat).length (cells.take (r.toNat*A.size)) →
   Good P o a w (aE Bw w0 ρ φ h w new (.sl new) [(id,none),(new,some (.arr z A (xs.take r.toNat)))]):=fun ad cap M c D=>by
  refine Good.aH c ?_;have O:iB (.slice ad r.toNat cap)=iB (a.eval x):=by rw[M];cases ad <;> rfl
  refine cQ m (some id) new (.arr z A (xs.take r.toNat)) (.slice ad r.toNat cap) (iB (a.eval x)) ⟨rfl,rfl,rfl,Nat.le_refl _,fun _ _ _=>rfl⟩ (fun k e=>⟨id,_,rfl,B,rfl,L _ e⟩) (.inl hn)
   (fun _ k I=> .inr (by rw[←O];exact I)) (fun F' R hF X=>⟨fun _ h=>h,hA,_,D,fun i hi=> ?_⟩) (by rw[vz];rfl) (fun _=>rfl) (fun F' R hF X E=>by simp only[V];exact⟨E,_,_,_,rfl⟩)
  simp only[List.length_take]at hi;simp only[List.getElem_take];refine ai.mono (hF _) (fun _ _ h=>h) (ai.fR (fun k v I hv=> ?_) (r2 i (by omega)));have:i*A.size+A.size≤r.toNat*A.size:=by rw[←Nat.succ_mul];exact Nat.mul_le_mul_right _ (by omega)
  rw[List.getElem?_take,if_pos (by omega)];exact hv
 have f:(xs.take r.toNat).length=r.toNat:=by simp only[List.length_take];omega
 rcases r1.2 with⟨e,Y⟩ | ⟨g,cap,Z,e,hb,N,a1,a2,a3,j⟩
 ·have q:r.toNat=0:=by omega
  refine C none 0 (by rw[Y];exact e) (key none 0 0 e (by omega) (Nat.le_refl _) (.inl rfl)) ⟨by rw[f,q];simp,.inl ⟨by rw[q],by rw[f,q]⟩⟩
 ·refine C _ cap e (key _ _ cap e rfl a1 (.inr ⟨g,rfl⟩)) ⟨?_,.inr ⟨g,cap,Z,by rw[f],hb,N,by omega,a2,a3,?_⟩⟩
  ·rw[List.length_take,r1.1,f];have:r.toNat*A.size≤xs.length*A.size:=Nat.mul_le_mul_right _ (by omega);omega
  ·rw[f,←j,List.take_take,Nat.min_eq_left (Nat.mul_le_mul_right _ (by omega))]
/-! ### Calls -/
mutual
def tp:ag→Bool
 | .sl _=>false
 | .mp _=>false
 | .adr _ _ _ _=>false
 | .ada _ _ _ _=>false
 | .fad _ c _=>ou c
 | .agg c=>ou c
 | .tup c=>ou c
 | .fn _ c=>ou c
 | .p _ _ _=>true
 | .nils=>true
 | .nilp=>true
 | .lit _=>true
 | .lag _ _ _ c=>ou c
 | .loc _ _ _=>true
 | .suf _ _ _=>false
 | .bfn _ c=>ou c
 | .unk=>true
def ou:List ag→Bool
 | []=>true
 | x::xs=>tp x && ou xs
end
mutual
theorem qZ{F:Bool→Addr→Value→Prop}{ρ ρ':Nat→Option Value}:∀ {x:ag} {v:Value},tp x=true→V F ρ x v→V F ρ' x v
 | .p _ _ _,_,_,c=>by simpa only [V]using c
 | .nils,_,_,c=>by simpa only [V]using c
 | .nilp,_,_,c=>by simpa only [V]using c
 | .lit _,_,_,c=>by simpa only [V]using c
 | .unk,_,_,_=>by simp only[V]
 | .loc _ _ _,_,_,c=>by simpa only [V]using c
 | .suf _ _ _,_,h,_=>by simp[tp]at h
 | .lag _ _ _ k,_,h,c=>by
  simp only[V,tp]at h c ⊢;obtain⟨f,e,j,hl⟩:=c;exact⟨f,e,j,nW h hl⟩
 | .bfn _ k,_,h,c=>by
  simp only[V,tp]at h c ⊢;obtain⟨f,e,j,hl⟩:=c;exact⟨f,e,j,nW h hl⟩
 | .sl _,_,h,_=>by simp[tp]at h
 | .mp _,_,h,_=>by simp[tp]at h
 | .adr _ _ _ _,_,h,_=>by simp[tp]at h
 | .ada _ _ _ _,_,h,_=>by simp[tp]at h
 | .fad _ k _,_,h,c=>by
  simp only[V,tp]at h c ⊢;obtain⟨q,e,hl⟩:=c;exact⟨q,e,nW h hl⟩
 | .agg k,_,h,c=>by
  simp only[V,tp]at h c ⊢;obtain⟨f,e,j,hl⟩:=c;exact⟨f,e,j,nW h hl⟩
 | .tup k,_,h,c=>by
  simp only[V,tp]at h c ⊢;obtain⟨f,e,j,hl⟩:=c;exact⟨f,e,j,nW h hl⟩
 | .fn _ k,_,h,c=>by simp only[V,tp]at h c ⊢;obtain⟨f,e,j,hl⟩:=c;exact⟨f,e,j,nW h hl⟩
theorem nW{F:Bool→Addr→Value→Prop}{ρ ρ':Nat→Option Value}:∀ {m:List ag} {g:Nat→Value→Prop},ou m=true→VL F ρ m g→VL F ρ' m g
 | [],_,_,_=>by simp only[VL]
 | x::m,_,h,c=>by simp only[ou,Bool.and_eq_true]at h;simp only[VL]at c ⊢;obtain⟨⟨u,z,A⟩,B⟩:=c;exact⟨⟨u,z,qZ h.1 A⟩,nW h.2 B⟩
end
def vT(h:Nat→Option Obj)(x:ag):Option ag :=
 match x with
 | .sl id=>match h id with
  | some (.arr _ A c)=>some (.p true (.slice A) c)
  | some (.fz A c)=>some (.p false (.slice A) c)
  | _=>none
 | x=>if tp x then some x else none
def o9(h:Nat→Option Obj):List ag→Option (List ag)
 | []=>some []
 | x::xs=>match vT h x,o9 h xs with
  | some y,some c=>some (y::c)
  | _,_=>none
def rU(h:Nat→Option Obj)(x:ag):Option ag :=
 match x with
 | .adr id i sz off=>match h id with
  | some (.box c)=>match o9 h c with
   | some e=>some (.fad true e (i*sz+off))
   | none=>none
  | _=>none
 | .agg c=>match o9 h c with
  | some e=>some (.agg e)
  | none=>none
 | x=>vT h x
def qY(h:Nat→Option Obj):List ag→Option (List ag)
 | []=>some []
 | x::xs=>match rU h x,qY h xs with
  | some y,some c=>some (y::c)
  | _,_=>none
def BJ(h:Nat→Option Obj)(x:ag):Option ag :=
 match x with
 | .fn f c=>match qY h c with
  | some e=>some (.fn f e)
  | none=>none
 | x=>rU h x
def oq(h:Nat→Option Obj):List ag→Option (List ag)
 | []=>some []
 | x::xs=>match BJ h x,oq h xs with
  | some y,some c=>some (y::c)
  | _,_=>none
def fN:Nat→Prop:=fun _=>False
def jK:Nat→Option Value:=fun _=>none
def qe(φ:Nat→Nat→Prop)(h:Nat→Option Obj)(Bw:Nat→Prop):Nat→Prop:=fun k=>own φ h k∨Bw k
theorem H5{β:Bool}{a:Addr}{v:Value}(c:Fr (own φ h) Bw w β a v):Fr fN (qe φ h Bw) w β a v :=
 ⟨fun e=>e,fun e f=>f.elim c.1 (c.2.1 e),c.2.2⟩
structure mM(φ:Nat→Nat→Prop)(h:Nat→Option Obj)(Bw:Nat→Prop)(w:World)(h':Nat→Option Obj)(F':Bool→Addr→Value→Prop):Prop where
 sub:∀i o,h' i=some o→h i=some o
 hA:∀β a v,Fr (own φ h) Bw w β a v→F' β a v
 hB:∀id o a v,h' id=some o→o.live=true→φ id a.block→w.cell? a=some v→F' true a v
theorem mM.all:mM φ h Bw w h (Fr fN (qe φ h Bw) w) :=
 ⟨fun _ _ h=>h,fun _ _ _=>H5,fun _ _ _ _ _ _ _ h=>⟨fun e=>e,fun e=>(by cases e),World.gH h⟩⟩
variable{h':Nat→Option Obj}{F':Bool→Addr→Value→Prop}
theorem uZ(m:Mem Bw w0 ρ φ h w)(L:mM φ h Bw w h' F'){x y:ag}(c:vT h' x=some y){v:Value}(k:V (Fr (own φ h) Bw w) ρ x v):V F' jK y v:=by
 unfold vT at c;split at c
 ·rename_i id;simp only[V]at k;obtain⟨f,_⟩:=k;split at c
  ·rename_i I A z hi;cases c;obtain⟨u,j,p,_,cells,B,C⟩:=m.ob id _ (L.sub _ _ hi);rw[f]at j;cases j;have D:=pK (F:=Fr (own φ h) Bw w) (F':=F') (ρ':=jK) B C true (fun a v h=>L.hA _ _ _ ⟨h.1,fun e=>(by cases e),h.2.2⟩) (fun a v hb h=>L.hB _ _ _ _ hi rfl (p _ hb) h);exact D
  ·rename_i A z hi;cases c;obtain⟨u,j,E⟩:=m.ob id _ (L.sub _ _ hi);rw[f]at j;cases j;exact qZ (ρ:=ρ) rfl (V.mono (ρ:=ρ) L.hA (fun _ _ h=>h) E)
  ·cases c
 ·split at c
  ·rename_i q;cases c;exact qZ q (V.mono L.hA (fun _ _ h=>h) k)
  ·cases c
theorem m6(m:Mem Bw w0 ρ φ h w)(L:mM φ h Bw w h' F'):∀ {f e:List ag},o9 h' f=some e→∀ {g:Nat→Value→Prop},VL (Fr (own φ h) Bw w) ρ f g→VL F' jK e g∧e.length=f.length
 | [],e,c,g,_=>by cases c;exact⟨by simp only[VL],rfl⟩
 | x::f,e,c,g,j=>by
  simp only[o9]at c;split at c
  ·rename_i y k p q;cases c;simp only[VL]at j ⊢;obtain⟨⟨u,v,z⟩,A⟩:=j;obtain⟨B,C⟩:=m6 m L q A;exact⟨⟨⟨u,v,uZ m L p z⟩,B⟩,by simp[C]⟩
  ·cases c
theorem uY(m:Mem Bw w0 ρ φ h w)(L:mM φ h Bw w h' F'){x y:ag}(f:rU h' x=some y){v:Value}(p:V (Fr (own φ h) Bw w) ρ x v):V F' jK y v:=by
 unfold rU at f;split at f
 ·rename_i id i sz off;split at f
  ·rename_i E hi;split at f
   ·rename_i I q;cases f;obtain⟨u,J,z,M,cells,rfl,A,B,D,N⟩:=m.ob id _ (L.sub _ _ hi);simp only[V]at p;obtain⟨g,j,rfl⟩:=p;rw[J]at j;have C:z=g:=by
     rcases j with j | ⟨n,c,j⟩
     ·simpa using j
     ·cases j
    subst C;obtain⟨O,_⟩:=m6 m L q N;simp only[V];refine⟨⟨z,0,none⟩,by rw[ca,Nat.zero_add],VL.mono (fun _ _ _ h=>h) (fun _ _ h=>h) (fun k u R=> ?_) O⟩;rw[ca,Nat.zero_add];exact L.hB _ _ _ _ hi rfl A (by rw[cell_of_row w z k cells M (0,0) B];exact R)
   ·cases f
  ·cases f
 ·rename_i E;split at f
  ·rename_i I q;cases f;simp only[V]at p ⊢;obtain⟨X,e,Y,hl⟩:=p;obtain⟨B,D⟩:=m6 m L q hl;exact⟨X,e,by rw[D];exact Y,B⟩
  ·cases f
 ·exact uZ m L f p
theorem sn(m:Mem Bw w0 ρ φ h w)(L:mM φ h Bw w h' F'):∀ {f e:List ag},qY h' f=some e→∀ {g:Nat→Value→Prop},VL (Fr (own φ h) Bw w) ρ f g→VL F' jK e g∧e.length=f.length
 | [],e,c,g,_=>by cases c;exact⟨by simp only[VL],rfl⟩
 | x::f,e,c,g,j=>by
  simp only[qY]at c;split at c
  ·rename_i y k p q;cases c;simp only[VL]at j ⊢;obtain⟨⟨u,v,z⟩,A⟩:=j;obtain⟨B,C⟩:=sn m L q A;exact⟨⟨⟨u,v,uY m L p z⟩,B⟩,by simp[C]⟩
  ·cases c
theorem wR(m:Mem Bw w0 ρ φ h w)(L:mM φ h Bw w h' F'){x y:ag}(c:BJ h' x=some y){v:Value}(f:V (Fr (own φ h) Bw w) ρ x v):V F' jK y v:=by
 unfold BJ at c;split at c
 ·split at c
  ·rename_i z j;cases c;simp only[V]at f ⊢;obtain⟨k,e,p,hl⟩:=f;obtain⟨q,u⟩:=sn m L j hl;exact⟨k,e,by rw[u];exact p,q⟩
  ·cases c
 ·exact uY m L c f
theorem oN(m:Mem Bw w0 ρ φ h w)(L:mM φ h Bw w h' F'):∀ {p k:List ag},oq h' p=some k→∀ {c:List Value},iA (Fr (own φ h) Bw w) ρ p c→iA F' jK k c
 | [],k,e,c,j=>by
  cases e;cases c with
  | nil=>trivial
  | cons _ _=>exact j.elim
 | x::p,k,e,c,j=>by
  simp only[oq]at e;split at e
  ·rename_i y q u z;cases e;cases c with
   | nil=>exact j.elim
   | cons v c=>exact⟨wR m L u j.1,oN m L z j.2⟩
  ·cases e
structure Pure(P:Program)(f:FuncId)(args:List ag)(r:ag):Prop where
 fn:∃fn,P.funcs[f]? = some fn∧(fn.name == "runtime.NumGoroutine")=false∧fn.body.isNone=false
 calls:∀(Bw:Nat→Prop) (w:World) (vals:Array Value),uQ P w→(∀k,Bw k→k<w.heap.size)→iA (Fr fN Bw w) jK args vals.toList →
  Calls P f vals w fun e w'=>∃v,e = .returned v∧Below w.heap.size w w'∧V (fun _=>Fr fN Bw w' false) jK r v
theorem E7(m:Mem Bw w0 ρ φ h w){o:Oper}{a:Act}{fo:Operand}{q:Array Operand}{Y:Array TypeId}(ho:o.op = .call { callee:= .value fo,args:=q,argTypes:=Y })
  {f:FuncId} {z:List ag} (hf:V (Fr (own φ h) Bw w) ρ (.fn f z) (a.eval fo)) {xs:List ag} (hx:iA (Fr (own φ h) Bw w) ρ xs (q.toList.map a.eval)) {args:List ag} (hl:oq h (xs++z)=some args)
  {r:ag} (hp:Pure P f args r):Good P o a w (aE Bw w0 ρ φ h w new r []):=by
 simp only[V]at hf;obtain⟨R,Z,a1,D⟩:=hf;obtain⟨fn,a2,E,B⟩:=hp.fn;have I:∀(M:List ag) (p:List Value),p.length=M.length→VL (Fr (own φ h) Bw w) ρ M (fun k u=>p[k]? = some u)→iA (Fr (own φ h) Bw w) ρ M p:=fun M=>by
  induction M with
  | nil=>intro p hl _;cases p with | nil=>trivial | cons _ _=>simp at hl
  | cons c M ih =>
   intro p hl C;cases p with
   | nil=>simp at hl
   | cons u p =>simp only[VL]at C;obtain⟨⟨u',X,q2⟩,q3⟩:=C;simp at X;subst X;exact⟨q2,ih p (by simpa using hl) (VL.mono (fun _ _ _ h=>h) (fun _ _ h=>h) (fun k u j=>by simpa using j) q3)⟩
 have N:∀(xs:List ag) (p:List Value),iA (Fr (own φ h) Bw w) ρ xs p→iA (Fr (own φ h) Bw w) ρ (xs++z) (p++R.toList):=fun xs=>by
  induction xs with
  | nil =>
   intro p C;cases p with
   | nil=>exact I z R.toList (by simpa using a1) (VL.mono (fun _ _ _ h=>h) (fun _ _ h=>h) (fun k u j=>by simpa using j) D)
   | cons _ _=>exact C.elim
  | cons x xs ih =>
   intro p C;cases p with
   | nil=>exact C.elim
   | cons u p=>exact⟨C.1,ih p C.2⟩
 have J:=oN m mM.all hl (N xs _ hx);have a3:∀k,qe φ h Bw k→k<w.heap.size:=fun k j=>by
  rcases j with j | j
  ·exact m.qS j
  ·exact Nat.lt_of_lt_of_le (w0.lt k (m.bw k j)) m.kp.size
 have L:=hp.calls (qe φ h Bw) w (q.map a.eval++R) m.kp.laid a3 (by simpa using J);refine Good.sH (f:=f) (args:=q.map a.eval++R) (w':=w) ?_ (L.mono fun e w' ⟨v,he,hb,C⟩=>⟨v,he,ρ,φ,?_,?_,fun _ _ h=>h,fun _ _ h=> .inl h,?_⟩)
 ·have n1:¬fn.name = "runtime.NumGoroutine" :=by simpa using E
  have n2:¬fn.body=none:=fun e=>by rw[e]at B;cases B
  simp[execOp,ho,resolve,Z,Deferred.ofValue,invoke,callFunc,a2,n1,n2]
 ·have hF:∀β a v,Fr (own φ h) Bw w β a v→Fr (own φ h) Bw w' β a v:=fun β a v=>Fr.Js (fun k j _=>hb.block k j) (fun k j=> .inl j) β a v
  refine⟨fun id ob O=> ?_,fun id o k h1 h2 h3=>Nat.lt_of_lt_of_le (m.lt id o k h1 h2 h3) hb.size,m.dj,m.bw,m.ow,m.kp.EH hb,m.pM⟩;obtain⟨u,X,q2⟩:=m.ob id ob O;exact⟨u,X,OR.mono hF (fun _ _ h=>h) (fun _ h=>h) (fun hl k j=>hb.block k (m.lt id ob k O hl j)) q2⟩
 ·exact fun β a v=>Fr.Js (fun k j _=>hb.block k j) (fun k j=> .inl j) β a v
 ·refine V.mono (fun β a u hu=> ?_) (fun _ _ h=>by cases h) C;exact⟨fun e=>hu.2.1 rfl (.inl e),fun _ e=>hu.2.1 rfl (.inr e),hu.2.2⟩
end
end Go.Tv
