import Derived.Test.YtflahpmlcfhpcaaGreatDoorTvIm
namespace Go.Tv
open Go Go.RowKit
def sG(F:Bool→Addr→Value→Prop)(ρ:Nat→QW)(a:Act):Option Operand→Option Int→Prop
 | none,none=>True
 | some x,some i=>∃β k,V F ρ (.p β (.int k) i) (a.eval x)
 | _,_=>False
section
variable{P:Program}{Bw:Nat→Prop}{w0:cw P}{ρ:Nat→QW}{φ:Nat→Nat→Prop}{h:Nat→Qz}{w:World}{new:Nat}
theorem run_sliceBound{k:IntKind}{i:Int}{y:Nat}{c:BoundsCode}(e:0≤i)(f:i≤y):(Instr.sliceBound (.int k i) y c).run P w = .ok i.toNat w:=by
 simp[Instr.sliceBound,asIntOf,e,f]
theorem nZ{F:Bool→Addr→Value→Prop}{a:Act}{b:Bool}{len cap:Nat}{p hi:Option Operand}{l r:Option Int}(hl:sG F ρ a p l)(u:sG F ρ a hi r)
  (q:0≤l.getD 0) (e:l.getD 0≤r.getD len) (A:r.getD len≤len) (E:len≤cap) :
  (Instr.sliceBounds b len cap (p.map a.eval) (hi.map a.eval) none).run P w = .ok ((l.getD 0).toNat,(r.getD len).toNat,cap) w:=by
 unfold Instr.sliceBounds;cases hi with
 | none =>
  cases r with
  | some _=>exact u.elim
  | none =>
   simp only[Option.getD_none]at e A;cases p with
   | none =>
    cases l with
    | some _=>exact hl.elim
    | none=>simp
   | some x =>
    cases l with
    | none=>exact hl.elim
    | some i =>
     obtain⟨β,k,z⟩:=hl;simp only[Option.getD_some]at q e;simp[bX z,run_sliceBound q e]
 | some y =>
  cases r with
  | none=>exact u.elim
  | some j =>
   obtain⟨C,D,f⟩:=u;simp only[Option.getD_some]at e A;have B:(Instr.sliceBound (.int D j) cap (if b then .sliceAcap else .sliceAlen)).run P w = .ok j.toNat w:=run_sliceBound (by omega) (by omega);cases p with
   | none =>
    cases l with
    | some _=>exact hl.elim
    | none=>simp[bX f,B]
   | some x =>
    cases l with
    | none=>exact hl.elim
    | some i =>
     obtain⟨β,k,z⟩:=hl;simp only[Option.getD_some]at q e;simp[bX z,bX f,B,run_sliceBound (y:=j.toNat) q (by omega)]
theorem l9{F:Bool→Addr→Value→Prop}{t e:TypeId}{ti j:TI}(ht:aN P t ti)(hk:ti.k = .sl e)(f:aN P e j){a:Act}{ad:Option Addr}{len cap:Nat}{lo hi:Option Operand}{l r:Option Int}(hl:sG F ρ a lo l)(p:sG F ρ a hi r)
  (q:0≤l.getD 0) (u:l.getD 0≤r.getD len) (x:r.getD len≤len) (z:len≤cap) :
  (Instr.sliceAt t (.slice ad len cap) (lo.map a.eval) (hi.map a.eval) none).run P w =
   .ok (.slice (if cap=(l.getD 0).toNat then ad else ad.map (·.add ((l.getD 0).toNat*j.size))) ((r.getD len).toNat - (l.getD 0).toNat) (cap - (l.getD 0).toNat)) w:=by
 have hu:=aX ht hk;have hb:=nZ (P:=P) (w:=w) (b:=true) hl p q u x z;simp[Instr.sliceAt,Instr.slice,run_underlying hu,hb,run_sizeOf f]
theorem Jl{F:Bool→Addr→Value→Prop}{f:Nat→QW}{A:Ty}{j:List A.den}{β:Bool}{ad:Option Addr}{len cap:Nat}(q:V F f (.p β (.slice A) j) (.slice ad len cap)){l r size:Nat}(z:size=A.size)(I:l≤r)(J:r≤len):
  V F f (.p β (.slice A) ((j.take r).drop l)) (.slice (if cap=l then ad else ad.map (·.add (l*size))) (r - l) (cap - l)):=by
 subst z;simp only[V,ah]at q ⊢;obtain⟨_,B,u,x,e,⟨hl,hc⟩,C⟩:=q;simp only[Value.slice.injEq]at e;obtain⟨rfl,rfl,rfl⟩:=e;refine⟨rfl,_,_,_,rfl,⟨by simp only[List.length_drop,List.length_take];omega,by omega⟩,fun i hi=>?_⟩;simp only[List.length_drop,List.length_take]at hi;obtain⟨b,D,E⟩:=C (l+i) (by omega);subst D;refine⟨b.add (l*A.size),by rw[if_neg (by omega)];rfl,?_⟩;have e:((j.take r).drop l)[i]'(by simp only[List.length_drop,List.length_take];omega)=j[l+i]:=by simp
 rw[e];refine ah.mono (fun _ _ h=>h) (fun k v hk=>?_) E;rw[add_add];rwa [Nat.add_mul,Nat.add_assoc]at hk
theorem nC{F:Bool→Addr→Value→Prop}{f:Nat→QW}{A:Ty}{j:List A.den}{β:Bool}{v:Value}(u:V F f (.p β (.slice A) j) v):∃ad cap,v = .slice ad j.length cap∧j.length≤cap:=by
 simp only[V,ah]at u;obtain⟨_,ad,len,cap,e,⟨hl,hc⟩,_⟩:=u;exact⟨ad,cap,by rw[←hl];exact e.symm,by omega⟩
theorem nT(m:Mem Bw w0 ρ φ h w){o:Oper}{a:Act}{t e:TypeId}{ti x:TI}(ht:aN P t ti)(hk:ti.k = .sl e)(f:aN P e x){A:Ty}(hT:x.T=some A){z:Operand}{B hi:Option Operand}(D:o.op = .slice t z B hi none)
  {β:Bool} {xs:List A.den} (q:V (Fr (own φ h) Bw w) ρ (.p β (.slice A) xs) (a.eval z)) {l r:Option Int} (hl:sG (Fr (own φ h) Bw w) ρ a B l) (E:sG (Fr (own φ h) Bw w) ρ a hi r)
  (I:0≤l.getD 0) (J:l.getD 0≤r.getD xs.length) (L:r.getD xs.length≤xs.length) :
  Good P o a w (aF Bw w0 ρ φ h w new (.p β (.slice A) ((xs.take (r.getD xs.length).toNat).drop (l.getD 0).toNat)) []):=by
 obtain⟨ad,cap,C,hc⟩:=nC q;obtain⟨u,_,_⟩:=f.hT A hT;have j:=l9 (P:=P) (w:=w) ht hk f (ad:=ad) (cap:=cap) hl E I J L hc;rw[C]at q;refine Good.aG (v:=_) (w':=w) (by simp only[execOp,D,C,Option.map_none,j,Sem.run_bind,Result.andThen_ok];rfl) (aF.pure m (Jl q u.symm (by omega) (by omega)))
theorem uL(m:Mem Bw w0 ρ φ h w){o:Oper}{a:Act}{t e:TypeId}{ti x:TI}(ht:aN P t ti)(hk:ti.k = .sl e)(j:aN P e x){p:Operand}{q hi:Option Operand}(z:o.op = .slice t p q hi none)
  (u:V (Fr (own φ h) Bw w) ρ .nils (a.eval p)) {l r:Option Int} (hl:sG (Fr (own φ h) Bw w) ρ a q l) (B:sG (Fr (own φ h) Bw w) ρ a hi r)
  (C:0≤l.getD 0) (D:l.getD 0≤r.getD 0) (E:r.getD 0≤0):Good P o a w (aF Bw w0 ρ φ h w new .nils []):=by
 simp only[V]at u;have f:=l9 (P:=P) (w:=w) ht hk j (ad:=none) (len:=0) (cap:=0) hl B C D E (Nat.le_refl _);have I:(l.getD 0).toNat=0:=by omega
 have J:(r.getD ((0:Nat):Int)).toNat=0:=by have:r.getD ((0:Nat):Int)=r.getD 0:=rfl;omega
 rw[I,J]at f;refine Good.aG (v:= .slice none 0 0) (w':=w) (by simp only[execOp,z,u,Option.map_none,f,Sem.run_bind,Result.andThen_ok];rfl) (aF.pure m (by simp only[V]))
theorem uQ(m:Mem Bw w0 ρ φ h w){o:Oper}{a:Act}{t:TypeId}{ti:TI}(ht:aN P t ti)(hk:ti.k = .str){q:Operand}{u hi:Option Operand}(x:o.op = .slice t q u hi none)
  {β:Bool} {s:QX} (z:V (Fr (own φ h) Bw w) ρ (.p β .str s) (a.eval q)) {l r:Option Int} (hl:sG (Fr (own φ h) Bw w) ρ a u l) (B:sG (Fr (own φ h) Bw w) ρ a hi r)
  (C:0≤l.getD 0) (D:l.getD 0≤r.getD s.length) (E:r.getD s.length≤s.length) :
  Good P o a w (aF Bw w0 ρ φ h w new (.p false .str ((s.take (r.getD s.length).toNat).drop (l.getD 0).toNat)) []):=by
 obtain⟨d,I,f⟩:=ht.hu;rw[hk]at f;simp only[UK]at f;subst f;have j:(⟨s.toArray⟩:ByteArray).size=s.length:=rfl;have hb:=nZ (P:=P) (w:=w) (b:=false) (len:=s.length) (cap:=s.length) hl B C D E (Nat.le_refl _);refine Good.aG (v:= .string ((⟨s.toArray⟩:ByteArray).extract (l.getD 0).toNat (r.getD s.length).toNat)) (w':=w) ?_ (aF.pure m ?_)
 ·simp[execOp,x,Instr.sliceAt,Instr.slice,oC z,run_underlying I,j,hb]
 ·have e:(⟨s.toArray⟩:ByteArray).extract (l.getD 0).toNat (r.getD s.length).toNat=⟨((s.take (r.getD s.length).toNat).drop (l.getD 0).toNat).toArray⟩:=by apply ByteArray.ext;simp[ByteArray.data_extract,List.drop_take]
  rw[e];exact oy _ _
theorem uW(m:Mem Bw w0 ρ φ h w)(hn:ρ new=none){o:Oper}{a:Act}{t e:TypeId}{ti te:TI}(ht:aN P t ti)(hk:ti.k = .sl e)(J:aN P e te){A:Ty}{z hi:Operand}(ho:o.op = .slice t z none (some hi) none)
  {id:Nat} {B:TypeId} {xs:List A.den} (C:h id=some (.arr B A xs)) (hx:V (Fr (own φ h) Bw w) ρ (.sl id) (a.eval z)) {β:Bool} {k:IntKind} {r:Int} (hr:V (Fr (own φ h) Bw w) ρ (.p β (.int k) r) (a.eval hi))
  (h0:0≤r) (h1:r≤xs.length):Good P o a w (aF Bw w0 ρ φ h w new (.sl new) [(id,none),(new,some (.arr B A (xs.take r.toNat)))]):=by
 obtain⟨u,q1,L,hA,cells,r1,r2⟩:=m.ob id _ C;simp only[V]at hx;rw[hx.1]at q1;cases q1;have key:∀ad len cap,a.eval z = .slice ad len cap→len=xs.length→len≤cap→ad=none∨(∃g,ad=some ⟨g,0,none⟩)→(execOp a.eval o).run P w = .ok (.value (.slice ad r.toNat cap)) w:=fun ad len cap M hl hc N=>by
  have f:=l9 (P:=P) (w:=w) (F:=Fr (own φ h) Bw w) (ρ:=ρ) (a:=a) ht hk J (ad:=ad) (len:=len) (cap:=cap) (lo:=none) (hi:=some hi) (l:=none) (r:=some r) trivial ⟨β,k,hr⟩ (by simp) (by simpa using h0) (by simp;omega) hc;simp only[Option.map_none,Option.map_some,Option.getD_none,Option.getD_some,Int.toNat_zero,Nat.sub_zero,Nat.zero_mul]at f;simp only[execOp,ho,M,Option.map_none,Option.map_some,f,Sem.run_bind,Result.andThen_ok];rcases N with rfl | ⟨g,rfl⟩
  ·split <;> rfl
  ·split <;> simp[Addr.add]
 have D:∀ad cap,a.eval z = .slice ad xs.length cap→(execOp a.eval o).run P w = .ok (.value (.slice ad r.toNat cap)) w→w.ownsRow 0 B A.size (.slice ad r.toNat cap) (xs.take r.toNat).length (cells.take (r.toNat*A.size)) →
   Good P o a w (aF Bw w0 ρ φ h w new (.sl new) [(id,none),(new,some (.arr B A (xs.take r.toNat)))]):=fun ad cap M f E=>by
  refine Good.aG f ?_;have O:dx (.slice ad r.toNat cap)=dx (a.eval z):=by rw[M];cases ad <;> rfl
  refine cV m (some id) new (.arr B A (xs.take r.toNat)) (.slice ad r.toNat cap) (dx (a.eval z)) ⟨rfl,rfl,rfl,Nat.le_refl _,fun _ _ _=>rfl⟩ (fun k e=>⟨id,_,rfl,C,rfl,L _ e⟩) (.inl hn)
   (fun _ k hk=> .inr (by rw[←O];exact hk)) (fun F' X hF Y=>⟨fun _ h=>h,hA,_,E,fun i hi=>?_⟩) (by rw[rJ];rfl) (fun _=>rfl) (fun F' X hF Y I=>by simp only[V];exact⟨I,_,_,_,rfl⟩)
  simp only[List.length_take]at hi;simp only[List.getElem_take];refine ah.mono (hF _) (fun _ _ h=>h) (ah.gD (fun k v hk hv=>?_) (r2 i (by omega)));have:i*A.size+A.size≤r.toNat*A.size:=by rw[←Nat.succ_mul];exact Nat.mul_le_mul_right _ (by omega)
  rw[List.getElem?_take,if_pos (by omega)];exact hv
 have j:(xs.take r.toNat).length=r.toNat:=by simp only[List.length_take];omega
 rcases r1.2 with⟨e,Z⟩ | ⟨g,cap,a1,e,hb,N,a2,a3,a4,q⟩
 ·have x:r.toNat=0:=by omega
  refine D none 0 (by rw[Z];exact e) (key none 0 0 e (by omega) (Nat.le_refl _) (.inl rfl)) ⟨by rw[j,x];simp,.inl ⟨by rw[x],by rw[j,x]⟩⟩
 ·refine D _ cap e (key _ _ cap e rfl a2 (.inr ⟨g,rfl⟩)) ⟨?_,.inr ⟨g,cap,a1,by rw[j],hb,N,by omega,a3,a4,?_⟩⟩
  ·rw[List.length_take,r1.1,j];have:r.toNat*A.size≤xs.length*A.size:=Nat.mul_le_mul_right _ (by omega);omega
  ·rw[j,←q,List.take_take,Nat.min_eq_left (Nat.mul_le_mul_right _ (by omega))]
/-! ### Calls -/
mutual
def qR:ag→Bool
 | .sl _=>false
 | .mp _=>false
 | .adr _ _ _ _=>false
 | .ada _ _ _ _=>false
 | .fad _ e _=>nX e
 | .agg e=>nX e
 | .tup e=>nX e
 | .fn _ e=>nX e
 | .p _ _ _=>true
 | .nils=>true
 | .nilp=>true
 | .lit _=>true
 | .lag _ _ _ e=>nX e
 | .loc _ _ _=>true
 | .suf _ _ _=>false
 | .bfn _ e=>nX e
 | .unk=>true
def nX:List ag→Bool
 | []=>true
 | x::xs=>qR x && nX xs
end
mutual
theorem qd{F:Bool→Addr→Value→Prop}{ρ ρ':Nat→QW}:∀ {x:ag} {v:Value},qR x=true→V F ρ x v→V F ρ' x v
 | .p _ _ _,_,_,f=>by simpa only [V]using f
 | .nils,_,_,f=>by simpa only [V]using f
 | .nilp,_,_,f=>by simpa only [V]using f
 | .lit _,_,_,f=>by simpa only [V]using f
 | .unk,_,_,_=>by simp only[V]
 | .loc _ _ _,_,_,f=>by simpa only [V]using f
 | .suf _ _ _,_,h,_=>by simp[qR]at h
 | .lag _ _ _ z,_,h,f=>by
  simp only[V,qR]at h f ⊢;obtain⟨j,e,q,hl⟩:=f;exact⟨j,e,q,nR h hl⟩
 | .bfn _ z,_,h,f=>by
  simp only[V,qR]at h f ⊢;obtain⟨j,e,q,hl⟩:=f;exact⟨j,e,q,nR h hl⟩
 | .sl _,_,h,_=>by simp[qR]at h
 | .mp _,_,h,_=>by simp[qR]at h
 | .adr _ _ _ _,_,h,_=>by simp[qR]at h
 | .ada _ _ _ _,_,h,_=>by simp[qR]at h
 | .fad _ z _,_,h,f=>by
  simp only[V,qR]at h f ⊢;obtain⟨B,e,hl⟩:=f;exact⟨B,e,nR h hl⟩
 | .agg z,_,h,f=>by
  simp only[V,qR]at h f ⊢;obtain⟨j,e,q,hl⟩:=f;exact⟨j,e,q,nR h hl⟩
 | .tup z,_,h,f=>by
  simp only[V,qR]at h f ⊢;obtain⟨j,e,q,hl⟩:=f;exact⟨j,e,q,nR h hl⟩
 | .fn _ z,_,h,f=>by simp only[V,qR]at h f ⊢;obtain⟨j,e,q,hl⟩:=f;exact⟨j,e,q,nR h hl⟩
theorem nR{F:Bool→Addr→Value→Prop}{ρ ρ':Nat→QW}:∀ {A:List ag} {g:Nat→Value→Prop},nX A=true→VL F ρ A g→VL F ρ' A g
 | [],_,_,_=>by simp only[VL]
 | x::A,_,h,f=>by simp only[nX,Bool.and_eq_true]at h;simp only[VL]at f ⊢;obtain⟨⟨u,C,D⟩,E⟩:=f;exact⟨⟨u,C,qd h.1 D⟩,nR h.2 E⟩
end
def u3(h:Nat→Qz)(x:ag):Option ag :=
 match x with
 | .sl id=>match h id with
  | some (.arr _ A e)=>some (.p true (.slice A) e)
  | some (.fz A e)=>some (.p false (.slice A) e)
  | _=>none
 | x=>if qR x then some x else none
def oY(h:Nat→Qz):List ag→Option (List ag)
 | []=>some []
 | x::xs=>match u3 h x,oY h xs with
  | some y,some e=>some (y::e)
  | _,_=>none
def ri(h:Nat→Qz)(x:ag):Option ag :=
 match x with
 | .adr id i sz off=>match h id with
  | some (.box e)=>match oY h e with
   | some f=>some (.fad true f (i*sz+off))
   | none=>none
  | _=>none
 | .agg e=>match oY h e with
  | some f=>some (.agg f)
  | none=>none
 | x=>u3 h x
def qp(h:Nat→Qz):List ag→Option (List ag)
 | []=>some []
 | x::xs=>match ri h x,qp h xs with
  | some y,some e=>some (y::e)
  | _,_=>none
def AL(h:Nat→Qz)(x:ag):Option ag :=
 match x with
 | .fn f e=>match qp h e with
  | some j=>some (.fn f j)
  | none=>none
 | x=>ri h x
def nU(h:Nat→Qz):List ag→Option (List ag)
 | []=>some []
 | x::xs=>match AL h x,nU h xs with
  | some y,some e=>some (y::e)
  | _,_=>none
def gm:Nat→Prop:=fun _=>False
def jh:Nat→QW:=fun _=>none
def pG(φ:Nat→Nat→Prop)(h:Nat→Qz)(Bw:Nat→Prop):Nat→Prop:=fun k=>own φ h k∨Bw k
theorem HQ{β:Bool}{a:Addr}{v:Value}(f:Fr (own φ h) Bw w β a v):Fr gm (pG φ h Bw) w β a v :=
 ⟨fun e=>e,fun e hk=>hk.elim f.1 (f.2.1 e),f.2.2⟩
structure mV(φ:Nat→Nat→Prop)(h:Nat→Qz)(Bw:Nat→Prop)(w:World)(h':Nat→Qz)(F':Bool→Addr→Value→Prop):Prop where
 sub:∀i o,h' i=some o→h i=some o
 hA:∀β a v,Fr (own φ h) Bw w β a v→F' β a v
 hB:∀id o a v,h' id=some o→o.live=true→φ id a.block→w.cell? a=some v→F' true a v
theorem mV.all:mV φ h Bw w h (Fr gm (pG φ h Bw) w) :=
 ⟨fun _ _ h=>h,fun _ _ _=>HQ,fun _ _ _ _ _ _ _ h=>⟨fun e=>e,fun e=>(by cases e),World.fx h⟩⟩
variable{h':Nat→Qz}{F':Bool→Addr→Value→Prop}
theorem sX(m:Mem Bw w0 ρ φ h w)(L:mV φ h Bw w h' F'){x y:ag}(hd:u3 h' x=some y){v:Value}(p:V (Fr (own φ h) Bw w) ρ x v):V F' jh y v:=by
 unfold u3 at hd;split at hd
 ·rename_i id;simp only[V]at p;obtain⟨f,_⟩:=p;split at hd
  ·rename_i J A B hi;cases hd;obtain⟨u,j,q,_,cells,C,D⟩:=m.ob id _ (L.sub _ _ hi);rw[f]at j;cases j;have E:=lD (F:=Fr (own φ h) Bw w) (F':=F') (ρ':=jh) C D true (fun a v h=>L.hA _ _ _ ⟨h.1,fun e=>(by cases e),h.2.2⟩) (fun a v hb h=>L.hB _ _ _ _ hi rfl (q _ hb) h);exact E
  ·rename_i A B hi;cases hd;obtain⟨u,j,I⟩:=m.ob id _ (L.sub _ _ hi);rw[f]at j;cases j;exact qd (ρ:=ρ) rfl (V.mono (ρ:=ρ) L.hA (fun _ _ h=>h) I)
  ·cases hd
 ·split at hd
  ·rename_i z;cases hd;exact qd z (V.mono L.hA (fun _ _ h=>h) p)
  ·cases hd
theorem nH(m:Mem Bw w0 ρ φ h w)(L:mV φ h Bw w h' F'):∀ {f e:List ag},oY h' f=some e→∀ {g:Nat→Value→Prop},VL (Fr (own φ h) Bw w) ρ f g→VL F' jh e g∧e.length=f.length
 | [],e,hd,g,_=>by cases hd;exact⟨by simp only[VL],rfl⟩
 | x::f,e,hd,g,j=>by
  simp only[oY]at hd;split at hd
  ·rename_i y p q v;cases hd;simp only[VL]at j ⊢;obtain⟨⟨u,z,A⟩,B⟩:=j;obtain⟨C,D⟩:=nH m L v B;exact⟨⟨⟨u,z,sX m L q A⟩,C⟩,by simp[D]⟩
  ·cases hd
theorem tq(m:Mem Bw w0 ρ φ h w)(L:mV φ h Bw w h' F'){x y:ag}(hd:ri h' x=some y){v:Value}(j:V (Fr (own φ h) Bw w) ρ x v):V F' jh y v:=by
 unfold ri at hd;split at hd
 ·rename_i id i sz off;split at hd
  ·rename_i D hi;split at hd
   ·rename_i E p;cases hd;obtain⟨u,I,q,J,cells,rfl,z,A,C,M⟩:=m.ob id _ (L.sub _ _ hi);simp only[V]at j;obtain⟨g,f,rfl⟩:=j;rw[I]at f;have B:q=g:=by
     rcases f with f | ⟨n,c,f⟩
     ·simpa using f
     ·cases f
    subst B;obtain⟨N,_⟩:=nH m L p M;simp only[V];refine⟨⟨q,0,none⟩,by rw[cr,Nat.zero_add],VL.mono (fun _ _ _ h=>h) (fun _ _ h=>h) (fun k u hk=>?_) N⟩;rw[cr,Nat.zero_add];exact L.hB _ _ _ _ hi rfl z (by rw[cell_of_row w q k cells J (0,0) A];exact hk)
   ·cases hd
  ·cases hd
 ·rename_i D;split at hd
  ·rename_i E p;cases hd;simp only[V]at j ⊢;obtain⟨O,e,X,hl⟩:=j;obtain⟨A,C⟩:=nH m L p hl;exact⟨O,e,by rw[C];exact X,A⟩
  ·cases hd
 ·exact sX m L hd j
theorem ry(m:Mem Bw w0 ρ φ h w)(L:mV φ h Bw w h' F'):∀ {f e:List ag},qp h' f=some e→∀ {g:Nat→Value→Prop},VL (Fr (own φ h) Bw w) ρ f g→VL F' jh e g∧e.length=f.length
 | [],e,hd,g,_=>by cases hd;exact⟨by simp only[VL],rfl⟩
 | x::f,e,hd,g,j=>by
  simp only[qp]at hd;split at hd
  ·rename_i y p q v;cases hd;simp only[VL]at j ⊢;obtain⟨⟨u,z,A⟩,B⟩:=j;obtain⟨C,D⟩:=ry m L v B;exact⟨⟨⟨u,z,tq m L q A⟩,C⟩,by simp[D]⟩
  ·cases hd
theorem vf(m:Mem Bw w0 ρ φ h w)(L:mV φ h Bw w h' F'){x y:ag}(hd:AL h' x=some y){v:Value}(f:V (Fr (own φ h) Bw w) ρ x v):V F' jh y v:=by
 unfold AL at hd;split at hd
 ·split at hd
  ·rename_i A j;cases hd;simp only[V]at f ⊢;obtain⟨p,e,q,hl⟩:=f;obtain⟨u,z⟩:=ry m L j hl;exact⟨p,e,by rw[z];exact q,u⟩
  ·cases hd
 ·exact tq m L hd f
theorem pd(m:Mem Bw w0 ρ φ h w)(L:mV φ h Bw w h' F'):∀ {q p:List ag},nU h' q=some p→∀ {e:QY},iL (Fr (own φ h) Bw w) ρ q e→iL F' jh p e
 | [],p,hd,e,j=>by
  cases hd;cases e with
  | nil=>trivial
  | cons _ _=>exact j.elim
 | x::q,p,hd,e,j=>by
  simp only[nU]at hd;split at hd
  ·rename_i y u z A;cases hd;cases e with
   | nil=>exact j.elim
   | cons v e=>exact⟨vf m L z j.1,pd m L A j.2⟩
  ·cases hd
structure Pure(P:Program)(f:FuncId)(args:List ag)(r:ag):Prop where
 fn:∃fn,P.funcs[f]? = some fn∧(fn.name == "runtime.NumGoroutine")=false∧fn.body.isNone=false
 calls:∀(Bw:Nat→Prop) (w:World) (vals:QU),sT P w→(∀k,Bw k→k<w.heap.size)→iL (Fr gm Bw w) jh args vals.toList →
  Calls P f vals w fun e w'=>∃v,e = .returned v∧Below w.heap.size w w'∧V (fun _=>Fr gm Bw w' false) jh r v
theorem Ew(m:Mem Bw w0 ρ φ h w){o:Oper}{a:Act}{fo:Operand}{p:Array Operand}{Y:Array TypeId}(ho:o.op = .call { callee:= .value fo,args:=p,argTypes:=Y })
  {f:FuncId} {q:List ag} (hf:V (Fr (own φ h) Bw w) ρ (.fn f q) (a.eval fo)) {xs:List ag} (hx:iL (Fr (own φ h) Bw w) ρ xs (p.toList.map a.eval)) {args:List ag} (hl:nU h (xs++q)=some args)
  {r:ag} (hp:Pure P f args r):Good P o a w (aF Bw w0 ρ φ h w new r []):=by
 simp only[V]at hf;obtain⟨O,Z,a1,C⟩:=hf;obtain⟨fn,a2,D,z⟩:=hp.fn;have E:∀(L:List ag) (j:QY),j.length=L.length→VL (Fr (own φ h) Bw w) ρ L (fun k u=>j[k]? = some u)→iL (Fr (own φ h) Bw w) ρ L j:=fun L=>by
  induction L with
  | nil=>intro j hl _;cases j with | nil=>trivial | cons _ _=>simp at hl
  | cons c L ih =>
   intro j hl B;cases j with
   | nil=>simp at hl
   | cons u j =>simp only[VL]at B;obtain⟨⟨u',X,q2⟩,q3⟩:=B;simp at X;subst X;exact⟨q2,ih j (by simpa using hl) (VL.mono (fun _ _ _ h=>h) (fun _ _ h=>h) (fun k u hk=>by simpa using hk) q3)⟩
 have M:∀(xs:List ag) (j:QY),iL (Fr (own φ h) Bw w) ρ xs j→iL (Fr (own φ h) Bw w) ρ (xs++q) (j++O.toList):=fun xs=>by
  induction xs with
  | nil =>
   intro j B;cases j with
   | nil=>exact E q O.toList (by simpa using a1) (VL.mono (fun _ _ _ h=>h) (fun _ _ h=>h) (fun k u hk=>by simpa using hk) C)
   | cons _ _=>exact B.elim
  | cons x xs ih =>
   intro j B;cases j with
   | nil=>exact B.elim
   | cons u j=>exact⟨B.1,ih j B.2⟩
 have I:=pd m mV.all hl (M xs _ hx);have a3:∀k,pG φ h Bw k→k<w.heap.size:=fun k hk=>by
  rcases hk with hk | hk
  ·exact m.uT hk
  ·exact Nat.lt_of_lt_of_le (w0.lt k (m.bw k hk)) m.kp.size
 have J:=hp.calls (pG φ h Bw) w (p.map a.eval++O) m.kp.laid a3 (by simpa using I);refine Good.sc (f:=f) (args:=p.map a.eval++O) (w':=w) ?_ (J.mono fun e w' ⟨v,he,hb,B⟩=>⟨v,he,ρ,φ,?_,?_,fun _ _ h=>h,fun _ _ h=> .inl h,?_⟩)
 ·have n1:¬fn.name = "runtime.NumGoroutine" :=by simpa using D
  have n2:¬fn.body=none:=fun e=>by rw[e]at z;cases z
  simp[execOp,ho,resolve,Z,Deferred.ofValue,invoke,callFunc,a2,n1,n2]
 ·have hF:∀β a v,Fr (own φ h) Bw w β a v→Fr (own φ h) Bw w' β a v:=fun β a v=>Fr.Jo (fun k hk _=>hb.block k hk) (fun k hk=> .inl hk) β a v
  refine⟨fun id ob N=>?_,fun id o k h1 h2 h3=>Nat.lt_of_lt_of_le (m.lt id o k h1 h2 h3) hb.size,m.dj,m.bw,m.ow,m.kp.Dv hb,m.pc⟩;obtain⟨u,X,q2⟩:=m.ob id ob N;exact⟨u,X,OR.mono hF (fun _ _ h=>h) (fun _ h=>h) (fun hl k hk=>hb.block k (m.lt id ob k N hl hk)) q2⟩
 ·exact fun β a v=>Fr.Jo (fun k hk _=>hb.block k hk) (fun k hk=> .inl hk) β a v
 ·refine V.mono (fun β a u hu=>?_) (fun _ _ h=>by cases h) B;exact⟨fun e=>hu.2.1 rfl (.inl e),fun _ e=>hu.2.1 rfl (.inr e),hu.2.2⟩
end
end Go.Tv
