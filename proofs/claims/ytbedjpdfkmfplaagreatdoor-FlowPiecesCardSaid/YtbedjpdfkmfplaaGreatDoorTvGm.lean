import Derived.Test.YtbedjpdfkmfplaaGreatDoorTvF
import Derived.Laws.OwnMore
namespace Go.Tv
open Go Go.RowKit
def wr(e:List ag)(p:Nat)(new:List ag):List ag:=e.take p++new++e.drop (p+new.length)
theorem Ha{e new:List ag}{p:Nat}(h:p+new.length≤e.length):(wr e p new).length=e.length:=by
 simp only[wr,List.length_append,List.length_take,List.length_drop];omega
theorem F2{F:Bool→Addr→Value→Prop}{ρ:Nat→QW}{e new:List ag}{us f:QY}{p:Nat}(B:p+new.length≤e.length)(j:us.length=e.length)(q:f.length=new.length)
  (C:VL F ρ e (fun k u=>us[k]? = some u)) (D:VL F ρ new (fun k u=>f[k]? = some u)) :
  VL F ρ (wr e p new) (fun k u=>(us.take p++f++us.drop (p+new.length))[k]? = some u):=by
 refine VL.mk fun k x hk=>?_
 unfold wr at hk;have E:(e.take p++new).length=p+new.length:=by simp only[List.length_append,List.length_take];omega
 have I:(us.take p++f).length=p+new.length:=by simp only[List.length_append,List.length_take];omega
 have J:(e.take p).length=p:=by simp only[List.length_take];omega
 have L:(us.take p).length=p:=by simp only[List.length_take];omega
 rcases Nat.lt_or_ge k (p+new.length)with z | A
 ·grind (splits:=6) (ematch:=4) [Nat.lt_or_ge,VL.get]
 ·grind (splits:=6) (ematch:=4) [VL.get]
theorem EX{P:Program}{Bw:Nat→Prop}{w0:cE P}{w:World}{ρ:Nat→QW}{φ:Nat→Nat→Prop}{h:Nat→Qz}(m:Mem Bw w0 ρ φ h w){T:Ty}{x:ag}{y:T.den}{u:iu}(hd:G0 T h x=some (y,u)):
  Mem Bw w0 ρ φ (apply u h) w∧(∀β a v,Fr (own φ h) Bw w β a v→Fr (own φ (apply u h)) Bw w β a v) ∧
  ∀g:Nat→Value→Prop,VL (Fr (own φ h) Bw w) ρ (cellsOf x) g→ai (Fr (own φ (apply u h)) Bw w false) T y g∧T.size=(cellsOf x).length:=by
 unfold G0 at hd;split at hd
 ·rename_i e E f;split at hd
  ·rename_i I j;cases hd;obtain⟨q,z,J,A⟩:=pG m f;refine⟨q,z,fun g B=>?_⟩;obtain⟨C,D,L⟩:=cZ j (A g B);refine⟨C,?_⟩;have:(e.drop T.size).length=0:=by rw[←D];rfl
   simp only[List.length_drop]at this;omega
  ·cases hd
 ·cases hd
theorem nq{P:Program}{Bw:Nat→Prop}{w0:cE P}{w:World}{ρ:Nat→QW}{φ:Nat→Nat→Prop}{h:Nat→Qz}(m:Mem Bw w0 ρ φ h w){T:Ty}{x:ag}{y:T.den}{u:iu}(hd:HE T h x=some (y,u)):
  Mem Bw w0 ρ φ (apply u h) w∧(∀β a v,Fr (own φ h) Bw w β a v→Fr (own φ (apply u h)) Bw w β a v) ∧
  ∀g:Nat→Value→Prop,VL (Fr (own φ h) Bw w) ρ (cellsOf x) g→ai (Fr (own φ (apply u h)) Bw w false) T y g∧T.size=(cellsOf x).length:=by
 unfold HE at hd;split at hd
 ·rename_i A id i sz off;split at hd
  ·rename_i hz;split at hd
   ·rename_i cs hi;split at hd
    ·rename_i y' Z;cases hd;obtain⟨m',M⟩:=m.less (h':=bu h id none) (fun j o I=>by
      by_cases e:j=id
      ·subst e;rw[av]at I;cases I
      ·rwa [aD _ _ e]at I)
     refine⟨m',M,fun g E=>⟨?_,rfl⟩⟩;simp only[cellsOf,VL,V]at E;obtain⟨⟨u,N,b,hb,rfl⟩,_⟩:=E;obtain⟨u0,Y,f,te,cells,rfl,C,r1,r2,r3⟩:=m.ob id _ hi;have J:f=b:=by simp_all
     subst J;rw[hz]at N;obtain⟨r4,_,_⟩:=cZ Z r3;refine⟨⟨f,0,none⟩,N,ai.mono (M false) (fun k v hk=>?_) r4⟩;have hk:cells[k]? = some v:=hk;rw[cu];refine⟨fun⟨q,O,z,p2,p3⟩=>?_,fun _ L=>m.ow f ⟨id,_,hi,rfl,C⟩ (m.bw _ L),?_⟩
     ·have z:bu h id none q=some O:=z;have D:q≠id:=fun e=>by subst e;rw[av]at z;cases z
      rw[aD _ _ D]at z;exact D (m.dj q id O _ f z p2 hi rfl p3 C)
     ·rw[Nat.zero_add];exact World.fM (by rw[cell_of_row w f k cells te (0,0) r1];exact hk)
    ·cases hd
   ·rename_i k n xs cs hi;split at hd
    ·rename_i k' n' B;split at hd
     ·rename_i en;subst en;split at hd
      ·rename_i ek;subst ek;split at hd
       ·rename_i y' Z;cases hd;obtain⟨m',M⟩:=m.less (h':=bu h id none) (fun j o I=>by
         by_cases e:j=id
         ·subst e;rw[av]at I;cases I
         ·rwa [aD _ _ e]at I)
        refine⟨m',M,fun g E=>⟨?_,rfl⟩⟩;simp only[cellsOf,VL,V]at E;obtain⟨⟨u,N,b,hb,rfl⟩,_⟩:=E;obtain⟨u0,Y,f,te,cells,rfl,C,r1,r2,r3,r4⟩:=m.ob id _ hi;have J:f=b:=by simp_all
        subst J;rw[hz]at N;obtain⟨r5,_,_⟩:=cZ Z r4;have X:∀k v,cells[k]? = some v→Fr (own φ (bu h id none)) Bw w false ⟨f,k,none⟩ v:=fun k v hk=>by
         refine⟨fun⟨q,O,z,p2,p3⟩=>?_,fun _ L=>m.ow f ⟨id,_,hi,rfl,C⟩ (m.bw _ L),World.fM (by rw[cell_of_row w f k cells te (0,0) r1];exact hk)⟩;have z:bu h id none q=some O:=z;have D:q≠id:=fun e=>by subst e;rw[av]at z;cases z
         rw[aD _ _ D]at z;exact D (m.dj q id O _ f z p2 hi rfl p3 C)
        refine⟨⟨f,0,none⟩,N,fun i hi=>?_,ai.mono (M false) (fun k v hk=>?_) r5⟩
        ·have:=X i _ (r3 i hi);rw[show(⟨f,i,none⟩:Addr)=(⟨f,0,none⟩:Addr).add i by rw[cu,Nat.zero_add]]at this;exact this
        ·have hk:cells[n+k]? = some v:=hk;have:=X (n+k) v hk;rw[show(⟨f,n+k,none⟩:Addr)=(⟨f,0,none⟩:Addr).add (n+k) by rw[cu,Nat.zero_add]]at this;exact this
       ·cases hd
      ·cases hd
     ·cases hd
    ·cases hd
   ·cases hd
  ·cases hd
 ·rename_i k n k' n' xs cs;split at hd
  ·split at hd
   ·rename_i en;subst en;split at hd
    ·rename_i ek;subst ek;cases hd;refine⟨m,fun _ _ _ h=>h,fun g E=>⟨fun i hi=>?_,by simp[cellsOf,Ty.size,xs.2]⟩⟩;simp only[cellsOf,List.append_nil]at E;obtain⟨u,Y,q2⟩:=VL.get E (k:=i) (x:= .p false (.int k') xs.1[i]) (by rw[List.getElem?_map,List.getElem?_eq_getElem hi];rfl);rw[bR q2]at Y;exact Y
    ·cases hd
   ·cases hd
  ·cases hd
 ·exact EX m hd
section
variable{P:Program}{Bw:Nat→Prop}{w0:cE P}{ρ:Nat→QW}{φ:Nat→Nat→Prop}{h:Nat→Qz}{w:World}{new:Nat}
theorem wJ(m:Mem Bw w0 ρ φ h w){o:Oper}{a:Act}{t:TypeId}{ti:TI}(ht:aO P t ti){M D:Operand}{id i sz off:Nat}(N:V (Fr (own φ h) Bw w) ρ (.adr id i sz off) (a.eval M))
  {y:ag} (hy:V (Fr (own φ h) Bw w) ρ y (a.eval D)) (hc:(cellsOf y).all ag.cell=true) (ho:o.op = .store t M D) {z:List ag} (hi:h id=some (.box z))
  (f:(cellsOf y).length=ti.size) (j:i*sz+off+ti.size≤z.length) :
  Good P o a w (aG Bw w0 ρ φ h w new .unk [(id,some (.box (wr z (i*sz+off) (cellsOf y))))]):=by
 obtain⟨u,E,g,O,cells,rfl,I,X,Y,r3⟩:=m.ob id _ hi;simp only[V]at N;obtain⟨g',hg,he⟩:=N;rw[E]at hg;have J:g=g':=by simp_all
 subst J;obtain⟨h1,Z,h3⟩:=gv hc hy;have B:=ib (P:=P) ht X (v:=a.eval D) (p:=i*sz+off) (by rw[Z,f]) (by rw[Y];exact j) h3;refine Good.j5 (w':=_) (by simp[execOp,ho,Instr.storeAt,he,Instr.sureAddr,B];rfl) ?_;refine eG m (some id) id (.box (wr z (i*sz+off) (cellsOf y))) (.pointer (some ⟨g,0,none⟩)) (φ id) (some g) (bc w g _) (fun k e=>⟨id,_,rfl,hi,rfl,by cases e;assumption⟩) (.inr ⟨rfl,E⟩)
  (fun _ k hk=>Nat.lt_of_lt_of_le (m.lt id _ k hi rfl hk) (bc w g _).size) (fun _ k hk=> .inr ⟨id,_,rfl,hi,rfl,hk⟩) (fun F' C L q=>?_) (by rw[bf];rfl) (fun e=>by rw[E]at e;cases e) (fun F' C L q a1=>by simp only[V])
 refine⟨g,O,_,rfl,I,setRow_heap w g cells _ O _ X,?_,?_⟩
 ·simp_all [List.size_toArray,List.length_append,List.length_take,List.length_drop,Array.length_toList,wr]
 ·have h4:VL F' C z (fun k u=>cells.toList[k]? = some u):=VL.mono L q (fun k u hk=>by simpa using hk) r3;have:=F2 (p:=i*sz+off) (by rw[f];exact j) (by simpa using Y) Z h4 (VL.mono L q (fun _ _ h=>h) h1);rw[f]at this;exact VL.mono (fun _ _ _ h=>h) (fun _ _ h=>h) (fun k u hk=>by simpa using hk) this
theorem qW{t:TypeId}{ti:TI}(ht:aO P t ti)(D:ti.size=1){g p:Nat}{f:QU}{C:TypeId}{mk:Nat×Nat}(z:w.heap[g]? = some (.cells f C mk))(E:p<f.size)(A:mk=(0,0)∨mk=(f.size,f.size+1))
  {v:Value} (I:v.cells = #[v]) (J:v.oneCell'=true):(storeVar t ⟨g,p,none⟩ v).run P w = .ok () (w.setRow g (f.setIfInBounds p v)):=by
 have j:w.cell? ⟨g,p,none⟩=some f[p]:=by simp[World.cell?,z,E]
 have q:w.frozen? ⟨g,p,none⟩=false:=by rcases A with e | e <;> subst e <;> simp[World.frozen?,z] <;> omega
 unfold storeVar;rw[Sem.run_bind,run_sizeOf ht];simp only[Result.andThen_ok];rw[I,D];have B:(store ((⟨g,p,none⟩:Addr).add 0) v).run P w = .ok () (w.setRow g (f.setIfInBounds p v)):=by
  have u:(⟨g,p,none⟩:Addr).add 0=⟨g,p,none⟩:=by unfold Addr.add;split <;> simp_all
  rw[u,run_store P w _ v _ J,j];simp[q,setCell_eq_setRow w g p f C mk v z]
 simp[storeCells,Sem.run_bind,B]
theorem uD(m:Mem Bw w0 ρ φ h w){o:Oper}{a:Act}{t:TypeId}{ti:TI}(ht:aO P t ti)(C:ti.size=1){D E:Operand}{id i:Nat}(Z:V (Fr (own φ h) Bw w) ρ (.adr id i 1 0) (a.eval D))
  {β:Bool} {v:Int} (hy:V (Fr (own φ h) Bw w) ρ (.p β (.int .u8) v) (a.eval E)) (ho:o.op = .store t D E) {B:TypeId} {xs:QK} (hi:h id=some (.bytes B xs)) (I:i<xs.length) :
  Good P o a w (aG Bw w0 ρ φ h w new .unk [(id,some (.bytes B (xs.set i v)))]):=by
 obtain⟨u,J,q2⟩:=m.ob id _ hi;simp only[V]at Z;obtain⟨g,hg,he⟩:=Z;have q:=bR hy;rcases q2 with⟨rfl,hn⟩ | ⟨f,cap,L,mk,rfl,M,r1,r2,r3,r5,r6⟩
 ·subst hn;simp at I
 rw[J]at hg;have N:f=g:=by simp_all
 subst N;have z:=qW (P:=P) ht C r1 (v:=a.eval E) (p:=i) (by omega) r2 (by rw[q];rfl) (by rw[q];rfl);have O:a.eval D = .pointer (some ⟨f,i,none⟩):=by rw[he];simp
 refine Good.j5 (w':=_) (by simp[execOp,ho,Instr.storeAt,O,Instr.sureAddr,z];rfl) ?_;refine eG m (some id) id (.bytes B (xs.set i v)) (.slice (some ⟨f,0,none⟩) xs.length cap) (φ id) (some f) (bc w f _) (fun k e=>⟨id,_,rfl,hi,rfl,by cases e;assumption⟩) (.inr ⟨rfl,J⟩)
  (fun _ k hk=>Nat.lt_of_lt_of_le (m.lt id _ k hi rfl hk) (bc w f _).size) (fun _ k hk=> .inr ⟨id,_,rfl,hi,rfl,hk⟩) (fun F' X hF Y=>?_) (by rw[bf];rfl) (fun e=>by rw[J]at e;cases e) (fun F' X hF Y a1=>by simp only[V])
 refine .inr ⟨f,cap,_,mk,by rw[List.length_set],M,setRow_heap w f L _ B _ r1,?_,by rw[List.length_set];exact r3,by simpa using r5,fun j hj=>?_⟩
 ·simp_all
 ·grind
theorem KA{F:Bool→Addr→Value→Prop}{ρ:Nat→QW}{cells vs:QY}{e new:List ag}{b off:Nat}(hb:b+e.length≤cells.length)(f:off+new.length≤e.length)(j:vs.length=new.length)
  (L:VL F ρ e (fun k u=>cells[b+k]? = some u)) (q:VL F ρ new (fun k u=>vs[k]? = some u)) :
  VL F ρ (wr e off new) (fun k u=>(cells.take (b+off)++vs++cells.drop (b+off+new.length))[b+k]? = some u):=by
  have h3 : VL F ρ e (fun k u => ((cells.drop b).take e.length)[k]? = some u) := VL.mk fun k x hk => by
    obtain ⟨u, q1, q2⟩ := VL.get L hk
    have hk' : k < e.length := (List.getElem?_eq_some_iff.1 hk).1
    exact ⟨u, by rw [List.getElem?_take, if_pos hk', List.getElem?_drop]; exact q1, q2⟩
  have h4 := F2 (p := off) (us := (cells.drop b).take e.length) f (by simp only [List.length_take, List.length_drop]; omega) j h3 q
  refine VL.mono (fun _ _ _ h => h) (fun _ _ h => h) (fun k u hk => ?_) h4
  have hl1 : (((cells.drop b).take e.length).take off ++ vs).length = off + new.length := by simp only [List.length_append, List.length_take, List.length_drop]; omega
  have hl2 : (cells.take (b + off) ++ vs).length = b + off + new.length := by simp only [List.length_append, List.length_take]; omega
  have hl3 : (((cells.drop b).take e.length).take off).length = off := by simp only [List.length_take, List.length_drop]; omega
  have hl4 : (cells.take (b + off)).length = b + off := by simp only [List.length_take]; omega
  rcases Nat.lt_or_ge k (off + new.length) with hlt | hge
  · rw [List.getElem?_append_left (by omega)] at hk
    rw [List.getElem?_append_left (by omega)]
    rcases Nat.lt_or_ge k off with hlt' | hge'
    · rw [List.getElem?_append_left (by omega), List.getElem?_take, if_pos hlt', List.getElem?_take, if_pos (by omega), List.getElem?_drop] at hk
      rw [List.getElem?_append_left (by omega), List.getElem?_take, if_pos (by omega)]
      exact hk
    · rw [List.getElem?_append_right (by omega), hl3] at hk
      rw [List.getElem?_append_right (by omega), hl4, show b + k - (b + off) = k - off by omega]
      exact hk
  · rw [List.getElem?_append_right (by omega), hl1, List.getElem?_drop, List.getElem?_take] at hk
    split at hk
    · rw [List.getElem?_drop] at hk
      rw [List.getElem?_append_right (by omega), hl2, List.getElem?_drop, ← hk]
      congr 1
      omega
    · cases hk
theorem iS {cells vs:QY} {p n k:Nat} (j:p+n≤cells.length) (hn:vs.length=n) (hk:k<p∨p+n≤k):(cells.take p++vs++cells.drop (p+n))[k]? = cells[k]? :=by
 have e:(cells.take p).length=p:=by simp only[List.length_take];omega
 have f:(cells.take p++vs).length=p+n:=by simp only[List.length_append,e,hn]
 rcases hk with hk | hk
 ·grind
 ·grind
theorem vd{α:Type}{l vs:List α}{p m n:Nat}(e:vs.length=m)(f:p+m≤n)(j:n≤l.length):
  (l.take p++vs++l.drop (p+m)).take n=(l.take n).take p++vs++(l.take n).drop (p+m):=by
 grind (splits:=6) (ematch:=4) [List.length_take,List.append_assoc,List.take_append,List.take_of_length_le,Nat.min_eq_left,List.drop_take,Nat.sub_sub]
theorem ai.gV{F:Addr→Value→Prop}:∀ {T:Ty} {x:T.den} {g g':Nat→Value→Prop},(∀k v,k<T.size→g k v→g' k v)→ai F T x g→ai F T x g'
 | .int _,_,_,_,f,h=>f _ _ (by simp[Ty.size]) h
 | .bool,_,_,_,f,h=>f _ _ (by simp[Ty.size]) h
 | .str,_,_,_,f,h=>f _ _ (by simp[Ty.size]) h
 | .flt,_,_,_,f,⟨m,h,e⟩=>⟨m,f _ _ (by simp[Ty.size]) h,e⟩
 | .unit,_,_,_,_,_=>trivial
 | .prod a b,x,_,_,f,h=>⟨ai.gV (T:=a) (fun k v hk=>f k v (by simp only[Ty.size];omega)) h.1,ai.gV (T:=b) (fun k v hk=>f _ v (by simp only[Ty.size];omega)) h.2⟩
 | .slice a,xs,_,_,f,⟨ad,len,cap,j,hl,h⟩=>⟨ad,len,cap,f _ _ (by simp[Ty.size]) j,hl,h⟩
 | .ptr a,none,_,_,f,h=>f _ _ (by simp[Ty.size]) h
 | .ptr a,some y,_,_,f,⟨b,j,q⟩=>⟨b,f _ _ (by simp[Ty.size]) j,q⟩
 | .tree z B,t,_,_,f,h=>gX.mono (fun _ _ h=>h) (fun k v hk=>f k v (by simpa [Ty.size]using hk)) h
 | .arr _ _,x,_,_,f,h=>fun i hi=>f _ _ (by rw[x.2]at hi;exact hi) (h i hi)
 | .mapi _ _,_,_,_,f,⟨r,j,h⟩=>⟨r,f _ _ (by simp[Ty.size]) j,h⟩
def Dr(A:Ty)(h:Nat→Qz)(e:List A.den)(i off:Nat)(y:ag):Option (A.den×iu) :=
 HE A h (.agg (wr (flat false A (e.getD i A.zero)) off (cellsOf y)))
theorem wS(m:Mem Bw w0 ρ φ h w){o:Oper}{a:Act}{t:TypeId}{ti:TI}(ht:aO P t ti){xo M:Operand}{id i off:Nat}{N:TypeId}{A:Ty}(hx:V (Fr (own φ h) Bw w) ρ (.adr id i A.size off) (a.eval xo))
  {y:ag} (hy:V (Fr (own φ h) Bw w) ρ y (a.eval M)) (hc:(cellsOf y).all ag.cell=true) (ho:o.op = .store t xo M) {xs:List A.den} {z:A.den} {us:iu}
  (hz:Dr A h xs i off y=some (z,us)) (a1:h id=some (.arr N A xs)) (hi:apply us h id=some (.arr N A xs)) (f:(cellsOf y).length=ti.size) (ad:off+ti.size≤A.size) (D:i<xs.length) :
  Good P o a w (aG Bw w0 ρ φ h w new .unk (us++[(id,some (.arr N A (xs.set i z)))])):=by
 obtain⟨m',a2,a3⟩:=nq m hz;obtain⟨u,Y,a4,hA,cells,r1,r2⟩:=m'.ob id _ hi;have a5:=gv hc hy;simp only[V]at hx;obtain⟨g,hg,he⟩:=hx;obtain⟨h1,Z,h3⟩:=a5;rcases r1.2 with⟨rfl,hn⟩ | ⟨L,cap,E,rfl,_,B,C,I,O,J⟩
 ·omega
 rw[Y]at hg;have a6:L=g:=by simp_all
 subst a6;have b3:cells.length=xs.length*A.size:=r1.1;have b4:i*A.size+A.size≤xs.length*A.size:=by rw[←Nat.succ_mul];exact Nat.mul_le_mul_right _ D
 have a7:xs.length*A.size≤cap*A.size:=Nat.mul_le_mul_right _ C;have X:=ib (P:=P) ht B (v:=a.eval M) (p:=i*A.size+off) (by rw[Z,f]) (by rw[O];omega) h3;refine Good.j5 (w':=_) (by simp[execOp,ho,Instr.storeAt,he,Instr.sureAddr,X];rfl) ?_;refine aG.after rfl a2 ?_;refine cV m' (some id) id (.arr N A (xs.set i z)) (.slice (some ⟨L,0,none⟩) xs.length cap) (some L) (bc w L _) (fun k e=>⟨id,_,rfl,hi,rfl,a4 _ (by simpa [dH]using e)⟩) (.inr ⟨rfl,Y⟩)
  (fun _ k hk=> .inr (by simpa [dH]using hk)) (fun F' a8 hF a9=>?_) (by rw[bf];rfl) (fun e=>by rw[Y]at e;cases e) (fun F' a8 hF a9 ax=>by simp only[V])
 refine⟨fun _ h=>h,hA,cells.take (i*A.size+off)++(a.eval M).cells.toList++cells.drop (i*A.size+off+ti.size),⟨?_,.inr ⟨L,cap,_,?_,Nat.zero_le _,setRow_heap w L E _ N _ B,?_,I,?_,?_⟩⟩,fun j hj=>?_⟩
 ·grind
 ·rw[List.length_set]
 ·rw[List.length_set];exact C
 ·grind
 ·rw[List.length_set,←J];have hq:xs.length*A.size≤E.toList.length:=by simp only[Array.length_toList];omega
  have:=vd (l:=E.toList) (vs:=(a.eval M).cells.toList) (p:=i*A.size+off) (m:=ti.size) (n:=xs.length*A.size) (by rw[Z,f]) (by omega) hq;simpa using this
 ·rw[List.length_set]at hj;by_cases e:i=j
  ·subst e;simp only[List.getElem_set_self];refine ai.mono (hF _) (fun _ _ h=>h) (a3 _ ?_).1;simp only[cellsOf];obtain⟨u',p1,_,_,q,p2,p3⟩:=m.ob id _ a1;rw[Y]at p1;cases p1;have aa:q=cells:=by
    rcases p2.2 with⟨e,_⟩ | ⟨g2,b1,b2,e,_,e2,_,_,_,e3⟩
    ·cases e
    ·simp_all
   subst aa;have ac:VL (Fr (own φ h) Bw w) ρ (flat false A (xs.getD i A.zero)) (fun k u=>q[i*A.size+k]? = some u):=wQ D (p3 i D);have:=KA (b:=i*A.size) (off:=off) (by rw[eW];omega) (by rw[eW,f];omega) Z ac h1;rw[f]at this;exact this
  ·rw[List.getElem_set_ne e];refine ai.mono (hF _) (fun _ _ h=>h) (ai.gV (fun k v hk hv=>?_) (r2 j hj));have b5:j*A.size+A.size≤xs.length*A.size:=by rw[←Nat.succ_mul];exact Nat.mul_le_mul_right _ hj
   rw[iS (by omega) (by rw[Z,f])]
   ·exact hv
   ·rcases Nat.lt_or_gt_of_ne e with e' | e'
    ·have:i*A.size+A.size≤j*A.size:=by rw[←Nat.succ_mul];exact Nat.mul_le_mul_right _ e'
     omega
    ·have:j*A.size+A.size≤i*A.size:=by rw[←Nat.succ_mul];exact Nat.mul_le_mul_right _ e'
     omega
end
def Ty.refs:Ty→Bool
 | .prod a b=>a.refs || b.refs
 | .slice _=>true
 | .ptr _=>true
 | .tree _ _=>true
 | .mapi _ _=>true
 | _=>false
theorem jW{G f:Addr→Value→Prop}:∀ {T:Ty} {x:T.den} {g:Nat→Value→Prop},T.refs=false→ai G T x g→ai f T x g
 | .int _,_,_,_,h=>h
 | .bool,_,_,_,h=>h
 | .str,_,_,_,h=>h
 | .flt,_,_,_,h=>h
 | .unit,_,_,_,_=>trivial
 | .prod a b,_,_,h,e=>by
  simp only[Ty.refs,Bool.or_eq_false_iff]at h;exact⟨jW h.1 e.1,jW h.2 e.2⟩
 | .slice _,_,_,h,_=>by cases h
 | .ptr _,_,_,h,_=>by cases h
 | .tree _ _,_,_,h,_=>by cases h
 | .arr _ _,_,_,_,e=>e
 | .mapi _ _,_,_,h,_=>by cases h
theorem ai.AK{F:Addr→Value→Prop}:∀ {T:Ty} {x:T.den} {g g':Nat→Value→Prop},(∀k v,v.oneCell'=true→g k v→g' k v)→ai F T x g→ai F T x g'
 | .int _,_,_,_,f,h=>f _ _ rfl h
 | .bool,_,_,_,f,h=>f _ _ rfl h
 | .str,_,_,_,f,h=>f _ _ rfl h
 | .flt,_,_,_,f,⟨m,h,e⟩=>⟨m,f _ _ rfl h,e⟩
 | .unit,_,_,_,_,_=>trivial
 | .prod _ _,_,_,_,f,h=>⟨ai.AK f h.1,ai.AK (fun k v hk q=>f _ v hk q) h.2⟩
 | .slice _,_,_,_,f,⟨ad,len,cap,j,hl⟩=>⟨ad,len,cap,f _ _ rfl j,hl⟩
 | .ptr _,none,_,_,f,h=>f _ _ rfl h
 | .ptr _,some _,_,_,f,⟨b,j,q⟩=>⟨b,f _ _ rfl j,q⟩
 | .tree _ _,.node _ _ _,_,_,f,h=>by
  simp only[ai,gX]at h ⊢;obtain⟨z,B,ad,len,cap,C,D⟩:=h;exact⟨f _ _ rfl z,f _ _ rfl B,ad,len,cap,f _ _ rfl C,D⟩
 | .arr _ _,_,_,_,f,h=>fun i hi=>f _ _ rfl (h i hi)
 | .mapi _ _,_,_,_,f,⟨r,j,h⟩=>⟨r,f _ _ rfl j,h⟩
theorem ai.list{G:Addr→Value→Prop}:∀ {T:Ty} {x:T.den} {g:Nat→Value→Prop},ai G T x g →
  ∃us:QY,us.length=T.size∧(∀k u,us[k]? = some u→g k u)∧ai G T x (fun k v=>us[k]? = some v)
 | .int k,x,g,h=>⟨[_],rfl,fun k u hk=>by cases k with | zero=>simp at hk;subst hk;exact h | succ k=>simp at hk,rfl⟩
 | .bool,x,g,h=>⟨[_],rfl,fun k u hk=>by cases k with | zero=>simp at hk;subst hk;exact h | succ k=>simp at hk,rfl⟩
 | .str,x,g,h=>⟨[_],rfl,fun k u hk=>by cases k with | zero=>simp at hk;subst hk;exact h | succ k=>simp at hk,rfl⟩
 | .flt,x,g,⟨m,h,e⟩=>⟨[_],rfl,fun k u hk=>by cases k with | zero=>simp at hk;subst hk;exact h | succ k=>simp at hk,m,rfl,e⟩
 | .unit,x,g,h=>⟨[],rfl,fun k u hk=>by simp at hk,trivial⟩
 | .prod a b,x,g,h=>by
  obtain⟨us,j,D,z⟩:=ai.list h.1;obtain⟨vs,q,I,E⟩:=ai.list h.2;refine⟨us++vs,by simp[j,q,Ty.size],fun k u hk=>?_,?_,?_⟩
  ·grind
  ·exact ai.mono (fun _ _ h=>h) (fun k v hk=>by rw[List.getElem?_append_left (List.getElem?_eq_some_iff.1 hk).1];exact hk) z
  ·exact ai.mono (fun _ _ h=>h) (fun k v hk=>by show(us++vs)[a.size+k]? = some v;rw[List.getElem?_append_right (by omega),j,Nat.add_sub_cancel_left];exact hk) E
 | .slice a,x,g,⟨ad,l,c,f,hl,h⟩=>⟨[_],rfl,fun k u hk=>by cases k with | zero=>simp at hk;subst hk;exact f | succ k=>simp at hk,⟨ad,l,c,rfl,hl,h⟩⟩
 | .ptr a,none,g,h=>⟨[_],rfl,fun k u hk=>by cases k with | zero=>simp at hk;subst hk;exact h | succ k=>simp at hk,rfl⟩
 | .ptr a,some y,g,⟨b,f,h⟩=>⟨[_],rfl,fun k u hk=>by cases k with | zero=>simp at hk;subst hk;exact f | succ k=>simp at hk,⟨b,rfl,h⟩⟩
 | .tree B C,.node o s J,g,h=>by
  simp only[ai,gX]at h;obtain⟨j,D,ad,len,cap,z,q⟩:=h;refine⟨[.int B o,.int C s,.slice ad len cap],rfl,fun k u hk=>?_,?_⟩
  ·grind
  ·simp only[ai,gX];exact⟨rfl,rfl,ad,len,cap,rfl,q⟩
 | .arr k n,x,g,h=>by
  refine⟨x.1.map (Value.int k),by simp[Ty.size,x.2],fun i u hi=>?_,fun i hi=>by simp[hi]⟩;rw[List.getElem?_map]at hi;rcases Nat.lt_or_ge i x.1.length with hl | hl
  ·rw[List.getElem?_eq_getElem hl]at hi;cases hi;exact h i hl
  ·rw[List.getElem?_eq_none hl]at hi;cases hi
 | .mapi B C,x,g,⟨r,f,h⟩=>⟨[_],rfl,fun k u hk=>by cases k with | zero=>simp at hk;subst hk;exact f | succ k=>simp at hk,r,rfl,h⟩
theorem lF{G:Addr→Value→Prop}{A:Ty}:∀ {ys:List A.den} {g:Nat→Value→Prop},(∀i (h:i<ys.length),ai G A ys[i] (fun k v=>g (i*A.size+k) v)) →
  ∃e:QY,e.length=ys.length*A.size∧(∀k u,e[k]? = some u→g k u)∧(∀i (h:i<ys.length),ai G A ys[i] (fun k v=>e[i*A.size+k]? = some v))
 | [],g,_=>⟨[],by simp,fun k u hk=>by simp at hk,fun i h=>absurd h (by simp)⟩
 | y::ys,g,h=>by
  obtain⟨e,f,B,j⟩:=ai.list (ai.mono (g':=fun k v=>g k v) (fun _ _ h=>h) (fun k v hk=>by simpa using hk) (h 0 (by simp)));obtain⟨vs,q,C,z⟩:=lF (ys:=ys) (g:=fun k v=>g (A.size+k) v) (fun i hi=>by
   have:=h (i+1) (by simp;omega);refine ai.mono (fun _ _ h=>h) (fun k v hk=>?_) this;rwa [Nat.succ_mul,Nat.add_comm (i*A.size) A.size,Nat.add_assoc]at hk)
  refine⟨e++vs,by simp[f,q,Nat.succ_mul];omega,fun k u hk=>?_,fun i hi=>?_⟩
  ·grind
  ·cases i with
   | zero=>exact ai.mono (fun _ _ h=>h) (fun k v hk=>by rw[Nat.zero_mul,Nat.zero_add,List.getElem?_append_left (List.getElem?_eq_some_iff.1 hk).1];exact hk) j
   | succ i =>
    refine ai.mono (fun _ _ h=>h) (fun k v hk=>?_) (z i (by simpa using hi));rw[List.getElem?_append_right (by rw[f,Nat.succ_mul];omega),f,←hk];congr 1;rw[Nat.succ_mul];omega
theorem oC{G:Addr→Value→Prop}{A:Ty}{e:List A.den}{f:QY}(hl:f.length=e.length*A.size)(h:∀i (h:i<e.length),ai G A e[i] (fun k v=>f[i*A.size+k]? = some v)):
  ∀u∈f,u.oneCell'=true:=fun u hu=>by
 obtain⟨k,hk,rfl⟩:=List.getElem_of_mem hu;have q:0<A.size:=by
  grind
 have hi:k / A.size<e.length:=by rw[Nat.div_lt_iff_lt_mul q];omega
 have B:=h _ hi;have C:ai G A e[k / A.size] (fun j v=>(f.drop (k / A.size*A.size))[j]? = some v):=ai.mono (fun _ _ h=>h) (fun j v D=>by rw[List.getElem?_drop];exact D) B;obtain⟨u,z,E⟩:=lK C (k % A.size) (Nat.mod_lt _ q);rw[List.getElem?_drop,Nat.mul_comm,Nat.div_add_mod,List.getElem?_eq_getElem hk]at z;cases z;exact E
def fp(h:Nat→Qz)(A:Ty):ag→Option (List A.den)
 | .sl id=>match h id with
  | some (.arr _ B j)=>if e:B=A then some (e ▸ j)else none
  | some (.fz B j)=>if e:B=A then some (e ▸ j)else none
  | _=>none
 | .p β (.slice B) j=>if e:B=A then(if B.refs && β then none else some (e ▸ j))else none
 | .nils=>some []
 | _=>none
section
variable{P:Program}{Bw:Nat→Prop}{w0:cE P}{ρ:Nat→QW}{φ:Nat→Nat→Prop}{h:Nat→Qz}{w:World}{new:Nat}
theorem iF(m:Mem Bw w0 ρ φ h w){A:Ty}{x:ag}{ys:List A.den}(hd:fp h A x=some ys){v:Value}(j:V (Fr (own φ h) Bw w) ρ x v):
  ∃ad len cap,v = .slice ad len cap∧len=ys.length∧(∀i (h':i<ys.length),∃b,ad=some b∧ai (Fr (own φ h) Bw w false) A ys[i] (fun k v=>w.cell? (b.add (i*A.size+k))=some v)) ∧
   (ad=none→v = .slice none 0 0∨ys.length=0):=by
 have data:∀(β:Bool) (B:Ty) (f:List B.den),(B.refs && β)=false→V (Fr (own φ h) Bw w) ρ (.p β (.slice B) f) v →
   ∃ad len cap,v = .slice ad len cap∧len=f.length∧(∀i (h':i<f.length),∃b,ad=some b∧ai (Fr (own φ h) Bw w false) B f[i] (fun k v=>w.cell? (b.add (i*B.size+k))=some v)) ∧
   (ad=none→v = .slice none 0 0∨f.length=0):=fun β B f hb j=>by
  simp only[V,ai]at j;obtain⟨_,ad,len,cap,e,⟨hl,_⟩,j⟩:=j;refine⟨ad,len,cap,e.symm,hl,fun i hi=>?_,fun O=>?_⟩
  ·obtain⟨b,z,D⟩:=j i hi;refine⟨b,z,?_⟩;have E:ai (Fr (own φ h) Bw w β) B f[i] (fun k v=>w.cell? (b.add (i*B.size+k))=some v):=ai.AK (fun k v J hk=>World.jK hk.2.2 J) D;cases β with
   | false=>exact E
   | true=>exact jW (by simpa using hb) E
  ·rcases Nat.eq_zero_or_pos f.length with q | q
   ·exact .inr q
   ·grind
 unfold fp at hd;split at hd
 ·rename_i id;split at hd
  ·rename_i X B f hi;split at hd
   ·rename_i e;subst e;have C:some f=some ys:=hd;cases C;obtain⟨u,z,L,hA,cells,I,M⟩:=m.ob id _ hi;simp only[V]at j;rw[j.1]at z;cases z;rcases I.2 with⟨rfl,hn⟩ | ⟨g,cap,N,rfl,r⟩
    ·simp_all
    ·refine⟨_,_,_,rfl,rfl,fun i hi=>⟨_,rfl,ai.mono (fun _ _ h=>h) (fun k v hk=>I.cells (g:=g) rfl _ _ hk) (M i hi)⟩,fun e=>by cases e⟩
   ·cases hd
  ·rename_i B f hi;split at hd
   ·rename_i e;subst e;have C:some f=some ys:=hd;cases C;obtain⟨u,z,D⟩:=m.ob id _ hi;simp only[V]at j;rw[j.1]at z;cases z;exact data false _ _ (by simp) D
   ·cases hd
  ·cases hd
 ·split at hd
  ·rename_i e;subst e;split at hd
   ·cases hd
   ·grind
  ·cases hd
 ·simp_all [V]
 ·cases hd
theorem nk{t ty e:TypeId}{i:TypeInfo}{z:Value}(ht:P.underlying t=some (.slice e))(hi:P.info? e=some i)(hz:i.zero=some z)
  (N:z.cells.size=i.size) (O:0<i.size) {v:Value} {n:Nat} {xs:QY} (A:w.ownsRow 0 e i.size v n xs)
  {ad:Addr} {len c:Nat} {news:QY} (hl:news.length=len*i.size) (f:∀j u,news[j]? = some u→w.cell? (ad.add j)=some u) (Y:∀u∈news,u.oneCell'=true)
  (E:n+len≤maxLen) (q:(n+len)*i.bytes≤140737488355328) :
  ∃I w',(Builtin.append_ #[t,t] ty #[v,.slice (some ad) len c]).run P w = .ok I w'∧w'.ownsRow 0 e i.size I (n+len) (xs++news)∧w.grownBy w' v.ownBlock ∧
   ∀k,I.ownBlock=some k→w.heap.size≤k∨v.ownBlock=some k:=by
 obtain⟨I,w',C,Z,h3,h4⟩:=run_append_own (P:=P) w 0 t ty e i z i.size i.bytes ht hi hz rfl rfl N O v n xs A ad len c news hl f Y E q (Nat.zero_le _);refine⟨I,w',C,Z,h3,fun k hk=>?_⟩;have M:n+len≤9223372036854775807:=by simp only[maxLen]at E;omega
 rcases A.2 with⟨rfl,rfl⟩ | ⟨g,cap,J,rfl,_,hg,a1,a2,V,X⟩
 ·by_cases hm:len=0
  ·rw[h4.2 ⟨rfl,hm⟩]at hk;cases hk
  ·have:=run_append_nil (P:=P) w t ty e i z ht hi hz ad len c news hl f (by omega) (by omega) (by rw[Nat.zero_add]at q;omega);rw[this]at C;cases C;simp only[Value.ownBlock,Option.some.injEq]at hk;exact .inl (by omega)
 ·by_cases B:n+len≤cap
  ·have L:n*i.size+news.length≤J.size:=by rw[hl,V,←Nat.add_mul];exact Nat.mul_le_mul_right _ B
   have:=run_append_room (P:=P) w t ty e i ht hi g n cap J hg ad len c news hl f Y B L;rw[this]at C;cases C;exact .inr hk
  ·have D:∀j u,xs[j]? = some u→w.cell? ((⟨g,0,none⟩:Addr).add j)=some u:=A.cells (g:=g) rfl;have:=run_append_grow (P:=P) w t ty e i z ht hi hz ⟨g,0,none⟩ n cap xs A.1 D ad len c news hl f (by omega) (by omega) (growslice_fits (by omega) q);rw[this]at C;cases C;simp only[Value.ownBlock,Option.some.injEq]at hk;exact .inl (by omega)
theorem da{v:Value}{a:Option Addr}{n c:Nat}(h:v = .slice a n c):dH v=v.ownBlock:=by
 subst h;cases a <;> rfl
theorem p9{G:Addr→Value→Prop}{A:Ty}{f ys:List A.den}{j B:QY}(hu:j.length=f.length*A.size)
  (C:∀i (h:i<f.length),ai G A f[i] (fun k v=>j[i*A.size+k]? = some v)) (D:∀i (h:i<ys.length),ai G A ys[i] (fun k v=>B[i*A.size+k]? = some v)) :
  ∀i (h:i<(f++ys).length),ai G A (f++ys)[i] (fun k v=>(j++B)[i*A.size+k]? = some v):=fun i hi=>by
 rcases Nat.lt_or_ge i f.length with q | q
 ·rw[List.getElem_append_left q];exact ai.mono (fun _ _ h=>h) (fun k v hk=>by rw[List.getElem?_append_left (List.getElem?_eq_some_iff.1 hk).1];exact hk) (C i q)
 ·rw[List.getElem_append_right q];have z:i - f.length<ys.length:=by simp at hi;omega
  refine ai.mono (fun _ _ h=>h) (fun k v hk=>?_) (D _ z);have e:i*A.size=f.length*A.size+(i - f.length)*A.size:=by rw[←Nat.add_mul];congr 1;omega
  rw[List.getElem?_append_right (by rw[hu];omega),hu,←hk];congr 1;omega
theorem vD(m:Mem Bw w0 ρ φ h w)(hn:ρ new=none){o:Oper}{a:Act}{t e:TypeId}{ti te:TI}(ht:aO P t ti)(hk:ti.k = .sl e)(Z:aO P e te){A:Ty}(hT:te.T=some A)(h0:0<A.size)
  {xo yo:Operand} {x y:ag} (hx:V (Fr (own φ h) Bw w) ρ x (a.eval xo)) (hy:V (Fr (own φ h) Bw w) ρ y (a.eval yo)) (ho:o.op = .call { callee:= .builtin .append,args:= #[xo,yo],argTypes:= #[t,t] })
  {xs j:List A.den} {i0:QJ} {u:iu}
  (a1:(x = .nils∧xs=[]∧i0=none∧u=[(new,some (.arr e A j))])∨(∃id,x = .sl id∧h id=some (.arr e A xs)∧i0=some id∧u=[(id,none),(new,some (.arr e A (xs++j)))]))
  (a8:fp h A y=some j) (hb:(xs.length+j.length)*te.bytes≤140737488355328) (b9:xs.length+j.length≤9223372036854775807) :
  Good P o a w (aG Bw w0 ρ φ h w new (.sl new) u):=by
 obtain⟨i,z,hi,hz,q,E,be,a9,bi⟩:=Z.hi;obtain⟨ac,bs,bv⟩:=Z.hT A hT;have hu:=aX ht hk;have B:i.size=A.size:=by rw[q,ac]
 obtain⟨cells,v,hv,f,L,ax⟩:∃cells v,a.eval xo=v∧w.ownsRow 0 e A.size v xs.length cells ∧
   (∀i (h':i<xs.length),ai (Fr (own φ h) Bw w false) A xs[i] (fun k v=>cells[i*A.size+k]? = some v)) ∧
   ∀k,v.ownBlock=some k→∃i o,i0=some i∧h i=some o∧o.live=true∧φ i k:=by
  rcases a1 with⟨rfl,rfl,rfl,_⟩ | ⟨id,rfl,a2,rfl,_⟩
  ·simp only[V]at hx;exact⟨[],_,hx,World.ownsRow_nil w 0 e _,fun i hi=>absurd hi (by simp),fun k hk=>by cases hk⟩
  ·simp only[V]at hx;obtain⟨u,q1,b1,_,cells,r1,r2⟩:=m.ob id _ a2;rw[hx.1]at q1;cases q1;obtain⟨_,aa,nn,cc,he⟩:=hx;exact⟨cells,_,rfl,r1,r2,fun k M=>⟨id,_,rfl,a2,rfl,b1 _ (by rw[da he];exact M)⟩⟩
 obtain⟨ad,len,cap,a3,C,b2,a4⟩:=iF m a8 hy;have a5:apply u h=bu (fun i=>if i0=some i then none else h i) new (some (.arr e A (xs++j))):=by
  rcases a1 with⟨_,rfl,rfl,rfl⟩ | ⟨id,_,_,rfl,rfl⟩
  ·rw[bp];rfl
  ·rw[su];rfl
 have N:∀I w' (news:QY),(Builtin.append_ #[t,t] o.type #[v,a.eval yo]).run P w = .ok I w'→w'.ownsRow 0 e A.size I (xs++j).length (cells++news)→w.grownBy w' v.ownBlock →
   (∀k,I.ownBlock=some k→w.heap.size≤k∨v.ownBlock=some k)→(∀i (h':i<j.length),ai (Fr (own φ h) Bw w false) A j[i] (fun k v=>news[i*A.size+k]? = some v)) →
   Good P o a w (aG Bw w0 ρ φ h w new (.sl new) u):=fun I w' news D h2 h3 h4 h5=>by
  have b3:∃aa nn cc,I = .slice aa nn cc:=by rcases h2.2 with⟨e,_⟩ | ⟨g,cap,b4,e,_⟩ <;> exact⟨_,_,_,e⟩
  refine Good.aH (v:=I) (w':=w') ?_ ?_
  ·simp only[execOp,ho,resolve,invoke,builtin,Sem.run_bind,Sem.run_pure,Result.andThen_ok,List.map_toArray,List.map_cons,List.map_nil,hv,D]
  ·obtain⟨aa,nn,cc,J⟩:=b3;refine cV m i0 new (.arr e A (xs++j)) I v.ownBlock h3 ax (.inl hn) (fun _ k M=>h4 k (by rw[←da J];exact M)) (fun F' b5 hF b6=>?_) a5 (fun _=>rfl) (fun F' b5 hF b6 a6=>?_)
   ·refine⟨fun _ h=>h,h0,cells++news,h2,fun i hi=>ai.mono (hF _) (fun _ _ h=>h) (p9 f.1 L h5 i hi)⟩
   ·simp only[V];exact⟨a6,_,_,_,J⟩
 by_cases O:ad=none
 ·have b7:j.length=0:=by
   grind
  have a7:j=[]:=List.eq_nil_of_length_eq_zero b7;rcases a4 O with e' | e'
  ·have D:=run_append_owned_none (P:=P) w 0 t o.type e i A.size hu hi v xs.length cells f;rw[←e']at D;refine N v w [] D (by rw[a7];simpa using f) ⟨rfl,rfl,rfl,Nat.le_refl _,fun _ _ _=>rfl⟩ (fun k hk=> .inr hk) (fun i hi=>absurd hi (by omega))
  ·subst O;have X:len=0:=by omega
   subst X;have D:(Builtin.append_ #[t,t] o.type #[v,.slice none 0 cap]).run P w = .ok v w:=by
    rcases f.2 with⟨rfl,_⟩ | ⟨g,cp,b4,rfl,_,_,b8,_⟩
    ·simp[Builtin.append_,run_underlying hu,sizeOf,typeInfo,hi,Builtin.lenOf,Builtin.firstCells]
    ·simp[Builtin.append_,run_underlying hu,sizeOf,typeInfo,hi,Builtin.lenOf,Builtin.firstCells,b8,storeCells]
   rw[←a3]at D;refine N v w [] D (by rw[a7];simpa using f) ⟨rfl,rfl,rfl,Nat.le_refl _,fun _ _ _=>rfl⟩ (fun k hk=> .inr hk) (fun i hi=>absurd hi (by omega))
 ·obtain⟨b,rfl⟩:=Option.ne_none_iff_exists'.1 O;obtain⟨news,q1,q2,q3⟩:=lF (g:=fun k v=>w.cell? (b.add k)=some v) (fun i hi=>by
   obtain⟨b',e1,e2⟩:=b2 i hi;cases e1;exact e2)
  have Y:w.ownsRow 0 e i.size v xs.length cells:=by rw[B];exact f
  obtain⟨I,w',D,h2,h3,h4⟩:=nk (P:=P) (t:=t) (ty:=o.type) hu hi hz (by rw[a9,q]) (by omega) Y (ad:=b) (len:=len) (c:=cap) (news:=news) (by rw[q1,C,B]) q2 (oC q1 q3)
   (by unfold maxLen;omega) (by rw[E,C];exact hb)
  rw[←a3]at D;refine N I w' news D ?_ h3 h4 q3;rw[B]at h2;rw[List.length_append,←C];exact h2
theorem wT(m:Mem Bw w0 ρ φ h w)(hn:ρ new=none){o:Oper}{a:Act}{t e:TypeId}{ti te:TI}(ht:aO P t ti)(hk:ti.k = .sl e)(Y:aO P e te){A:Ty}(hT:te.T=some A)(h0:0<A.size)
  {xo yo:Operand} {id:Nat} {y:ag} (hx:V (Fr (own φ h) Bw w) ρ (.sl id) (a.eval xo)) (hy:V (Fr (own φ h) Bw w) ρ y (a.eval yo)) (ho:o.op = .call { callee:= .builtin .append,args:= #[xo,yo],argTypes:= #[t,t] })
  {xs ys:List A.den} (a9:h id=some (.cutz A xs)) (aa:fp h A y=some ys) (Z:0<ys.length) (hb:(xs.length+ys.length)*te.bytes≤140737488355328) (I:xs.length+ys.length≤9223372036854775807) :
  Good P o a w (aG Bw w0 ρ φ h w new (.sl new) [(new,some (.arr e A (xs++ys)))]):=by
 obtain⟨i,z,hi,hz,D,q,be,ac,bi⟩:=Y.hi;obtain⟨a1,bs,bv⟩:=Y.hT A hT;have hu:=aX ht hk;have B:i.size=A.size:=by rw[D,a1]
 obtain⟨u,q1,⟨ax,q2⟩,q3⟩:=m.ob id _ a9;simp only[V]at hx;have J:a.eval xo=u:=by have:=hx.1;rw[q1]at this;cases this;rfl
 obtain⟨ad,len,cap,L,a2,a3,_⟩:=iF m aa hy;obtain⟨b,b1,_⟩:=a3 0 Z;subst b1;obtain⟨C,M,n2,n3⟩:=lF (g:=fun k v=>w.cell? (b.add k)=some v) (fun i hi=>by
  obtain⟨b',e1,e2⟩:=a3 i hi;cases e1;exact e2)
 obtain⟨c3,b8,b9,N,b2,a4,_⟩:=iF (h:=h) m (A:=A) (x:= .p false (.slice A) xs) (ys:=xs) (by simp[fp]) q3;rw[q2]at N;simp only[Value.slice.injEq]at N;obtain⟨rfl,rfl,rfl⟩:=N;have c4:A.size=i.size:=B.symm;have O:∀(f:QY) (X:Nat),f.length=xs.length*A.size→(∀j (E:j<xs.length),ai (Fr (own φ h) Bw w false) A xs[j] (fun k v=>f[j*A.size+k]? = some v))→xs.length+ys.length≤X→X≤maxLen →
   (Builtin.append_ #[t,t] o.type #[a.eval xo,a.eval yo]).run P w = .ok (.slice (some ⟨w.heap.size,0,none⟩) (xs.length+ys.length) X) (w.drew.alloc (.cells (f.toArray++C.toArray++Builtin.zeroCells z.cells (X - (xs.length+ys.length))) e)) →
   Good P o a w (aG Bw w0 ρ φ h w new (.sl new) [(new,some (.arr e A (xs++ys)))]):=fun f X o1 o2 c1 c2 hr=>by
  obtain⟨m',hF⟩:=m.drew;refine Good.aH (v:=_) (w':=_) (by simp only[execOp,ho,resolve,invoke,builtin,Sem.run_bind,Sem.run_pure,Result.andThen_ok,List.map_toArray,List.map_cons,List.map_nil,hr];rfl) ?_;refine aG.after (u1:=[]) rfl hF ?_;refine cV m' none new (.arr e A (xs++ys)) (.slice (some ⟨w.heap.size,0,none⟩) (xs.length+ys.length) X) none (World.grownBy_alloc w.drew _ none) (fun k e=>by cases e) (.inl hn) (fun _ k b3=>?_) (fun F' b4 a5 b5=>?_) (by rw[bp];rfl) (fun _=>rfl) (fun F' b4 a5 b5 a6=>?_)
  ·simp only[dH,Option.some.injEq]at b3;left
   show w.heap.size≤k;omega
  ·refine⟨fun _ h=>h,h0,f++C,⟨by simp[o1,M,Nat.add_mul],.inr ⟨w.heap.size,X,_,by simp,Nat.zero_le _,heap_alloc_new w.drew _,by simpa using c1,c2,?_,?_⟩⟩,fun j E=>ai.mono (fun a v hh=>a5 _ _ _ (hF _ _ _ hh)) (fun _ _ h=>h) (p9 o1 o2 n3 j E)⟩
   ·simp only[Array.size_append,List.size_toArray,size_zeroCells,o1,M,ac,D,a1];rw[←Nat.add_mul,←Nat.add_mul,Nat.add_sub_cancel' c1]
   ·simp only[Array.toList_append,List.length_append];rw[List.take_append_of_le_length (by simp[o1,M,Nat.add_mul]),List.take_of_length_le (by simp[o1,M,Nat.add_mul])]
  ·simp only[V];exact⟨a6,_,_,_,rfl⟩
 have a7:grownCap w (xs.length+ys.length) xs.length e≤maxLen:=grownCap_le_maxLen w _ _ e (by unfold maxLen;omega);have a8:=grownCap_ge w (xs.length+ys.length) xs.length e;subst a2;rcases Nat.eq_zero_or_pos xs.length with e0 | e0
 ·-- of nothing
  have b6:xs=[]:=List.eq_nil_of_length_eq_zero e0;subst b6;cases ax with
  | none =>
   have:=run_append_nil (P:=P) w t o.type e i z hu hi hz b ys.length cap C (by rw[M,B]) n2 Z (by simp at I;omega) (by rw[q];simp at hb;omega);refine O [] (grownCap w ys.length 0 e) (by simp) (fun j E=>absurd E (by simp)) (by simpa using grownCap_ge w ys.length 0 e) (grownCap_le_maxLen w _ _ e (by unfold maxLen;simp at I;omega)) ?_;rw[J,q2,L];simp only[List.length_nil,Nat.zero_add]at this ⊢;rw[this];simp
  | some bx =>
   have:=run_append_grow (P:=P) w t o.type e i z hu hi hz bx 0 0 [] (by simp) (fun j v E=>by simp at E) b ys.length cap C (by rw[M,B]) n2 (by omega) (by simp at I;omega) (growslice_fits (by omega) (by rw[q];simpa using hb));refine O [] _ (by simp) (fun j E=>absurd E (by simp)) a8 a7 ?_;rw[J,q2,L];exact this
 ·obtain⟨bx,b7,_⟩:=a4 0 e0;subst b7;obtain⟨f,o1,o2,o3⟩:=lF (g:=fun k v=>w.cell? (bx.add k)=some v) (fun i hi=>by
   obtain⟨b',e1,e2⟩:=a4 i hi;cases e1;exact e2)
  have:=run_append_grow (P:=P) w t o.type e i z hu hi hz bx xs.length xs.length f (by rw[o1,B]) o2 b ys.length cap C (by rw[M,B]) n2 (by omega) (by omega) (growslice_fits (by omega) (by rw[q];exact hb));refine O f _ o1 o3 a8 a7 ?_;rw[J,q2,L];exact this
end
end Go.Tv
